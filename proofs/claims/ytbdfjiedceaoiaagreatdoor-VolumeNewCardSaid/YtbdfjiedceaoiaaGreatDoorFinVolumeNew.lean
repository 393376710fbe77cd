/- The statement VolumeNew, as its tied card: for every input the call of stavelaw12's VolumeNew answers true, and its arguments read behind it as they read before. No condition of our own. -/
/- Texts of one proof, joined: WVolumeNew, LawVolumeNew. -/
import Derived.Test.YtbdfjiedceaoiaaGreatDoorQW
import Derived.Test.YtbdfjiedceaoiaaGreatDoorQX
import Derived.Test.YtbdfjiedceaoiaaGreatDoorQV
import Derived.Test.YtbdfjiedceaoiaaGreatDoorQT
import Derived.Test.YtbdfjiedceaoiaaGreatDoorQZ
import Derived.Test.YtbdfjiedceaoiaaGreatDoorQBB
import Derived.Test.YtbdfjiedceaoiaaGreatDoorQJ
import Derived.Test.YtbdfjiedceaoiaaGreatDoorQAC
import Derived.Test.YtbdfjiedceaoiaaGreatDoorCards
import Derived.Test.YtbdfjiedceaoiaaGreatDoorTie
import Derived.Test.YtbdfjiedceaoiaaGreatDoorQC
import Derived.WalkKit
import Derived.ProofKit
import Derived.OpenShut
import Derived.ShutString
import Derived.ChangeOld
import Derived.Below
import Derived.SevenTiedAt
set_option linter.unusedVariables false
set_option linter.unusedSimpArgs false
namespace Go.Proofs.YtbdfjiedceaoiaaGreatDoor
set_option linter.unusedVariables false
open Go Go.RowKit
theorem Cfg.eqB_id {c d : Cfg} (h : (c.id == d.id) = false) : c.eqB d = false := by unfold Cfg.eqB; rw [h]; rfl
set_option maxRecDepth 100000 in
set_option maxHeartbeats 2500000 in
theorem volumeNew_c (k n fuse a0 : Int) (ia : Option Addr) (len cap : Nat) (z : List Int) (w : World) (hg : EtLaid w) (hl : IsRow .u64 w ia len cap z) :
  Calls Tryz.prog 3 #[.int .i64 k, .int .i64 n, .int .i64 fuse, .int .i64 a0, .slice ia len cap] w fun e w' => e = .returned (.bool true) ∧ Ext w w' := by
 have HBT := hid hl.bits
 have HBL := hid hl.low
 generalize (z.take len).map Int.toNat = bits at *
 clear hl
 have HG := hid hg
 have hzc := Zcj
 have HCS := hid Cfg.A_size
 clear hg
 go_enter Tryz.func3, Tryz.ntmps3
 go_wp2_with fail
 refine (kfixed_c k n 3 2 _).mono ?_
 rintro e w1 ⟨rfl, x1⟩
 have HGD := hid (show (keepFixed k n 3 2).Good from keepFixed_good k n 3 2 (by omega) (by omega) (by omega) (by omega))
 have HK4 := hid (keepFixed_k4 k n 3 2)
 have HN6 := hid (keepFixed_n6 k n 3 2)
 have HST := hid (show (keepFixed k n 3 2).stripes = 3 from rfl)
 have HSL := hid (show (keepFixed k n 3 2).slots = 2 from rfl)
 have HID := hid (show (keepFixed k n 3 2).id = 7 from rfl)
 generalize keepFixed k n 3 2 = c at *
 obtain ⟨W1, hW1⟩ : ∃ W, w1.alloc (.cells (Cfg.A c) 24) = W := ⟨_, rfl⟩
 have X1 := hid (show Ext w W1 from hW1 ▸ x1.alloc _)
 have HC := hid (show W1.heap[w1.heap.size]? = some (.cells (Cfg.A c) 24 (0, 0)) from hW1 ▸ heap_alloc_new _ _)
 have hbs : (w1.alloc (.cells (Cfg.A Cfg.zero) 24)).heap[w1.heap.size]? = some (.cells (Cfg.A Cfg.zero) 24 (0, 0)) := Zad
 clear x1
 have HW1 := hid hW1
 clear hW1
 obtain ⟨m, hm, m1, m128⟩ := sectors_nat c HGD.out
 obtain ⟨nn, hn⟩ : ∃ nn : Nat, c.n = nn := ⟨c.n.toNat, by have := HGD.out.k0; have := HGD.out.k1; omega⟩
 obtain ⟨kk, hk⟩ : ∃ kk : Nat, c.k = kk := ⟨c.k.toNat, by have := HGD.out.k0; omega⟩
 have HNT := hid (show c.n.toNat = nn by omega)
 have HKT := hid (show c.k.toNat = kk by omega)
 have n1 : 1 ≤ nn := by have := HGD.out.k0; have := HGD.out.k1; omega
 have n8 : nn ≤ 6 := by have := HN6.out; omega
 have k1 : 1 ≤ kk := by have := HGD.out.k0; omega
 have k4 : kk ≤ 4 := by have := HK4.out; omega
 have HKN := hid (show kk ≤ nn by have := HGD.out.k1; omega)
 have HM := hid hm; have HN := hid hn; have HK := hid hk
 obtain ⟨R1, R2, e1, e2, h2, v2⟩ := VH.start HGD.out HK4.out HN6.out (m := m) (by rw [HM.out]; exact Int.le_refl _)
 rw [HNT.out] at e1
 have HV2 := hid h2; have HVV2 := hid v2
 have HE1 := hid e1; have HE2 := hid e2
 clear hm hn hk e1 e2 h2 v2
 go_wp2_with (first
  | (guard_target = wpList _ _ _ (⟨none, Op.store _ _ _, _, _, _, none⟩ :: _) _ _; have hb0 := hbs; clear hbs; refine Zaa rfl 24 _ _ rfl w1.heap.size rfl (Cfg.A c) _ rfl 24 ?_ hb0 ?_ ?_ ?_; (rw [HCS.out]; exact aggCfg); (rw [HCS.out, HCS.out]); exact Cfg.A_one _; rw [Zai, HW1.out])
  | (guard_target = wpList _ _ _ (⟨some _, Op.load _ _, _, _, _, none⟩ :: _) _ _; refine Zac rfl 24 _ rfl ⟨w1.heap.size, 0, none⟩ rfl (Cfg.A c) (Zat c) (Zah HC.out) ?_))
 have HLT := hid (lt_of_block HC.out)
 generalize w1.heap.size = gc at *
 refine (opened_c c HGD.out nn m HN.out HM.out m1 m128 HE1.out HE2.out W1).mono ?_
 rintro e w2 ⟨r, g, T, ho⟩
 obtain rfl := ho.ret
 have HX2 := hid (show VX w w2 T r R2 gc c g ⟨c, 1, false⟩ from ⟨⟨ho.ve.rack, Ext.trans X1.out ho.ve.ext, fun b hb => ho.ve.low b (Nat.lt_of_lt_of_le hb X1.out.size)⟩, ho.ve.ext.at HC.out, ho.ve.low gc HLT.out, ho.vol, ho.gT, Nat.le_trans X1.out.size ho.new, fun q => by have := ho.new; have := HLT.out; omega⟩)
 clear ho HE1 HE2 HC X1 HLT
 obtain ⟨la, hla⟩ : ∃ l, blocksOf kk a0 = l := ⟨_, rfl⟩
 have La8 := hid (hla ▸ blocksOf_108 kk a0)
 have LaB := hid (hla ▸ blocksOf_bytes kk a0)
 have LaN := hid (show la.length ≤ 8 by rw [← hla, Zcd]; omega)
 have La0 := hid (show la ≠ [] from hla ▸ (by intro q; have := congrArg List.length q; rw [Zcd] at this; simp at this; omega))
 have LaF := hid (show Cd.Blocks c.k.toNat 108 la by rw [HKT.out, ← hla]; exact blocksOf_Blocks kk a0)
 have HLa := hid hla
 clear hla
 obtain ⟨lb, hlb⟩ : ∃ l, blocksOf kk (wrap64 (a0 + 1)) = l := ⟨_, rfl⟩
 have Lb8 := hid (hlb ▸ blocksOf_108 kk (wrap64 (a0 + 1)))
 have LbB := hid (hlb ▸ blocksOf_bytes kk (wrap64 (a0 + 1)))
 have LbN := hid (show lb.length ≤ 8 by rw [← hlb, Zcd]; omega)
 have Lb0 := hid (show lb ≠ [] from hlb ▸ (by intro q; have := congrArg List.length q; rw [Zcd] at this; simp at this; omega))
 have LbF := hid (show Cd.Blocks c.k.toNat 108 lb by rw [HKT.out, ← hlb]; exact blocksOf_Blocks kk (wrap64 (a0 + 1)))
 have HLb := hid hlb
 clear hlb
 obtain ⟨s1, R3, hcm, h3, v3⟩ := HV2.out.commit_on (VI.new HGD.out) HM.out.symm HK4.out HN6.out (by decide) (s := 1) (by rw [HST.out]; decide) LaF.out
 rw [show (1 : Int) + 1 = 2 by omega] at hcm v3 h3
 have HCM := hid (show Vol.commit ⟨c, 1, false⟩ R2 1 la = (none, R3, ⟨c, 2, false⟩) from hcm)
 obtain ⟨s2, R4, hcm2, h4, v4⟩ := h3.commit_on v3 HM.out.symm HK4.out HN6.out (by decide) (s := 2) (by rw [HST.out]; decide) LbF.out
 rw [show (2 : Int) + 1 = 3 by omega] at hcm2 v4 h4
 have HCM2 := hid (show Vol.commit ⟨c, 2, false⟩ R3 2 lb = (none, R4, ⟨c, 3, false⟩) from hcm2)
 have HF4 := hid (show updS (updS (VH.fNew c) 1 (2, la)) 2 (3, lb) 1 = some (2, la) from by rw [Za8 _ _ (by decide)]; exact Zbj _ _ _)
 have HV4 := hid h4; have HVI4 := hid v4
 generalize updS (updS (VH.fNew c) 1 (2, la)) 2 (3, lb) = f4 at *
 generalize upd (upd (VH.jNew c) s1 _) s2 _ = j4 at *
 clear hcm h3 v3 hcm2 h4 v4 HV2 HVV2
 have ck : w2.cell? ⟨gc, 1, none⟩ = some (.int .i64 kk) := HX2.out.c1.trans (by rw [HK.out])
 go_wp2_with fail
 refine (kblocks_c kk (by omega) a0 w2).mono ?_
 rintro e w3 ⟨v, rfl, hown, x3⟩
 rw [HLa.out] at hown
 obtain ⟨a3, c3, rfl, hbk, hab⟩ := kblocks_at La8.out hown
 obtain ⟨S3, hS⟩ : ∃ S', wideS T w2 w3 = S' := ⟨_, rfl⟩
 have HX3 := hid (hS ▸ HX2.out.wide x3)
 have HSS3 := hid (show ∀ b, T b → S3 b from fun b hb => hS ▸ .inl hb)
 have HE3 := hid x3
 have HB3 := hid hbk
 have HP3 := hid (show ∀ b, a3 = some ⟨b, 0, none⟩ → S3 b ∧ b ≠ g ∧ w.heap.size ≤ b from fun b q => ⟨hS ▸ HX2.out.ve.blk x3 hbk La0.out hab b q, by have := hab b q; have := lt_of_block HX2.out.vol; omega, Nat.le_trans HX2.out.ext.size (hab b q)⟩)
 clear hown x3 hbk hab hS ck
 go_wp2_with fail
 refine (vcommit_c HX3.out.rack HX3.out.vol HX3.out.gS (show (0 : Int) ≤ 1 by omega) 1 la La8.out LaB.out a3 c3 HB3.out (fun b q => ⟨(HP3.out b q).1, (HP3.out b q).2.1⟩)).mono ?_
 rintro e w4 h4
 rw [HCM.out] at h4
 obtain rfl := h4.ret
 have HX4 := hid (show VX w w4 S3 r R3 gc c g ⟨c, 2, false⟩ from HX3.out.commit h4)
 simp only [oErr]
 clear h4 HX3 HB3 HP3 HSS3 HE3 HX2 HCM
 have ck : w4.cell? ⟨gc, 1, none⟩ = some (.int .i64 kk) := HX4.out.c1.trans (by rw [HK.out])
 go_wp2_with fail
 refine (kblocks_c kk (by omega) (wrap64 (a0 + 1)) w4).mono ?_
 rintro e w5 ⟨v, rfl, hown, x3⟩
 rw [HLb.out] at hown
 obtain ⟨a5, c5, rfl, hbk, hab⟩ := kblocks_at Lb8.out hown
 obtain ⟨S5, hS⟩ : ∃ S', wideS S3 w4 w5 = S' := ⟨_, rfl⟩
 have HX5 := hid (hS ▸ HX4.out.wide x3)
 have HSS5 := hid (show ∀ b, S3 b → S5 b from fun b hb => hS ▸ .inl hb)
 have HE5 := hid x3
 have HB5 := hid hbk
 have HP5 := hid (show ∀ b, a5 = some ⟨b, 0, none⟩ → S5 b ∧ b ≠ g ∧ w.heap.size ≤ b from fun b q => ⟨hS ▸ HX4.out.ve.blk x3 hbk Lb0.out hab b q, by have := hab b q; have := lt_of_block HX4.out.vol; omega, Nat.le_trans HX4.out.ext.size (hab b q)⟩)
 clear hown x3 hbk hab hS ck
 have hzq : ∀ X : World, X.heap.size = X.heap.size := fun _ => rfl
 go_wp2_with fail
 refine (vcommit_c HX5.out.rack HX5.out.vol HX5.out.gS (show (0 : Int) ≤ 2 by omega) 2 lb Lb8.out LbB.out a5 c5 HB5.out (fun b q => ⟨(HP5.out b q).1, (HP5.out b q).2.1⟩)).mono ?_
 rintro e w6 h6
 rw [HCM2.out] at h6
 obtain rfl := h6.ret
 have HX6 := hid (show VX w w6 S5 r R4 gc c g ⟨c, 3, false⟩ from HX5.out.commit h6)
 simp only [oErr]
 clear h6 HX5 HB5 HP5 HSS5 HE5 HX4 HCM2 hzq
 obtain ⟨W7, hW7⟩ : ∃ W, w6.alloc (.cells (Cfg.A c) 24) = W := ⟨_, rfl⟩
 have hbs : (w6.alloc (.cells (Cfg.A Cfg.zero) 24)).heap[w6.heap.size]? = some (.cells (Cfg.A Cfg.zero) 24 (0, 0)) := Zad
 have xa : Ext w6 W7 := hW7 ▸ (Ext.refl w6).alloc _
 have HD7 := hid (show W7.heap[w6.heap.size]? = some (.cells (Cfg.A c) 24 (0, 0)) from hW7 ▸ heap_alloc_new _ _)
 obtain ⟨S7, hS7⟩ : ∃ S', wideS S5 w6 W7 = S' := ⟨_, rfl⟩
 have HX7 := hid (hS7 ▸ HX6.out.wide xa)
 have HSD := hid (show S7 w6.heap.size from hS7 ▸ .inr ⟨Nat.le_refl _, lt_of_block HD7.out⟩)
 have HNE := hid (show w.heap.size ≤ w6.heap.size ∧ w6.heap.size ≠ gc ∧ w6.heap.size ≠ g from ⟨HX6.out.ext.size, by have := lt_of_block HX6.out.cfg; omega, by have := lt_of_block HX6.out.vol; omega⟩)
 have HW7 := hid hW7
 have c0 : W7.cell? ⟨w6.heap.size, 0, none⟩ = some (.int .i64 c.id) := (Zaf HD7.out).trans (Cfg.A0 c)
 have f0 : W7.frozen? ⟨w6.heap.size, 0, none⟩ = false := Za2 HD7.out
 clear xa hS7 hW7
 go_wp2_with (first
  | (guard_target = wpList _ _ _ (⟨none, Op.store _ _ _, _, _, _, none⟩ :: _) _ _; have hb0 := hbs; clear hbs; refine Zaa rfl 24 _ _ rfl w6.heap.size rfl (Cfg.A c) _ rfl 24 ?_ hb0 ?_ ?_ ?_; (rw [HCS.out]; exact aggCfg); (rw [HCS.out, HCS.out]); exact Cfg.A_one _; rw [Zai, HW7.out])
  | (guard_target = wpList _ _ _ (⟨some _, Op.load _ _, _, _, _, none⟩ :: _) _ _; refine Zac rfl 24 _ rfl ⟨gc, 0, none⟩ rfl (Cfg.A c) (Zat c) (Zah HX6.out.cfg) ?_))
 refine (Zb8 fuse 0 200 _ (by omega) (by omega) (by omega)).mono ?_
 rintro e _ ⟨rfl, rfl⟩
 obtain ⟨u0, u1⟩ := Zbe fuse 0 200 (by omega)
 generalize within fuse 0 200 = FU at *
 obtain ⟨d, hd⟩ : ∃ d : Cfg, (⟨8, c.k, c.n, c.stripes, c.slots⟩ : Cfg) = d := ⟨_, rfl⟩
 have HDG := hid (show d.Good from hd ▸ ⟨by show (1 : Int) ≤ 8; omega, by show (8 : Int) ≤ 2147483647; omega, HGD.out.n1, HGD.out.k0, HGD.out.k1, HGD.out.st0, HGD.out.st1, HGD.out.sl0, HGD.out.sl1⟩)
 have HDI := hid (show d.id = 8 from hd ▸ rfl)
 have HDK := hid (show d.k = c.k from hd ▸ rfl)
 have HDN := hid (show d.n = c.n from hd ▸ rfl)
 have HDT := hid (show d.stripes = c.stripes from hd ▸ rfl)
 have HDS := hid (show d.sectors = c.sectors from hd ▸ rfl)
 have HEQ := hid (fun w' => cfg_eql d d w')
 have HNQ := hid (fun w' => cfg_eql d c w')
 have HEC := hid (fun w' => cfg_eql c c w')
 rw [Cfg.eqB_self] at HEQ HEC
 rw [Cfg.eqB_id (c := d) (d := c) (by rw [HDI.out, HID.out]; rfl)] at HNQ
 have HD8 := hid (show CBlkAt (W7.setCell ⟨w6.heap.size, 0, none⟩ (.int .i64 8)) w6.heap.size d from by
  have h1 := Zax HD7.out (i := 0) (.int .i64 8)
  rw [Cfg.A_id] at h1
  rw [← hd]; exact h1)
 have HX8 := hid (HX7.out.poke (F := fun b => b = w6.heap.size) (Zbn W7 w6.heap.size 0 (.int .i64 8)) fun b hb => by rw [hb]; exact ⟨HSD.out, HNE.out.1, HNE.out.2.1, HNE.out.2.2⟩)
 obtain ⟨o, R5, hmk, h5, hcase⟩ := HV4.out.make_cut HVI4.out HM.out.symm HK4.out HN6.out (by decide) HDG.out HDN.out HDS.out (by rw [HDK.out]; exact HK4.out) FU bits
 have HMK := hid hmk; have H5 := hid h5; have HCA := hid hcase
 generalize W7.setCell ⟨w6.heap.size, 0, none⟩ (.int .i64 8) = W8 at *
 generalize w6.heap.size = gd at *
 clear hd hmk h5 hcase c0 f0 HX7 HX6 HD7 HW7 HV4
 go_wp2_with fail
 refine (at_arm HX8.out.rack FU (by omega)).mono ?_
 rintro e w9 ⟨rfl, h9, k9⟩
 have HX9 := hid (HX8.out.keep h9 k9)
 have HD9 := hid (show CBlkAt w9 gd d from k9.at HD8.out fun q => q HSD.out)
 clear h9 k9 HX8 HD8
 go_wp2_with (guard_target = wpList _ _ _ (⟨some _, Op.load _ _, _, _, _, none⟩ :: _) _ _; refine Zac rfl 24 _ rfl ⟨gd, 0, none⟩ rfl (Cfg.A d) (Zat d) (Zah HD9.out) ?_)
 refine (vmake_c HX9.out.rack d).mono ?_
 rintro e w10 ⟨rfl, h10, k10⟩
 rw [HMK.out] at h10 ⊢
 have HX10 := hid (show VX w w10 S7 r R5 gc c g ⟨c, 3, false⟩ from HX9.out.keep h10 k10)
 have HD10 := hid (show CBlkAt w10 gd d from k10.at HD9.out fun q => q HSD.out)
 clear h10 k10 HX9 HD9 HMK
 have HBB : Hid (BitsAt w10 ia len bits) := hid (HBT.out.only HX10.out.ext (fun _ _ _ x => x))
 have HBS := hid (show ∀ p, ia = some p → 0 < len → S7 p.block from fun p e q => HX10.out.ve.low _ (HBL.out p e q))
 rcases HCA.out with ⟨hne, er2, R', hop, hbad⟩ | ⟨hne, R', cur, hop, hrd⟩ | ⟨R', hop, hrd⟩
 ·
  rcases o with _ | er
  ·
   exact absurd rfl hne
  have HK5 := hid (H5.out er rfl)
  have HOP := hid hop; have HBD := hid hbad
  obtain ⟨et, ev, hev⟩ := er.iface
  have HEV := hid hev
  simp only [oErr]
  rw [hev]
  clear hop hbad hne hev HCA H5
  go_wp2_with fail
  refine (at_boot HX10.out.rack ia len cap bits HBB.out HBS.out).mono ?_
  rintro e w11 ⟨rfl, h11, k11⟩
  have HX11 := hid (HX10.out.keep h11 k11)
  have HD11 := hid (show CBlkAt w11 gd d from k11.at HD10.out fun q => q HSD.out)
  clear h11 k11 HX10 HD10 HBB
  go_wp2_with fail
  refine (vopen_c HX11.out.rack).mono ?_
  rintro e w12 h12
  rw [HOP.out] at h12
  rcases h12 with ⟨er3, q, hb⟩ | ⟨q, _⟩
  case inr => cases q
  cases q
  obtain rfl := hb.ret
  have HX12 := hid (HX11.out.keep hb.rack hb.keep)
  obtain ⟨et2, ev2, hev2⟩ := er2.iface
  have HEV2 := hid hev2
  simp only [oErr]
  rw [hev2]
  clear hb HX11 HD11 HOP hev2
  go_wp2_with fail
  refine Calls.mono (by rw [← HEV.out]; exact kind_err er _ (HG.out.only HX12.out.ext (fun x => x))) ?_
  rintro e w13 ⟨rfl, x13⟩
  rw [HK5.out]
  have HX13 := hid (Ext.trans HX12.out.ext x13)
  clear x13 HX12
  go_wp2_with fail
  refine Calls.mono (by rw [← HEV2.out]; exact kind_err er2 _ (HG.out.only HX13.out (fun x => x))) ?_
  rintro e w14 ⟨rfl, x14⟩
  have HX14 := hid (Ext.trans HX13.out x14)
  clear x14 HX13
  rcases HBD.out with hk | hk
  ·
   rw [hk.1]
   clear hk
   go_wp2_with fail
   refine (volumeRuns_c w14 (HG.out.only HX14.out (fun x => x))).mono ?_
   rintro e w20 ⟨rfl, x20⟩
   have HX20 := hid (Ext.trans HX14.out x20)
   clear x20
   go_wp2
   go_ret
   exact ⟨rfl, HX20.out⟩
  ·
   have HKX := hid hk.1
   rw [hk.1]
   clear hk
   go_wp2_with fail
   refine Calls.mono (by rw [← HEV2.out]; exact kind_err er2 _ (HG.out.only HX14.out (fun x => x))) ?_
   rintro e w15 ⟨rfl, x15⟩
   have HX15 := hid (Ext.trans HX14.out x15)
   clear x15 HX14
   rw [(HBD.out.resolve_left (fun q => by have := HKX.out; omega)).1]
   go_wp2_with fail
   refine (volumeRuns_c w15 (HG.out.only HX15.out (fun x => x))).mono ?_
   rintro e w20 ⟨rfl, x20⟩
   have HX20 := hid (Ext.trans HX15.out x20)
   clear x20
   go_wp2
   go_ret
   exact ⟨rfl, HX20.out⟩
 ·
  rcases o with _ | er
  ·
   exact absurd rfl hne
  obtain ⟨y, hy, _, hsg⟩ := hrd 1 (by rw [HST.out]; decide)
  rw [HF4.out] at hy
  cases hy
  have HOP := hid hop
  have HRD := hid (Vol.read_of hsg cur)
  obtain ⟨et, ev, hev⟩ := er.iface
  simp only [oErr]
  rw [hev]
  clear hop hrd hne hev HCA H5 hsg
  go_wp2_with fail
  refine (at_boot HX10.out.rack ia len cap bits HBB.out HBS.out).mono ?_
  rintro e w11 ⟨rfl, h11, k11⟩
  have HX11 := hid (HX10.out.keep h11 k11)
  have HD11 := hid (show CBlkAt w11 gd d from k11.at HD10.out fun q => q HSD.out)
  clear h11 k11 HX10 HD10 HBB
  go_wp2_with fail
  refine (vopen_c HX11.out.rack).mono ?_
  rintro e w12 h12
  rw [HOP.out] at h12
  rcases h12 with ⟨_, q, _⟩ | ⟨_, g12, T12, hok⟩
  ·
   cases q
  obtain rfl := hok.ret
  have HX12 := hid (show VX w w12 T12 r R' gc c g12 ⟨c, cur, false⟩ from HX11.out.opened hok)
  have HD12 := hid (show CBlkAt w12 gd d from hok.keep.at HD11.out fun q => q HSD.out)
  clear hok HX11 HD11 HOP
  go_wp2_with fail
  have xd : Ext w12 w12.drew := (Ext.refl w12).drew
  have HXD := hid xd
  have cf : Hid (∀ y : SW Ext w12.drew, Calls Tryz.prog 19 #[.pointer (some ⟨g12, 0, none⟩)] y.w fun e w'' => e = .returned (.agg (Cfg.A c)) ∧ Ext y.w w'') := hid fun y => vconfig_c (HX12.out.more (Ext.trans HXD.out y.ext)).vol
  have lc : Hid (∀ y : SW Ext w12.drew, ∀ j v, (Cfg.A c).toList[j]? = some v → y.w.cell? ((⟨gc, 0, none⟩ : Addr).add j) = some v) := hid fun y => Zah (HX12.out.more (Ext.trans HXD.out y.ext)).cfg
  clear xd
  refine Zao (S := Ext) (.fin [0, 1, 2, 3]) (by kernel_rfl) (by kernel_rfl) (fun _ _ d _ _ h => by cases d <;> exact h) ?_
  rw [wpS]
  simp only [opsAt, opA, opB, opC, opD, opE, opF, opG]
  (refine Zab (fun K hK => ?_); go_simp; refine hK _ ?_; clear hK K)
  (refine Zab (fun K hK => ?_); go_simp; (apply Exists.intro; refine ⟨fun x => ?_, hK _ ?_⟩; (exact cf.out x); clear hK K))
  refine Zak 24 _ rfl ⟨gc, 0, none⟩ rfl (Cfg.A c) rfl (Zat c) lc.out ?_
  refine wpSQ_eql .eql 24 _ _ _ rfl (Cfg.A c) (Cfg.A c) rfl rfl (.bool true) rfl (fun w => cfg_guard _ _ _ _ _ w) HEC.out ?_
  refine Zag ?_
  intro V13 hV13
  have HX13 := hid (HX12.out.more (Ext.trans HXD.out hV13))
  have HD13 := hid (show CBlkAt V13 gd d from Ext.at (Ext.trans HXD.out hV13) HD12.out)
  clear hV13 cf lc HX12 HD12 HXD
  go_wp2_with fail
  refine (vread_c HX13.out.rack HX13.out.vol 1).mono ?_
  rintro e w14 ⟨v, rfl, hown, x14⟩
  rw [show Vol.read ⟨c, cur, false⟩ R' 1 = (la, 2, none) from HRD.out] at hown ⊢
  simp only at hown ⊢
  obtain ⟨a14, c14, rfl, hbk, _⟩ := kblocks_at La8.out hown
  have HX14 := hid (HX13.out.more x14)
  have HB14 := hid hbk
  simp only [oErr]
  clear hown x14 hbk HX13 HD13 HRD
  have ck : w14.cell? ⟨gc, 1, none⟩ = some (.int .i64 kk) := HX14.out.c1.trans (by rw [HK.out])
  go_wp2_with fail
  refine (kblocks_c kk (by omega) a0 w14).mono ?_
  rintro e w15 ⟨v, rfl, hown, x15⟩
  rw [HLa.out] at hown
  obtain ⟨a15, c15, rfl, hbk, _⟩ := kblocks_at La8.out hown
  have HX15 := hid (Ext.trans HX14.out.ext x15)
  have HB15 := hid (HB14.out.ext x15)
  have HC15 := hid hbk
  clear hown x15 hbk HX14 HB14 ck
  go_wp2_with fail
  refine (sameblk_c la La8.out LaN.out a14 a15 c14 c15 _ HB15.out HC15.out).mono ?_
  rintro e w16 ⟨rfl, x16⟩
  have HX16 := hid (Ext.trans HX15.out x16)
  clear x16 HX15 HB15 HC15
  go_wp2_with fail
  refine (volumeRuns_c w16 (HG.out.only HX16.out (fun x => x))).mono ?_
  rintro e w20 ⟨rfl, x20⟩
  have HX20 := hid (Ext.trans HX16.out x20)
  clear x20
  go_wp2
  go_ret
  exact ⟨rfl, HX20.out⟩
 ·
  have HRD := hid (show ∀ t : Nat, t < d.stripes.toNat → R'.sget d (t : Int) = (zblks kk, 1, none) from fun t ht => by rw [← HKT.out, ← HDK.out]; exact hrd t ht)
  have HOP := hid hop
  obtain ⟨lz, hlz⟩ : ∃ l, zblks kk = l := ⟨_, rfl⟩
  have LZ := hid hlz
  have LZ8 := hid (show ∀ b ∈ lz, b.length = 108 from fun b hb => by
   rw [← hlz] at hb
   rw [List.eq_of_mem_replicate hb, List.length_replicate])
  have LZL := hid (show lz.length = kk from by rw [← hlz]; unfold zblks; rw [List.length_replicate])
  have LZN := hid (show lz.length ≤ 8 by have := LZL.out; omega)
  rw [hlz] at HRD
  obtain ⟨CB, hcb, hc0⟩ := make_blocks kk (by omega)
  clear hop hrd hlz
  clear HCA H5
  rcases o with _ | er
  case none =>
   simp only [oErr]
   go_wp2_with fail
   refine (at_boot HX10.out.rack ia len cap bits HBB.out HBS.out).mono ?_
   rintro e w11 ⟨rfl, h11, k11⟩
   have HX11 := hid (HX10.out.keep h11 k11)
   have HD11 := hid (show CBlkAt w11 gd d from k11.at HD10.out fun q => q HSD.out)
   clear h11 k11 HX10 HD10 HBB
   go_wp2_with fail
   refine (vopen_c HX11.out.rack).mono ?_
   rintro e w12 h12
   rw [HOP.out] at h12
   rcases h12 with ⟨_, q, _⟩ | ⟨_, g12, T12, hok⟩
   ·
    cases q
   obtain rfl := hok.ret
   have HX12 := hid (show VX w w12 T12 r R' gc c g12 ⟨d, 1, false⟩ from HX11.out.opened hok)
   have HD12 := hid (show CBlkAt w12 gd d from hok.keep.at HD11.out fun q => q HSD.out)
   clear hok HX11 HD11 HOP
   go_wp2_with fail
   have xd : Ext w12 w12.drew := (Ext.refl w12).drew
   have HXD := hid xd
   have cf : Hid (∀ y : SW Ext w12.drew, Calls Tryz.prog 19 #[.pointer (some ⟨g12, 0, none⟩)] y.w fun e w'' => e = .returned (.agg (Cfg.A d)) ∧ Ext y.w w'') := hid fun y => vconfig_c (HX12.out.more (Ext.trans HXD.out y.ext)).vol
   have lc : Hid (∀ y : SW Ext w12.drew, ∀ j v, (Cfg.A c).toList[j]? = some v → y.w.cell? ((⟨gc, 0, none⟩ : Addr).add j) = some v) := hid fun y => Zah (HX12.out.more (Ext.trans HXD.out y.ext)).cfg
   clear xd
   refine Zao (S := Ext) (.fin [0, 1, 2, 3]) (by kernel_rfl) (by kernel_rfl) (fun _ _ d _ _ h => by cases d <;> exact h) ?_
   rw [wpS]
   simp only [opsAt, opA, opB, opC, opD, opE, opF, opG]
   (refine Zab (fun K hK => ?_); go_simp; refine hK _ ?_; clear hK K)
   (refine Zab (fun K hK => ?_); go_simp; (apply Exists.intro; refine ⟨fun x => ?_, hK _ ?_⟩; (exact cf.out x); clear hK K))
   refine Zak 24 _ rfl ⟨gc, 0, none⟩ rfl (Cfg.A c) rfl (Zat c) lc.out ?_
   refine wpSQ_eql .eql 24 _ _ _ rfl (Cfg.A d) (Cfg.A c) rfl rfl (.bool false) rfl (fun w => cfg_guard _ _ _ _ _ w) HNQ.out ?_
   refine Zag ?_
   intro V13 hV13
   have HX13 := hid (HX12.out.more (Ext.trans HXD.out hV13))
   have HD13 := hid (show CBlkAt V13 gd d from Ext.at (Ext.trans HXD.out hV13) HD12.out)
   clear hV13 cf lc HX12 HD12 HXD
   go_wp2_with fail
   go_loopw [22] (fun t wd => ∃ s : Nat, t = .int .i64 s ∧ s ≤ 3 ∧ Ext V13 wd) (fun t _ => 3 - (intOf t).toNat)
   case atStart => exact ⟨0, rfl, by omega, Ext.refl _⟩
   case round =>
    obtain ⟨s, rfl, hs, hx⟩ := hrel
    have HXV := hid hx
    have HXX := hid (HX13.out.more hx)
    clear hx
    by_cases hs3 : s < 3
    ·
     have s1 : (s : Int) < 3 := by omega
     have HR := hid (Vol.read_of (HRD.out s (by rw [HDT.out, HST.out]; exact hs3)) 1)
     go_wp2_with fail
     refine (vread_c HXX.out.rack HXX.out.vol s).mono ?_
     rintro e w14 ⟨v, rfl, hown, x14⟩
     rw [show Vol.read ⟨d, 1, false⟩ R' s = (lz, 1, none) from HR.out] at hown ⊢
     simp only at hown ⊢
     obtain ⟨a14, c14, rfl, hbk, _⟩ := kblocks_at LZ8.out hown
     rw [LZL.out]
     have HX14 := hid (HXX.out.more x14)
     have HV14 := hid (Ext.trans HXV.out x14)
     have ck : w14.cell? ⟨gc, 1, none⟩ = some (.int .i64 kk) := HX14.out.c1.trans (by rw [HK.out])
     have hmb := hcb w14
     have xb : Ext w14 (w14.alloc (.cells CB 49)) := (Ext.refl w14).alloc _
     have HB14 := hid (hbk.ext xb)
     have HZ14 := hid (show BlksAt (w14.alloc (.cells CB 49)) (some ⟨w14.heap.size, 0, none⟩) lz from fun i b hb => by
      have hb2 := hb
      rw [← LZ.out] at hb2
      unfold zblks at hb2
      have hi : i < kk := by
       have := (List.getElem?_eq_some_iff.1 hb2).1
       simpa using this
      rw [List.getElem?_replicate, if_pos hi] at hb2
      cases hb2
      refine ⟨_, rfl, fun j hj => ?_⟩
      rw [Zaf Zad, hc0 (i * 108 + j) (by have := Nat.mul_le_mul_right 108 (show i + 1 ≤ kk by omega); omega), nth_replicate, if_pos hj]; rfl)
     have HV15 := hid (Ext.trans HV14.out xb)
     have SB := hid (sameblk_c lz LZ8.out LZN.out a14 (some ⟨w14.heap.size, 0, none⟩) c14 kk _ HB14.out HZ14.out)
     rw [LZL.out] at SB
     simp only [oErr]
     clear hown x14 hbk HXX HR xb HXV HX14 HV14
     go_wp2_with fail
     refine SB.out.mono ?_
     rintro e w16 ⟨rfl, x16⟩
     have HX16 := hid (Ext.trans HV15.out x16)
     clear x16 SB HB14 HZ14 HV15 ck hmb
     go_wp2_with fail
     go_roundw
     case rel => exact ⟨s + 1, by go_num, by omega, HX16.out⟩
     case measure => simp [intOf]; omega
    ·
     have s1 : ¬ (s : Int) < 3 := by omega
     obtain ⟨W15, hW15⟩ : ∃ W, W = wr := ⟨_, rfl⟩
     subst hW15
     have HDX := hid (show CBlkAt W15 gd d from Ext.at HXV.out HD13.out)
     go_wp2_with fail
     have xd : Ext W15 W15.drew := (Ext.refl W15).drew
     have HXD := hid xd
     have cf : Hid (∀ y : SW Ext W15.drew, Calls Tryz.prog 19 #[.pointer (some ⟨g12, 0, none⟩)] y.w fun e w'' => e = .returned (.agg (Cfg.A d)) ∧ Ext y.w w'') := hid fun y => vconfig_c (HXX.out.more (Ext.trans HXD.out y.ext)).vol
     have lc : Hid (∀ y : SW Ext W15.drew, ∀ j v, (Cfg.A d).toList[j]? = some v → y.w.cell? ((⟨gd, 0, none⟩ : Addr).add j) = some v) := hid fun y => Zah (Ext.at (Ext.trans HXD.out y.ext) HDX.out)
     have sq : Hid (∀ y : SW Ext W15.drew, Calls Tryz.prog 22 #[.pointer (some ⟨g12, 0, none⟩)] y.w fun e w'' => e = .returned (.int .i64 1) ∧ Ext y.w w'') := hid fun y => (vseq_c (HXX.out.more (Ext.trans HXD.out y.ext)).vol).mono fun e w'' q => ⟨q.1, q.2 ▸ Ext.refl _⟩
     have vr : Hid (∀ y : SW Ext W15.drew, Calls Tryz.prog 18 #[] y.w fun e w'' => e = .returned (.bool true) ∧ Ext y.w w'') := hid fun y => volumeRuns_c y.w (HG.out.only (HXX.out.more (Ext.trans HXD.out y.ext)).ext (fun x => x))
     have HE15 := hid (HXX.out.ext)
     clear xd
     refine Zao (S := Ext) (.fin [0, 1, 2, 3, 4, 5, 6, 7, 8, 9, 10, 11, 12]) (by kernel_rfl) (by kernel_rfl) (fun _ _ d _ _ h => by cases d <;> exact h) ?_
     rw [wpS]
     simp only [opsAt, opA, opB, opC, opD, opE, opF, opG]
     (refine Zab (fun K hK => ?_); go_simp; refine hK _ ?_; clear hK K)
     (refine Zab (fun K hK => ?_); go_simp; (apply Exists.intro; refine ⟨fun x => ?_, hK _ ?_⟩; (exact cf.out x); clear hK K))
     refine Zak 24 _ rfl ⟨gd, 0, none⟩ rfl (Cfg.A d) rfl (Zat d) lc.out ?_
     refine wpSQ_eql .eql 24 _ _ _ rfl (Cfg.A d) (Cfg.A d) rfl rfl (.bool true) rfl (fun w => cfg_guard _ _ _ _ _ w) HEQ.out ?_
     iterate 2 ((refine Zab (fun K hK => ?_); go_simp; refine hK _ ?_; clear hK K))
     (refine Zab (fun K hK => ?_); go_simp; (apply Exists.intro; refine ⟨fun x => ?_, hK _ ?_⟩; (exact sq.out x); clear hK K))
     iterate 3 ((refine Zab (fun K hK => ?_); go_simp; refine hK _ ?_; clear hK K))
     (refine Zab (fun K hK => ?_); go_simp; (apply Exists.intro; refine ⟨fun x => ?_, hK _ ?_⟩; (exact vr.out x); clear hK K))
     iterate 2 ((refine Zab (fun K hK => ?_); go_simp; refine hK _ ?_; clear hK K))
     refine Zag ?_
     intro V16 hV16
     have HX17 := hid (Ext.trans HE15.out (Ext.trans HXD.out hV16))
     clear hV16
     go_wp2
     go_ret
     exact ⟨rfl, HX17.out⟩
  case some =>
   obtain ⟨et, ev, hev⟩ := er.iface
   simp only [oErr]
   rw [hev]
   clear hev
   go_wp2_with fail
   refine (at_boot HX10.out.rack ia len cap bits HBB.out HBS.out).mono ?_
   rintro e w11 ⟨rfl, h11, k11⟩
   have HX11 := hid (HX10.out.keep h11 k11)
   have HD11 := hid (show CBlkAt w11 gd d from k11.at HD10.out fun q => q HSD.out)
   clear h11 k11 HX10 HD10 HBB
   go_wp2_with fail
   refine (vopen_c HX11.out.rack).mono ?_
   rintro e w12 h12
   rw [HOP.out] at h12
   rcases h12 with ⟨_, q, _⟩ | ⟨_, g12, T12, hok⟩
   ·
    cases q
   obtain rfl := hok.ret
   have HX12 := hid (show VX w w12 T12 r R' gc c g12 ⟨d, 1, false⟩ from HX11.out.opened hok)
   have HD12 := hid (show CBlkAt w12 gd d from hok.keep.at HD11.out fun q => q HSD.out)
   clear hok HX11 HD11 HOP
   go_wp2_with fail
   have xd : Ext w12 w12.drew := (Ext.refl w12).drew
   have HXD := hid xd
   have cf : Hid (∀ y : SW Ext w12.drew, Calls Tryz.prog 19 #[.pointer (some ⟨g12, 0, none⟩)] y.w fun e w'' => e = .returned (.agg (Cfg.A d)) ∧ Ext y.w w'') := hid fun y => vconfig_c (HX12.out.more (Ext.trans HXD.out y.ext)).vol
   have lc : Hid (∀ y : SW Ext w12.drew, ∀ j v, (Cfg.A c).toList[j]? = some v → y.w.cell? ((⟨gc, 0, none⟩ : Addr).add j) = some v) := hid fun y => Zah (HX12.out.more (Ext.trans HXD.out y.ext)).cfg
   clear xd
   refine Zao (S := Ext) (.fin [0, 1, 2, 3]) (by kernel_rfl) (by kernel_rfl) (fun _ _ d _ _ h => by cases d <;> exact h) ?_
   rw [wpS]
   simp only [opsAt, opA, opB, opC, opD, opE, opF, opG]
   (refine Zab (fun K hK => ?_); go_simp; refine hK _ ?_; clear hK K)
   (refine Zab (fun K hK => ?_); go_simp; (apply Exists.intro; refine ⟨fun x => ?_, hK _ ?_⟩; (exact cf.out x); clear hK K))
   refine Zak 24 _ rfl ⟨gc, 0, none⟩ rfl (Cfg.A c) rfl (Zat c) lc.out ?_
   refine wpSQ_eql .eql 24 _ _ _ rfl (Cfg.A d) (Cfg.A c) rfl rfl (.bool false) rfl (fun w => cfg_guard _ _ _ _ _ w) HNQ.out ?_
   refine Zag ?_
   intro V13 hV13
   have HX13 := hid (HX12.out.more (Ext.trans HXD.out hV13))
   have HD13 := hid (show CBlkAt V13 gd d from Ext.at (Ext.trans HXD.out hV13) HD12.out)
   clear hV13 cf lc HX12 HD12 HXD
   go_wp2_with fail
   go_loopw [22] (fun t wd => ∃ s : Nat, t = .int .i64 s ∧ s ≤ 3 ∧ Ext V13 wd) (fun t _ => 3 - (intOf t).toNat)
   case atStart => exact ⟨0, rfl, by omega, Ext.refl _⟩
   case round =>
    obtain ⟨s, rfl, hs, hx⟩ := hrel
    have HXV := hid hx
    have HXX := hid (HX13.out.more hx)
    clear hx
    by_cases hs3 : s < 3
    ·
     have s1 : (s : Int) < 3 := by omega
     have HR := hid (Vol.read_of (HRD.out s (by rw [HDT.out, HST.out]; exact hs3)) 1)
     go_wp2_with fail
     refine (vread_c HXX.out.rack HXX.out.vol s).mono ?_
     rintro e w14 ⟨v, rfl, hown, x14⟩
     rw [show Vol.read ⟨d, 1, false⟩ R' s = (lz, 1, none) from HR.out] at hown ⊢
     simp only at hown ⊢
     obtain ⟨a14, c14, rfl, hbk, _⟩ := kblocks_at LZ8.out hown
     rw [LZL.out]
     have HX14 := hid (HXX.out.more x14)
     have HV14 := hid (Ext.trans HXV.out x14)
     have ck : w14.cell? ⟨gc, 1, none⟩ = some (.int .i64 kk) := HX14.out.c1.trans (by rw [HK.out])
     have hmb := hcb w14
     have xb : Ext w14 (w14.alloc (.cells CB 49)) := (Ext.refl w14).alloc _
     have HB14 := hid (hbk.ext xb)
     have HZ14 := hid (show BlksAt (w14.alloc (.cells CB 49)) (some ⟨w14.heap.size, 0, none⟩) lz from fun i b hb => by
      have hb2 := hb
      rw [← LZ.out] at hb2
      unfold zblks at hb2
      have hi : i < kk := by
       have := (List.getElem?_eq_some_iff.1 hb2).1
       simpa using this
      rw [List.getElem?_replicate, if_pos hi] at hb2
      cases hb2
      refine ⟨_, rfl, fun j hj => ?_⟩
      rw [Zaf Zad, hc0 (i * 108 + j) (by have := Nat.mul_le_mul_right 108 (show i + 1 ≤ kk by omega); omega), nth_replicate, if_pos hj]; rfl)
     have HV15 := hid (Ext.trans HV14.out xb)
     have SB := hid (sameblk_c lz LZ8.out LZN.out a14 (some ⟨w14.heap.size, 0, none⟩) c14 kk _ HB14.out HZ14.out)
     rw [LZL.out] at SB
     simp only [oErr]
     clear hown x14 hbk HXX HR xb HXV HX14 HV14
     go_wp2_with fail
     refine SB.out.mono ?_
     rintro e w16 ⟨rfl, x16⟩
     have HX16 := hid (Ext.trans HV15.out x16)
     clear x16 SB HB14 HZ14 HV15 ck hmb
     go_wp2_with fail
     go_roundw
     case rel => exact ⟨s + 1, by go_num, by omega, HX16.out⟩
     case measure => simp [intOf]; omega
    ·
     have s1 : ¬ (s : Int) < 3 := by omega
     obtain ⟨W15, hW15⟩ : ∃ W, W = wr := ⟨_, rfl⟩
     subst hW15
     have HDX := hid (show CBlkAt W15 gd d from Ext.at HXV.out HD13.out)
     go_wp2_with fail
     have xd : Ext W15 W15.drew := (Ext.refl W15).drew
     have HXD := hid xd
     have cf : Hid (∀ y : SW Ext W15.drew, Calls Tryz.prog 19 #[.pointer (some ⟨g12, 0, none⟩)] y.w fun e w'' => e = .returned (.agg (Cfg.A d)) ∧ Ext y.w w'') := hid fun y => vconfig_c (HXX.out.more (Ext.trans HXD.out y.ext)).vol
     have lc : Hid (∀ y : SW Ext W15.drew, ∀ j v, (Cfg.A d).toList[j]? = some v → y.w.cell? ((⟨gd, 0, none⟩ : Addr).add j) = some v) := hid fun y => Zah (Ext.at (Ext.trans HXD.out y.ext) HDX.out)
     have sq : Hid (∀ y : SW Ext W15.drew, Calls Tryz.prog 22 #[.pointer (some ⟨g12, 0, none⟩)] y.w fun e w'' => e = .returned (.int .i64 1) ∧ Ext y.w w'') := hid fun y => (vseq_c (HXX.out.more (Ext.trans HXD.out y.ext)).vol).mono fun e w'' q => ⟨q.1, q.2 ▸ Ext.refl _⟩
     have vr : Hid (∀ y : SW Ext W15.drew, Calls Tryz.prog 18 #[] y.w fun e w'' => e = .returned (.bool true) ∧ Ext y.w w'') := hid fun y => volumeRuns_c y.w (HG.out.only (HXX.out.more (Ext.trans HXD.out y.ext)).ext (fun x => x))
     have HE15 := hid (HXX.out.ext)
     clear xd
     refine Zao (S := Ext) (.fin [0, 1, 2, 3, 4, 5, 6, 7, 8, 9, 10, 11, 12]) (by kernel_rfl) (by kernel_rfl) (fun _ _ d _ _ h => by cases d <;> exact h) ?_
     rw [wpS]
     simp only [opsAt, opA, opB, opC, opD, opE, opF, opG]
     (refine Zab (fun K hK => ?_); go_simp; refine hK _ ?_; clear hK K)
     (refine Zab (fun K hK => ?_); go_simp; (apply Exists.intro; refine ⟨fun x => ?_, hK _ ?_⟩; (exact cf.out x); clear hK K))
     refine Zak 24 _ rfl ⟨gd, 0, none⟩ rfl (Cfg.A d) rfl (Zat d) lc.out ?_
     refine wpSQ_eql .eql 24 _ _ _ rfl (Cfg.A d) (Cfg.A d) rfl rfl (.bool true) rfl (fun w => cfg_guard _ _ _ _ _ w) HEQ.out ?_
     iterate 2 ((refine Zab (fun K hK => ?_); go_simp; refine hK _ ?_; clear hK K))
     (refine Zab (fun K hK => ?_); go_simp; (apply Exists.intro; refine ⟨fun x => ?_, hK _ ?_⟩; (exact sq.out x); clear hK K))
     iterate 3 ((refine Zab (fun K hK => ?_); go_simp; refine hK _ ?_; clear hK K))
     (refine Zab (fun K hK => ?_); go_simp; (apply Exists.intro; refine ⟨fun x => ?_, hK _ ?_⟩; (exact vr.out x); clear hK K))
     iterate 2 ((refine Zab (fun K hK => ?_); go_simp; refine hK _ ?_; clear hK K))
     refine Zag ?_
     intro V16 hV16
     have HX17 := hid (Ext.trans HE15.out (Ext.trans HXD.out hV16))
     clear hV16
     go_wp2
     go_ret
     exact ⟨rfl, HX17.out⟩
end Go.Proofs.YtbdfjiedceaoiaaGreatDoor
namespace Go.Proofs.YtbdfjiedceaoiaaGreatDoor.volumeNew
open Go.ChangeShapes Go.WideShapes Go.ChangeAt Go.RowKit
open Go.ChangeMaps (open_string shut_string)
set_option linter.unusedVariables false
theorem laidOut : laidOutB Tryz.prog = true := by kernel_rfl
theorem walk (a0 : Int) (a1 : Int) (a2 : Int) (a3 : Int) (a4 : Option Addr) (len4 cap4 : Nat) (z4 : List Int) (w : World) (hg : EtLaid w) (w0 : (Lit.int .i64 a0).wf = true) (w1 : (Lit.int .i64 a1).wf = true) (w2 : (Lit.int .i64 a2).wf = true) (w3 : (Lit.int .i64 a3).wf = true) (w4 : IsRow .u64 w a4 len4 cap4 z4) :
  Calls Tryz.prog 3 #[.int .i64 a0, .int .i64 a1, .int .i64 a2, .int .i64 a3, .slice a4 len4 cap4] w fun e w' => e = .returned (.bool true) ∧ Below w.heap.size w w' :=
 (volumeNew_c a0 a1 a2 a3 a4 len4 cap4 z4 w hg w4).mono fun _ _ ⟨he, hx⟩ => ⟨he, hx.below⟩
set_option maxRecDepth 100000 in
theorem lifted (os : Os) (started : os.Started) (H : Type) (enc : TypeId × Value → H) :
  ReturnsInHanded {} Tryz.checked os 3 .any (fun w args => (Rows.volumeNewSpec.pre enc Tryz.prog Tryz.f3 [] false w args ∧ laidMetH Tryz.prog theLaid w) ∧ sizedMet enc Tryz.prog Tryz.f3 (OpenSpec.ofChange Rows.volumeNewSpec) false w args)
   (Rows.volumeNewSpec.post enc Tryz.prog Tryz.f3 false true false false) := by
 refine returnsInHanded_of_change_and (C := Tryz.checked) (X := fun w _ => laidMetH Tryz.prog theLaid w) (fun _ _ _ hh h => h.of_heap hh) hOwn started (by kernel_rfl) Tryz.func3
  (ChangeSpec.witness_at (enc := enc) (C := Tryz.checked) (os := os) (X := fun w _ => laidMetH Tryz.prog theLaid w) false (laidWorld os) #[.int .i64 0, .int .i64 0, .int .i64 0, .int .i64 0, .slice none 0 0] 8 rfl (by kernel_rfl) (by kernel_rfl) (by kernel_rfl) (by kernel_rfl) (by kernel_rfl) (laidWorld_met os _)) ?_
 intro W base args ds gs before hval0 hW _ _ hL _
 have hval : ∀ (j : Nat) t v, Tryz.f3.params[j]? = some t → args[j]? = some v → Value.okWide Tryz.prog W .any base t v := hval0
 have hW' := hW
 obtain ⟨p, q, hA0, hV, rfl, hfz, hnd⟩ := hW
 have hA : DataW.TrodAll enc Tryz.prog W 0 (fun _ => true) true Tryz.f3.params.toList args.toList ds p := hA0
 rw [Tryz.params3] at hA hval
 obtain ⟨v0, vs0, d0, ds0, p0, q0, hargs, rfl, rfl, h0, r0⟩ := trodAll_cons hA
 obtain ⟨v1, vs1, d1, ds1, p1, q1, rfl, rfl, rfl, h1, r1⟩ := trodAll_cons r0
 obtain ⟨v2, vs2, d2, ds2, p2, q2, rfl, rfl, rfl, h2, r2⟩ := trodAll_cons r1
 obtain ⟨v3, vs3, d3, ds3, p3, q3, rfl, rfl, rfl, h3, r3⟩ := trodAll_cons r2
 obtain ⟨v4, vs4, d4, ds4, p4, q4, rfl, rfl, rfl, h4, r4⟩ := trodAll_cons r3
 obtain ⟨rfl, rfl, rfl⟩ := trodAll_nil r4
 obtain rfl : args = #[v0, v1, v2, v3, v4] := by cases args; simp_all
 obtain ⟨rfl, rfl⟩ := trodVars_none hV
 obtain ⟨a0, rfl, rfl, rfl, w0⟩ := open_int Tryz.underlying3 (hval 0 3 v0 rfl rfl) h0
 obtain ⟨a1, rfl, rfl, rfl, w1⟩ := open_int Tryz.underlying3 (hval 1 3 v1 rfl rfl) h1
 obtain ⟨a2, rfl, rfl, rfl, w2⟩ := open_int Tryz.underlying3 (hval 2 3 v2 rfl rfl) h2
 obtain ⟨a3, rfl, rfl, rfl, w3⟩ := open_int Tryz.underlying3 (hval 3 3 v3 rfl rfl) h3
 obtain ⟨a4, len4, cap4, rfl⟩ := okWide_slice Tryz.underlying22 (hval 4 22 v4 rfl rfl)
 have k4 := h4
 have lt4 : ∀ x ∈ p4, x.block < W.heap.size := by obtain ⟨m, hm⟩ := k4; exact DataW.trod_lt m _ _ _ hm
 obtain ⟨z4, w4⟩ : ∃ zs, IsRow .u64 W a4 len4 cap4 zs := by
  obtain ⟨fuel, hf⟩ := h4
  rcases open_ints Tryz.underlying22 Tryz.underlying95 (by kernel_rfl) hf with ⟨hcs, _⟩ | ⟨x, l, c, zs, hcs, _, hl, hm, hz, _, hcell, hwz⟩
  ·
   simp [Value.cells] at hcs
   obtain ⟨rfl, rfl, rfl⟩ := hcs
   exact ⟨[], .inl ⟨rfl, rfl, rfl, rfl⟩⟩
  ·
   simp [Value.cells] at hcs
   obtain ⟨rfl, rfl, rfl⟩ := hcs
   exact ⟨zs, .inr ⟨_, rfl, hl, hm, by simpa using hz, hcell, hwz⟩⟩
 have hg := etLaid_of hL
 clear hA0 hval0
 simp only [List.append_nil] at hW'
 refine (walk a0 a1 a2 a3 a4 len4 cap4 z4 W hg w0 w1 w2 w3 w4).mono fun e W' ⟨he, bel⟩ => ?_
 subst he
 exact ⟨_, rfl, _, _, _, [], _, [], hW', trodAll_mk1 (shut_bool Tryz.underlying4 _), (trodAll_cons_mk (shut_int Tryz.underlying3 w0) (trodAll_cons_mk (shut_int Tryz.underlying3 w1) (trodAll_cons_mk (shut_int Tryz.underlying3 w2) (trodAll_cons_mk (shut_int Tryz.underlying3 w3) (trodAll_cons_mk (Below.trod laidOut (by kernel_rfl) (of_decide_eq_true (by kernel_rfl)) k4 bel lt4) trodAll_mk0))))), rfl, bel.frame _, fun h => by cases h⟩
theorem over : Rows.VolumeNewSaid :=
 OpenClaim.holds_of_wide 3 Tryz.f3 rfl rfl rfl rfl rfl rfl rfl ⟨rfl, rfl, rfl, rfl, rfl⟩ rfl rfl rfl rfl rfl (by kernel_rfl) Tryz.func3 (by kernel_rfl)
  (of_decide_eq_true (by kernel_rfl)) (by unfold Func.isWrapper; first | (rw [if_pos (by decide +kernel)]; kernel_rfl) | (rw [if_neg (by decide +kernel)]; exact ⟨rfl, rfl⟩))
  (fun os started H enc _ => lifted os started H enc)
theorem proved : Rows.VolumeNewCardSaid :=
 Claim7.holds_tied_plain_at .later [] [.handle] true (true, "5099e9f95494a7ac1d1e9109868c047233c143c307eafd73ed71b9c5778ce599") true
  over (fun _ h => by cases h) (by kernel_rfl) (fun _ h => by cases h) volumeNew_row_tie rfl ⟨rfl, rfl⟩ (by kernel_rfl) rfl
  (fun f fn hf hfn => by
   obtain rfl : f = 3 := Option.some.inj ((show Tryz.prog.funcNamed "stave/stavelaw12.VolumeNew" = some 3 by kernel_rfl).symm.trans hf) |>.symm
   obtain rfl : fn = Tryz.f3 := (Option.some.inj (Tryz.func3.symm.trans hfn)).symm
   exact ⟨by kernel_rfl, fun j t ht => by
    rw [Tryz.params3] at ht
    rcases j with _ | _ | _ | _ | _ | j
    ·
     simp at ht; subst ht; kernel_rfl
    ·
     simp at ht; subst ht; kernel_rfl
    ·
     simp at ht; subst ht; kernel_rfl
    ·
     simp at ht; subst ht; kernel_rfl
    ·
     simp at ht; subst ht; kernel_rfl
    ·
     simp at ht⟩)
  (by kernel_rfl)
#print axioms proved
end Go.Proofs.YtbdfjiedceaoiaaGreatDoor.volumeNew
