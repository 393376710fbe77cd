/- The statement VolumeReplays, as its tied card: for every input the call of stavelaw12's VolumeReplays answers true, and its arguments read behind it as they read before. No condition of our own. -/
/- Texts of one proof, joined: WVolumeReplays, LawVolumeReplays. -/
import Derived.Test.YthopnbklmlopkaaGreatDoorQW
import Derived.Test.YthopnbklmlopkaaGreatDoorQX
import Derived.Test.YthopnbklmlopkaaGreatDoorQZ
import Derived.Test.YthopnbklmlopkaaGreatDoorQJ
import Derived.Test.YthopnbklmlopkaaGreatDoorCards
import Derived.Test.YthopnbklmlopkaaGreatDoorTie
import Derived.Test.YthopnbklmlopkaaGreatDoorQC
import Derived.WalkKit
import Derived.ProofKit
import Derived.OpenShut
import Derived.ShutString
import Derived.ChangeOld
import Derived.Below
import Derived.SevenTiedAt
import Derived.Test.YthopnbklmlopkaaGreatDoorQLW
set_option linter.unusedVariables false
set_option linter.unusedSimpArgs false
namespace Go.Proofs.YthopnbklmlopkaaGreatDoor
set_option linter.unusedVariables false
open Go Go.RowKit
set_option maxRecDepth 100000 in
set_option maxHeartbeats 4000000 in
theorem volumeReplays_c (k n slots a0 b0 fuse : Int) (ia : Option Addr) (len cap : Nat) (z : List Int) (w : World) (hg : EtLaid w) (hl : IsRow .u64 w ia len cap z) :
  Calls Tryz.prog 6 #[.int .i64 k, .int .i64 n, .int .i64 slots, .int .i64 a0, .int .i64 b0, .int .i64 fuse, .slice ia len cap] w fun e w' => e = .returned (.bool true) ∧ Ext w w' := by
 have HBT := hid hl.bits
 have HBL := hid hl.low
 generalize (z.take len).map Int.toNat = bits at *
 clear hl
 have HG := hid hg
 have hzc := Zcs
 have HCS := hid Cfg.A_size
 clear hg
 go_enter Tryz.func6, Tryz.ntmps6
 go_wp2_with fail
 refine (Zb7 slots 1 3 _ (by omega) (by omega) (by omega)).mono ?_
 rintro e _ ⟨rfl, rfl⟩
 obtain ⟨sl0, sl1⟩ := Zbc slots 1 3 (by omega)
 generalize within slots 1 3 = sl at *
 go_wp2_with fail
 refine (kfixed_c k n 2 sl _).mono ?_
 rintro e w1 ⟨rfl, x1⟩
 have HGD := hid (show (keepFixed k n 2 sl).Good from keepFixed_good k n 2 sl (by omega) (by omega) (by omega) (by omega))
 have HK4 := hid (keepFixed_k4 k n 2 sl)
 have HN6 := hid (keepFixed_n6 k n 2 sl)
 have HST := hid (show (keepFixed k n 2 sl).stripes = 2 from rfl)
 have HSL := hid (show (keepFixed k n 2 sl).slots = sl from rfl)
 generalize keepFixed k n 2 sl = c at *
 obtain ⟨W1, hW1⟩ : ∃ W, w1.alloc (.cells (Cfg.A c) 23) = W := ⟨_, rfl⟩
 have X1 := hid (show Ext w W1 from hW1 ▸ x1.alloc _)
 have HC := hid (show W1.heap[w1.heap.size]? = some (.cells (Cfg.A c) 23 (0, 0)) from hW1 ▸ heap_alloc_new _ _)
 have hbs : (w1.alloc (.cells (Cfg.A Cfg.zero) 23)).heap[w1.heap.size]? = some (.cells (Cfg.A Cfg.zero) 23 (0, 0)) := Zad
 clear x1
 have HW1 := hid hW1
 clear hW1
 obtain ⟨m, hm, m1, m128⟩ := sectors_nat c HGD.out
 obtain ⟨nn, hn⟩ : ∃ nn : Nat, c.n = nn := ⟨c.n.toNat, by have := HGD.out.k0; have := HGD.out.k1; omega⟩
 obtain ⟨kk, hk⟩ : ∃ kk : Nat, c.k = kk := ⟨c.k.toNat, by have := HGD.out.k0; omega⟩
 have HNT := hid (show c.n.toNat = nn by omega)
 have HKT := hid (show c.k.toNat = kk by omega)
 have n1 : 1 ≤ nn := by have := HGD.out.k0; have := HGD.out.k1; omega
 have n8 : nn ≤ 6 := by have := HN6.out; omega
 have k1 : 1 ≤ kk := by have := HGD.out.k0; omega
 have k4 : kk ≤ 4 := by have := HK4.out; omega
 have HKN := hid (show kk ≤ nn by have := HGD.out.k1; omega)
 have HM := hid hm; have HN := hid hn; have HK := hid hk
 obtain ⟨R1, R2, e1, e2, h2, v2⟩ := VH.start HGD.out HK4.out HN6.out (m := m) (by rw [HM.out]; exact Int.le_refl _)
 rw [HNT.out] at e1
 have HV2 := hid h2; have HVV2 := hid v2
 have HE1 := hid e1; have HE2 := hid e2
 clear hm hn hk e1 e2 h2 v2
 go_wp2_with (first
  | (guard_target = wpList _ _ _ (⟨none, Op.store _ _ _, _, _, _, none⟩ :: _) _ _; have hb0 := hbs; clear hbs; refine Zaa rfl 23 _ _ rfl w1.heap.size rfl (Cfg.A c) _ rfl 23 ?_ hb0 ?_ ?_ ?_; (rw [HCS.out]; exact aggCfg); (rw [HCS.out, HCS.out]); exact Cfg.A_one _; rw [Zai, HW1.out])
  | (guard_target = wpList _ _ _ (⟨some _, Op.load _ _, _, _, _, none⟩ :: _) _ _; refine Zac rfl 23 _ rfl ⟨w1.heap.size, 0, none⟩ rfl (Cfg.A c) (Zat c) (Zah HC.out) ?_))
 have HLT := hid (lt_of_block HC.out)
 generalize w1.heap.size = gc at *
 refine (opened_c c HGD.out nn m HN.out HM.out m1 m128 HE1.out HE2.out W1).mono ?_
 rintro e w2 ⟨r, g, T, ho⟩
 obtain rfl := ho.ret
 have HX2 := hid (show VX w w2 T r R2 gc c g ⟨c, 1, false⟩ from ⟨⟨ho.ve.rack, Ext.trans X1.out ho.ve.ext, fun b hb => ho.ve.low b (Nat.lt_of_lt_of_le hb X1.out.size)⟩, ho.ve.ext.at HC.out, ho.ve.low gc HLT.out, ho.vol, ho.gT, Nat.le_trans X1.out.size ho.new, fun q => by have := ho.new; have := HLT.out; omega⟩)
 clear ho HE1 HE2 HC X1 HLT
 obtain ⟨la, hla⟩ : ∃ l, blocksOf kk a0 = l := ⟨_, rfl⟩
 have La8 := hid (hla ▸ blocksOf_108 kk a0)
 have LaB := hid (hla ▸ blocksOf_bytes kk a0)
 have LaN := hid (show la.length ≤ 8 by rw [← hla, Zcf]; omega)
 have La0 := hid (show la ≠ [] from hla ▸ (by intro q; have := congrArg List.length q; rw [Zcf] at this; simp at this; omega))
 have LaF := hid (show Cd.Blocks c.k.toNat 108 la by rw [HKT.out, ← hla]; exact blocksOf_Blocks kk a0)
 have HLa := hid hla
 clear hla
 obtain ⟨lb, hlb⟩ : ∃ l, blocksOf kk b0 = l := ⟨_, rfl⟩
 have Lb8 := hid (hlb ▸ blocksOf_108 kk b0)
 have LbB := hid (hlb ▸ blocksOf_bytes kk b0)
 have LbN := hid (show lb.length ≤ 8 by rw [← hlb, Zcf]; omega)
 have Lb0 := hid (show lb ≠ [] from hlb ▸ (by intro q; have := congrArg List.length q; rw [Zcf] at this; simp at this; omega))
 have LbF := hid (show Cd.Blocks c.k.toNat 108 lb by rw [HKT.out, ← hlb]; exact blocksOf_Blocks kk b0)
 have HLb := hid hlb
 clear hlb
 obtain ⟨s1, R3, hcm, h3, v3⟩ := HV2.out.commit_on (VI.new HGD.out) HM.out.symm HK4.out HN6.out (by decide) (s := 0) (by rw [HST.out]; decide) LaF.out
 rw [show (1 : Int) + 1 = 2 by omega] at hcm v3 h3
 have HCM := hid (show Vol.commit ⟨c, 1, false⟩ R2 0 la = (none, R3, ⟨c, 2, false⟩) from hcm)
 have HV3 := hid h3; have HVI3 := hid v3
 have HF3 := hid (show updS (VH.fNew c) 0 (2, la) 0 = some (2, la) from Zbi _ _ _)
 generalize updS (VH.fNew c) 0 (2, la) = f3 at *
 generalize upd (VH.jNew c) s1 _ = j3 at *
 clear hcm h3 v3 HV2 HVV2
 have ck : w2.cell? ⟨gc, 1, none⟩ = some (.int .i64 kk) := HX2.out.c1.trans (by rw [HK.out])
 go_wp2_with fail
 refine (kblocks_c kk (by omega) a0 w2).mono ?_
 rintro e w3 ⟨v, rfl, hown, x3⟩
 rw [HLa.out] at hown
 obtain ⟨a3, c3, rfl, hbk, hab⟩ := kblocks_at La8.out hown
 obtain ⟨S3, hS⟩ : ∃ S', wideS T w2 w3 = S' := ⟨_, rfl⟩
 have HX3 := hid (hS ▸ HX2.out.wide x3)
 have HSS3 := hid (show ∀ b, T b → S3 b from fun b hb => hS ▸ .inl hb)
 have HE3 := hid x3
 have HB3 := hid hbk
 have HP3 := hid (show ∀ b, a3 = some ⟨b, 0, none⟩ → S3 b ∧ b ≠ g ∧ w.heap.size ≤ b from fun b q => ⟨hS ▸ HX2.out.ve.blk x3 hbk La0.out hab b q, by have := hab b q; have := lt_of_block HX2.out.vol; omega, Nat.le_trans HX2.out.ext.size (hab b q)⟩)
 clear hown x3 hbk hab hS ck
 go_wp2_with fail
 refine (vcommit_c HX3.out.rack HX3.out.vol HX3.out.gS (show (0 : Int) ≤ 1 by omega) 0 la La8.out LaB.out a3 c3 HB3.out (fun b q => ⟨(HP3.out b q).1, (HP3.out b q).2.1⟩)).mono ?_
 rintro e w4 h4
 rw [HCM.out] at h4
 obtain rfl := h4.ret
 have HX4 := hid (show VX w w4 S3 r R3 gc c g ⟨c, 2, false⟩ from HX3.out.commit h4)
 simp only [oErr]
 clear h4 HX3 HB3 HX2 HCM
 go_wp2_with fail
 refine (Zb7 fuse 0 45 _ (by omega) (by omega) (by omega)).mono ?_
 rintro e _ ⟨rfl, rfl⟩
 obtain ⟨f0, f1⟩ := Zbc fuse 0 45 (by omega)
 generalize within fuse 0 45 = F at *
 go_wp2_with fail
 refine (at_arm HX4.out.rack F (by omega)).mono ?_
 rintro e w5 ⟨rfl, h5, k5⟩
 have HX5 := hid (HX4.out.keep h5 k5)
 have HGF := hid ((HV3.out.gf HVI3.out HM.out.symm).arm F)
 clear h5 k5 HX4 HV3
 have ck : w5.cell? ⟨gc, 1, none⟩ = some (.int .i64 kk) := HX5.out.c1.trans (by rw [HK.out])
 go_wp2_with fail
 refine (kblocks_c kk (by omega) b0 w5).mono ?_
 rintro e w6 ⟨v, rfl, hown, x3⟩
 rw [HLb.out] at hown
 obtain ⟨a6, c6, rfl, hbk, hab⟩ := kblocks_at Lb8.out hown
 obtain ⟨S6, hS⟩ : ∃ S', wideS S3 w5 w6 = S' := ⟨_, rfl⟩
 have HX6 := hid (hS ▸ HX5.out.wide x3)
 have HSS6 := hid (show ∀ b, S3 b → S6 b from fun b hb => hS ▸ .inl hb)
 have HE6 := hid x3
 have HB6 := hid hbk
 have HP6 := hid (show ∀ b, a6 = some ⟨b, 0, none⟩ → S6 b ∧ b ≠ g ∧ w.heap.size ≤ b from fun b q => ⟨hS ▸ HX5.out.ve.blk x3 hbk Lb0.out hab b q, by have := hab b q; have := lt_of_block HX5.out.vol; omega, Nat.le_trans HX5.out.ext.size (hab b q)⟩)
 clear hown x3 hbk hab hS ck
 obtain ⟨o, R7, v7, R8, cur8, j8, f8, hcm, ho, hop, h8, v8, hf8, hdone, hc8⟩ := HGF.out.commit_boot HVI3.out HM.out.symm HK4.out HN6.out (by decide) (s := 0) (by rw [HST.out]; decide) LbF.out bits
 rw [show (2 : Int) + 1 = 3 by omega] at hf8 hdone
 have HCM := hid (show Vol.commit ⟨c, 2, false⟩ (R3.arm F) 0 lb = (o, R7, v7) from hcm)
 have HC9 := hid (show cur8 ≤ 9 from Int.le_trans hc8 (by omega))
 have HOP := hid hop; have HV8 := hid h8; have HVI8 := hid v8
 have HF8 : Hid ((f8 0 = some (2, la) ∧ o ≠ none) ∨ f8 0 = some (3, lb)) := hid (by
  rcases hf8 with q | q
  ·
   refine .inl ⟨by rw [q]; exact HF3.out, fun z => ?_⟩
   have h1 := hdone z
   rw [q] at h1
   have h2 : f3 0 = some (3, lb) := by rw [h1]; exact Zbi _ _ _
   rw [HF3.out] at h2; cases h2
  ·
   exact .inr (by rw [q]; exact Zbi _ _ _))
 have HBB : Hid (BitsAt w6 ia len bits) := hid (HBT.out.only HX6.out.ext (fun _ _ _ x => x))
 have HBS := hid (show ∀ p, ia = some p → 0 < len → S6 p.block from fun p e q => HX6.out.ve.low _ (HBL.out p e q))
 clear hcm hop h8 v8 hf8 hdone hc8 HGF
 go_wp2_with fail
 refine (vcommit_c HX6.out.rack HX6.out.vol HX6.out.gS (show (0 : Int) ≤ 2 by omega) 0 lb Lb8.out LbB.out a6 c6 HB6.out (fun b q => ⟨(HP6.out b q).1, (HP6.out b q).2.1⟩)).mono ?_
 rintro e w7 h7
 rw [HCM.out] at h7
 obtain rfl := h7.ret
 have HX7 := hid (show VX w w7 S6 r R7 gc c g v7 from HX6.out.commit h7)
 have HBC : Hid (BitsAt w7 ia len bits) := hid (HBT.out.only HX7.out.ext (fun _ _ _ x => x))
 clear h7 HX6 HB6 HCM HBB HX5
 rcases o with _ | er
 case none =>
  have hf : f8 0 = some (3, lb) := HF8.out.resolve_left fun q => q.2 rfl
  simp only [oErr]
  clear HF8 ho
  go_wp2_with fail
  refine (at_boot HX7.out.rack ia len cap bits HBC.out HBS.out).mono ?_
  rintro e w8 ⟨rfl, h8, k8⟩
  have HX8 := hid (HX7.out.keep h8 k8)
  clear h8 k8 HX7
  go_wp2_with fail
  refine (vopen_c HX8.out.rack).mono ?_
  rintro e w9 h9
  rw [HOP.out] at h9
  rcases h9 with ⟨_, q, _⟩ | ⟨_, g9, T9, hok⟩
  ·
   cases q
  obtain rfl := hok.ret
  have HX9 := hid (show VX w w9 T9 r R8 gc c g9 ⟨c, cur8, false⟩ from HX8.out.opened hok)
  clear hok HX8 HOP
  have HF := hid hf
  have HRD := hid (HV8.out.read HK4.out HN6.out (cur := cur8) hf (HVI8.out.vv.sfit hf (by rw [HST.out]; decide)))
  clear hf
  go_wp2_with fail
  refine (vread_c HX9.out.rack HX9.out.vol 0).mono ?_
  rintro e w10 ⟨v, rfl, hown, x10⟩
  rw [show Vol.read ⟨c, cur8, false⟩ R8 0 = (lb, 3, none) from HRD.out] at hown ⊢
  simp only at hown ⊢
  obtain ⟨a10, c10, rfl, hbk, hab⟩ := kblocks_at Lb8.out hown
  obtain ⟨S10, hS⟩ : ∃ S', wideS T9 w9 w10 = S' := ⟨_, rfl⟩
  have HX10 := hid (hS ▸ HX9.out.wide x10)
  have HB10 := hid hbk
  have HP10 := hid (show ∀ b, a10 = some ⟨b, 0, none⟩ → S10 b from hS ▸ HX9.out.ve.blk x10 hbk Lb0.out hab)
  simp only [oErr]
  clear hown x10 hbk hab hS HX9 HRD
  have ck : w10.cell? ⟨gc, 1, none⟩ = some (.int .i64 kk) := HX10.out.c1.trans (by rw [HK.out])
  go_wp2_with fail
  refine (kblocks_c kk (by omega) b0 w10).mono ?_
  rintro e w11 ⟨v, rfl, hown, x11⟩
  rw [HLb.out] at hown
  obtain ⟨a11, c11, rfl, hbk, _⟩ := kblocks_at Lb8.out hown
  have HX11 := hid (HX10.out.more x11)
  have HB11 := hid (HB10.out.ext x11)
  have HD11 := hid hbk
  clear hown x11 hbk HX10 HB10 ck
  go_wp2_with fail
  refine (sameblk_c lb Lb8.out LbN.out a10 a11 c10 c11 _ HB11.out HD11.out).mono ?_
  rintro e w12 ⟨rfl, x12⟩
  have HX12 := hid (HX11.out.more x12)
  have HB12 := hid (HB11.out.ext x12)
  clear x12 HX11 HB11 HD11
  go_wp2_with fail
  go_loopw [24] (fun t wr => ∃ i : Nat, t = .int .i64 i ∧ i ≤ 2 ∧ ∃ R S cur g' j, VX w wr S r R gc c g' ⟨c, cur, false⟩ ∧ VH R c m true j f8 ∧ VI c cur j f8 ∧ BlksAt wr a10 lb ∧ (∀ b, a10 = some ⟨b, 0, none⟩ → S b) ∧ cur ≤ 9) (fun t _ => 2 - (intOf t).toNat)
  case atStart => exact ⟨0, rfl, by omega, _, _, _, _, _, HX12.out, HV8.out, HVI8.out, HB12.out, HP10.out, HC9.out⟩
  case round =>
   clear HX12 HV8 HVI8 HB12 HP10 HC9
   obtain ⟨i, rfl, hi, R, S, cur, g', j, hx, hvh, hvi, hbk, hpk, hc9⟩ := hrel
   have HX := hid hx; have HVH := hid hvh; have HVI := hid hvi; have HB := hid hbk; have HP := hid hpk; have HC9 := hid hc9
   clear hx hvh hvi hbk hpk hc9
   by_cases hlt : i < 2
   ·
    have i2 : (i : Int) < 2 := by omega
    obtain ⟨R', cur', hop, hvh, hvi, hle⟩ := HVH.out.again HVI.out HK4.out HN6.out
    have HOP := hid hop; have HVH' := hid hvh; have HVI' := hid hvi
    have HC9' := hid (show cur' ≤ 9 from Int.le_trans hle HC9.out)
    clear hop hvh hvi hle HVH HVI
    go_wp2_with fail
    refine (vopen_c HX.out.rack).mono ?_
    rintro e w13 h13
    rw [HOP.out] at h13
    rcases h13 with ⟨_, q, _⟩ | ⟨_, g13, T13, hok⟩
    ·
     cases q
    obtain rfl := hok.ret
    have HX13 := hid (show VX w w13 T13 r R' gc c g13 ⟨c, cur', false⟩ from HX.out.opened hok)
    have HB13 := hid (HB.out.only hok.keep fun b hb q => q (HP.out b hb))
    have HP13 := hid (fun b hb => hok.low b (HP.out b hb))
    have HRD := hid (HVH'.out.read HK4.out HN6.out (cur := cur') HF.out (HVI'.out.vv.sfit HF.out (by rw [HST.out]; decide)))
    clear hok HX HB HP HOP
    go_wp2_with fail
    refine (vread_c HX13.out.rack HX13.out.vol 0).mono ?_
    rintro e w14 ⟨v, rfl, hown, x14⟩
    rw [show Vol.read ⟨c, cur', false⟩ R' 0 = (lb, 3, none) from HRD.out] at hown ⊢
    simp only at hown ⊢
    obtain ⟨a14, c14, rfl, hbk, _⟩ := kblocks_at Lb8.out hown
    have HX14 := hid (HX13.out.more x14)
    have HB14 := hid (HB13.out.ext x14)
    have HD14 := hid hbk
    simp only [oErr]
    clear hown x14 hbk HX13 HB13 HRD
    go_wp2_with fail
    refine (sameblk_c lb Lb8.out LbN.out a14 a10 c14 c10 _ HD14.out HB14.out).mono ?_
    rintro e w15 ⟨rfl, x15⟩
    have HX15 := hid (HX14.out.more x15)
    have HB15 := hid (HB14.out.ext x15)
    clear x15 HX14 HB14 HD14
    go_wp2_with fail
    go_roundw
    case rel => exact ⟨i + 1, by go_num, by omega, _, _, _, _, _, HX15.out, HVH'.out, HVI'.out, HB15.out, HP13.out, HC9'.out⟩
    case measure => simp [intOf]; omega
   ·
    obtain rfl : i = 2 := by omega
    rw [show ((2 : Nat) : Int) = 2 from rfl]
    have HTN : Hid (Tnt R R nn m ((List.range nn).drop 0)) := hid (by
     have := Tnt.start HVH.out.pow.live
     rw [HNT.out] at this; exact this)
    go_wp2_with fail
    go_loopw [30] (fun t wd => ∃ d : Nat, t = .int .i64 d ∧ d + kk ≤ nn ∧ ∃ Rd, Tnt R Rd nn m ((List.range nn).drop d) ∧ VX w wd S r Rd gc c g' ⟨c, cur, false⟩ ∧ BlksAt wd a10 lb) (fun t _ => nn - (intOf t).toNat)
    case atStart => exact ⟨0, rfl, by have := HKN.out; omega, _, HTN.out, HX.out, HB.out⟩
    case round =>
     clear HTN HX HB
     obtain ⟨d, rfl, hd, Rd, htn, hx, hbk⟩ := hrel
     have HTN := hid htn; have HX := hid hx; have HB := hid hbk
     clear htn hx hbk
     have ck : wr.cell? ⟨gc, 1, none⟩ = some (.int .i64 kk) := HX.out.c1.trans (by rw [HK.out])
     have cn : wr.cell? ⟨gc, 2, none⟩ = some (.int .i64 nn) := HX.out.c2.trans (by rw [HN.out])
     have hw1 : wrap64 ((nn : Int) - (kk : Int)) = (nn : Int) - (kk : Int) := by unfold wrap64; omega
     have hw2 : IntKind.i64.wrap ((nn : Int) - (kk : Int)) = (nn : Int) - (kk : Int) := by rw [IntKind.wrap_i64]; omega
     by_cases hlt : d + kk < nn
     ·
      have d1 : (d : Int) < (nn : Int) - (kk : Int) := by omega
      go_wp2_with fail
      refine (at_die HX.out.rack d).mono ?_
      rintro e w16 ⟨rfl, h16, k16⟩
      have HX16 := hid (HX.out.keep h16 k16)
      have HB16 := hid (HB.out.only k16 fun b hb q => q (HP.out b hb))
      have HTN' := hid (HTN.out.die_next (i := d) (by omega))
      clear h16 k16 HX HB ck cn
      go_wp2_with fail
      go_roundw
      case rel => exact ⟨d + 1, by go_num, by omega, _, HTN'.out, HX16.out, HB16.out⟩
      case measure => simp [intOf]; omega
     ·
      have d1 : ¬ (d : Int) < (nn : Int) - (kk : Int) := by omega
      have hdk : d + kk = nn := by omega
      have hre := HVH.out.reopen HVI.out HM.out.symm HK4.out HN6.out (by have := HC9.out; omega) (by rw [HNT.out]; exact HTN.out)
      rcases hre with ⟨_, _, _, _, hno⟩ | ⟨R', cur', hop, hrd⟩
      ·
       refine absurd ?_ hno
       rw [HKT.out, List.length_drop, List.length_range]; omega
      obtain ⟨y, hy, hsf, hsg⟩ := hrd 0 (by rw [HST.out]; decide)
      rw [HF.out] at hy
      cases hy
      have HOP := hid hop
      have HRD := hid (Vol.read_of hsg cur')
      clear hop hrd hsg hsf hdk hw1 hw2
      go_wp2_with fail
      refine (vopen_c HX.out.rack).mono ?_
      rintro e w17 h17
      rw [HOP.out] at h17
      rcases h17 with ⟨_, q, _⟩ | ⟨_, g17, T17, hok⟩
      ·
       cases q
      obtain rfl := hok.ret
      have HX17 := hid (show VX w w17 T17 r R' gc c g17 ⟨c, cur', false⟩ from HX.out.opened hok)
      have HB17 := hid (HB.out.only hok.keep fun b hb q => q (HP.out b hb))
      clear hok HX HB HOP ck cn
      go_wp2_with fail
      refine (vread_c HX17.out.rack HX17.out.vol 0).mono ?_
      rintro e w18 ⟨v, rfl, hown, x18⟩
      rw [show Vol.read ⟨c, cur', false⟩ R' 0 = (lb, 3, none) from HRD.out] at hown ⊢
      simp only at hown ⊢
      obtain ⟨a18, c18, rfl, hbk, _⟩ := kblocks_at Lb8.out hown
      have HX18 := hid (HX17.out.more x18)
      have HB18 := hid (HB17.out.ext x18)
      have HD18 := hid hbk
      simp only [oErr]
      clear hown x18 hbk HX17 HB17 HRD
      go_wp2_with fail
      refine (sameblk_c lb Lb8.out LbN.out a18 a10 c18 c10 _ HD18.out HB18.out).mono ?_
      rintro e w19 ⟨rfl, x19⟩
      have HX19 := hid (Ext.trans HX18.out.ext x19)
      clear x19 HX18 HB18 HD18
      go_wp2_with fail
      refine (volumeRuns_c w19 (HG.out.only HX19.out (fun x => x))).mono ?_
      rintro e w20 ⟨rfl, x20⟩
      have HX20 := hid (Ext.trans HX19.out x20)
      clear x20
      go_wp2
      go_ret
      exact ⟨rfl, HX20.out⟩
 case some =>
  obtain ⟨et, ev, hev⟩ := er.iface
  simp only [oErr]
  rw [hev]
  clear hev ho
  go_wp2_with fail
  refine (at_boot HX7.out.rack ia len cap bits HBC.out HBS.out).mono ?_
  rintro e w8 ⟨rfl, h8, k8⟩
  have HX8 := hid (HX7.out.keep h8 k8)
  clear h8 k8 HX7
  go_wp2_with fail
  refine (vopen_c HX8.out.rack).mono ?_
  rintro e w9 h9
  rw [HOP.out] at h9
  rcases h9 with ⟨_, q, _⟩ | ⟨_, g9, T9, hok⟩
  ·
   cases q
  obtain rfl := hok.ret
  have HX9 := hid (show VX w w9 T9 r R8 gc c g9 ⟨c, cur8, false⟩ from HX8.out.opened hok)
  clear hok HX8 HOP
  rcases HF8.out with hf | hf
  ·
   have hf := hf.1
   clear HF8
   have HF := hid hf
   have HRD := hid (HV8.out.read HK4.out HN6.out (cur := cur8) hf (HVI8.out.vv.sfit hf (by rw [HST.out]; decide)))
   clear hf
   go_wp2_with fail
   refine (vread_c HX9.out.rack HX9.out.vol 0).mono ?_
   rintro e w10 ⟨v, rfl, hown, x10⟩
   rw [show Vol.read ⟨c, cur8, false⟩ R8 0 = (la, 2, none) from HRD.out] at hown ⊢
   simp only at hown ⊢
   obtain ⟨a10, c10, rfl, hbk, hab⟩ := kblocks_at La8.out hown
   obtain ⟨S10, hS⟩ : ∃ S', wideS T9 w9 w10 = S' := ⟨_, rfl⟩
   have HX10 := hid (hS ▸ HX9.out.wide x10)
   have HB10 := hid hbk
   have HP10 := hid (show ∀ b, a10 = some ⟨b, 0, none⟩ → S10 b from hS ▸ HX9.out.ve.blk x10 hbk La0.out hab)
   simp only [oErr]
   clear hown x10 hbk hab hS HX9 HRD
   have ck : w10.cell? ⟨gc, 1, none⟩ = some (.int .i64 kk) := HX10.out.c1.trans (by rw [HK.out])
   go_wp2_with fail
   refine (kblocks_c kk (by omega) a0 w10).mono ?_
   rintro e w11 ⟨v, rfl, hown, x11⟩
   rw [HLa.out] at hown
   obtain ⟨a11, c11, rfl, hbk, _⟩ := kblocks_at La8.out hown
   have HX11 := hid (HX10.out.more x11)
   have HB11 := hid (HB10.out.ext x11)
   have HD11 := hid hbk
   clear hown x11 hbk HX10 HB10 ck
   go_wp2_with fail
   refine (sameblk_c la La8.out LaN.out a10 a11 c10 c11 _ HB11.out HD11.out).mono ?_
   rintro e w12 ⟨rfl, x12⟩
   have HX12 := hid (HX11.out.more x12)
   have HB12 := hid (HB11.out.ext x12)
   clear x12 HX11 HB11 HD11
   go_wp2_with fail
   go_loopw [24] (fun t wr => ∃ i : Nat, t = .int .i64 i ∧ i ≤ 2 ∧ ∃ R S cur g' j, VX w wr S r R gc c g' ⟨c, cur, false⟩ ∧ VH R c m true j f8 ∧ VI c cur j f8 ∧ BlksAt wr a10 la ∧ (∀ b, a10 = some ⟨b, 0, none⟩ → S b) ∧ cur ≤ 9) (fun t _ => 2 - (intOf t).toNat)
   case atStart => exact ⟨0, rfl, by omega, _, _, _, _, _, HX12.out, HV8.out, HVI8.out, HB12.out, HP10.out, HC9.out⟩
   case round =>
    clear HX12 HV8 HVI8 HB12 HP10 HC9
    obtain ⟨i, rfl, hi, R, S, cur, g', j, hx, hvh, hvi, hbk, hpk, hc9⟩ := hrel
    have HX := hid hx; have HVH := hid hvh; have HVI := hid hvi; have HB := hid hbk; have HP := hid hpk; have HC9 := hid hc9
    clear hx hvh hvi hbk hpk hc9
    by_cases hlt : i < 2
    ·
     have i2 : (i : Int) < 2 := by omega
     obtain ⟨R', cur', hop, hvh, hvi, hle⟩ := HVH.out.again HVI.out HK4.out HN6.out
     have HOP := hid hop; have HVH' := hid hvh; have HVI' := hid hvi
     have HC9' := hid (show cur' ≤ 9 from Int.le_trans hle HC9.out)
     clear hop hvh hvi hle HVH HVI
     go_wp2_with fail
     refine (vopen_c HX.out.rack).mono ?_
     rintro e w13 h13
     rw [HOP.out] at h13
     rcases h13 with ⟨_, q, _⟩ | ⟨_, g13, T13, hok⟩
     ·
      cases q
     obtain rfl := hok.ret
     have HX13 := hid (show VX w w13 T13 r R' gc c g13 ⟨c, cur', false⟩ from HX.out.opened hok)
     have HB13 := hid (HB.out.only hok.keep fun b hb q => q (HP.out b hb))
     have HP13 := hid (fun b hb => hok.low b (HP.out b hb))
     have HRD := hid (HVH'.out.read HK4.out HN6.out (cur := cur') HF.out (HVI'.out.vv.sfit HF.out (by rw [HST.out]; decide)))
     clear hok HX HB HP HOP
     go_wp2_with fail
     refine (vread_c HX13.out.rack HX13.out.vol 0).mono ?_
     rintro e w14 ⟨v, rfl, hown, x14⟩
     rw [show Vol.read ⟨c, cur', false⟩ R' 0 = (la, 2, none) from HRD.out] at hown ⊢
     simp only at hown ⊢
     obtain ⟨a14, c14, rfl, hbk, _⟩ := kblocks_at La8.out hown
     have HX14 := hid (HX13.out.more x14)
     have HB14 := hid (HB13.out.ext x14)
     have HD14 := hid hbk
     simp only [oErr]
     clear hown x14 hbk HX13 HB13 HRD
     go_wp2_with fail
     refine (sameblk_c la La8.out LaN.out a14 a10 c14 c10 _ HD14.out HB14.out).mono ?_
     rintro e w15 ⟨rfl, x15⟩
     have HX15 := hid (HX14.out.more x15)
     have HB15 := hid (HB14.out.ext x15)
     clear x15 HX14 HB14 HD14
     go_wp2_with fail
     go_roundw
     case rel => exact ⟨i + 1, by go_num, by omega, _, _, _, _, _, HX15.out, HVH'.out, HVI'.out, HB15.out, HP13.out, HC9'.out⟩
     case measure => simp [intOf]; omega
    ·
     obtain rfl : i = 2 := by omega
     rw [show ((2 : Nat) : Int) = 2 from rfl]
     have HTN : Hid (Tnt R R nn m ((List.range nn).drop 0)) := hid (by
      have := Tnt.start HVH.out.pow.live
      rw [HNT.out] at this; exact this)
     go_wp2_with fail
     go_loopw [30] (fun t wd => ∃ d : Nat, t = .int .i64 d ∧ d + kk ≤ nn ∧ ∃ Rd, Tnt R Rd nn m ((List.range nn).drop d) ∧ VX w wd S r Rd gc c g' ⟨c, cur, false⟩ ∧ BlksAt wd a10 la) (fun t _ => nn - (intOf t).toNat)
     case atStart => exact ⟨0, rfl, by have := HKN.out; omega, _, HTN.out, HX.out, HB.out⟩
     case round =>
      clear HTN HX HB
      obtain ⟨d, rfl, hd, Rd, htn, hx, hbk⟩ := hrel
      have HTN := hid htn; have HX := hid hx; have HB := hid hbk
      clear htn hx hbk
      have ck : wr.cell? ⟨gc, 1, none⟩ = some (.int .i64 kk) := HX.out.c1.trans (by rw [HK.out])
      have cn : wr.cell? ⟨gc, 2, none⟩ = some (.int .i64 nn) := HX.out.c2.trans (by rw [HN.out])
      have hw1 : wrap64 ((nn : Int) - (kk : Int)) = (nn : Int) - (kk : Int) := by unfold wrap64; omega
      have hw2 : IntKind.i64.wrap ((nn : Int) - (kk : Int)) = (nn : Int) - (kk : Int) := by rw [IntKind.wrap_i64]; omega
      by_cases hlt : d + kk < nn
      ·
       have d1 : (d : Int) < (nn : Int) - (kk : Int) := by omega
       go_wp2_with fail
       refine (at_die HX.out.rack d).mono ?_
       rintro e w16 ⟨rfl, h16, k16⟩
       have HX16 := hid (HX.out.keep h16 k16)
       have HB16 := hid (HB.out.only k16 fun b hb q => q (HP.out b hb))
       have HTN' := hid (HTN.out.die_next (i := d) (by omega))
       clear h16 k16 HX HB ck cn
       go_wp2_with fail
       go_roundw
       case rel => exact ⟨d + 1, by go_num, by omega, _, HTN'.out, HX16.out, HB16.out⟩
       case measure => simp [intOf]; omega
      ·
       have d1 : ¬ (d : Int) < (nn : Int) - (kk : Int) := by omega
       have hdk : d + kk = nn := by omega
       have hre := HVH.out.reopen HVI.out HM.out.symm HK4.out HN6.out (by have := HC9.out; omega) (by rw [HNT.out]; exact HTN.out)
       rcases hre with ⟨_, _, _, _, hno⟩ | ⟨R', cur', hop, hrd⟩
       ·
        refine absurd ?_ hno
        rw [HKT.out, List.length_drop, List.length_range]; omega
       obtain ⟨y, hy, hsf, hsg⟩ := hrd 0 (by rw [HST.out]; decide)
       rw [HF.out] at hy
       cases hy
       have HOP := hid hop
       have HRD := hid (Vol.read_of hsg cur')
       clear hop hrd hsg hsf hdk hw1 hw2
       go_wp2_with fail
       refine (vopen_c HX.out.rack).mono ?_
       rintro e w17 h17
       rw [HOP.out] at h17
       rcases h17 with ⟨_, q, _⟩ | ⟨_, g17, T17, hok⟩
       ·
        cases q
       obtain rfl := hok.ret
       have HX17 := hid (show VX w w17 T17 r R' gc c g17 ⟨c, cur', false⟩ from HX.out.opened hok)
       have HB17 := hid (HB.out.only hok.keep fun b hb q => q (HP.out b hb))
       clear hok HX HB HOP ck cn
       go_wp2_with fail
       refine (vread_c HX17.out.rack HX17.out.vol 0).mono ?_
       rintro e w18 ⟨v, rfl, hown, x18⟩
       rw [show Vol.read ⟨c, cur', false⟩ R' 0 = (la, 2, none) from HRD.out] at hown ⊢
       simp only at hown ⊢
       obtain ⟨a18, c18, rfl, hbk, _⟩ := kblocks_at La8.out hown
       have HX18 := hid (HX17.out.more x18)
       have HB18 := hid (HB17.out.ext x18)
       have HD18 := hid hbk
       simp only [oErr]
       clear hown x18 hbk HX17 HB17 HRD
       go_wp2_with fail
       refine (sameblk_c la La8.out LaN.out a18 a10 c18 c10 _ HD18.out HB18.out).mono ?_
       rintro e w19 ⟨rfl, x19⟩
       have HX19 := hid (Ext.trans HX18.out.ext x19)
       clear x19 HX18 HB18 HD18
       go_wp2_with fail
       refine (volumeRuns_c w19 (HG.out.only HX19.out (fun x => x))).mono ?_
       rintro e w20 ⟨rfl, x20⟩
       have HX20 := hid (Ext.trans HX19.out x20)
       clear x20
       go_wp2
       go_ret
       exact ⟨rfl, HX20.out⟩
  ·
   clear HF8
   have HF := hid hf
   have HRD := hid (HV8.out.read HK4.out HN6.out (cur := cur8) hf (HVI8.out.vv.sfit hf (by rw [HST.out]; decide)))
   clear hf
   go_wp2_with fail
   refine (vread_c HX9.out.rack HX9.out.vol 0).mono ?_
   rintro e w10 ⟨v, rfl, hown, x10⟩
   rw [show Vol.read ⟨c, cur8, false⟩ R8 0 = (lb, 3, none) from HRD.out] at hown ⊢
   simp only at hown ⊢
   obtain ⟨a10, c10, rfl, hbk, hab⟩ := kblocks_at Lb8.out hown
   obtain ⟨S10, hS⟩ : ∃ S', wideS T9 w9 w10 = S' := ⟨_, rfl⟩
   have HX10 := hid (hS ▸ HX9.out.wide x10)
   have HB10 := hid hbk
   have HP10 := hid (show ∀ b, a10 = some ⟨b, 0, none⟩ → S10 b from hS ▸ HX9.out.ve.blk x10 hbk Lb0.out hab)
   simp only [oErr]
   clear hown x10 hbk hab hS HX9 HRD
   have ck : w10.cell? ⟨gc, 1, none⟩ = some (.int .i64 kk) := HX10.out.c1.trans (by rw [HK.out])
   go_wp2_with fail
   refine (kblocks_c kk (by omega) b0 w10).mono ?_
   rintro e w11 ⟨v, rfl, hown, x11⟩
   rw [HLb.out] at hown
   obtain ⟨a11, c11, rfl, hbk, _⟩ := kblocks_at Lb8.out hown
   have HX11 := hid (HX10.out.more x11)
   have HB11 := hid (HB10.out.ext x11)
   have HD11 := hid hbk
   clear hown x11 hbk HX10 HB10 ck
   go_wp2_with fail
   refine (sameblk_c lb Lb8.out LbN.out a10 a11 c10 c11 _ HB11.out HD11.out).mono ?_
   rintro e w12 ⟨rfl, x12⟩
   have HX12 := hid (HX11.out.more x12)
   have HB12 := hid (HB11.out.ext x12)
   clear x12 HX11 HB11 HD11
   go_wp2_with fail
   go_loopw [24] (fun t wr => ∃ i : Nat, t = .int .i64 i ∧ i ≤ 2 ∧ ∃ R S cur g' j, VX w wr S r R gc c g' ⟨c, cur, false⟩ ∧ VH R c m true j f8 ∧ VI c cur j f8 ∧ BlksAt wr a10 lb ∧ (∀ b, a10 = some ⟨b, 0, none⟩ → S b) ∧ cur ≤ 9) (fun t _ => 2 - (intOf t).toNat)
   case atStart => exact ⟨0, rfl, by omega, _, _, _, _, _, HX12.out, HV8.out, HVI8.out, HB12.out, HP10.out, HC9.out⟩
   case round =>
    clear HX12 HV8 HVI8 HB12 HP10 HC9
    obtain ⟨i, rfl, hi, R, S, cur, g', j, hx, hvh, hvi, hbk, hpk, hc9⟩ := hrel
    have HX := hid hx; have HVH := hid hvh; have HVI := hid hvi; have HB := hid hbk; have HP := hid hpk; have HC9 := hid hc9
    clear hx hvh hvi hbk hpk hc9
    by_cases hlt : i < 2
    ·
     have i2 : (i : Int) < 2 := by omega
     obtain ⟨R', cur', hop, hvh, hvi, hle⟩ := HVH.out.again HVI.out HK4.out HN6.out
     have HOP := hid hop; have HVH' := hid hvh; have HVI' := hid hvi
     have HC9' := hid (show cur' ≤ 9 from Int.le_trans hle HC9.out)
     clear hop hvh hvi hle HVH HVI
     go_wp2_with fail
     refine (vopen_c HX.out.rack).mono ?_
     rintro e w13 h13
     rw [HOP.out] at h13
     rcases h13 with ⟨_, q, _⟩ | ⟨_, g13, T13, hok⟩
     ·
      cases q
     obtain rfl := hok.ret
     have HX13 := hid (show VX w w13 T13 r R' gc c g13 ⟨c, cur', false⟩ from HX.out.opened hok)
     have HB13 := hid (HB.out.only hok.keep fun b hb q => q (HP.out b hb))
     have HP13 := hid (fun b hb => hok.low b (HP.out b hb))
     have HRD := hid (HVH'.out.read HK4.out HN6.out (cur := cur') HF.out (HVI'.out.vv.sfit HF.out (by rw [HST.out]; decide)))
     clear hok HX HB HP HOP
     go_wp2_with fail
     refine (vread_c HX13.out.rack HX13.out.vol 0).mono ?_
     rintro e w14 ⟨v, rfl, hown, x14⟩
     rw [show Vol.read ⟨c, cur', false⟩ R' 0 = (lb, 3, none) from HRD.out] at hown ⊢
     simp only at hown ⊢
     obtain ⟨a14, c14, rfl, hbk, _⟩ := kblocks_at Lb8.out hown
     have HX14 := hid (HX13.out.more x14)
     have HB14 := hid (HB13.out.ext x14)
     have HD14 := hid hbk
     simp only [oErr]
     clear hown x14 hbk HX13 HB13 HRD
     go_wp2_with fail
     refine (sameblk_c lb Lb8.out LbN.out a14 a10 c14 c10 _ HD14.out HB14.out).mono ?_
     rintro e w15 ⟨rfl, x15⟩
     have HX15 := hid (HX14.out.more x15)
     have HB15 := hid (HB14.out.ext x15)
     clear x15 HX14 HB14 HD14
     go_wp2_with fail
     go_roundw
     case rel => exact ⟨i + 1, by go_num, by omega, _, _, _, _, _, HX15.out, HVH'.out, HVI'.out, HB15.out, HP13.out, HC9'.out⟩
     case measure => simp [intOf]; omega
    ·
     obtain rfl : i = 2 := by omega
     rw [show ((2 : Nat) : Int) = 2 from rfl]
     have HTN : Hid (Tnt R R nn m ((List.range nn).drop 0)) := hid (by
      have := Tnt.start HVH.out.pow.live
      rw [HNT.out] at this; exact this)
     go_wp2_with fail
     go_loopw [30] (fun t wd => ∃ d : Nat, t = .int .i64 d ∧ d + kk ≤ nn ∧ ∃ Rd, Tnt R Rd nn m ((List.range nn).drop d) ∧ VX w wd S r Rd gc c g' ⟨c, cur, false⟩ ∧ BlksAt wd a10 lb) (fun t _ => nn - (intOf t).toNat)
     case atStart => exact ⟨0, rfl, by have := HKN.out; omega, _, HTN.out, HX.out, HB.out⟩
     case round =>
      clear HTN HX HB
      obtain ⟨d, rfl, hd, Rd, htn, hx, hbk⟩ := hrel
      have HTN := hid htn; have HX := hid hx; have HB := hid hbk
      clear htn hx hbk
      have ck : wr.cell? ⟨gc, 1, none⟩ = some (.int .i64 kk) := HX.out.c1.trans (by rw [HK.out])
      have cn : wr.cell? ⟨gc, 2, none⟩ = some (.int .i64 nn) := HX.out.c2.trans (by rw [HN.out])
      have hw1 : wrap64 ((nn : Int) - (kk : Int)) = (nn : Int) - (kk : Int) := by unfold wrap64; omega
      have hw2 : IntKind.i64.wrap ((nn : Int) - (kk : Int)) = (nn : Int) - (kk : Int) := by rw [IntKind.wrap_i64]; omega
      by_cases hlt : d + kk < nn
      ·
       have d1 : (d : Int) < (nn : Int) - (kk : Int) := by omega
       go_wp2_with fail
       refine (at_die HX.out.rack d).mono ?_
       rintro e w16 ⟨rfl, h16, k16⟩
       have HX16 := hid (HX.out.keep h16 k16)
       have HB16 := hid (HB.out.only k16 fun b hb q => q (HP.out b hb))
       have HTN' := hid (HTN.out.die_next (i := d) (by omega))
       clear h16 k16 HX HB ck cn
       go_wp2_with fail
       go_roundw
       case rel => exact ⟨d + 1, by go_num, by omega, _, HTN'.out, HX16.out, HB16.out⟩
       case measure => simp [intOf]; omega
      ·
       have d1 : ¬ (d : Int) < (nn : Int) - (kk : Int) := by omega
       have hdk : d + kk = nn := by omega
       have hre := HVH.out.reopen HVI.out HM.out.symm HK4.out HN6.out (by have := HC9.out; omega) (by rw [HNT.out]; exact HTN.out)
       rcases hre with ⟨_, _, _, _, hno⟩ | ⟨R', cur', hop, hrd⟩
       ·
        refine absurd ?_ hno
        rw [HKT.out, List.length_drop, List.length_range]; omega
       obtain ⟨y, hy, hsf, hsg⟩ := hrd 0 (by rw [HST.out]; decide)
       rw [HF.out] at hy
       cases hy
       have HOP := hid hop
       have HRD := hid (Vol.read_of hsg cur')
       clear hop hrd hsg hsf hdk hw1 hw2
       go_wp2_with fail
       refine (vopen_c HX.out.rack).mono ?_
       rintro e w17 h17
       rw [HOP.out] at h17
       rcases h17 with ⟨_, q, _⟩ | ⟨_, g17, T17, hok⟩
       ·
        cases q
       obtain rfl := hok.ret
       have HX17 := hid (show VX w w17 T17 r R' gc c g17 ⟨c, cur', false⟩ from HX.out.opened hok)
       have HB17 := hid (HB.out.only hok.keep fun b hb q => q (HP.out b hb))
       clear hok HX HB HOP ck cn
       go_wp2_with fail
       refine (vread_c HX17.out.rack HX17.out.vol 0).mono ?_
       rintro e w18 ⟨v, rfl, hown, x18⟩
       rw [show Vol.read ⟨c, cur', false⟩ R' 0 = (lb, 3, none) from HRD.out] at hown ⊢
       simp only at hown ⊢
       obtain ⟨a18, c18, rfl, hbk, _⟩ := kblocks_at Lb8.out hown
       have HX18 := hid (HX17.out.more x18)
       have HB18 := hid (HB17.out.ext x18)
       have HD18 := hid hbk
       simp only [oErr]
       clear hown x18 hbk HX17 HB17 HRD
       go_wp2_with fail
       refine (sameblk_c lb Lb8.out LbN.out a18 a10 c18 c10 _ HD18.out HB18.out).mono ?_
       rintro e w19 ⟨rfl, x19⟩
       have HX19 := hid (Ext.trans HX18.out.ext x19)
       clear x19 HX18 HB18 HD18
       go_wp2_with fail
       refine (volumeRuns_c w19 (HG.out.only HX19.out (fun x => x))).mono ?_
       rintro e w20 ⟨rfl, x20⟩
       have HX20 := hid (Ext.trans HX19.out x20)
       clear x20
       go_wp2
       go_ret
       exact ⟨rfl, HX20.out⟩
end Go.Proofs.YthopnbklmlopkaaGreatDoor
namespace Go.Proofs.YthopnbklmlopkaaGreatDoor.volumeReplays
open Go.ChangeShapes Go.WideShapes Go.ChangeAt Go.RowKit
open Go.ChangeMaps (open_string shut_string)
set_option linter.unusedVariables false
theorem laidOut : laidOutB Tryz.prog = true := by kernel_rfl
theorem walk (a0 : Int) (a1 : Int) (a2 : Int) (a3 : Int) (a4 : Int) (a5 : Int) (a6 : Option Addr) (len6 cap6 : Nat) (z6 : List Int) (w : World) (hg : EtLaid w) (w0 : (Lit.int .i64 a0).wf = true) (w1 : (Lit.int .i64 a1).wf = true) (w2 : (Lit.int .i64 a2).wf = true) (w3 : (Lit.int .i64 a3).wf = true) (w4 : (Lit.int .i64 a4).wf = true) (w5 : (Lit.int .i64 a5).wf = true) (w6 : IsRow .u64 w a6 len6 cap6 z6) :
  Calls Tryz.prog 6 #[.int .i64 a0, .int .i64 a1, .int .i64 a2, .int .i64 a3, .int .i64 a4, .int .i64 a5, .slice a6 len6 cap6] w fun e w' => e = .returned (.bool true) ∧ Below w.heap.size w w' :=
 (volumeReplays_c a0 a1 a2 a3 a4 a5 a6 len6 cap6 z6 w hg w6).mono fun _ _ ⟨he, hx⟩ => ⟨he, hx.below⟩
set_option maxRecDepth 100000 in
theorem lifted (os : Os) (started : os.Started) (H : Type) (enc : TypeId × Value → H) :
  ReturnsInHanded {} Tryz.checked os 6 .any (fun w args => (Rows.volumeReplaysSpec.pre enc Tryz.prog Tryz.f6 [] false w args ∧ laidMetH Tryz.prog theLaid w) ∧ sizedMet enc Tryz.prog Tryz.f6 (OpenSpec.ofChange Rows.volumeReplaysSpec) false w args)
   (Rows.volumeReplaysSpec.post enc Tryz.prog Tryz.f6 false true false false) := by
 refine returnsInHanded_of_change_and (C := Tryz.checked) (X := fun w _ => laidMetH Tryz.prog theLaid w) (fun _ _ _ hh h => h.of_heap hh) hOwn started (by kernel_rfl) Tryz.func6
  (ChangeSpec.witness_at (enc := enc) (C := Tryz.checked) (os := os) (X := fun w _ => laidMetH Tryz.prog theLaid w) false (laidWorld os) #[.int .i64 0, .int .i64 0, .int .i64 0, .int .i64 0, .int .i64 0, .int .i64 0, .slice none 0 0] 8 rfl (by kernel_rfl) (by kernel_rfl) (by kernel_rfl) (by kernel_rfl) (by kernel_rfl) (laidWorld_met os _)) ?_
 intro W base args ds gs before hval0 hW _ _ hL _
 have hval : ∀ (j : Nat) t v, Tryz.f6.params[j]? = some t → args[j]? = some v → Value.okWide Tryz.prog W .any base t v := hval0
 have hW' := hW
 obtain ⟨p, q, hA0, hV, rfl, hfz, hnd⟩ := hW
 have hA : DataW.TrodAll enc Tryz.prog W 0 (fun _ => true) true Tryz.f6.params.toList args.toList ds p := hA0
 rw [Tryz.params6] at hA hval
 obtain ⟨v0, vs0, d0, ds0, p0, q0, hargs, rfl, rfl, h0, r0⟩ := trodAll_cons hA
 obtain ⟨v1, vs1, d1, ds1, p1, q1, rfl, rfl, rfl, h1, r1⟩ := trodAll_cons r0
 obtain ⟨v2, vs2, d2, ds2, p2, q2, rfl, rfl, rfl, h2, r2⟩ := trodAll_cons r1
 obtain ⟨v3, vs3, d3, ds3, p3, q3, rfl, rfl, rfl, h3, r3⟩ := trodAll_cons r2
 obtain ⟨v4, vs4, d4, ds4, p4, q4, rfl, rfl, rfl, h4, r4⟩ := trodAll_cons r3
 obtain ⟨v5, vs5, d5, ds5, p5, q5, rfl, rfl, rfl, h5, r5⟩ := trodAll_cons r4
 obtain ⟨v6, vs6, d6, ds6, p6, q6, rfl, rfl, rfl, h6, r6⟩ := trodAll_cons r5
 obtain ⟨rfl, rfl, rfl⟩ := trodAll_nil r6
 obtain rfl : args = #[v0, v1, v2, v3, v4, v5, v6] := by cases args; simp_all
 obtain ⟨rfl, rfl⟩ := trodVars_none hV
 obtain ⟨a0, rfl, rfl, rfl, w0⟩ := open_int Tryz.underlying3 (hval 0 3 v0 rfl rfl) h0
 obtain ⟨a1, rfl, rfl, rfl, w1⟩ := open_int Tryz.underlying3 (hval 1 3 v1 rfl rfl) h1
 obtain ⟨a2, rfl, rfl, rfl, w2⟩ := open_int Tryz.underlying3 (hval 2 3 v2 rfl rfl) h2
 obtain ⟨a3, rfl, rfl, rfl, w3⟩ := open_int Tryz.underlying3 (hval 3 3 v3 rfl rfl) h3
 obtain ⟨a4, rfl, rfl, rfl, w4⟩ := open_int Tryz.underlying3 (hval 4 3 v4 rfl rfl) h4
 obtain ⟨a5, rfl, rfl, rfl, w5⟩ := open_int Tryz.underlying3 (hval 5 3 v5 rfl rfl) h5
 obtain ⟨a6, len6, cap6, rfl⟩ := okWide_slice Tryz.underlying48 (hval 6 48 v6 rfl rfl)
 have k6 := h6
 have lt6 : ∀ x ∈ p6, x.block < W.heap.size := by obtain ⟨m, hm⟩ := k6; exact DataW.trod_lt m _ _ _ hm
 obtain ⟨z6, w6⟩ : ∃ zs, IsRow .u64 W a6 len6 cap6 zs := by
  obtain ⟨fuel, hf⟩ := h6
  rcases open_ints Tryz.underlying48 Tryz.underlying92 (by kernel_rfl) hf with ⟨hcs, _⟩ | ⟨x, l, c, zs, hcs, _, hl, hm, hz, _, hcell, hwz⟩
  ·
   simp [Value.cells] at hcs
   obtain ⟨rfl, rfl, rfl⟩ := hcs
   exact ⟨[], .inl ⟨rfl, rfl, rfl, rfl⟩⟩
  ·
   simp [Value.cells] at hcs
   obtain ⟨rfl, rfl, rfl⟩ := hcs
   exact ⟨zs, .inr ⟨_, rfl, hl, hm, by simpa using hz, hcell, hwz⟩⟩
 have hg := etLaid_of hL
 clear hA0 hval0
 simp only [List.append_nil] at hW'
 refine (walk a0 a1 a2 a3 a4 a5 a6 len6 cap6 z6 W hg w0 w1 w2 w3 w4 w5 w6).mono fun e W' ⟨he, bel⟩ => ?_
 subst he
 exact ⟨_, rfl, _, _, _, [], _, [], hW', trodAll_mk1 (shut_bool Tryz.underlying4 _), (trodAll_cons_mk (shut_int Tryz.underlying3 w0) (trodAll_cons_mk (shut_int Tryz.underlying3 w1) (trodAll_cons_mk (shut_int Tryz.underlying3 w2) (trodAll_cons_mk (shut_int Tryz.underlying3 w3) (trodAll_cons_mk (shut_int Tryz.underlying3 w4) (trodAll_cons_mk (shut_int Tryz.underlying3 w5) (trodAll_cons_mk (Below.trod laidOut (by kernel_rfl) (of_decide_eq_true (by kernel_rfl)) k6 bel lt6) trodAll_mk0))))))), rfl, bel.frame _, fun h => by cases h⟩
theorem over : Rows.VolumeReplaysSaid :=
 OpenClaim.holds_of_wide 6 Tryz.f6 rfl rfl rfl rfl rfl rfl rfl ⟨rfl, rfl, rfl, rfl, rfl⟩ rfl rfl rfl rfl rfl (by kernel_rfl) Tryz.func6 (by kernel_rfl)
  (of_decide_eq_true (by kernel_rfl)) (by unfold Func.isWrapper; first | (rw [if_pos (by decide +kernel)]; kernel_rfl) | (rw [if_neg (by decide +kernel)]; exact ⟨rfl, rfl⟩))
  (fun os started H enc _ => lifted os started H enc)
theorem proved : Rows.VolumeReplaysCardSaid :=
 Claim7.holds_tied_plain_at .later [] [.handle] true (true, "78ccd102cf05009196ad3b49c15c4e1faf28f1e8affa82089162968d416a4bff") true
  over (fun _ h => by cases h) (by kernel_rfl) (fun _ h => by cases h) volumeReplays_row_tie rfl ⟨rfl, rfl⟩ (by kernel_rfl) rfl
  (fun f fn hf hfn => by
   obtain rfl : f = 6 := Option.some.inj ((show Tryz.prog.funcNamed "stave/stavelaw12.VolumeReplays" = some 6 by kernel_rfl).symm.trans hf) |>.symm
   obtain rfl : fn = Tryz.f6 := (Option.some.inj (Tryz.func6.symm.trans hfn)).symm
   exact ⟨by kernel_rfl, fun j t ht => by
    rw [Tryz.params6] at ht
    rcases j with _ | _ | _ | _ | _ | _ | _ | j
    ·
     simp at ht; subst ht; kernel_rfl
    ·
     simp at ht; subst ht; kernel_rfl
    ·
     simp at ht; subst ht; kernel_rfl
    ·
     simp at ht; subst ht; kernel_rfl
    ·
     simp at ht; subst ht; kernel_rfl
    ·
     simp at ht; subst ht; kernel_rfl
    ·
     simp at ht; subst ht; kernel_rfl
    ·
     simp at ht⟩)
  (by kernel_rfl)
#print axioms proved
end Go.Proofs.YthopnbklmlopkaaGreatDoor.volumeReplays
