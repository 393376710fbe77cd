/- The statement VolumeHolds, as its tied card: for every input the call of stavelaw12's VolumeHolds answers true, and its arguments read behind it as they read before. No condition of our own. -/
/- Texts of one proof, joined: WVolumeHolds, LawVolumeHolds. -/
import Derived.Test.YthopnbklmlopkaaGreatDoorQW
import Derived.Test.YthopnbklmlopkaaGreatDoorQX
import Derived.Test.YthopnbklmlopkaaGreatDoorQZ
import Derived.Test.YthopnbklmlopkaaGreatDoorQAC
import Derived.Test.YthopnbklmlopkaaGreatDoorQJ
import Derived.Test.YthopnbklmlopkaaGreatDoorCards
import Derived.Test.YthopnbklmlopkaaGreatDoorTie
import Derived.Test.YthopnbklmlopkaaGreatDoorQC
import Derived.WalkKit
import Derived.ProofKit
import Derived.OpenShut
import Derived.ShutString
import Derived.ChangeOld
import Derived.Below
import Derived.SevenTiedAt
import Derived.Test.YthopnbklmlopkaaGreatDoorQLW
set_option linter.unusedVariables false
set_option linter.unusedSimpArgs false
namespace Go.Proofs.YthopnbklmlopkaaGreatDoor
set_option linter.unusedVariables false
open Go Go.RowKit
set_option maxRecDepth 100000 in
set_option maxHeartbeats 600000 in
theorem volumeHolds_c (k n a0 b0 fuse : Int) (ia : Option Addr) (len cap : Nat) (z : List Int) (oa : Option Addr) (olen ocap : Nat) (oz : List Int) (ha : Option Addr) (hlen hcap : Nat) (hz : List Int) (many : Int) (w : World) (hg : EtLaid w) (hl : IsRow .u64 w ia len cap z) (ho : IsRow .i64 w oa olen ocap oz) (hh : IsRow .i64 w ha hlen hcap hz) :
  Calls Tryz.prog 11 #[.int .i64 k, .int .i64 n, .int .i64 a0, .int .i64 b0, .int .i64 fuse, .slice ia len cap, .slice oa olen ocap, .slice ha hlen hcap, .int .i64 many] w fun e w' => e = .returned (.bool true) ∧ Ext w w' := by
 have HBT := hid hl.bits
 have HBL := hid hl.low
 have HO := hid ho.ints
 have HOL := hid ho.low
 have HH := hid hh.ints
 have HHL := hid hh.low
 generalize (z.take len).map Int.toNat = bits at *
 clear hl ho hh
 have HG := hid hg
 have hzc := Zcs
 have HCS := hid Cfg.A_size
 clear hg
 go_enter Tryz.func11, Tryz.ntmps11
 go_wp2_with fail
 refine (kfixed_c k n 1 2 _).mono ?_
 rintro e w1 ⟨rfl, x1⟩
 have HGD := hid (show (keepFixed k n 1 2).Good from keepFixed_good k n 1 2 (by omega) (by omega) (by omega) (by omega))
 have HK4 := hid (keepFixed_k4 k n 1 2)
 have HN6 := hid (keepFixed_n6 k n 1 2)
 have HST := hid (show (keepFixed k n 1 2).stripes = 1 from rfl)
 have HSL := hid (show (keepFixed k n 1 2).slots = 2 from rfl)
 generalize keepFixed k n 1 2 = c at *
 obtain ⟨W1, hW1⟩ : ∃ W, w1.alloc (.cells (Cfg.A c) 23) = W := ⟨_, rfl⟩
 have X1 := hid (show Ext w W1 from hW1 ▸ x1.alloc _)
 have HC := hid (show W1.heap[w1.heap.size]? = some (.cells (Cfg.A c) 23 (0, 0)) from hW1 ▸ heap_alloc_new _ _)
 have hbs : (w1.alloc (.cells (Cfg.A Cfg.zero) 23)).heap[w1.heap.size]? = some (.cells (Cfg.A Cfg.zero) 23 (0, 0)) := Zad
 clear x1
 have HW1 := hid hW1
 clear hW1
 obtain ⟨m, hm, m1, m128⟩ := sectors_nat c HGD.out
 obtain ⟨nn, hn⟩ : ∃ nn : Nat, c.n = nn := ⟨c.n.toNat, by have := HGD.out.k0; have := HGD.out.k1; omega⟩
 obtain ⟨kk, hk⟩ : ∃ kk : Nat, c.k = kk := ⟨c.k.toNat, by have := HGD.out.k0; omega⟩
 have HNT := hid (show c.n.toNat = nn by omega)
 have HKT := hid (show c.k.toNat = kk by omega)
 have n1 : 1 ≤ nn := by have := HGD.out.k0; have := HGD.out.k1; omega
 have n8 : nn ≤ 6 := by have := HN6.out; omega
 have k1 : 1 ≤ kk := by have := HGD.out.k0; omega
 have k4 : kk ≤ 4 := by have := HK4.out; omega
 have HKN := hid (show kk ≤ nn by have := HGD.out.k1; omega)
 have HM := hid hm; have HN := hid hn; have HK := hid hk
 obtain ⟨R1, R2, e1, e2, h2, v2⟩ := VH.start HGD.out HK4.out HN6.out (m := m) (by rw [HM.out]; exact Int.le_refl _)
 rw [HNT.out] at e1
 have HV2 := hid h2; have HVV2 := hid v2
 have HE1 := hid e1; have HE2 := hid e2
 clear hm hn hk e1 e2 h2 v2
 go_wp2_with (first
  | (guard_target = wpList _ _ _ (⟨none, Op.store _ _ _, _, _, _, none⟩ :: _) _ _; have hb0 := hbs; clear hbs; refine Zaa rfl 23 _ _ rfl w1.heap.size rfl (Cfg.A c) _ rfl 23 ?_ hb0 ?_ ?_ ?_; (rw [HCS.out]; exact aggCfg); (rw [HCS.out, HCS.out]); exact Cfg.A_one _; rw [Zai, HW1.out])
  | (guard_target = wpList _ _ _ (⟨some _, Op.load _ _, _, _, _, none⟩ :: _) _ _; refine Zac rfl 23 _ rfl ⟨w1.heap.size, 0, none⟩ rfl (Cfg.A c) (Zat c) (Zah HC.out) ?_))
 have HLT := hid (lt_of_block HC.out)
 generalize w1.heap.size = gc at *
 refine (opened_c c HGD.out nn m HN.out HM.out m1 m128 HE1.out HE2.out W1).mono ?_
 rintro e w2 ⟨r, g, T, ho⟩
 obtain rfl := ho.ret
 have HX2 := hid (show VX w w2 T r R2 gc c g ⟨c, 1, false⟩ from ⟨⟨ho.ve.rack, Ext.trans X1.out ho.ve.ext, fun b hb => ho.ve.low b (Nat.lt_of_lt_of_le hb X1.out.size)⟩, ho.ve.ext.at HC.out, ho.ve.low gc HLT.out, ho.vol, ho.gT, Nat.le_trans X1.out.size ho.new, fun q => by have := ho.new; have := HLT.out; omega⟩)
 clear ho HE1 HE2 HC X1 HLT
 obtain ⟨la, hla⟩ : ∃ l, blocksOf kk a0 = l := ⟨_, rfl⟩
 have La8 := hid (hla ▸ blocksOf_108 kk a0)
 have LaB := hid (hla ▸ blocksOf_bytes kk a0)
 have LaN := hid (show la.length ≤ 8 by rw [← hla, Zcf]; omega)
 have La0 := hid (show la ≠ [] from hla ▸ (by intro q; have := congrArg List.length q; rw [Zcf] at this; simp at this; omega))
 have LaF := hid (show Cd.Blocks c.k.toNat 108 la by rw [HKT.out, ← hla]; exact blocksOf_Blocks kk a0)
 have HLa := hid hla
 clear hla
 obtain ⟨lb, hlb⟩ : ∃ l, blocksOf kk b0 = l := ⟨_, rfl⟩
 have Lb8 := hid (hlb ▸ blocksOf_108 kk b0)
 have LbB := hid (hlb ▸ blocksOf_bytes kk b0)
 have LbN := hid (show lb.length ≤ 8 by rw [← hlb, Zcf]; omega)
 have Lb0 := hid (show lb ≠ [] from hlb ▸ (by intro q; have := congrArg List.length q; rw [Zcf] at this; simp at this; omega))
 have LbF := hid (show Cd.Blocks c.k.toNat 108 lb by rw [HKT.out, ← hlb]; exact blocksOf_Blocks kk b0)
 have HLb := hid hlb
 clear hlb
 obtain ⟨s1, R3, hcm, h3, v3⟩ := HV2.out.commit_on (VI.new HGD.out) HM.out.symm HK4.out HN6.out (by decide) (s := 0) (by rw [HST.out]; decide) LaF.out
 rw [show (1 : Int) + 1 = 2 by omega] at hcm v3 h3
 have HCM := hid (show Vol.commit ⟨c, 1, false⟩ R2 0 la = (none, R3, ⟨c, 2, false⟩) from hcm)
 have HV3 := hid h3; have HVI3 := hid v3
 have HF3 := hid (show updS (VH.fNew c) 0 (2, la) 0 = some (2, la) from Zbi _ _ _)
 generalize updS (VH.fNew c) 0 (2, la) = f3 at *
 generalize upd (VH.jNew c) s1 _ = j3 at *
 clear hcm h3 v3 HV2 HVV2
 have ck : w2.cell? ⟨gc, 1, none⟩ = some (.int .i64 kk) := HX2.out.c1.trans (by rw [HK.out])
 go_wp2_with fail
 refine (kblocks_c kk (by omega) a0 w2).mono ?_
 rintro e w3 ⟨v, rfl, hown, x3⟩
 rw [HLa.out] at hown
 obtain ⟨a3, c3, rfl, hbk, hab⟩ := kblocks_at La8.out hown
 obtain ⟨S3, hS⟩ : ∃ S', wideS T w2 w3 = S' := ⟨_, rfl⟩
 have HX3 := hid (hS ▸ HX2.out.wide x3)
 have HSS3 := hid (show ∀ b, T b → S3 b from fun b hb => hS ▸ .inl hb)
 have HE3 := hid x3
 have HB3 := hid hbk
 have HP3 := hid (show ∀ b, a3 = some ⟨b, 0, none⟩ → S3 b ∧ b ≠ g ∧ w.heap.size ≤ b from fun b q => ⟨hS ▸ HX2.out.ve.blk x3 hbk La0.out hab b q, by have := hab b q; have := lt_of_block HX2.out.vol; omega, Nat.le_trans HX2.out.ext.size (hab b q)⟩)
 clear hown x3 hbk hab hS ck
 go_wp2_with fail
 refine (vcommit_c HX3.out.rack HX3.out.vol HX3.out.gS (show (0 : Int) ≤ 1 by omega) 0 la La8.out LaB.out a3 c3 HB3.out (fun b q => ⟨(HP3.out b q).1, (HP3.out b q).2.1⟩)).mono ?_
 rintro e w4 h4
 rw [HCM.out] at h4
 obtain rfl := h4.ret
 have HX4 := hid (show VX w w4 S3 r R3 gc c g ⟨c, 2, false⟩ from HX3.out.commit h4)
 simp only [oErr]
 clear h4 HX3 HB3 HX2 HCM
 go_wp2_with fail
 refine (Zb7 fuse 0 45 _ (by omega) (by omega) (by omega)).mono ?_
 rintro e _ ⟨rfl, rfl⟩
 obtain ⟨f0, f1⟩ := Zbc fuse 0 45 (by omega)
 generalize within fuse 0 45 = F at *
 go_wp2_with fail
 refine (at_arm HX4.out.rack F (by omega)).mono ?_
 rintro e w5 ⟨rfl, h5, k5⟩
 have HX5 := hid (HX4.out.keep h5 k5)
 have HGF := hid ((HV3.out.gf HVI3.out HM.out.symm).arm F)
 clear h5 k5 HX4 HV3
 have ck : w5.cell? ⟨gc, 1, none⟩ = some (.int .i64 kk) := HX5.out.c1.trans (by rw [HK.out])
 go_wp2_with fail
 refine (kblocks_c kk (by omega) b0 w5).mono ?_
 rintro e w6 ⟨v, rfl, hown, x3⟩
 rw [HLb.out] at hown
 obtain ⟨a6, c6, rfl, hbk, hab⟩ := kblocks_at Lb8.out hown
 obtain ⟨S6, hS⟩ : ∃ S', wideS S3 w5 w6 = S' := ⟨_, rfl⟩
 have HX6 := hid (hS ▸ HX5.out.wide x3)
 have HSS6 := hid (show ∀ b, S3 b → S6 b from fun b hb => hS ▸ .inl hb)
 have HE6 := hid x3
 have HB6 := hid hbk
 have HP6 := hid (show ∀ b, a6 = some ⟨b, 0, none⟩ → S6 b ∧ b ≠ g ∧ w.heap.size ≤ b from fun b q => ⟨hS ▸ HX5.out.ve.blk x3 hbk Lb0.out hab b q, by have := hab b q; have := lt_of_block HX5.out.vol; omega, Nat.le_trans HX5.out.ext.size (hab b q)⟩)
 clear hown x3 hbk hab hS ck
 obtain ⟨o, R7, v7, R8, cur8, j8, f8, hcm, ho, hop, h8, v8, hf8, hdone, hc8⟩ := HGF.out.commit_boot HVI3.out HM.out.symm HK4.out HN6.out (by decide) (s := 0) (by rw [HST.out]; decide) LbF.out bits
 rw [show (2 : Int) + 1 = 3 by omega] at hf8 hdone
 have HCM := hid (show Vol.commit ⟨c, 2, false⟩ (R3.arm F) 0 lb = (o, R7, v7) from hcm)
 have HOP := hid hop; have HV8 := hid h8; have HVI8 := hid v8
 have HC9 := hid (show cur8 ≤ 9 from Int.le_trans hc8 (by omega))
 have HF8 : Hid ((f8 0 = some (2, la) ∧ o ≠ none) ∨ f8 0 = some (3, lb)) := hid (by
  rcases hf8 with q | q
  ·
   refine .inl ⟨by rw [q]; exact HF3.out, fun z => ?_⟩
   have h1 := hdone z
   rw [q] at h1
   have h2 : f3 0 = some (3, lb) := by rw [h1]; exact Zbi _ _ _
   rw [HF3.out] at h2; cases h2
  ·
   exact .inr (by rw [q]; exact Zbi _ _ _))
 have HBB : Hid (BitsAt w6 ia len bits) := hid (HBT.out.only HX6.out.ext (fun _ _ _ x => x))
 have HBS := hid (show ∀ p, ia = some p → 0 < len → S6 p.block from fun p e q => HX6.out.ve.low _ (HBL.out p e q))
 clear hcm hop h8 v8 hf8 hdone hc8 HGF
 go_wp2_with fail
 refine (vcommit_c HX6.out.rack HX6.out.vol HX6.out.gS (show (0 : Int) ≤ 2 by omega) 0 lb Lb8.out LbB.out a6 c6 HB6.out (fun b q => ⟨(HP6.out b q).1, (HP6.out b q).2.1⟩)).mono ?_
 rintro e w7 h7
 rw [HCM.out] at h7
 obtain rfl := h7.ret
 have HX7 := hid (show VX w w7 S6 r R7 gc c g v7 from HX6.out.commit h7)
 have HBC : Hid (BitsAt w7 ia len bits) := hid (HBT.out.only HX7.out.ext (fun _ _ _ x => x))
 clear h7 HX6 HB6 HCM HBB HX5
 first | generalize oErr (o, R7, v7).1 = vo | generalize oErr o = vo
 clear ho
 go_wp2_with fail
 refine (at_boot HX7.out.rack ia len cap bits HBC.out HBS.out).mono ?_
 rintro e w8 ⟨rfl, h8, k8⟩
 have HX8 := hid (HX7.out.keep h8 k8)
 clear h8 k8 HX7
 go_wp2_with fail
 refine (vopen_c HX8.out.rack).mono ?_
 rintro e w9 h9
 rw [HOP.out] at h9
 rcases h9 with ⟨_, q, _⟩ | ⟨_, g9, T9, hok⟩
 ·
  cases q
 obtain rfl := hok.ret
 have HX9 := hid (show VX w w9 T9 r R8 gc c g9 ⟨c, cur8, false⟩ from HX8.out.opened hok)
 clear hok HX8 HOP
 obtain ⟨gy, ly, hf, hsf, _⟩ := HVI8.out.vv.str 0 (by rw [HST.out]; decide)
 have HF := hid hf
 have L8 := hid (fun b hb => hsf.bl.mem_len (b := b) hb)
 have LN := hid (show ly.length ≤ 8 by have := hsf.bl.n; have := HKT.out; omega)
 have L0 := hid (show ly ≠ [] by intro q; have h1 := hsf.bl.n; rw [q, HKT.out] at h1; simp at h1; omega)
 have HRD := hid (HV8.out.read HK4.out HN6.out (cur := cur8) hf hsf)
 clear hf hsf HF8
 go_wp2_with fail
 refine (vread_c HX9.out.rack HX9.out.vol 0).mono ?_
 rintro e w10 ⟨v, rfl, hown, x10⟩
 rw [show Vol.read ⟨c, cur8, false⟩ R8 0 = (ly, gy, none) from HRD.out] at hown ⊢
 simp only at hown ⊢
 obtain ⟨a10, c10, rfl, hbk, hab⟩ := kblocks_at L8.out hown
 obtain ⟨S10, hS⟩ : ∃ S', wideS T9 w9 w10 = S' := ⟨_, rfl⟩
 have HX10 := hid (hS ▸ HX9.out.wide x10)
 have HB10 := hid hbk
 have HP10 := hid (show ∀ b, a10 = some ⟨b, 0, none⟩ → S10 b from hS ▸ HX9.out.ve.blk x10 hbk L0.out hab)
 simp only [oErr]
 clear hown x10 hbk hab hS HX9 HRD
 have cn : w10.cell? ⟨gc, 2, none⟩ = some (.int .i64 nn) := HX10.out.c2.trans (by rw [HN.out])
 go_wp2_with fail
 refine (Zb7 many 0 nn _ (by omega) (by omega) (by omega)).mono ?_
 rintro e _ ⟨rfl, rfl⟩
 obtain ⟨q0, q1⟩ := Zbc many 0 nn (by omega)
 obtain ⟨mx, hmx⟩ := Int.eq_ofNat_of_zero_le q0
 rw [hmx]
 have hm8 : mx ≤ 8 := by omega
 clear hmx q0 q1 cn
 go_wp2_with fail
 refine (taint_c HX10.out.rack HV8.out.pow.live (by have := HNT.out; omega) m1 m128 mx hm8 oa olen ocap ha hlen hcap (fun i hi => by
  obtain ⟨b, off, v, e1, e2⟩ := HO.out i hi
  exact ⟨b, off, v, e1, Ext.cell HX10.out.ext e2⟩) (fun i hi => by
  obtain ⟨b, off, v, e1, e2⟩ := HH.out i hi
  exact ⟨b, off, v, e1, Ext.cell HX10.out.ext e2⟩) (fun p e q => HX10.out.ve.low _ (HOL.out p e q)) (fun p e q => HX10.out.ve.low _ (HHL.out p e q))).mono ?_
 rintro e w11 ⟨rfl, R9, L, htn, hln, hr9, hk9⟩
 have HX11 := hid (HX10.out.keep hr9 hk9)
 have HB11 := hid (HB10.out.only hk9 fun b hb q => q (HP10.out b hb))
 have hre := HV8.out.reopen HVI8.out HM.out.symm HK4.out HN6.out (by have := HC9.out; omega) htn
 clear htn hln hr9 hk9 HX10 HB10 HV8
 go_wp2_with fail
 refine (vopen_c HX11.out.rack).mono ?_
 rintro e w12 h12
 rcases hre with ⟨er, R', hop, hbad, _⟩ | ⟨R', cur', hop, hrd⟩
 ·
  rw [hop] at h12
  rcases h12 with ⟨er2, q, hb⟩ | ⟨q, _⟩
  case inr => cases q
  obtain rfl : er = er2 := by simpa using q
  obtain rfl := hb.ret
  have HX12 := hid (HX11.out.keep hb.rack hb.keep)
  have HBD := hid hbad
  simp only [oErr]
  clear hb q hop hbad HX11 HB11
  go_wp2_with fail
  refine (kind_err er _ (HG.out.only HX12.out.ext (fun x => x))).mono ?_
  rintro e w13 ⟨rfl, x13⟩
  have HX13 := hid (Ext.trans HX12.out.ext x13)
  clear x13 HX12
  rcases HBD.out with hk | hk
  ·
   rw [hk.1]
   clear hk
   go_wp2_with fail
   refine (volumeRuns_c w13 (HG.out.only HX13.out (fun x => x))).mono ?_
   rintro e w14 ⟨rfl, x14⟩
   have HX14 := hid (Ext.trans HX13.out x14)
   clear x14
   go_wp2
   go_ret
   exact ⟨rfl, HX14.out⟩
  ·
   rw [hk.1]
   clear hk
   go_wp2_with fail
   refine (volumeRuns_c w13 (HG.out.only HX13.out (fun x => x))).mono ?_
   rintro e w14 ⟨rfl, x14⟩
   have HX14 := hid (Ext.trans HX13.out x14)
   clear x14
   go_wp2
   go_ret
   exact ⟨rfl, HX14.out⟩
 ·
  rw [hop] at h12
  rcases h12 with ⟨_, q, _⟩ | ⟨_, g12, T12, hok⟩
  ·
   cases q
  obtain rfl := hok.ret
  have HX12 := hid (show VX w w12 T12 r R' gc c g12 ⟨c, cur', false⟩ from HX11.out.opened hok)
  have HB12 := hid (HB11.out.only hok.keep fun b hb q => q (HP10.out b hb))
  obtain ⟨y, hy, hsf, hsg⟩ := hrd 0 (by rw [HST.out]; decide)
  rw [HF.out] at hy
  cases hy
  have HRD := hid (Vol.read_of hsg cur')
  clear hok hop hrd hsf hsg HX11 HB11
  go_wp2_with fail
  refine (vread_c HX12.out.rack HX12.out.vol 0).mono ?_
  rintro e w13 ⟨v, rfl, hown, x13⟩
  rw [show Vol.read ⟨c, cur', false⟩ R' 0 = (ly, gy, none) from HRD.out] at hown ⊢
  simp only at hown ⊢
  obtain ⟨a13, c13, rfl, hbk, _⟩ := kblocks_at L8.out hown
  have HX13 := hid (HX12.out.more x13)
  have HB13 := hid (HB12.out.ext x13)
  have HD13 := hid hbk
  simp only [oErr]
  clear hown x13 hbk HX12 HB12 HRD
  go_wp2_with fail
  refine (sameblk_c ly L8.out LN.out a13 a10 c13 c10 _ HD13.out HB13.out).mono ?_
  rintro e w14 ⟨rfl, x14⟩
  have HX14 := hid (Ext.trans HX13.out.ext x14)
  clear x14 HX13 HB13 HD13
  go_wp2_with fail
  refine (volumeRuns_c w14 (HG.out.only HX14.out (fun x => x))).mono ?_
  rintro e w15 ⟨rfl, x15⟩
  have HX15 := hid (Ext.trans HX14.out x15)
  clear x15
  go_wp2
  go_ret
  exact ⟨rfl, HX15.out⟩
end Go.Proofs.YthopnbklmlopkaaGreatDoor
namespace Go.Proofs.YthopnbklmlopkaaGreatDoor.volumeHolds
open Go.ChangeShapes Go.WideShapes Go.ChangeAt Go.RowKit
open Go.ChangeMaps (open_string shut_string)
set_option linter.unusedVariables false
theorem laidOut : laidOutB Tryz.prog = true := by kernel_rfl
theorem walk (a0 : Int) (a1 : Int) (a2 : Int) (a3 : Int) (a4 : Int) (a5 : Option Addr) (len5 cap5 : Nat) (z5 : List Int) (a6 : Option Addr) (len6 cap6 : Nat) (z6 : List Int) (a7 : Option Addr) (len7 cap7 : Nat) (z7 : List Int) (a8 : Int) (w : World) (hg : EtLaid w) (w0 : (Lit.int .i64 a0).wf = true) (w1 : (Lit.int .i64 a1).wf = true) (w2 : (Lit.int .i64 a2).wf = true) (w3 : (Lit.int .i64 a3).wf = true) (w4 : (Lit.int .i64 a4).wf = true) (w5 : IsRow .u64 w a5 len5 cap5 z5) (w6 : IsRow .i64 w a6 len6 cap6 z6) (w7 : IsRow .i64 w a7 len7 cap7 z7) (w8 : (Lit.int .i64 a8).wf = true) :
  Calls Tryz.prog 11 #[.int .i64 a0, .int .i64 a1, .int .i64 a2, .int .i64 a3, .int .i64 a4, .slice a5 len5 cap5, .slice a6 len6 cap6, .slice a7 len7 cap7, .int .i64 a8] w fun e w' => e = .returned (.bool true) ∧ Below w.heap.size w w' :=
 (volumeHolds_c a0 a1 a2 a3 a4 a5 len5 cap5 z5 a6 len6 cap6 z6 a7 len7 cap7 z7 a8 w hg w5 w6 w7).mono fun _ _ ⟨he, hx⟩ => ⟨he, hx.below⟩
set_option maxRecDepth 100000 in
theorem lifted (os : Os) (started : os.Started) (H : Type) (enc : TypeId × Value → H) :
  ReturnsInHanded {} Tryz.checked os 11 .any (fun w args => (Rows.volumeHoldsSpec.pre enc Tryz.prog Tryz.f11 [] false w args ∧ laidMetH Tryz.prog theLaid w) ∧ sizedMet enc Tryz.prog Tryz.f11 (OpenSpec.ofChange Rows.volumeHoldsSpec) false w args)
   (Rows.volumeHoldsSpec.post enc Tryz.prog Tryz.f11 false true false false) := by
 refine returnsInHanded_of_change_and (C := Tryz.checked) (X := fun w _ => laidMetH Tryz.prog theLaid w) (fun _ _ _ hh h => h.of_heap hh) hOwn started (by kernel_rfl) Tryz.func11
  (ChangeSpec.witness_at (enc := enc) (C := Tryz.checked) (os := os) (X := fun w _ => laidMetH Tryz.prog theLaid w) false (laidWorld os) #[.int .i64 0, .int .i64 0, .int .i64 0, .int .i64 0, .int .i64 0, .slice none 0 0, .slice none 0 0, .slice none 0 0, .int .i64 0] 8 rfl (by kernel_rfl) (by kernel_rfl) (by kernel_rfl) (by kernel_rfl) (by kernel_rfl) (laidWorld_met os _)) ?_
 intro W base args ds gs before hval0 hW _ _ hL _
 have hval : ∀ (j : Nat) t v, Tryz.f11.params[j]? = some t → args[j]? = some v → Value.okWide Tryz.prog W .any base t v := hval0
 have hW' := hW
 obtain ⟨p, q, hA0, hV, rfl, hfz, hnd⟩ := hW
 have hA : DataW.TrodAll enc Tryz.prog W 0 (fun _ => true) true Tryz.f11.params.toList args.toList ds p := hA0
 rw [Tryz.params11] at hA hval
 obtain ⟨v0, vs0, d0, ds0, p0, q0, hargs, rfl, rfl, h0, r0⟩ := trodAll_cons hA
 obtain ⟨v1, vs1, d1, ds1, p1, q1, rfl, rfl, rfl, h1, r1⟩ := trodAll_cons r0
 obtain ⟨v2, vs2, d2, ds2, p2, q2, rfl, rfl, rfl, h2, r2⟩ := trodAll_cons r1
 obtain ⟨v3, vs3, d3, ds3, p3, q3, rfl, rfl, rfl, h3, r3⟩ := trodAll_cons r2
 obtain ⟨v4, vs4, d4, ds4, p4, q4, rfl, rfl, rfl, h4, r4⟩ := trodAll_cons r3
 obtain ⟨v5, vs5, d5, ds5, p5, q5, rfl, rfl, rfl, h5, r5⟩ := trodAll_cons r4
 obtain ⟨v6, vs6, d6, ds6, p6, q6, rfl, rfl, rfl, h6, r6⟩ := trodAll_cons r5
 obtain ⟨v7, vs7, d7, ds7, p7, q7, rfl, rfl, rfl, h7, r7⟩ := trodAll_cons r6
 obtain ⟨v8, vs8, d8, ds8, p8, q8, rfl, rfl, rfl, h8, r8⟩ := trodAll_cons r7
 obtain ⟨rfl, rfl, rfl⟩ := trodAll_nil r8
 obtain rfl : args = #[v0, v1, v2, v3, v4, v5, v6, v7, v8] := by cases args; simp_all
 obtain ⟨rfl, rfl⟩ := trodVars_none hV
 obtain ⟨a0, rfl, rfl, rfl, w0⟩ := open_int Tryz.underlying3 (hval 0 3 v0 rfl rfl) h0
 obtain ⟨a1, rfl, rfl, rfl, w1⟩ := open_int Tryz.underlying3 (hval 1 3 v1 rfl rfl) h1
 obtain ⟨a2, rfl, rfl, rfl, w2⟩ := open_int Tryz.underlying3 (hval 2 3 v2 rfl rfl) h2
 obtain ⟨a3, rfl, rfl, rfl, w3⟩ := open_int Tryz.underlying3 (hval 3 3 v3 rfl rfl) h3
 obtain ⟨a4, rfl, rfl, rfl, w4⟩ := open_int Tryz.underlying3 (hval 4 3 v4 rfl rfl) h4
 obtain ⟨a5, len5, cap5, rfl⟩ := okWide_slice Tryz.underlying48 (hval 5 48 v5 rfl rfl)
 have k5 := h5
 have lt5 : ∀ x ∈ p5, x.block < W.heap.size := by obtain ⟨m, hm⟩ := k5; exact DataW.trod_lt m _ _ _ hm
 obtain ⟨z5, w5⟩ : ∃ zs, IsRow .u64 W a5 len5 cap5 zs := by
  obtain ⟨fuel, hf⟩ := h5
  rcases open_ints Tryz.underlying48 Tryz.underlying92 (by kernel_rfl) hf with ⟨hcs, _⟩ | ⟨x, l, c, zs, hcs, _, hl, hm, hz, _, hcell, hwz⟩
  ·
   simp [Value.cells] at hcs
   obtain ⟨rfl, rfl, rfl⟩ := hcs
   exact ⟨[], .inl ⟨rfl, rfl, rfl, rfl⟩⟩
  ·
   simp [Value.cells] at hcs
   obtain ⟨rfl, rfl, rfl⟩ := hcs
   exact ⟨zs, .inr ⟨_, rfl, hl, hm, by simpa using hz, hcell, hwz⟩⟩
 obtain ⟨a6, len6, cap6, rfl⟩ := okWide_slice Tryz.underlying47 (hval 6 47 v6 rfl rfl)
 have k6 := h6
 have lt6 : ∀ x ∈ p6, x.block < W.heap.size := by obtain ⟨m, hm⟩ := k6; exact DataW.trod_lt m _ _ _ hm
 obtain ⟨z6, w6⟩ : ∃ zs, IsRow .i64 W a6 len6 cap6 zs := by
  obtain ⟨fuel, hf⟩ := h6
  rcases open_ints Tryz.underlying47 Tryz.underlying3 (by kernel_rfl) hf with ⟨hcs, _⟩ | ⟨x, l, c, zs, hcs, _, hl, hm, hz, _, hcell, hwz⟩
  ·
   simp [Value.cells] at hcs
   obtain ⟨rfl, rfl, rfl⟩ := hcs
   exact ⟨[], .inl ⟨rfl, rfl, rfl, rfl⟩⟩
  ·
   simp [Value.cells] at hcs
   obtain ⟨rfl, rfl, rfl⟩ := hcs
   exact ⟨zs, .inr ⟨_, rfl, hl, hm, by simpa using hz, hcell, hwz⟩⟩
 obtain ⟨a7, len7, cap7, rfl⟩ := okWide_slice Tryz.underlying47 (hval 7 47 v7 rfl rfl)
 have k7 := h7
 have lt7 : ∀ x ∈ p7, x.block < W.heap.size := by obtain ⟨m, hm⟩ := k7; exact DataW.trod_lt m _ _ _ hm
 obtain ⟨z7, w7⟩ : ∃ zs, IsRow .i64 W a7 len7 cap7 zs := by
  obtain ⟨fuel, hf⟩ := h7
  rcases open_ints Tryz.underlying47 Tryz.underlying3 (by kernel_rfl) hf with ⟨hcs, _⟩ | ⟨x, l, c, zs, hcs, _, hl, hm, hz, _, hcell, hwz⟩
  ·
   simp [Value.cells] at hcs
   obtain ⟨rfl, rfl, rfl⟩ := hcs
   exact ⟨[], .inl ⟨rfl, rfl, rfl, rfl⟩⟩
  ·
   simp [Value.cells] at hcs
   obtain ⟨rfl, rfl, rfl⟩ := hcs
   exact ⟨zs, .inr ⟨_, rfl, hl, hm, by simpa using hz, hcell, hwz⟩⟩
 obtain ⟨a8, rfl, rfl, rfl, w8⟩ := open_int Tryz.underlying3 (hval 8 3 v8 rfl rfl) h8
 have hg := etLaid_of hL
 clear hA0 hval0
 simp only [List.append_nil] at hW'
 refine (walk a0 a1 a2 a3 a4 a5 len5 cap5 z5 a6 len6 cap6 z6 a7 len7 cap7 z7 a8 W hg w0 w1 w2 w3 w4 w5 w6 w7 w8).mono fun e W' ⟨he, bel⟩ => ?_
 subst he
 exact ⟨_, rfl, _, _, _, [], _, [], hW', trodAll_mk1 (shut_bool Tryz.underlying4 _), (trodAll_cons_mk (shut_int Tryz.underlying3 w0) (trodAll_cons_mk (shut_int Tryz.underlying3 w1) (trodAll_cons_mk (shut_int Tryz.underlying3 w2) (trodAll_cons_mk (shut_int Tryz.underlying3 w3) (trodAll_cons_mk (shut_int Tryz.underlying3 w4) (trodAll_cons_mk (Below.trod laidOut (by kernel_rfl) (of_decide_eq_true (by kernel_rfl)) k5 bel lt5) (trodAll_cons_mk (Below.trod laidOut (by kernel_rfl) (of_decide_eq_true (by kernel_rfl)) k6 bel lt6) (trodAll_cons_mk (Below.trod laidOut (by kernel_rfl) (of_decide_eq_true (by kernel_rfl)) k7 bel lt7) (trodAll_cons_mk (shut_int Tryz.underlying3 w8) trodAll_mk0))))))))), rfl, bel.frame _, fun h => by cases h⟩
theorem over : Rows.VolumeHoldsSaid :=
 OpenClaim.holds_of_wide 11 Tryz.f11 rfl rfl rfl rfl rfl rfl rfl ⟨rfl, rfl, rfl, rfl, rfl⟩ rfl rfl rfl rfl rfl (by kernel_rfl) Tryz.func11 (by kernel_rfl)
  (of_decide_eq_true (by kernel_rfl)) (by unfold Func.isWrapper; first | (rw [if_pos (by decide +kernel)]; kernel_rfl) | (rw [if_neg (by decide +kernel)]; exact ⟨rfl, rfl⟩))
  (fun os started H enc _ => lifted os started H enc)
theorem proved : Rows.VolumeHoldsCardSaid :=
 Claim7.holds_tied_plain_at .later [] [.handle] true (true, "78ccd102cf05009196ad3b49c15c4e1faf28f1e8affa82089162968d416a4bff") true
  over (fun _ h => by cases h) (by kernel_rfl) (fun _ h => by cases h) volumeHolds_row_tie rfl ⟨rfl, rfl⟩ (by kernel_rfl) rfl
  (fun f fn hf hfn => by
   obtain rfl : f = 11 := Option.some.inj ((show Tryz.prog.funcNamed "stave/stavelaw12.VolumeHolds" = some 11 by kernel_rfl).symm.trans hf) |>.symm
   obtain rfl : fn = Tryz.f11 := (Option.some.inj (Tryz.func11.symm.trans hfn)).symm
   exact ⟨by kernel_rfl, fun j t ht => by
    rw [Tryz.params11] at ht
    rcases j with _ | _ | _ | _ | _ | _ | _ | _ | _ | j
    ·
     simp at ht; subst ht; kernel_rfl
    ·
     simp at ht; subst ht; kernel_rfl
    ·
     simp at ht; subst ht; kernel_rfl
    ·
     simp at ht; subst ht; kernel_rfl
    ·
     simp at ht; subst ht; kernel_rfl
    ·
     simp at ht; subst ht; kernel_rfl
    ·
     simp at ht; subst ht; kernel_rfl
    ·
     simp at ht; subst ht; kernel_rfl
    ·
     simp at ht; subst ht; kernel_rfl
    ·
     simp at ht⟩)
  (by kernel_rfl)
#print axioms proved
end Go.Proofs.YthopnbklmlopkaaGreatDoor.volumeHolds
