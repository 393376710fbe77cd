/- The statement VolumeAgain, as its tied card: for every input the call of stavelaw12's VolumeAgain answers true, and its arguments read behind it as they read before. No condition of our own. -/
/- Texts of one proof, joined: WVolumeAgain, LawVolumeAgain. -/
import Derived.Test.YthopnbklmlopkaaGreatDoorQW
import Derived.Test.YthopnbklmlopkaaGreatDoorQX
import Derived.Test.YthopnbklmlopkaaGreatDoorQAB
import Derived.Test.YthopnbklmlopkaaGreatDoorQJ
import Derived.Deep.DeepCutAuto
import Derived.Deep.CutBlock
import Derived.Test.YthopnbklmlopkaaGreatDoorCards
import Derived.Test.YthopnbklmlopkaaGreatDoorTie
import Derived.Test.YthopnbklmlopkaaGreatDoorQC
import Derived.WalkKit
import Derived.ProofKit
import Derived.OpenShut
import Derived.ShutString
import Derived.ChangeOld
import Derived.Below
import Derived.SevenTiedAt
import Derived.Test.YthopnbklmlopkaaGreatDoorQLW
set_option linter.unusedVariables false
set_option linter.unusedSimpArgs false
namespace Go.Proofs.YthopnbklmlopkaaGreatDoor
set_option linter.unusedVariables false
open Go Go.RowKit
set_option maxRecDepth 100000 in
set_option maxHeartbeats 600000 in
theorem volumeAgain_c (k n stripes slots : Int) (la : Option Addr) (ll lcap : Nat) (lz : List Int) (fuse : Int) (ka : Option Addr) (kl kcap : Nat) (kz : List Int) (ia : Option Addr) (len cap : Nat) (z : List Int) (w : World) (hg : EtLaid w) (hl0 : IsRow .i64 w la ll lcap lz) (hk0 : IsRow .i64 w ka kl kcap kz) (hl : IsRow .u64 w ia len cap z) :
  Calls Tryz.prog 4 #[.int .i64 k, .int .i64 n, .int .i64 stripes, .int .i64 slots, .slice la ll lcap, .int .i64 fuse, .slice ka kl kcap, .slice ia len cap] w fun e w' => e = .returned (.bool true) ∧ Ext w w' := by
 have HBT := hid hl.bits
 have HBL := hid hl.low
 have HLO := hid hl0.ints
 have HLW := hid hl0.low
 have HKO := hid hk0.ints
 have HKW := hid hk0.low
 generalize (z.take len).map Int.toNat = bits at *
 clear hl hl0 hk0
 have HG := hid hg
 have hzc := Zcs
 have HCS := hid Cfg.A_size
 clear hg
 go_enter Tryz.func4, Tryz.ntmps4
 go_wp2_with fail
 refine (kconfig_c k n stripes slots _).mono ?_
 rintro e w1 ⟨rfl, x1⟩
 have HGD := hid (show (keepCfg k n stripes slots).Good from keepCfg_good k n stripes slots)
 have HK4 := hid (show (keepCfg k n stripes slots).k ≤ 4 from (Zbc k 1 4 (by omega)).2)
 have HN6 := hid (show (keepCfg k n stripes slots).n ≤ 6 from (Zbc n (within k 1 4) 6 (by have := (Zbc k 1 4 (by omega)).2; omega)).2)
 have HS6 := hid (show (keepCfg k n stripes slots).stripes ≤ 6 from (Zbc stripes 1 6 (by omega)).2)
 generalize keepCfg k n stripes slots = c at *
 obtain ⟨ss, hss⟩ : ∃ ss : Nat, c.stripes = ss := ⟨c.stripes.toNat, by have := HGD.out.st0; omega⟩
 have HST := hid hss
 have HSTT := hid (show c.stripes.toNat = ss by omega)
 have ss1 : 1 ≤ ss := by have := HGD.out.st0; omega
 have ss6 : ss ≤ 6 := by have := HS6.out; omega
 clear hss
 obtain ⟨W1, hW1⟩ : ∃ W, w1.alloc (.cells (Cfg.A c) 23) = W := ⟨_, rfl⟩
 have X1 := hid (show Ext w W1 from hW1 ▸ x1.alloc _)
 have HC := hid (show W1.heap[w1.heap.size]? = some (.cells (Cfg.A c) 23 (0, 0)) from hW1 ▸ heap_alloc_new _ _)
 have hbs : (w1.alloc (.cells (Cfg.A Cfg.zero) 23)).heap[w1.heap.size]? = some (.cells (Cfg.A Cfg.zero) 23 (0, 0)) := Zad
 clear x1
 have HW1 := hid hW1
 clear hW1
 obtain ⟨m, hm, m1, m128⟩ := sectors_nat c HGD.out
 obtain ⟨nn, hn⟩ : ∃ nn : Nat, c.n = nn := ⟨c.n.toNat, by have := HGD.out.k0; have := HGD.out.k1; omega⟩
 obtain ⟨kk, hk⟩ : ∃ kk : Nat, c.k = kk := ⟨c.k.toNat, by have := HGD.out.k0; omega⟩
 have HNT := hid (show c.n.toNat = nn by omega)
 have HKT := hid (show c.k.toNat = kk by omega)
 have n1 : 1 ≤ nn := by have := HGD.out.k0; have := HGD.out.k1; omega
 have n8 : nn ≤ 6 := by have := HN6.out; omega
 have k1 : 1 ≤ kk := by have := HGD.out.k0; omega
 have k4 : kk ≤ 4 := by have := HK4.out; omega
 have HKN := hid (show kk ≤ nn by have := HGD.out.k1; omega)
 have HM := hid hm; have HN := hid hn; have HK := hid hk
 obtain ⟨R1, R2, e1, e2, h2, v2⟩ := VH.start HGD.out HK4.out HN6.out (m := m) (by rw [HM.out]; exact Int.le_refl _)
 rw [HNT.out] at e1
 have HV2 := hid h2; have HVV2 := hid v2
 have HE1 := hid e1; have HE2 := hid e2
 clear hm hn hk e1 e2 h2 v2
 go_wp2_with (first
  | (guard_target = wpList _ _ _ (⟨none, Op.store _ _ _, _, _, _, none⟩ :: _) _ _; have hb0 := hbs; clear hbs; refine Zaa rfl 23 _ _ rfl w1.heap.size rfl (Cfg.A c) _ rfl 23 ?_ hb0 ?_ ?_ ?_; (rw [HCS.out]; exact aggCfg); (rw [HCS.out, HCS.out]); exact Cfg.A_one _; rw [Zai, HW1.out])
  | (guard_target = wpList _ _ _ (⟨some _, Op.load _ _, _, _, _, none⟩ :: _) _ _; refine Zac rfl 23 _ rfl ⟨w1.heap.size, 0, none⟩ rfl (Cfg.A c) (Zat c) (Zah HC.out) ?_))
 have HLT := hid (lt_of_block HC.out)
 generalize w1.heap.size = gc at *
 refine (opened_c c HGD.out nn m HN.out HM.out m1 m128 HE1.out HE2.out W1).mono ?_
 rintro e w2 ⟨r, g, T, ho⟩
 obtain rfl := ho.ret
 have HX2 := hid (show VX w w2 T r R2 gc c g ⟨c, 1, false⟩ from ⟨⟨ho.ve.rack, Ext.trans X1.out ho.ve.ext, fun b hb => ho.ve.low b (Nat.lt_of_lt_of_le hb X1.out.size)⟩, ho.ve.ext.at HC.out, ho.ve.low gc HLT.out, ho.vol, ho.gT, Nat.le_trans X1.out.size ho.new, fun q => by have := ho.new; have := HLT.out; omega⟩)
 clear ho HE1 HE2 HC X1 HLT
 go_wp2_with fail
 refine (Zb7 fuse 0 60 _ (by omega) (by omega) (by omega)).mono ?_
 rintro e _ ⟨rfl, rfl⟩
 obtain ⟨f0, f1⟩ := Zbc fuse 0 60 (by omega)
 generalize within fuse 0 60 = F at *
 go_wp2_with fail
 refine (at_arm HX2.out.rack F (by omega)).mono ?_
 rintro e w5 ⟨rfl, h5, k5⟩
 have HX5 := hid (HX2.out.keep h5 k5)
 have HVI2 := hid (VI.new HGD.out)
 have HGF := hid ((HV2.out.gf HVI2.out HM.out.symm).arm F)
 clear h5 k5 HX2 HV2 HVV2
 go_upto_block 0 with fail
 go_cut [20] (fun t wq => (∃ i : Int, t = .int .i64 i) ∧ ∃ S R j f cur p a v, VX w wq S r R gc c g v ∧ VI c cur j f ∧ Pnd c cur p a ∧ Cr R c m j f p a)
 case first =>
  go_wp2_with fail
  go_loopw [20] (fun t wr => ∃ i : Nat, t = .int .i64 i ∧ i ≤ ll ∧ i ≤ 6 ∧ ∃ R S j f G, VX w wr S r R gc c g ⟨c, 1 + (i : Int), false⟩ ∧ GF R c m G (fun s x => j s = some x) (fun t y => f t = some y) ∧ VI c (1 + (i : Int)) j f) (fun t _ => 6 - (intOf t).toNat)
  case atStart => exact ⟨0, rfl, by omega, by omega, _, _, _, _, _, HX5.out, HGF.out, HVI2.out⟩
  case round =>
   clear HX5 HGF HVI2
   obtain ⟨i, rfl, hi, hi6, R, S, j, f, G, hx, hgf, hvi⟩ := hrel
   have HX := hid hx; have HGF := hid hgf; have HVI := hid hvi
   clear hx hgf hvi
   by_cases hio : i < ll
   ·
    obtain ⟨ib, ioff, vi, rfl, hci⟩ := HLO.out i hio
    have ci : wr.cell? ⟨ib, ioff + i, none⟩ = some (.int .i64 vi) := Ext.cell HX.out.ext hci
    have i0 : (0 : Int) ≤ (i : Int) := by omega
    have i1 : (i : Int) < (ll : Int) := by omega
    by_cases hit : i < 6
    ·
     have i2 : (i : Int) < 6 := by omega
     have hlib : ib < w.heap.size := HLW.out _ rfl (by omega)
     obtain ⟨q0, q1⟩ := Zbc vi 0 ((ss : Int) - 1) (by omega)
     obtain ⟨sx, hsx⟩ := Int.eq_ofNat_of_zero_le q0
     have hs2 : sx < ss := by omega
     have xd : Ext wr wr.drew := (Ext.refl wr).drew
     have HXD := hid (HX.out.more xd)
     have hw1 : wrap64 ((ss : Int) - 1) = (ss : Int) - 1 := by unfold wrap64; omega
     have hw2 : IntKind.i64.wrap ((ss : Int) - 1) = (ss : Int) - 1 := by rw [IntKind.wrap_i64]; omega
     have wi : Hid (∀ y : SW (Only fun b => ¬ S b ∨ b = g) wr.drew, Calls Tryz.prog 27 #[.int .i64 vi, .int .i64 0, .int .i64 ((ss : Int) - 1)] y.w fun e w'' => e = .returned (.int .i64 (sx : Int)) ∧ Ext y.w w'') := hid fun y => (Zb7 vi 0 ((ss : Int) - 1) y.w (by omega) (by omega) (by omega)).mono fun e w'' q => ⟨by rw [q.1, hsx], q.2 ▸ Ext.refl _⟩
     have ck : ∀ y : SW (Only fun b => ¬ S b ∨ b = g) wr.drew, y.w.cell? ⟨gc, 1, none⟩ = some (.int .i64 kk) := fun y => Only.cell y.ext (HXD.out.c1.trans (by rw [HK.out])) (fun q => q.elim (fun z => z HXD.out.cfgS) HXD.out.ne)
     have cs : ∀ y : SW (Only fun b => ¬ S b ∨ b = g) wr.drew, y.w.cell? ⟨gc, 3, none⟩ = some (.int .i64 ss) := fun y => Only.cell y.ext ((Zaf HXD.out.cfg).trans ((Cfg.A3 c).trans (by rw [HST.out]))) (fun q => q.elim (fun z => z HXD.out.cfgS) HXD.out.ne)
     have cl : ∀ y : SW (Only fun b => ¬ S b ∨ b = g) wr.drew, y.w.cell? ⟨ib, ioff + i, none⟩ = some (.int .i64 vi) := fun y => Only.cell y.ext (Ext.cell xd ci) (fun q => q.elim (fun z => z (HXD.out.ve.low ib hlib)) fun z => by have z : ib = g := z; have := HXD.out.gw; omega)
     clear xd HX ci hci hlib q0 q1 hsx hi hit
     go_wp2_with fail
     refine Zaw (E := Ext) (S := Only fun b => ¬ S b ∨ b = g) (.one [0, 1, 2, 3, 4, 5, 6, 7, 8, 9, 10, 11, 12, 13, 14, 15, 16] 17 (.one [] 18 (.fin [19]))) (by kernel_rfl) (by kernel_rfl) (fun _ _ d _ _ h => by cases d <;> exact h) ?_
     rw [wpS]
     simp only [opsAt, opA, opB, opC, opD, opE, opF, opG]
     iterate 8 ((refine Zab (fun K hK => ?_); go_simp; refine hK _ ?_; clear hK K))
     (refine Zab (fun K hK => ?_); go_simp; (apply Exists.intro; refine ⟨fun x => ?_, hK _ ?_⟩; (exact wi.out x); clear hK K))
     iterate 8 ((refine Zab (fun K hK => ?_); go_simp; refine hK _ ?_; clear hK K))
     refine Zag ?_
     intro V3 hV3
     have HX3 := hid (HXD.out.more hV3)
     generalize IntKind.i64.wrap (vi + (i : Int)) = a1 at *
     clear ck cs cl hV3 HXD wi hw1 hw2
     obtain ⟨lb, hlb⟩ : ∃ l, blocksOf kk a1 = l := ⟨_, rfl⟩
     have Lb8 := hid (hlb ▸ blocksOf_108 kk a1)
     have LbB := hid (hlb ▸ blocksOf_bytes kk a1)
     have LbN := hid (show lb.length ≤ 8 by rw [← hlb, Zcf]; omega)
     have Lb0 := hid (show lb ≠ [] from hlb ▸ (by intro q; have := congrArg List.length q; rw [Zcf] at this; simp at this; omega))
     have LbF := hid (show Cd.Blocks c.k.toNat 108 lb by rw [HKT.out, ← hlb]; exact blocksOf_Blocks kk a1)
     have HLb := hid hlb
     clear hlb
     refine Zav fun Q1 hQ1 => ?_
     go_wp2_with fail
     refine (kblocks_c kk (by omega) a1 V3).mono ?_
     rintro e w6 ⟨v, rfl, hown, x6⟩
     rw [HLb.out] at hown
     obtain ⟨a6, c6, rfl, hbk, hab⟩ := kblocks_at Lb8.out hown
     obtain ⟨S6, hS⟩ : ∃ S', wideS S V3 w6 = S' := ⟨_, rfl⟩
     have HX6 := hid (hS ▸ HX3.out.wide x6)
     have HS6' := hid (show ∀ b, S b → S6 b from fun b hb => hS ▸ .inl hb)
     have HB6 := hid hbk
     have HP6 := hid (show ∀ b, a6 = some ⟨b, 0, none⟩ → S6 b ∧ b ≠ g from fun b q => ⟨hS ▸ HX3.out.ve.blk x6 hbk Lb0.out hab b q, by have := hab b q; have := lt_of_block HX3.out.vol; omega⟩)
     clear hown hbk hab hS
     go_wp2
     refine hQ1 _ _ (Ext.only x6) ?_
     clear hQ1 Q1 x6
     rw [wpS]
     simp only [opsAt, opA, opB, opC, opD, opE, opF, opG]
     refine Zag ?_
     intro V4 hV4
     have HX7 := hid (HX6.out.more hV4)
     have HB7 := hid (HB6.out.ext hV4)
     clear hV4 HX6 HB6 HX3
     obtain ⟨a0, hp, hq⟩ := HGF.out.commit HVI.out HK4.out HN6.out (by omega) (s := sx) (by rw [HSTT.out]; exact hs2) LbF.out
     have HP := hid hp
     clear hp
     rcases hq with ⟨R', G', hcm, hgf, hvi, _⟩ | ⟨_, R', hcm, hcr⟩
     ·
      have HCM := hid hcm; have HGF' := hid hgf; have HVI' := hid hvi
      clear hcm hgf hvi
      refine Zav fun Q2 hQ2 => ?_
      go_wp2_with fail
      refine (vcommit_c HX7.out.rack HX7.out.vol HX7.out.gS (show (0 : Int) ≤ 1 + (i : Int) by omega) sx lb Lb8.out LbB.out a6 c6 HB7.out HP6.out).mono ?_
      rintro e w8 h8
      rw [HCM.out] at h8
      obtain rfl := h8.ret
      have HX8 := hid (show VX w w8 S6 r R' gc c g ⟨c, 1 + (i : Int) + 1, false⟩ from HX7.out.commit h8)
      have HK8 := hid (show Only (fun b => ¬ S b ∨ b = g) V4 w8 from Only.trans (Only.refl _ V4) h8.only (fun b _ hb => hb.elim (fun z => .inl fun q => z (HS6'.out b q)) .inr))
      simp only [oErr]
      clear h8 HX7 HB7 HCM
      go_wp2
      refine hQ2 _ _ HK8.out ?_
      clear hQ2 Q2 HK8
      rw [wpS]
      simp only [opsAt, opA, opB, opC, opD, opE, opF, opG]
      (refine Zab (fun K hK => ?_); go_simp; refine hK _ ?_; clear hK K)
      refine Zag ?_
      intro V6 hV6
      have HX9 := hid (HX8.out.more hV6)
      clear hV6 HX8
      go_wp2_with fail
      go_roundw
      case rel => exact ⟨i + 1, by go_num, by omega, by omega, R', S6, _, _, G', by rw [show 1 + ((i + 1 : Nat) : Int) = 1 + (i : Int) + 1 by omega]; exact HX9.out, HGF'.out, by rw [show 1 + ((i + 1 : Nat) : Int) = 1 + (i : Int) + 1 by omega]; exact HVI'.out⟩
      case measure => simp [intOf]; omega
     ·
      have HCM := hid hcm; have HCR := hid hcr
      clear hcm hcr
      refine Zav fun Q2 hQ2 => ?_
      go_wp2_with fail
      refine (vcommit_c HX7.out.rack HX7.out.vol HX7.out.gS (show (0 : Int) ≤ 1 + (i : Int) by omega) sx lb Lb8.out LbB.out a6 c6 HB7.out HP6.out).mono ?_
      rintro e w8 h8
      rw [HCM.out] at h8
      obtain rfl := h8.ret
      have HX8 := hid (show VX w w8 S6 r R' gc c g ⟨c, 1 + (i : Int) + 1, true⟩ from HX7.out.commit h8)
      have HK8 := hid (show Only (fun b => ¬ S b ∨ b = g) V4 w8 from Only.trans (Only.refl _ V4) h8.only (fun b _ hb => hb.elim (fun z => .inl fun q => z (HS6'.out b q)) .inr))
      obtain ⟨er, her⟩ : ∃ er, Err.fault sVCommit sx (.no 5) = er := ⟨_, rfl⟩
      obtain ⟨et, ev, hev⟩ := er.iface
      rw [her]
      simp only [oErr]
      rw [hev]
      clear h8 HX7 HB7 HCM her hev
      go_wp2
      refine hQ2 _ _ HK8.out ?_
      clear hQ2 Q2 HK8
      rw [wpS]
      simp only [opsAt, opA, opB, opC, opD, opE, opF, opG]
      (refine Zab (fun K hK => ?_); go_simp; refine hK _ ?_; clear hK K)
      refine Zag ?_
      intro V6 hV6
      have HX9 := hid (HX8.out.more hV6)
      clear hV6 HX8
      go_wp2_with fail
      go_meet
      case rel => exact ⟨⟨_, rfl⟩, _, _, _, _, _, _, _, _, HX9.out, HVI.out, HP.out, HCR.out⟩
    ·
     have hi6 : i = 6 := by omega
     have i2 : ¬ (i : Int) < 6 := by omega
     obtain ⟨a0, hp⟩ := exists_pnd HGD.out HVI.out.vv.cur (by omega) 0 (by rw [HSTT.out]; omega) (zblks c.k.toNat) (VH.zblks_fit HGD.out (s := 0) (by rw [HSTT.out]; omega)).bl
     have HP := hid hp
     clear hp
     go_wp2_with fail
     go_meet
     case rel => exact ⟨⟨_, rfl⟩, _, _, _, _, _, _, _, _, HX.out, HVI.out, HP.out, Cr.idle HGF.out.pc⟩
   ·
    have hi6 : i = ll := by omega
    have i1 : ¬ (i : Int) < (ll : Int) := by omega
    obtain ⟨a0, hp⟩ := exists_pnd HGD.out HVI.out.vv.cur (by omega) 0 (by rw [HSTT.out]; omega) (zblks c.k.toNat) (VH.zblks_fit HGD.out (s := 0) (by rw [HSTT.out]; omega)).bl
    have HP := hid hp
    clear hp
    go_wp2_with fail
    go_meet
    case rel => exact ⟨⟨_, rfl⟩, _, _, _, _, _, _, _, _, HX.out, HVI.out, HP.out, Cr.idle HGF.out.pc⟩
 case rest =>
  clear HX5 HGF HVI2
  obtain ⟨⟨i0, rfl⟩, S, R, j, f, cur, p, a, v, hx, hvi, hp, hcr⟩ := hcut
  have HX := hid hx; have HVI := hid hvi; have HP := hid hp; have HCR := hid hcr
  clear hx hvi hp hcr
  go_upto_block 2 with fail
  go_cut [21] (fun t wq => (∃ i : Int, t = .int .i64 i) ∧ ∃ S R, VX w wq S r R gc c g v ∧ Cr R c m j f p a)
  case first =>
   go_wp2_with fail
   go_loopw [21] (fun t wr => ∃ i : Nat, t = .int .i64 i ∧ i ≤ kl ∧ i ≤ 4 ∧ ∃ R S, VX w wr S r R gc c g v ∧ Cr R c m j f p a) (fun t _ => 4 - (intOf t).toNat)
   case atStart => exact ⟨0, rfl, by omega, by omega, _, _, HX.out, HCR.out⟩
   case round =>
    clear HX HCR
    obtain ⟨i, rfl, hi, hi4, R, S, hx, hcr⟩ := hrel
    have HX := hid hx; have HCR := hid hcr
    clear hx hcr
    by_cases hio : i < kl
    ·
     obtain ⟨ib, ioff, vi, rfl, hci⟩ := HKO.out i hio
     have i0' : (0 : Int) ≤ (i : Int) := by omega
     have i1 : (i : Int) < (kl : Int) := by omega
     have HCI := hid hci
     by_cases hit : i < 4
     ·
      have i2 : (i : Int) < 4 := by omega
      have HBB : Hid (BitsAt wr ia len bits) := hid (HBT.out.only HX.out.ext (fun _ _ _ x => x))
      have HBS := hid (show ∀ p, ia = some p → 0 < len → S p.block from fun p e q => HX.out.ve.low _ (HBL.out p e q))
      clear hci hi hit
      go_wp2_with fail
      refine (at_boot HX.out.rack ia len cap bits HBB.out HBS.out).mono ?_
      rintro e w8 ⟨rfl, h8, k8⟩
      have HX8 := hid (HX.out.keep h8 k8)
      have ci : w8.cell? ⟨ib, ioff + i, none⟩ = some (.int .i64 vi) := Ext.cell HX8.out.ext HCI.out
      clear h8 k8 HX HBB HBS
      go_wp2_with fail
      refine (Zb7 vi 0 40 _ (by omega) (by omega) (by omega)).mono ?_
      rintro e _ ⟨rfl, rfl⟩
      obtain ⟨g0, g1⟩ := Zbc vi 0 40 (by omega)
      generalize within vi 0 40 = Fi at *
      go_wp2_with fail
      refine (at_arm HX8.out.rack Fi (by omega)).mono ?_
      rintro e w9 ⟨rfl, h9, k9⟩
      have HX9 := hid (HX8.out.keep h9 k9)
      have HCR' := hid (HCR.out.open_any HGD.out (by rw [HM.out]; exact Int.le_refl _) HVI.out HP.out bits Fi)
      clear h9 k9 HX8 ci HCR
      go_wp2_with fail
      refine (vopen_c HX9.out.rack).mono ?_
      rintro e w10 h10
      obtain ⟨vr, T10, hret, hx10⟩ : ∃ vr T10, e = .returned vr ∧ VX w w10 T10 r ((R.boot bits).arm Fi).vopen.2.1 gc c g v := by
       rcases h10 with ⟨_, _, hb⟩ | ⟨_, g9, T9, hok⟩
       ·
        exact ⟨_, S, hb.ret, HX9.out.keep hb.rack hb.keep⟩
       ·
        exact ⟨_, T9, hok.ret, ⟨HX9.out.ve.opened hok, hok.keep.at HX9.out.cfg fun q => q HX9.out.cfgS, hok.low gc HX9.out.cfgS, HX9.out.vol.keep hok.keep HX9.out.gS, hok.low g HX9.out.gS, HX9.out.gw, HX9.out.ne⟩⟩
      subst hret
      have HX10 := hid hx10
      clear hx10 h10 HX9
      go_wp2_with fail
      go_roundw
      case rel => exact ⟨i + 1, by go_num, by omega, by omega, _, _, HX10.out, HCR'.out⟩
      case measure => simp [intOf]; omega
     ·
      have i2 : ¬ (i : Int) < 4 := by omega
      go_wp2_with fail
      go_meet
      case rel => exact ⟨⟨_, rfl⟩, _, _, HX.out, HCR.out⟩
    ·
     have i1 : ¬ (i : Int) < (kl : Int) := by omega
     go_wp2_with fail
     go_meet
     case rel => exact ⟨⟨_, rfl⟩, _, _, HX.out, HCR.out⟩
  case rest =>
   clear HX HCR
   obtain ⟨⟨i1, rfl⟩, S, R, hx, hcr⟩ := hcut
   have HX := hid hx
   have HBB : Hid (BitsAt wc ia len bits) := hid (HBT.out.only HX.out.ext (fun _ _ _ x => x))
   have HBS := hid (show ∀ p, ia = some p → 0 < len → S p.block from fun p e q => HX.out.ve.low _ (HBL.out p e q))
   obtain ⟨R5, cur5, j5, f5, hop, hvh, hvi5, _, _⟩ := hcr.reopen HGD.out HM.out.symm HK4.out HN6.out HVI.out HP.out bits
   have HOP := hid hop
   obtain ⟨R6, cur6, hop6, hvh6, hvi6, hle⟩ := hvh.again hvi5 HK4.out HN6.out
   have HOP6 := hid hop6; have HVH := hid hvh6; have HVI6 := hid hvi6
   have HLE := hid hle
   clear hx hcr hop hvh hvi5 hop6 hvh6 hvi6 hle HVI HP
   go_wp2_with fail
   refine (at_boot HX.out.rack ia len cap bits HBB.out HBS.out).mono ?_
   rintro e w8 ⟨rfl, h8, k8⟩
   have HX8 := hid (HX.out.keep h8 k8)
   clear h8 k8 HX HBB HBS
   go_wp2_with fail
   refine (vopen_c HX8.out.rack).mono ?_
   rintro e w9 h9
   rw [HOP.out] at h9
   rcases h9 with ⟨_, q, _⟩ | ⟨_, g9, T9, hok⟩
   ·
    cases q
   obtain rfl := hok.ret
   have HX9 := hid (show VX w w9 T9 r R5 gc c g9 ⟨c, cur5, false⟩ from HX8.out.opened hok)
   clear hok HX8 HOP
   go_wp2_with fail
   refine (vopen_c HX9.out.rack).mono ?_
   rintro e w10 h10
   rw [HOP6.out] at h10
   rcases h10 with ⟨_, q, _⟩ | ⟨_, g10, T10, hok⟩
   ·
    cases q
   obtain rfl := hok.ret
   have HX10 := hid (show VX w w10 T10 r R6 gc c g10 ⟨c, cur6, false⟩ from HX9.out.opened hok)
   have HVA := hid (show VolAt w10 g9 r ⟨c, cur5, false⟩ from HX9.out.vol.keep hok.keep HX9.out.gS)
   have hgt : ¬ cur5 < cur6 := by have := HLE.out; omega
   clear hok HX9 HOP6
   go_wp2_with fail
   refine (vseq_c HX10.out.vol).mono ?_
   rintro e _ ⟨rfl, rfl⟩
   go_wp2_with fail
   refine (vseq_c HVA.out).mono ?_
   rintro e _ ⟨rfl, rfl⟩
   go_wp2_with fail
   go_loopw [26] (fun t wd => ∃ s : Nat, t = .int .i64 s ∧ s ≤ ss ∧ Ext w10 wd) (fun t _ => ss - (intOf t).toNat)
   case atStart => exact ⟨0, rfl, by omega, Ext.refl _⟩
   case round =>
    obtain ⟨s, rfl, hs, hx⟩ := hrel
    have HX1 := hid hx
    have HXX := hid (HX10.out.more hx)
    have cs : wr.cell? ⟨gc, 3, none⟩ = some (.int .i64 ss) := (Zaf HXX.out.cfg).trans ((Cfg.A3 c).trans (by rw [HST.out]))
    by_cases hlt : s < ss
    ·
     have s1 : (s : Int) < (ss : Int) := by omega
     obtain ⟨gen, l, hf, hsf, _⟩ := HVI6.out.vv.str s (by rw [HSTT.out]; exact hlt)
     have L8 := hid (fun b hb => hsf.bl.mem_len (b := b) hb)
     have LN := hid (show l.length ≤ 8 by have := hsf.bl.n; have := HKT.out; omega)
     have HRA := hid (HVH.out.read HK4.out HN6.out (cur := cur5) hf hsf)
     have HRB := hid (HVH.out.read HK4.out HN6.out (cur := cur6) hf hsf)
     clear hf hsf hx
     go_wp2_with fail
     refine (vread_c HXX.out.rack (HVA.out.ext HX1.out) s).mono ?_
     rintro e w11 ⟨v, rfl, hown, x11⟩
     rw [HRA.out] at hown ⊢
     simp only at hown ⊢
     obtain ⟨a11, c11, rfl, hbk, _⟩ := kblocks_at L8.out hown
     have HXY := hid (HXX.out.more x11)
     have HB11 := hid hbk
     have HX2 := hid (Ext.trans HX1.out x11)
     simp only [oErr]
     clear hown x11 hbk HRA cs
     go_wp2_with fail
     refine (vread_c HXY.out.rack HXY.out.vol s).mono ?_
     rintro e w12 ⟨v, rfl, hown, x12⟩
     rw [HRB.out] at hown ⊢
     simp only at hown ⊢
     obtain ⟨a12, c12, rfl, hbk, _⟩ := kblocks_at L8.out hown
     have HB12 := hid hbk
     have HBA := hid (HB11.out.ext x12)
     have HX3 := hid (Ext.trans HX2.out x12)
     simp only [oErr]
     clear hown x12 hbk HRB HXY HXX
     go_wp2_with fail
     refine (sameblk_c l L8.out LN.out a11 a12 c11 c12 _ HBA.out HB12.out).mono ?_
     rintro e w13 ⟨rfl, x13⟩
     have HX4 := hid (Ext.trans HX3.out x13)
     clear x13
     go_wp2_with fail
     go_roundw
     case rel => exact ⟨s + 1, by go_num, by omega, HX4.out⟩
     case measure => simp [intOf]; omega
    ·
     have s1 : ¬ (s : Int) < (ss : Int) := by omega
     clear hx
     go_wp2_with fail
     refine (volumeRuns_c _ (HG.out.only HXX.out.ext (fun x => x))).mono ?_
     rintro e w13 ⟨rfl, x13⟩
     have HX13 := hid (Ext.trans HXX.out.ext x13)
     clear x13
     go_wp2
     go_ret
     exact ⟨rfl, HX13.out⟩
end Go.Proofs.YthopnbklmlopkaaGreatDoor
namespace Go.Proofs.YthopnbklmlopkaaGreatDoor.volumeAgain
open Go.ChangeShapes Go.WideShapes Go.ChangeAt Go.RowKit
open Go.ChangeMaps (open_string shut_string)
set_option linter.unusedVariables false
theorem laidOut : laidOutB Tryz.prog = true := by kernel_rfl
theorem walk (a0 : Int) (a1 : Int) (a2 : Int) (a3 : Int) (a4 : Option Addr) (len4 cap4 : Nat) (z4 : List Int) (a5 : Int) (a6 : Option Addr) (len6 cap6 : Nat) (z6 : List Int) (a7 : Option Addr) (len7 cap7 : Nat) (z7 : List Int) (w : World) (hg : EtLaid w) (w0 : (Lit.int .i64 a0).wf = true) (w1 : (Lit.int .i64 a1).wf = true) (w2 : (Lit.int .i64 a2).wf = true) (w3 : (Lit.int .i64 a3).wf = true) (w4 : IsRow .i64 w a4 len4 cap4 z4) (w5 : (Lit.int .i64 a5).wf = true) (w6 : IsRow .i64 w a6 len6 cap6 z6) (w7 : IsRow .u64 w a7 len7 cap7 z7) :
  Calls Tryz.prog 4 #[.int .i64 a0, .int .i64 a1, .int .i64 a2, .int .i64 a3, .slice a4 len4 cap4, .int .i64 a5, .slice a6 len6 cap6, .slice a7 len7 cap7] w fun e w' => e = .returned (.bool true) ∧ Below w.heap.size w w' :=
 (volumeAgain_c a0 a1 a2 a3 a4 len4 cap4 z4 a5 a6 len6 cap6 z6 a7 len7 cap7 z7 w hg w4 w6 w7).mono fun _ _ ⟨he, hx⟩ => ⟨he, hx.below⟩
set_option maxRecDepth 100000 in
theorem lifted (os : Os) (started : os.Started) (H : Type) (enc : TypeId × Value → H) :
  ReturnsInHanded {} Tryz.checked os 4 .any (fun w args => (Rows.volumeAgainSpec.pre enc Tryz.prog Tryz.f4 [] false w args ∧ laidMetH Tryz.prog theLaid w) ∧ sizedMet enc Tryz.prog Tryz.f4 (OpenSpec.ofChange Rows.volumeAgainSpec) false w args)
   (Rows.volumeAgainSpec.post enc Tryz.prog Tryz.f4 false true false false) := by
 refine returnsInHanded_of_change_and (C := Tryz.checked) (X := fun w _ => laidMetH Tryz.prog theLaid w) (fun _ _ _ hh h => h.of_heap hh) hOwn started (by kernel_rfl) Tryz.func4
  (ChangeSpec.witness_at (enc := enc) (C := Tryz.checked) (os := os) (X := fun w _ => laidMetH Tryz.prog theLaid w) false (laidWorld os) #[.int .i64 0, .int .i64 0, .int .i64 0, .int .i64 0, .slice none 0 0, .int .i64 0, .slice none 0 0, .slice none 0 0] 8 rfl (by kernel_rfl) (by kernel_rfl) (by kernel_rfl) (by kernel_rfl) (by kernel_rfl) (laidWorld_met os _)) ?_
 intro W base args ds gs before hval0 hW _ _ hL _
 have hval : ∀ (j : Nat) t v, Tryz.f4.params[j]? = some t → args[j]? = some v → Value.okWide Tryz.prog W .any base t v := hval0
 have hW' := hW
 obtain ⟨p, q, hA0, hV, rfl, hfz, hnd⟩ := hW
 have hA : DataW.TrodAll enc Tryz.prog W 0 (fun _ => true) true Tryz.f4.params.toList args.toList ds p := hA0
 rw [Tryz.params4] at hA hval
 obtain ⟨v0, vs0, d0, ds0, p0, q0, hargs, rfl, rfl, h0, r0⟩ := trodAll_cons hA
 obtain ⟨v1, vs1, d1, ds1, p1, q1, rfl, rfl, rfl, h1, r1⟩ := trodAll_cons r0
 obtain ⟨v2, vs2, d2, ds2, p2, q2, rfl, rfl, rfl, h2, r2⟩ := trodAll_cons r1
 obtain ⟨v3, vs3, d3, ds3, p3, q3, rfl, rfl, rfl, h3, r3⟩ := trodAll_cons r2
 obtain ⟨v4, vs4, d4, ds4, p4, q4, rfl, rfl, rfl, h4, r4⟩ := trodAll_cons r3
 obtain ⟨v5, vs5, d5, ds5, p5, q5, rfl, rfl, rfl, h5, r5⟩ := trodAll_cons r4
 obtain ⟨v6, vs6, d6, ds6, p6, q6, rfl, rfl, rfl, h6, r6⟩ := trodAll_cons r5
 obtain ⟨v7, vs7, d7, ds7, p7, q7, rfl, rfl, rfl, h7, r7⟩ := trodAll_cons r6
 obtain ⟨rfl, rfl, rfl⟩ := trodAll_nil r7
 obtain rfl : args = #[v0, v1, v2, v3, v4, v5, v6, v7] := by cases args; simp_all
 obtain ⟨rfl, rfl⟩ := trodVars_none hV
 obtain ⟨a0, rfl, rfl, rfl, w0⟩ := open_int Tryz.underlying3 (hval 0 3 v0 rfl rfl) h0
 obtain ⟨a1, rfl, rfl, rfl, w1⟩ := open_int Tryz.underlying3 (hval 1 3 v1 rfl rfl) h1
 obtain ⟨a2, rfl, rfl, rfl, w2⟩ := open_int Tryz.underlying3 (hval 2 3 v2 rfl rfl) h2
 obtain ⟨a3, rfl, rfl, rfl, w3⟩ := open_int Tryz.underlying3 (hval 3 3 v3 rfl rfl) h3
 obtain ⟨a4, len4, cap4, rfl⟩ := okWide_slice Tryz.underlying47 (hval 4 47 v4 rfl rfl)
 have k4 := h4
 have lt4 : ∀ x ∈ p4, x.block < W.heap.size := by obtain ⟨m, hm⟩ := k4; exact DataW.trod_lt m _ _ _ hm
 obtain ⟨z4, w4⟩ : ∃ zs, IsRow .i64 W a4 len4 cap4 zs := by
  obtain ⟨fuel, hf⟩ := h4
  rcases open_ints Tryz.underlying47 Tryz.underlying3 (by kernel_rfl) hf with ⟨hcs, _⟩ | ⟨x, l, c, zs, hcs, _, hl, hm, hz, _, hcell, hwz⟩
  ·
   simp [Value.cells] at hcs
   obtain ⟨rfl, rfl, rfl⟩ := hcs
   exact ⟨[], .inl ⟨rfl, rfl, rfl, rfl⟩⟩
  ·
   simp [Value.cells] at hcs
   obtain ⟨rfl, rfl, rfl⟩ := hcs
   exact ⟨zs, .inr ⟨_, rfl, hl, hm, by simpa using hz, hcell, hwz⟩⟩
 obtain ⟨a5, rfl, rfl, rfl, w5⟩ := open_int Tryz.underlying3 (hval 5 3 v5 rfl rfl) h5
 obtain ⟨a6, len6, cap6, rfl⟩ := okWide_slice Tryz.underlying47 (hval 6 47 v6 rfl rfl)
 have k6 := h6
 have lt6 : ∀ x ∈ p6, x.block < W.heap.size := by obtain ⟨m, hm⟩ := k6; exact DataW.trod_lt m _ _ _ hm
 obtain ⟨z6, w6⟩ : ∃ zs, IsRow .i64 W a6 len6 cap6 zs := by
  obtain ⟨fuel, hf⟩ := h6
  rcases open_ints Tryz.underlying47 Tryz.underlying3 (by kernel_rfl) hf with ⟨hcs, _⟩ | ⟨x, l, c, zs, hcs, _, hl, hm, hz, _, hcell, hwz⟩
  ·
   simp [Value.cells] at hcs
   obtain ⟨rfl, rfl, rfl⟩ := hcs
   exact ⟨[], .inl ⟨rfl, rfl, rfl, rfl⟩⟩
  ·
   simp [Value.cells] at hcs
   obtain ⟨rfl, rfl, rfl⟩ := hcs
   exact ⟨zs, .inr ⟨_, rfl, hl, hm, by simpa using hz, hcell, hwz⟩⟩
 obtain ⟨a7, len7, cap7, rfl⟩ := okWide_slice Tryz.underlying48 (hval 7 48 v7 rfl rfl)
 have k7 := h7
 have lt7 : ∀ x ∈ p7, x.block < W.heap.size := by obtain ⟨m, hm⟩ := k7; exact DataW.trod_lt m _ _ _ hm
 obtain ⟨z7, w7⟩ : ∃ zs, IsRow .u64 W a7 len7 cap7 zs := by
  obtain ⟨fuel, hf⟩ := h7
  rcases open_ints Tryz.underlying48 Tryz.underlying92 (by kernel_rfl) hf with ⟨hcs, _⟩ | ⟨x, l, c, zs, hcs, _, hl, hm, hz, _, hcell, hwz⟩
  ·
   simp [Value.cells] at hcs
   obtain ⟨rfl, rfl, rfl⟩ := hcs
   exact ⟨[], .inl ⟨rfl, rfl, rfl, rfl⟩⟩
  ·
   simp [Value.cells] at hcs
   obtain ⟨rfl, rfl, rfl⟩ := hcs
   exact ⟨zs, .inr ⟨_, rfl, hl, hm, by simpa using hz, hcell, hwz⟩⟩
 have hg := etLaid_of hL
 clear hA0 hval0
 simp only [List.append_nil] at hW'
 refine (walk a0 a1 a2 a3 a4 len4 cap4 z4 a5 a6 len6 cap6 z6 a7 len7 cap7 z7 W hg w0 w1 w2 w3 w4 w5 w6 w7).mono fun e W' ⟨he, bel⟩ => ?_
 subst he
 exact ⟨_, rfl, _, _, _, [], _, [], hW', trodAll_mk1 (shut_bool Tryz.underlying4 _), (trodAll_cons_mk (shut_int Tryz.underlying3 w0) (trodAll_cons_mk (shut_int Tryz.underlying3 w1) (trodAll_cons_mk (shut_int Tryz.underlying3 w2) (trodAll_cons_mk (shut_int Tryz.underlying3 w3) (trodAll_cons_mk (Below.trod laidOut (by kernel_rfl) (of_decide_eq_true (by kernel_rfl)) k4 bel lt4) (trodAll_cons_mk (shut_int Tryz.underlying3 w5) (trodAll_cons_mk (Below.trod laidOut (by kernel_rfl) (of_decide_eq_true (by kernel_rfl)) k6 bel lt6) (trodAll_cons_mk (Below.trod laidOut (by kernel_rfl) (of_decide_eq_true (by kernel_rfl)) k7 bel lt7) trodAll_mk0)))))))), rfl, bel.frame _, fun h => by cases h⟩
theorem over : Rows.VolumeAgainSaid :=
 OpenClaim.holds_of_wide 4 Tryz.f4 rfl rfl rfl rfl rfl rfl rfl ⟨rfl, rfl, rfl, rfl, rfl⟩ rfl rfl rfl rfl rfl (by kernel_rfl) Tryz.func4 (by kernel_rfl)
  (of_decide_eq_true (by kernel_rfl)) (by unfold Func.isWrapper; first | (rw [if_pos (by decide +kernel)]; kernel_rfl) | (rw [if_neg (by decide +kernel)]; exact ⟨rfl, rfl⟩))
  (fun os started H enc _ => lifted os started H enc)
theorem proved : Rows.VolumeAgainCardSaid :=
 Claim7.holds_tied_plain_at .later [] [.handle] true (true, "78ccd102cf05009196ad3b49c15c4e1faf28f1e8affa82089162968d416a4bff") true
  over (fun _ h => by cases h) (by kernel_rfl) (fun _ h => by cases h) volumeAgain_row_tie rfl ⟨rfl, rfl⟩ (by kernel_rfl) rfl
  (fun f fn hf hfn => by
   obtain rfl : f = 4 := Option.some.inj ((show Tryz.prog.funcNamed "stave/stavelaw12.VolumeAgain" = some 4 by kernel_rfl).symm.trans hf) |>.symm
   obtain rfl : fn = Tryz.f4 := (Option.some.inj (Tryz.func4.symm.trans hfn)).symm
   exact ⟨by kernel_rfl, fun j t ht => by
    rw [Tryz.params4] at ht
    rcases j with _ | _ | _ | _ | _ | _ | _ | _ | j
    ·
     simp at ht; subst ht; kernel_rfl
    ·
     simp at ht; subst ht; kernel_rfl
    ·
     simp at ht; subst ht; kernel_rfl
    ·
     simp at ht; subst ht; kernel_rfl
    ·
     simp at ht; subst ht; kernel_rfl
    ·
     simp at ht; subst ht; kernel_rfl
    ·
     simp at ht; subst ht; kernel_rfl
    ·
     simp at ht; subst ht; kernel_rfl
    ·
     simp at ht⟩)
  (by kernel_rfl)
#print axioms proved
end Go.Proofs.YthopnbklmlopkaaGreatDoor.volumeAgain
