/- The statement VolumeNumbers, as its tied card: for every input the call of stavelaw12's VolumeNumbers answers true, and its arguments read behind it as they read before. No condition of our own. -/
/- Texts of one proof, joined: WVolumeNumbers, LawVolumeNumbers. -/
import Derived.Test.YthopnbklmlopkaaGreatDoorQW
import Derived.Test.YthopnbklmlopkaaGreatDoorQX
import Derived.Test.YthopnbklmlopkaaGreatDoorQP
import Derived.Test.YthopnbklmlopkaaGreatDoorQC
import Derived.Test.YthopnbklmlopkaaGreatDoorCards
import Derived.Test.YthopnbklmlopkaaGreatDoorTie
import Derived.WalkKit
import Derived.ProofKit
import Derived.OpenShut
import Derived.ShutString
import Derived.ChangeOld
import Derived.Below
import Derived.SevenTiedAt
import Derived.Test.YthopnbklmlopkaaGreatDoorQLW
set_option linter.unusedVariables false
set_option linter.unusedSimpArgs false
namespace Go.Proofs.YthopnbklmlopkaaGreatDoor
set_option linter.unusedVariables false
open Go Go.RowKit
set_option maxRecDepth 100000 in
set_option maxHeartbeats 4000000 in
theorem volumeNumbers_c (k n : Int) (oa : Option Addr) (olen ocap : Nat) (oz : List Int) (w : World) (hg : EtLaid w) (ho : IsRow .i64 w oa olen ocap oz) :
  Calls Tryz.prog 9 #[.int .i64 k, .int .i64 n, .slice oa olen ocap] w fun e w' => e = .returned (.bool true) ∧ Ext w w' := by
 have HO := hid ho.ints
 have HLOW := hid ho.low
 clear ho
 have HG := hid hg
 have hzc := Zcs
 have HCS := hid Cfg.A_size
 clear hg
 go_enter Tryz.func9, Tryz.ntmps9
 go_wp2_with fail
 refine (kfixed_c k n 4 2 _).mono ?_
 rintro e w1 ⟨rfl, x1⟩
 have HGD := hid (show (keepFixed k n 4 2).Good from keepFixed_good k n 4 2 (by omega) (by omega) (by omega) (by omega))
 have HK4 := hid (keepFixed_k4 k n 4 2)
 have HN6 := hid (keepFixed_n6 k n 4 2)
 have HST := hid (show (keepFixed k n 4 2).stripes = 4 from rfl)
 have HSL := hid (show (keepFixed k n 4 2).slots = 2 from rfl)
 generalize keepFixed k n 4 2 = c at *
 obtain ⟨W1, hW1⟩ : ∃ W, w1.alloc (.cells (Cfg.A c) 23) = W := ⟨_, rfl⟩
 have X1 := hid (show Ext w W1 from hW1 ▸ x1.alloc _)
 have HC := hid (show W1.heap[w1.heap.size]? = some (.cells (Cfg.A c) 23 (0, 0)) from hW1 ▸ heap_alloc_new _ _)
 have hbs : (w1.alloc (.cells (Cfg.A Cfg.zero) 23)).heap[w1.heap.size]? = some (.cells (Cfg.A Cfg.zero) 23 (0, 0)) := Zad
 clear x1
 have HW1 := hid hW1
 clear hW1
 obtain ⟨m, hm, m1, m128⟩ := sectors_nat c HGD.out
 obtain ⟨nn, hn⟩ : ∃ nn : Nat, c.n = nn := ⟨c.n.toNat, by have := HGD.out.k0; have := HGD.out.k1; omega⟩
 obtain ⟨kk, hk⟩ : ∃ kk : Nat, c.k = kk := ⟨c.k.toNat, by have := HGD.out.k0; omega⟩
 have HNT := hid (show c.n.toNat = nn by omega)
 have HKT := hid (show c.k.toNat = kk by omega)
 have n1 : 1 ≤ nn := by have := HGD.out.k0; have := HGD.out.k1; omega
 have n8 : nn ≤ 6 := by have := HN6.out; omega
 have k1 : 1 ≤ kk := by have := HGD.out.k0; omega
 have k4 : kk ≤ 4 := by have := HK4.out; omega
 have HKN := hid (show kk ≤ nn by have := HGD.out.k1; omega)
 have HM := hid hm; have HN := hid hn; have HK := hid hk
 obtain ⟨R1, R2, e1, e2, h2, v2⟩ := VH.start HGD.out HK4.out HN6.out (m := m) (by rw [HM.out]; exact Int.le_refl _)
 rw [HNT.out] at e1
 have HV2 := hid h2; have HVV2 := hid v2
 have HE1 := hid e1; have HE2 := hid e2
 clear hm hn hk e1 e2 h2 v2
 go_wp2_with (first
  | (guard_target = wpList _ _ _ (⟨none, Op.store _ _ _, _, _, _, none⟩ :: _) _ _; have hb0 := hbs; clear hbs; refine Zaa rfl 23 _ _ rfl w1.heap.size rfl (Cfg.A c) _ rfl 23 ?_ hb0 ?_ ?_ ?_; (rw [HCS.out]; exact aggCfg); (rw [HCS.out, HCS.out]); exact Cfg.A_one _; rw [Zai, HW1.out])
  | (guard_target = wpList _ _ _ (⟨some _, Op.load _ _, _, _, _, none⟩ :: _) _ _; refine Zac rfl 23 _ rfl ⟨w1.heap.size, 0, none⟩ rfl (Cfg.A c) (Zat c) (Zah HC.out) ?_))
 have HLT := hid (lt_of_block HC.out)
 generalize w1.heap.size = gc at *
 refine (opened_c c HGD.out nn m HN.out HM.out m1 m128 HE1.out HE2.out W1).mono ?_
 rintro e w2 ⟨r, g, T, ho⟩
 obtain rfl := ho.ret
 have HX2 := hid (show VX w w2 T r R2 gc c g ⟨c, 1, false⟩ from ⟨⟨ho.ve.rack, Ext.trans X1.out ho.ve.ext, fun b hb => ho.ve.low b (Nat.lt_of_lt_of_le hb X1.out.size)⟩, ho.ve.ext.at HC.out, ho.ve.low gc HLT.out, ho.vol, ho.gT, Nat.le_trans X1.out.size ho.new, fun q => by have := ho.new; have := HLT.out; omega⟩)
 clear ho HE1 HE2 HC X1 HLT
 have HNU := hid (Nums.start HV2.out HVV2.out)
 have hgne : g ≠ gc := fun q => HX2.out.ne q.symm
 have HSG := hid (show g < w2.heap.size from lt_of_block HX2.out.vol)
 have HSC := hid (show gc < w2.heap.size from lt_of_block HX2.out.cfg)
 clear HV2 HVV2
 go_wp2_with fail
 generalize hW3 : w2.alloc _ = W3
 obtain ⟨b0, hb0⟩ : ∃ b, w2.heap.size = b := ⟨_, rfl⟩
 rw [hb0]
 have x3 : Ext w2 W3 := hW3 ▸ (Ext.refl w2).alloc _
 have HGA := hid (show GAt W3 b0 fun _ => 1 from hW3 ▸ hb0 ▸ GAt.new w2)
 obtain ⟨S3, hS3⟩ : ∃ S, wideS T w2 W3 = S := ⟨_, rfl⟩
 have HX3 := hid (show VX w W3 S3 r R2 gc c g ⟨c, 1, false⟩ from hS3 ▸ HX2.wide x3)
 have HSB := hid (show S3 b0 from hS3 ▸ .inr ⟨by omega, by rw [← hb0, ← hW3]; simp⟩)
 have HB0 := hid (show w.heap.size ≤ b0 ∧ b0 ≠ gc ∧ b0 ≠ g from ⟨by rw [← hb0]; exact HX2.ext.size, by have := HSC.out; omega, by have := HSG.out; omega⟩)
 clear hW3 hb0 x3 hS3 HX2 HSG HSC hgne
 go_loopw [11] (fun t wr => ∃ i : Nat, t = .int .i64 i ∧ i ≤ olen ∧ i ≤ 10 ∧ ∃ R G S, Nums R c m i G ∧ VX w wr S r R gc c g ⟨c, 1 + (i : Int), false⟩ ∧ GAt wr b0 G ∧ S b0) (fun t _ => 10 - (intOf t).toNat)
 case atStart => exact ⟨0, rfl, by omega, by omega, _, _, _, HNU.out, HX3.out, HGA.out, HSB.out⟩
 case round =>
  clear HNU HX3 HGA HSB
  obtain ⟨i, rfl, hi, hi10, R, G, S, hnu, hx, hga, hsb⟩ := hrel
  have HNU := hid hnu; have HX := hid hx; have HGA := hid hga; have HSB := hid hsb
  clear hnu hx hga hsb
  by_cases hio : i < olen
  ·
   obtain ⟨ib, ioff, vi, rfl, hci⟩ := HO.out i hio
   have ci : wr.cell? ⟨ib, ioff + i, none⟩ = some (.int .i64 vi) := Ext.cell HX.out.ext hci
   have i0 : (0 : Int) ≤ (i : Int) := by omega
   have i1 : (i : Int) < (olen : Int) := by omega
   by_cases hit : i < 10
   ·
    have i2 : (i : Int) < 10 := by omega
    clear hi hit
    go_wp2_with fail
    refine (Zb7 vi 0 3 _ (by omega) (by omega) (by omega)).mono ?_
    rintro e w7 ⟨rfl, rfl⟩
    obtain ⟨q0, q1⟩ := Zbc vi 0 3 (by omega)
    obtain ⟨sx, hx⟩ := Int.eq_ofNat_of_zero_le q0
    rw [hx]
    have hx4 : sx < 4 := by omega
    clear hx q0 q1
    obtain ⟨la, hla⟩ : ∃ l, blocksOf kk vi = l := ⟨_, rfl⟩
    have LA8 := hid (hla ▸ blocksOf_108 kk vi)
    have LAB := hid (hla ▸ blocksOf_bytes kk vi)
    have LA0 := hid (show la ≠ [] from hla ▸ (by intro q; have := congrArg List.length q; rw [Zcf] at this; simp at this; omega))
    have HLA := hid hla
    obtain ⟨R', hcm, hnu⟩ := HNU.out.commit HK4.out HN6.out (by omega) (s := sx) (by rw [HST.out]; exact hx4) (l := la) (by rw [HKT.out, ← hla]; exact blocksOf_Blocks kk vi)
    have HCM := hid hcm; have HNU' := hid hnu
    have xd : Ext wr wr.drew := (Ext.refl wr).drew
    have HXD := hid (HX.out.more xd)
    have HGD' := hid (HGA.out.ext xd)
    have hlib : ib < w.heap.size := HLOW.out _ rfl (by omega)
    have ck : ∀ y : SW (Only fun b => ¬ S b ∨ b = g) wr.drew, y.w.cell? ⟨gc, 1, none⟩ = some (.int .i64 kk) := fun y => Only.cell y.ext (HXD.out.c1.trans (by rw [HK.out])) (fun q => q.elim (fun z => z HXD.out.cfgS) HXD.out.ne)
    have cl : ∀ y : SW (Only fun b => ¬ S b ∨ b = g) wr.drew, y.w.cell? ⟨ib, ioff + i, none⟩ = some (.int .i64 vi) := fun y => Only.cell y.ext (Ext.cell xd ci) (fun q => q.elim (fun z => z (HXD.out.ve.low ib hlib)) fun z => by have z : ib = g := z; have := HXD.out.gw; omega)
    have hw1 : wrap64 (2 + (i : Int)) = 2 + (i : Int) := by unfold wrap64; omega
    have hw2 : IntKind.i64.wrap (2 + (i : Int)) = 2 + (i : Int) := by rw [IntKind.wrap_i64]; omega
    clear xd hcm hnu hla HX HGA HNU ci hci hlib hio
    go_wp2_with fail
    refine Zaw (E := Ext) (S := Only fun b => ¬ S b ∨ b = g) (.one [0, 1, 2, 3, 4, 5, 6, 7] 8 (.one [] 9 (.one [10, 11, 12, 14, 15] 13 (.fin [16, 17])))) (by kernel_rfl) (by kernel_rfl) (fun _ _ d _ _ h => by cases d <;> exact h) ?_
    rw [wpS]
    simp only [opsAt, opA, opB, opC, opD, opE, opF, opG]
    iterate 8 ((refine Zab (fun K hK => ?_); go_simp; refine hK _ ?_; clear hK K))
    refine Zag ?_
    intro V3 hV3
    have HX3 := hid (HXD.out.more hV3)
    have HG3 := hid (HGD'.out.ext hV3)
    clear ck cl hV3 HXD HGD'
    refine Zav fun Q1 hQ1 => ?_
    go_wp2_with fail
    refine (kblocks_c kk (by omega) vi V3).mono ?_
    rintro e w4 ⟨v, rfl, hown, x4⟩
    rw [HLA.out] at hown
    obtain ⟨a, ca, rfl, hbk, hab⟩ := kblocks_at LA8.out hown
    obtain ⟨S4, hS4⟩ : ∃ S', wideS S V3 w4 = S' := ⟨_, rfl⟩
    have HX4 := hid (show VX w w4 S4 r R gc c g ⟨c, 1 + (i : Int), false⟩ from hS4 ▸ HX3.out.wide x4)
    have HG4 := hid (HG3.out.ext x4)
    have HS4 := hid (show ∀ b, S b → S4 b from fun b hb => hS4 ▸ .inl hb)
    have HB4 := hid hbk
    have HP4 := hid (show ∀ b, a = some ⟨b, 0, none⟩ → S4 b ∧ b ≠ g from fun b q => ⟨hS4 ▸ HX3.out.ve.blk x4 hbk LA0.out hab b q, by have := hab b q; have := lt_of_block HX3.out.vol; omega⟩)
    clear hown hbk hab hS4
    go_wp2
    refine hQ1 _ _ (Ext.only x4) ?_
    clear hQ1 Q1 x4
    rw [wpS]
    simp only [opsAt, opA, opB, opC, opD, opE, opF, opG]
    refine Zag ?_
    intro V4 hV4
    have HX5 := hid (HX4.out.more hV4)
    have HG5 := hid (HG4.out.ext hV4)
    have HB5 := hid (HB4.out.ext hV4)
    clear hV4 HX4 HG4 HB4
    refine Zav fun Q2 hQ2 => ?_
    go_wp2_with fail
    refine (vcommit_c HX5.out.rack HX5.out.vol HX5.out.gS (show (0 : Int) ≤ 1 + (i : Int) by omega) sx la LA8.out LAB.out a ca HB5.out HP4.out).mono ?_
    rintro e w6 h6
    rw [HCM.out] at h6
    obtain rfl := h6.ret
    have HX6 := hid (show VX w w6 S4 r R' gc c g ⟨c, 2 + (i : Int), false⟩ from HX5.out.commit h6)
    have HG6 := hid (HG5.out.only h6.only fun q => q.elim (fun z => z (HS4.out b0 HSB.out)) HB0.out.2.2)
    have HK6 := hid (show Only (fun b => ¬ S b ∨ b = g) V4 w6 from Only.trans (Only.refl _ V4) h6.only (fun b _ hb => hb.elim (fun z => .inl fun q => z (HS4.out b q)) .inr))
    simp only [oErr]
    clear h6 HX5 HG5 HB5 HCM
    go_wp2
    refine hQ2 _ _ HK6.out ?_
    clear hQ2 Q2 HK6
    rw [wpS]
    simp only [opsAt, opA, opB, opC, opD, opE, opF, opG]
    iterate 5 ((refine Zab (fun K hK => ?_); go_simp; refine hK _ ?_; clear hK K))
    refine Zag ?_
    intro V5 hV5
    have HXA := hid (HX6.out.more hV5)
    have HGB := hid (HG6.out.ext hV5)
    clear hV5
    refine Zav fun Q3 hQ3 => ?_
    go_wp2_with fail
    refine (vseq_c HXA.out.vol).mono ?_
    rintro e _ ⟨rfl, rfl⟩
    go_wp2
    refine hQ3 _ _ (Only.refl _ _) ?_
    clear hQ3 Q3
    rw [wpS]
    simp only [opsAt, opA, opB, opC, opD, opE, opF, opG]
    iterate 2 ((refine Zab (fun K hK => ?_); go_simp; refine hK _ ?_; clear hK K))
    refine Zag ?_
    intro V6 hV6
    have HX7 := hid (HXA.out.more hV6)
    have HG7 := hid (HGB.out.ext hV6)
    have hcx := HG7.out.cell hx4
    have hfx := HG7.out.free sx
    have x0 : (0 : Int) ≤ (sx : Int) := by omega
    have x1 : (sx : Int) < 4 := by omega
    clear hV6 HX6 HG6 HXA HGB
    go_wp2_with fail
    generalize hW8 : V6.setCell _ _ = W8
    have HK8 := hid (show Only (fun b => b = b0) V6 W8 from hW8 ▸ Zbm _ _ _ _)
    have HG8 := hid (show GAt W8 b0 (fun y => if y = sx then 2 + (i : Int) else G y) from hW8 ▸ HG7.out.set sx (2 + (i : Int)))
    have HX8 := hid (show VX w W8 S4 r R' gc c g ⟨c, 2 + (i : Int), false⟩ from HX7.out.poke HK8.out fun b hb => by
     have hb : b = b0 := hb
     subst hb; exact ⟨HS4.out b HSB.out, HB0.out⟩)
    have HSB8 := hid (HS4.out b0 HSB.out)
    generalize (fun y => if y = sx then 2 + (i : Int) else G y) = G' at *
    clear hW8 HX7 HG7 hcx hfx HK8
    go_loopw [71] (fun t wd => ∃ y : Nat, t = .int .i64 y ∧ y ≤ 4 ∧ Ext W8 wd) (fun t _ => 4 - (intOf t).toNat)
    case atStart => exact ⟨0, rfl, by omega, Ext.refl _⟩
    case round =>
     obtain ⟨y, rfl, hy, hx⟩ := hrel
     have HXX := hid hx
     clear hx
     by_cases hy4 : y < 4
     ·
      have y1 : (y : Int) < 4 := by omega
      have y0 : (0 : Int) ≤ (y : Int) := by omega
      obtain ⟨l, hrd, hl8⟩ := HNU'.out.read HK4.out HN6.out (2 + (i : Int)) (x := y) (by rw [HST.out]; exact hy4)
      have HRD := hid hrd; have HL8 := hid hl8
      have HX9 := hid (HX8.out.more HXX.out)
      clear hrd hl8
      go_wp2_with fail
      refine (vread_c HX9.out.rack HX9.out.vol y).mono ?_
      rintro e w10 ⟨v, rfl, hown, x10⟩
      rw [HRD.out] at hown ⊢
      simp only at hown ⊢
      obtain ⟨a7, c7, rfl, _, _⟩ := kblocks_at HL8.out hown
      have HX10 := hid (Ext.trans HXX.out x10)
      have hcy : w10.cell? ⟨b0, y, none⟩ = some (.int .i64 (G' y)) := (HG8.out.ext HX10.out).cell hy4
      simp only [oErr]
      clear hown x10 HRD
      go_wp2_with fail
      go_roundw
      case rel => exact ⟨y + 1, by go_num, by omega, HX10.out⟩
      case measure => simp [intOf]; omega
     ·
      obtain rfl : y = 4 := by omega
      have HX9 := hid (HX8.out.more HXX.out)
      have HG9 := hid (HG8.out.ext HXX.out)
      go_wp2_with fail
      go_roundw
      case rel => exact ⟨i + 1, by go_num, by omega, by omega, R', G', S4, HNU'.out, by rw [show 1 + ((i + 1 : Nat) : Int) = 2 + (i : Int) by omega]; exact HX9.out, HG9.out, HSB8.out⟩
      case measure => simp [intOf]; omega
   ·
    have hi10x : i = 10 := by omega
    clear HNU HGA HSB
    obtain ⟨la, hla⟩ : ∃ l, blocksOf kk 1 = l := ⟨_, rfl⟩
    have LA8 := hid (hla ▸ blocksOf_108 kk 1)
    have LAB := hid (hla ▸ blocksOf_bytes kk 1)
    have LA0 := hid (show la ≠ [] from hla ▸ (by intro q; have := congrArg List.length q; rw [Zcf] at this; simp at this; omega))
    have LAN := hid (show (la.length : Int) = c.k by rw [← hla, Zcf, HK.out])
    have HLA := hid hla
    clear hla
    go_wp2_with fail
    refine (vfail_c HX.out.vol).mono ?_
    rintro e w7 ⟨rfl, hvol, ho7⟩
    have HX7 := hid (HX.out.setvol ho7 hvol)
    clear HX hvol ho7
    go_wp2_with fail
    refine (vread_c HX7.out.rack HX7.out.vol 0).mono ?_
    rintro e w8 ⟨v, rfl, hown, x8⟩
    rw [Vol.read_down] at hown ⊢
    simp only at hown ⊢
    obtain ⟨za, zc, rfl, _, _⟩ := kblocks_at (l := []) (by simp) hown
    obtain ⟨er, her⟩ : ∃ er, Err.fault sVRead 0 (.no 5) = er := ⟨_, rfl⟩
    have HLO : Hid (er.lost = false ∧ er.kind = 5) := hid (by rw [← her]; exact ⟨rfl, rfl⟩)
    rw [her]
    have HX8 := hid (HX7.out.more x8)
    simp only [oErr, List.length_nil]
    clear hown x8 her HX7
    go_wp2_with fail
    refine (vdown_c HX8.out.vol).mono ?_
    rintro e _ ⟨rfl, rfl⟩
    go_wp2_with fail
    refine (kind_no er HLO.out.1 _ (HG.out.only HX8.out.ext (fun x => x))).mono ?_
    rintro e w9 ⟨rfl, x9⟩
    rw [HLO.out.2]
    have HX9 := hid (HX8.out.more x9)
    have ck : w9.cell? ⟨gc, 1, none⟩ = some (.int .i64 kk) := HX9.out.c1.trans (by rw [HK.out])
    clear x9 HX8 HLO
    go_wp2_with fail
    refine (kblocks_c kk (by omega) 1 w9).mono ?_
    rintro e w10 ⟨v, rfl, hown, x10⟩
    rw [HLA.out] at hown
    obtain ⟨a5, c5, rfl, hbk, hab⟩ := kblocks_at LA8.out hown
    obtain ⟨S5, hS5⟩ : ∃ S', wideS S w9 w10 = S' := ⟨_, rfl⟩
    have HX10 := hid (hS5 ▸ HX9.out.wide x10)
    have HB10 := hid hbk
    have HP10 := hid (show ∀ b, a5 = some ⟨b, 0, none⟩ → S5 b ∧ b ≠ g from fun b q => ⟨hS5 ▸ HX9.out.ve.blk x10 hbk LA0.out hab b q, by have := hab b q; have := lt_of_block HX9.out.vol; omega⟩)
    have HCM := hid (Vol.commit_down HGD.out (1 + (i : Int)) R LAN.out)
    clear hown x10 hbk hab hS5 HX9 ck
    go_wp2_with fail
    refine (vcommit_c HX10.out.rack HX10.out.vol HX10.out.gS (show (0 : Int) ≤ 1 + (i : Int) by omega) 0 la LA8.out LAB.out a5 c5 HB10.out HP10.out).mono ?_
    rintro e w11 h11
    rw [HCM.out] at h11
    obtain rfl := h11.ret
    have HX11 := hid (show VX w w11 S5 r R gc c g ⟨c, 1 + (i : Int), true⟩ from HX10.out.commit h11)
    obtain ⟨er, her⟩ : ∃ er, Err.fault sVCommit 0 (.no 5) = er := ⟨_, rfl⟩
    have HLO : Hid (er.lost = false ∧ er.kind = 5) := hid (by rw [← her]; exact ⟨rfl, rfl⟩)
    rw [her]
    simp only [oErr]
    clear h11 HX10 HB10 HCM her
    go_wp2_with fail
    refine (kind_no er HLO.out.1 _ (HG.out.only HX11.out.ext (fun x => x))).mono ?_
    rintro e w12 ⟨rfl, x12⟩
    rw [HLO.out.2]
    have HX12 := hid (Ext.trans HX11.out.ext x12)
    clear x12 HX11 HLO
    go_wp2_with fail
    refine (volumeRuns_c w12 (HG.out.only HX12.out (fun x => x))).mono ?_
    rintro e w13 ⟨rfl, x13⟩
    have HX13 := hid (Ext.trans HX12.out x13)
    clear x13
    go_wp2
    go_ret
    exact ⟨rfl, HX13.out⟩
  ·
   obtain rfl : i = olen := by omega
   clear HNU HGA HSB
   obtain ⟨la, hla⟩ : ∃ l, blocksOf kk 1 = l := ⟨_, rfl⟩
   have LA8 := hid (hla ▸ blocksOf_108 kk 1)
   have LAB := hid (hla ▸ blocksOf_bytes kk 1)
   have LA0 := hid (show la ≠ [] from hla ▸ (by intro q; have := congrArg List.length q; rw [Zcf] at this; simp at this; omega))
   have LAN := hid (show (la.length : Int) = c.k by rw [← hla, Zcf, HK.out])
   have HLA := hid hla
   clear hla
   go_wp2_with fail
   refine (vfail_c HX.out.vol).mono ?_
   rintro e w7 ⟨rfl, hvol, ho7⟩
   have HX7 := hid (HX.out.setvol ho7 hvol)
   clear HX hvol ho7
   go_wp2_with fail
   refine (vread_c HX7.out.rack HX7.out.vol 0).mono ?_
   rintro e w8 ⟨v, rfl, hown, x8⟩
   rw [Vol.read_down] at hown ⊢
   simp only at hown ⊢
   obtain ⟨za, zc, rfl, _, _⟩ := kblocks_at (l := []) (by simp) hown
   obtain ⟨er, her⟩ : ∃ er, Err.fault sVRead 0 (.no 5) = er := ⟨_, rfl⟩
   have HLO : Hid (er.lost = false ∧ er.kind = 5) := hid (by rw [← her]; exact ⟨rfl, rfl⟩)
   rw [her]
   have HX8 := hid (HX7.out.more x8)
   simp only [oErr, List.length_nil]
   clear hown x8 her HX7
   go_wp2_with fail
   refine (vdown_c HX8.out.vol).mono ?_
   rintro e _ ⟨rfl, rfl⟩
   go_wp2_with fail
   refine (kind_no er HLO.out.1 _ (HG.out.only HX8.out.ext (fun x => x))).mono ?_
   rintro e w9 ⟨rfl, x9⟩
   rw [HLO.out.2]
   have HX9 := hid (HX8.out.more x9)
   have ck : w9.cell? ⟨gc, 1, none⟩ = some (.int .i64 kk) := HX9.out.c1.trans (by rw [HK.out])
   clear x9 HX8 HLO
   go_wp2_with fail
   refine (kblocks_c kk (by omega) 1 w9).mono ?_
   rintro e w10 ⟨v, rfl, hown, x10⟩
   rw [HLA.out] at hown
   obtain ⟨a5, c5, rfl, hbk, hab⟩ := kblocks_at LA8.out hown
   obtain ⟨S5, hS5⟩ : ∃ S', wideS S w9 w10 = S' := ⟨_, rfl⟩
   have HX10 := hid (hS5 ▸ HX9.out.wide x10)
   have HB10 := hid hbk
   have HP10 := hid (show ∀ b, a5 = some ⟨b, 0, none⟩ → S5 b ∧ b ≠ g from fun b q => ⟨hS5 ▸ HX9.out.ve.blk x10 hbk LA0.out hab b q, by have := hab b q; have := lt_of_block HX9.out.vol; omega⟩)
   have HCM := hid (Vol.commit_down HGD.out (1 + (i : Int)) R LAN.out)
   clear hown x10 hbk hab hS5 HX9 ck
   go_wp2_with fail
   refine (vcommit_c HX10.out.rack HX10.out.vol HX10.out.gS (show (0 : Int) ≤ 1 + (i : Int) by omega) 0 la LA8.out LAB.out a5 c5 HB10.out HP10.out).mono ?_
   rintro e w11 h11
   rw [HCM.out] at h11
   obtain rfl := h11.ret
   have HX11 := hid (show VX w w11 S5 r R gc c g ⟨c, 1 + (i : Int), true⟩ from HX10.out.commit h11)
   obtain ⟨er, her⟩ : ∃ er, Err.fault sVCommit 0 (.no 5) = er := ⟨_, rfl⟩
   have HLO : Hid (er.lost = false ∧ er.kind = 5) := hid (by rw [← her]; exact ⟨rfl, rfl⟩)
   rw [her]
   simp only [oErr]
   clear h11 HX10 HB10 HCM her
   go_wp2_with fail
   refine (kind_no er HLO.out.1 _ (HG.out.only HX11.out.ext (fun x => x))).mono ?_
   rintro e w12 ⟨rfl, x12⟩
   rw [HLO.out.2]
   have HX12 := hid (Ext.trans HX11.out.ext x12)
   clear x12 HX11 HLO
   go_wp2_with fail
   refine (volumeRuns_c w12 (HG.out.only HX12.out (fun x => x))).mono ?_
   rintro e w13 ⟨rfl, x13⟩
   have HX13 := hid (Ext.trans HX12.out x13)
   clear x13
   go_wp2
   go_ret
   exact ⟨rfl, HX13.out⟩
end Go.Proofs.YthopnbklmlopkaaGreatDoor
namespace Go.Proofs.YthopnbklmlopkaaGreatDoor.volumeNumbers
open Go.ChangeShapes Go.WideShapes Go.ChangeAt Go.RowKit
open Go.ChangeMaps (open_string shut_string)
set_option linter.unusedVariables false
theorem laidOut : laidOutB Tryz.prog = true := by kernel_rfl
theorem walk (a0 : Int) (a1 : Int) (a2 : Option Addr) (len2 cap2 : Nat) (z2 : List Int) (w : World) (hg : EtLaid w) (w0 : (Lit.int .i64 a0).wf = true) (w1 : (Lit.int .i64 a1).wf = true) (w2 : IsRow .i64 w a2 len2 cap2 z2) :
  Calls Tryz.prog 9 #[.int .i64 a0, .int .i64 a1, .slice a2 len2 cap2] w fun e w' => e = .returned (.bool true) ∧ Below w.heap.size w w' :=
 (volumeNumbers_c a0 a1 a2 len2 cap2 z2 w hg w2).mono fun _ _ ⟨he, hx⟩ => ⟨he, hx.below⟩
set_option maxRecDepth 100000 in
theorem lifted (os : Os) (started : os.Started) (H : Type) (enc : TypeId × Value → H) :
  ReturnsInHanded {} Tryz.checked os 9 .any (fun w args => (Rows.volumeNumbersSpec.pre enc Tryz.prog Tryz.f9 [] false w args ∧ laidMetH Tryz.prog theLaid w) ∧ sizedMet enc Tryz.prog Tryz.f9 (OpenSpec.ofChange Rows.volumeNumbersSpec) false w args)
   (Rows.volumeNumbersSpec.post enc Tryz.prog Tryz.f9 false true false false) := by
 refine returnsInHanded_of_change_and (C := Tryz.checked) (X := fun w _ => laidMetH Tryz.prog theLaid w) (fun _ _ _ hh h => h.of_heap hh) hOwn started (by kernel_rfl) Tryz.func9
  (ChangeSpec.witness_at (enc := enc) (C := Tryz.checked) (os := os) (X := fun w _ => laidMetH Tryz.prog theLaid w) false (laidWorld os) #[.int .i64 0, .int .i64 0, .slice none 0 0] 8 rfl (by kernel_rfl) (by kernel_rfl) (by kernel_rfl) (by kernel_rfl) (by kernel_rfl) (laidWorld_met os _)) ?_
 intro W base args ds gs before hval0 hW _ _ hL _
 have hval : ∀ (j : Nat) t v, Tryz.f9.params[j]? = some t → args[j]? = some v → Value.okWide Tryz.prog W .any base t v := hval0
 have hW' := hW
 obtain ⟨p, q, hA0, hV, rfl, hfz, hnd⟩ := hW
 have hA : DataW.TrodAll enc Tryz.prog W 0 (fun _ => true) true Tryz.f9.params.toList args.toList ds p := hA0
 rw [Tryz.params9] at hA hval
 obtain ⟨v0, vs0, d0, ds0, p0, q0, hargs, rfl, rfl, h0, r0⟩ := trodAll_cons hA
 obtain ⟨v1, vs1, d1, ds1, p1, q1, rfl, rfl, rfl, h1, r1⟩ := trodAll_cons r0
 obtain ⟨v2, vs2, d2, ds2, p2, q2, rfl, rfl, rfl, h2, r2⟩ := trodAll_cons r1
 obtain ⟨rfl, rfl, rfl⟩ := trodAll_nil r2
 obtain rfl : args = #[v0, v1, v2] := by cases args; simp_all
 obtain ⟨rfl, rfl⟩ := trodVars_none hV
 obtain ⟨a0, rfl, rfl, rfl, w0⟩ := open_int Tryz.underlying3 (hval 0 3 v0 rfl rfl) h0
 obtain ⟨a1, rfl, rfl, rfl, w1⟩ := open_int Tryz.underlying3 (hval 1 3 v1 rfl rfl) h1
 obtain ⟨a2, len2, cap2, rfl⟩ := okWide_slice Tryz.underlying47 (hval 2 47 v2 rfl rfl)
 have k2 := h2
 have lt2 : ∀ x ∈ p2, x.block < W.heap.size := by obtain ⟨m, hm⟩ := k2; exact DataW.trod_lt m _ _ _ hm
 obtain ⟨z2, w2⟩ : ∃ zs, IsRow .i64 W a2 len2 cap2 zs := by
  obtain ⟨fuel, hf⟩ := h2
  rcases open_ints Tryz.underlying47 Tryz.underlying3 (by kernel_rfl) hf with ⟨hcs, _⟩ | ⟨x, l, c, zs, hcs, _, hl, hm, hz, _, hcell, hwz⟩
  ·
   simp [Value.cells] at hcs
   obtain ⟨rfl, rfl, rfl⟩ := hcs
   exact ⟨[], .inl ⟨rfl, rfl, rfl, rfl⟩⟩
  ·
   simp [Value.cells] at hcs
   obtain ⟨rfl, rfl, rfl⟩ := hcs
   exact ⟨zs, .inr ⟨_, rfl, hl, hm, by simpa using hz, hcell, hwz⟩⟩
 have hg := etLaid_of hL
 clear hA0 hval0
 simp only [List.append_nil] at hW'
 refine (walk a0 a1 a2 len2 cap2 z2 W hg w0 w1 w2).mono fun e W' ⟨he, bel⟩ => ?_
 subst he
 exact ⟨_, rfl, _, _, _, [], _, [], hW', trodAll_mk1 (shut_bool Tryz.underlying4 _), (trodAll_cons_mk (shut_int Tryz.underlying3 w0) (trodAll_cons_mk (shut_int Tryz.underlying3 w1) (trodAll_cons_mk (Below.trod laidOut (by kernel_rfl) (of_decide_eq_true (by kernel_rfl)) k2 bel lt2) trodAll_mk0))), rfl, bel.frame _, fun h => by cases h⟩
theorem over : Rows.VolumeNumbersSaid :=
 OpenClaim.holds_of_wide 9 Tryz.f9 rfl rfl rfl rfl rfl rfl rfl ⟨rfl, rfl, rfl, rfl, rfl⟩ rfl rfl rfl rfl rfl (by kernel_rfl) Tryz.func9 (by kernel_rfl)
  (of_decide_eq_true (by kernel_rfl)) (by unfold Func.isWrapper; first | (rw [if_pos (by decide +kernel)]; kernel_rfl) | (rw [if_neg (by decide +kernel)]; exact ⟨rfl, rfl⟩))
  (fun os started H enc _ => lifted os started H enc)
theorem proved : Rows.VolumeNumbersCardSaid :=
 Claim7.holds_tied_plain_at .later [] [.handle] true (true, "78ccd102cf05009196ad3b49c15c4e1faf28f1e8affa82089162968d416a4bff") true
  over (fun _ h => by cases h) (by kernel_rfl) (fun _ h => by cases h) volumeNumbers_row_tie rfl ⟨rfl, rfl⟩ (by kernel_rfl) rfl
  (fun f fn hf hfn => by
   obtain rfl : f = 9 := Option.some.inj ((show Tryz.prog.funcNamed "stave/stavelaw12.VolumeNumbers" = some 9 by kernel_rfl).symm.trans hf) |>.symm
   obtain rfl : fn = Tryz.f9 := (Option.some.inj (Tryz.func9.symm.trans hfn)).symm
   exact ⟨by kernel_rfl, fun j t ht => by
    rw [Tryz.params9] at ht
    rcases j with _ | _ | _ | j
    ·
     simp at ht; subst ht; kernel_rfl
    ·
     simp at ht; subst ht; kernel_rfl
    ·
     simp at ht; subst ht; kernel_rfl
    ·
     simp at ht⟩)
  (by kernel_rfl)
#print axioms proved
end Go.Proofs.YthopnbklmlopkaaGreatDoor.volumeNumbers
