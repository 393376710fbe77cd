/- Texts of one proof, joined: WVolumeRuns. -/
import Derived.Test.YtbdfjiedceaoiaaGreatDoorQT
import Derived.Test.YtbdfjiedceaoiaaGreatDoorQS
import Derived.Test.YtbdfjiedceaoiaaGreatDoorQJ
import Derived.Test.YtbdfjiedceaoiaaGreatDoorQC
set_option linter.unusedVariables false
set_option linter.unusedSimpArgs false
namespace Go.Proofs.YtbdfjiedceaoiaaGreatDoor
set_option linter.unusedVariables false
open Go Go.RowKit
set_option maxRecDepth 100000 in
set_option maxHeartbeats 2000000 in
theorem volumeRuns_c (w : World) (hg : EtLaid w) : Calls Tryz.prog 18 #[] w fun e w' => e = .returned (.bool true) ∧ Ext w w' := by
 have HG := hid hg
 have hzc := Zcj
 have HCS := hid Cfg.A_size
 have HB : Hid (Tryz.prog.built 24 [(0, .int .i64 9), (1, .int .i64 2), (2, .int .i64 3), (3, .int .i64 2), (4, .int .i64 1)] = some (Cfg.A Runs12.c)) := hid (built_cfg Runs12.c)
 obtain ⟨R1, R2, R3, R5, cur, hall⟩ := Runs12.all
 obtain ⟨C, hC⟩ : ∃ C, Runs12.c = C := ⟨_, rfl⟩
 obtain ⟨la, hla⟩ : ∃ l, Runs12.a = l := ⟨_, rfl⟩
 have LA8 := hid (show ∀ b ∈ la, b.length = 108 from hla ▸ blocksOf_108 2 4)
 have LAB := hid (show ∀ b ∈ la, ∀ x ∈ b, x < 256 from hla ▸ blocksOf_bytes 2 4)
 have LAN := hid (show la.length ≤ 8 from hla ▸ (by show (blocksOf 2 4).length ≤ 8; rw [Zcd]; omega))
 have LA0 := hid (show la ≠ [] from hla ▸ (by show blocksOf 2 4 ≠ []; intro q; have := congrArg List.length q; rw [Zcd] at this; simp at this))
 have HLA := hid (show blocksOf 2 4 = la from hla)
 have HM1 := hid (hC ▸ hall.m1)
 have HO1 := hid (show R1.vopen = (none, R2, C, 1) from hC ▸ hall.o1)
 have HCM := hid (show Vol.commit ⟨C, 1, false⟩ R2 1 la = (none, R3, ⟨C, 2, false⟩) from hC ▸ hla ▸ hall.cm)
 have HR1 := hid (show Vol.read ⟨C, 2, false⟩ R3 1 = (la, 2, none) from hC ▸ hla ▸ hall.r1)
 have HO2 := hid (show (R3.boot []).vopen = (none, R5, C, cur) from hC ▸ hall.o2)
 have HR2 := hid (show Vol.read ⟨C, cur, false⟩ R5 1 = (la, 2, none) from hC ▸ hla ▸ hall.r2)
 obtain ⟨er, her⟩ : ∃ er, Runs12.lostE = er := ⟨_, rfl⟩
 have HO3 := hid (show ((R5.die 0).die 1).vopen = (some er, (R5.die 0).die 1, Cfg.zero, 0) from her ▸ hall.o3)
 have HEK := hid (show er.kind = 7 from her ▸ rfl)
 have HEL := hid (show er.lost = false from her ▸ rfl)
 rw [hC] at HB
 obtain ⟨W1, hW1⟩ : ∃ W, w.alloc (.cells (Cfg.A C) 24) = W := ⟨_, rfl⟩
 have X1 := hid (show Ext w W1 from hW1 ▸ (Ext.refl w).alloc _)
 have HC := hid (show W1.heap[w.heap.size]? = some (.cells (Cfg.A C) 24 (0, 0)) from hW1 ▸ heap_alloc_new _ _)
 have hbs : (w.alloc (.cells (Cfg.A Cfg.zero) 24)).heap[w.heap.size]? = some (.cells (Cfg.A Cfg.zero) 24 (0, 0)) := Zad
 clear hC hla hall her hg
 go_enter Tryz.func18, Tryz.ntmps18
 go_wp2_with (first
  | (guard_target = wpList _ _ _ (⟨some _, Op.build _ _, _, _, _, none⟩ :: _) _ _; refine Zaq rfl 24 _ rfl (Cfg.A C) ?_ ?_; (simp only [List.map_toArray, List.map_cons, List.map_nil, Act.eval]; exact HB.out))
  | (guard_target = wpList _ _ _ (⟨none, Op.store _ _ _, _, _, _, none⟩ :: _) _ _; refine Zaa rfl 24 _ _ rfl w.heap.size rfl (Cfg.A C) _ rfl 24 ?_ hbs ?_ ?_ ?_; (rw [HCS.out]; exact aggCfg); (rw [HCS.out, HCS.out]); exact Cfg.A_one _))
 rw [Zai, hW1]
 refine (at_new 3 5 (by omega) (by omega) (by omega) (by omega) W1).mono ?_
 rintro e w2 ⟨r, rfl, h2, x2⟩
 have HV2 := hid (show VE w w2 (fun b => b < W1.heap.size) r (Rck.new 3 5) from ⟨h2, Ext.trans X1.out x2, fun b hb => Nat.lt_of_lt_of_le hb X1.out.size⟩)
 have HC2 := hid (x2.at HC.out)
 clear h2 x2 hbs HC X1
 go_wp2_with (guard_target = wpList _ _ _ (⟨some _, Op.load _ _, _, _, _, some _⟩ :: _) _ _; refine Zay 24 _ rfl ⟨w.heap.size, 0, none⟩ rfl (Cfg.A C) rfl (Zat C) (Zah HC2.out) ?_)
 refine (vmake_c HV2.out.rack C).mono ?_
 rintro e w3 ⟨rfl, h3, k3⟩
 rw [HM1.out] at h3 ⊢
 simp only [oErr]
 have HV3 := hid (HV2.out.keep h3 k3)
 clear h3 k3 HV2 HC2 hW1
 go_wp2_with fail
 refine (vopen_c HV3.out.rack).mono ?_
 rintro e w4 h4
 rw [HO1.out] at h4
 rcases h4 with ⟨_, q, _⟩ | ⟨_, g, T, hok⟩
 ·
  cases q
 obtain rfl := hok.ret
 have HV4 := hid (show VE w w4 T r R2 from HV3.out.opened hok)
 have HA4 := hid (show VolAt w4 g r ⟨C, 1, false⟩ from hok.vol)
 have HTG := hid hok.gT
 have HWG := hid (show w.heap.size ≤ g from Nat.le_trans HV3.out.ext.size hok.new)
 clear hok HV3
 go_wp2_with fail
 refine (vseq_c HA4.out).mono ?_
 rintro e _ ⟨rfl, rfl⟩
 go_wp2_with fail
 refine (kblocks_c 2 (by omega) 4 w4).mono ?_
 rintro e w5 ⟨v, rfl, hown, x5⟩
 rw [HLA.out] at hown
 obtain ⟨a5, c5, rfl, hbk, hab⟩ := kblocks_at LA8.out hown
 obtain ⟨S5, hS5⟩ : ∃ S, wideS T w4 w5 = S := ⟨_, rfl⟩
 have HV5 := hid (show VE w w5 S5 r R2 from hS5 ▸ HV4.out.wide x5)
 have HA5 := hid (HA4.out.ext x5)
 have HS5 := hid (show S5 g from hS5 ▸ .inl HTG.out)
 have HB5 := hid hbk
 have HP5 := hid (show ∀ b, a5 = some ⟨b, 0, none⟩ → S5 b ∧ b ≠ g from fun b q => ⟨hS5 ▸ HV4.out.blk x5 hbk LA0.out hab b q, by have := hab b q; have := lt_of_block HA4.out; omega⟩)
 clear hown x5 hbk hab hS5 HV4 HA4
 go_wp2_with fail
 refine (vcommit_c HV5.out.rack HA5.out HS5.out (show (0 : Int) ≤ 1 by omega) 1 la LA8.out LAB.out a5 c5 HB5.out HP5.out).mono ?_
 rintro e w6 h6
 rw [HCM.out] at h6
 obtain rfl := h6.ret
 have HV6 := hid (show VE w w6 S5 r R3 from HV5.out.commit HWG.out h6)
 have HA6 := hid (show VolAt w6 g r ⟨C, 2, false⟩ from h6.vol)
 simp only [oErr]
 clear h6 HV5 HA5 HB5
 go_wp2_with fail
 refine (vread_c HV6.out.rack HA6.out 1).mono ?_
 rintro e w7 ⟨v, rfl, hown, x7⟩
 rw [HR1.out] at hown ⊢
 simp only at hown ⊢
 obtain ⟨a7, c7, rfl, hbk, hab⟩ := kblocks_at LA8.out hown
 obtain ⟨S7, hS7⟩ : ∃ S, wideS S5 w6 w7 = S := ⟨_, rfl⟩
 have HV7 := hid (show VE w w7 S7 r R3 from hS7 ▸ HV6.out.wide x7)
 have HB7 := hid hbk
 have HP7 := hid (show ∀ b, a7 = some ⟨b, 0, none⟩ → S7 b from hS7 ▸ HV6.out.blk x7 hbk LA0.out hab)
 simp only [oErr]
 clear hown x7 hbk hab hS7 HV6 HA6
 go_wp2_with fail
 refine (at_boot HV7.out.rack none 0 0 [] ⟨rfl, fun x hx => absurd hx List.not_mem_nil, .inl rfl⟩ (fun p hp => by cases hp)).mono ?_
 rintro e w8 ⟨rfl, h8, k8⟩
 have HV8 := hid (HV7.out.keep h8 k8)
 have HB8 := hid (HB7.out.only k8 fun b hb q => q (HP7.out b hb))
 clear h8 k8 HV7 HB7
 go_wp2_with fail
 refine (vopen_c HV8.out.rack).mono ?_
 rintro e w9 h9
 rw [HO2.out] at h9
 rcases h9 with ⟨_, q, _⟩ | ⟨_, g2, T2, hok⟩
 ·
  cases q
 obtain rfl := hok.ret
 have HV9 := hid (show VE w w9 T2 r R5 from HV8.out.opened hok)
 have HA9 := hid (show VolAt w9 g2 r ⟨C, cur, false⟩ from hok.vol)
 have HB9 := hid (HB8.out.only hok.keep fun b hb q => q (HP7.out b hb))
 have HP9 := hid (fun b hb => hok.low b (HP7.out b hb))
 clear hok HV8 HB8
 go_wp2_with fail
 refine (vread_c HV9.out.rack HA9.out 1).mono ?_
 rintro e w10 ⟨v, rfl, hown, x10⟩
 rw [HR2.out] at hown ⊢
 simp only at hown ⊢
 obtain ⟨a10, c10, rfl, hbk, hab⟩ := kblocks_at LA8.out hown
 obtain ⟨S10, hS10⟩ : ∃ S, wideS T2 w9 w10 = S := ⟨_, rfl⟩
 have HV10 := hid (show VE w w10 S10 r R5 from hS10 ▸ HV9.out.wide x10)
 have HB10 := hid hbk
 have HP10 := hid (show ∀ b, a10 = some ⟨b, 0, none⟩ → S10 b from hS10 ▸ HV9.out.blk x10 hbk LA0.out hab)
 have HBB := hid (HB9.out.ext x10)
 have HPP := hid (show ∀ b, a7 = some ⟨b, 0, none⟩ → S10 b from fun b hb => hS10 ▸ .inl (HP9.out b hb))
 simp only [oErr]
 clear hown x10 hbk hab hS10 HV9 HA9 HB9
 go_wp2_with fail
 refine (at_die HV10.out.rack 0).mono ?_
 rintro e w11 ⟨rfl, h11, k11⟩
 have HV11 := hid (HV10.out.keep h11 k11)
 have HB11 := hid (HB10.out.only k11 fun b hb q => q (HP10.out b hb))
 have HC11 := hid (HBB.out.only k11 fun b hb q => q (HPP.out b hb))
 clear h11 k11 HV10 HB10 HBB
 go_wp2_with fail
 refine (at_die HV11.out.rack 1).mono ?_
 rintro e w12 ⟨rfl, h12, k12⟩
 have HV12 := hid (HV11.out.keep h12 k12)
 have HB12 := hid (HB11.out.only k12 fun b hb q => q (HP10.out b hb))
 have HC12 := hid (HC11.out.only k12 fun b hb q => q (HPP.out b hb))
 clear h12 k12 HV11 HB11 HC11
 go_wp2_with fail
 refine (vopen_c HV12.out.rack).mono ?_
 rintro e w13 h13
 rw [HO3.out] at h13
 rcases h13 with ⟨er2, q, hbad⟩ | ⟨q, _⟩
 case inr => cases q
 obtain rfl : er = er2 := by simpa using q
 obtain rfl := hbad.ret
 have HV13 := hid (show VE w w13 S10 r ((R5.die 0).die 1) from HV12.out.keep hbad.rack hbad.keep)
 have HB13 := hid (HB12.out.only hbad.keep fun b hb q => q (HP10.out b hb))
 have HC13 := hid (HC12.out.only hbad.keep fun b hb q => q (HPP.out b hb))
 clear hbad q HV12 HB12 HC12
 go_wp2_with fail
 refine (kblocks_c 2 (by omega) 4 w13).mono ?_
 rintro e w14 ⟨v, rfl, hown, x14⟩
 rw [HLA.out] at hown
 obtain ⟨a14, c14, rfl, hbk, hab⟩ := kblocks_at LA8.out hown
 have HV14 := hid (HV13.out.more x14)
 have HB14 := hid (HB13.out.ext x14)
 have HC14 := hid (HC13.out.ext x14)
 have HD14 := hid hbk
 clear hown x14 hbk hab HV13 HB13 HC13
 go_wp2_with fail
 refine (sameblk_c la LA8.out LAN.out a7 a14 c7 c14 _ HC14.out HD14.out).mono ?_
 rintro e w15 ⟨rfl, x15⟩
 have HV15 := hid (HV14.out.more x15)
 have HB15 := hid (HB14.out.ext x15)
 have HC15 := hid (HC14.out.ext x15)
 clear x15 HV14 HB14 HC14
 go_wp2_with fail
 refine (sameblk_c la LA8.out LAN.out a10 a7 c10 c7 _ HB15.out HC15.out).mono ?_
 rintro e w16 ⟨rfl, x16⟩
 have HV16 := hid (HV15.out.more x16)
 clear x16 HV15 HB15 HC15
 go_wp2_with fail
 refine (kind_no er HEL.out _ (HG.out.only HV16.out.ext (fun x => x))).mono ?_
 rintro e w17 ⟨rfl, x17⟩
 rw [HEK.out]
 have HX := hid (Ext.trans HV16.out.ext x17)
 clear x17 HV16
 go_wp2
 go_ret
 exact ⟨rfl, HX.out⟩
end Go.Proofs.YtbdfjiedceaoiaaGreatDoor
