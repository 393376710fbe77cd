/- The statement StripeOlder, as its tied card: for every input the call of stavelaw11's StripeOlder answers true, and its arguments read behind it as they read before. No condition of our own. -/
/- Texts of one proof, joined: WStripeOlder, LawStripeOlder. -/
import Derived.Test.YtkofmabonpbegaaGreatDoorPartO
import Derived.Test.YtkofmabonpbegaaGreatDoorPartJ
import Derived.Test.YtkofmabonpbegaaGreatDoorPartP
import Derived.Test.YtkofmabonpbegaaGreatDoorCards
import Derived.Test.YtkofmabonpbegaaGreatDoorTie
import Derived.Test.YtkofmabonpbegaaGreatDoorPartC
import Derived.WalkKit
import Derived.ProofKit
import Derived.OpenShut
import Derived.ShutString
import Derived.ChangeOld
import Derived.Below
import Derived.SevenTiedAt
set_option linter.unusedVariables false
set_option linter.unusedSimpArgs false
/- The walk of StripeOlder. -/
namespace Go.Proofs.YtkofmabonpbegaaGreatDoor
set_option linter.unusedVariables false
open Go Go.RowKit
set_option maxRecDepth 100000 in
set_option maxHeartbeats 4000000 in
theorem stripeOlder_c (k n d a0 : Int) (w : World) (hg : EtLaid w) :
    Calls Tryz.prog 3 #[.int .i64 k, .int .i64 n, .int .i64 d, .int .i64 a0] w fun e w' => e = .returned (.bool true) ∧ Ext w w' := by
  have HG := hid hg
  have hzc := zero_cfg
  have hzl := zero_loss
  have HCS := hid Cfg.A_size
  clear hg
  go_enter Tryz.func3, Tryz.ntmps3
  go_wp2_with fail
  refine (kfixed_c k n 1 1 _).mono ?_
  rintro e w1 ⟨rfl, x1⟩
  have HGD := hid (show (keepFixed k n 1 1).Good from keepFixed_good k n 1 1 (by omega) (by omega) (by omega) (by omega))
  have HK4 := hid (keepFixed_k4 k n 1 1)
  have HN6 := hid (keepFixed_n6 k n 1 1)
  have HST := hid (show (keepFixed k n 1 1).stripes = 1 from rfl)
  have HSL := hid (show (keepFixed k n 1 1).slots = 1 from rfl)
  generalize keepFixed k n 1 1 = c at *
  obtain ⟨W1, hW1⟩ : ∃ W, w1.alloc (.cells (Cfg.A c) 23) = W := ⟨_, rfl⟩
  have X1 := hid (show Ext w W1 from hW1 ▸ x1.alloc _)
  have HC := hid (show W1.heap[w1.heap.size]? = some (.cells (Cfg.A c) 23 (0, 0)) from hW1 ▸ heap_alloc_new _ _)
  have hbs : (w1.alloc (.cells (Cfg.A Cfg.zero) 23)).heap[w1.heap.size]? = some (.cells (Cfg.A Cfg.zero) 23 (0, 0)) := block_alloc
  clear x1
  go_wp2_with (guard_target = wpList _ _ _ ({ dst := none, op := Op.store _ _ _, type := _, pos := _, after := _, guard := none } :: _) _ _; refine wpList_store_whole rfl 23 _ _ rfl w1.heap.size rfl (Cfg.A c) _ rfl 23 ?_ hbs ?_ ?_ ?_; (rw [HCS.out]; exact aggCfg); (rw [HCS.out, HCS.out]); exact Cfg.A_one _)
  rw [setRow_alloc, hW1]
  clear hbs hW1
  have HLT := hid (lt_of_block HC.out)
  generalize w1.heap.size = g at *
  obtain ⟨m, hm, m1, m128⟩ := sectors_nat c HGD.out
  obtain ⟨nn, hn⟩ : ∃ nn : Nat, c.n = nn := ⟨c.n.toNat, by have := HGD.out.k0; have := HGD.out.k1; omega⟩
  obtain ⟨kk, hk⟩ : ∃ kk : Nat, c.k = kk := ⟨c.k.toNat, by have := HGD.out.k0; omega⟩
  have HNT := hid (show c.n.toNat = nn by omega)
  have HKT := hid (show c.k.toNat = kk by omega)
  have n1 : 1 ≤ nn := by have := HGD.out.k0; have := HGD.out.k1; omega
  have n8 : nn ≤ 6 := by have := HN6.out; omega
  have k1 : 1 ≤ kk := by have := HGD.out.k0; omega
  have k4 : kk ≤ 4 := by have := HK4.out; omega
  have HKN := hid (show kk ≤ nn by have := HGD.out.k1; omega)
  have HM := hid hm; have HN := hid hn; have HK := hid hk
  have xd : Ext W1 W1.drew := (Ext.refl W1).drew
  have lc : Hid (∀ x : SW Ext W1.drew, ∀ j v, (Cfg.A c).toList[j]? = some v → x.w.cell? ((⟨g, 0, none⟩ : Addr).add j) = some v) := hid fun x => agg_cells ((Ext.trans xd x.ext).at HC.out)
  have c2 : ∀ x : SW Ext W1.drew, x.w.cell? ⟨g, 2, none⟩ = some (.int .i64 nn) := fun x => (cell_at ((Ext.trans xd x.ext).at HC.out)).trans (by rw [Cfg.A2, HN.out])
  have sc : Hid (∀ x : SW Ext W1.drew, Calls Tryz.prog 8 #[.agg (Cfg.A c)] x.w fun e w'' => e = .returned (.int .i64 m) ∧ Ext x.w w'') := hid fun x => by
    have := ksectors_c c HGD.out x.w
    rw [HM.out] at this
    exact this
  have HAG := hid (cfg_agg c)
  clear hm hn hk
  refine wp_region_rely_all (S := Ext) (.one [0, 1, 2, 3] 4 (.fin [5, 6, 7, 8, 9])) (by kernel_rfl) (by kernel_rfl) (fun _ _ d _ _ h => by cases d <;> exact h) ?_
  rw [wpS]
  simp only [opsAt, List.map_cons, List.map_nil, Array.getD_eq_getD_getElem?, List.getElem?_toArray, List.getElem?_cons_succ, List.getElem?_cons_zero, Option.getD_some]
  iterate 2 ((refine wpSQ_step (fun K hK => ?_); go_simp; first | (refine hK _ ?_; clear hK K) | (apply Exists.intro; refine ⟨fun x => ?_, hK _ ?_⟩; (fail); clear hK K)))
  refine wpSQ_load_agg 23 _ rfl ⟨g, 0, none⟩ rfl (Cfg.A c) rfl HAG.out lc.out ?_
  (refine wpSQ_step (fun K hK => ?_); go_simp; first | (refine hK _ ?_; clear hK K) | (apply Exists.intro; refine ⟨fun x => ?_, hK _ ?_⟩; (exact sc.out x); clear hK K))
  refine wpSQ_nil ?_
  intro V1 hV1
  refine wpS_loud fun K hK => ?_
  go_wp2_with fail
  refine (at_new nn m n1 (by omega) m1 m128 V1).mono ?_
  rintro e w2 ⟨r, rfl, h2, x2⟩
  go_wp2
  refine hK _ _ x2 ?_
  clear hK K
  rw [wpS]
  simp only [opsAt, List.map_cons, List.map_nil, Array.getD_eq_getD_getElem?, List.getElem?_toArray, List.getElem?_cons_succ, List.getElem?_cons_zero, Option.getD_some]
  iterate 5 ((refine wpSQ_step (fun K hK => ?_); go_simp; first | (refine hK _ ?_; clear hK K) | (apply Exists.intro; refine ⟨fun x => ?_, hK _ ?_⟩; (fail); clear hK K)))
  refine wpSQ_nil ?_
  intro V2 hV2
  obtain ⟨S0, hS0⟩ : ∃ S : Nat → Prop, (fun b => b < W1.heap.size) = S := ⟨_, rfl⟩
  have HJ2 := hid (show SE w V2 S0 r (Rck.new nn m) g c [] from hS0 ▸ ⟨(h2.less fun b hb => Nat.lt_of_lt_of_le hb (Ext.trans xd hV1).size).ext hV2, Ext.trans X1.out (Ext.trans xd (Ext.trans hV1 (Ext.trans x2 hV2))), fun b hb => Nat.lt_of_lt_of_le hb X1.out.size, (Ext.trans xd (Ext.trans hV1 (Ext.trans x2 hV2))).at HC.out, HLT.out, fun p hp => by simp at hp⟩)
  have HSR0 : Hid (SR (Rck.new nn m) c m (fun _ => none) allU fun _ => noB) := hid (by
    have := SR.new HGD.out (m := m) (by rw [HM.out]; exact Int.le_refl _)
    rw [HNT.out] at this
    exact this)
  clear h2 x2 hV1 hV2 lc c2 sc xd X1 HC HLT hS0
  have xd : Ext V2 V2.drew := (Ext.refl V2).drew
  have HJD := hid (HJ2.out.more xd)
  have lc : Hid (∀ y : SW (Only fun b => ¬ S0 b) V2.drew, ∀ j v, (Cfg.A c).toList[j]? = some v → y.w.cell? ((⟨g, 0, none⟩ : Addr).add j) = some v) := hid fun y => agg_cells (y.ext.at HJD.out.cfg (fun q => q HJD.out.cfgS))
  have ck : ∀ y : SW (Only fun b => ¬ S0 b) V2.drew, y.w.cell? ⟨g, 1, none⟩ = some (.int .i64 kk) := fun y => (cell_at (y.ext.at HJD.out.cfg (fun q => q HJD.out.cfgS))).trans (by rw [Cfg.A1, HK.out])
  obtain ⟨R1, hput, hsr1⟩ := HSR0.out.put (fun d _ => rfl) (SFit.of (c := c) (s := 0) (gen := 5) (n := a0) (by rw [HST.out]; decide) (by decide) (by decide))
  rw [HKT.out] at hput hsr1
  have HPUT := hid hput
  have HSR1 := hid hsr1
  obtain ⟨la, hla⟩ : ∃ l, blocksOf kk a0 = l := ⟨_, rfl⟩
  have LA8 := hid (hla ▸ blocksOf_108 kk a0)
  have LAB := hid (hla ▸ blocksOf_bytes kk a0)
  have LAN := hid (show la.length ≤ 8 by rw [← hla, blocksOf_len]; omega)
  have HLA := hid hla
  rw [hla] at HPUT HSR1
  clear xd hput hsr1 hla HJ2
  go_wp2_with fail
  refine wp_region_calm_all (E := Ext) (S := Only fun b => ¬ S0 b) (.one [0, 1, 2, 3, 4, 5, 6, 7, 8, 9, 10, 11] 12 (.one [] 13 (.fin [14, 15]))) (by kernel_rfl) (by kernel_rfl) (fun _ _ d _ _ h => by cases d <;> exact h) ?_
  rw [wpS]
  simp only [opsAt, List.map_cons, List.map_nil, Array.getD_eq_getD_getElem?, List.getElem?_toArray, List.getElem?_cons_succ, List.getElem?_cons_zero, Option.getD_some]
  iterate 8 ((refine wpSQ_step (fun K hK => ?_); go_simp; first | (refine hK _ ?_; clear hK K) | (apply Exists.intro; refine ⟨fun x => ?_, hK _ ?_⟩; (fail); clear hK K)))
  refine wpSQ_load_agg 23 _ rfl ⟨g, 0, none⟩ rfl (Cfg.A c) rfl (cfg_agg c) lc.out ?_
  iterate 3 ((refine wpSQ_step (fun K hK => ?_); go_simp; first | (refine hK _ ?_; clear hK K) | (apply Exists.intro; refine ⟨fun x => ?_, hK _ ?_⟩; (fail); clear hK K)))
  refine wpSQ_nil ?_
  intro V3 hV3
  have HJ3 := hid (HJD.out.more hV3)
  clear lc ck hV3 HJD
  refine wpS_loud fun Q1 hQ1 => ?_
  go_wp2_with fail
  refine (kblocks_c kk (by omega) a0 V3).mono ?_
  rintro e w4 ⟨v, rfl, hown, x4⟩
  rw [HLA.out] at hown
  obtain ⟨a, ca, rfl, hbk, hab⟩ := kblocks_at LA8.out hown
  have HJ4 := hid (HJ3.out.put x4 la a hbk hab)
  clear hown hbk hab
  go_wp2
  refine hQ1 _ _ (Ext.only x4) ?_
  clear hQ1 Q1 x4
  rw [wpS]
  simp only [opsAt, List.map_cons, List.map_nil, Array.getD_eq_getD_getElem?, List.getElem?_toArray, List.getElem?_cons_succ, List.getElem?_cons_zero, Option.getD_some]
  refine wpSQ_nil ?_
  intro V4 hV4
  have HJ5 := hid (HJ4.out.more hV4)
  clear hV4 HJ4
  refine wpS_loud fun Q2 hQ2 => ?_
  go_wp2_with fail
  refine (strput_c HJ5.out.rack c 0 5 la LA8.out LAB.out a ca (HJ5.out.recs (a, la) (by simp)).bks).mono ?_
  rintro e w6 ⟨rfl, h6, k6⟩
  rw [show (Rck.new nn m).sput c 0 5 la = (none, R1) from HPUT.out] at h6 ⊢
  simp only [oErr]
  have HJ6 := hid (HJ5.out.keep h6 k6)
  have HK6 := hid (show Only (fun b => ¬ S0 b) V4 w6 from Only.trans (Only.refl _ V4) k6 (fun b _ hb q => hb (.inl q)))
  clear h6 k6 HJ5
  go_wp2
  refine hQ2 _ _ HK6.out ?_
  clear hQ2 Q2
  rw [wpS]
  simp only [opsAt, List.map_cons, List.map_nil, Array.getD_eq_getD_getElem?, List.getElem?_toArray, List.getElem?_cons_succ, List.getElem?_cons_zero, Option.getD_some]
  iterate 2 ((refine wpSQ_step (fun K hK => ?_); go_simp; first | (refine hK _ ?_; clear hK K) | (apply Exists.intro; refine ⟨fun x => ?_, hK _ ?_⟩; (fail); clear hK K)))
  refine wpSQ_nil ?_
  intro V6 hV6
  obtain ⟨S6, hS6⟩ : ∃ S, wideS S0 V3 w4 = S := ⟨_, rfl⟩
  have HJ7 := hid (hS6 ▸ HJ6.out.more hV6)
  clear hV6 HJ6 hS6 HK6
  have c2 : V6.cell? ⟨g, 2, none⟩ = some (.int .i64 nn) := (cell_at HJ7.out.cfg).trans (by rw [Cfg.A2, HN.out])
  have hw1 : wrap64 ((nn : Int) - 1) = (nn : Int) - 1 := by unfold wrap64; omega
  go_wp2_with fail
  refine (within_c d 0 ((nn : Int) - 1) _ (by omega) (by omega) (by omega)).mono ?_
  rintro e w7 ⟨rfl, rfl⟩
  obtain ⟨l0, l1⟩ := within_bd d 0 ((nn : Int) - 1) (by omega)
  obtain ⟨x, hx⟩ := Int.eq_ofNat_of_zero_le l0
  have HXN := hid (show x < c.n.toNat by rw [HNT.out]; omega)
  rw [hx]
  clear l0 l1 hx hw1 c2
  go_wp2_with (go_at_call 12; fail)
  refine (kframe_c 3 x 0 6 a0 _).mono ?_
  rintro e w8 ⟨rfl, x8⟩
  obtain ⟨F, hF⟩ : ∃ F, keepFrm 3 x 0 6 a0 = F := ⟨_, rfl⟩
  have HFE := hid (show sfrm 0 6 x (blockOf a0) = F from hF)
  have HFO := hid (show F.Ok from hF ▸ keepFrm_ok _ _ _ _ _)
  obtain ⟨R2, R3, hfp, hwr, hfl, hold⟩ := Older.made HSR1.out (gen := 5) (G := 6) (l := la) (fun d _ => by simp [noB]) (updS_at _ _ _) HXN.out (blockOf_len a0) (blockOf_byte a0) (by decide) (by decide)
  rw [hF]
  rw [show sfrm 0 6 x (blockOf a0) = F from hF] at hfp hwr
  have HFP := hid hfp; have HWR := hid hwr; have HFL := hid hfl; have HOLD := hid hold
  clear hfp hwr hfl hold hF
  have HFS := hid (Frm.A_size F HFO.out)
  have HZS := hid (Frm.A_size _ zero_ok)
  have hz := zero_frame
  obtain ⟨W9, hW9⟩ : ∃ W, w8.alloc (.cells (Frm.A F) 37) = W := ⟨_, rfl⟩
  have HW9 := hid hW9
  have HF9 := hid (show W9.heap[w8.heap.size]? = some (.cells (Frm.A F) 37 (0, 0)) from hW9 ▸ heap_alloc_new _ _)
  have X9 := hid (show Ext V6 W9 from hW9 ▸ x8.alloc _)
  have HG9 := hid (show V6.heap.size ≤ w8.heap.size from x8.size)
  have hbs : (w8.alloc (.cells (Frm.A Frm.zero) 37)).heap[w8.heap.size]? = some (.cells (Frm.A Frm.zero) 37 (0, 0)) := block_alloc
  clear hW9 x8
  go_wp2_with (guard_target = wpList _ _ _ ({ dst := none, op := Op.store _ _ _, type := _, pos := _, after := _, guard := none } :: _) _ _; refine wpList_store_whole rfl 37 _ _ rfl w8.heap.size rfl (Frm.A F) _ rfl 37 ?_ hbs ?_ ?_ ?_; (rw [HFS.out]; exact aggFrame); (rw [HFS.out, HZS.out]); exact Frm.A_one _)
  rw [setRow_alloc, HW9.out]
  clear hbs HW9
  have HLT9 := hid (lt_of_block HF9.out)
  generalize w8.heap.size = gf at *
  have HSEC : Hid ((1 : Int) + kk = (ssecN c 0 : Nat)) := hid (by unfold ssecN; rw [HSL.out, HKT.out]; simp)
  have hwk : wrap64 (1 + (kk : Int)) = ((ssecN c 0 : Nat) : Int) := by rw [← HSEC.out]; unfold wrap64; omega
  have hwi : IntKind.i64.wrap (1 + (kk : Int)) = ((ssecN c 0 : Nat) : Int) := by rw [IntKind.wrap_i64, ← HSEC.out]; omega
  obtain ⟨S9, hS9⟩ : ∃ S, wideS S6 V6 W9 = S := ⟨_, rfl⟩
  have HJ9 := hid (hS9 ▸ HJ7.out.wide X9.out)
  have HGS := hid (show S9 gf from hS9 ▸ .inr ⟨HG9.out, HLT9.out⟩)
  clear hS9 HJ7
  have xd : Ext W9 W9.drew := (Ext.refl W9).drew
  have HJD := hid (HJ9.out.more xd)
  have HFD := hid (xd.at HF9.out)
  have lf : Hid (∀ y : SW (Only fun b => ¬ S9 b) W9.drew, ∀ j v, (Frm.A F).toList[j]? = some v → y.w.cell? ((⟨gf, 0, none⟩ : Addr).add j) = some v) := hid fun y => agg_cells (y.ext.at HFD.out (fun q => q HGS.out))
  have ck : ∀ y : SW (Only fun b => ¬ S9 b) W9.drew, y.w.cell? ⟨g, 1, none⟩ = some (.int .i64 kk) := fun y => (cell_at (y.ext.at HJD.out.cfg (fun q => q HJD.out.cfgS))).trans (by rw [Cfg.A1, HK.out])
  clear xd
  go_wp2_with fail
  refine wp_region_calm_all (E := Ext) (S := Only fun b => ¬ S9 b) (.one [0, 1, 2, 3, 4, 5] 6 (.one [] 7 (.one [8, 9, 10, 11] 12 (.fin [13, 14])))) (by kernel_rfl) (by kernel_rfl) (fun _ _ d _ _ h => by cases d <;> exact h) ?_
  rw [wpS]
  simp only [opsAt, List.map_cons, List.map_nil, Array.getD_eq_getD_getElem?, List.getElem?_toArray, List.getElem?_cons_succ, List.getElem?_cons_zero, Option.getD_some]
  iterate 5 ((refine wpSQ_step (fun K hK => ?_); go_simp; first | (refine hK _ ?_; clear hK K) | (apply Exists.intro; refine ⟨fun x => ?_, hK _ ?_⟩; (fail); clear hK K)))
  refine wpSQ_load_agg 37 _ rfl ⟨gf, 0, none⟩ rfl (Frm.A F) rfl (by rw [HFS.out]; exact aggFrame) lf.out ?_
  refine wpSQ_nil ?_
  intro V10 hV10
  have HJ10 := hid (HJD.out.more hV10)
  clear lf ck hV10 HJD HFD
  refine wpS_loud fun Q1 hQ1 => ?_
  go_wp2_with fail
  refine (fput_b F V10 HFO.out).mono ?_
  rintro e w11 ⟨fa, fn, rfl, hby, hfn, x11⟩
  rw [HFP.out] at hby
  have HBY := hid hby
  have HJ11 := hid (HJ10.out.more x11)
  clear hby hfn HJ10
  go_wp2
  refine hQ1 _ _ (Ext.only x11) ?_
  clear hQ1 Q1 x11
  rw [wpS]
  simp only [opsAt, List.map_cons, List.map_nil, Array.getD_eq_getD_getElem?, List.getElem?_toArray, List.getElem?_cons_succ, List.getElem?_cons_zero, Option.getD_some]
  refine wpSQ_nil ?_
  intro V12 hV12
  have HJ12 := hid (HJ11.out.more hV12)
  have HB12 := hid (HBY.out.ext hV12)
  clear hV12 HJ11 HBY
  refine wpS_loud fun Q2 hQ2 => ?_
  go_wp2_with fail
  refine (at_write HJ12.out.rack x (ssecN c 0 : Nat) fa fn fn _ HB12.out).mono ?_
  rintro e w13 ⟨rfl, h13, k13⟩
  rw [HWR.out] at h13 ⊢
  simp only [oErr]
  have HJ13 := hid (HJ12.out.keep h13 k13)
  clear h13 HJ12 HB12
  go_wp2
  refine hQ2 _ _ k13 ?_
  clear hQ2 Q2 k13
  rw [wpS]
  simp only [opsAt, List.map_cons, List.map_nil, Array.getD_eq_getD_getElem?, List.getElem?_toArray, List.getElem?_cons_succ, List.getElem?_cons_zero, Option.getD_some]
  iterate 4 ((refine wpSQ_step (fun K hK => ?_); go_simp; first | (refine hK _ ?_; clear hK K) | (apply Exists.intro; refine ⟨fun x => ?_, hK _ ?_⟩; (fail); clear hK K)))
  refine wpSQ_nil ?_
  intro V14 hV14
  have HJ14 := hid (HJ13.out.more hV14)
  clear hV14 HJ13
  refine wpS_loud fun Q3 hQ3 => ?_
  go_wp2_with fail
  refine (at_flush HJ14.out.rack x).mono ?_
  rintro e w15 ⟨rfl, h15, k15⟩
  rw [HFL.out] at h15 ⊢
  simp only [oErr]
  have HJ15 := hid (HJ14.out.keep h15 k15)
  clear h15 HJ14
  go_wp2
  refine hQ3 _ _ k15 ?_
  clear hQ3 Q3 k15
  rw [wpS]
  simp only [opsAt, List.map_cons, List.map_nil, Array.getD_eq_getD_getElem?, List.getElem?_toArray, List.getElem?_cons_succ, List.getElem?_cons_zero, Option.getD_some]
  iterate 2 ((refine wpSQ_step (fun K hK => ?_); go_simp; first | (refine hK _ ?_; clear hK K) | (apply Exists.intro; refine ⟨fun x => ?_, hK _ ?_⟩; (fail); clear hK K)))
  refine wpSQ_nil ?_
  intro V16 hV16
  have HJ16 := hid (HJ15.out.more hV16)
  clear hV16 HJ15 hwk hwi
  have HSL2 := hid (HOLD.out.slook (by rw [HST.out]; decide) HXN.out (by decide) (by decide))
  have HSG2 := hid (HOLD.out.sget (by rw [HST.out]; decide) HXN.out (by decide) (by decide))
  go_wp2_with (guard_target = wpList _ _ _ ({ dst := some _, op := Op.load _ _, type := _, pos := _, after := _, guard := none } :: _) _ _; refine wpList_load_agg rfl 23 _ rfl ⟨g, 0, none⟩ rfl (Cfg.A c) (cfg_agg c) (agg_cells HJ16.out.cfg) ?_)
  refine (slook_c HJ16.out.rack c 0).mono ?_
  rintro e w17 ⟨v, rfl, hlk⟩
  rw [HSL2.out] at hlk ⊢
  obtain ⟨ap, cp, rfl, hpa⟩ := hlk.parts
  obtain ⟨gp, rfl, hpat⟩ := hpa (by simp)
  obtain ⟨hx0, _⟩ := hpat 0 (x, blockOf a0) rfl
  have HX0 := hid hx0
  have HJ17 := hid (HJ16.out.more hlk.ext)
  clear hlk hpa hpat hx0 HJ16
  go_wp2_with (guard_target = wpList _ _ _ ({ dst := some _, op := Op.load _ _, type := _, pos := _, after := _, guard := none } :: _) _ _; refine wpList_load_agg rfl 23 _ rfl ⟨g, 0, none⟩ rfl (Cfg.A c) (cfg_agg c) (agg_cells HJ17.out.cfg) ?_)
  refine (sget_c HJ17.out.rack c 0).mono ?_
  rintro e w18 ⟨v, rfl, hown, x18⟩
  have HJ18 := hid (HJ17.out.more x18)
  have c0 : w18.cell? ⟨gp, 0, none⟩ = some (.int .i64 x) := Ext.cell x18 HX0.out
  have c1 : w18.cell? ⟨g, 1, none⟩ = some (.int .i64 kk) := (cell_at HJ18.out.cfg).trans (by rw [Cfg.A1, HK.out])
  obtain ⟨gA, gC, rfl, _⟩ := hown.slice
  generalize ((R3.sget c 0).1.map bA).length = gl at *
  clear hown x18 HJ17 HX0
  by_cases hk1 : kk = 1
  · rw [if_pos (by rw [HK.out, hk1]; rfl)] at HSG2
    rw [HSG2.out]
    simp only [oErr]
    subst hk1
    go_wp2_with (go_at_call 18; fail)
    refine (stripeRuns_c _).mono ?_
    rintro e w19 ⟨rfl, x19⟩
    have HX19 := hid (Ext.trans HJ18.out.ext x19)
    clear x19
    go_wp2
    go_ret
    exact ⟨rfl, HX19.out⟩
  · rw [if_neg (by rw [HK.out]; omega)] at HSG2
    rw [HSG2.out]
    have hk1' : ((kk : Int) == 1) = false := by rw [beq_eq_false_iff_ne]; omega
    rw [HK.out]
    obtain ⟨er, her⟩ : ∃ er, Err.fault sSGet 0 (.loss 0 1 kk) = er := ⟨_, rfl⟩
    have HLO : Hid (er.lost = true ∧ er.lossOf = (0, 1, (kk : Int))) := hid (by rw [← her]; exact ⟨rfl, rfl⟩)
    rw [her]
    simp only [oErr]
    obtain ⟨et, ev, hev⟩ := er.iface
    have HEV := hid hev
    rw [hev]
    clear her hev
    go_wp2_with (go_at_call 19; fail)
    refine Calls.mono (by rw [← HEV.out]; exact lost_yes er HLO.out.1 _ (HG.out.only HJ18.out.ext (fun x => x))) ?_
    rintro e w19 ⟨rfl, x19⟩
    rw [HLO.out.2]
    simp only [lostV]
    have HJ19 := hid (HJ18.out.more (x19.alloc (.cells (lcells (0, 1, (kk : Int))) 52)))
    obtain ⟨W19, hW19⟩ : ∃ W, w19.alloc (.cells (lcells (0, 1, (kk : Int))) 52) = W := ⟨_, rfl⟩
    have HN19 := hid (show W19.heap[w19.heap.size]? = some (.cells (lcells (0, 1, (kk : Int))) 52 (0, 0)) from hW19 ▸ heap_alloc_new _ _)
    rw [hW19] at HJ19
    have HW19 := hid hW19
    have hbs : (w19.alloc (.cells (lcells (0, 0, 0)) 52)).heap[w19.heap.size]? = some (.cells (lcells (0, 0, 0)) 52 (0, 0)) := block_alloc
    have c1 : W19.cell? ⟨g, 1, none⟩ = some (.int .i64 kk) := (cell_at HJ19.out.cfg).trans (by rw [Cfg.A1, HK.out])
    have HBL := hid (built_loss3 0 1 (kk : Int))
    clear x19 hW19 HJ18 HEV
    go_wp2_with (first
      | (guard_target = wpList _ _ _ ({ dst := none, op := Op.store _ _ _, type := _, pos := _, after := _, guard := none } :: _) _ _; have hb0 := hbs; clear hbs; refine wpList_store_whole rfl 52 _ _ rfl w19.heap.size rfl (lcells (0, 1, (kk : Int))) _ rfl 52 (agg_loss _) hb0 rfl (lcells_one _) ?_; rw [setRow_alloc, HW19.out])
      | (guard_target = wpList _ _ _ ({ dst := some _, op := Op.load _ _, type := _, pos := _, after := _, guard := some _ } :: _) _ _; refine wpListG_load_agg 52 _ rfl ⟨w19.heap.size, 0, none⟩ rfl (lcells (0, 1, (kk : Int))) rfl (agg_loss _) (agg_cells HN19.out) ?_)
      | (guard_target = wpList _ _ _ ({ dst := some _, op := Op.build _ _, type := _, pos := _, after := _, guard := some _ } :: _) _ _; refine wpListG_build_eq 52 _ rfl (lcells (0, 1, (kk : Int))) rfl ?_ ?_; (simp only [List.map_toArray, List.map_cons, List.map_nil, Act.eval]; simp only [Array.getD_eq_getD_getElem?, List.getElem?_toArray, List.getElem?_cons_succ, List.getElem?_cons_zero, Option.getD_some]; exact HBL.out))
      | (guard_target = wpList _ _ _ ({ dst := some _, op := Op.binOp _ _ _ _ _, type := _, pos := _, after := _, guard := some _ } :: _) _ _; refine wpListG_eql .eql 52 _ _ _ rfl (lcells (0, 1, (kk : Int))) (lcells (0, 1, (kk : Int))) rfl rfl (.bool true) rfl (loss_guard _ _ _ _ _ _) (loss_eql _ _) ?_)
      | (go_at_call 18; fail))
    refine (stripeRuns_c _).mono ?_
    rintro e w20 ⟨rfl, x20⟩
    have HX20 := hid (Ext.trans HJ19.out.ext x20)
    clear x20
    go_wp2
    go_ret
    exact ⟨rfl, HX20.out⟩
end Go.Proofs.YtkofmabonpbegaaGreatDoor

/- The statement StripeOlder, as its tied card: for every input the call of stavelaw11's StripeOlder answers true, and its arguments read behind it as they read before. No condition of our own. -/
namespace Go.Proofs.YtkofmabonpbegaaGreatDoor.stripeOlder
open Go.ChangeShapes Go.WideShapes Go.ChangeAt Go.RowKit
open Go.ChangeMaps (open_string shut_string)
set_option linter.unusedVariables false
theorem laidOut : laidOutB Tryz.prog = true := by kernel_rfl
theorem walk (a0 : Int) (a1 : Int) (a2 : Int) (a3 : Int) (w : World) (hg : EtLaid w) (w0 : (Lit.int .i64 a0).wf = true) (w1 : (Lit.int .i64 a1).wf = true) (w2 : (Lit.int .i64 a2).wf = true) (w3 : (Lit.int .i64 a3).wf = true) :
    Calls Tryz.prog 3 #[.int .i64 a0, .int .i64 a1, .int .i64 a2, .int .i64 a3] w fun e w' => e = .returned (.bool true) ∧ Below w.heap.size w w' :=
  (stripeOlder_c a0 a1 a2 a3 w hg).mono fun _ _ ⟨he, hx⟩ => ⟨he, hx.below⟩
set_option maxRecDepth 100000 in
theorem lifted (os : Os) (started : os.Started) (H : Type) (enc : TypeId × Value → H) :
    ReturnsInHanded {} Tryz.checked os 3 .any (fun w args => (Rows.stripeOlderSpec.pre enc Tryz.prog Tryz.f3 [] false w args ∧ laidMetH Tryz.prog theLaid w) ∧ sizedMet enc Tryz.prog Tryz.f3 (OpenSpec.ofChange Rows.stripeOlderSpec) false w args)
      (Rows.stripeOlderSpec.post enc Tryz.prog Tryz.f3 false true false false) := by
  refine returnsInHanded_of_change_and (C := Tryz.checked) (X := fun w _ => laidMetH Tryz.prog theLaid w) (fun _ _ _ hh h => h.of_heap hh) hOwn started (by kernel_rfl) Tryz.func3
    (ChangeSpec.witness_at (enc := enc) (C := Tryz.checked) (os := os) (X := fun w _ => laidMetH Tryz.prog theLaid w) false (laidWorld os) #[.int .i64 0, .int .i64 0, .int .i64 0, .int .i64 0] 8 rfl (by kernel_rfl) (by kernel_rfl) (by kernel_rfl) (by kernel_rfl) (by kernel_rfl) (laidWorld_met os _)) ?_
  intro W base args ds gs before hval0 hW _ _ hL _
  have hval : ∀ (j : Nat) t v, Tryz.f3.params[j]? = some t → args[j]? = some v → Value.okWide Tryz.prog W .any base t v := hval0
  have hW' := hW
  obtain ⟨p, q, hA0, hV, rfl, hfz, hnd⟩ := hW
  have hA : DataW.TrodAll enc Tryz.prog W 0 (fun _ => true) true Tryz.f3.params.toList args.toList ds p := hA0
  rw [Tryz.params3] at hA hval
  obtain ⟨v0, vs0, d0, ds0, p0, q0, hargs, rfl, rfl, h0, r0⟩ := trodAll_cons hA
  obtain ⟨v1, vs1, d1, ds1, p1, q1, rfl, rfl, rfl, h1, r1⟩ := trodAll_cons r0
  obtain ⟨v2, vs2, d2, ds2, p2, q2, rfl, rfl, rfl, h2, r2⟩ := trodAll_cons r1
  obtain ⟨v3, vs3, d3, ds3, p3, q3, rfl, rfl, rfl, h3, r3⟩ := trodAll_cons r2
  obtain ⟨rfl, rfl, rfl⟩ := trodAll_nil r3
  obtain rfl : args = #[v0, v1, v2, v3] := by cases args; simp_all
  obtain ⟨rfl, rfl⟩ := trodVars_none hV
  obtain ⟨a0, rfl, rfl, rfl, w0⟩ := open_int Tryz.underlying3 (hval 0 3 v0 rfl rfl) h0
  obtain ⟨a1, rfl, rfl, rfl, w1⟩ := open_int Tryz.underlying3 (hval 1 3 v1 rfl rfl) h1
  obtain ⟨a2, rfl, rfl, rfl, w2⟩ := open_int Tryz.underlying3 (hval 2 3 v2 rfl rfl) h2
  obtain ⟨a3, rfl, rfl, rfl, w3⟩ := open_int Tryz.underlying3 (hval 3 3 v3 rfl rfl) h3
  have hg := etLaid_of hL
  clear hA0 hval0
  simp only [List.append_nil] at hW'
  refine (walk a0 a1 a2 a3 W hg w0 w1 w2 w3).mono fun e W' ⟨he, bel⟩ => ?_
  subst he
  exact ⟨_, rfl, _, _, _, [], _, [], hW', trodAll_mk1 (shut_bool Tryz.underlying4 _), (trodAll_cons_mk (shut_int Tryz.underlying3 w0) (trodAll_cons_mk (shut_int Tryz.underlying3 w1) (trodAll_cons_mk (shut_int Tryz.underlying3 w2) (trodAll_cons_mk (shut_int Tryz.underlying3 w3) trodAll_mk0)))), rfl, bel.frame _, fun h => by cases h⟩
theorem over : Rows.StripeOlderSaid :=
  OpenClaim.holds_of_wide 3 Tryz.f3 rfl rfl rfl rfl rfl rfl rfl ⟨rfl, rfl, rfl, rfl, rfl⟩ rfl rfl rfl rfl rfl (by kernel_rfl) Tryz.func3 (by kernel_rfl)
    (of_decide_eq_true (by kernel_rfl)) (by unfold Func.isWrapper; first | (rw [if_pos (by decide +kernel)]; kernel_rfl) | (rw [if_neg (by decide +kernel)]; exact ⟨rfl, rfl⟩))
    (fun os started H enc _ => lifted os started H enc)
theorem proved : Rows.StripeOlderCardSaid :=
  Claim7.holds_tied_plain_at .later [] [.handle] true (true, "c2a98d723d65909e70b11b01eff72db5bcb78a4fb8e7f2a6b169bd298c51fa36") true
    over (fun _ h => by cases h) (by kernel_rfl) (fun _ h => by cases h) stripeOlder_row_tie rfl ⟨rfl, rfl⟩ (by kernel_rfl) rfl
    (fun f fn hf hfn => by
      obtain rfl : f = 3 := Option.some.inj ((show Tryz.prog.funcNamed "stave/stavelaw11.StripeOlder" = some 3 by kernel_rfl).symm.trans hf) |>.symm
      obtain rfl : fn = Tryz.f3 := (Option.some.inj (Tryz.func3.symm.trans hfn)).symm
      exact ⟨by kernel_rfl, fun j t ht => by
        rw [Tryz.params3] at ht
        rcases j with _ | _ | _ | _ | j
        · simp at ht; subst ht; kernel_rfl
        · simp at ht; subst ht; kernel_rfl
        · simp at ht; subst ht; kernel_rfl
        · simp at ht; subst ht; kernel_rfl
        · simp at ht⟩)
    (by kernel_rfl)
#print axioms proved
end Go.Proofs.YtkofmabonpbegaaGreatDoor.stripeOlder
