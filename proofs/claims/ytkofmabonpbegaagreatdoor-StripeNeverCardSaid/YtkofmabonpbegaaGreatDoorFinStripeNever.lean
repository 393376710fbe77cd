/- The statement StripeNever, as its tied card: for every input the call of stavelaw11's StripeNever answers true, and its arguments read behind it as they read before. No condition of our own. -/
/- Texts of one proof, joined: WStripeNever, LawStripeNever. -/
import Derived.Test.YtkofmabonpbegaaGreatDoorPartO
import Derived.Test.YtkofmabonpbegaaGreatDoorPartJ
import Derived.Test.YtkofmabonpbegaaGreatDoorPartP
import Derived.Test.YtkofmabonpbegaaGreatDoorCards
import Derived.Test.YtkofmabonpbegaaGreatDoorTie
import Derived.Test.YtkofmabonpbegaaGreatDoorPartC
import Derived.WalkKit
import Derived.ProofKit
import Derived.OpenShut
import Derived.ShutString
import Derived.ChangeOld
import Derived.Below
import Derived.SevenTiedAt
set_option linter.unusedVariables false
set_option linter.unusedSimpArgs false
/- The walk of StripeNever. -/
namespace Go.Proofs.YtkofmabonpbegaaGreatDoor
set_option linter.unusedVariables false
open Go Go.RowKit
set_option maxRecDepth 100000 in
set_option maxHeartbeats 4000000 in
theorem stripeNever_c (k n fuse a0 b0 : Int) (ia : Option Addr) (len cap : Nat) (z : List Int) (w : World) (hg : EtLaid w) (hl : IsRow .u64 w ia len cap z) :
    Calls Tryz.prog 4 #[.int .i64 k, .int .i64 n, .int .i64 fuse, .int .i64 a0, .int .i64 b0, .slice ia len cap] w fun e w' => e = .returned (.bool true) ∧ Ext w w' := by
  have HBT := hid hl.bits
  have HBL := hid hl.low
  generalize (z.take len).map Int.toNat = bits at *
  clear hl
  have HG := hid hg
  have hzc := zero_cfg
  have hzl := zero_loss
  have HCS := hid Cfg.A_size
  clear hg
  go_enter Tryz.func4, Tryz.ntmps4
  go_wp2_with fail
  refine (kfixed_c k n 1 1 _).mono ?_
  rintro e w1 ⟨rfl, x1⟩
  have HGD := hid (show (keepFixed k n 1 1).Good from keepFixed_good k n 1 1 (by omega) (by omega) (by omega) (by omega))
  have HK4 := hid (keepFixed_k4 k n 1 1)
  have HN6 := hid (keepFixed_n6 k n 1 1)
  have HST := hid (show (keepFixed k n 1 1).stripes = 1 from rfl)
  have HSL := hid (show (keepFixed k n 1 1).slots = 1 from rfl)
  generalize keepFixed k n 1 1 = c at *
  obtain ⟨W1, hW1⟩ : ∃ W, w1.alloc (.cells (Cfg.A c) 23) = W := ⟨_, rfl⟩
  have X1 := hid (show Ext w W1 from hW1 ▸ x1.alloc _)
  have HC := hid (show W1.heap[w1.heap.size]? = some (.cells (Cfg.A c) 23 (0, 0)) from hW1 ▸ heap_alloc_new _ _)
  have hbs : (w1.alloc (.cells (Cfg.A Cfg.zero) 23)).heap[w1.heap.size]? = some (.cells (Cfg.A Cfg.zero) 23 (0, 0)) := block_alloc
  clear x1
  go_wp2_with (guard_target = wpList _ _ _ ({ dst := none, op := Op.store _ _ _, type := _, pos := _, after := _, guard := none } :: _) _ _; refine wpList_store_whole rfl 23 _ _ rfl w1.heap.size rfl (Cfg.A c) _ rfl 23 ?_ hbs ?_ ?_ ?_; (rw [HCS.out]; exact aggCfg); (rw [HCS.out, HCS.out]); exact Cfg.A_one _)
  rw [setRow_alloc, hW1]
  clear hbs hW1
  have HLT := hid (lt_of_block HC.out)
  generalize w1.heap.size = g at *
  obtain ⟨m, hm, m1, m128⟩ := sectors_nat c HGD.out
  obtain ⟨nn, hn⟩ : ∃ nn : Nat, c.n = nn := ⟨c.n.toNat, by have := HGD.out.k0; have := HGD.out.k1; omega⟩
  obtain ⟨kk, hk⟩ : ∃ kk : Nat, c.k = kk := ⟨c.k.toNat, by have := HGD.out.k0; omega⟩
  have HNT := hid (show c.n.toNat = nn by omega)
  have HKT := hid (show c.k.toNat = kk by omega)
  have n1 : 1 ≤ nn := by have := HGD.out.k0; have := HGD.out.k1; omega
  have n8 : nn ≤ 6 := by have := HN6.out; omega
  have k1 : 1 ≤ kk := by have := HGD.out.k0; omega
  have k4 : kk ≤ 4 := by have := HK4.out; omega
  have HKN := hid (show kk ≤ nn by have := HGD.out.k1; omega)
  have HM := hid hm; have HN := hid hn; have HK := hid hk
  have xd : Ext W1 W1.drew := (Ext.refl W1).drew
  have lc : Hid (∀ x : SW Ext W1.drew, ∀ j v, (Cfg.A c).toList[j]? = some v → x.w.cell? ((⟨g, 0, none⟩ : Addr).add j) = some v) := hid fun x => agg_cells ((Ext.trans xd x.ext).at HC.out)
  have c2 : ∀ x : SW Ext W1.drew, x.w.cell? ⟨g, 2, none⟩ = some (.int .i64 nn) := fun x => (cell_at ((Ext.trans xd x.ext).at HC.out)).trans (by rw [Cfg.A2, HN.out])
  have sc : Hid (∀ x : SW Ext W1.drew, Calls Tryz.prog 8 #[.agg (Cfg.A c)] x.w fun e w'' => e = .returned (.int .i64 m) ∧ Ext x.w w'') := hid fun x => by
    have := ksectors_c c HGD.out x.w
    rw [HM.out] at this
    exact this
  have HAG := hid (cfg_agg c)
  clear hm hn hk
  refine wp_region_rely_all (S := Ext) (.one [0, 1, 2, 3] 4 (.fin [5, 6, 7, 8, 9])) (by kernel_rfl) (by kernel_rfl) (fun _ _ d _ _ h => by cases d <;> exact h) ?_
  rw [wpS]
  simp only [opsAt, List.map_cons, List.map_nil, Array.getD_eq_getD_getElem?, List.getElem?_toArray, List.getElem?_cons_succ, List.getElem?_cons_zero, Option.getD_some]
  iterate 2 ((refine wpSQ_step (fun K hK => ?_); go_simp; first | (refine hK _ ?_; clear hK K) | (apply Exists.intro; refine ⟨fun x => ?_, hK _ ?_⟩; (fail); clear hK K)))
  refine wpSQ_load_agg 23 _ rfl ⟨g, 0, none⟩ rfl (Cfg.A c) rfl HAG.out lc.out ?_
  (refine wpSQ_step (fun K hK => ?_); go_simp; first | (refine hK _ ?_; clear hK K) | (apply Exists.intro; refine ⟨fun x => ?_, hK _ ?_⟩; (exact sc.out x); clear hK K))
  refine wpSQ_nil ?_
  intro V1 hV1
  refine wpS_loud fun K hK => ?_
  go_wp2_with fail
  refine (at_new nn m n1 (by omega) m1 m128 V1).mono ?_
  rintro e w2 ⟨r, rfl, h2, x2⟩
  go_wp2
  refine hK _ _ x2 ?_
  clear hK K
  rw [wpS]
  simp only [opsAt, List.map_cons, List.map_nil, Array.getD_eq_getD_getElem?, List.getElem?_toArray, List.getElem?_cons_succ, List.getElem?_cons_zero, Option.getD_some]
  iterate 5 ((refine wpSQ_step (fun K hK => ?_); go_simp; first | (refine hK _ ?_; clear hK K) | (apply Exists.intro; refine ⟨fun x => ?_, hK _ ?_⟩; (fail); clear hK K)))
  refine wpSQ_nil ?_
  intro V2 hV2
  obtain ⟨S0, hS0⟩ : ∃ S : Nat → Prop, (fun b => b < W1.heap.size) = S := ⟨_, rfl⟩
  have HJ2 := hid (show SE w V2 S0 r (Rck.new nn m) g c [] from hS0 ▸ ⟨(h2.less fun b hb => Nat.lt_of_lt_of_le hb (Ext.trans xd hV1).size).ext hV2, Ext.trans X1.out (Ext.trans xd (Ext.trans hV1 (Ext.trans x2 hV2))), fun b hb => Nat.lt_of_lt_of_le hb X1.out.size, (Ext.trans xd (Ext.trans hV1 (Ext.trans x2 hV2))).at HC.out, HLT.out, fun p hp => by simp at hp⟩)
  have HSR0 : Hid (SR (Rck.new nn m) c m (fun _ => none) allU fun _ => noB) := hid (by
    have := SR.new HGD.out (m := m) (by rw [HM.out]; exact Int.le_refl _)
    rw [HNT.out] at this
    exact this)
  clear h2 x2 hV1 hV2 lc c2 sc xd X1 HC HLT hS0
  have xd : Ext V2 V2.drew := (Ext.refl V2).drew
  have HJD := hid (HJ2.out.more xd)
  have ck : ∀ y : SW Ext V2.drew, y.w.cell? ⟨g, 1, none⟩ = some (.int .i64 kk) := fun y => (cell_at (y.ext.at HJD.out.cfg)).trans (by rw [Cfg.A1, HK.out])
  obtain ⟨R1, hput, hsr1⟩ := HSR0.out.put (fun d _ => rfl) (SFit.of (c := c) (s := 0) (gen := 5) (n := a0) (by rw [HST.out]; decide) (by decide) (by decide))
  have hY : SFit c 0 6 (blocksOf c.k.toNat b0) := SFit.of (c := c) (s := 0) (gen := 6) (n := b0) (by rw [HST.out]; decide) (by decide) (by decide)
  rw [HKT.out] at hput hsr1 hY
  have HPUT := hid hput
  have HSR1 := hid hsr1
  have HY := hid hY
  obtain ⟨la, hla⟩ : ∃ l, blocksOf kk a0 = l := ⟨_, rfl⟩
  obtain ⟨lb, hlb⟩ : ∃ l, blocksOf kk b0 = l := ⟨_, rfl⟩
  have LA8 := hid (hla ▸ blocksOf_108 kk a0)
  have LAB := hid (hla ▸ blocksOf_bytes kk a0)
  have LAN := hid (show la.length ≤ 8 by rw [← hla, blocksOf_len]; omega)
  have HLA := hid hla
  have LB8 := hid (hlb ▸ blocksOf_108 kk b0)
  have LBB := hid (hlb ▸ blocksOf_bytes kk b0)
  have LBN := hid (show lb.length ≤ 8 by rw [← hlb, blocksOf_len]; omega)
  have HLB := hid hlb
  rw [hla] at HPUT HSR1
  rw [hlb] at HY
  clear xd hput hsr1 hY hla hlb HJ2
  go_wp2_with fail
  refine wp_region_rely_all (S := Ext) (.one [0, 1, 2, 4, 5, 6] 3 (.one [] 7 (.fin [8, 9]))) (by kernel_rfl) (by kernel_rfl) (fun _ _ d _ _ h => by cases d <;> exact h) ?_
  rw [wpS]
  simp only [opsAt, List.map_cons, List.map_nil, Array.getD_eq_getD_getElem?, List.getElem?_toArray, List.getElem?_cons_succ, List.getElem?_cons_zero, Option.getD_some]
  iterate 6 ((refine wpSQ_step (fun K hK => ?_); go_simp; first | (refine hK _ ?_; clear hK K) | (apply Exists.intro; refine ⟨fun x => ?_, hK _ ?_⟩; (fail); clear hK K)))
  refine wpSQ_nil ?_
  intro V3 hV3
  have HJ3 := hid (HJD.out.more hV3)
  clear ck hV3 HJD
  refine wpS_loud fun Q1 hQ1 => ?_
  go_wp2_with fail
  refine (kblocks_c kk (by omega) a0 V3).mono ?_
  rintro e w4 ⟨v, rfl, hown, x4⟩
  rw [HLA.out] at hown
  obtain ⟨xa, xc, rfl, hbk, hab⟩ := kblocks_at LA8.out hown
  have HJ4 := hid (HJ3.out.put x4 la xa hbk hab)
  clear hown hbk hab HJ3
  go_wp2
  refine hQ1 _ _ x4 ?_
  clear hQ1 Q1 x4
  rw [wpS]
  simp only [opsAt, List.map_cons, List.map_nil, Array.getD_eq_getD_getElem?, List.getElem?_toArray, List.getElem?_cons_succ, List.getElem?_cons_zero, Option.getD_some]
  refine wpSQ_nil ?_
  intro V4 hV4
  have HJ5 := hid (HJ4.out.more hV4)
  clear hV4 HJ4
  refine wpS_loud fun Q2 hQ2 => ?_
  go_wp2_with fail
  refine (kblocks_c kk (by omega) b0 V4).mono ?_
  rintro e w5 ⟨v, rfl, hown, x5⟩
  rw [HLB.out] at hown
  obtain ⟨ya, yc, rfl, hbk, hab⟩ := kblocks_at LB8.out hown
  have HJ6 := hid (HJ5.out.put x5 lb ya hbk hab)
  clear hown hbk hab HJ5
  go_wp2
  refine hQ2 _ _ x5 ?_
  clear hQ2 Q2 x5
  rw [wpS]
  simp only [opsAt, List.map_cons, List.map_nil, Array.getD_eq_getD_getElem?, List.getElem?_toArray, List.getElem?_cons_succ, List.getElem?_cons_zero, Option.getD_some]
  iterate 2 ((refine wpSQ_step (fun K hK => ?_); go_simp; first | (refine hK _ ?_; clear hK K) | (apply Exists.intro; refine ⟨fun x => ?_, hK _ ?_⟩; (fail); clear hK K)))
  refine wpSQ_nil ?_
  intro V6 hV6
  have J7 := HJ6.out.more hV6
  obtain ⟨S6, hS6⟩ : ∃ S, wideS (wideS S0 V3 w4) V4 w5 = S := ⟨_, rfl⟩
  rw [hS6] at J7
  have HJ7 := hid J7
  clear hV6 HJ6 hS6 J7
  go_wp2_with (guard_target = wpList _ _ _ ({ dst := some _, op := Op.load _ _, type := _, pos := _, after := _, guard := some _ } :: _) _ _; refine wpListG_load_agg 23 _ rfl ⟨g, 0, none⟩ rfl (Cfg.A c) rfl (cfg_agg c) (agg_cells HJ7.out.cfg) ?_)
  refine (strput_c HJ7.out.rack c 0 5 la LA8.out LAB.out xa xc (HJ7.out.recs (xa, la) (by simp)).bks).mono ?_
  rintro e w6 ⟨rfl, h6, k6⟩
  rw [show (Rck.new nn m).sput c 0 5 la = (none, R1) from HPUT.out] at h6 ⊢
  simp only [oErr]
  have HJ6 := hid (HJ7.out.keep h6 k6)
  clear h6 k6 HJ7
  have c2 : w6.cell? ⟨g, 2, none⟩ = some (.int .i64 nn) := (cell_at HJ6.out.cfg).trans (by rw [Cfg.A2, HN.out])
  have hw1 : wrap64 (2 * (nn : Int)) = 2 * (nn : Int) := by unfold wrap64; omega
  have hw2 : IntKind.i64.wrap (2 * (nn : Int)) = 2 * (nn : Int) := by rw [IntKind.wrap_i64]; omega
  go_wp2_with fail
  refine (within_c fuse 0 (2 * (nn : Int)) _ (by omega) (by omega) (by omega)).mono ?_
  rintro e w7 ⟨rfl, rfl⟩
  obtain ⟨l0, l1⟩ := within_bd fuse 0 (2 * (nn : Int)) (by omega)
  obtain ⟨F, hF⟩ := Int.eq_ofNat_of_zero_le l0
  have HF2 := hid (show F ≤ c.n.toNat + c.n.toNat by rw [HNT.out]; omega)
  rw [hF]
  clear l0 l1 hF c2
  go_wp2_with fail
  refine (at_arm HJ6.out.rack F (by have := HF2.out; have := HNT.out; omega)).mono ?_
  rintro e w7 ⟨rfl, h7, k7⟩
  have HJ7 := hid (HJ6.out.keep h7 k7)
  clear h7 k7 HJ6
  go_wp2_with (guard_target = wpList _ _ _ ({ dst := some _, op := Op.load _ _, type := _, pos := _, after := _, guard := none } :: _) _ _; refine wpList_load_agg rfl 23 _ rfl ⟨g, 0, none⟩ rfl (Cfg.A c) (cfg_agg c) (agg_cells HJ7.out.cfg) ?_)
  refine (strput_c HJ7.out.rack c 0 6 lb LB8.out LBB.out ya yc (HJ7.out.recs (ya, lb) (by simp)).bks).mono ?_
  rintro e w8 ⟨rfl, h8, k8⟩
  have HJ8 := hid (HJ7.out.keep h8 k8)
  obtain ⟨hno, hsl, hfu⟩ := CutAll.all HSR1.out (fun d _ => by simp [noB]) (updS_at _ _ _) HY.out HK4.out HN6.out F HF2.out bits
  simp only [HNT.out] at hno hfu
  clear h8 k8 HJ7
  obtain ⟨⟨ov, R8⟩, hq⟩ : ∃ q, (R1.arm F).sput c 0 6 lb = q := ⟨_, rfl⟩
  rw [hq] at hno hsl hfu HJ8 ⊢
  simp only at hno hsl hfu
  have HSB := hid (show ∀ p : Addr, ia = some p → 0 < len → S6 p.block from fun p hp hn => HJ8.out.low _ (HBL.out p hp hn))
  have HB8 := hid (HBT.out.only HJ8.out.ext (fun _ _ _ x => x))
  have HSLT := hid hsl
  clear hq hsl
  rcases ov with _ | er
  · have hFe : F = nn + nn := by simpa using hno
    have hbF : ((F : Int) == 2 * (nn : Int)) = true := by rw [hFe]; simp; omega
    have HSY := hid (show (R8.boot bits).sget c 0 = (lb, 6, none) from hfu hFe)
    clear hno hfu HSLT hFe
    simp only [oErr]
    have xd : Ext w8 w8.drew := (Ext.refl w8).drew
    have HJD := hid (HJ8.out.more xd)
    have ck : ∀ x : SW Ext w8.drew, x.w.cell? ⟨g, 2, none⟩ = some (.int .i64 nn) := fun x => (cell_at (x.ext.at HJD.out.cfg)).trans (by rw [Cfg.A2, HN.out])
    clear xd
    go_wp2_with fail
    refine wp_region_rely_all (S := Ext) (.fin [0, 1, 2, 3, 4, 5, 6, 7]) (by kernel_rfl) (by kernel_rfl) (fun _ _ d _ _ h => by cases d <;> exact h) ?_
    rw [wpS]
    simp only [opsAt, List.map_cons, List.map_nil, Array.getD_eq_getD_getElem?, List.getElem?_toArray, List.getElem?_cons_succ, List.getElem?_cons_zero, Option.getD_some]
    iterate 8 ((refine wpSQ_step (fun K hK => ?_); go_simp; first | (refine hK _ ?_; clear hK K) | (apply Exists.intro; refine ⟨fun x => ?_, hK _ ?_⟩; (fail); clear hK K)))
    refine wpSQ_nil ?_
    intro V9 hV9
    have HJ9 := hid (HJD.out.more hV9)
    have HBB := hid (HB8.out.only (Ext.trans ((Ext.refl w8).drew) hV9) (fun _ _ _ x => x))
    clear ck hV9 HJD
    go_wp2_with fail
    refine (at_boot HJ9.out.rack ia len cap bits HBB.out HSB.out).mono ?_
    rintro e w10 ⟨rfl, h10, k10⟩
    have HJ10 := hid (HJ9.out.keep h10 k10)
    clear h10 k10 HJ9
    go_wp2_with (guard_target = wpList _ _ _ ({ dst := some _, op := Op.load _ _, type := _, pos := _, after := _, guard := none } :: _) _ _; refine wpList_load_agg rfl 23 _ rfl ⟨g, 0, none⟩ rfl (Cfg.A c) (cfg_agg c) (agg_cells HJ10.out.cfg) ?_)
    refine (sget_c HJ10.out.rack c 0).mono ?_
    rintro e w11 ⟨v, rfl, hown, x11⟩
    rw [HSY.out] at hown ⊢
    obtain ⟨za, zc, rfl, hbk, hab⟩ := kblocks_at LB8.out hown
    have HJ11 := hid (HJ10.out.put x11 lb za hbk hab)
    simp only [oErr]
    clear hown x11 hbk hab HJ10
    go_wp2_with fail
    refine (sameblk_c lb LB8.out LBN.out za ya zc yc _ (HJ11.out.recs (za, lb) (by simp)).bks (HJ11.out.recs (ya, lb) (by simp)).bks).mono ?_
    rintro e w21 ⟨rfl, x21⟩
    have HX21 := hid (Ext.trans HJ11.out.ext x21)
    clear x21
    go_wp2_with (go_at_call 18; fail)
    refine (stripeRuns_c _).mono ?_
    rintro e w22 ⟨rfl, x22⟩
    have HX22 := hid (Ext.trans HX21.out x22)
    clear x22
    go_wp2
    go_ret
    exact ⟨rfl, HX22.out⟩
  · have hFe : ¬ F = nn + nn := by simpa using hno
    have hbF : ((F : Int) == 2 * (nn : Int)) = false := by rw [beq_eq_false_iff_ne]; omega
    clear hno hfu hFe
    simp only [oErr]
    obtain ⟨et, ev, hev⟩ := er.iface
    rw [hev]
    clear hev
    have xd : Ext w8 w8.drew := (Ext.refl w8).drew
    have HJD := hid (HJ8.out.more xd)
    have ck : ∀ x : SW Ext w8.drew, x.w.cell? ⟨g, 2, none⟩ = some (.int .i64 nn) := fun x => (cell_at (x.ext.at HJD.out.cfg)).trans (by rw [Cfg.A2, HN.out])
    clear xd
    go_wp2_with fail
    refine wp_region_rely_all (S := Ext) (.fin [0, 1, 2, 3, 4, 5, 6, 7]) (by kernel_rfl) (by kernel_rfl) (fun _ _ d _ _ h => by cases d <;> exact h) ?_
    rw [wpS]
    simp only [opsAt, List.map_cons, List.map_nil, Array.getD_eq_getD_getElem?, List.getElem?_toArray, List.getElem?_cons_succ, List.getElem?_cons_zero, Option.getD_some]
    iterate 8 ((refine wpSQ_step (fun K hK => ?_); go_simp; first | (refine hK _ ?_; clear hK K) | (apply Exists.intro; refine ⟨fun x => ?_, hK _ ?_⟩; (fail); clear hK K)))
    refine wpSQ_nil ?_
    intro V9 hV9
    have HJ9 := hid (HJD.out.more hV9)
    have HBB := hid (HB8.out.only (Ext.trans ((Ext.refl w8).drew) hV9) (fun _ _ _ x => x))
    clear ck hV9 HJD
    go_wp2_with fail
    refine (at_boot HJ9.out.rack ia len cap bits HBB.out HSB.out).mono ?_
    rintro e w10 ⟨rfl, h10, k10⟩
    have HJ10 := hid (HJ9.out.keep h10 k10)
    clear h10 k10 HJ9
    go_wp2_with (guard_target = wpList _ _ _ ({ dst := some _, op := Op.load _ _, type := _, pos := _, after := _, guard := none } :: _) _ _; refine wpList_load_agg rfl 23 _ rfl ⟨g, 0, none⟩ rfl (Cfg.A c) (cfg_agg c) (agg_cells HJ10.out.cfg) ?_)
    refine (sget_c HJ10.out.rack c 0).mono ?_
    rintro e w11 ⟨v, rfl, hown, x11⟩
    rcases HSLT.out with hs | hs | ⟨h, hh1, hh2, hs⟩
    · have HSX := hid hs
      clear hs HSLT
      rw [HSX.out] at hown ⊢
      obtain ⟨za, zc, rfl, hbk, hab⟩ := kblocks_at LA8.out hown
      have HJ11 := hid (HJ10.out.put x11 la za hbk hab)
      simp only [oErr]
      clear hown x11 hbk hab HJ10
      go_wp2_with fail
      refine (sameblk_c la LA8.out LAN.out za xa zc xc _ (HJ11.out.recs (za, la) (by simp)).bks (HJ11.out.recs (xa, la) (by simp)).bks).mono ?_
      rintro e w21 ⟨rfl, x21⟩
      have HX21 := hid (Ext.trans HJ11.out.ext x21)
      clear x21
      go_wp2_with (go_at_call 18; fail)
      refine (stripeRuns_c _).mono ?_
      rintro e w22 ⟨rfl, x22⟩
      have HX22 := hid (Ext.trans HX21.out x22)
      clear x22
      go_wp2
      go_ret
      exact ⟨rfl, HX22.out⟩
    · have HSX := hid hs
      clear hs HSLT
      rw [HSX.out] at hown ⊢
      obtain ⟨za, zc, rfl, hbk, hab⟩ := kblocks_at LB8.out hown
      have HJ11 := hid (HJ10.out.put x11 lb za hbk hab)
      simp only [oErr]
      clear hown x11 hbk hab HJ10
      go_wp2_with fail
      refine (sameblk_c lb LB8.out LBN.out za ya zc yc _ (HJ11.out.recs (za, lb) (by simp)).bks (HJ11.out.recs (ya, lb) (by simp)).bks).mono ?_
      rintro e w21 ⟨rfl, x21⟩
      have HX21 := hid (Ext.trans HJ11.out.ext x21)
      clear x21
      go_wp2_with (go_at_call 18; fail)
      refine (stripeRuns_c _).mono ?_
      rintro e w22 ⟨rfl, x22⟩
      have HX22 := hid (Ext.trans HX21.out x22)
      clear x22
      go_wp2
      go_ret
      exact ⟨rfl, HX22.out⟩
    · have HSX := hid hs
      have HH1 := hid hh1
      have HH2 := hid (show (h : Int) < kk by rw [← HK.out]; exact hh2)
      clear hs HSLT hh1 hh2
      rw [HSX.out] at hown ⊢
      obtain ⟨za, zc, rfl, _, _⟩ := kblocks_at (l := []) (by simp) hown
      have HJ11 := hid (HJ10.out.more x11)
      simp only [oErr, List.length_nil]
      clear hown x11 HJ10
      rw [HK.out]
      obtain ⟨e2, her⟩ : ∃ er, Err.fault sSGet 0 (.loss 0 h kk) = er := ⟨_, rfl⟩
      have HLO : Hid (e2.lost = true ∧ e2.lossOf = (0, (h : Int), (kk : Int))) := hid (by rw [← her]; exact ⟨rfl, rfl⟩)
      rw [her]
      obtain ⟨et2, ev2, hev2⟩ := e2.iface
      have HEV := hid hev2
      rw [hev2]
      clear her hev2
      go_wp2_with (go_at_call 19; fail)
      refine Calls.mono (by rw [← HEV.out]; exact lost_yes e2 HLO.out.1 _ (HG.out.only HJ11.out.ext (fun x => x))) ?_
      rintro e w19 ⟨rfl, x19⟩
      rw [HLO.out.2]
      simp only [lostV]
      have HJ19 := hid (HJ11.out.more (x19.alloc (.cells (lcells (0, (h : Int), (kk : Int))) 52)))
      obtain ⟨W19, hW19⟩ : ∃ W, w19.alloc (.cells (lcells (0, (h : Int), (kk : Int))) 52) = W := ⟨_, rfl⟩
      have HN19 := hid (show W19.heap[w19.heap.size]? = some (.cells (lcells (0, (h : Int), (kk : Int))) 52 (0, 0)) from hW19 ▸ heap_alloc_new _ _)
      rw [hW19] at HJ19
      have HW19 := hid hW19
      have hbs : (w19.alloc (.cells (lcells (0, 0, 0)) 52)).heap[w19.heap.size]? = some (.cells (lcells (0, 0, 0)) 52 (0, 0)) := block_alloc
      have c1 : W19.cell? ⟨g, 1, none⟩ = some (.int .i64 kk) := (cell_at HJ19.out.cfg).trans (by rw [Cfg.A1, HK.out])
      have d1 : W19.cell? ⟨w19.heap.size, 1, none⟩ = some (.int .i64 h) := (cell_at HN19.out).trans rfl
      have t1 : (1 : Int) ≤ (h : Int) := by have := HH1.out; omega
      have t2 : (h : Int) < (kk : Int) := HH2.out
      clear x19 hW19 HJ11 HEV
      go_wp2_with (first
        | (guard_target = wpList _ _ _ ({ dst := none, op := Op.store _ _ _, type := _, pos := _, after := _, guard := none } :: _) _ _; have hb0 := hbs; clear hbs; refine wpList_store_whole rfl 52 _ _ rfl w19.heap.size rfl (lcells (0, (h : Int), (kk : Int))) _ rfl 52 (agg_loss _) hb0 rfl (lcells_one _) ?_; rw [setRow_alloc, HW19.out])
        | (go_at_call 18; fail))
      refine (stripeRuns_c _).mono ?_
      rintro e w20 ⟨rfl, x20⟩
      have HX20 := hid (Ext.trans HJ19.out.ext x20)
      clear x20
      go_wp2
      go_ret
      exact ⟨rfl, HX20.out⟩
end Go.Proofs.YtkofmabonpbegaaGreatDoor

/- The statement StripeNever, as its tied card: for every input the call of stavelaw11's StripeNever answers true, and its arguments read behind it as they read before. No condition of our own. -/
namespace Go.Proofs.YtkofmabonpbegaaGreatDoor.stripeNever
open Go.ChangeShapes Go.WideShapes Go.ChangeAt Go.RowKit
open Go.ChangeMaps (open_string shut_string)
set_option linter.unusedVariables false
theorem laidOut : laidOutB Tryz.prog = true := by kernel_rfl
theorem walk (a0 : Int) (a1 : Int) (a2 : Int) (a3 : Int) (a4 : Int) (a5 : Option Addr) (len5 cap5 : Nat) (z5 : List Int) (w : World) (hg : EtLaid w) (w0 : (Lit.int .i64 a0).wf = true) (w1 : (Lit.int .i64 a1).wf = true) (w2 : (Lit.int .i64 a2).wf = true) (w3 : (Lit.int .i64 a3).wf = true) (w4 : (Lit.int .i64 a4).wf = true) (w5 : IsRow .u64 w a5 len5 cap5 z5) :
    Calls Tryz.prog 4 #[.int .i64 a0, .int .i64 a1, .int .i64 a2, .int .i64 a3, .int .i64 a4, .slice a5 len5 cap5] w fun e w' => e = .returned (.bool true) ∧ Below w.heap.size w w' :=
  (stripeNever_c a0 a1 a2 a3 a4 a5 len5 cap5 z5 w hg w5).mono fun _ _ ⟨he, hx⟩ => ⟨he, hx.below⟩
set_option maxRecDepth 100000 in
theorem lifted (os : Os) (started : os.Started) (H : Type) (enc : TypeId × Value → H) :
    ReturnsInHanded {} Tryz.checked os 4 .any (fun w args => (Rows.stripeNeverSpec.pre enc Tryz.prog Tryz.f4 [] false w args ∧ laidMetH Tryz.prog theLaid w) ∧ sizedMet enc Tryz.prog Tryz.f4 (OpenSpec.ofChange Rows.stripeNeverSpec) false w args)
      (Rows.stripeNeverSpec.post enc Tryz.prog Tryz.f4 false true false false) := by
  refine returnsInHanded_of_change_and (C := Tryz.checked) (X := fun w _ => laidMetH Tryz.prog theLaid w) (fun _ _ _ hh h => h.of_heap hh) hOwn started (by kernel_rfl) Tryz.func4
    (ChangeSpec.witness_at (enc := enc) (C := Tryz.checked) (os := os) (X := fun w _ => laidMetH Tryz.prog theLaid w) false (laidWorld os) #[.int .i64 0, .int .i64 0, .int .i64 0, .int .i64 0, .int .i64 0, .slice none 0 0] 8 rfl (by kernel_rfl) (by kernel_rfl) (by kernel_rfl) (by kernel_rfl) (by kernel_rfl) (laidWorld_met os _)) ?_
  intro W base args ds gs before hval0 hW _ _ hL _
  have hval : ∀ (j : Nat) t v, Tryz.f4.params[j]? = some t → args[j]? = some v → Value.okWide Tryz.prog W .any base t v := hval0
  have hW' := hW
  obtain ⟨p, q, hA0, hV, rfl, hfz, hnd⟩ := hW
  have hA : DataW.TrodAll enc Tryz.prog W 0 (fun _ => true) true Tryz.f4.params.toList args.toList ds p := hA0
  rw [Tryz.params4] at hA hval
  obtain ⟨v0, vs0, d0, ds0, p0, q0, hargs, rfl, rfl, h0, r0⟩ := trodAll_cons hA
  obtain ⟨v1, vs1, d1, ds1, p1, q1, rfl, rfl, rfl, h1, r1⟩ := trodAll_cons r0
  obtain ⟨v2, vs2, d2, ds2, p2, q2, rfl, rfl, rfl, h2, r2⟩ := trodAll_cons r1
  obtain ⟨v3, vs3, d3, ds3, p3, q3, rfl, rfl, rfl, h3, r3⟩ := trodAll_cons r2
  obtain ⟨v4, vs4, d4, ds4, p4, q4, rfl, rfl, rfl, h4, r4⟩ := trodAll_cons r3
  obtain ⟨v5, vs5, d5, ds5, p5, q5, rfl, rfl, rfl, h5, r5⟩ := trodAll_cons r4
  obtain ⟨rfl, rfl, rfl⟩ := trodAll_nil r5
  obtain rfl : args = #[v0, v1, v2, v3, v4, v5] := by cases args; simp_all
  obtain ⟨rfl, rfl⟩ := trodVars_none hV
  obtain ⟨a0, rfl, rfl, rfl, w0⟩ := open_int Tryz.underlying3 (hval 0 3 v0 rfl rfl) h0
  obtain ⟨a1, rfl, rfl, rfl, w1⟩ := open_int Tryz.underlying3 (hval 1 3 v1 rfl rfl) h1
  obtain ⟨a2, rfl, rfl, rfl, w2⟩ := open_int Tryz.underlying3 (hval 2 3 v2 rfl rfl) h2
  obtain ⟨a3, rfl, rfl, rfl, w3⟩ := open_int Tryz.underlying3 (hval 3 3 v3 rfl rfl) h3
  obtain ⟨a4, rfl, rfl, rfl, w4⟩ := open_int Tryz.underlying3 (hval 4 3 v4 rfl rfl) h4
  obtain ⟨a5, len5, cap5, rfl⟩ := okWide_slice Tryz.underlying56 (hval 5 56 v5 rfl rfl)
  have k5 := h5
  have lt5 : ∀ x ∈ p5, x.block < W.heap.size := by obtain ⟨m, hm⟩ := k5; exact DataW.trod_lt m _ _ _ hm
  obtain ⟨z5, w5⟩ : ∃ zs, IsRow .u64 W a5 len5 cap5 zs := by
    obtain ⟨fuel, hf⟩ := h5
    rcases open_ints Tryz.underlying56 Tryz.underlying88 (by kernel_rfl) hf with ⟨hcs, _⟩ | ⟨x, l, c, zs, hcs, _, hl, hm, hz, _, hcell, hwz⟩
    · simp [Value.cells] at hcs
      obtain ⟨rfl, rfl, rfl⟩ := hcs
      exact ⟨[], .inl ⟨rfl, rfl, rfl, rfl⟩⟩
    · simp [Value.cells] at hcs
      obtain ⟨rfl, rfl, rfl⟩ := hcs
      exact ⟨zs, .inr ⟨_, rfl, hl, hm, by simpa using hz, hcell, hwz⟩⟩
  have hg := etLaid_of hL
  clear hA0 hval0
  simp only [List.append_nil] at hW'
  refine (walk a0 a1 a2 a3 a4 a5 len5 cap5 z5 W hg w0 w1 w2 w3 w4 w5).mono fun e W' ⟨he, bel⟩ => ?_
  subst he
  exact ⟨_, rfl, _, _, _, [], _, [], hW', trodAll_mk1 (shut_bool Tryz.underlying4 _), (trodAll_cons_mk (shut_int Tryz.underlying3 w0) (trodAll_cons_mk (shut_int Tryz.underlying3 w1) (trodAll_cons_mk (shut_int Tryz.underlying3 w2) (trodAll_cons_mk (shut_int Tryz.underlying3 w3) (trodAll_cons_mk (shut_int Tryz.underlying3 w4) (trodAll_cons_mk (Below.trod laidOut (by kernel_rfl) (of_decide_eq_true (by kernel_rfl)) k5 bel lt5) trodAll_mk0)))))), rfl, bel.frame _, fun h => by cases h⟩
theorem over : Rows.StripeNeverSaid :=
  OpenClaim.holds_of_wide 4 Tryz.f4 rfl rfl rfl rfl rfl rfl rfl ⟨rfl, rfl, rfl, rfl, rfl⟩ rfl rfl rfl rfl rfl (by kernel_rfl) Tryz.func4 (by kernel_rfl)
    (of_decide_eq_true (by kernel_rfl)) (by unfold Func.isWrapper; first | (rw [if_pos (by decide +kernel)]; kernel_rfl) | (rw [if_neg (by decide +kernel)]; exact ⟨rfl, rfl⟩))
    (fun os started H enc _ => lifted os started H enc)
theorem proved : Rows.StripeNeverCardSaid :=
  Claim7.holds_tied_plain_at .later [] [.handle] true (true, "c2a98d723d65909e70b11b01eff72db5bcb78a4fb8e7f2a6b169bd298c51fa36") true
    over (fun _ h => by cases h) (by kernel_rfl) (fun _ h => by cases h) stripeNever_row_tie rfl ⟨rfl, rfl⟩ (by kernel_rfl) rfl
    (fun f fn hf hfn => by
      obtain rfl : f = 4 := Option.some.inj ((show Tryz.prog.funcNamed "stave/stavelaw11.StripeNever" = some 4 by kernel_rfl).symm.trans hf) |>.symm
      obtain rfl : fn = Tryz.f4 := (Option.some.inj (Tryz.func4.symm.trans hfn)).symm
      exact ⟨by kernel_rfl, fun j t ht => by
        rw [Tryz.params4] at ht
        rcases j with _ | _ | _ | _ | _ | _ | j
        · simp at ht; subst ht; kernel_rfl
        · simp at ht; subst ht; kernel_rfl
        · simp at ht; subst ht; kernel_rfl
        · simp at ht; subst ht; kernel_rfl
        · simp at ht; subst ht; kernel_rfl
        · simp at ht; subst ht; kernel_rfl
        · simp at ht⟩)
    (by kernel_rfl)
#print axioms proved
end Go.Proofs.YtkofmabonpbegaaGreatDoor.stripeNever
