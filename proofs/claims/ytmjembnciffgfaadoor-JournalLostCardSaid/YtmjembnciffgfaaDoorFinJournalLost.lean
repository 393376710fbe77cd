/- The statement JournalLost, as its tied card: for every input the call of stavelaw10's JournalLost answers true, and its arguments read behind it as they read before. No condition of our own. -/
/- Texts of one proof, joined: WJournalLost, LawJournalLost. -/
import Derived.Test.YtmjembnciffgfaaDoorPartL
import Derived.Test.YtmjembnciffgfaaDoorCards
import Derived.Test.YtmjembnciffgfaaDoorTie
import Derived.Test.YtmjembnciffgfaaDoorPartC
import Derived.WalkKit
import Derived.ProofKit
import Derived.OpenShut
import Derived.ShutString
import Derived.ChangeOld
import Derived.Below
import Derived.SevenTiedAt
set_option linter.unusedVariables false
set_option linter.unusedSimpArgs false
/- The walk of JournalLost. -/
namespace Go.Proofs.YtmjembnciffgfaaDoor
set_option linter.unusedVariables false
open Go Go.RowKit
namespace Lost10
def F (c : Cfg) (s : Nat) (t : Nat) : Option Rcd := if t < s then some (recOf c (3 + (t : Int)) 0 t) else none
theorem F_zero (c : Cfg) : F c 0 = fun _ => none := by funext t; simp [F]
theorem F_succ (c : Cfg) (s : Nat) : upd (F c s) s (recOf c (3 + (s : Int)) 0 s) = F c (s + 1) := by
  funext t
  unfold upd F
  by_cases h : t = s
  · subst h; simp
  · rw [if_neg h]
    by_cases h2 : t < s
    · rw [if_pos h2, if_pos (by omega)]
    · rw [if_neg h2, if_neg (by omega)]
theorem F_at (c : Cfg) {t : Nat} (h : t < 3) : F c 3 t = some (recOf c (3 + (t : Int)) 0 t) := by simp [F, h]
end Lost10
open Lost10 in
set_option maxRecDepth 100000 in
set_option maxHeartbeats 4000000 in
theorem journalLost_c (k n at_ slot : Int) (w : World) (hg : EtLaid w) :
    Calls Tryd.prog 5 #[.int .i64 k, .int .i64 n, .int .i64 at_, .int .i64 slot] w fun e w' => e = .returned (.bool true) ∧ Ext w w' := by
  have HG := hid hg
  have hzc := zero_cfg
  have hzr := zero_rec
  have hzl := zero_loss
  have HCS := hid Cfg.A_size
  clear hg
  go_enter Tryd.func5, Tryd.ntmps5
  go_wp2_with fail
  refine (kfixed_c k n 2 3 _).mono ?_
  rintro e w1 ⟨rfl, x1⟩
  have HGD := hid (show (keepFixed k n 2 3).Good from keepFixed_good k n 2 3 (by omega) (by omega) (by omega) (by omega))
  have HK4 := hid (keepFixed_k4 k n 2 3)
  have HN6 := hid (keepFixed_n6 k n 2 3)
  have HST := hid (show (keepFixed k n 2 3).stripes = 2 from rfl)
  have HSL := hid (show (keepFixed k n 2 3).slots = 3 from rfl)
  generalize keepFixed k n 2 3 = c at *
  obtain ⟨W1, hW1⟩ : ∃ W, w1.alloc (.cells (Cfg.A c) 23) = W := ⟨_, rfl⟩
  have X1 := hid (show Ext w W1 from hW1 ▸ x1.alloc _)
  have HC := hid (show W1.heap[w1.heap.size]? = some (.cells (Cfg.A c) 23 (0, 0)) from hW1 ▸ heap_alloc_new _ _)
  have hbs : (w1.alloc (.cells (Cfg.A Cfg.zero) 23)).heap[w1.heap.size]? = some (.cells (Cfg.A Cfg.zero) 23 (0, 0)) := block_alloc
  clear x1
  go_wp2_with (guard_target = wpList _ _ _ ({ dst := none, op := Op.store _ _ _, type := _, pos := _, after := _, guard := none } :: _) _ _; refine wpList_store_whole rfl 23 _ _ rfl w1.heap.size rfl (Cfg.A c) _ rfl 23 ?_ hbs ?_ ?_ ?_; (rw [HCS.out]; exact aggCfg); (rw [HCS.out, HCS.out]); exact Cfg.A_one _)
  rw [setRow_alloc, hW1]
  clear hbs hW1
  have HLT := hid (lt_of_block HC.out)
  generalize w1.heap.size = g at *
  obtain ⟨m, hm, m1, m128⟩ := sectors_nat c HGD.out
  obtain ⟨nn, hn⟩ : ∃ nn : Nat, c.n = nn := ⟨c.n.toNat, by have := HGD.out.k0; have := HGD.out.k1; omega⟩
  obtain ⟨kk, hk⟩ : ∃ kk : Nat, c.k = kk := ⟨c.k.toNat, by have := HGD.out.k0; omega⟩
  have HNT := hid (show c.n.toNat = nn by omega)
  have HKT := hid (show c.k.toNat = kk by omega)
  have n1 : 1 ≤ nn := by have := HGD.out.k0; have := HGD.out.k1; omega
  have n8 : nn ≤ 6 := by have := HN6.out; omega
  have k1 : 1 ≤ kk := by have := HGD.out.k0; omega
  have k4 : kk ≤ 4 := by have := HK4.out; omega
  have HM := hid hm; have HN := hid hn; have HK := hid hk
  have xd : Ext W1 W1.drew := (Ext.refl W1).drew
  have lc : Hid (∀ x : SW Ext W1.drew, ∀ j v, (Cfg.A c).toList[j]? = some v → x.w.cell? ((⟨g, 0, none⟩ : Addr).add j) = some v) := hid fun x => agg_cells ((Ext.trans xd x.ext).at HC.out)
  have c2 : ∀ x : SW Ext W1.drew, x.w.cell? ⟨g, 2, none⟩ = some (.int .i64 nn) := fun x => (cell_at ((Ext.trans xd x.ext).at HC.out)).trans (by rw [Cfg.A2, HN.out])
  have sc : Hid (∀ x : SW Ext W1.drew, Calls Tryd.prog 19 #[.agg (Cfg.A c)] x.w fun e w'' => e = .returned (.int .i64 m) ∧ Ext x.w w'') := hid fun x => by
    have := ksectors_c c HGD.out x.w
    rw [HM.out] at this
    exact this
  have HAG := hid (cfg_agg c)
  clear hm hn hk
  refine wp_region_rely_all (S := Ext) (.one [0, 1, 2, 3] 4 (.fin [5, 6, 7, 8, 9])) (by kernel_rfl) (by kernel_rfl) (fun _ _ d _ _ h => by cases d <;> exact h) ?_
  rw [wpS]
  simp only [opsAt, List.map_cons, List.map_nil, Array.getD_eq_getD_getElem?, List.getElem?_toArray, List.getElem?_cons_succ, List.getElem?_cons_zero, Option.getD_some]
  iterate 2 ((refine wpSQ_step (fun K hK => ?_); go_simp; first | (refine hK _ ?_; clear hK K) | (apply Exists.intro; refine ⟨fun x => ?_, hK _ ?_⟩; (fail); clear hK K)))
  refine wpSQ_load_agg 23 _ rfl ⟨g, 0, none⟩ rfl (Cfg.A c) rfl HAG.out lc.out ?_
  (refine wpSQ_step (fun K hK => ?_); go_simp; first | (refine hK _ ?_; clear hK K) | (apply Exists.intro; refine ⟨fun x => ?_, hK _ ?_⟩; (exact sc.out x); clear hK K))
  refine wpSQ_nil ?_
  intro V1 hV1
  refine wpS_loud fun K hK => ?_
  go_wp2_with fail
  refine (at_new nn m n1 (by omega) m1 m128 V1).mono ?_
  rintro e w2 ⟨r, rfl, h2, x2⟩
  go_wp2
  refine hK _ _ x2 ?_
  clear hK K
  rw [wpS]
  simp only [opsAt, List.map_cons, List.map_nil, Array.getD_eq_getD_getElem?, List.getElem?_toArray, List.getElem?_cons_succ, List.getElem?_cons_zero, Option.getD_some]
  iterate 5 ((refine wpSQ_step (fun K hK => ?_); go_simp; first | (refine hK _ ?_; clear hK K) | (apply Exists.intro; refine ⟨fun x => ?_, hK _ ?_⟩; (fail); clear hK K)))
  refine wpSQ_nil ?_
  intro V2 hV2
  have J2 : JE w V2 (fun b => b < W1.heap.size) r (Rck.new nn m) g c [] := ⟨(h2.less fun b hb => Nat.lt_of_lt_of_le hb (Ext.trans xd hV1).size).ext hV2, Ext.trans X1.out (Ext.trans xd (Ext.trans hV1 (Ext.trans x2 hV2))), fun b hb => Nat.lt_of_lt_of_le hb X1.out.size, (Ext.trans xd (Ext.trans hV1 (Ext.trans x2 hV2))).at HC.out, HLT.out, fun p hp => by simp at hp⟩
  have HJ2 := hid J2
  have RJ0 : RJ (Rck.new nn m) c m (fun _ => none) := by
    have := RJ.new HGD.out (m := m) (by rw [HM.out]; exact Int.le_refl _)
    rw [HNT.out] at this
    exact this
  have HRJ0 := hid RJ0
  clear h2 x2 hV1 hV2 lc c2 sc xd J2 X1 HC HLT RJ0
  obtain ⟨S0, hS0⟩ : ∃ S : Nat → Prop, (fun b => b < W1.heap.size) = S := ⟨_, rfl⟩
  rw [hS0] at HJ2
  have HRJ := hid (show RJ (Rck.new nn m) c m (F c 0) by rw [F_zero]; exact HRJ0.out)
  clear HRJ0 hS0
  go_wp2
  go_loopw [12] (fun t wr => ∃ s : Nat, t = .int .i64 s ∧ s ≤ 3 ∧ ∃ R, RJ R c m (F c s) ∧ JE w wr S0 r R g c []) (fun t _ => 3 - (intOf t).toNat)
  case atStart => exact ⟨0, rfl, by omega, _, HRJ.out, HJ2.out⟩
  case round =>
    clear HRJ HJ2
    obtain ⟨s, rfl, hs, R, hrj, hj⟩ := hrel
    have HJR := hid hj
    have HRR := hid hrj
    clear hj hrj
    by_cases hlt : s < 3
    · have i1 : (s : Int) < 3 := by omega
      have hw1 : wrap64 (3 + (s : Int)) = 3 + (s : Int) := by unfold wrap64; omega
      have hw2 : IntKind.i64.wrap (3 + (s : Int)) = 3 + (s : Int) := by rw [IntKind.wrap_i64]; omega
      obtain ⟨X, hX⟩ : ∃ X, recOf c (3 + (s : Int)) 0 s = X := ⟨_, rfl⟩
      have HXE := hid hX
      have HXS := hid (show X.seq = 3 + (s : Int) by rw [← hX]; rfl)
      have HXT := hid (show X.stripe = 0 by rw [← hX]; rfl)
      have HXL := hid (show (X.blocks.length : Int) = c.k by rw [← hX]; exact recOf_len HGD.out _ _ _)
      have HXO := hid (show X.Ok by rw [← hX]; exact recOf_ok _ _ _ _)
      have HXB := hid (show X.blocks = blocksOf kk s by rw [← hX, ← HKT.out]; rfl)
      obtain ⟨_, _, _, R', hlog, hrj'⟩ := HRR.out.log (x := X) (t := s) (by rw [HXS.out, HSL.out]; omega) HXO.out (by rw [HXT.out]; decide) (by rw [HXT.out, HST.out]; decide) (by rw [HXS.out]; omega) (by rw [HXS.out]; omega) HXL.out
      have HLOG := hid hlog
      have HRN := hid (show RJ R' c m (F c (s + 1)) by rw [← F_succ, hX]; exact hrj')
      clear hlog hrj' hX
      have xd : Ext wr wr.drew := (Ext.refl wr).drew
      have HJD := hid (HJR.out.more xd)
      have lc : Hid (∀ y : SW (Only fun b => ¬ S0 b) wr.drew, ∀ j v, (Cfg.A c).toList[j]? = some v → y.w.cell? ((⟨g, 0, none⟩ : Addr).add j) = some v) := hid fun y => agg_cells (y.ext.at HJD.out.cfg (fun q => q HJD.out.cfgS))
      have ck : ∀ y : SW (Only fun b => ¬ S0 b) wr.drew, y.w.cell? ⟨g, 1, none⟩ = some (.int .i64 kk) := fun y => (cell_at (y.ext.at HJD.out.cfg (fun q => q HJD.out.cfgS))).trans (by rw [Cfg.A1, HK.out])
      clear xd
      go_wp2_with fail
      refine wp_region_calm_all (E := Ext) (S := Only fun b => ¬ S0 b) (.one [0, 1, 2, 3, 4, 5, 6] 7 (.one [8] 9 (.fin [10]))) (by kernel_rfl) (by kernel_rfl) (fun _ _ d _ _ h => by cases d <;> exact h) ?_
      rw [wpS]
      simp only [opsAt, List.map_cons, List.map_nil, Array.getD_eq_getD_getElem?, List.getElem?_toArray, List.getElem?_cons_succ, List.getElem?_cons_zero, Option.getD_some]
      (refine wpSQ_step (fun K hK => ?_); go_simp; first | (refine hK _ ?_; clear hK K) | (apply Exists.intro; refine ⟨fun x => ?_, hK _ ?_⟩; (fail); clear hK K))
      refine wpSQ_load_agg 23 _ rfl ⟨g, 0, none⟩ rfl (Cfg.A c) rfl (cfg_agg c) lc.out ?_
      iterate 5 ((refine wpSQ_step (fun K hK => ?_); go_simp; first | (refine hK _ ?_; clear hK K) | (apply Exists.intro; refine ⟨fun x => ?_, hK _ ?_⟩; (fail); clear hK K)))
      refine wpSQ_nil ?_
      intro V3 hV3
      have HJ3 := hid (HJD.out.more hV3)
      clear lc ck hV3 HJD
      refine wpS_loud fun Q1 hQ1 => ?_
      go_wp2_with fail
      refine (kblocks_c kk (by omega) s V3).mono ?_
      rintro e w4 ⟨v, rfl, hown, x4⟩
      obtain ⟨a, cp, rfl, hbk, hab⟩ := kblocks_at (fun b hb => by obtain ⟨n, rfl⟩ := blocksOf_mem hb; exact blockOf_len n) hown
      have HBX : Hid (Tryd.prog.built 32 [(0, .int .i64 (3 + (s : Int))), (2, .slice a (blocksOf kk s).length cp)] = some (X.V a cp)) := hid (by
        have := built_recOfB c (3 + (s : Int)) s a cp
        rw [HKT.out] at this
        rw [this, HXE.out])
      have HBK := hid (show BlksAt w4 a X.blocks by rw [HXB.out]; exact hbk)
      have HAB := hid hab
      have HX4 := hid x4
      clear hown hbk hab
      generalize (blocksOf kk s).length = n1 at *
      go_wp2
      refine hQ1 _ _ (Ext.only x4) ?_
      clear hQ1 Q1 x4
      rw [wpS]
      simp only [opsAt, List.map_cons, List.map_nil, Array.getD_eq_getD_getElem?, List.getElem?_toArray, List.getElem?_cons_succ, List.getElem?_cons_zero, Option.getD_some]
      refine wpSQ_build rfl 32 _ rfl (X.V a cp) ?_ ?_
      · simp only [List.map_toArray, List.map_cons, List.map_nil, Act.eval]
        simp only [Array.getD_eq_getD_getElem?, List.getElem?_toArray, List.getElem?_cons_succ, List.getElem?_cons_zero, Option.getD_some]
        exact HBX.out
      refine wpSQ_nil ?_
      intro V4 hV4
      have HJ4 := hid (HJ3.out.wide (Ext.trans HX4.out hV4))
      have HB4 := hid (HBK.out.ext hV4)
      have HA4 := hid (show ∀ g, a = some ⟨g, 0, none⟩ → wideS S0 V3 V4 g from fun g hg => by
        refine .inr ⟨HAB.out g hg, ?_⟩
        rcases hl : X.blocks with _ | ⟨b, l⟩
        · have := HXL.out; rw [hl] at this; simp at this; have := HGD.out.k0; omega
        · obtain ⟨g', hg', hc⟩ := HB4.out 0 b (by rw [hl]; rfl)
          rw [hg'] at hg
          cases hg
          exact World.block_lt_of_cell? V4 _ (hc 0 (by omega)))
      clear hV4 HX4 HBK HAB HJ3 HBX
      refine wpS_loud fun Q2 hQ2 => ?_
      go_wp2_with fail
      refine (jlog_c HJ4.out.rack c X HXO.out a cp HB4.out HA4.out).mono ?_
      rintro e w5 ⟨rfl, h5, k5⟩
      rw [HLOG.out] at h5 ⊢
      simp only [oErr]
      have HJ5 := hid (HJ4.out.keep h5 k5)
      have HK5 := hid (show Only (fun b => ¬ S0 b) V4 w5 from Only.trans (Only.refl _ V4) k5 (fun b _ hb q => hb (.inl q)))
      clear h5 k5 HJ4
      go_wp2
      refine hQ2 _ _ HK5.out ?_
      clear hQ2 Q2
      rw [wpS]
      simp only [opsAt, List.map_cons, List.map_nil, Array.getD_eq_getD_getElem?, List.getElem?_toArray, List.getElem?_cons_succ, List.getElem?_cons_zero, Option.getD_some]
      (refine wpSQ_step (fun K hK => ?_); go_simp; first | (refine hK _ ?_; clear hK K) | (apply Exists.intro; refine ⟨fun x => ?_, hK _ ?_⟩; (fail); clear hK K))
      refine wpSQ_nil ?_
      intro V5 hV5
      have HJ6 := hid (show JE w V5 S0 r R' g c [] from by
        have h := HJ5.out.more hV5
        exact ⟨h.rack.less fun b hb => .inl hb, h.ext, fun b hb => by
          have q := HJR.out.low b hb
          exact q, h.cfg, HJR.out.cfgS, fun p hp => by simp at hp⟩)
      clear hV5 HJ5
      go_wp2
      go_roundw
      case rel => exact ⟨s + 1, by go_num, by omega, R', HRN.out, HJ6.out⟩
      case measure => simp [intOf]; omega
    · obtain rfl : s = 3 := by omega
      rw [show ((3 : Nat) : Int) = 3 from rfl]
      have hw1 : wrap64 ((kk : Int) - 1) = (kk : Int) - 1 := by unfold wrap64; omega
      have hwk : IntKind.i64.wrap ((kk : Int) - 1) = (kk : Int) - 1 := by rw [IntKind.wrap_i64]; omega
      have xd : Ext wr wr.drew := (Ext.refl wr).drew
      have HJD := hid (HJR.out.more xd)
      have ck : ∀ y : SW Ext wr.drew, y.w.cell? ⟨g, 1, none⟩ = some (.int .i64 kk) := fun y => (cell_at (y.ext.at HJD.out.cfg)).trans (by rw [Cfg.A1, HK.out])
      have wa : ∀ y : SW Ext wr.drew, Calls Tryd.prog 18 #[.int .i64 slot, .int .i64 0, .int .i64 2] y.w fun e w'' => e = .returned (.int .i64 (within slot 0 2)) ∧ Ext y.w w'' := fun y => (within_c slot 0 2 y.w (by omega) (by omega) (by omega)).mono fun e w'' ⟨h, q⟩ => ⟨h, q ▸ Ext.refl _⟩
      have wb : ∀ y : SW Ext wr.drew, Calls Tryd.prog 18 #[.int .i64 at_, .int .i64 0, .int .i64 ((kk : Int) - 1)] y.w fun e w'' => e = .returned (.int .i64 (within at_ 0 ((kk : Int) - 1))) ∧ Ext y.w w'' := fun y => (within_c at_ 0 ((kk : Int) - 1) y.w (by omega) (by omega) (by omega)).mono fun e w'' ⟨h, q⟩ => ⟨h, q ▸ Ext.refl _⟩
      have HWA := hid wa
      have HWB := hid wb
      clear xd wa wb
      go_wp2_with fail
      refine wp_region_rely_all (S := Ext) (.fin [0, 1, 2, 3, 4, 5, 6, 7, 8]) (by kernel_rfl) (by kernel_rfl) (fun _ _ d _ _ h => by cases d <;> exact h) ?_
      rw [wpS]
      simp only [opsAt, List.map_cons, List.map_nil, Array.getD_eq_getD_getElem?, List.getElem?_toArray, List.getElem?_cons_succ, List.getElem?_cons_zero, Option.getD_some]
      (refine wpSQ_step (fun K hK => ?_); go_simp; first | (refine hK _ ?_; clear hK K) | (apply Exists.intro; refine ⟨fun x => ?_, hK _ ?_⟩; (fail); clear hK K))
      (refine wpSQ_step (fun K hK => ?_); go_simp; first | (refine hK _ ?_; clear hK K) | (apply Exists.intro; refine ⟨fun x => ?_, hK _ ?_⟩; (exact HWA.out x); clear hK K))
      iterate 4 ((refine wpSQ_step (fun K hK => ?_); go_simp; first | (refine hK _ ?_; clear hK K) | (apply Exists.intro; refine ⟨fun x => ?_, hK _ ?_⟩; (fail); clear hK K)))
      (refine wpSQ_step (fun K hK => ?_); go_simp; first | (refine hK _ ?_; clear hK K) | (apply Exists.intro; refine ⟨fun x => ?_, hK _ ?_⟩; (exact HWB.out x); clear hK K))
      iterate 2 ((refine wpSQ_step (fun K hK => ?_); go_simp; first | (refine hK _ ?_; clear hK K) | (apply Exists.intro; refine ⟨fun x => ?_, hK _ ?_⟩; (fail); clear hK K)))
      refine wpSQ_nil ?_
      intro V6 hV6
      have HJ6 := hid (HJD.out.more hV6)
      obtain ⟨p0, p1⟩ := within_bd slot 0 2 (by omega)
      obtain ⟨q0, q1⟩ := within_bd at_ 0 ((kk : Int) - 1) (by omega)
      obtain ⟨xn, hxn⟩ := Int.eq_ofNat_of_zero_le p0
      obtain ⟨yn, hyn⟩ := Int.eq_ofNat_of_zero_le q0
      rw [hxn, hyn]
      have hx3 : xn < 3 := by omega
      have hyk : yn < kk := by omega
      clear ck hV6 HWA HWB HJD HJR hw1 hwk p0 p1 q0 q1 hxn hyn
      have HYK := hid (show yn < c.k.toNat by rw [HKT.out]; exact hyk)
      have HXC := hid (show ∀ t, t < 3 → t < c.slots.toNat from fun t ht => by rw [HSL.out]; exact ht)
      have HB0 := hid ((RB.of HRR.out).congr (B' := lostB c xn yn 0) fun d _ j => (lostB_zero c xn yn d j).symm)
      have HLN := hid (fun (t : Nat) => (show ((recOf c (3 + (t : Int)) 0 t).blocks.length : Int) = c.k from recOf_len HGD.out _ _ _))
      have hsec : ((jsecN c xn yn : Nat) : Int) = 1 + (xn : Int) * (kk : Int) + (yn : Int) := by unfold jsecN; rw [HKT.out]; push_cast; rfl
      have hsb : xn * kk ≤ 2 * 4 := Nat.mul_le_mul (by omega) k4
      obtain ⟨pn, hpn⟩ : ∃ pn : Nat, xn * kk = pn := ⟨_, rfl⟩
      have hpi : (xn : Int) * (kk : Int) = (pn : Int) := by rw [← hpn]; push_cast; rfl
      rw [hpi] at hsec
      have HSEC := hid hsec
      have hw1 : wrap64 ((pn : Int)) = (pn : Int) := by unfold wrap64; omega
      have hw2 : wrap64 (1 + (pn : Int)) = 1 + (pn : Int) := by unfold wrap64; omega
      have hw3 : wrap64 (1 + (pn : Int) + (yn : Int)) = 1 + (pn : Int) + (yn : Int) := by unfold wrap64; omega
      clear hsec hsb hpn HRR
      go_wp2
      go_loopw [15] (fun t wr => ∃ d : Nat, t = .int .i64 d ∧ d ≤ nn ∧ ∃ R, RB R c m (F c 3) (lostB c xn yn d) ∧ JE w wr S0 r R g c []) (fun t _ => nn - (intOf t).toNat)
      case atStart => exact ⟨0, rfl, by omega, _, HB0.out, HJ6.out⟩
      case round =>
        clear HB0 HJ6
        obtain ⟨d, rfl, hd, R, hrb, hj⟩ := hrel
        have HJR := hid hj
        have HRB := hid hrb
        have c2 : wr.cell? ⟨g, 2, none⟩ = some (.int .i64 nn) := (cell_at hj.cfg).trans (by rw [Cfg.A2, HN.out])
        clear hj hrb
        by_cases hdt : d < nn
        · obtain ⟨X, hX⟩ : ∃ X, recOf c (3 + (xn : Int)) 0 xn = X := ⟨_, rfl⟩
          have HSLOT := hid (show R.jslot c (xn : Int) = (X, true, X.seq, none) from by
            have := HRB.out.slot (s := xn) (HXC.out xn hx3) (F_at c hx3) (HLN.out xn) (fun i hi => ⟨d, by rw [HNT.out]; exact hdt, lostB_here c xn yn d (Nat.le_refl d) _⟩)
            rw [hX] at this
            exact this)
          obtain ⟨hrot, hrb'⟩ := HRB.out.rot (d := d) (s := xn) (i := yn) (by rw [HNT.out]; exact hdt) (HXC.out xn hx3) (F_at c hx3) HYK.out (lostB_here c xn yn d (Nat.le_refl d) _) (a := 7) (y := 1) (by omega) (by omega) (by omega)
          rw [HSEC.out] at hrot hrb'
          have HROT := hid (show R.rotOk d (1 + (pn : Int) + (yn : Int)) 7 1 = true from hrot)
          have HRN := hid (show RB (R.rot d (1 + (pn : Int) + (yn : Int)) 7 1) c m (F c 3) (lostB c xn yn (d + 1)) from hrb'.congr fun e _ j => lostB_next c xn yn d e j)
          clear hX hrot hrb' HRB
          go_wp2_with (guard_target = wpList _ _ _ ({ dst := some _, op := Op.load _ _, type := _, pos := _, after := _, guard := none } :: _) _ _; refine wpList_load_agg rfl 23 _ rfl ⟨g, 0, none⟩ rfl (Cfg.A c) (cfg_agg c) (agg_cells HJR.out.cfg) ?_)
          refine (jslot_c HJR.out.rack c xn).mono ?_
          rintro e w7 ⟨a7, c7, rfl, x7, b7, l7⟩
          rw [HSLOT.out] at b7 ⊢
          simp only [oErr]
          have J7 := HJR.out.put x7 X a7 c7 b7 l7
          obtain ⟨W7, hW7⟩ : ∃ W, w7.alloc (.cells ((X).V a7 c7) 32) = W := ⟨_, rfl⟩
          rw [hW7] at J7
          have HJ7 := hid J7
          have HW7 := hid hW7
          have hbs : (w7.alloc (.cells (Rcd.none_.V none 0) 32)).heap[w7.heap.size]? = some (.cells (Rcd.none_.V none 0) 32 (0, 0)) := block_alloc
          clear x7 b7 l7 J7 hW7
          have ck : W7.cell? ⟨g, 1, none⟩ = some (.int .i64 kk) := (cell_at HJ7.out.cfg).trans (by rw [Cfg.A1, HK.out])
          clear c2
          go_wp2_with (first
            | (guard_target = wpList _ _ _ ({ dst := none, op := Op.store _ _ _, type := _, pos := _, after := _, guard := none } :: _) _ _; have hb0 := hbs; clear hbs; refine wpList_store_whole rfl 32 _ _ rfl w7.heap.size rfl (X.V a7 c7) _ rfl 32 (agg_rec _ _ _) hb0 rfl (V_one _ _ _) ?_; rw [setRow_alloc, HW7.out]))
          refine (at_rot HJ7.out.rack d (1 + (pn : Int) + (yn : Int)) 7 1 (by omega)).mono ?_
          rintro e w8 ⟨rfl, h8, k8⟩
          rw [HROT.out]
          have HJ8 := hid (HJ7.out.keep h8 k8)
          have HJ9 := hid (show JE w w8 S0 r (R.rot d (1 + (pn : Int) + (yn : Int)) 7 1) g c [] from ⟨HJ8.out.rack.less fun b hb => .inl hb, HJ8.out.ext, HJR.out.low, HJ8.out.cfg, HJR.out.cfgS, fun p hp => by simp at hp⟩)
          clear h8 k8 HJ7 HJ8 ck
          go_wp2
          go_roundw
          case rel => exact ⟨d + 1, by go_num, by omega, _, HRN.out, HJ9.out⟩
          case measure => simp [intOf]; omega
        · obtain rfl : nn = d := by omega
          clear hw1 hw2 hw3 hpi HSEC
          go_wp2
          clear c2
          go_loopw [20] (fun t wr => ∃ s : Nat, t = .int .i64 s ∧ s ≤ 3 ∧ JE w wr S0 r R g c []) (fun t _ => 3 - (intOf t).toNat)
          case atStart => exact ⟨0, rfl, by omega, HJR.out⟩
          case round =>
            clear HJR
            obtain ⟨s, rfl, hs, hj⟩ := hrel
            have HJR := hid hj
            clear hj
            by_cases hlt : s < 3
            · have i1 : (s : Int) < 3 := by omega
              by_cases hsx : s = xn
              · obtain rfl : s = xn := hsx
                have HSLOT := hid (show R.jslot c (s : Int) = (Rcd.none_, false, 0, some (.fault sJSlot s (.loss s 0 1))) from
                  HRB.out.gone (s := s) (i := yn) (HXC.out s hlt) (F_at c hlt) HYK.out fun d hd => by rw [HNT.out] at hd; exact lostB_past c s yn nn hd)
                have HBL := hid (built_lossL (s : Int))
                go_wp2_with (guard_target = wpList _ _ _ ({ dst := some _, op := Op.load _ _, type := _, pos := _, after := _, guard := none } :: _) _ _; refine wpList_load_agg rfl 23 _ rfl ⟨g, 0, none⟩ rfl (Cfg.A c) (cfg_agg c) (agg_cells HJR.out.cfg) ?_)
                refine (jslot_c HJR.out.rack c s).mono ?_
                rintro e w8 ⟨a8, c8, rfl, x8, b8, l8⟩
                rw [HSLOT.out] at b8 ⊢
                obtain ⟨er, her⟩ : ∃ er, Err.fault sJSlot (s : Int) (.loss s 0 1) = er := ⟨_, rfl⟩
                have HLO : Hid (er.lost = true ∧ er.lossOf = ((s : Int), 0, 1)) := hid (by rw [← her]; exact ⟨rfl, rfl⟩)
                rw [her]
                simp only [oErr]
                have HJ8 := hid (HJR.out.more (x8.alloc (.cells (Rcd.none_.V a8 c8) 32)))
                obtain ⟨W8, hW8⟩ : ∃ W, w8.alloc (.cells (Rcd.none_.V a8 c8) 32) = W := ⟨_, rfl⟩
                rw [hW8] at HJ8
                have HW8 := hid hW8
                have hbs : (w8.alloc (.cells (Rcd.none_.V none 0) 32)).heap[w8.heap.size]? = some (.cells (Rcd.none_.V none 0) 32 (0, 0)) := block_alloc
                obtain ⟨et, ev, hev⟩ := er.iface
                have HEV := hid hev
                rw [hev]
                clear x8 b8 l8 hW8 her hev
                go_wp2_with (first
                  | (guard_target = wpList _ _ _ ({ dst := none, op := Op.store _ _ _, type := _, pos := _, after := _, guard := none } :: _) _ _; have hb0 := hbs; clear hbs; refine wpList_store_whole rfl 32 _ _ rfl w8.heap.size rfl (Rcd.none_.V a8 c8) _ rfl 32 (agg_rec _ _ _) hb0 rfl (V_one _ _ _) ?_; rw [setRow_alloc, HW8.out])
                  | (go_at_call 15; fail))
                refine Calls.mono (by rw [← HEV.out]; exact lost_yes er HLO.out.1 _ (HG.out.only HJ8.out.ext (fun x => x))) ?_
                rintro e w9 ⟨rfl, x9⟩
                rw [HLO.out.2]
                simp only [lostV]
                have HJ9 := hid (HJ8.out.more (x9.alloc (.cells (lcells ((s : Int), 0, 1)) 40)))
                obtain ⟨W9, hW9⟩ : ∃ W, w9.alloc (.cells (lcells ((s : Int), 0, 1)) 40) = W := ⟨_, rfl⟩
                have HN9 := hid (show W9.heap[w9.heap.size]? = some (.cells (lcells ((s : Int), 0, 1)) 40 (0, 0)) from hW9 ▸ heap_alloc_new _ _)
                rw [hW9] at HJ9
                have HW9 := hid hW9
                have hbs : (w9.alloc (.cells (lcells (0, 0, 0)) 40)).heap[w9.heap.size]? = some (.cells (lcells (0, 0, 0)) 40 (0, 0)) := block_alloc
                clear x9 hW9 HJ8 HW8 HEV
                go_wp2_with (first
                  | (guard_target = wpList _ _ _ ({ dst := none, op := Op.store _ _ _, type := _, pos := _, after := _, guard := none } :: _) _ _; have hb0 := hbs; clear hbs; refine wpList_store_whole rfl 40 _ _ rfl w9.heap.size rfl (lcells ((s : Int), 0, 1)) _ rfl 40 (agg_loss _) hb0 rfl (lcells_one _) ?_; rw [setRow_alloc, HW9.out])
                  | (guard_target = wpList _ _ _ ({ dst := some _, op := Op.load _ _, type := _, pos := _, after := _, guard := some _ } :: _) _ _; refine wpListG_load_agg 40 _ rfl ⟨w9.heap.size, 0, none⟩ rfl (lcells ((s : Int), 0, 1)) rfl (agg_loss _) (agg_cells HN9.out) ?_)
                  | (guard_target = wpList _ _ _ ({ dst := some _, op := Op.build _ _, type := _, pos := _, after := _, guard := some _ } :: _) _ _; refine wpListG_build_eq 40 _ rfl (lcells ((s : Int), 0, 1)) rfl ?_ ?_; (simp only [List.map_toArray, List.map_cons, List.map_nil, Act.eval]; simp only [Array.getD_eq_getD_getElem?, List.getElem?_toArray, List.getElem?_cons_succ, List.getElem?_cons_zero, Option.getD_some]; exact HBL.out))
                  | (guard_target = wpList _ _ _ ({ dst := some _, op := Op.binOp _ _ _ _ _, type := _, pos := _, after := _, guard := some _ } :: _) _ _; refine wpListG_eql .neq 40 _ _ _ rfl (lcells ((s : Int), 0, 1)) (lcells ((s : Int), 0, 1)) rfl rfl (.bool false) rfl (loss_guard _ _ _ _ _ _) (loss_neq _ _) ?_))
                go_roundw
                case rel => exact ⟨s + 1, by go_num, by omega, HJ9.out⟩
                case measure => simp [intOf]; omega
              · obtain ⟨X, hX⟩ : ∃ X, recOf c (3 + (s : Int)) 0 s = X := ⟨_, rfl⟩
                have HSLOT := hid (show R.jslot c (s : Int) = (X, true, X.seq, none) from by
                  have := HRB.out.slot (s := s) (HXC.out s hlt) (F_at c hlt) (HLN.out s) (fun i hi => ⟨0, by rw [HNT.out]; omega, lostB_other c xn yn nn 0 HYK.out hi hsx⟩)
                  rw [hX] at this
                  exact this)
                have b1 : ((s : Int) == (xn : Int)) = false := by rw [beq_eq_false_iff_ne]; omega
                clear hX
                go_wp2_with (guard_target = wpList _ _ _ ({ dst := some _, op := Op.load _ _, type := _, pos := _, after := _, guard := none } :: _) _ _; refine wpList_load_agg rfl 23 _ rfl ⟨g, 0, none⟩ rfl (Cfg.A c) (cfg_agg c) (agg_cells HJR.out.cfg) ?_)
                refine (jslot_c HJR.out.rack c s).mono ?_
                rintro e w8 ⟨a8, c8, rfl, x8, b8, l8⟩
                rw [HSLOT.out] at b8 ⊢
                simp only [oErr]
                have HJ8 := hid (HJR.out.more (x8.alloc (.cells (X.V a8 c8) 32)))
                obtain ⟨W8, hW8⟩ : ∃ W, w8.alloc (.cells (X.V a8 c8) 32) = W := ⟨_, rfl⟩
                rw [hW8] at HJ8
                have HW8 := hid hW8
                have hbs : (w8.alloc (.cells (Rcd.none_.V none 0) 32)).heap[w8.heap.size]? = some (.cells (Rcd.none_.V none 0) 32 (0, 0)) := block_alloc
                clear x8 b8 l8 hW8
                go_wp2_with (first
                  | (guard_target = wpList _ _ _ ({ dst := none, op := Op.store _ _ _, type := _, pos := _, after := _, guard := none } :: _) _ _; have hb0 := hbs; clear hbs; refine wpList_store_whole rfl 32 _ _ rfl w8.heap.size rfl (X.V a8 c8) _ rfl 32 (agg_rec _ _ _) hb0 rfl (V_one _ _ _) ?_; rw [setRow_alloc, HW8.out])
                  | (go_at_call 15; fail))
                refine (lost_nil W8).mono ?_
                rintro e w9 ⟨rfl, x9⟩
                simp only [lostV]
                have HJ9 := hid (HJ8.out.more (x9.alloc (.cells (lcells (0, 0, 0)) 40)))
                obtain ⟨W9, hW9⟩ : ∃ W, w9.alloc (.cells (lcells (0, 0, 0)) 40) = W := ⟨_, rfl⟩
                rw [hW9] at HJ9
                have HW9 := hid hW9
                have hbs : (w9.alloc (.cells (lcells (0, 0, 0)) 40)).heap[w9.heap.size]? = some (.cells (lcells (0, 0, 0)) 40 (0, 0)) := block_alloc
                clear x9 hW9 HJ8 HW8
                go_wp2_with (guard_target = wpList _ _ _ ({ dst := none, op := Op.store _ _ _, type := _, pos := _, after := _, guard := none } :: _) _ _; have hb0 := hbs; clear hbs; refine wpList_store_whole rfl 40 _ _ rfl w9.heap.size rfl (lcells (0, 0, 0)) _ rfl 40 (agg_loss _) hb0 rfl (lcells_one _) ?_; rw [setRow_alloc, HW9.out])
                go_roundw
                case rel => exact ⟨s + 1, by go_num, by omega, HJ9.out⟩
                case measure => simp [intOf]; omega
            · obtain rfl : s = 3 := by omega
              rw [show ((3 : Nat) : Int) = 3 from rfl]
              go_wp2_with (go_at_call 3; fail)
              refine (journalRuns_c wr (HG.out.only HJR.out.ext (fun x => x))).mono ?_
              rintro e w10 ⟨rfl, x10⟩
              have HX10 := hid (Ext.trans HJR.out.ext x10)
              clear x10
              go_wp2
              go_ret
              exact ⟨rfl, HX10.out⟩
end Go.Proofs.YtmjembnciffgfaaDoor

/- The statement JournalLost, as its tied card: for every input the call of stavelaw10's JournalLost answers true, and its arguments read behind it as they read before. No condition of our own. -/
namespace Go.Proofs.YtmjembnciffgfaaDoor.journalLost
open Go.ChangeShapes Go.WideShapes Go.ChangeAt Go.RowKit
open Go.ChangeMaps (open_string shut_string)
set_option linter.unusedVariables false
theorem laidOut : laidOutB Tryd.prog = true := by kernel_rfl
theorem walk (a0 : Int) (a1 : Int) (a2 : Int) (a3 : Int) (w : World) (hg : EtLaid w) (w0 : (Lit.int .i64 a0).wf = true) (w1 : (Lit.int .i64 a1).wf = true) (w2 : (Lit.int .i64 a2).wf = true) (w3 : (Lit.int .i64 a3).wf = true) :
    Calls Tryd.prog 5 #[.int .i64 a0, .int .i64 a1, .int .i64 a2, .int .i64 a3] w fun e w' => e = .returned (.bool true) ∧ Below w.heap.size w w' :=
  (journalLost_c a0 a1 a2 a3 w hg).mono fun _ _ ⟨he, hx⟩ => ⟨he, hx.below⟩
set_option maxRecDepth 100000 in
theorem lifted (os : Os) (started : os.Started) (H : Type) (enc : TypeId × Value → H) :
    ReturnsInHanded {} Tryd.checked os 5 .any (fun w args => (Rows.journalLostSpec.pre enc Tryd.prog Tryd.f5 [] false w args ∧ laidMetH Tryd.prog theLaid w) ∧ sizedMet enc Tryd.prog Tryd.f5 (OpenSpec.ofChange Rows.journalLostSpec) false w args)
      (Rows.journalLostSpec.post enc Tryd.prog Tryd.f5 false true false false) := by
  refine returnsInHanded_of_change_and (C := Tryd.checked) (X := fun w _ => laidMetH Tryd.prog theLaid w) (fun _ _ _ hh h => h.of_heap hh) hOwn started (by kernel_rfl) Tryd.func5
    (ChangeSpec.witness_at (enc := enc) (C := Tryd.checked) (os := os) (X := fun w _ => laidMetH Tryd.prog theLaid w) false (laidWorld os) #[.int .i64 0, .int .i64 0, .int .i64 0, .int .i64 0] 8 rfl (by kernel_rfl) (by kernel_rfl) (by kernel_rfl) (by kernel_rfl) (by kernel_rfl) (laidWorld_met os _)) ?_
  intro W base args ds gs before hval0 hW _ _ hL _
  have hval : ∀ (j : Nat) t v, Tryd.f5.params[j]? = some t → args[j]? = some v → Value.okWide Tryd.prog W .any base t v := hval0
  have hW' := hW
  obtain ⟨p, q, hA0, hV, rfl, hfz, hnd⟩ := hW
  have hA : DataW.TrodAll enc Tryd.prog W 0 (fun _ => true) true Tryd.f5.params.toList args.toList ds p := hA0
  rw [Tryd.params5] at hA hval
  obtain ⟨v0, vs0, d0, ds0, p0, q0, hargs, rfl, rfl, h0, r0⟩ := trodAll_cons hA
  obtain ⟨v1, vs1, d1, ds1, p1, q1, rfl, rfl, rfl, h1, r1⟩ := trodAll_cons r0
  obtain ⟨v2, vs2, d2, ds2, p2, q2, rfl, rfl, rfl, h2, r2⟩ := trodAll_cons r1
  obtain ⟨v3, vs3, d3, ds3, p3, q3, rfl, rfl, rfl, h3, r3⟩ := trodAll_cons r2
  obtain ⟨rfl, rfl, rfl⟩ := trodAll_nil r3
  obtain rfl : args = #[v0, v1, v2, v3] := by cases args; simp_all
  obtain ⟨rfl, rfl⟩ := trodVars_none hV
  obtain ⟨a0, rfl, rfl, rfl, w0⟩ := open_int Tryd.underlying3 (hval 0 3 v0 rfl rfl) h0
  obtain ⟨a1, rfl, rfl, rfl, w1⟩ := open_int Tryd.underlying3 (hval 1 3 v1 rfl rfl) h1
  obtain ⟨a2, rfl, rfl, rfl, w2⟩ := open_int Tryd.underlying3 (hval 2 3 v2 rfl rfl) h2
  obtain ⟨a3, rfl, rfl, rfl, w3⟩ := open_int Tryd.underlying3 (hval 3 3 v3 rfl rfl) h3
  have hg := etLaid_of hL
  clear hA0 hval0
  simp only [List.append_nil] at hW'
  refine (walk a0 a1 a2 a3 W hg w0 w1 w2 w3).mono fun e W' ⟨he, bel⟩ => ?_
  subst he
  exact ⟨_, rfl, _, _, _, [], _, [], hW', trodAll_mk1 (shut_bool Tryd.underlying4 _), (trodAll_cons_mk (shut_int Tryd.underlying3 w0) (trodAll_cons_mk (shut_int Tryd.underlying3 w1) (trodAll_cons_mk (shut_int Tryd.underlying3 w2) (trodAll_cons_mk (shut_int Tryd.underlying3 w3) trodAll_mk0)))), rfl, bel.frame _, fun h => by cases h⟩
theorem over : Rows.JournalLostSaid :=
  OpenClaim.holds_of_wide 5 Tryd.f5 rfl rfl rfl rfl rfl rfl rfl ⟨rfl, rfl, rfl, rfl, rfl⟩ rfl rfl rfl rfl rfl (by kernel_rfl) Tryd.func5 (by kernel_rfl)
    (of_decide_eq_true (by kernel_rfl)) (by unfold Func.isWrapper; first | (rw [if_pos (by decide +kernel)]; kernel_rfl) | (rw [if_neg (by decide +kernel)]; exact ⟨rfl, rfl⟩))
    (fun os started H enc _ => lifted os started H enc)
theorem proved : Rows.JournalLostCardSaid :=
  Claim7.holds_tied_plain_at .later [] [.handle] true (true, "24e5812b948f2c9b85d201dc8badf4eaee7fb8c9a31ded879c271ad3f1c97e3e") true
    over (fun _ h => by cases h) (by kernel_rfl) (fun _ h => by cases h) journalLost_row_tie rfl ⟨rfl, rfl⟩ (by kernel_rfl) rfl
    (fun f fn hf hfn => by
      obtain rfl : f = 5 := Option.some.inj ((show Tryd.prog.funcNamed "stave/stavelaw10.JournalLost" = some 5 by kernel_rfl).symm.trans hf) |>.symm
      obtain rfl : fn = Tryd.f5 := (Option.some.inj (Tryd.func5.symm.trans hfn)).symm
      exact ⟨by kernel_rfl, fun j t ht => by
        rw [Tryd.params5] at ht
        rcases j with _ | _ | _ | _ | j
        · simp at ht; subst ht; kernel_rfl
        · simp at ht; subst ht; kernel_rfl
        · simp at ht; subst ht; kernel_rfl
        · simp at ht; subst ht; kernel_rfl
        · simp at ht⟩)
    (by kernel_rfl)
#print axioms proved
end Go.Proofs.YtmjembnciffgfaaDoor.journalLost
