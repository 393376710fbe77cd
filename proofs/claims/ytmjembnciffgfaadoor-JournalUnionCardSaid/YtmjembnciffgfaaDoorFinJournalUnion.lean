/- The statement JournalUnion, as its tied card: for every input the call of stavelaw10's JournalUnion answers true, and its arguments read behind it as they read before. No condition of our own. -/
/- Texts of one proof, joined: WJournalUnion, LawJournalUnion. -/
import Derived.Test.YtmjembnciffgfaaDoorPartL
import Derived.Test.YtmjembnciffgfaaDoorCards
import Derived.Test.YtmjembnciffgfaaDoorTie
import Derived.Test.YtmjembnciffgfaaDoorPartC
import Derived.WalkKit
import Derived.ProofKit
import Derived.OpenShut
import Derived.ShutString
import Derived.ChangeOld
import Derived.Below
import Derived.SevenTiedAt
set_option linter.unusedVariables false
set_option linter.unusedSimpArgs false
/- The walk of JournalUnion. -/
namespace Go.Proofs.YtmjembnciffgfaaDoor
set_option linter.unusedVariables false
open Go Go.RowKit
set_option maxRecDepth 100000 in
set_option maxHeartbeats 6000000 in
theorem journalUnion_c (k n a0 : Int) (ia : Option Addr) (len cap : Nat) (z : List Int) (w : World) (hg : EtLaid w) (hl : IsRow .i64 w ia len cap z) :
    Calls Tryd.prog 8 #[.int .i64 k, .int .i64 n, .int .i64 a0, .slice ia len cap] w fun e w' => e = .returned (.bool true) ∧ Ext w w' := by
  have HI := hid hl.ints
  clear hl
  have HG := hid hg
  have hzc := zero_cfg
  have hzr := zero_rec
  have hzl := zero_loss
  have HCS := hid Cfg.A_size
  clear hg
  go_enter Tryd.func8, Tryd.ntmps8
  go_wp2_with fail
  refine (kfixed_c k n 2 1 _).mono ?_
  rintro e w1 ⟨rfl, x1⟩
  have HGD := hid (show (keepFixed k n 2 1).Good from keepFixed_good k n 2 1 (by omega) (by omega) (by omega) (by omega))
  have HK4 := hid (keepFixed_k4 k n 2 1)
  have HN6 := hid (keepFixed_n6 k n 2 1)
  have HST := hid (show (keepFixed k n 2 1).stripes = 2 from rfl)
  have HSL := hid (show (keepFixed k n 2 1).slots = 1 from rfl)
  generalize keepFixed k n 2 1 = c at *
  obtain ⟨W1, hW1⟩ : ∃ W, w1.alloc (.cells (Cfg.A c) 23) = W := ⟨_, rfl⟩
  have X1 := hid (show Ext w W1 from hW1 ▸ x1.alloc _)
  have HC := hid (show W1.heap[w1.heap.size]? = some (.cells (Cfg.A c) 23 (0, 0)) from hW1 ▸ heap_alloc_new _ _)
  have hbs : (w1.alloc (.cells (Cfg.A Cfg.zero) 23)).heap[w1.heap.size]? = some (.cells (Cfg.A Cfg.zero) 23 (0, 0)) := block_alloc
  clear x1
  go_wp2_with (guard_target = wpList _ _ _ ({ dst := none, op := Op.store _ _ _, type := _, pos := _, after := _, guard := none } :: _) _ _; refine wpList_store_whole rfl 23 _ _ rfl w1.heap.size rfl (Cfg.A c) _ rfl 23 ?_ hbs ?_ ?_ ?_; (rw [HCS.out]; exact aggCfg); (rw [HCS.out, HCS.out]); exact Cfg.A_one _)
  rw [setRow_alloc, hW1]
  clear hbs hW1
  have HLT := hid (lt_of_block HC.out)
  generalize w1.heap.size = g at *
  obtain ⟨m, hm, m1, m128⟩ := sectors_nat c HGD.out
  obtain ⟨nn, hn⟩ : ∃ nn : Nat, c.n = nn := ⟨c.n.toNat, by have := HGD.out.k0; have := HGD.out.k1; omega⟩
  obtain ⟨kk, hk⟩ : ∃ kk : Nat, c.k = kk := ⟨c.k.toNat, by have := HGD.out.k0; omega⟩
  have HNT := hid (show c.n.toNat = nn by omega)
  have HKT := hid (show c.k.toNat = kk by omega)
  have n1 : 1 ≤ nn := by have := HGD.out.k0; have := HGD.out.k1; omega
  have n8 : nn ≤ 6 := by have := HN6.out; omega
  have k1 : 1 ≤ kk := by have := HGD.out.k0; omega
  have k4 : kk ≤ 4 := by have := HK4.out; omega
  have HM := hid hm; have HN := hid hn; have HK := hid hk
  have xd : Ext W1 W1.drew := (Ext.refl W1).drew
  have lc : Hid (∀ x : SW Ext W1.drew, ∀ j v, (Cfg.A c).toList[j]? = some v → x.w.cell? ((⟨g, 0, none⟩ : Addr).add j) = some v) := hid fun x => agg_cells ((Ext.trans xd x.ext).at HC.out)
  have c2 : ∀ x : SW Ext W1.drew, x.w.cell? ⟨g, 2, none⟩ = some (.int .i64 nn) := fun x => (cell_at ((Ext.trans xd x.ext).at HC.out)).trans (by rw [Cfg.A2, HN.out])
  have sc : Hid (∀ x : SW Ext W1.drew, Calls Tryd.prog 19 #[.agg (Cfg.A c)] x.w fun e w'' => e = .returned (.int .i64 m) ∧ Ext x.w w'') := hid fun x => by
    have := ksectors_c c HGD.out x.w
    rw [HM.out] at this
    exact this
  have HAG := hid (cfg_agg c)
  clear hm hn hk
  refine wp_region_rely_all (S := Ext) (.one [0, 1, 2, 3] 4 (.fin [5, 6, 7, 8, 9])) (by kernel_rfl) (by kernel_rfl) (fun _ _ d _ _ h => by cases d <;> exact h) ?_
  rw [wpS]
  simp only [opsAt, List.map_cons, List.map_nil, Array.getD_eq_getD_getElem?, List.getElem?_toArray, List.getElem?_cons_succ, List.getElem?_cons_zero, Option.getD_some]
  iterate 2 ((refine wpSQ_step (fun K hK => ?_); go_simp; first | (refine hK _ ?_; clear hK K) | (apply Exists.intro; refine ⟨fun x => ?_, hK _ ?_⟩; (fail); clear hK K)))
  refine wpSQ_load_agg 23 _ rfl ⟨g, 0, none⟩ rfl (Cfg.A c) rfl HAG.out lc.out ?_
  (refine wpSQ_step (fun K hK => ?_); go_simp; first | (refine hK _ ?_; clear hK K) | (apply Exists.intro; refine ⟨fun x => ?_, hK _ ?_⟩; (exact sc.out x); clear hK K))
  refine wpSQ_nil ?_
  intro V1 hV1
  refine wpS_loud fun K hK => ?_
  go_wp2_with fail
  refine (at_new nn m n1 (by omega) m1 m128 V1).mono ?_
  rintro e w2 ⟨r, rfl, h2, x2⟩
  go_wp2
  refine hK _ _ x2 ?_
  clear hK K
  rw [wpS]
  simp only [opsAt, List.map_cons, List.map_nil, Array.getD_eq_getD_getElem?, List.getElem?_toArray, List.getElem?_cons_succ, List.getElem?_cons_zero, Option.getD_some]
  iterate 5 ((refine wpSQ_step (fun K hK => ?_); go_simp; first | (refine hK _ ?_; clear hK K) | (apply Exists.intro; refine ⟨fun x => ?_, hK _ ?_⟩; (fail); clear hK K)))
  refine wpSQ_nil ?_
  intro V2 hV2
  have J2 : JE w V2 (fun b => b < W1.heap.size) r (Rck.new nn m) g c [] := ⟨(h2.less fun b hb => Nat.lt_of_lt_of_le hb (Ext.trans xd hV1).size).ext hV2, Ext.trans X1.out (Ext.trans xd (Ext.trans hV1 (Ext.trans x2 hV2))), fun b hb => Nat.lt_of_lt_of_le hb X1.out.size, (Ext.trans xd (Ext.trans hV1 (Ext.trans x2 hV2))).at HC.out, HLT.out, fun p hp => by simp at hp⟩
  have HJ2 := hid J2
  have RJ0 : RJ (Rck.new nn m) c m (fun _ => none) := by
    have := RJ.new HGD.out (m := m) (by rw [HM.out]; exact Int.le_refl _)
    rw [HNT.out] at this
    exact this
  have HRJ0 := hid RJ0
  clear h2 x2 hV1 hV2 lc c2 sc xd J2 X1 HC HLT RJ0
  have c1 : V2.cell? ⟨g, 1, none⟩ = some (.int .i64 kk) := (cell_at HJ2.out.cfg).trans (by rw [Cfg.A1, HK.out])
  go_wp2_with (go_at_call 10; fail)
  clear c1
  refine (kblocks_c kk (by omega) a0 V2).mono ?_
  rintro e w3 ⟨v, rfl, hown, x3⟩
  obtain ⟨a, cp, rfl, hbk, hab⟩ := kblocks_at (fun b hb => by obtain ⟨n, rfl⟩ := blocksOf_mem hb; exact blockOf_len n) hown
  obtain ⟨X, hX⟩ : ∃ X, recOf c 6 1 a0 = X := ⟨_, rfl⟩
  have HXE := hid hX
  have hxb : X.blocks = blocksOf kk a0 := by rw [← hX, ← HKT.out]; rfl
  have J4 := HJ2.out.put x3 X a cp (by rw [hxb]; exact hbk) (fun p hp => by
    obtain ⟨_, c2, q, h⟩ := hown.slice
    rw [List.length_map] at q
    cases q
    rcases h with ⟨_, q⟩ | ⟨g, q, hg, _⟩
    · rw [q] at hp; cases hp
    · rw [q] at hp; cases hp; exact hg)
  have HBX : Hid (Tryd.prog.built 32 [(0, .int .i64 6), (1, .int .i64 1), (2, .slice a (blocksOf kk a0).length cp)] = some (X.V a cp)) := hid (by
    have := built_recOfC c 6 1 a0 a cp
    rw [HKT.out] at this
    rw [this, hX])
  obtain ⟨W4, hW4⟩ : ∃ W, w3.alloc (.cells (X.V a cp) 32) = W := ⟨_, rfl⟩
  rw [hW4] at J4
  obtain ⟨S4, hS4⟩ : ∃ S, wideS (fun b => b < W1.heap.size) V2 W4 = S := ⟨_, rfl⟩
  rw [hS4] at J4
  have HJ4 := hid J4
  have HXN := hid (show X.blocks ≠ [] by
    rw [hxb]; intro q
    have := congrArg List.length q
    rw [blocksOf_len] at this; simp at this; omega)
  have HXL := hid (show (X.blocks.length : Int) = c.k by rw [← hX]; exact recOf_len HGD.out _ _ _)
  have HXS := hid (show X.seq = 6 by rw [← hX]; rfl)
  have HXT := hid (show X.stripe = 1 by rw [← hX]; rfl)
  have HXO := hid (show X.Ok by rw [← hX]; exact recOf_ok _ _ _ _)
  have HA4 := hid (show ∀ g, a = some ⟨g, 0, none⟩ → S4 g from fun g hg => (J4.recs _ List.mem_cons_self).own HXN.out g hg)
  have hbs : (w3.alloc (.cells (Rcd.none_.V none 0) 32)).heap[w3.heap.size]? = some (.cells (Rcd.none_.V none 0) 32 (0, 0)) := block_alloc
  have HW4 := hid hW4
  clear hown x3 hbk hab J4 hW4 hS4 hX
  generalize (blocksOf kk a0).length = n1 at *
  go_wp2_with (first
    | (guard_target = wpList _ _ _ ({ dst := some _, op := Op.build _ _, type := _, pos := _, after := _, guard := none } :: _) _ _; refine wpList_build_eq rfl 32 _ rfl (X.V a cp) ?_ ?_; (simp only [List.map_toArray, List.map_cons, List.map_nil, Act.eval]; simp only [Array.getD_eq_getD_getElem?, List.getElem?_toArray, List.getElem?_cons_succ, List.getElem?_cons_zero, Option.getD_some]; exact HBX.out))
    | (guard_target = wpList _ _ _ ({ dst := none, op := Op.store _ _ _, type := _, pos := _, after := _, guard := none } :: _) _ _; have hb0 := hbs; clear hbs; refine wpList_store_whole rfl 32 _ _ rfl w3.heap.size rfl (X.V a cp) _ rfl 32 (agg_rec _ _ _) hb0 rfl (V_one _ _ _) ?_; rw [setRow_alloc, HW4.out])
    | (guard_target = wpList _ _ _ ({ dst := some _, op := Op.load _ _, type := _, pos := _, after := _, guard := some _ } :: _) _ _; refine wpListG_load_agg 23 _ rfl ⟨g, 0, none⟩ rfl (Cfg.A c) rfl (cfg_agg c) (agg_cells HJ4.out.cfg) ?_)
    | (guard_target = wpList _ _ _ ({ dst := some _, op := Op.load _ _, type := _, pos := _, after := _, guard := some _ } :: _) _ _; refine wpListG_load_agg 32 _ rfl ⟨w3.heap.size, 0, none⟩ rfl (X.V a cp) rfl (agg_rec _ _ _) (agg_cells (HJ4.out.recs ⟨w3.heap.size, X, a, cp⟩ (by simp)).blk) ?_))
  refine (jlog_c HJ4.out.rack c X HXO.out a cp (HJ4.out.recs ⟨w3.heap.size, X, a, cp⟩ (by simp)).bks HA4.out).mono ?_
  rintro e w5 ⟨rfl, h5, k5⟩
  obtain ⟨hfit, ht0, _, R5, hlog, hrj⟩ := HRJ0.out.log (x := X) (t := 0) (by rw [HXS.out, HSL.out]; decide) HXO.out (by rw [HXT.out]; decide) (by rw [HXT.out, HST.out]; decide) (by rw [HXS.out]; decide) (by rw [HXS.out]; decide) HXL.out
  rw [hlog] at h5 ⊢
  simp only [oErr]
  have HJ5 := hid (HJ4.out.keep h5 k5)
  have HU5 := hid (Uni.start hrj)
  have HS1 := hid (show 0 < c.slots.toNat by rw [HSL.out]; decide)
  have hf5' : upd (fun _ => none) 0 X 0 = some X := upd_at _ _ _
  clear h5 k5 HJ4 hlog hrj hfit
  generalize upd (fun _ => none) 0 X = f5 at *
  have HF5 := hid hf5'
  clear hf5'
  go_wp2
  go_loopw [13] (fun t wr => ∃ i : Nat, t = .int .i64 i ∧ i ≤ kk ∧ ∃ R, Uni R c m f5 i ∧ JE w wr S4 r R g c [⟨w3.heap.size, X, a, cp⟩]) (fun t _ => kk - (intOf t).toNat)
  case atStart => exact ⟨0, rfl, by omega, R5, HU5.out, HJ5.out⟩
  case round =>
    clear HU5 HJ5
    obtain ⟨i, rfl, hi, R, huni, hj⟩ := hrel
    have HJR := hid hj
    have HUN := hid huni
    have c1 : wr.cell? ⟨g, 1, none⟩ = some (.int .i64 kk) := (cell_at hj.cfg).trans (by rw [Cfg.A1, HK.out])
    clear hj huni
    by_cases hlt : i < kk
    · have HIK := hid (show i < c.k.toNat by rw [HKT.out]; exact hlt)
      have c2 : wr.cell? ⟨g, 2, none⟩ = some (.int .i64 nn) := (cell_at HJR.out.cfg).trans (by rw [Cfg.A2, HN.out])
      have hs0 : ¬ (nn : Int) = 0 := by omega
      have hm0 : Int.tmod (i : Int) (nn : Int) = ((i % nn : Nat) : Int) := by rw [Int.tmod_eq_emod_of_nonneg (by omega)]; rfl
      have hwi : wrap64 (1 + (i : Int)) = 1 + (i : Int) := by unfold wrap64; omega
      by_cases hli : i < len
      · obtain ⟨ib, ioff, vi, rfl, hci⟩ := HI.out i hli
        have i0 : (0 : Int) ≤ (i : Int) := by omega
        have i1 : (i : Int) < (len : Int) := by omega
        have xd : Ext wr wr.drew := (Ext.refl wr).drew
        have HJD := hid (HJR.out.more xd)
        have ci : ∀ y : SW Ext wr.drew, y.w.cell? ⟨ib, ioff + i, none⟩ = some (.int .i64 vi) := fun y => Ext.cell (Ext.trans HJD.out.ext y.ext) hci
        have cn : ∀ y : SW Ext wr.drew, y.w.cell? ⟨g, 2, none⟩ = some (.int .i64 nn) := fun y => (cell_at (y.ext.at HJD.out.cfg)).trans (by rw [Cfg.A2, HN.out])
        have hw1 : wrap64 ((nn : Int) - 1) = (nn : Int) - 1 := by unfold wrap64; omega
        have hwk : IntKind.i64.wrap ((nn : Int) - 1) = (nn : Int) - 1 := by rw [IntKind.wrap_i64]; omega
        have HWA := hid (fun y : SW Ext wr.drew => (show Calls Tryd.prog 18 #[.int .i64 vi, .int .i64 0, .int .i64 ((nn : Int) - 1)] y.w fun e w'' => e = .returned (.int .i64 (within vi 0 ((nn : Int) - 1))) ∧ Ext y.w w'' from (within_c vi 0 ((nn : Int) - 1) y.w (by omega) (by omega) (by omega)).mono fun e w'' ⟨h, q⟩ => ⟨h, q ▸ Ext.refl _⟩))
        obtain ⟨q0, q1⟩ := within_bd vi 0 ((nn : Int) - 1) (by omega)
        obtain ⟨kp, hkpe⟩ := Int.eq_ofNat_of_zero_le q0
        have hkp : kp < nn := by omega
        rw [hkpe] at HWA
        clear hci xd q0 q1 hkpe
        go_wp2_with fail
        refine wp_region_rely_all (S := Ext) (.fin [0, 1, 2, 3, 4, 5, 6, 7, 8]) (by kernel_rfl) (by kernel_rfl) (fun _ _ d _ _ h => by cases d <;> exact h) ?_
        rw [wpS]
        simp only [opsAt, List.map_cons, List.map_nil, Array.getD_eq_getD_getElem?, List.getElem?_toArray, List.getElem?_cons_succ, List.getElem?_cons_zero, Option.getD_some]
        iterate 7 ((refine wpSQ_step (fun K hK => ?_); go_simp; first | (refine hK _ ?_; clear hK K) | (apply Exists.intro; refine ⟨fun x => ?_, hK _ ?_⟩; (fail); clear hK K)))
        (refine wpSQ_step (fun K hK => ?_); go_simp; first | (refine hK _ ?_; clear hK K) | (apply Exists.intro; refine ⟨fun x => ?_, hK _ ?_⟩; (exact HWA.out x); clear hK K))
        (refine wpSQ_step (fun K hK => ?_); go_simp; first | (refine hK _ ?_; clear hK K) | (apply Exists.intro; refine ⟨fun x => ?_, hK _ ?_⟩; (fail); clear hK K))
        refine wpSQ_nil ?_
        intro V6 hV6
        have HJQ := hid (HJD.out.more hV6)
        clear ci cn hV6 HWA HJD hw1 hwk c1 c2 hm0
        go_wp2
        have HKP := hid hkp
        have HIN := hid (HUN.out.into HIK.out kp)
        go_loopw [15] (fun t wq => ∃ d : Nat, t = .int .i64 d ∧ d ≤ nn ∧ ∃ R, UniIn R c m f5 i kp d ∧ JE w wq S4 r R g c [⟨w3.heap.size, X, a, cp⟩]) (fun t _ => nn - (intOf t).toNat)
        case atStart => exact ⟨0, rfl, by omega, R, HIN.out, HJQ.out⟩
        case round =>
          clear HIN HJQ
          obtain ⟨d, rfl, hd, R, hin, hj⟩ := hrel
          have HJQ := hid hj
          have HIN := hid hin
          have c2 : wr.cell? ⟨g, 2, none⟩ = some (.int .i64 nn) := (cell_at hj.cfg).trans (by rw [Cfg.A2, HN.out])
          clear hj hin
          by_cases hdt : d < nn
          · by_cases hdk : d = kp
            · have b1 : ((d : Int) != (kp : Int)) = false := by simp [hdk]
              have HNX := hid HIN.out.skip
              go_wp2
              go_roundw
              case rel => exact ⟨d + 1, by go_num, by omega, R, HNX.out, HJQ.out⟩
              case measure => simp [intOf]; omega
            · have b1 : ((d : Int) != (kp : Int)) = true := by rw [bne_iff_ne]; omega
              obtain ⟨hrot, hnx⟩ := HIN.out.rot (by rw [HNT.out]; exact hdt) hdk HIK.out HS1.out HF5.out
              have HROT := hid hrot
              have HNX := hid hnx
              clear hrot hnx
              go_wp2_with fail
              refine (at_rot HJQ.out.rack d (1 + (i : Int)) 3 1 (by omega)).mono ?_
              rintro e w8 ⟨rfl, h8, k8⟩
              rw [HROT.out]
              have HJ8 := hid (HJQ.out.keep h8 k8)
              clear h8 k8
              go_wp2
              go_roundw
              case rel => exact ⟨d + 1, by go_num, by omega, _, HNX.out, HJ8.out⟩
              case measure => simp [intOf]; omega
          · obtain rfl : nn = d := by omega
            have HNX := hid (HIN.out.out (by rw [HNT.out]; exact HKP.out))
            go_wp2
            go_roundw
            case rel => exact ⟨i + 1, by go_num, by omega, R, HNX.out, HJQ.out⟩
            case measure => simp [intOf]; omega
      · have i1 : ¬ (i : Int) < (len : Int) := by omega
        obtain ⟨kp, hkpe⟩ : ∃ kp, i % nn = kp := ⟨_, rfl⟩
        have hkp : kp < nn := by rw [← hkpe]; exact Nat.mod_lt _ (by omega)
        rw [hkpe] at hm0
        have HJQ := hid HJR.out
        clear hkpe
        go_wp2
        clear c1 c2 hm0
        have HKP := hid hkp
        have HIN := hid (HUN.out.into HIK.out kp)
        go_loopw [15] (fun t wq => ∃ d : Nat, t = .int .i64 d ∧ d ≤ nn ∧ ∃ R, UniIn R c m f5 i kp d ∧ JE w wq S4 r R g c [⟨w3.heap.size, X, a, cp⟩]) (fun t _ => nn - (intOf t).toNat)
        case atStart => exact ⟨0, rfl, by omega, R, HIN.out, HJQ.out⟩
        case round =>
          clear HIN HJQ
          obtain ⟨d, rfl, hd, R, hin, hj⟩ := hrel
          have HJQ := hid hj
          have HIN := hid hin
          have c2 : wr.cell? ⟨g, 2, none⟩ = some (.int .i64 nn) := (cell_at hj.cfg).trans (by rw [Cfg.A2, HN.out])
          clear hj hin
          by_cases hdt : d < nn
          · by_cases hdk : d = kp
            · have b1 : ((d : Int) != (kp : Int)) = false := by simp [hdk]
              have HNX := hid HIN.out.skip
              go_wp2
              go_roundw
              case rel => exact ⟨d + 1, by go_num, by omega, R, HNX.out, HJQ.out⟩
              case measure => simp [intOf]; omega
            · have b1 : ((d : Int) != (kp : Int)) = true := by rw [bne_iff_ne]; omega
              obtain ⟨hrot, hnx⟩ := HIN.out.rot (by rw [HNT.out]; exact hdt) hdk HIK.out HS1.out HF5.out
              have HROT := hid hrot
              have HNX := hid hnx
              clear hrot hnx
              go_wp2_with fail
              refine (at_rot HJQ.out.rack d (1 + (i : Int)) 3 1 (by omega)).mono ?_
              rintro e w8 ⟨rfl, h8, k8⟩
              rw [HROT.out]
              have HJ8 := hid (HJQ.out.keep h8 k8)
              clear h8 k8
              go_wp2
              go_roundw
              case rel => exact ⟨d + 1, by go_num, by omega, _, HNX.out, HJ8.out⟩
              case measure => simp [intOf]; omega
          · obtain rfl : nn = d := by omega
            have HNX := hid (HIN.out.out (by rw [HNT.out]; exact HKP.out))
            go_wp2
            go_roundw
            case rel => exact ⟨i + 1, by go_num, by omega, R, HNX.out, HJQ.out⟩
            case measure => simp [intOf]; omega
    · obtain rfl : kk = i := by omega
      have HSLOT := hid (show R.jslot c 0 = (X, true, 6, none) from by
        have := (HKT.out ▸ HUN.out : Uni R c m f5 c.k.toNat).slot HS1.out HF5.out HXL.out
        rw [HXS.out] at this
        exact this)
      go_wp2_with (guard_target = wpList _ _ _ ({ dst := some _, op := Op.load _ _, type := _, pos := _, after := _, guard := none } :: _) _ _; refine wpList_load_agg rfl 23 _ rfl ⟨g, 0, none⟩ rfl (Cfg.A c) (cfg_agg c) (agg_cells HJR.out.cfg) ?_)
      refine (jslot_c HJR.out.rack c 0).mono ?_
      rintro e w7 ⟨a7, c7, rfl, x7, b7, l7⟩
      rw [HSLOT.out] at b7 ⊢
      simp only [oErr]
      have J7 := HJR.out.put x7 X a7 c7 b7 l7
      obtain ⟨W7, hW7⟩ : ∃ W, w7.alloc (.cells ((X).V a7 c7) 32) = W := ⟨_, rfl⟩
      rw [hW7] at J7
      have HJ7 := hid J7
      have HW7 := hid hW7
      have hbs : (w7.alloc (.cells (Rcd.none_.V none 0) 32)).heap[w7.heap.size]? = some (.cells (Rcd.none_.V none 0) 32 (0, 0)) := block_alloc
      clear x7 b7 l7 J7 hW7
      clear HSLOT c1
      go_wp2_with (first
        | (guard_target = wpList _ _ _ ({ dst := none, op := Op.store _ _ _, type := _, pos := _, after := _, guard := none } :: _) _ _; have hb0 := hbs; clear hbs; refine wpList_store_whole rfl 32 _ _ rfl w7.heap.size rfl (X.V a7 c7) _ rfl 32 (agg_rec _ _ _) hb0 rfl (V_one _ _ _) ?_; rw [setRow_alloc, HW7.out])
        | (guard_target = wpList _ _ _ ({ dst := some _, op := Op.load _ _, type := _, pos := _, after := _, guard := some _ } :: _) _ _; refine wpListG_load_agg 32 _ rfl ⟨w7.heap.size, 0, none⟩ rfl (X.V a7 c7) rfl (agg_rec _ _ _) (agg_cells (HJ7.out.recs ⟨w7.heap.size, X, a7, c7⟩ (by simp)).blk) ?_)
        | (guard_target = wpList _ _ _ ({ dst := some _, op := Op.load _ _, type := _, pos := _, after := _, guard := some _ } :: _) _ _; refine wpListG_load_agg 32 _ rfl ⟨w3.heap.size, 0, none⟩ rfl (X.V a cp) rfl (agg_rec _ _ _) (agg_cells (HJ7.out.recs ⟨w3.heap.size, X, a, cp⟩ (by simp)).blk) ?_))
      refine (record_c X HXO.out (by have := HXL.out; have := HK.out; omega) a7 a c7 cp W7 (HJ7.out.recs ⟨w7.heap.size, X, a7, c7⟩ (by simp)).bks (HJ7.out.recs ⟨w3.heap.size, X, a, cp⟩ (by simp)).bks).mono ?_
      rintro e w8 ⟨rfl, x8⟩
      have HJ8 := hid (HJ7.out.more x8)
      have c1 : w8.cell? ⟨g, 1, none⟩ = some (.int .i64 kk) := (cell_at HJ8.out.cfg).trans (by rw [Cfg.A1, HK.out])
      clear x8 HJ7
      by_cases hk2 : kk < 2
      · have i1 : (kk : Int) < 2 := by omega
        go_wp2_with (go_at_call 3; fail)
        refine (journalRuns_c w8 (HG.out.only HJ8.out.ext (fun x => x))).mono ?_
        rintro e w9 ⟨rfl, x9⟩
        have HX9 := hid (Ext.trans HJ8.out.ext x9)
        clear x9
        go_wp2
        go_ret
        exact ⟨rfl, HX9.out⟩
      have i1 : ¬ (kk : Int) < 2 := by omega
      go_wp2_with fail
      refine (at_arm HJ8.out.rack 1 (by omega)).mono ?_
      rintro e w9 ⟨rfl, h9, k9⟩
      have HJ9 := hid (HJ8.out.keep h9 k9)
      clear h9 k9 HJ8 c1 i1
      obtain ⟨S9, hS9⟩ : ∃ S, wideS S4 wr W7 = S := ⟨_, rfl⟩
      rw [hS9] at HJ9
      have HLOW := hid (show ∀ b, b < w.heap.size → S9 b from HJ9.out.low)
      obtain ⟨num, hnum⟩ : ∃ x, wrap64 (a0 + 1) = x := ⟨_, rfl⟩
      have hnum2 : IntKind.i64.wrap (a0 + 1) = num := by rw [IntKind.wrap_i64, ← hnum]; unfold wrap64; omega
      obtain ⟨Y, hY⟩ : ∃ Y, recOf c 7 0 num = Y := ⟨_, rfl⟩
      have HYE := hid hY
      have HYS := hid (show Y.seq = 7 by rw [← hY]; rfl)
      have HYT := hid (show Y.stripe = 0 by rw [← hY]; rfl)
      have HYL := hid (show (Y.blocks.length : Int) = c.k by rw [← hY]; exact recOf_len HGD.out _ _ _)
      have HYO := hid (show Y.Ok by rw [← hY]; exact recOf_ok _ _ _ _)
      have HYB := hid (show Y.blocks = blocksOf kk num by rw [← hY, ← HKT.out]; rfl)
      have HFIN := hid (show (((R.arm 1).jlog c Y).2.boot [1]).jslot c 0 = (Rcd.none_, false, 7, none) from by
        obtain ⟨B, u1, u2, u3⟩ := (HKT.out ▸ HUN.out : Uni R c m f5 c.k.toNat).ex
        have hyf : Y.Fit c 0 := ⟨HYO.out, by rw [HYT.out]; decide, by rw [HYT.out, HST.out]; decide, by rw [HYS.out]; decide, by rw [HYS.out]; decide, .inr ⟨by rw [HYS.out]; decide, by rw [HYS.out, HSL.out]; decide⟩⟩
        have := u1.cut HSL.out HF5.out hyf HXL.out HYL.out (by rw [HYS.out]; decide) (by rw [HXS.out, HYS.out]; decide) (by rw [HKT.out]; omega) u2
        rw [HYS.out] at this
        exact this)
      clear hY
      have xd : Ext w9 w9.drew := (Ext.refl w9).drew
      have HJD := hid (HJ9.out.more xd)
      have lc : Hid (∀ y : SW (Only fun b => ¬ S9 b) w9.drew, ∀ j v, (Cfg.A c).toList[j]? = some v → y.w.cell? ((⟨g, 0, none⟩ : Addr).add j) = some v) := hid fun y => agg_cells (y.ext.at HJD.out.cfg (fun q => q HJD.out.cfgS))
      have ck : ∀ y : SW (Only fun b => ¬ S9 b) w9.drew, y.w.cell? ⟨g, 1, none⟩ = some (.int .i64 kk) := fun y => (cell_at (y.ext.at HJD.out.cfg (fun q => q HJD.out.cfgS))).trans (by rw [Cfg.A1, HK.out])
      clear xd
      go_wp2_with fail
      refine wp_region_calm_all (E := Ext) (S := Only fun b => ¬ S9 b) (.one [0, 1, 2, 3, 4, 5] 6 (.one [7] 8 (.fin []))) (by kernel_rfl) (by kernel_rfl) (fun _ _ d _ _ h => by cases d <;> exact h) ?_
      rw [wpS]
      simp only [opsAt, List.map_cons, List.map_nil, Array.getD_eq_getD_getElem?, List.getElem?_toArray, List.getElem?_cons_succ, List.getElem?_cons_zero, Option.getD_some]
      (refine wpSQ_step (fun K hK => ?_); go_simp; first | (refine hK _ ?_; clear hK K) | (apply Exists.intro; refine ⟨fun x => ?_, hK _ ?_⟩; (fail); clear hK K))
      refine wpSQ_load_agg 23 _ rfl ⟨g, 0, none⟩ rfl (Cfg.A c) rfl (cfg_agg c) lc.out ?_
      iterate 4 ((refine wpSQ_step (fun K hK => ?_); go_simp; first | (refine hK _ ?_; clear hK K) | (apply Exists.intro; refine ⟨fun x => ?_, hK _ ?_⟩; (fail); clear hK K)))
      refine wpSQ_nil ?_
      intro V3 hV3
      have HJ3 := hid (HJD.out.more hV3)
      clear lc ck hV3 HJD
      refine wpS_loud fun Q1 hQ1 => ?_
      go_wp2_with fail
      refine (kblocks_c kk (by omega) num V3).mono ?_
      rintro e w10 ⟨v, rfl, hown, x10⟩
      obtain ⟨ya, yc, rfl, hbk, hab⟩ := kblocks_at (fun b hb => by obtain ⟨n, rfl⟩ := blocksOf_mem hb; exact blockOf_len n) hown
      have HBY : Hid (Tryd.prog.built 32 [(0, .int .i64 7), (1, .int .i64 0), (2, .slice ya (blocksOf kk num).length yc)] = some (Y.V ya yc)) := hid (by
        have := built_recOfC c 7 0 num ya yc
        rw [HKT.out] at this
        rw [this, HYE.out])
      have HBK := hid (show BlksAt w10 ya Y.blocks by rw [HYB.out]; exact hbk)
      have HAB := hid hab
      have HX10 := hid x10
      clear hown hbk hab
      generalize (blocksOf kk num).length = n2 at *
      go_wp2
      refine hQ1 _ _ (Ext.only x10) ?_
      clear hQ1 Q1 x10
      rw [wpS]
      simp only [opsAt, List.map_cons, List.map_nil, Array.getD_eq_getD_getElem?, List.getElem?_toArray, List.getElem?_cons_succ, List.getElem?_cons_zero, Option.getD_some]
      refine wpSQ_build rfl 32 _ rfl (Y.V ya yc) ?_ ?_
      · simp only [List.map_toArray, List.map_cons, List.map_nil, Act.eval]
        simp only [Array.getD_eq_getD_getElem?, List.getElem?_toArray, List.getElem?_cons_succ, List.getElem?_cons_zero, Option.getD_some]
        exact HBY.out
      refine wpSQ_nil ?_
      intro V4 hV4
      have HJ4 := hid (HJ3.out.wide (Ext.trans HX10.out hV4))
      have HB4 := hid (HBK.out.ext hV4)
      have HA4 := hid (show ∀ g, ya = some ⟨g, 0, none⟩ → wideS S9 V3 V4 g from fun g hg => by
        refine .inr ⟨HAB.out g hg, ?_⟩
        rcases hl : Y.blocks with _ | ⟨b, l⟩
        · have := HYL.out; rw [hl] at this; simp at this; have := HGD.out.k0; omega
        · obtain ⟨g', hg', hc⟩ := HB4.out 0 b (by rw [hl]; rfl)
          rw [hg'] at hg
          cases hg
          exact World.block_lt_of_cell? V4 _ (hc 0 (by omega)))
      clear hV4 HX10 HBK HAB HJ3 HBY
      refine wpS_loud fun Q2 hQ2 => ?_
      go_wp2_with fail
      refine (jlog_c HJ4.out.rack c Y HYO.out ya yc HB4.out HA4.out).mono ?_
      rintro e w11 ⟨rfl, h11, k11⟩
      obtain ⟨ov, hov⟩ : ∃ ov, oErr ((R.arm 1).jlog c Y).1 = ov := ⟨_, rfl⟩
      rw [hov]
      have HJ11 := hid (HJ4.out.keep h11 k11)
      have HK11 := hid (show Only (fun b => ¬ S9 b) V4 w11 from Only.trans (Only.refl _ V4) k11 (fun b _ hb q => hb (.inl q)))
      clear h11 k11 HJ4 hov
      go_wp2
      refine hQ2 _ _ HK11.out ?_
      clear hQ2 Q2
      rw [wpS]
      simp only [opsAt, List.map_nil]
      refine wpSQ_nil ?_
      intro V5 hV5
      have HJ12 := hid (HJ11.out.more hV5)
      clear hV5 HJ11 HA4 HB4
      generalize ((R.arm 1).jlog c Y).2 = R11 at *
      obtain ⟨S12, hS12⟩ : ∃ S, wideS S9 V3 V4 = S := ⟨_, rfl⟩
      rw [hS12] at HJ12
      have x13 : Ext V5 (V5.alloc (.cells #[.int .u64 1] 59)) := (Ext.refl V5).alloc _
      have HJ13 := hid (HJ12.out.wide x13)
      have HBI : Hid (BitsAt (V5.alloc (.cells #[.int .u64 1] 59)) (some ⟨V5.heap.size, 0, none⟩) 1 [1]) := hid ⟨rfl, by intro x hx; simp at hx; omega, .inr ⟨V5.heap.size, 0, rfl, fun i hi => by
        obtain rfl : i = 0 := by omega
        exact (cell_at block_alloc).trans rfl⟩⟩
      have HBS := hid (show ∀ p : Addr, some (⟨V5.heap.size, 0, none⟩ : Addr) = some p → 0 < 1 → wideS S12 V5 (V5.alloc (.cells #[.int .u64 1] 59)) p.block from fun p hp _ => by
        cases hp
        exact .inr ⟨Nat.le_refl _, by simp⟩)
      clear x13 HJ12
      go_wp2_with fail
      refine (at_boot HJ13.out.rack (some ⟨V5.heap.size, 0, none⟩) 1 1 [1] HBI.out HBS.out).mono ?_
      rintro e w14 ⟨rfl, h14, k14⟩
      have HJ14 := hid (HJ13.out.keep h14 k14)
      clear h14 k14 HJ13 HBI HBS
      go_wp2_with (guard_target = wpList _ _ _ ({ dst := some _, op := Op.load _ _, type := _, pos := _, after := _, guard := none } :: _) _ _; refine wpList_load_agg rfl 23 _ rfl ⟨g, 0, none⟩ rfl (Cfg.A c) (cfg_agg c) (agg_cells HJ14.out.cfg) ?_)
      refine (jslot_c HJ14.out.rack c 0).mono ?_
      rintro e w15 ⟨a15, c15, rfl, x15, _, _⟩
      rw [HFIN.out]
      simp only [oErr]
      have HX15 := hid (Ext.trans HJ14.out.ext x15)
      clear x15
      go_wp2_with (go_at_call 3; fail)
      refine (journalRuns_c w15 (HG.out.only HX15.out (fun x => x))).mono ?_
      rintro e w16 ⟨rfl, x16⟩
      have HX16 := hid (Ext.trans HX15.out x16)
      clear x16
      go_wp2
      go_ret
      exact ⟨rfl, HX16.out⟩
end Go.Proofs.YtmjembnciffgfaaDoor

/- The statement JournalUnion, as its tied card: for every input the call of stavelaw10's JournalUnion answers true, and its arguments read behind it as they read before. No condition of our own. -/
namespace Go.Proofs.YtmjembnciffgfaaDoor.journalUnion
open Go.ChangeShapes Go.WideShapes Go.ChangeAt Go.RowKit
open Go.ChangeMaps (open_string shut_string)
set_option linter.unusedVariables false
theorem laidOut : laidOutB Tryd.prog = true := by kernel_rfl
theorem walk (a0 : Int) (a1 : Int) (a2 : Int) (a3 : Option Addr) (len3 cap3 : Nat) (z3 : List Int) (w : World) (hg : EtLaid w) (w0 : (Lit.int .i64 a0).wf = true) (w1 : (Lit.int .i64 a1).wf = true) (w2 : (Lit.int .i64 a2).wf = true) (w3 : IsRow .i64 w a3 len3 cap3 z3) :
    Calls Tryd.prog 8 #[.int .i64 a0, .int .i64 a1, .int .i64 a2, .slice a3 len3 cap3] w fun e w' => e = .returned (.bool true) ∧ Below w.heap.size w w' :=
  (journalUnion_c a0 a1 a2 a3 len3 cap3 z3 w hg w3).mono fun _ _ ⟨he, hx⟩ => ⟨he, hx.below⟩
set_option maxRecDepth 100000 in
theorem lifted (os : Os) (started : os.Started) (H : Type) (enc : TypeId × Value → H) :
    ReturnsInHanded {} Tryd.checked os 8 .any (fun w args => (Rows.journalUnionSpec.pre enc Tryd.prog Tryd.f8 [] false w args ∧ laidMetH Tryd.prog theLaid w) ∧ sizedMet enc Tryd.prog Tryd.f8 (OpenSpec.ofChange Rows.journalUnionSpec) false w args)
      (Rows.journalUnionSpec.post enc Tryd.prog Tryd.f8 false true false false) := by
  refine returnsInHanded_of_change_and (C := Tryd.checked) (X := fun w _ => laidMetH Tryd.prog theLaid w) (fun _ _ _ hh h => h.of_heap hh) hOwn started (by kernel_rfl) Tryd.func8
    (ChangeSpec.witness_at (enc := enc) (C := Tryd.checked) (os := os) (X := fun w _ => laidMetH Tryd.prog theLaid w) false (laidWorld os) #[.int .i64 0, .int .i64 0, .int .i64 0, .slice none 0 0] 8 rfl (by kernel_rfl) (by kernel_rfl) (by kernel_rfl) (by kernel_rfl) (by kernel_rfl) (laidWorld_met os _)) ?_
  intro W base args ds gs before hval0 hW _ _ hL _
  have hval : ∀ (j : Nat) t v, Tryd.f8.params[j]? = some t → args[j]? = some v → Value.okWide Tryd.prog W .any base t v := hval0
  have hW' := hW
  obtain ⟨p, q, hA0, hV, rfl, hfz, hnd⟩ := hW
  have hA : DataW.TrodAll enc Tryd.prog W 0 (fun _ => true) true Tryd.f8.params.toList args.toList ds p := hA0
  rw [Tryd.params8] at hA hval
  obtain ⟨v0, vs0, d0, ds0, p0, q0, hargs, rfl, rfl, h0, r0⟩ := trodAll_cons hA
  obtain ⟨v1, vs1, d1, ds1, p1, q1, rfl, rfl, rfl, h1, r1⟩ := trodAll_cons r0
  obtain ⟨v2, vs2, d2, ds2, p2, q2, rfl, rfl, rfl, h2, r2⟩ := trodAll_cons r1
  obtain ⟨v3, vs3, d3, ds3, p3, q3, rfl, rfl, rfl, h3, r3⟩ := trodAll_cons r2
  obtain ⟨rfl, rfl, rfl⟩ := trodAll_nil r3
  obtain rfl : args = #[v0, v1, v2, v3] := by cases args; simp_all
  obtain ⟨rfl, rfl⟩ := trodVars_none hV
  obtain ⟨a0, rfl, rfl, rfl, w0⟩ := open_int Tryd.underlying3 (hval 0 3 v0 rfl rfl) h0
  obtain ⟨a1, rfl, rfl, rfl, w1⟩ := open_int Tryd.underlying3 (hval 1 3 v1 rfl rfl) h1
  obtain ⟨a2, rfl, rfl, rfl, w2⟩ := open_int Tryd.underlying3 (hval 2 3 v2 rfl rfl) h2
  obtain ⟨a3, len3, cap3, rfl⟩ := okWide_slice Tryd.underlying45 (hval 3 45 v3 rfl rfl)
  have k3 := h3
  have lt3 : ∀ x ∈ p3, x.block < W.heap.size := by obtain ⟨m, hm⟩ := k3; exact DataW.trod_lt m _ _ _ hm
  obtain ⟨z3, w3⟩ : ∃ zs, IsRow .i64 W a3 len3 cap3 zs := by
    obtain ⟨fuel, hf⟩ := h3
    rcases open_ints Tryd.underlying45 Tryd.underlying3 (by kernel_rfl) hf with ⟨hcs, _⟩ | ⟨x, l, c, zs, hcs, _, hl, hm, hz, _, hcell, hwz⟩
    · simp [Value.cells] at hcs
      obtain ⟨rfl, rfl, rfl⟩ := hcs
      exact ⟨[], .inl ⟨rfl, rfl, rfl, rfl⟩⟩
    · simp [Value.cells] at hcs
      obtain ⟨rfl, rfl, rfl⟩ := hcs
      exact ⟨zs, .inr ⟨_, rfl, hl, hm, by simpa using hz, hcell, hwz⟩⟩
  have hg := etLaid_of hL
  clear hA0 hval0
  simp only [List.append_nil] at hW'
  refine (walk a0 a1 a2 a3 len3 cap3 z3 W hg w0 w1 w2 w3).mono fun e W' ⟨he, bel⟩ => ?_
  subst he
  exact ⟨_, rfl, _, _, _, [], _, [], hW', trodAll_mk1 (shut_bool Tryd.underlying4 _), (trodAll_cons_mk (shut_int Tryd.underlying3 w0) (trodAll_cons_mk (shut_int Tryd.underlying3 w1) (trodAll_cons_mk (shut_int Tryd.underlying3 w2) (trodAll_cons_mk (Below.trod laidOut (by kernel_rfl) (of_decide_eq_true (by kernel_rfl)) k3 bel lt3) trodAll_mk0)))), rfl, bel.frame _, fun h => by cases h⟩
theorem over : Rows.JournalUnionSaid :=
  OpenClaim.holds_of_wide 8 Tryd.f8 rfl rfl rfl rfl rfl rfl rfl ⟨rfl, rfl, rfl, rfl, rfl⟩ rfl rfl rfl rfl rfl (by kernel_rfl) Tryd.func8 (by kernel_rfl)
    (of_decide_eq_true (by kernel_rfl)) (by unfold Func.isWrapper; first | (rw [if_pos (by decide +kernel)]; kernel_rfl) | (rw [if_neg (by decide +kernel)]; exact ⟨rfl, rfl⟩))
    (fun os started H enc _ => lifted os started H enc)
theorem proved : Rows.JournalUnionCardSaid :=
  Claim7.holds_tied_plain_at .later [] [.handle] true (true, "24e5812b948f2c9b85d201dc8badf4eaee7fb8c9a31ded879c271ad3f1c97e3e") true
    over (fun _ h => by cases h) (by kernel_rfl) (fun _ h => by cases h) journalUnion_row_tie rfl ⟨rfl, rfl⟩ (by kernel_rfl) rfl
    (fun f fn hf hfn => by
      obtain rfl : f = 8 := Option.some.inj ((show Tryd.prog.funcNamed "stave/stavelaw10.JournalUnion" = some 8 by kernel_rfl).symm.trans hf) |>.symm
      obtain rfl : fn = Tryd.f8 := (Option.some.inj (Tryd.func8.symm.trans hfn)).symm
      exact ⟨by kernel_rfl, fun j t ht => by
        rw [Tryd.params8] at ht
        rcases j with _ | _ | _ | _ | j
        · simp at ht; subst ht; kernel_rfl
        · simp at ht; subst ht; kernel_rfl
        · simp at ht; subst ht; kernel_rfl
        · simp at ht; subst ht; kernel_rfl
        · simp at ht⟩)
    (by kernel_rfl)
#print axioms proved
end Go.Proofs.YtmjembnciffgfaaDoor.journalUnion
