/- The statement SuperPlays, as its tied card: for every input the call of stavelaw9's SuperPlays answers true, and its arguments read behind it as they read before. No condition of our own. -/
/- Texts of one proof, joined: WSuperPlays, LawSuperPlays. -/
import Derived.Test.YtgjnnbomnoafcaaGreatDoorRN
import Derived.Test.YtgjnnbomnoafcaaGreatDoorRO
import Derived.Test.YtgjnnbomnoafcaaGreatDoorRP
import Derived.Test.YtgjnnbomnoafcaaGreatDoorRI
import Derived.Deep.DeepCutAuto
import Derived.Deep.CutBlock
import Derived.Test.YtgjnnbomnoafcaaGreatDoorCards
import Derived.Test.YtgjnnbomnoafcaaGreatDoorTie
import Derived.Test.YtgjnnbomnoafcaaGreatDoorRC
import Derived.WalkKit
import Derived.ProofKit
import Derived.OpenShut
import Derived.ShutString
import Derived.ChangeOld
import Derived.Below
import Derived.SevenTiedAt
set_option linter.unusedVariables false
set_option linter.unusedSimpArgs false
/- The walk of SuperPlays. -/
namespace Go.Proofs.YtgjnnbomnoafcaaGreatDoor
set_option linter.unusedVariables false
open Go Go.RowKit
attribute [local irreducible] wpSQ
theorem Rck.Dim.superPut {R : Rck} {n m : Nat} (h : Rck.Dim R n m) (c : Cfg) (i : Int) : Rck.Dim (R.superPut c i).2 n m := by
  unfold Rck.superPut
  split
  · split
    · exact (h.write i 0 _).flush i
    · exact h.write i 0 _
  · exact h
set_option maxRecDepth 100000 in
set_option maxHeartbeats 4000000 in
theorem superPlays_c (k n stripes slots : Int) (a : Option Addr) (len cap : Nat) (w : World) (hg : EtLaid w) (ha : Ak9sAt w a len) : Calls Tryz.prog 4 #[.int .i64 k, .int .i64 n, .int .i64 stripes, .int .i64 slots, .slice a len cap] w fun e w' => e = .returned (.bool true) ∧ Ext w w' := by
  have HLAID := hid hg; have HA := hid ha
  have HCS := hid Cfg.A_size
  have hzc := zero_cfg
  have hzk := zero_Ak9
  clear hg ha
  go_enter Tryz.func4, Tryz.ntmps4
  go_wp2_with fail
  refine (kconfig_c k n stripes slots w).mono ?_
  rintro e w1 ⟨rfl, x1⟩
  have HGD := hid (keepCfg_good k n stripes slots)
  have HN6 := hid (show (keepCfg k n stripes slots).n ≤ 6 from (within_bd n (within k 1 4) 6 (by have := within_bd k 1 4 (by omega); omega)).2)
  generalize keepCfg k n stripes slots = c at *
  have HX1 := hid x1
  clear x1
  obtain ⟨W1, hW1⟩ : ∃ W, w1.alloc (.cells (Cfg.A c) 74) = W := ⟨_, rfl⟩
  have HBW1 := hid (show W1.heap[w1.heap.size]? = some (.cells (Cfg.A c) 74 (0, 0)) from hW1 ▸ heap_alloc_new _ _)
  have HXXW1 := hid (show Ext w1 W1 from hW1 ▸ (Ext.refl w1).alloc _)
  have hb1 : (w1.alloc (.cells (Cfg.A Cfg.zero) 74)).heap[w1.heap.size]? = some (.cells (Cfg.A Cfg.zero) 74 (0, 0)) := block_alloc
  have HWW1 := hid hW1
  obtain ⟨gc, hgc⟩ : ∃ g, w1.heap.size = g := ⟨_, rfl⟩
  have HGW1 := hid hgc
  rw [hgc] at HBW1
  clear hW1 hgc
  obtain ⟨gd, hgd⟩ : ∃ g, W1.heap.size = g := ⟨_, rfl⟩
  have HGD1 := hid hgd
  obtain ⟨W2, hW2⟩ : ∃ W, W1.alloc (.cells (Cfg.A c) 74) = W := ⟨_, rfl⟩
  have HW2 := hid hW2
  have HXX2 := hid (show Ext W1 W2 from hW2 ▸ (Ext.refl W1).alloc _)
  have HB2 := hid (show W2.heap[gd]? = some (.cells (Cfg.A c) 74 (0, 0)) from hgd ▸ hW2 ▸ heap_alloc_new _ _)
  have hb2 : (W1.alloc (.cells (Cfg.A Cfg.zero) 74)).heap[W1.heap.size]? = some (.cells (Cfg.A Cfg.zero) 74 (0, 0)) := block_alloc
  have HLT := hid (show gc < gd from hgd ▸ lt_of_block HBW1.out)
  have HC2 := hid (HXX2.out.at HBW1.out)
  have c0 : W2.cell? ⟨gd, 0, none⟩ = some (.int .i64 c.id) := (cell_at HB2.out).trans (Cfg.A0 c)
  have f0 : W2.frozen? ⟨gd, 0, none⟩ = false := free_at HB2.out
  obtain ⟨d, hd⟩ : ∃ d : Cfg, { c with id := 8 } = d := ⟨_, rfl⟩
  have HB3 := hid (show (W2.setCell ⟨gd, 0, none⟩ (.int .i64 8)).heap[gd]? = some (.cells (Cfg.A d) 74 (0, 0)) from by
    have := block_set HB2.out (i := 0) (.int .i64 8)
    rw [Cfg.A_id, hd] at this
    exact this)
  have HC3 := hid (show (W2.setCell ⟨gd, 0, none⟩ (.int .i64 8)).heap[gc]? = _ from (block_set_other (.int .i64 8) (show gc ≠ gd by have := HLT.out; omega)).trans HC2.out)
  obtain ⟨W3, hW3⟩ : ∃ W, W2.setCell ⟨gd, 0, none⟩ (.int .i64 8) = W := ⟨_, rfl⟩
  have HX3 := hid (show Ext w W3 from hW3 ▸ Only.setCell (F := fun _ => False) (Ext.trans HX1.out (Ext.trans HXXW1.out HXX2.out)) (.inl (by have := HX1.out.size; have := HXXW1.out.size; have := HGD1.out; show _ ≤ gd; omega)) _)
  rw [hW3] at HB3 HC3
  clear hgd hd hW2
  go_wp2_with (first
    | (guard_target = wpList _ _ _ ({ dst := none, op := Op.store _ _ _, type := _, pos := _, after := _, guard := none } :: _) _ _; have hb0 := hb1; clear hb1; refine wpList_store_whole rfl 74 _ _ rfl w1.heap.size rfl (Cfg.A c) _ rfl 74 (cfg_agg _) hb0 (by rw [HCS.out, HCS.out]) (Cfg.A_one _) ?_; rw [setRow_alloc, HWW1.out, HGW1.out])
    | (guard_target = wpList _ _ _ ({ dst := some _, op := Op.load _ _, type := _, pos := _, after := _, guard := none } :: _) _ _; refine wpList_load_agg rfl 74 _ rfl ⟨gc, 0, none⟩ rfl (Cfg.A c) (cfg_agg _) (agg_cells HBW1.out) ?_)
    | (guard_target = wpList _ _ _ ({ dst := none, op := Op.store _ _ _, type := _, pos := _, after := _, guard := none } :: _) _ _; have hb0 := hb2; clear hb2; refine wpList_store_whole rfl 74 _ _ rfl W1.heap.size rfl (Cfg.A c) _ rfl 74 (cfg_agg _) hb0 (by rw [HCS.out, HCS.out]) (Cfg.A_one _) ?_; rw [setRow_alloc, HW2.out, HGD1.out])
    | (guard_target = wpList _ _ _ ({ dst := some _, op := Op.load _ _, type := _, pos := _, after := _, guard := none } :: _) _ _; refine wpList_load_agg rfl 74 _ rfl ⟨gc, 0, none⟩ rfl (Cfg.A c) (cfg_agg _) (agg_cells HC3.out) ?_))
  clear c0 f0 hW3
  obtain ⟨m, hm, m1, m128⟩ := sectors_nat c HGD.out
  obtain ⟨nn, hn⟩ : ∃ nn : Nat, c.n = nn := ⟨c.n.toNat, by have := HGD.out.k0; have := HGD.out.k1; omega⟩
  have n1 : 1 ≤ nn := by have := HGD.out.k0; have := HGD.out.k1; omega
  have n8 : nn ≤ 6 := by have := HN6.out; omega
  have HNM := hid (And.intro n1 (And.intro n8 (And.intro m1 m128)))
  have HCN := hid hn
  refine (tnew_c c HGD.out nn m hn hm n1 (by omega) m1 m128 W3).mono ?_
  rintro e W4 ⟨t, r, q, rfl, h4, hlt4, x4⟩
  clear hn hm n1 n8 m1 m128
  obtain ⟨S, hS⟩ : ∃ S : Nat → Prop, (fun b => b < W3.heap.size ∨ b = t) = S := ⟨_, rfl⟩
  rw [hS] at h4
  have H4 := hid h4
  have HX4 := hid (Ext.trans HX3.out x4)
  have HSW := hid (show ∀ b, b < w.heap.size → S b from fun b hb => hS ▸ Or.inl (Nat.lt_of_lt_of_le hb HX3.out.size))
  have HSC := hid (show S gc from hS ▸ Or.inl (lt_of_block HC3.out))
  have HSD := hid (show S gd from hS ▸ Or.inl (lt_of_block HB3.out))
  have HC4 := hid (x4.at HC3.out)
  have HD4 := hid (x4.at HB3.out)
  have HDM := hid (Rck.Dim.new nn m)
  have HLG := hid hlt4
  clear h4 x4 hS HX3 HC3 HB3 hlt4
  go_wp2_with fail
  go_loopw [14] (fun t' wq => ∃ i : Nat, t' = .int .i64 i ∧ i ≤ len ∧ i ≤ 25 ∧ ∃ R, TwoIn S wq t r q R ∧ R.Dim nn m ∧ Keeps S W4 wq) (fun t' _ => 25 - (intOf t').toNat)
  case atStart => exact ⟨0, rfl, by omega, by omega, _, H4.out, HDM.out, Only.refl _ _⟩
  case round =>
    clear H4 HDM
    obtain ⟨i, rfl, hi, hi25, R, hT, hD, hK⟩ := hrel
    have HT := hid hT; have HD := hid hD; have HK := hid hK
    have HX := hid (Keeps.ext HX4.out hK HSW.out)
    clear hT hD hK
    by_cases hio : i < len ∧ i < 25
    · obtain ⟨b, off, kd, ii, od, k2, d2, s2, q2, x, ba, bl, bc, bits, rfl, hbl, hi64, hx0, hx1, hbits, hcl⟩ := HA.out i hio.1
      have i0 : (0 : Int) ≤ (i : Int) := by omega
      have i1 : (i : Int) < (len : Int) := by omega
      have i2 : (i : Int) < 25 := by omega
      have HI := hid (And.intro hio.1 hio.2)
      obtain ⟨xx, rfl⟩ := Int.eq_ofNat_of_zero_le hx0
      have HXX := hid (show xx < 4294967296 by omega)
      have HCL := hid (show ∀ y v, (Ak9A kd ii od k2 d2 s2 q2 xx ba bl bc).toList[y]? = some v → wr.cell? ((⟨b, off + i * 9, none⟩ : Addr).add y) = some v from fun y v hv => by
        rw [addr_plain]
        exact Ext.cell HX.out (hcl y v hv))
      obtain ⟨V1, hV1⟩ : ∃ W, wr.alloc (.cells (Ak9A kd ii od k2 d2 s2 q2 xx ba bl bc) 81) = W := ⟨_, rfl⟩
      have x1' : Ext wr V1 := hV1 ▸ (Ext.refl wr).alloc _
      obtain ⟨gq, hgq⟩ : ∃ g, wr.heap.size = g := ⟨_, rfl⟩
      have HGQ := hid hgq
      have HCB := hid (show V1.heap[gq]? = some (.cells (Ak9A kd ii od k2 d2 s2 q2 xx ba bl bc) 81 (0, 0)) from hgq ▸ hV1 ▸ heap_alloc_new _ _)
      have hbs : (wr.alloc (.cells (Ak9A 0 0 false 0 0 0 0 0 none 0 0) 81)).heap[wr.heap.size]? = some (.cells (Ak9A 0 0 false 0 0 0 0 0 none 0 0) 81 (0, 0)) := block_alloc
      have HV1 := hid hV1
      obtain ⟨T, hT⟩ : ∃ T : Nat → Prop, (fun b => S b ∨ (wr.heap.size ≤ b ∧ b < V1.heap.size)) = T := ⟨_, rfl⟩
      have HTS := hid (show ∀ b, S b → T b from fun b hb => hT ▸ Or.inl hb)
      have HTG := hid (show T gq from hT ▸ Or.inr ⟨by rw [hgq]; exact Nat.le_refl _, lt_of_block HCB.out⟩)
      have H1 := hid (show TwoIn T V1 t r q R from hT ▸ HT.out.more (T := fun b => S b ∨ (wr.heap.size ≤ b ∧ b < V1.heap.size)) x1' (fun b hb => by
        rcases hb with hb | hb
        · exact ⟨Nat.lt_of_lt_of_le (HT.out.two.there b hb) x1'.size, .inl hb⟩
        · exact ⟨hb.2, .inr hb.1⟩) (.inl HT.out.safe))
      have HK1 := hid (show Keeps S W4 V1 from Only.ext HK.out x1')
      have HX1' := hid (Ext.trans HX.out x1')
      have HBI := hid (show BitsAt V1 ba bl bits from (hbits.only HX1'.out (fun _ _ q => q)).1)
      have HBS := hid (show ∀ p, ba = some p → 0 < bl → T p.block from fun p hp h0 => HTS.out _ (HSW.out _ (hbits.2 p hp h0)))
      have q0 : V1.cell? ⟨gq, 0, none⟩ = some (.int .i64 kd) := (cell_at HCB.out).trans rfl
      have HC1 := hid (HK1.out.at HC4.out (fun hn => hn HSC.out))
      have HD1 := hid (HK1.out.at HD4.out (fun hn => hn HSD.out))
      have HSAFE := hid HT.out.safe
      clear hcl hV1 x1' hbl hbits hx0 hx1 hi64 hT HT hgq hio
      go_upto_if 53 with (first
        | (guard_target = wpList _ _ _ ({ dst := some _, op := Op.load _ _, type := _, pos := _, after := _, guard := none } :: _) _ _; refine wpList_load_agg rfl 81 _ rfl ⟨b, off + i * 9, none⟩ rfl (Ak9A kd ii od k2 d2 s2 q2 xx ba bl bc) aggAk9 HCL.out ?_)
        | (guard_target = wpList _ _ _ ({ dst := none, op := Op.store _ _ _, type := _, pos := _, after := _, guard := none } :: _) _ _; have hb0 := hbs; clear hbs; refine wpList_store_whole rfl 81 _ _ rfl wr.heap.size rfl (Ak9A kd ii od k2 d2 s2 q2 xx ba bl bc) _ rfl 81 aggAk9 hb0 rfl (Ak9A_one _ _ _ _ _ _ _ _ _ _ _) ?_; rw [setRow_alloc, HV1.out, HGQ.out]))
      go_cut [53] (fun t' wq => (∃ b, t' = .bool b) ∧ ∃ R', TwoIn T wq t r q R' ∧ R'.Dim nn m ∧ Keeps T V1 wq)
      case first =>
        rcases hk1 : (kd == (1 : Int)) with _ | _
        · have HWR := hid (show ∀ y v, (WrA k2 d2 s2 q2 xx ba bl bc).toList[y]? = some v → V1.cell? ((⟨gq, 3, none⟩ : Addr).add y) = some v from fun y v hv => by
            rw [addr_plain]
            refine (cell_at HCB.out).trans ?_
            rw [Ak9A_wear]; simpa using hv)
          go_wp2_with (guard_target = wpList _ _ _ ({ dst := some _, op := Op.load _ _, type := _, pos := _, after := _, guard := none } :: _) _ _; refine wpList_load_agg rfl 79 _ rfl ⟨gq, 3, none⟩ rfl (WrA k2 d2 s2 q2 xx ba bl bc) aggWr HWR.out ?_)
          refine (twear_c H1.out HD.out HNM.out.1 (by have := HNM.out.2.1; omega) HNM.out.2.2.1 HNM.out.2.2.2 k2 d2 s2 q2 xx HXX.out ba bl bc bits HBI.out HBS.out).mono ?_
          rintro e V2 ⟨rfl, R', h2, d2', k2'⟩
          have HF := hid (And.intro h2 (And.intro d2' k2'))
          clear h2 d2' k2'
          go_wp2
          go_meet
          case rel => exact ⟨⟨_, rfl⟩, R', HF.out.1, HF.out.2.1, HF.out.2.2⟩
        · rcases od with _ | _
          · obtain ⟨V2, hV2⟩ : ∃ W, V1.alloc (.cells (Cfg.A c) 74) = W := ⟨_, rfl⟩
            have HBV2 := hid (show V2.heap[V1.heap.size]? = some (.cells (Cfg.A c) 74 (0, 0)) from hV2 ▸ heap_alloc_new _ _)
            have HXXV2 := hid (show Ext V1 V2 from hV2 ▸ (Ext.refl V1).alloc _)
            have hb2 : (V1.alloc (.cells (Cfg.A Cfg.zero) 74)).heap[V1.heap.size]? = some (.cells (Cfg.A Cfg.zero) 74 (0, 0)) := block_alloc
            have HWV2 := hid hV2
            obtain ⟨gx, hgx⟩ : ∃ g, V1.heap.size = g := ⟨_, rfl⟩
            have HGV2 := hid hgx
            rw [hgx] at HBV2
            clear hV2 hgx
            obtain ⟨V3, hV3⟩ : ∃ W, V2 = W := ⟨_, rfl⟩
            have HBV3 := hid (show V3.heap[gx]? = some (.cells (Cfg.A c) 74 (0, 0)) from hV3 ▸ HBV2.out)
            have HXV3 := hid (show Ext V1 V3 from hV3 ▸ HXXV2.out)
            have HV3 := hid hV3
            clear hV3
            have HT3 := hid (show V3.heap[gq]? = _ from HXV3.out.at HCB.out)
            have q2' : V2.cell? ⟨gq, 2, none⟩ = some (.bool false) := (cell_at (HXXV2.out.at HCB.out)).trans rfl
            obtain ⟨T2, hT2⟩ : ∃ T2 : Nat → Prop, (fun b => T b ∨ b = gx) = T2 := ⟨_, rfl⟩
            have HTA := hid (show ∀ b, T b → T2 b from fun b hb => hT2 ▸ Or.inl hb)
            have HTX := hid (show T2 gx from hT2 ▸ Or.inr rfl)
            have H3 := hid (show TwoIn T2 V3 t r q R from hT2 ▸ H1.out.more HXV3.out (fun b hb => by
              rcases hb with hb | rfl
              · exact ⟨Nat.lt_of_lt_of_le (H1.out.two.there b hb) HXV3.out.size, .inl hb⟩
              · exact ⟨lt_of_block HBV3.out, .inr (by rw [HGV2.out]; exact Nat.le_refl _)⟩) (.inl H1.out.safe))
            clear hT2
            go_wp2_with (first
              | (guard_target = wpList _ _ _ ({ dst := some _, op := Op.load _ _, type := _, pos := _, after := _, guard := none } :: _) _ _; refine wpList_load_agg rfl 74 _ rfl ⟨gc, 0, none⟩ rfl (Cfg.A c) (cfg_agg _) (agg_cells HC1.out) ?_)
              | (guard_target = wpList _ _ _ ({ dst := none, op := Op.store _ _ _, type := _, pos := _, after := _, guard := none } :: _) _ _; have hb0 := hb2; clear hb2; refine wpList_store_whole rfl 74 _ _ rfl V1.heap.size rfl (Cfg.A c) _ rfl 74 (cfg_agg _) hb0 (by rw [HCS.out, HCS.out]) (Cfg.A_one _) ?_; rw [setRow_alloc, HWV2.out, HGV2.out]))
            rw [HV3.out]
            clear q2'
            have HXD := hid (show Ext V3 V3.drew from (Ext.refl V3).drew)
            have e0 : ∀ y : SW (Only fun b => ¬ T2 b) V3.drew, y.w.cell? ⟨t, 0, none⟩ = some (.pointer (some ⟨r, 0, none⟩)) := fun y => (cell_at (y.ext.at (HXD.out.at H3.out.here) (fun hn => hn H3.out.safe))).trans rfl
            have e1 : ∀ y : SW (Only fun b => ¬ T2 b) V3.drew, y.w.cell? ⟨t, 1, none⟩ = some (.pointer (some ⟨q, 0, none⟩)) := fun y => (cell_at (y.ext.at (HXD.out.at H3.out.here) (fun hn => hn H3.out.safe))).trans rfl
            have e2 : ∀ y : SW (Only fun b => ¬ T2 b) V3.drew, y.w.cell? ⟨gq, 1, none⟩ = some (.int .i64 ii) := fun y => (cell_at (y.ext.at (HXD.out.at HT3.out) (fun hn => hn (HTA.out _ HTG.out)))).trans rfl
            have lx : Hid (∀ y : SW (Only fun b => ¬ T2 b) V3.drew, ∀ j v, (Cfg.A c).toList[j]? = some v → y.w.cell? ((⟨gx, 0, none⟩ : Addr).add j) = some v) := hid fun y => agg_cells (y.ext.at (HXD.out.at HBV3.out) (fun hn => hn HTX.out))
            go_wp2_with fail
            refine wp_region_calm_all (E := Ext) (S := Only fun b => ¬ T2 b) (.one [0, 1, 2, 3, 4, 5, 6, 9, 10, 11, 12, 13, 14, 15] 7 (.one [] 8 (.one [] 16 (.fin [17])))) (by kernel_rfl) (by kernel_rfl) (fun _ _ d _ _ h => by cases d <;> exact h) ?_
            rw [wpS]
            simp only [opsAt, List.map_cons, List.map_nil, Array.getD_eq_getD_getElem?, List.getElem?_toArray, List.getElem?_cons_succ, List.getElem?_cons_zero, Option.getD_some]
            iterate 4 ((refine wpSQ_step (fun K hK => ?_); go_simp; first | (refine hK _ ?_; clear hK K) | (apply Exists.intro; refine ⟨fun x => ?_, hK _ ?_⟩; (fail); clear hK K)))
            refine wpSQ_load_agg 74 _ rfl ⟨gx, 0, none⟩ rfl (Cfg.A c) rfl (cfg_agg _) lx.out ?_
            iterate 6 ((refine wpSQ_step (fun K hK => ?_); go_simp; first | (refine hK _ ?_; clear hK K) | (apply Exists.intro; refine ⟨fun x => ?_, hK _ ?_⟩; (fail); clear hK K)))
            refine wpSQ_load_agg 74 _ rfl ⟨gx, 0, none⟩ rfl (Cfg.A c) rfl (cfg_agg _) lx.out ?_
            iterate 2 ((refine wpSQ_step (fun K hK => ?_); go_simp; first | (refine hK _ ?_; clear hK K) | (apply Exists.intro; refine ⟨fun x => ?_, hK _ ?_⟩; (fail); clear hK K)))
            refine wpSQ_nil ?_
            intro U1 hU1
            have HU1 := hid (Ext.trans HXD.out hU1)
            clear hU1 e0 e1 e2 lx HXD
            refine wpS_loud fun Q1 hQ1 => ?_
            go_wp2_with fail
            obtain ⟨TL, hsub, hR, back⟩ := (H3.out.ext HU1.out).two.left
            refine (sput_c hR c ii).mono ?_
            rintro e U2 ⟨rfl, h', k'⟩
            obtain ⟨h3, k3⟩ := back _ _ h' k'
            have HDW := hid (HD.out.superPut c ii)
            rcases hq : R.superPut c ii with ⟨ov, R1⟩
            rw [hq] at h3 HDW
            simp only at h3 HDW ⊢
            have HQ := hid hq
            have HH3 := hid h3
            have HK3 := hid (show Keeps T2 V3 U2 from (Ext.only HU1.out).trans k3 fun c _ hc => hc)
            obtain ⟨vv, hvv⟩ : ∃ vv, oErr ov = vv := ⟨_, rfl⟩
            rw [hvv]
            have HVV := hid hvv
            clear hR back hsub h' k' h3 hq hvv
            go_wp2
            refine hQ1 _ _ k3 ?_
            clear hQ1 Q1 k3
            rw [wpS]
            simp only [opsAt, List.map_cons, List.map_nil, Array.getD_eq_getD_getElem?, List.getElem?_toArray, List.getElem?_cons_succ, List.getElem?_cons_zero, Option.getD_some]
            refine wpSQ_nil ?_
            intro U3 hU3
            have HH4 := hid (HH3.out.ext hU3)
            have HK4 := hid (show Keeps T2 V3 U3 from Only.ext HK3.out hU3)
            clear hU3
            refine wpS_loud fun Q1 hQ1 => ?_
            go_wp2_with fail
            rw [← HVV.out]
            refine (okind_c ov U3 (HLAID.out.only (Keeps.ext (Ext.trans HX1'.out HXV3.out) HK4.out (fun b hb => HTA.out _ (HTS.out _ (HSW.out b hb)))) (fun z => z))).mono ?_
            rintro e U4 ⟨rfl, x4'⟩
            obtain ⟨ck, hck⟩ : ∃ ck, okind ov = ck := ⟨_, rfl⟩
            rw [hck, HVV.out]
            have HCK := hid hck
            have HH5 := hid (HH4.out.ext x4')
            have HK5 := hid (show Keeps T2 V3 U4 from Only.ext HK4.out x4')
            clear hck
            go_wp2
            refine hQ1 _ _ (Ext.only x4') ?_
            clear hQ1 Q1 x4'
            rw [wpS]
            simp only [opsAt, List.map_cons, List.map_nil, Array.getD_eq_getD_getElem?, List.getElem?_toArray, List.getElem?_cons_succ, List.getElem?_cons_zero, Option.getD_some]
            refine wpSQ_nil ?_
            intro U5 hU5
            have HH6 := hid (HH5.out.ext hU5)
            have HK6 := hid (show Keeps T2 V3 U5 from Only.ext HK5.out hU5)
            clear hU5
            refine wpS_loud fun Q1 hQ1 => ?_
            go_wp2_with fail
            obtain ⟨TR, hsub, hR, back⟩ := HH6.out.right
            refine (fsput_c hR (by rw [HD.out.len]; exact HNM.out.1) c ii).mono ?_
            rintro e U6 ⟨rfl, h', k'⟩
            rw [HQ.out] at h' ⊢
            simp only at h' ⊢
            rw [HCK.out]
            obtain ⟨h6, k6⟩ := back _ _ h' k'
            have HH7 := hid h6
            have HK7 := hid (show Keeps T2 V3 U6 from HK6.out.trans k6 fun c _ hc => hc)
            clear hR back hsub h' k' h6
            go_wp2
            refine hQ1 _ _ k6 ?_
            clear hQ1 Q1 k6
            rw [wpS]
            simp only [opsAt, List.map_cons, List.map_nil, Array.getD_eq_getD_getElem?, List.getElem?_toArray, List.getElem?_cons_succ, List.getElem?_cons_zero, Option.getD_some]
            (refine wpSQ_step (fun K hK => ?_); go_simp; first | (refine hK _ ?_; clear hK K) | (apply Exists.intro; refine ⟨fun x => ?_, hK _ ?_⟩; (fail); clear hK K))
            refine wpSQ_nil ?_
            intro U7 hU7
            have HF := hid (show TwoIn T U7 t r q R1 ∧ R1.Dim nn m ∧ Keeps T V1 U7 from by
              have k : Keeps T2 V3 U7 := Only.ext HK7.out hU7
              refine ⟨TwoIn.less (S := T2) ⟨HH7.out.ext hU7, k.at H3.out.here (fun hn => hn H3.out.safe), H3.out.safe⟩ HTA.out H1.out.safe, HDW.out, (Ext.only HXV3.out).trans k fun c _ hc hs => hc (HTA.out c hs)⟩)
            clear hU7
            go_wp2
            go_meet
            case rel => exact ⟨⟨_, rfl⟩, R1, HF.out.1, HF.out.2.1, HF.out.2.2⟩
          · obtain ⟨V2, hV2⟩ : ∃ W, V1.alloc (.cells (Cfg.A c) 74) = W := ⟨_, rfl⟩
            have HBV2 := hid (show V2.heap[V1.heap.size]? = some (.cells (Cfg.A c) 74 (0, 0)) from hV2 ▸ heap_alloc_new _ _)
            have HXXV2 := hid (show Ext V1 V2 from hV2 ▸ (Ext.refl V1).alloc _)
            have hb2 : (V1.alloc (.cells (Cfg.A Cfg.zero) 74)).heap[V1.heap.size]? = some (.cells (Cfg.A Cfg.zero) 74 (0, 0)) := block_alloc
            have HWV2 := hid hV2
            obtain ⟨gx, hgx⟩ : ∃ g, V1.heap.size = g := ⟨_, rfl⟩
            have HGV2 := hid hgx
            rw [hgx] at HBV2
            clear hV2 hgx
            obtain ⟨V3, hV3⟩ : ∃ W, V2.setRow gx (Cfg.A d) = W := ⟨_, rfl⟩
            have HV3 := hid hV3
            have HBV3 := hid (show V3.heap[gx]? = some (.cells (Cfg.A d) 74 (0, 0)) from hV3 ▸ setRow_heap _ _ _ _ _ _ HBV2.out)
            have HXV3 := hid (show Ext V1 V3 from hV3 ▸ Ext.then HXXV2.out (only_setRow _ _ _) (fun i hi => by have := HGV2.out; omega))
            clear hV3
            have HT3 := hid (show V3.heap[gq]? = _ from HXV3.out.at HCB.out)
            have q2' : V2.cell? ⟨gq, 2, none⟩ = some (.bool true) := (cell_at (HXXV2.out.at HCB.out)).trans rfl
            obtain ⟨T2, hT2⟩ : ∃ T2 : Nat → Prop, (fun b => T b ∨ b = gx) = T2 := ⟨_, rfl⟩
            have HTA := hid (show ∀ b, T b → T2 b from fun b hb => hT2 ▸ Or.inl hb)
            have HTX := hid (show T2 gx from hT2 ▸ Or.inr rfl)
            have H3 := hid (show TwoIn T2 V3 t r q R from hT2 ▸ H1.out.more HXV3.out (fun b hb => by
              rcases hb with hb | rfl
              · exact ⟨Nat.lt_of_lt_of_le (H1.out.two.there b hb) HXV3.out.size, .inl hb⟩
              · exact ⟨lt_of_block HBV3.out, .inr (by rw [HGV2.out]; exact Nat.le_refl _)⟩) (.inl H1.out.safe))
            clear hT2
            go_wp2_with (first
              | (guard_target = wpList _ _ _ ({ dst := some _, op := Op.load _ _, type := _, pos := _, after := _, guard := none } :: _) _ _; refine wpList_load_agg rfl 74 _ rfl ⟨gc, 0, none⟩ rfl (Cfg.A c) (cfg_agg _) (agg_cells HC1.out) ?_)
              | (guard_target = wpList _ _ _ ({ dst := none, op := Op.store _ _ _, type := _, pos := _, after := _, guard := none } :: _) _ _; have hb0 := hb2; clear hb2; refine wpList_store_whole rfl 74 _ _ rfl V1.heap.size rfl (Cfg.A c) _ rfl 74 (cfg_agg _) hb0 (by rw [HCS.out, HCS.out]) (Cfg.A_one _) ?_; rw [setRow_alloc, HWV2.out, HGV2.out])
              | (guard_target = wpList _ _ _ ({ dst := some _, op := Op.load _ _, type := _, pos := _, after := _, guard := none } :: _) _ _; refine wpList_load_agg rfl 74 _ rfl ⟨gd, 0, none⟩ rfl (Cfg.A d) (cfg_agg _) (agg_cells (HXXV2.out.at HD1.out)) ?_)
              | (guard_target = wpList _ _ _ ({ dst := none, op := Op.store _ _ _, type := _, pos := _, after := _, guard := none } :: _) _ _; refine wpList_store_whole rfl 74 _ _ rfl gx rfl (Cfg.A d) _ rfl 74 (cfg_agg _) HBV2.out (by rw [HCS.out, HCS.out]) (Cfg.A_one _) ?_; rw [HV3.out]))
            clear q2'
            have HXD := hid (show Ext V3 V3.drew from (Ext.refl V3).drew)
            have e0 : ∀ y : SW (Only fun b => ¬ T2 b) V3.drew, y.w.cell? ⟨t, 0, none⟩ = some (.pointer (some ⟨r, 0, none⟩)) := fun y => (cell_at (y.ext.at (HXD.out.at H3.out.here) (fun hn => hn H3.out.safe))).trans rfl
            have e1 : ∀ y : SW (Only fun b => ¬ T2 b) V3.drew, y.w.cell? ⟨t, 1, none⟩ = some (.pointer (some ⟨q, 0, none⟩)) := fun y => (cell_at (y.ext.at (HXD.out.at H3.out.here) (fun hn => hn H3.out.safe))).trans rfl
            have e2 : ∀ y : SW (Only fun b => ¬ T2 b) V3.drew, y.w.cell? ⟨gq, 1, none⟩ = some (.int .i64 ii) := fun y => (cell_at (y.ext.at (HXD.out.at HT3.out) (fun hn => hn (HTA.out _ HTG.out)))).trans rfl
            have lx : Hid (∀ y : SW (Only fun b => ¬ T2 b) V3.drew, ∀ j v, (Cfg.A d).toList[j]? = some v → y.w.cell? ((⟨gx, 0, none⟩ : Addr).add j) = some v) := hid fun y => agg_cells (y.ext.at (HXD.out.at HBV3.out) (fun hn => hn HTX.out))
            go_wp2_with fail
            refine wp_region_calm_all (E := Ext) (S := Only fun b => ¬ T2 b) (.one [0, 1, 2, 3, 4, 5, 6, 9, 10, 11, 12, 13, 14, 15] 7 (.one [] 8 (.one [] 16 (.fin [17])))) (by kernel_rfl) (by kernel_rfl) (fun _ _ d _ _ h => by cases d <;> exact h) ?_
            rw [wpS]
            simp only [opsAt, List.map_cons, List.map_nil, Array.getD_eq_getD_getElem?, List.getElem?_toArray, List.getElem?_cons_succ, List.getElem?_cons_zero, Option.getD_some]
            iterate 4 ((refine wpSQ_step (fun K hK => ?_); go_simp; first | (refine hK _ ?_; clear hK K) | (apply Exists.intro; refine ⟨fun x => ?_, hK _ ?_⟩; (fail); clear hK K)))
            refine wpSQ_load_agg 74 _ rfl ⟨gx, 0, none⟩ rfl (Cfg.A d) rfl (cfg_agg _) lx.out ?_
            iterate 6 ((refine wpSQ_step (fun K hK => ?_); go_simp; first | (refine hK _ ?_; clear hK K) | (apply Exists.intro; refine ⟨fun x => ?_, hK _ ?_⟩; (fail); clear hK K)))
            refine wpSQ_load_agg 74 _ rfl ⟨gx, 0, none⟩ rfl (Cfg.A d) rfl (cfg_agg _) lx.out ?_
            iterate 2 ((refine wpSQ_step (fun K hK => ?_); go_simp; first | (refine hK _ ?_; clear hK K) | (apply Exists.intro; refine ⟨fun x => ?_, hK _ ?_⟩; (fail); clear hK K)))
            refine wpSQ_nil ?_
            intro U1 hU1
            have HU1 := hid (Ext.trans HXD.out hU1)
            clear hU1 e0 e1 e2 lx HXD
            refine wpS_loud fun Q1 hQ1 => ?_
            go_wp2_with fail
            obtain ⟨TL, hsub, hR, back⟩ := (H3.out.ext HU1.out).two.left
            refine (sput_c hR d ii).mono ?_
            rintro e U2 ⟨rfl, h', k'⟩
            obtain ⟨h3, k3⟩ := back _ _ h' k'
            have HDW := hid (HD.out.superPut d ii)
            rcases hq : R.superPut d ii with ⟨ov, R1⟩
            rw [hq] at h3 HDW
            simp only at h3 HDW ⊢
            have HQ := hid hq
            have HH3 := hid h3
            have HK3 := hid (show Keeps T2 V3 U2 from (Ext.only HU1.out).trans k3 fun c _ hc => hc)
            obtain ⟨vv, hvv⟩ : ∃ vv, oErr ov = vv := ⟨_, rfl⟩
            rw [hvv]
            have HVV := hid hvv
            clear hR back hsub h' k' h3 hq hvv
            go_wp2
            refine hQ1 _ _ k3 ?_
            clear hQ1 Q1 k3
            rw [wpS]
            simp only [opsAt, List.map_cons, List.map_nil, Array.getD_eq_getD_getElem?, List.getElem?_toArray, List.getElem?_cons_succ, List.getElem?_cons_zero, Option.getD_some]
            refine wpSQ_nil ?_
            intro U3 hU3
            have HH4 := hid (HH3.out.ext hU3)
            have HK4 := hid (show Keeps T2 V3 U3 from Only.ext HK3.out hU3)
            clear hU3
            refine wpS_loud fun Q1 hQ1 => ?_
            go_wp2_with fail
            rw [← HVV.out]
            refine (okind_c ov U3 (HLAID.out.only (Keeps.ext (Ext.trans HX1'.out HXV3.out) HK4.out (fun b hb => HTA.out _ (HTS.out _ (HSW.out b hb)))) (fun z => z))).mono ?_
            rintro e U4 ⟨rfl, x4'⟩
            obtain ⟨ck, hck⟩ : ∃ ck, okind ov = ck := ⟨_, rfl⟩
            rw [hck, HVV.out]
            have HCK := hid hck
            have HH5 := hid (HH4.out.ext x4')
            have HK5 := hid (show Keeps T2 V3 U4 from Only.ext HK4.out x4')
            clear hck
            go_wp2
            refine hQ1 _ _ (Ext.only x4') ?_
            clear hQ1 Q1 x4'
            rw [wpS]
            simp only [opsAt, List.map_cons, List.map_nil, Array.getD_eq_getD_getElem?, List.getElem?_toArray, List.getElem?_cons_succ, List.getElem?_cons_zero, Option.getD_some]
            refine wpSQ_nil ?_
            intro U5 hU5
            have HH6 := hid (HH5.out.ext hU5)
            have HK6 := hid (show Keeps T2 V3 U5 from Only.ext HK5.out hU5)
            clear hU5
            refine wpS_loud fun Q1 hQ1 => ?_
            go_wp2_with fail
            obtain ⟨TR, hsub, hR, back⟩ := HH6.out.right
            refine (fsput_c hR (by rw [HD.out.len]; exact HNM.out.1) d ii).mono ?_
            rintro e U6 ⟨rfl, h', k'⟩
            rw [HQ.out] at h' ⊢
            simp only at h' ⊢
            rw [HCK.out]
            obtain ⟨h6, k6⟩ := back _ _ h' k'
            have HH7 := hid h6
            have HK7 := hid (show Keeps T2 V3 U6 from HK6.out.trans k6 fun c _ hc => hc)
            clear hR back hsub h' k' h6
            go_wp2
            refine hQ1 _ _ k6 ?_
            clear hQ1 Q1 k6
            rw [wpS]
            simp only [opsAt, List.map_cons, List.map_nil, Array.getD_eq_getD_getElem?, List.getElem?_toArray, List.getElem?_cons_succ, List.getElem?_cons_zero, Option.getD_some]
            (refine wpSQ_step (fun K hK => ?_); go_simp; first | (refine hK _ ?_; clear hK K) | (apply Exists.intro; refine ⟨fun x => ?_, hK _ ?_⟩; (fail); clear hK K))
            refine wpSQ_nil ?_
            intro U7 hU7
            have HF := hid (show TwoIn T U7 t r q R1 ∧ R1.Dim nn m ∧ Keeps T V1 U7 from by
              have k : Keeps T2 V3 U7 := Only.ext HK7.out hU7
              refine ⟨TwoIn.less (S := T2) ⟨HH7.out.ext hU7, k.at H3.out.here (fun hn => hn H3.out.safe), H3.out.safe⟩ HTA.out H1.out.safe, HDW.out, (Ext.only HXV3.out).trans k fun c _ hc hs => hc (HTA.out c hs)⟩)
            clear hU7
            go_wp2
            go_meet
            case rel => exact ⟨⟨_, rfl⟩, R1, HF.out.1, HF.out.2.1, HF.out.2.2⟩
      case rest =>
        obtain ⟨⟨b0, rfl⟩, R1, h1, d1, k1⟩ := hcut
        have HB1 := hid h1; have HD2 := hid d1; have HK2 := hid k1
        have HXC := hid (Keeps.ext HX1'.out k1 (fun b hb => HTS.out _ (HSW.out b hb)))
        have HCC := hid (k1.at HC1.out (fun hn => hn (HTS.out _ HSC.out)))
        clear h1 d1 k1
        go_wp2_with fail
        go_loopw [17] (fun t' wq => ∃ j : Int, t' = .int .i64 j ∧ -1 ≤ j ∧ j ≤ (nn : Int) + 1 ∧ Ext wc wq) (fun t' _ => ((nn : Int) + 1 - intOf t').toNat)
        case atStart => exact ⟨-1, rfl, by omega, by omega, Ext.refl _⟩
        case round =>
          obtain ⟨j, rfl, j0, j1, hxj⟩ := hrel
          have HXJ := hid hxj
          clear hxj
          have cn : wr.cell? ⟨gc, 2, none⟩ = some (.int .i64 nn) := (cell_at (HXJ.out.at HCC.out)).trans (by rw [Cfg.A2, HCN.out])
          by_cases hj : j ≤ (nn : Int)
          · have HT0 := hid (HB1.out.ext HXJ.out)
            have u0 := HT0.out.cell0
            go_wp2_with fail
            refine (spget_c HT0.out.two.ract j).mono ?_
            rintro e g1 ⟨rfl, x1⟩
            unfold toldO
            obtain ⟨X, hX⟩ : ∃ X, (R1.superGet j).getD Cfg.zero = X := ⟨_, rfl⟩
            obtain ⟨z, hz⟩ : ∃ z, (R1.superGet j).isSome = z := ⟨_, rfl⟩
            rw [hX, hz]
            have HXE := hid hX; have HZE := hid hz
            have HE1 := hid x1
            clear hX hz x1 u0
            obtain ⟨YA, hYA⟩ : ∃ W, g1.alloc (.cells (Cfg.A X) 74) = W := ⟨_, rfl⟩
            have HBYA := hid (show YA.heap[g1.heap.size]? = some (.cells (Cfg.A X) 74 (0, 0)) from hYA ▸ heap_alloc_new _ _)
            have HXXYA := hid (show Ext g1 YA from hYA ▸ (Ext.refl g1).alloc _)
            have hba : (g1.alloc (.cells (Cfg.A Cfg.zero) 74)).heap[g1.heap.size]? = some (.cells (Cfg.A Cfg.zero) 74 (0, 0)) := block_alloc
            have HWYA := hid hYA
            obtain ⟨pa, hpa⟩ : ∃ g, g1.heap.size = g := ⟨_, rfl⟩
            have HGYA := hid hpa
            rw [hpa] at HBYA
            clear hYA hpa
            have HE2 := hid (Ext.trans HE1.out HXXYA.out)
            have HT2 := hid (HT0.out.ext HE2.out)
            have u1 := HT2.out.cell1
            go_wp2_with (guard_target = wpList _ _ _ ({ dst := none, op := Op.store _ _ _, type := _, pos := _, after := _, guard := none } :: _) _ _; have hb0 := hba; clear hba; refine wpList_store_whole rfl 74 _ _ rfl g1.heap.size rfl (Cfg.A X) _ rfl 74 (cfg_agg _) hb0 (by rw [HCS.out, HCS.out]) (Cfg.A_one _) ?_; rw [setRow_alloc, HWYA.out, HGYA.out])
            refine (fspget_c HT2.out.two.fact j (fun f hf => HT2.out.two.ract.got_ok hf)).mono ?_
            rintro e g2 ⟨rfl, x2⟩
            unfold toldO
            rw [HXE.out, HZE.out]
            have HA2 := hid (x2.at HBYA.out)
            have HE3 := hid (Ext.trans HE2.out x2)
            clear x2 u1
            obtain ⟨YB, hYB⟩ : ∃ W, g2.alloc (.cells (Cfg.A X) 74) = W := ⟨_, rfl⟩
            have HBYB := hid (show YB.heap[g2.heap.size]? = some (.cells (Cfg.A X) 74 (0, 0)) from hYB ▸ heap_alloc_new _ _)
            have HXXYB := hid (show Ext g2 YB from hYB ▸ (Ext.refl g2).alloc _)
            have hbb : (g2.alloc (.cells (Cfg.A Cfg.zero) 74)).heap[g2.heap.size]? = some (.cells (Cfg.A Cfg.zero) 74 (0, 0)) := block_alloc
            have HWYB := hid hYB
            obtain ⟨pb, hpb⟩ : ∃ g, g2.heap.size = g := ⟨_, rfl⟩
            have HGYB := hid hpb
            rw [hpb] at HBYB
            clear hYB hpb
            have HE4 := hid (Ext.trans HE3.out HXXYB.out)
            have HA3 := hid (HXXYB.out.at HA2.out)
            have HWJ := hid (show wrap64 (j + 1) = j + 1 by have := HNM.out.2.1; unfold wrap64; omega)
            go_wp2_with (first
              | (guard_target = wpList _ _ _ ({ dst := none, op := Op.store _ _ _, type := _, pos := _, after := _, guard := none } :: _) _ _; have hb0 := hbb; clear hbb; refine wpList_store_whole rfl 74 _ _ rfl g2.heap.size rfl (Cfg.A X) _ rfl 74 (cfg_agg _) hb0 (by rw [HCS.out, HCS.out]) (Cfg.A_one _) ?_; rw [setRow_alloc, HWYB.out, HGYB.out])
              | (guard_target = wpList _ _ _ ({ dst := some _, op := Op.load _ _, type := _, pos := _, after := _, guard := none } :: _) _ _; refine wpList_load_agg rfl 74 _ rfl ⟨pa, 0, none⟩ rfl (Cfg.A X) (cfg_agg _) (agg_cells HA3.out) ?_)
              | (guard_target = wpList _ _ _ ({ dst := some _, op := Op.load _ _, type := _, pos := _, after := _, guard := none } :: _) _ _; refine wpList_load_agg rfl 74 _ rfl ⟨pb, 0, none⟩ rfl (Cfg.A X) (cfg_agg _) (agg_cells HBYB.out) ?_)
              | (refine wpListG_eql .neq 74 _ _ _ rfl (Cfg.A X) (Cfg.A X) rfl rfl (.bool false) rfl (cfg_guard _ _ _ _ _ _) (by rw [cfg_neq, Cfg.eqB_self]; rfl) ?_))
            go_roundw
            case rel => rw [HWJ.out]; exact ⟨j + 1, rfl, by omega, by omega, Ext.trans HXJ.out HE4.out⟩
            case measure => rw [HWJ.out]; simp [intOf]; omega
          · have HT0 := hid (HB1.out.ext HXJ.out)
            have u0 := HT0.out.cell0
            go_wp2_with fail
            refine (sfind_c HT0.out.two.ract).mono ?_
            rintro e g1 ⟨rfl, x1⟩
            obtain ⟨X, hX⟩ : ∃ X, R1.superFind.1 = X := ⟨_, rfl⟩
            obtain ⟨ov, hov⟩ : ∃ z, R1.superFind.2 = z := ⟨_, rfl⟩
            rw [hX, hov]
            obtain ⟨vv, hvv⟩ : ∃ vv, oErr ov = vv := ⟨_, rfl⟩
            rw [hvv]
            have HXE := hid hX; have HZE := hid hov; have HVV := hid hvv
            have HE1 := hid x1
            clear hX hov hvv x1 u0
            obtain ⟨YA, hYA⟩ : ∃ W, g1.alloc (.cells (Cfg.A X) 74) = W := ⟨_, rfl⟩
            have HBYA := hid (show YA.heap[g1.heap.size]? = some (.cells (Cfg.A X) 74 (0, 0)) from hYA ▸ heap_alloc_new _ _)
            have HXXYA := hid (show Ext g1 YA from hYA ▸ (Ext.refl g1).alloc _)
            have hba : (g1.alloc (.cells (Cfg.A Cfg.zero) 74)).heap[g1.heap.size]? = some (.cells (Cfg.A Cfg.zero) 74 (0, 0)) := block_alloc
            have HWYA := hid hYA
            obtain ⟨pa, hpa⟩ : ∃ g, g1.heap.size = g := ⟨_, rfl⟩
            have HGYA := hid hpa
            rw [hpa] at HBYA
            clear hYA hpa
            have HE2 := hid (Ext.trans HE1.out HXXYA.out)
            have HT2 := hid (HT0.out.ext HE2.out)
            have u1 := HT2.out.cell1
            go_wp2_with (guard_target = wpList _ _ _ ({ dst := none, op := Op.store _ _ _, type := _, pos := _, after := _, guard := none } :: _) _ _; have hb0 := hba; clear hba; refine wpList_store_whole rfl 74 _ _ rfl g1.heap.size rfl (Cfg.A X) _ rfl 74 (cfg_agg _) hb0 (by rw [HCS.out, HCS.out]) (Cfg.A_one _) ?_; rw [setRow_alloc, HWYA.out, HGYA.out])
            refine (ffind_c HT2.out.two.fact (by rw [HD2.out.len]; exact HNM.out.1) (by rw [HD2.out.len]; have := HNM.out.2.1; omega) (fun i f hf => HT2.out.two.ract.got_ok hf)).mono ?_
            rintro e g2 ⟨rfl, x2⟩
            rw [HXE.out, HZE.out]
            obtain ⟨ck, hck⟩ : ∃ ck, okind ov = ck := ⟨_, rfl⟩
            rw [hck]
            have HCK := hid hck
            have HA2 := hid (x2.at HBYA.out)
            have HE3 := hid (Ext.trans HE2.out x2)
            clear x2 u1 hck
            obtain ⟨YB, hYB⟩ : ∃ W, g2.alloc (.cells (Cfg.A X) 74) = W := ⟨_, rfl⟩
            have HBYB := hid (show YB.heap[g2.heap.size]? = some (.cells (Cfg.A X) 74 (0, 0)) from hYB ▸ heap_alloc_new _ _)
            have HXXYB := hid (show Ext g2 YB from hYB ▸ (Ext.refl g2).alloc _)
            have hbb : (g2.alloc (.cells (Cfg.A Cfg.zero) 74)).heap[g2.heap.size]? = some (.cells (Cfg.A Cfg.zero) 74 (0, 0)) := block_alloc
            have HWYB := hid hYB
            obtain ⟨pb, hpb⟩ : ∃ g, g2.heap.size = g := ⟨_, rfl⟩
            have HGYB := hid hpb
            rw [hpb] at HBYB
            clear hYB hpb
            have HE4 := hid (Ext.trans HE3.out HXXYB.out)
            have HA3 := hid (HXXYB.out.at HA2.out)
            have HL4 := hid (HLAID.out.only (Ext.trans HXC.out (Ext.trans HXJ.out HE4.out)) (fun z => z))
            go_wp2_with (first
              | (guard_target = wpList _ _ _ ({ dst := none, op := Op.store _ _ _, type := _, pos := _, after := _, guard := none } :: _) _ _; have hb0 := hbb; clear hbb; refine wpList_store_whole rfl 74 _ _ rfl g2.heap.size rfl (Cfg.A X) _ rfl 74 (cfg_agg _) hb0 (by rw [HCS.out, HCS.out]) (Cfg.A_one _) ?_; rw [setRow_alloc, HWYB.out, HGYB.out])
              | (guard_target = wpList _ _ _ ({ dst := some _, op := Op.load _ _, type := _, pos := _, after := _, guard := none } :: _) _ _; refine wpList_load_agg rfl 74 _ rfl ⟨pa, 0, none⟩ rfl (Cfg.A X) (cfg_agg _) (agg_cells HA3.out) ?_)
              | (guard_target = wpList _ _ _ ({ dst := some _, op := Op.load _ _, type := _, pos := _, after := _, guard := none } :: _) _ _; refine wpList_load_agg rfl 74 _ rfl ⟨pb, 0, none⟩ rfl (Cfg.A X) (cfg_agg _) (agg_cells HBYB.out) ?_)
              | (refine wpListG_eql .neq 74 _ _ _ rfl (Cfg.A X) (Cfg.A X) rfl rfl (.bool false) rfl (cfg_guard _ _ _ _ _ _) (by rw [cfg_neq, Cfg.eqB_self]; rfl) ?_))
            rw [← HVV.out]
            refine (okind_c ov YB HL4.out).mono ?_
            rintro e g3 ⟨rfl, x3⟩
            rw [HCK.out, HVV.out]
            have HE5 := hid (Ext.trans HE4.out x3)
            have HL5 := hid (HL4.out.only x3 (fun z => z))
            clear x3
            go_wp2_with fail
            refine (tsame_c (HT0.out.ext HE5.out) HD2.out (by have := HNM.out.2.1; omega) HNM.out.2.2.2 HL5.out).mono ?_
            rintro e g4 ⟨rfl, x4⟩
            have HE6 := hid (Ext.trans HXJ.out (Ext.trans HE5.out x4))
            clear x4
            go_wp2
            go_roundw
            case rel => exact ⟨i + 1, by go_num, by have := HI.out; omega, by have := HI.out; omega, R1, (HB1.out.ext HE6.out).less HTS.out HSAFE.out, HD2.out, (HK1.out.trans (Only.ext HK2.out HE6.out) fun c _ hc hs => hc (HTS.out c hs))⟩
            case measure => simp [intOf]; omega
    · by_cases h1 : i < len
      · have i1 : (i : Int) < (len : Int) := by omega
        have i2 : ((i : Int) < 25) = False := eq_false (by omega)
        go_wp2_with fail
        refine (superRuns_c wr (HLAID.out.only HX.out (fun q => q))).mono ?_
        rintro e w5 ⟨rfl, x5⟩
        have HX5 := hid (Ext.trans HX.out x5)
        clear x5
        go_wp2
        go_ret
        exact ⟨rfl, HX5.out⟩
      · have i1 : ((i : Int) < (len : Int)) = False := eq_false (by omega)
        go_wp2_with fail
        refine (superRuns_c wr (HLAID.out.only HX.out (fun q => q))).mono ?_
        rintro e w5 ⟨rfl, x5⟩
        have HX5 := hid (Ext.trans HX.out x5)
        clear x5
        go_wp2
        go_ret
        exact ⟨rfl, HX5.out⟩
end Go.Proofs.YtgjnnbomnoafcaaGreatDoor

/- The statement SuperPlays, as its tied card: for every input the call of stavelaw9's SuperPlays answers true, and its arguments read behind it as they read before. No condition of our own. -/
namespace Go.Proofs.YtgjnnbomnoafcaaGreatDoor.superPlays
open Go.ChangeShapes Go.WideShapes Go.ChangeAt Go.RowKit
open Go.ChangeMaps (open_string shut_string)
set_option linter.unusedVariables false
theorem laidOut : laidOutB Tryz.prog = true := by kernel_rfl
theorem walk (a0 a1 a2 a3 : Int) (a4 : Option Addr) (len4 cap4 : Nat) (w : World) (hg : EtLaid w) (w4 : Ak9sAt w a4 len4) :
    Calls Tryz.prog 4 #[.int .i64 a0, .int .i64 a1, .int .i64 a2, .int .i64 a3, .slice a4 len4 cap4] w fun e w' => e = .returned (.bool true) ∧ Below w.heap.size w w' :=
  (superPlays_c a0 a1 a2 a3 a4 len4 cap4 w hg w4).mono fun _ _ ⟨he, hx⟩ => ⟨he, hx.below⟩
set_option maxRecDepth 100000 in
theorem lifted (os : Os) (started : os.Started) (H : Type) (enc : TypeId × Value → H) :
    ReturnsInHanded {} Tryz.checked os 4 .any (fun w args => (Rows.superPlaysSpec.pre enc Tryz.prog Tryz.f4 [] false w args ∧ laidMetH Tryz.prog theLaid w) ∧ sizedMet enc Tryz.prog Tryz.f4 (OpenSpec.ofChange Rows.superPlaysSpec) false w args)
      (Rows.superPlaysSpec.post enc Tryz.prog Tryz.f4 false true false false) := by
  refine returnsInHanded_of_change_and (C := Tryz.checked) (X := fun w _ => laidMetH Tryz.prog theLaid w) (fun _ _ _ hh h => h.of_heap hh) hOwn started (by kernel_rfl) Tryz.func4
    (ChangeSpec.witness_at (enc := enc) (C := Tryz.checked) (os := os) (X := fun w _ => laidMetH Tryz.prog theLaid w) false (laidWorld os) #[.int .i64 0, .int .i64 0, .int .i64 0, .int .i64 0, .slice none 0 0] 8 rfl (by kernel_rfl) (by kernel_rfl) (by kernel_rfl) (by kernel_rfl) (by kernel_rfl) (laidWorld_met os _)) ?_
  intro W base args ds gs before hval0 hW _ _ hL _
  have hval : ∀ (j : Nat) t v, Tryz.f4.params[j]? = some t → args[j]? = some v → Value.okWide Tryz.prog W .any base t v := hval0
  have hW' := hW
  obtain ⟨p, q, hA0, hV, rfl, hfz, hnd⟩ := hW
  have hA : DataW.TrodAll enc Tryz.prog W 0 (fun _ => true) true Tryz.f4.params.toList args.toList ds p := hA0
  rw [Tryz.params4] at hA hval
  obtain ⟨v0, vs0, d0, ds0, p0, q0, hargs, rfl, rfl, h0, r0⟩ := trodAll_cons hA
  obtain ⟨v1, vs1, d1, ds1, p1, q1, rfl, rfl, rfl, h1, r1⟩ := trodAll_cons r0
  obtain ⟨v2, vs2, d2, ds2, p2, q2, rfl, rfl, rfl, h2, r2⟩ := trodAll_cons r1
  obtain ⟨v3, vs3, d3, ds3, p3, q3, rfl, rfl, rfl, h3, r3⟩ := trodAll_cons r2
  obtain ⟨v4, vs4, d4, ds4, p4, q4, rfl, rfl, rfl, h4, r4⟩ := trodAll_cons r3
  obtain ⟨rfl, rfl, rfl⟩ := trodAll_nil r4
  obtain rfl : args = #[v0, v1, v2, v3, v4] := by cases args; simp_all
  obtain ⟨rfl, rfl⟩ := trodVars_none hV
  obtain ⟨a0, rfl, rfl, rfl, w0⟩ := open_int Tryz.underlying3 (hval 0 3 v0 rfl rfl) h0
  obtain ⟨a1, rfl, rfl, rfl, w1⟩ := open_int Tryz.underlying3 (hval 1 3 v1 rfl rfl) h1
  obtain ⟨a2, rfl, rfl, rfl, w2⟩ := open_int Tryz.underlying3 (hval 2 3 v2 rfl rfl) h2
  obtain ⟨a3, rfl, rfl, rfl, w3⟩ := open_int Tryz.underlying3 (hval 3 3 v3 rfl rfl) h3
  obtain ⟨a4, len4, cap4, rfl⟩ := okWide_slice Tryz.underlying72 (hval 4 72 v4 rfl rfl)
  have k4 := h4
  have lt4 : ∀ x ∈ p4, x.block < W.heap.size := by obtain ⟨m, hm⟩ := k4; exact DataW.trod_lt m _ _ _ hm
  have w4 : Ak9sAt W a4 len4 := by
    obtain ⟨fuel, hf⟩ := h4
    exact open_Ak9s hf
  have hg := etLaid_of hL
  clear hA0 hval0
  simp only [List.append_nil] at hW'
  refine (walk a0 a1 a2 a3 a4 len4 cap4 W hg w4).mono fun e W' ⟨he, bel⟩ => ?_
  subst he
  exact ⟨_, rfl, _, _, _, [], _, [], hW', trodAll_mk1 (shut_bool Tryz.underlying4 _), (trodAll_cons_mk (shut_int Tryz.underlying3 w0) (trodAll_cons_mk (shut_int Tryz.underlying3 w1) (trodAll_cons_mk (shut_int Tryz.underlying3 w2) (trodAll_cons_mk (shut_int Tryz.underlying3 w3) (trodAll_cons_mk (Below.trod laidOut (by kernel_rfl) (of_decide_eq_true (by kernel_rfl)) k4 bel lt4) trodAll_mk0))))), rfl, bel.frame _, fun h => by cases h⟩
theorem over : Rows.SuperPlaysSaid :=
  OpenClaim.holds_of_wide 4 Tryz.f4 rfl rfl rfl rfl rfl rfl rfl ⟨rfl, rfl, rfl, rfl, rfl⟩ rfl rfl rfl rfl rfl (by kernel_rfl) Tryz.func4 (by kernel_rfl)
    (of_decide_eq_true (by kernel_rfl)) (by unfold Func.isWrapper; first | (rw [if_pos (by decide +kernel)]; kernel_rfl) | (rw [if_neg (by decide +kernel)]; exact ⟨rfl, rfl⟩))
    (fun os started H enc _ => lifted os started H enc)
theorem proved : Rows.SuperPlaysCardSaid :=
  Claim7.holds_tied_plain_at .later [] [.handle] true (true, "faf3cd5ff00875a54f6a608788494961345aefece9ca848031828fc03b572bca") true
    over (fun _ h => by cases h) (by kernel_rfl) (fun _ h => by cases h) superPlays_row_tie rfl ⟨rfl, rfl⟩ (by kernel_rfl) rfl
    (fun f fn hf hfn => by
      obtain rfl : f = 4 := Option.some.inj ((show Tryz.prog.funcNamed "stave/stavelaw9.SuperPlays" = some 4 by kernel_rfl).symm.trans hf) |>.symm
      obtain rfl : fn = Tryz.f4 := (Option.some.inj (Tryz.func4.symm.trans hfn)).symm
      exact ⟨by kernel_rfl, fun j t ht => by
        rw [Tryz.params4] at ht
        rcases j with _ | _ | _ | _ | _ | j
        · simp at ht; subst ht; kernel_rfl
        · simp at ht; subst ht; kernel_rfl
        · simp at ht; subst ht; kernel_rfl
        · simp at ht; subst ht; kernel_rfl
        · simp at ht; subst ht; kernel_rfl
        · simp at ht⟩)
    (by kernel_rfl)
#print axioms proved
end Go.Proofs.YtgjnnbomnoafcaaGreatDoor.superPlays
