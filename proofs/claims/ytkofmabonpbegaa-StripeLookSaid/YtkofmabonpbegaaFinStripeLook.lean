/- The statement StripeLook: for every input the call of stavelaw's StripeLook answers true, and its arguments read behind it as they read before. No condition. -/
/- Texts of one proof, joined: WStripeLook, LawStripeLook. -/
import Derived.Test.YtkofmabonpbegaaPartO
import Derived.Test.YtkofmabonpbegaaPartJ
import Derived.Test.YtkofmabonpbegaaPartQ
import Derived.Test.YtkofmabonpbegaaPartD
import Derived.Test.YtkofmabonpbegaaRows
import Derived.WalkKit
import Derived.ProofKit
import Derived.OpenShut
import Derived.ShutString
import Derived.ChangeOld
import Derived.Below
set_option linter.unusedVariables false
set_option linter.unusedSimpArgs false
/- The walk of StripeLook. -/
namespace Go.Proofs.Ytkofmabonpbegaa
set_option linter.unusedVariables false
open Go Go.RowKit
theorem gone_bit (B i : Nat) (hB : B < 18446744073709551616) : (Go.bits .and .u64 ((B : Int) / 2 ^ i) 1 == 0) = !(B.testBit i) := by
  have e1 : ((B : Int) / 2 ^ i) = ((B / 2 ^ i : Nat) : Int) := by push_cast; rfl
  have h1 : B / 2 ^ i < 2 ^ 64 := Nat.lt_of_le_of_lt (Nat.div_le_self _ _) hB
  have e2 := u64_and_nat (B / 2 ^ i) 1 h1 (by decide)
  rw [e1, show (1 : Int) = ((1 : Nat) : Int) from rfl, e2, Nat.and_one_is_mod, Nat.testBit_eq_decide_div_mod_eq]
  rcases Nat.mod_two_eq_zero_or_one (B / 2 ^ i) with h | h <;> rw [h] <;> rfl
set_option maxRecDepth 100000 in
set_option maxHeartbeats 4000000 in
theorem stripeLook_c (k n a0 gone : Int) (ia : Option Addr) (len cap : Nat) (z : List Int) (w : World) (w0 : (Lit.int .i64 k).wf = true) (w1 : (Lit.int .i64 n).wf = true) (w2 : (Lit.int .i64 a0).wf = true) (w3 : (Lit.int .u64 gone).wf = true) (hl : IsRow .i64 w ia len cap z) :
    Calls Try.prog 5 #[.int .i64 k, .int .i64 n, .int .i64 a0, .int .u64 gone, .slice ia len cap] w fun e w' => e = .returned (.bool true) ∧ Ext w w' := by
  have HI := hid hl.ints
  have hg0 := bounds_u64 w3
  obtain ⟨B, rfl⟩ := Int.eq_ofNat_of_zero_le hg0.1
  have HB64 := hid (show B < 18446744073709551616 by omega)
  clear hl w0 w1 w2 w3 hg0
  have hzp := zero_part
  have hzc := zero_cfg
  have HCS := hid Cfg.A_size
  go_enter Try.func5, Try.ntmps5
  go_wp2_with fail
  refine (kfixed_c k n 1 1 _).mono ?_
  rintro e w1 ⟨rfl, x1⟩
  have HGD := hid (show (keepFixed k n 1 1).Good from keepFixed_good k n 1 1 (by omega) (by omega) (by omega) (by omega))
  have HK4 := hid (keepFixed_k4 k n 1 1)
  have HN6 := hid (keepFixed_n6 k n 1 1)
  have HST := hid (show (keepFixed k n 1 1).stripes = 1 from rfl)
  have HSL := hid (show (keepFixed k n 1 1).slots = 1 from rfl)
  generalize keepFixed k n 1 1 = c at *
  obtain ⟨W1, hW1⟩ : ∃ W, w1.alloc (.cells (Cfg.A c) 23) = W := ⟨_, rfl⟩
  have X1 := hid (show Ext w W1 from hW1 ▸ x1.alloc _)
  have HC := hid (show W1.heap[w1.heap.size]? = some (.cells (Cfg.A c) 23 (0, 0)) from hW1 ▸ heap_alloc_new _ _)
  have hbs : (w1.alloc (.cells (Cfg.A Cfg.zero) 23)).heap[w1.heap.size]? = some (.cells (Cfg.A Cfg.zero) 23 (0, 0)) := block_alloc
  clear x1
  go_wp2_with (guard_target = wpList _ _ _ ({ dst := none, op := Op.store _ _ _, type := _, pos := _, after := _, guard := none } :: _) _ _; refine wpList_store_whole rfl 23 _ _ rfl w1.heap.size rfl (Cfg.A c) _ rfl 23 ?_ hbs ?_ ?_ ?_; (rw [HCS.out]; exact aggCfg); (rw [HCS.out, HCS.out]); exact Cfg.A_one _)
  rw [setRow_alloc, hW1]
  clear hbs hW1
  have HLT := hid (lt_of_block HC.out)
  generalize w1.heap.size = g at *
  obtain ⟨m, hm, m1, m128⟩ := sectors_nat c HGD.out
  obtain ⟨nn, hn⟩ : ∃ nn : Nat, c.n = nn := ⟨c.n.toNat, by have := HGD.out.k0; have := HGD.out.k1; omega⟩
  obtain ⟨kk, hk⟩ : ∃ kk : Nat, c.k = kk := ⟨c.k.toNat, by have := HGD.out.k0; omega⟩
  have HNT := hid (show c.n.toNat = nn by omega)
  have HKT := hid (show c.k.toNat = kk by omega)
  have n1 : 1 ≤ nn := by have := HGD.out.k0; have := HGD.out.k1; omega
  have n8 : nn ≤ 6 := by have := HN6.out; omega
  have k1 : 1 ≤ kk := by have := HGD.out.k0; omega
  have k4 : kk ≤ 4 := by have := HK4.out; omega
  have HKN := hid (show kk ≤ nn by have := HGD.out.k1; omega)
  have HM := hid hm; have HN := hid hn; have HK := hid hk
  have xd : Ext W1 W1.drew := (Ext.refl W1).drew
  have lc : Hid (∀ x : SW Ext W1.drew, ∀ j v, (Cfg.A c).toList[j]? = some v → x.w.cell? ((⟨g, 0, none⟩ : Addr).add j) = some v) := hid fun x => agg_cells ((Ext.trans xd x.ext).at HC.out)
  have c2 : ∀ x : SW Ext W1.drew, x.w.cell? ⟨g, 2, none⟩ = some (.int .i64 nn) := fun x => (cell_at ((Ext.trans xd x.ext).at HC.out)).trans (by rw [Cfg.A2, HN.out])
  have sc : Hid (∀ x : SW Ext W1.drew, Calls Try.prog 15 #[.agg (Cfg.A c)] x.w fun e w'' => e = .returned (.int .i64 m) ∧ Ext x.w w'') := hid fun x => by
    have := ksectors_c c HGD.out x.w
    rw [HM.out] at this
    exact this
  have HAG := hid (cfg_agg c)
  clear hm hn hk
  refine wp_region_rely_all (S := Ext) (.one [0, 1, 2, 3] 4 (.fin [5, 6, 7, 8, 9])) (by kernel_rfl) (by kernel_rfl) (fun _ _ d _ _ h => by cases d <;> exact h) ?_
  rw [wpS]
  simp only [opsAt, List.map_cons, List.map_nil, Array.getD_eq_getD_getElem?, List.getElem?_toArray, List.getElem?_cons_succ, List.getElem?_cons_zero, Option.getD_some]
  iterate 2 ((refine wpSQ_step (fun K hK => ?_); go_simp; first | (refine hK _ ?_; clear hK K) | (apply Exists.intro; refine ⟨fun x => ?_, hK _ ?_⟩; (fail); clear hK K)))
  refine wpSQ_load_agg 23 _ rfl ⟨g, 0, none⟩ rfl (Cfg.A c) rfl HAG.out lc.out ?_
  (refine wpSQ_step (fun K hK => ?_); go_simp; first | (refine hK _ ?_; clear hK K) | (apply Exists.intro; refine ⟨fun x => ?_, hK _ ?_⟩; (exact sc.out x); clear hK K))
  refine wpSQ_nil ?_
  intro V1 hV1
  refine wpS_loud fun K hK => ?_
  go_wp2_with fail
  refine (at_new nn m n1 (by omega) m1 m128 V1).mono ?_
  rintro e w2 ⟨r, rfl, h2, x2⟩
  go_wp2
  refine hK _ _ x2 ?_
  clear hK K
  rw [wpS]
  simp only [opsAt, List.map_cons, List.map_nil, Array.getD_eq_getD_getElem?, List.getElem?_toArray, List.getElem?_cons_succ, List.getElem?_cons_zero, Option.getD_some]
  iterate 5 ((refine wpSQ_step (fun K hK => ?_); go_simp; first | (refine hK _ ?_; clear hK K) | (apply Exists.intro; refine ⟨fun x => ?_, hK _ ?_⟩; (fail); clear hK K)))
  refine wpSQ_nil ?_
  intro V2 hV2
  obtain ⟨S0, hS0⟩ : ∃ S : Nat → Prop, (fun b => b < W1.heap.size) = S := ⟨_, rfl⟩
  have HJ2 := hid (show SE w V2 S0 r (Rck.new nn m) g c [] from hS0 ▸ ⟨(h2.less fun b hb => Nat.lt_of_lt_of_le hb (Ext.trans xd hV1).size).ext hV2, Ext.trans X1.out (Ext.trans xd (Ext.trans hV1 (Ext.trans x2 hV2))), fun b hb => Nat.lt_of_lt_of_le hb X1.out.size, (Ext.trans xd (Ext.trans hV1 (Ext.trans x2 hV2))).at HC.out, HLT.out, fun p hp => by simp at hp⟩)
  have HSR0 : Hid (SR (Rck.new nn m) c m (fun _ => none) allU fun _ => noB) := hid (by
    have := SR.new HGD.out (m := m) (by rw [HM.out]; exact Int.le_refl _)
    rw [HNT.out] at this
    exact this)
  clear h2 x2 hV1 hV2 lc c2 sc xd X1 HC HLT hS0
  have xd : Ext V2 V2.drew := (Ext.refl V2).drew
  have HJD := hid (HJ2.out.more xd)
  have lc : Hid (∀ y : SW (Only fun b => ¬ S0 b) V2.drew, ∀ j v, (Cfg.A c).toList[j]? = some v → y.w.cell? ((⟨g, 0, none⟩ : Addr).add j) = some v) := hid fun y => agg_cells (y.ext.at HJD.out.cfg (fun q => q HJD.out.cfgS))
  have ck : ∀ y : SW (Only fun b => ¬ S0 b) V2.drew, y.w.cell? ⟨g, 1, none⟩ = some (.int .i64 kk) := fun y => (cell_at (y.ext.at HJD.out.cfg (fun q => q HJD.out.cfgS))).trans (by rw [Cfg.A1, HK.out])
  obtain ⟨R1, hput, hsr1⟩ := HSR0.out.put (fun d _ => rfl) (SFit.of (c := c) (s := 0) (gen := 4) (n := a0) (by rw [HST.out]; decide) (by decide) (by decide))
  rw [HKT.out] at hput hsr1
  have HPUT := hid hput
  have HSR1 := hid hsr1
  obtain ⟨la, hla⟩ : ∃ l, blocksOf kk a0 = l := ⟨_, rfl⟩
  have LA8 := hid (hla ▸ blocksOf_108 kk a0)
  have LAB := hid (hla ▸ blocksOf_bytes kk a0)
  have HLA := hid hla
  rw [hla] at HPUT HSR1
  clear xd hput hsr1 hla HJ2
  go_wp2_with fail
  refine wp_region_calm_all (E := Ext) (S := Only fun b => ¬ S0 b) (.one [0, 1, 2, 3, 4, 5, 6, 7, 8, 9, 10, 11] 12 (.one [] 13 (.fin [14, 15]))) (by kernel_rfl) (by kernel_rfl) (fun _ _ d _ _ h => by cases d <;> exact h) ?_
  rw [wpS]
  simp only [opsAt, List.map_cons, List.map_nil, Array.getD_eq_getD_getElem?, List.getElem?_toArray, List.getElem?_cons_succ, List.getElem?_cons_zero, Option.getD_some]
  iterate 8 ((refine wpSQ_step (fun K hK => ?_); go_simp; first | (refine hK _ ?_; clear hK K) | (apply Exists.intro; refine ⟨fun x => ?_, hK _ ?_⟩; (fail); clear hK K)))
  refine wpSQ_load_agg 23 _ rfl ⟨g, 0, none⟩ rfl (Cfg.A c) rfl (cfg_agg c) lc.out ?_
  iterate 3 ((refine wpSQ_step (fun K hK => ?_); go_simp; first | (refine hK _ ?_; clear hK K) | (apply Exists.intro; refine ⟨fun x => ?_, hK _ ?_⟩; (fail); clear hK K)))
  refine wpSQ_nil ?_
  intro V3 hV3
  have HJ3 := hid (HJD.out.more hV3)
  clear lc ck hV3 HJD
  refine wpS_loud fun Q1 hQ1 => ?_
  go_wp2_with fail
  refine (kblocks_c kk (by omega) a0 V3).mono ?_
  rintro e w4 ⟨v, rfl, hown, x4⟩
  rw [HLA.out] at hown
  obtain ⟨a, ca, rfl, hbk, hab⟩ := kblocks_at LA8.out hown
  have HJ4 := hid (HJ3.out.put x4 la a hbk hab)
  clear hown hbk hab
  go_wp2
  refine hQ1 _ _ (Ext.only x4) ?_
  clear hQ1 Q1 x4
  rw [wpS]
  simp only [opsAt, List.map_cons, List.map_nil, Array.getD_eq_getD_getElem?, List.getElem?_toArray, List.getElem?_cons_succ, List.getElem?_cons_zero, Option.getD_some]
  refine wpSQ_nil ?_
  intro V4 hV4
  have HJ5 := hid (HJ4.out.more hV4)
  clear hV4 HJ4
  refine wpS_loud fun Q2 hQ2 => ?_
  go_wp2_with fail
  refine (strput_c HJ5.out.rack c 0 4 la LA8.out LAB.out a ca (HJ5.out.recs (a, la) (by simp)).bks).mono ?_
  rintro e w6 ⟨rfl, h6, k6⟩
  rw [show (Rck.new nn m).sput c 0 4 la = (none, R1) from HPUT.out] at h6 ⊢
  simp only [oErr]
  have HJ6 := hid (HJ5.out.keep h6 k6)
  have HK6 := hid (show Only (fun b => ¬ S0 b) V4 w6 from Only.trans (Only.refl _ V4) k6 (fun b _ hb q => hb (.inl q)))
  clear h6 k6 HJ5
  go_wp2
  refine hQ2 _ _ HK6.out ?_
  clear hQ2 Q2
  rw [wpS]
  simp only [opsAt, List.map_cons, List.map_nil, Array.getD_eq_getD_getElem?, List.getElem?_toArray, List.getElem?_cons_succ, List.getElem?_cons_zero, Option.getD_some]
  iterate 2 ((refine wpSQ_step (fun K hK => ?_); go_simp; first | (refine hK _ ?_; clear hK K) | (apply Exists.intro; refine ⟨fun x => ?_, hK _ ?_⟩; (fail); clear hK K)))
  refine wpSQ_nil ?_
  intro V6 hV6
  obtain ⟨S6, hS6⟩ : ∃ S, wideS S0 V3 w4 = S := ⟨_, rfl⟩
  have HJ7 := hid ((hS6 ▸ HJ6.out.more hV6 : SE w V6 S6 r R1 g c [(a, la)]).drop (L' := []) (fun p hp => by cases hp))
  clear hV6 HJ6 hS6 HK6 HJ3
  have HU := hid HJ7.out.under
  have HL0 : Hid (LookI R1 c m (updS (fun _ => none) 0 (4, la)) (fun d => B.testBit d) 0) := hid (LookI.start HSR1.out (fun d _ => rfl) (fun d _ => by simp [noB]))
  have HWN := hid (fun i => show (List.range (i + 1)).filter (fun d => !B.testBit d) = (List.range i).filter (fun d => !B.testBit d) ++ if B.testBit i then [] else [i] from by
    rw [List.range_succ, List.filter_append]
    congr 1
    cases hb : B.testBit i <;> simp [hb])
  have HWL := hid (fun i => show ((List.range i).filter (fun d => !B.testBit d)).length ≤ i from by
    have := List.length_filter_le (fun d => !B.testBit d) (List.range i); simpa using this)
  have HSEC : Hid ((1 : Int) + kk = (ssecN c 0 : Nat)) := hid (by unfold ssecN; rw [HSL.out, HKT.out]; simp)
  have hwk : wrap64 (1 + (kk : Int)) = ((ssecN c 0 : Nat) : Int) := by rw [← HSEC.out]; unfold wrap64; omega
  obtain ⟨want, hwant⟩ : ∃ want : Nat → List Nat, (fun i => (List.range i).filter (fun d => !B.testBit d)) = want := ⟨_, rfl⟩
  have HW0 := hid (show want 0 = [] from hwant ▸ rfl)
  have HWE := hid (show ∀ i, want i = (List.range i).filter (fun d => !B.testBit d) from fun i => hwant ▸ rfl)
  replace HWN := hid (show ∀ i, want (i + 1) = want i ++ if B.testBit i then [] else [i] from fun i => by rw [HWE.out, HWE.out]; exact HWN.out i)
  replace HWL := hid (show ∀ i, (want i).length ≤ i from fun i => by rw [HWE.out]; exact HWL.out i)
  clear hwant
  go_wp2
  go_loopw [15, 14] (fun t v wr => ∃ i : Nat, t = .int .i64 i ∧ i ≤ nn ∧ ∃ R S, LookI R c m (updS (fun _ => none) 0 (4, la)) (fun d => B.testBit d) i ∧ SE w wr S r R g c [] ∧ OwnInts wr V6.heap.size v (want i) ∧ (∀ b, v.ownBlock = some b → S b) ∧ V6.heap.size ≤ wr.heap.size) (fun t _ _ => nn - (intOf t).toNat)
  case atStart => exact ⟨0, rfl, by omega, R1, S6, HL0.out, HJ7.out, HW0.out ▸ OwnInts.nil _ _, (fun b hb => by cases hb), Nat.le_refl _⟩
  case round =>
    clear HL0 HJ7
    obtain ⟨i, rfl, hi, R, S, hlk, hj, hv, hvs, hsz⟩ := hrel
    have HJR := hid hj; have HLK := hid hlk; have HV := hid hv; have HVS := hid hvs; have HSZ := hid hsz
    have c2 : wr.cell? ⟨g, 2, none⟩ = some (.int .i64 nn) := (cell_at hj.cfg).trans (by rw [Cfg.A2, HN.out])
    have c1 : wr.cell? ⟨g, 1, none⟩ = some (.int .i64 kk) := (cell_at hj.cfg).trans (by rw [Cfg.A1, HK.out])
    clear hj hlk hv hvs hsz
    by_cases hlt : i < nn
    · have HLTN := hid (show i < c.n.toNat by rw [HNT.out]; exact hlt)
      have hbit := gone_bit B i HB64.out
      have HWS := hid (HWN.out i)
      rcases hb : B.testBit i with _ | _
      · rw [hb] at hbit
        rw [hb] at HWS
        have HNX := hid (HLK.out.skip hb)
        obtain ⟨v2, w2, hap, hv2, hj2, hs2, hsz2⟩ := HJR.out.push HU.out HV.out HVS.out i (by have := HWL.out i; omega) HSZ.out
        have HAP := hid hap
        have HV2 : Hid (OwnInts w2 V6.heap.size v2 (want (i + 1))) := hid (by rw [HWS.out]; exact hv2)
        have HJ2 := hid hj2; have HS2 := hid hs2
        have HSZ2 := hid (Nat.le_trans HSZ.out hsz2)
        clear hb hap hv2 hj2 hs2 hsz2 c1
        go_wp2_with (at_builtin; refine wpList_append_run rfl _ _ _ rfl _ _ _ _ rfl rfl HAP.out ?_)
        go_roundw
        case rel => exact ⟨i + 1, by go_num, by omega, R, _, HNX.out, HJ2.out, HV2.out, HS2.out, HSZ2.out⟩
        case measure => simp [intOf]; omega
      · rw [hb] at hbit
        rw [hb] at HWS
        have HV2 := hid (show OwnInts wr V6.heap.size _ (want (i + 1)) from by rw [HWS.out]; simpa using HV.out)
        have HHB := hid hb
        clear hb
        by_cases hli : i < len
        · obtain ⟨ib, ioff, vi, rfl, hci⟩ := HI.out i hli
          have ci : wr.cell? ⟨ib, ioff + i, none⟩ = some (.int .i64 vi) := Ext.cell HJR.out.ext hci
          have i0 : (0 : Int) ≤ (i : Int) := by omega
          have i1 : (i : Int) < (len : Int) := by omega
          clear hci
          by_cases hm : vi.tmod 2 = 0
          · have hm' : (vi.tmod 2 == 0) = true := by simp [hm]
            have HM2 := hid hm
            clear hm
            go_wp2_with fail
            refine (at_replace HJR.out.rack i).mono ?_
            rintro e w8 ⟨rfl, h8, k8⟩
            have HJ8 := hid (HJR.out.keep h8 k8)
            have HV8 := hid (HV2.out.only k8 (fun b hb q => q (HVS.out b hb)))
            have HSZ8 := hid (Nat.le_trans HSZ.out k8.size)
            have HNX := hid (HLK.out.replace HLTN.out HHB.out)
            clear h8 k8
            go_wp2
            go_roundw
            case rel => exact ⟨i + 1, by go_num, by omega, _, S, HNX.out, HJ8.out, HV8.out, HVS.out, HSZ8.out⟩
            case measure => simp [intOf]; omega
          · have hm' : (vi.tmod 2 == 0) = false := by simpa using hm
            have HM2 := hid hm
            clear hm
            go_wp2_with fail
            refine (at_rot HJR.out.rack i (1 + (kk : Int)) i 1 (by omega)).mono ?_
            rintro e w8 ⟨rfl, h8, k8⟩
            rw [HSEC.out] at h8 ⊢
            generalize R.rotOk i (ssecN c 0 : Nat) i 1 = bb at *
            have HJ8 := hid (HJR.out.keep h8 k8)
            have HV8 := hid (HV2.out.only k8 (fun b hb q => q (HVS.out b hb)))
            have HSZ8 := hid (Nat.le_trans HSZ.out k8.size)
            have HNX := hid (HLK.out.rot HLTN.out HHB.out HN6.out (updS_at (fun _ => none) 0 ((4 : Int), la)))
            clear h8 k8
            go_wp2
            go_roundw
            case rel => exact ⟨i + 1, by go_num, by omega, _, S, HNX.out, HJ8.out, HV8.out, HVS.out, HSZ8.out⟩
            case measure => simp [intOf]; omega
        · have i1 : ¬ (i : Int) < (len : Int) := by omega
          go_wp2_with fail
          refine (at_rot HJR.out.rack i (1 + (kk : Int)) i 1 (by omega)).mono ?_
          rintro e w8 ⟨rfl, h8, k8⟩
          rw [HSEC.out] at h8 ⊢
          generalize R.rotOk i (ssecN c 0 : Nat) i 1 = bb at *
          have HJ8 := hid (HJR.out.keep h8 k8)
          have HV8 := hid (HV2.out.only k8 (fun b hb q => q (HVS.out b hb)))
          have HSZ8 := hid (Nat.le_trans HSZ.out k8.size)
          have HNX := hid (HLK.out.rot HLTN.out HHB.out HN6.out (updS_at (fun _ => none) 0 ((4 : Int), la)))
          clear h8 k8
          go_wp2
          go_roundw
          case rel => exact ⟨i + 1, by go_num, by omega, _, S, HNX.out, HJ8.out, HV8.out, HVS.out, HSZ8.out⟩
          case measure => simp [intOf]; omega
    · obtain rfl : nn = i := by omega
      have HOUT : Hid (R.slook c 0 = (if want nn = [] then 0 else 4, (want nn).map fun d => (d, sfrag c la d))) := hid (by
        have := (HNT.out ▸ HLK.out : LookI R c m _ _ c.n.toNat).out (updS_at _ _ _)
        rw [HNT.out] at this
        rw [HWE.out]
        exact this)
      have HWLN := hid (HWL.out nn)
      generalize want nn = wl at *
      clear HWN HWL HW0 HWE c1
      go_wp2_with (guard_target = wpList _ _ _ ({ dst := some _, op := Op.load _ _, type := _, pos := _, after := _, guard := none } :: _) _ _; refine wpList_load_agg rfl 23 _ rfl ⟨g, 0, none⟩ rfl (Cfg.A c) (cfg_agg c) (agg_cells HJR.out.cfg) ?_)
      refine (slook_c HJR.out.rack c 0).mono ?_
      rintro e w9 ⟨pv, rfl, hlk⟩
      obtain ⟨G, hG⟩ : ∃ G : Int, (if wl = [] then 0 else 4) = G := ⟨_, rfl⟩
      have HGE := hid hG
      rw [HOUT.out, hG] at hlk ⊢
      simp only at hlk ⊢
      clear hG
      obtain ⟨ap, cp, rfl, hpa⟩ := hlk.parts
      have HX9 := hid (Ext.trans HJR.out.ext hlk.ext)
      have HV9 := hid (HV.out.ext hlk.ext)
      have HPA := hid (show wl ≠ [] → ∃ gp, ap = some ⟨gp, 0, none⟩ ∧ PartsAt w9 gp 108 (wl.map fun d => (d, sfrag c la d)) from fun hn => hpa (by simpa using hn))
      simp only [List.length_map]
      clear hlk hpa
      have HLW := hid (show wl.length ≤ 6 by have := HWLN.out; omega)
      go_wp2
      go_loopw [93, 18] (fun t v wr => ∃ j : Nat, t = .int .i64 j ∧ j ≤ wl.length ∧ OwnInts wr w9.heap.size v (wl.take j) ∧ Ext w9 wr) (fun t _ _ => wl.length - (intOf t).toNat)
      case atStart => exact ⟨0, rfl, by omega, OwnInts.nil _ _, Ext.refl _⟩
      case round =>
        obtain ⟨j, rfl, hj, hv, hx⟩ := hrel
        by_cases hlt : j < wl.length
        · have j0 : (0 : Int) ≤ (j : Int) := by omega
          have j1 : (j : Int) < (wl.length : Int) := by omega
          have j8 : (wl.length : Int) ≤ 6 := by have := HLW.out; omega
          obtain ⟨d, hd⟩ : ∃ d, wl[j]? = some d := ⟨wl[j], List.getElem?_eq_getElem hlt⟩
          obtain ⟨gp, rfl, hpt⟩ := HPA.out (fun q => by rw [q] at hlt; simp at hlt)
          obtain ⟨q0, pb, po, pc, q1, q2⟩ := hpt j (d, sfrag c la d) (by rw [List.getElem?_map, hd]; rfl)
          obtain ⟨A, hA⟩ : ∃ A : Array Value, #[.int .i64 d, .slice (some ⟨pb, po, none⟩) 108 pc] = A := ⟨_, rfl⟩
          have HAE := hid hA
          have HAS := hid (show A.size = 2 from hA ▸ rfl)
          have HA1 := hid (show ∀ u ∈ A.toList, u.oneCell' = true from hA ▸ by intro u hu; simp at hu; rcases hu with rfl | rfl <;> rfl)
          obtain ⟨W1, hW1⟩ : ∃ W, wr.alloc (.cells A 57) = W := ⟨_, rfl⟩
          obtain ⟨pg, hpg⟩ : ∃ g, wr.heap.size = g := ⟨_, rfl⟩
          have hlA : ∀ q u, A.toList[q]? = some u → wr.cell? ((⟨gp, j * 2, none⟩ : Addr).add q) = some u := by
            intro q u hu
            have e : (⟨gp, j * 2, none⟩ : Addr).add q = ⟨gp, j * 2 + q, none⟩ := by unfold Addr.add; split <;> simp_all
            rw [e]
            rw [← hA] at hu
            rcases q with _ | _ | q
            · rw [show j * 2 + 0 = j * 2 from rfl, Ext.cell hx q0]; simpa using hu
            · rw [show j * 2 + (0 + 1) = j * 2 + 1 from rfl, Ext.cell hx q1]; simpa using hu
            · simp at hu
          have HLA2 := hid hlA
          have x1 : Ext wr W1 := hW1 ▸ (Ext.refl wr).alloc _
          have P1 := (show W1.heap[pg]? = some (.cells A 57 (0, 0)) from by rw [← hW1, ← hpg]; exact block_alloc)
          have p0 : W1.cell? ⟨pg, 0, none⟩ = some (.int .i64 d) := (cell_at P1).trans (by rw [← hA]; rfl)
          have hbs : (wr.alloc (.cells #[.int .i64 0, .slice none 0 0] 57)).heap[wr.heap.size]? = some (.cells #[.int .i64 0, .slice none 0 0] 57 (0, 0)) := block_alloc
          obtain ⟨v', W2, hap, hv2, ho2, hx2⟩ := (hv.ext x1).push d (by have := HLW.out; rw [List.length_take]; omega) (Nat.le_trans hx.size x1.size)
          have p1 : W2.cell? ⟨pg, 1, none⟩ = some (.slice (some ⟨pb, po, none⟩) 108 pc) := (cell_at (ho2.at P1 fun q => by have := (hv.lt _ q).2; omega)).trans (by rw [← hA]; rfl)
          have HAP := hid hap
          have HV2 := hid (show OwnInts W2 w9.heap.size v' (wl.take (j + 1)) from by
            have e : wl.take (j + 1) = wl.take j ++ [d] := by rw [List.take_add_one, hd]; rfl
            rw [e]; exact hv2)
          have HX2 := hid (hx2 w9 (Nat.le_refl _) (Ext.trans hx x1))
          have HW1 := hid hW1; have HPG := hid hpg
          clear hap hv2 ho2 hx2 hv hx x1 P1 hW1 hlA hA hd hpt q0 q1 q2 hpg
          go_wp2_with (first
            | (guard_target = wpList _ _ _ ({ dst := some _, op := Op.load _ _, type := _, pos := _, after := _, guard := none } :: _) _ _; refine wpList_load_agg rfl 57 _ rfl ⟨gp, j * 2, none⟩ rfl A (by rw [HAS.out]; exact aggPart) HLA2.out ?_)
            | (guard_target = wpList _ _ _ ({ dst := none, op := Op.store _ _ _, type := _, pos := _, after := _, guard := none } :: _) _ _; have hb0 := hbs; clear hbs; refine wpList_store_whole rfl 57 _ _ rfl wr.heap.size rfl A _ rfl 57 (by rw [HAS.out]; exact aggPart) hb0 (by rw [HAS.out]; rfl) HA1.out ?_; rw [setRow_alloc, HW1.out, HPG.out])
            | (at_builtin; refine wpList_append_run rfl _ _ _ rfl _ _ _ _ rfl rfl HAP.out ?_))
          go_roundw
          case rel => exact ⟨j + 1, by go_num, by omega, HV2.out, HX2.out⟩
          case measure => simp [intOf]; omega
        · obtain rfl : wl.length = j := by omega
          have hv2 := hv
          rw [List.take_length] at hv2
          obtain ⟨ga, gc, rfl, _, hga, _⟩ := hv2.at
          obtain ⟨wa, wc, rfl, _, hwa, _⟩ := (HV9.out.ext hx).at
          have HGA := hid hga; have HWA := hid hwa
          have HX := hid (Ext.trans HX9.out hx)
          clear hv hv2 hx hga hwa HV9 HV HVS HPA
          go_wp2_with (go_at_call 21; fail)
          refine (sameint_c wl (by have := HLW.out; omega) ga wa gc wc _ HGA.out HWA.out).mono ?_
          rintro e w11 ⟨rfl, x11⟩
          have HX11 := hid (Ext.trans HX.out x11)
          clear x11
          by_cases hwl : wl = []
          · obtain rfl : G = 0 := by rw [← HGE.out, if_pos hwl]
            subst hwl
            simp only [List.length_nil]
            go_wp2_with (go_at_call 3; fail)
            refine (stripeRuns_c _).mono ?_
            rintro e w12 ⟨rfl, x12⟩
            have HX12 := hid (Ext.trans HX11.out x12)
            clear x12
            go_wp2
            go_ret
            exact ⟨rfl, HX12.out⟩
          · obtain rfl : G = 4 := by rw [← HGE.out, if_neg hwl]
            have hl0 : (0 : Int) < (wl.length : Int) := by
              have : wl.length ≠ 0 := fun q => hwl (List.length_eq_zero_iff.1 q)
              omega
            clear hwl
            go_wp2_with (go_at_call 3; fail)
            refine (stripeRuns_c _).mono ?_
            rintro e w12 ⟨rfl, x12⟩
            have HX12 := hid (Ext.trans HX11.out x12)
            clear x12
            go_wp2
            go_ret
            exact ⟨rfl, HX12.out⟩
end Go.Proofs.Ytkofmabonpbegaa

/- The statement StripeLook: for every input the call of stavelaw's StripeLook answers true, and its arguments read behind it as they read before. No condition. -/
namespace Go.Proofs.Ytkofmabonpbegaa.stripeLook
open Go.ChangeShapes Go.WideShapes Go.ChangeAt Go.RowKit
open Go.ChangeMaps (open_string shut_string)
set_option linter.unusedVariables false

theorem own : ownKnob Try.prog.godebug = none := by kernel_rfl
theorem laidOut : laidOutB Try.prog = true := by kernel_rfl

theorem walk (a0 : Int) (a1 : Int) (a2 : Int) (a3 : Int) (a4 : Option Addr) (len4 cap4 : Nat) (z4 : List Int) (w : World) (w0 : (Lit.int .i64 a0).wf = true) (w1 : (Lit.int .i64 a1).wf = true) (w2 : (Lit.int .i64 a2).wf = true) (w3 : (Lit.int .u64 a3).wf = true) (w4 : IsRow .i64 w a4 len4 cap4 z4) :
    Calls Try.prog 5 #[.int .i64 a0, .int .i64 a1, .int .i64 a2, .int .u64 a3, .slice a4 len4 cap4] w fun e w' => e = .returned (.bool true) ∧ Below w.heap.size w w' :=
  (stripeLook_c a0 a1 a2 a3 a4 len4 cap4 z4 w w0 w1 w2 w3 w4).mono fun _ _ ⟨he, hx⟩ => ⟨he, hx.below⟩

set_option maxRecDepth 100000 in
theorem lifted (os : Os) (started : os.Started) (H : Type) (enc : TypeId × Value → H) :
    ReturnsInHanded {} Try.checked os 5 .any (Rows.stripeLookSpec.pre6 enc Try.prog Try.f5 Rows.stripeLookRow.domain false) (Rows.stripeLookSpec.post enc Try.prog Try.f5 false true false false) := by
  refine returnsInHanded_of_change (C := Try.checked) own started (by kernel_rfl) Try.func5
    (ChangeSpec.witness6 (enc := enc) (C := Try.checked) false ⟨#[], #[.int .i64 0, .int .i64 0, .int .i64 0, .int .u64 0, .slice none 0 0], []⟩ 8 (by kernel_rfl) (by kernel_rfl) (by kernel_rfl) (by kernel_rfl)) ?_
  intro W base args ds gs before hval0 hW hcnd _
  have hval : ∀ (j : Nat) t v, Try.f5.params[j]? = some t → args[j]? = some v → Value.okWide Try.prog W .any base t v := hval0
  have hW' := hW
  obtain ⟨p, q, hA0, hV, rfl, hfz, hnd⟩ := hW
  have hA : DataW.TrodAll enc Try.prog W 0 (fun _ => true) true Try.f5.params.toList args.toList ds p := hA0
  rw [Try.params5] at hA hval
  obtain ⟨v0, vs0, d0, ds0, p0, q0, hargs, rfl, rfl, h0, r0⟩ := trodAll_cons hA
  obtain ⟨v1, vs1, d1, ds1, p1, q1, rfl, rfl, rfl, h1, r1⟩ := trodAll_cons r0
  obtain ⟨v2, vs2, d2, ds2, p2, q2, rfl, rfl, rfl, h2, r2⟩ := trodAll_cons r1
  obtain ⟨v3, vs3, d3, ds3, p3, q3, rfl, rfl, rfl, h3, r3⟩ := trodAll_cons r2
  obtain ⟨v4, vs4, d4, ds4, p4, q4, rfl, rfl, rfl, h4, r4⟩ := trodAll_cons r3
  obtain ⟨rfl, rfl, rfl⟩ := trodAll_nil r4
  obtain rfl : args = #[v0, v1, v2, v3, v4] := by cases args; simp_all
  obtain ⟨rfl, rfl⟩ := trodVars_none hV
  obtain ⟨a0, rfl, rfl, rfl, w0⟩ := open_int Try.underlying3 (hval 0 3 v0 rfl rfl) h0
  obtain ⟨a1, rfl, rfl, rfl, w1⟩ := open_int Try.underlying3 (hval 1 3 v1 rfl rfl) h1
  obtain ⟨a2, rfl, rfl, rfl, w2⟩ := open_int Try.underlying3 (hval 2 3 v2 rfl rfl) h2
  obtain ⟨a3, rfl, rfl, rfl, w3⟩ := open_int Try.underlying51 (hval 3 51 v3 rfl rfl) h3
  obtain ⟨a4, len4, cap4, rfl⟩ := okWide_slice Try.underlying52 (hval 4 52 v4 rfl rfl)
  have k4 := h4
  have lt4 : ∀ x ∈ p4, x.block < W.heap.size := by obtain ⟨m, hm⟩ := k4; exact DataW.trod_lt m _ _ _ hm
  obtain ⟨z4, w4⟩ : ∃ zs, IsRow .i64 W a4 len4 cap4 zs := by
    obtain ⟨fuel, hf⟩ := h4
    rcases open_ints Try.underlying52 Try.underlying3 (by kernel_rfl) hf with ⟨hcs, _⟩ | ⟨x, l, c, zs, hcs, _, hl, hm, hz, _, hcell, hwz⟩
    · simp [Value.cells] at hcs
      obtain ⟨rfl, rfl, rfl⟩ := hcs
      exact ⟨[], .inl ⟨rfl, rfl, rfl, rfl⟩⟩
    · simp [Value.cells] at hcs
      obtain ⟨rfl, rfl, rfl⟩ := hcs
      exact ⟨zs, .inr ⟨_, rfl, hl, hm, by simpa using hz, hcell, hwz⟩⟩
  clear hA0 hval0
  refine (walk a0 a1 a2 a3 a4 len4 cap4 z4 W w0 w1 w2 w3 w4).mono fun e W' ⟨he, bel⟩ => ?_
  subst he
  exact ⟨_, rfl, _, _, _, [], _, [], hW', trodAll_mk1 (shut_bool Try.underlying4 _), (trodAll_cons_mk (shut_int Try.underlying3 w0) (trodAll_cons_mk (shut_int Try.underlying3 w1) (trodAll_cons_mk (shut_int Try.underlying3 w2) (trodAll_cons_mk (shut_int Try.underlying51 w3) (trodAll_cons_mk (Below.trod laidOut (by kernel_rfl) (of_decide_eq_true (by kernel_rfl)) k4 bel lt4) trodAll_mk0))))), rfl, bel.frame _, fun h => by cases h⟩

theorem over : Rows.stripeLookRow.holds Try.pinned (OpenSpec.ofChange Rows.stripeLookSpec) :=
  OpenClaim.holds_of_wide 5 Try.f5 rfl rfl rfl rfl rfl rfl rfl ⟨rfl, rfl, rfl, rfl, rfl⟩ rfl rfl rfl rfl rfl (by kernel_rfl) Try.func5 (by kernel_rfl)
    (of_decide_eq_true (by kernel_rfl)) (by unfold Func.isWrapper; first | (rw [if_pos (by decide +kernel)]; kernel_rfl) | (rw [if_neg (by decide +kernel)]; exact ⟨rfl, rfl⟩))
    (fun os started H enc _ => lifted os started H enc)

theorem proved : Rows.StripeLookSaid := over
#print axioms proved
end Go.Proofs.Ytkofmabonpbegaa.stripeLook
