/- The statement SuperOther, as its tied card: for every input the call of stavelaw9's SuperOther answers true, and its arguments read behind it as they read before. No condition of our own. -/
/- Texts of one proof, joined: WSuperFew, SupI, OthPure, WSuperOther, LawSuperOther. -/
import Derived.Test.YtdbjojnejkklhaaDoorPartI
import Derived.Test.YtdbjojnejkklhaaDoorPartG
import Derived.Test.YtdbjojnejkklhaaDoorPartD
import Derived.Test.YtdbjojnejkklhaaDoorPartJ
import Derived.Test.YtdbjojnejkklhaaDoorCards
import Derived.Test.YtdbjojnejkklhaaDoorTie
import Derived.Test.YtdbjojnejkklhaaDoorPartC
import Derived.WalkKit
import Derived.ProofKit
import Derived.OpenShut
import Derived.ShutString
import Derived.ChangeOld
import Derived.Below
import Derived.SevenTiedAt
set_option linter.unusedVariables false
set_option linter.unusedSimpArgs false
/- The walk of SuperFew. -/
namespace Go.Proofs.YtdbjojnejkklhaaDoor
set_option linter.unusedVariables false
open Go Go.RowKit
theorem sectors_nat (c : Cfg) (h : c.Good) : ∃ m : Nat, c.sectors = (m : Int) ∧ 1 ≤ m ∧ m ≤ 128 := by
  obtain ⟨b0, b1⟩ := sectors_bd c h
  have b2 := h.st0
  have b3 := h.st1
  have e : c.sectors = 1 + c.slots * c.k + c.stripes := rfl
  refine ⟨c.sectors.toNat, ?_, ?_, ?_⟩ <;> omega
theorem n_nat (c : Cfg) (h : c.Good) : ∃ n : Nat, c.n = (n : Int) ∧ 1 ≤ n ∧ n ≤ 8 := by
  have b1 := h.k0
  have b2 := h.k1
  have b3 := h.n1
  refine ⟨c.n.toNat, ?_, ?_, ?_⟩ <;> omega
theorem few_bit (B i : Nat) (hB : B < 18446744073709551616) : (Go.bits .and .u64 ((B : Int) / 2 ^ i) 1 == 0) = !Few.bit B i := by
  have e1 : ((B : Int) / 2 ^ i) = ((B / 2 ^ i : Nat) : Int) := by push_cast; rfl
  have h1 : B / 2 ^ i < 2 ^ 64 := Nat.lt_of_le_of_lt (Nat.div_le_self _ _) hB
  have e2 := u64_and_nat (B / 2 ^ i) 1 h1 (by decide)
  rw [e1, show (1 : Int) = ((1 : Nat) : Int) from rfl, e2, Nat.and_one_is_mod]
  unfold Few.bit
  rcases Nat.mod_two_eq_zero_or_one (B / 2 ^ i) with h | h <;> rw [h] <;> rfl
def FewRel (w W1 : World) (g r : Nat) (c : Cfg) (m : Nat) (P : Nat → Dsk) (i : Nat) (wr : World) : Prop :=
  ∃ R, Filled c.n.toNat m P R i ∧ RackAt (fun b => b < W1.heap.size) wr r R ∧ Ext w wr ∧ CBlk wr g c
set_option maxRecDepth 100000 in
set_option maxHeartbeats 2000000 in
theorem superFew_c (k n stripes slots G : Int) (how : Bool) (w : World) (hg : EtLaid w) (hG : (Lit.int .u64 G).wf = true) :
    Calls Tryd.prog 11 #[.int .i64 k, .int .i64 n, .int .i64 stripes, .int .i64 slots, .int .u64 G, .bool how] w fun e w' => e = .returned (.bool true) ∧ Ext w w' := by
  have HG := hid hg
  have hzc := zero_cfg
  have HCS := hid Cfg.A_size
  have hbz := built_cfg0
  obtain ⟨q0, q1⟩ := bounds_u64 hG
  obtain ⟨B, rfl⟩ := Int.eq_ofNat_of_zero_le q0
  have HB64 : Hid (B < 18446744073709551616) := hid (by omega)
  clear hg hG q0 q1
  go_enter Tryd.func11, Tryd.ntmps11
  go_wp2_with fail
  refine (kconfig_c k n stripes slots w).mono ?_
  rintro e w1 ⟨rfl, x1⟩
  have HGD := hid (keepCfg_good k n stripes slots)
  generalize keepCfg k n stripes slots = c at *
  obtain ⟨W1, hW1⟩ : ∃ W, w1.alloc (.cells (Cfg.A c) 59) = W := ⟨_, rfl⟩
  have X1 := hid (show Ext w W1 from hW1 ▸ x1.alloc _)
  have HC := hid (show W1.heap[w1.heap.size]? = some (.cells (Cfg.A c) 59 (0, 0)) from hW1 ▸ heap_alloc_new _ _)
  have hbs : (w1.alloc (.cells (Cfg.A Cfg.zero) 59)).heap[w1.heap.size]? = some (.cells (Cfg.A Cfg.zero) 59 (0, 0)) := block_alloc
  clear x1
  go_wp2_with (refine wpList_store_whole rfl 59 _ _ rfl w1.heap.size rfl (Cfg.A c) _ rfl 59 ?_ hbs ?_ ?_ ?_; (rw [HCS.out]; exact aggCfg); (rw [HCS.out, HCS.out]); exact Cfg.A_one _)
  rw [setRow_alloc, hW1]
  clear hbs hW1
  have HLT := hid (lt_of_block HC.out)
  generalize w1.heap.size = g at *
  obtain ⟨m, hm, m1, m128⟩ := sectors_nat c HGD.out
  obtain ⟨nn, hn, n1, n8⟩ := n_nat c HGD.out
  have xd : Ext W1 W1.drew := (Ext.refl W1).drew
  have lc : Hid (∀ x : SW Ext W1.drew, ∀ j v, (Cfg.A c).toList[j]? = some v → x.w.cell? ((⟨g, 0, none⟩ : Addr).add j) = some v) := hid fun x => agg_cells ((Ext.trans xd x.ext).at HC.out)
  have c2 : ∀ x : SW Ext W1.drew, x.w.cell? ⟨g, 2, none⟩ = some (.int .i64 nn) := fun x => (cell_at ((Ext.trans xd x.ext).at HC.out)).trans (by rw [Cfg.A2, hn])
  have sc : Hid (∀ x : SW Ext W1.drew, Calls Tryd.prog 35 #[.agg (Cfg.A c)] x.w fun e w'' => e = .returned (.int .i64 m) ∧ Ext x.w w'') := hid fun x => by
    have := ssectors_c c HGD.out x.w
    rw [hm] at this
    exact this
  have HM := hid hm; have HN := hid hn
  have HAG := hid (cfg_agg c)
  clear hm hn
  refine wp_region_rely_all (S := Ext) (.one [0, 1, 2, 3] 4 (.fin [5, 6, 7, 8, 9])) (by kernel_rfl) (by kernel_rfl) (fun _ _ d _ _ h => by cases d <;> exact h) ?_
  rw [wpS]
  simp only [opsAt, List.map_cons, List.map_nil, Array.getD_eq_getD_getElem?, List.getElem?_toArray, List.getElem?_cons_succ, List.getElem?_cons_zero, Option.getD_some]
  iterate 2 ((refine wpSQ_step (fun K hK => ?_); go_simp; first | (refine hK _ ?_; clear hK K) | (apply Exists.intro; refine ⟨fun x => ?_, hK _ ?_⟩; (fail); clear hK K)))
  refine wpSQ_load_agg 59 _ rfl ⟨g, 0, none⟩ rfl (Cfg.A c) rfl HAG.out lc.out ?_
  (refine wpSQ_step (fun K hK => ?_); go_simp; first | (refine hK _ ?_; clear hK K) | (apply Exists.intro; refine ⟨fun x => ?_, hK _ ?_⟩; (exact sc.out x); clear hK K))
  refine wpSQ_nil ?_
  intro V1 hV1
  refine wpS_loud fun K hK => ?_
  go_wp2_with fail
  refine (at_new nn m n1 n8 m1 m128 V1).mono ?_
  rintro e w2 ⟨r, rfl, h2, x2⟩
  go_wp2
  refine hK _ _ x2 ?_
  clear hK K
  rw [wpS]
  simp only [opsAt, List.map_cons, List.map_nil, Array.getD_eq_getD_getElem?, List.getElem?_toArray, List.getElem?_cons_succ, List.getElem?_cons_zero, Option.getD_some]
  iterate 5 ((refine wpSQ_step (fun K hK => ?_); go_simp; first | (refine hK _ ?_; clear hK K) | (apply Exists.intro; refine ⟨fun x => ?_, hK _ ?_⟩; (fail); clear hK K)))
  refine wpSQ_nil ?_
  intro V2 hV2
  have HR0 : Hid (FewRel w W1 g r c m (Few.P c m B how) 0 V2) := hid ⟨Rck.new nn m, by
    rw [show c.n.toNat = nn by have := HN.out; omega]; exact Filled.start nn m _ n1, (h2.less fun b hb => Nat.lt_of_lt_of_le hb (Ext.trans xd hV1).size).ext hV2, Ext.trans X1.out (Ext.trans xd (Ext.trans hV1 (Ext.trans x2 hV2))), (Ext.trans xd (Ext.trans hV1 (Ext.trans x2 hV2))).at HC.out⟩
  clear h2 x2 hV1 hV2 lc c2 sc xd
  go_wp2
  go_loopw [16, 17] (fun u v wr => ∃ i : Nat, v = .int .i64 i ∧ u = .int .i64 (Few.left B i) ∧ i ≤ nn ∧ FewRel w W1 g r c m (Few.P c m B how) i wr) (fun _ v _ => nn - (intOf v).toNat)
  case atStart => exact ⟨0, rfl, rfl, by omega, HR0.out⟩
  case round =>
    clear HR0
    obtain ⟨i, rfl, rfl, hi, R, hst, hra, hx, hc⟩ := hrel
    have HX := hid hx; have HRA := hid hra; have HCW := hid hc
    have hlf := Few.left_le B i
    have c2 : wr.cell? ⟨g, 2, none⟩ = some (.int .i64 nn) := (cell_at hc).trans (by rw [Cfg.A2, HN.out])
    clear hx hra hc
    by_cases hlt : i < nn
    · have i0 : (0 : Int) ≤ (i : Int) := by omega
      have i1 : (i : Int) < (nn : Int) := by omega
      have i8 : (i : Int) < 8 := by omega
      have hd : i < c.n.toNat := by have := HN.out; omega
      have hB := Few.B_ok c m i
      obtain ⟨R', hw, hst'⟩ := (hst.fill hd).superPut rfl HGD.out (by rw [HM.out]; omega) hd ⟨Dsk.new_len m, rfl⟩
      have HW := hid hw
      have HST : Hid (Fill c.n.toNat m (Few.P c m B how) R' i (Few.B c m i)) := hid hst'
      have hP : Few.P c m B how i = if Few.bit B i then (if how then (Few.B c m i).die else (Few.B c m i).rotted 0 i 7) else Few.B c m i := rfl
      have hL : Few.left B (i + 1) = Few.left B i + if Few.bit B i then 0 else 1 := rfl
      have hbit := few_bit B i HB64.out
      clear hst hw hst'
      go_wp2_with (refine wpList_load_agg rfl 59 _ rfl ⟨g, 0, none⟩ rfl (Cfg.A c) HAG.out (agg_cells HCW.out) ?_)
      refine (sput_c HRA.out c i).mono ?_
      rintro e w3 ⟨rfl, h3, k3⟩
      rw [HW.out] at h3 ⊢
      simp only [oErr]
      have H3 := hid h3
      have X3 := hid (Keeps.ext HX.out k3 fun q hq => Nat.lt_of_lt_of_le hq X1.out.size)
      have HC3 := hid (k3.at HCW.out fun q => q HLT.out)
      clear h3 k3
      rcases hb : Few.bit B i with _ | _
      · rw [hb] at hbit hL
        simp only [Bool.not_false, Bool.false_eq_true, if_false] at hbit hL
        have HL := hid hL
        have HF : Hid (FewRel w W1 g r c m (Few.P c m B how) (i + 1) w3) := hid ⟨R', by
          have := HST.out
          have e : Few.P c m B how i = Few.B c m i := by rw [hP, hb]; rfl
          rw [← e] at this
          exact this.filled, H3.out, X3.out, HC3.out⟩
        clear hL hP hb hB
        go_wp2
        go_roundw
        case rel => exact ⟨i + 1, by go_num, by rw [HL.out]; go_num, by omega, HF.out⟩
        case measure => simp [intOf]; omega
      · rw [hb] at hbit hL
        simp only [Bool.not_true, if_true, Nat.add_zero] at hbit hL
        have HL := hid hL
        rcases how with _ | _
        · have HF : Hid (∀ w4, RackAt (fun b => b < W1.heap.size) w4 r (R'.rot i 0 i 7) → Keeps (fun b => b < W1.heap.size) w3 w4 → FewRel w W1 g r c m (Few.P c m B false) (i + 1) w4) := hid fun w4 h4 k4 => ⟨_, by
            have := HST.out.rot hd hB i 7 (by omega) (by omega) m1
            have e : Few.P c m B false i = (Few.B c m i).rotted 0 i 7 := by rw [hP, hb]; rfl
            rw [← e] at this
            exact this.filled, h4, Keeps.ext X3.out k4 fun q hq => Nat.lt_of_lt_of_le hq X1.out.size, k4.at HC3.out fun q => q HLT.out⟩
          clear hL hP hb hB
          go_wp2_with fail
          refine (at_rot H3.out i 0 i 7 (by omega)).mono ?_
          rintro e w4 ⟨rfl, h4, k4⟩
          obtain ⟨b6, hb6⟩ : ∃ b, R'.rotOk i 0 i 7 = b := ⟨_, rfl⟩
          rw [hb6]
          have HF4 := hid (HF.out w4 h4 k4)
          clear hb6 h4 k4 HF
          go_wp2
          go_roundw
          case rel => exact ⟨i + 1, by go_num, by rw [HL.out], by omega, HF4.out⟩
          case measure => simp [intOf]; omega
        · have HF : Hid (∀ w4, RackAt (fun b => b < W1.heap.size) w4 r (R'.die i) → Keeps (fun b => b < W1.heap.size) w3 w4 → FewRel w W1 g r c m (Few.P c m B true) (i + 1) w4) := hid fun w4 h4 k4 => ⟨_, by
            have := HST.out.die hd hB.1
            have e : Few.P c m B true i = (Few.B c m i).die := by rw [hP, hb]; rfl
            rw [← e] at this
            exact this.filled, h4, Keeps.ext X3.out k4 fun q hq => Nat.lt_of_lt_of_le hq X1.out.size, k4.at HC3.out fun q => q HLT.out⟩
          clear hL hP hb hB
          go_wp2_with fail
          refine (at_die H3.out i).mono ?_
          rintro e w4 ⟨rfl, h4, k4⟩
          obtain ⟨b6, hb6⟩ : ∃ b, R'.has i = b := ⟨_, rfl⟩
          rw [hb6]
          have HF4 := hid (HF.out w4 h4 k4)
          clear hb6 h4 k4 HF
          go_wp2
          go_roundw
          case rel => exact ⟨i + 1, by go_num, by rw [HL.out], by omega, HF4.out⟩
          case measure => simp [intOf]; omega
    · obtain rfl : nn = i := by omega
      have hnn : c.n.toNat = nn := by have := HN.out; omega
      rw [hnn] at hst
      have hfind := Few.find (c := c) HGD.out (m := m) (G := B) (how := how) (by rw [HM.out]; omega) (R := R) (by rw [hnn]; exact hst)
      rw [hnn] at hfind
      have c1 : wr.cell? ⟨g, 1, none⟩ = some (.int .i64 c.k) := (cell_at HCW.out).trans (Cfg.A1 c)
      have hk0 := HGD.out.k0
      generalize Few.left B nn = L at *
      by_cases hL : c.k ≤ (L : Int)
      · rw [if_pos hL] at hfind
        have HF := hid hfind
        clear hst hfind hnn
        go_wp2_with fail
        refine (sfind_c HRA.out).mono ?_
        rintro e w3 ⟨rfl, x3⟩
        rw [HF.out]
        simp only [oErr]
        have X4 := hid (Ext.trans HX.out (x3.alloc (.cells (Cfg.A c) 59)))
        have HC4 := hid (Ext.at (x3.alloc (.cells (Cfg.A c) 59)) HCW.out)
        have HD4 : Hid ((w3.alloc (.cells (Cfg.A c) 59)).heap[w3.heap.size]? = some (.cells (Cfg.A c) 59 (0, 0))) := hid block_alloc
        have hbs : (w3.alloc (.cells (Cfg.A Cfg.zero) 59)).heap[w3.heap.size]? = some (.cells (Cfg.A Cfg.zero) 59 (0, 0)) := block_alloc
        have HE := hid (cfg_eql c c)
        rw [Cfg.eqB_self] at HE
        have c3 : ((w3.alloc (.cells (Cfg.A Cfg.zero) 59)).setRow w3.heap.size (Cfg.A c)).cell? ⟨g, 1, none⟩ = some (.int .i64 c.k) := by rw [setRow_alloc]; exact (cell_at HC4.out).trans (Cfg.A1 c)
        clear x3 c1 c2
        go_wp2_with (first
          | (refine wpList_store_whole rfl 59 _ _ rfl w3.heap.size rfl (Cfg.A c) _ rfl 59 ?_ hbs ?_ ?_ ?_; (rw [HCS.out]; exact aggCfg); (rw [HCS.out, HCS.out]); exact Cfg.A_one _)
          | (rw [setRow_alloc]; refine wpListG_load_agg 59 _ rfl ⟨w3.heap.size, 0, none⟩ rfl (Cfg.A c) rfl (cfg_agg c) (agg_cells HD4.out) ?_)
          | (refine wpListG_load_agg 59 _ rfl ⟨g, 0, none⟩ rfl (Cfg.A c) rfl (cfg_agg c) (agg_cells HC4.out) ?_)
          | (refine wpListG_eql .eql 59 _ _ _ rfl (Cfg.A c) (Cfg.A c) rfl rfl (.bool true) rfl (cfg_guard _ _ _ _ _ _) (HE.out _) ?_))
        clear c3 hbs
        refine (superRuns_c _ (HG.out.only X4.out (fun x => x))).mono ?_
        rintro e w9 ⟨rfl, x9⟩
        have X9 := hid (Ext.trans X4.out x9)
        clear x9
        go_wp2
        go_ret
        exact ⟨rfl, X9.out⟩
      · rw [if_neg hL] at hfind
        have HF := hid hfind
        clear hst hfind hnn
        go_wp2_with fail
        refine (sfind_c HRA.out).mono ?_
        rintro e w3 ⟨rfl, x3⟩
        rw [HF.out]
        simp only [oErr]
        have X4 := hid (Ext.trans HX.out (x3.alloc (.cells (Cfg.A Cfg.zero) 59)))
        have HC4 := hid (Ext.at (x3.alloc (.cells (Cfg.A Cfg.zero) 59)) HCW.out)
        have HD4 : Hid ((w3.alloc (.cells (Cfg.A Cfg.zero) 59)).heap[w3.heap.size]? = some (.cells (Cfg.A Cfg.zero) 59 (0, 0))) := hid block_alloc
        have hbs : (w3.alloc (.cells (Cfg.A Cfg.zero) 59)).heap[w3.heap.size]? = some (.cells (Cfg.A Cfg.zero) 59 (0, 0)) := block_alloc
        have HE := hid (cfg_eql Cfg.zero Cfg.zero)
        rw [Cfg.eqB_self] at HE
        have HER : Hid ((Err.fault sSuperFind L (.no 7)).kind = 7) := hid rfl
        obtain ⟨er, hre⟩ : ∃ er, Err.fault sSuperFind L (.no 7) = er := ⟨_, rfl⟩
        rw [hre] at HER ⊢
        have c3 : ((w3.alloc (.cells (Cfg.A Cfg.zero) 59)).setRow w3.heap.size (Cfg.A Cfg.zero)).cell? ⟨g, 1, none⟩ = some (.int .i64 c.k) := by rw [setRow_alloc]; exact (cell_at HC4.out).trans (Cfg.A1 c)
        clear x3 c1 c2 hre HF
        go_wp2_with (refine wpList_store_whole rfl 59 _ _ rfl w3.heap.size rfl (Cfg.A Cfg.zero) _ rfl 59 ?_ hbs ?_ ?_ ?_; (rw [HCS.out]; exact aggCfg); (rfl); exact Cfg.A_one _)
        rw [setRow_alloc]
        clear c3 hbs
        refine (kind_err er _ (HG.out.only X4.out (fun x => x))).mono ?_
        rintro e w8 ⟨rfl, x8⟩
        rw [HER.out]
        have X8 := hid (Ext.trans X4.out x8)
        have HD8 := hid (Ext.at x8 HD4.out)
        clear x8
        go_wp2_with (first
          | (refine wpListG_load_agg 59 _ rfl ⟨w3.heap.size, 0, none⟩ rfl (Cfg.A Cfg.zero) rfl (cfg_agg _) (agg_cells HD8.out) ?_)
          | (refine wpListG_eql .eql 59 _ _ _ rfl (Cfg.A Cfg.zero) (Cfg.A Cfg.zero) rfl rfl (.bool true) rfl (cfg_guard _ _ _ _ _ _) (HE.out _) ?_))
        refine (superRuns_c _ (HG.out.only X8.out (fun x => x))).mono ?_
        rintro e w9 ⟨rfl, x9⟩
        have X9 := hid (Ext.trans X8.out x9)
        clear x9
        go_wp2
        go_ret
        exact ⟨rfl, X9.out⟩
end Go.Proofs.YtdbjojnejkklhaaDoor

/- stavekeep: a configuration with just so many stripes and slots. -/
namespace Go.Proofs.YtdbjojnejkklhaaDoor
set_option linter.unusedVariables false
open Go Go.RowKit
def keepFixed (k n stripes slots : Int) : Cfg := ⟨7, within k 1 4, within n (within k 1 4) 6, stripes, slots⟩
set_option maxRecDepth 100000 in
set_option maxHeartbeats 1000000 in
theorem kfixed_c (k n stripes slots : Int) (w : World) : Calls Tryd.prog 47 #[.int .i64 k, .int .i64 n, .int .i64 stripes, .int .i64 slots] w (KCfgPost w (keepFixed k n stripes slots)) := by
  have hzc := zero_cfg
  have HCS := hid Cfg.A_size
  have HK : Hid (keepFixed k n stripes slots = ⟨7, within k 1 4, within n (within k 1 4) 6, stripes, slots⟩) := hid rfl
  rw [HK.out]
  clear HK
  obtain ⟨a0, a1⟩ := within_bd k 1 4 (by omega)
  have HWK := hid (within_c k 1 4)
  generalize within k 1 4 = kk at *
  have hb3 := built_cfg3
  go_enter Tryd.func47, Tryd.ntmps47
  go_wp2_with fail
  refine (HWK.out _ (by omega) (by omega) (by omega)).mono ?_
  rintro e w2 ⟨rfl, rfl⟩
  generalize hst : stripes = st at *
  generalize hsl : slots = sl at *
  clear hst hsl
  have e1 : (w.alloc (.cells (Cfg.A Cfg.zero) 59)).heap.size = w.heap.size + 1 := by simp
  have hbs : ((w.alloc (.cells (Cfg.A Cfg.zero) 59)).alloc (.cells (Cfg.A Cfg.zero) 59)).heap[w.heap.size + 1]? = some (.cells (Cfg.A Cfg.zero) 59 (0, 0)) := by rw [← e1]; exact heap_alloc_new _ _
  have HB3 : Hid (Tryd.prog.built 59 [(0, .int .i64 7), (1, .int .i64 kk), (3, .int .i64 st), (4, .int .i64 sl)] = some (Cfg.A ⟨7, kk, 0, st, sl⟩)) := hid (built_cfg3 7 kk st sl)
  clear hb3
  have c1 : (((w.alloc (.cells (Cfg.A Cfg.zero) 59)).alloc (.cells (Cfg.A Cfg.zero) 59)).setRow (w.heap.size + 1) (Cfg.A ⟨7, kk, 0, st, sl⟩)).cell? ⟨w.heap.size + 1, 1, none⟩ = some (.int .i64 kk) := (cell_at (setRow_heap _ _ _ _ _ _ hbs)).trans (Cfg.A1 _)
  go_wp2_with (first
    | (refine wpList_build_eq rfl 59 _ rfl (Cfg.A ⟨7, kk, 0, st, sl⟩) ?_ ?_; (simp only [List.map_toArray, List.map_cons, List.map_nil, Act.eval]; simp only [Array.getD_eq_getD_getElem?, List.getElem?_toArray, List.getElem?_cons_succ, List.getElem?_cons_zero, Option.getD_some]; exact HB3.out))
    | (refine wpList_store_whole rfl 59 _ _ rfl (w.heap.size + 1) rfl (Cfg.A ⟨7, kk, 0, st, sl⟩) _ rfl 59 ?_ hbs ?_ ?_ ?_; (rw [HCS.out]; exact aggCfg); (rw [HCS.out, HCS.out]); exact Cfg.A_one _))
  have HO : Hid (CBlk (((w.alloc (.cells (Cfg.A Cfg.zero) 59)).alloc (.cells (Cfg.A Cfg.zero) 59)).setRow (w.heap.size + 1) (Cfg.A ⟨7, kk, 0, st, sl⟩)) (w.heap.size + 1) ⟨7, kk, 0, st, sl⟩) := hid (setRow_heap _ _ _ _ _ _ hbs)
  have HR : Hid (CBlk (((w.alloc (.cells (Cfg.A Cfg.zero) 59)).alloc (.cells (Cfg.A Cfg.zero) 59)).setRow (w.heap.size + 1) (Cfg.A ⟨7, kk, 0, st, sl⟩)) w.heap.size Cfg.zero) := hid (by
    have := (only_setRow ((w.alloc (.cells (Cfg.A Cfg.zero) 59)).alloc (.cells (Cfg.A Cfg.zero) 59)) (w.heap.size + 1) (Cfg.A ⟨7, kk, 0, st, sl⟩)).at (k := w.heap.size) (o := .cells (Cfg.A Cfg.zero) 59) (by rw [heap_alloc_old _ _ (by simp)]; exact heap_alloc_new _ _) (by omega)
    exact this)
  have HX : Hid (Ext w (((w.alloc (.cells (Cfg.A Cfg.zero) 59)).alloc (.cells (Cfg.A Cfg.zero) 59)).setRow (w.heap.size + 1) (Cfg.A ⟨7, kk, 0, st, sl⟩))) := hid (Ext.then (((Ext.refl w).alloc _).alloc _) (only_setRow _ _ _) (fun i hi => by omega))
  clear hbs c1 HB3
  generalize ((w.alloc (.cells (Cfg.A Cfg.zero) 59)).alloc (.cells (Cfg.A Cfg.zero) 59)).setRow (w.heap.size + 1) (Cfg.A ⟨7, kk, 0, st, sl⟩) = W at *
  refine (within_c n kk 6 W (by omega) (by omega) (by omega)).mono ?_
  rintro e w2 ⟨rfl, rfl⟩
  generalize within n kk 6 = nn at *
  have c2 : W.cell? ⟨w.heap.size + 1, 2, none⟩ = some (.int .i64 0) := (cell_at HO.out).trans (Cfg.A2 _)
  have f2 : W.frozen? ⟨w.heap.size + 1, 2, none⟩ = false := free_at HO.out
  have HO2 : Hid ((W.setCell ⟨w.heap.size + 1, 2, none⟩ (.int .i64 nn)).heap[w.heap.size + 1]? = some (.cells (Cfg.A ⟨7, kk, nn, st, sl⟩) 59 (0, 0))) := hid (by
    have := block_set HO.out (i := 2) (.int .i64 nn)
    rw [Cfg.A_n] at this
    exact this)
  have HR2 : Hid ((W.setCell ⟨w.heap.size + 1, 2, none⟩ (.int .i64 nn)).heap[w.heap.size]? = some (.cells (Cfg.A Cfg.zero) 59 (0, 0))) := hid ((block_set_other _ (by omega)).trans HR.out)
  have HX2 : Hid (Ext w (W.setCell ⟨w.heap.size + 1, 2, none⟩ (.int .i64 nn))) := hid (Only.setCell (F := fun _ => False) HX.out (.inl (by show _ ≤ w.heap.size + 1; omega)) _)
  go_wp2_with (first
    | (refine wpList_load_agg rfl 59 _ rfl ⟨w.heap.size + 1, 0, none⟩ rfl (Cfg.A ⟨7, kk, nn, st, sl⟩) (cfg_agg _) (agg_cells HO2.out) ?_)
    | (refine wpList_store_whole rfl 59 _ _ rfl w.heap.size rfl (Cfg.A ⟨7, kk, nn, st, sl⟩) _ rfl 59 ?_ HR2.out ?_ ?_ ?_; (rw [HCS.out]; exact aggCfg); (rw [HCS.out, HCS.out]); exact Cfg.A_one _))
  refine bodyPost_ret (results_cell_row Tryd.results47 _ _ w.heap.size _ (Cfg.A ⟨7, kk, nn, st, sl⟩) _ _ rfl (setRow_heap _ _ _ _ _ _ HR2.out) Tryd.underlying59 rfl (by rw [HCS.out]; exact aggCfg.2)) rfl ?_
  exact ⟨rfl, Ext.then HX2.out (only_setRow _ _ _) (fun i hi => by omega)⟩
end Go.Proofs.YtdbjojnejkklhaaDoor

/- A rack whose disks bear superblocks of two volumes: as plain data. No program stands here. -/
namespace Go.Proofs.YtdbjojnejkklhaaDoor
set_option linter.unusedVariables false
namespace Oth
def C (a b : Nat) : Cfg := ⟨7, a, b, 2, 1⟩
def D (a b : Nat) : Cfg := ⟨99, a, b, 2, 1⟩
theorem C_good (a b : Nat) (h1 : 1 ≤ a) (h2 : a ≤ b) (h3 : b ≤ 6) : (C a b).Good :=
  ⟨by show (1 : Int) ≤ 7; omega, by show (7 : Int) ≤ 2147483647; omega, by show (b : Int) ≤ 8; omega, by show (1 : Int) ≤ a; omega, by show (a : Int) ≤ b; omega, by show (1 : Int) ≤ 2; omega, by show (2 : Int) ≤ 64; omega, by show (1 : Int) ≤ 1; omega, by show (1 : Int) ≤ 4; omega⟩
theorem D_good (a b : Nat) (h1 : 1 ≤ a) (h2 : a ≤ b) (h3 : b ≤ 6) : (D a b).Good :=
  ⟨by show (1 : Int) ≤ 99; omega, by show (99 : Int) ≤ 2147483647; omega, by show (b : Int) ≤ 8; omega, by show (1 : Int) ≤ a; omega, by show (a : Int) ≤ b; omega, by show (1 : Int) ≤ 2; omega, by show (2 : Int) ≤ 64; omega, by show (1 : Int) ≤ 1; omega, by show (1 : Int) ≤ 4; omega⟩
theorem D_id (a b : Nat) : ({ C a b with id := 99 } : Cfg) = D a b := rfl
theorem D_ne (a b : Nat) : D a b ≠ C a b := fun h => by
  have : (99 : Int) = 7 := congrArg Cfg.id h
  omega
theorem sectors (a b : Nat) : (C a b).sectors = ((a + 3 : Nat) : Int) ∧ (D a b).sectors = ((a + 3 : Nat) : Int) := by
  have e : (1 : Int) + 1 * (a : Int) + 2 = ((a + 3 : Nat) : Int) := by omega
  exact ⟨e, e⟩
def sel (B i : Nat) : Bool := decide (0 < i) && Few.bit B i
def X (a b B i : Nat) : Cfg := if sel B i then D a b else C a b
theorem X_good (a b B i : Nat) (h1 : 1 ≤ a) (h2 : a ≤ b) (h3 : b ≤ 6) : (X a b B i).Good := by
  unfold X; split
  · exact D_good a b h1 h2 h3
  · exact C_good a b h1 h2 h3
theorem X_n (a b B i : Nat) : (X a b B i).n.toNat = b := by unfold X; split <;> rfl
theorem X_sec (a b B i : Nat) : (X a b B i).sectors ≤ ((a + 3 : Nat) : Int) := by
  unfold X; split
  · rw [(sectors a b).2]; exact Int.le_refl _
  · rw [(sectors a b).1]; exact Int.le_refl _
def P (a b B j : Nat) : Dsk := Super.disk (Dsk.new (a + 3)) ((X a b B j).block j).bytes
theorem told_P (a b B j : Nat) (h1 : 1 ≤ a) (h2 : a ≤ b) (h3 : b ≤ 6) (hj : j < 8) : (P a b B j).told j = some (X a b B j) := by
  unfold P
  exact Dsk.told_disk _ (by rw [Dsk.new_len]; omega) rfl _ (X_good a b B j h1 h2 h3) j hj
def mine (B : Nat) : Nat → Nat
  | 0 => 0
  | i + 1 => mine B i + if sel B i then 0 else 1
theorem mine_le (B i : Nat) : mine B i ≤ i := by
  induction i with
  | zero => exact Nat.le_refl 0
  | succ i ih =>
    show mine B i + (if sel B i then 0 else 1) ≤ i + 1
    split <;> omega
theorem mine_pos (B i : Nat) : 1 ≤ mine B (i + 1) := by
  induction i with
  | zero => exact Nat.le_refl 1
  | succ i ih =>
    show 1 ≤ mine B (i + 1) + (if sel B (i + 1) then 0 else 1)
    omega
theorem counted {a b B : Nat} (h1 : 1 ≤ a) (h2 : a ≤ b) (h3 : b ≤ 6) {R : Rck} (h : Filled b (a + 3) (P a b B) R b) (i : Nat) (hi : i ≤ b) : R.counted i = (if i = 0 then Cfg.zero else C a b, mine B i) := by
  induction i with
  | zero => rfl
  | succ i ih =>
    rw [Rck.counted_succ, ih (by omega), h.live.superGet (by omega) (by omega), h.done i (by omega), told_P a b B i h1 h2 h3 (by omega)]
    show _ = (if i + 1 = 0 then Cfg.zero else C a b, mine B i + if sel B i then 0 else 1)
    rw [if_neg (show ¬ i + 1 = 0 by omega)]
    rcases i with _ | i
    · have e : sel B 0 = false := rfl
      unfold X
      rw [e]
      simp [Rck.count, mine]
    · have hm := mine_pos B i
      rw [if_neg (show ¬ i + 1 = 0 by omega)]
      unfold X
      rcases hb : sel B (i + 1) with _ | _
      · simp only [Bool.false_eq_true, if_false]
        have h0 : mine B (i + 1) ≠ 0 := by omega
        simp [Rck.count, h0]
      · simp only [if_true]
        have h0 : mine B (i + 1) ≠ 0 := by omega
        simp [Rck.count, h0, D_ne a b]
theorem find {a b B : Nat} (h1 : 1 ≤ a) (h2 : a ≤ b) (h3 : b ≤ 6) {R : Rck} (h : Filled b (a + 3) (P a b B) R b) :
    R.superFind = if (a : Int) ≤ (mine B b : Int) then (C a b, none) else (Cfg.zero, some (.fault sSuperFind (mine B b : Int) (.no 7))) := by
  have hs : Super R (C a b) (a + 3) := ⟨h.live, C_good a b h1 h2 h3, by rw [(sectors a b).1]; exact Int.le_refl _⟩
  have hcnt := counted h1 h2 h3 h b (Nat.le_refl _)
  rw [if_neg (show ¬ b = 0 by omega)] at hcnt
  have hm : 1 ≤ mine B b := by
    obtain ⟨q, rfl⟩ : ∃ q, b = q + 1 := ⟨b - 1, by omega⟩
    exact mine_pos B q
  unfold Rck.superFind
  rw [h.live.len, hcnt]
  generalize mine B b = L at *
  by_cases hL : (a : Int) ≤ (L : Int)
  · rw [if_pos hL, if_neg]
    simp only
    intro q
    rcases q with q | q | q
    · omega
    · have : ((C a b).k : Int) = (a : Int) := rfl
      omega
    · rw [hs.fits] at q; cases q
  · rw [if_neg hL, if_pos (.inr (.inl (by show (L : Int) < (a : Int); omega)))]
/-- A disk's superblock is put and told. -/
theorem put {a b B : Nat} (h1 : 1 ≤ a) (h2 : a ≤ b) (h3 : b ≤ 6) {R : Rck} {i : Nat} (h : Filled b (a + 3) (P a b B) R i) (hi : i < b) :
    ∃ R', R.superPut (X a b B i) i = (none, R') ∧ Filled b (a + 3) (P a b B) R' (i + 1) ∧ R'.superGet i = some (X a b B i) := by
  obtain ⟨R', e1, e2⟩ := (h.fill hi).superPut (c := X a b B i) (X_n a b B i).symm (X_good a b B i h1 h2 h3) (X_sec a b B i) hi ⟨Dsk.new_len _, rfl⟩
  have e3 : Fill b (a + 3) (P a b B) R' i (P a b B i) := e2
  refine ⟨R', e1, e3.filled, ?_⟩
  rw [e3.live.superGet (by omega) hi, e3.here]
  exact told_P a b B i h1 h2 h3 (by omega)
end Oth
end Go.Proofs.YtdbjojnejkklhaaDoor

/- The walk of SuperOther. -/
namespace Go.Proofs.YtdbjojnejkklhaaDoor
set_option linter.unusedVariables false
open Go Go.RowKit
theorem few_bit1 (B i : Nat) (hB : B < 18446744073709551616) : (Go.bits .and .u64 ((B : Int) / 2 ^ i) 1 == 1) = Few.bit B i := by
  have e1 : ((B : Int) / 2 ^ i) = ((B / 2 ^ i : Nat) : Int) := by push_cast; rfl
  have h1 : B / 2 ^ i < 2 ^ 64 := Nat.lt_of_le_of_lt (Nat.div_le_self _ _) hB
  have e2 := u64_and_nat (B / 2 ^ i) 1 h1 (by decide)
  rw [e1, show (1 : Int) = ((1 : Nat) : Int) from rfl, e2, Nat.and_one_is_mod]
  unfold Few.bit
  rcases Nat.mod_two_eq_zero_or_one (B / 2 ^ i) with h | h <;> rw [h] <;> rfl
theorem fixed_nat (k n : Int) : ∃ a b : Nat, keepFixed k n 2 1 = Oth.C a b ∧ 1 ≤ a ∧ a ≤ 4 ∧ a ≤ b ∧ b ≤ 6 := by
  obtain ⟨a0, a1⟩ := within_bd k 1 4 (by omega)
  obtain ⟨b0, b1⟩ := within_bd n (within k 1 4) 6 (by omega)
  unfold keepFixed Oth.C
  generalize within n (within k 1 4) 6 = N at *
  generalize within k 1 4 = K at *
  refine ⟨K.toNat, N.toNat, ?_, by omega, by omega, by omega, by omega⟩
  rw [Int.toNat_of_nonneg (by omega), Int.toNat_of_nonneg (by omega)]
def OthRel (w W1 : World) (g g2 r a b B : Nat) (i : Nat) (wr : World) : Prop :=
  ∃ R, Filled b (a + 3) (Oth.P a b B) R i ∧ RackAt (fun b => b < W1.heap.size) wr r R ∧ Ext w wr ∧ CBlk wr g (Oth.C a b) ∧ CBlk wr g2 (Oth.D a b)
set_option maxRecDepth 100000 in
set_option maxHeartbeats 3000000 in
theorem superOther_c (k n G : Int) (w : World) (hg : EtLaid w) (hG : (Lit.int .u64 G).wf = true) :
    Calls Tryd.prog 12 #[.int .i64 k, .int .i64 n, .int .u64 G] w fun e w' => e = .returned (.bool true) ∧ Ext w w' := by
  have HG := hid hg
  have hzc := zero_cfg
  have HCS := hid Cfg.A_size
  have hbz := built_cfg0
  obtain ⟨q0, q1⟩ := bounds_u64 hG
  obtain ⟨B, rfl⟩ := Int.eq_ofNat_of_zero_le q0
  have HB64 : Hid (B < 18446744073709551616) := hid (by omega)
  clear hg hG q0 q1
  go_enter Tryd.func12, Tryd.ntmps12
  go_wp2_with fail
  refine (kfixed_c k n 2 1 w).mono ?_
  rintro e w1 ⟨rfl, x1⟩
  obtain ⟨a, b, hC, ha1, ha4, hab, hb6⟩ := fixed_nat k n
  rw [hC]
  clear hC
  have HGC := hid (Oth.C_good a b ha1 hab hb6)
  have HGD := hid (Oth.D_good a b ha1 hab hb6)
  have HCN : Hid ((Oth.C a b).n = (b : Int)) := hid rfl
  have HCK : Hid ((Oth.C a b).k = (a : Int)) := hid rfl
  have HSC : Hid ((Oth.C a b).sectors = ((a + 3 : Nat) : Int)) := hid (Oth.sectors a b).1
  have HID : Hid (({ Oth.C a b with id := 99 } : Cfg) = Oth.D a b) := hid rfl
  have HXX : Hid (∀ i, Oth.X a b B i = if Oth.sel B i then Oth.D a b else Oth.C a b) := hid fun _ => rfl
  have HPUT : Hid (∀ (R : Rck) (i : Nat), Filled b (a + 3) (Oth.P a b B) R i → i < b → ∃ R', R.superPut (Oth.X a b B i) i = (none, R') ∧ Filled b (a + 3) (Oth.P a b B) R' (i + 1) ∧ R'.superGet i = some (Oth.X a b B i)) := hid fun R i h hi => Oth.put ha1 hab hb6 h hi
  have HFND : Hid (∀ R : Rck, Filled b (a + 3) (Oth.P a b B) R b → R.superFind = if (a : Int) ≤ (Oth.mine B b : Int) then (Oth.C a b, none) else (Cfg.zero, some (.fault sSuperFind (Oth.mine B b : Int) (.no 7)))) := hid fun R h => Oth.find ha1 hab hb6 h
  obtain ⟨c, hc⟩ : ∃ c, Oth.C a b = c := ⟨_, rfl⟩
  obtain ⟨d, hd⟩ : ∃ d, Oth.D a b = d := ⟨_, rfl⟩
  rw [hc] at HGC HCN HCK HSC HID HXX HFND ⊢
  rw [hd] at HGD HID HXX
  have HCC := hid hc; have HDD := hid hd
  clear hc hd
  -- c, then a copy of it, turned into d
  have hbs : (w1.alloc (.cells (Cfg.A Cfg.zero) 59)).heap[w1.heap.size]? = some (.cells (Cfg.A Cfg.zero) 59 (0, 0)) := block_alloc
  obtain ⟨v1, hv1⟩ : ∃ W, w1.alloc (.cells (Cfg.A c) 59) = W := ⟨_, rfl⟩
  have HV1 := hid hv1
  have XV1 := hid (show Ext w v1 from hv1 ▸ x1.alloc _)
  have HCV : Hid (v1.heap[w1.heap.size]? = some (.cells (Cfg.A c) 59 (0, 0))) := hid (hv1 ▸ heap_alloc_new _ _)
  clear x1 hv1
  have hbs2 : (v1.alloc (.cells (Cfg.A Cfg.zero) 59)).heap[v1.heap.size]? = some (.cells (Cfg.A Cfg.zero) 59 (0, 0)) := block_alloc
  obtain ⟨v2, hv2⟩ : ∃ W, v1.alloc (.cells (Cfg.A c) 59) = W := ⟨_, rfl⟩
  have HV2 := hid hv2
  have XV2 := hid (show Ext v1 v2 from hv2 ▸ (Ext.refl v1).alloc _)
  have HDV : Hid (CBlk v2 v1.heap.size c) := hid (by rw [← hv2]; exact heap_alloc_new _ _)
  have cd : v2.cell? ⟨v1.heap.size, 0, none⟩ = some (.int .i64 c.id) := (cell_at HDV.out).trans (Cfg.A0 c)
  have fd : v2.frozen? ⟨v1.heap.size, 0, none⟩ = false := free_at HDV.out
  obtain ⟨W1, hW1⟩ : ∃ W, v2.setCell ⟨v1.heap.size, 0, none⟩ (.int .i64 99) = W := ⟨_, rfl⟩
  have HLT := hid (lt_of_block HCV.out)
  have X1 : Hid (Ext w W1) := hid (by
    rw [← hW1]
    exact Only.setCell (F := fun _ => False) (Ext.trans XV1.out XV2.out) (.inl (by have := XV1.out.size; exact this)) _)
  have HCc : Hid (W1.heap[w1.heap.size]? = some (.cells (Cfg.A c) 59 (0, 0))) := hid (by
    rw [← hW1]
    exact (block_set_other _ (by have := HLT.out; omega)).trans (Ext.at XV2.out HCV.out))
  have HCd : Hid (CBlk W1 v1.heap.size d) := hid (by
    have := CBlk.id HDV.out 99
    rw [HID.out, hW1] at this
    exact this)
  clear hv2
  go_wp2_with (first
    | (refine wpList_store_whole rfl 59 _ _ rfl w1.heap.size rfl (Cfg.A c) _ rfl 59 ?_ hbs ?_ ?_ ?_; (rw [HCS.out]; exact aggCfg); (rw [HCS.out, HCS.out]); exact Cfg.A_one _; rw [setRow_alloc, HV1.out])
    | (refine wpList_load_agg rfl 59 _ rfl ⟨w1.heap.size, 0, none⟩ rfl (Cfg.A c) (cfg_agg c) (agg_cells HCV.out) ?_)
    | (refine wpList_store_whole rfl 59 _ _ rfl v1.heap.size rfl (Cfg.A c) _ rfl 59 ?_ hbs2 ?_ ?_ ?_; (rw [HCS.out]; exact aggCfg); (rw [HCS.out, HCS.out]); exact Cfg.A_one _; rw [setRow_alloc, HV2.out]))
  --M0
  clear hbs hbs2 cd fd hW1 HV1 HV2
  have HLD := hid (lt_of_block HCd.out)
  have HLC := hid (lt_of_block HCc.out)
  generalize w1.heap.size = g at *
  generalize v1.heap.size = g2 at *
  have xd : Ext W1 W1.drew := (Ext.refl W1).drew
  have lc : Hid (∀ x : SW Ext W1.drew, ∀ j v, (Cfg.A c).toList[j]? = some v → x.w.cell? ((⟨g, 0, none⟩ : Addr).add j) = some v) := hid fun x => agg_cells ((Ext.trans xd x.ext).at HCc.out)
  have c2 : ∀ x : SW Ext W1.drew, x.w.cell? ⟨g, 2, none⟩ = some (.int .i64 b) := fun x => (cell_at ((Ext.trans xd x.ext).at HCc.out)).trans (by rw [Cfg.A2, HCN.out])
  have sc : Hid (∀ x : SW Ext W1.drew, Calls Tryd.prog 35 #[.agg (Cfg.A c)] x.w fun e w'' => e = .returned (.int .i64 ((a + 3 : Nat) : Int)) ∧ Ext x.w w'') := hid fun x => by
    have := ssectors_c c HGC.out x.w
    rw [HSC.out] at this
    exact this
  have HAG := hid (cfg_agg c)
  refine wp_region_rely_all (S := Ext) (.one [0, 1, 2, 3] 4 (.fin [5, 6, 7, 8, 9])) (by kernel_rfl) (by kernel_rfl) (fun _ _ d _ _ h => by cases d <;> exact h) ?_
  rw [wpS]
  simp only [opsAt, List.map_cons, List.map_nil, Array.getD_eq_getD_getElem?, List.getElem?_toArray, List.getElem?_cons_succ, List.getElem?_cons_zero, Option.getD_some]
  iterate 2 ((refine wpSQ_step (fun K hK => ?_); go_simp; first | (refine hK _ ?_; clear hK K) | (apply Exists.intro; refine ⟨fun x => ?_, hK _ ?_⟩; (fail); clear hK K)))
  refine wpSQ_load_agg 59 _ rfl ⟨g, 0, none⟩ rfl (Cfg.A c) rfl HAG.out lc.out ?_
  (refine wpSQ_step (fun K hK => ?_); go_simp; first | (refine hK _ ?_; clear hK K) | (apply Exists.intro; refine ⟨fun x => ?_, hK _ ?_⟩; (exact sc.out x); clear hK K))
  refine wpSQ_nil ?_
  intro V1 hV1
  refine wpS_loud fun K hK => ?_
  go_wp2_with fail
  refine (at_new b (a + 3) (by omega) (by omega) (by omega) (by omega) V1).mono ?_
  rintro e w2 ⟨r, rfl, h2, x2⟩
  go_wp2
  refine hK _ _ x2 ?_
  clear hK K
  rw [wpS]
  simp only [opsAt, List.map_cons, List.map_nil, Array.getD_eq_getD_getElem?, List.getElem?_toArray, List.getElem?_cons_succ, List.getElem?_cons_zero, Option.getD_some]
  iterate 5 ((refine wpSQ_step (fun K hK => ?_); go_simp; first | (refine hK _ ?_; clear hK K) | (apply Exists.intro; refine ⟨fun x => ?_, hK _ ?_⟩; (fail); clear hK K)))
  refine wpSQ_nil ?_
  intro V2 hV2
  have XX := Ext.trans xd (Ext.trans hV1 (Ext.trans x2 hV2))
  have HR0 : Hid (OthRel w W1 g g2 r a b B 0 V2) := hid ⟨Rck.new b (a + 3), Filled.start b (a + 3) _ (by omega), (h2.less fun b hb => Nat.lt_of_lt_of_le hb (Ext.trans xd hV1).size).ext hV2, Ext.trans X1.out XX, by rw [HCC.out]; exact XX.at HCc.out, by rw [HDD.out]; exact XX.at HCd.out⟩
  clear h2 x2 hV1 hV2 lc c2 sc xd XX
  have hb1 : 1 ≤ b := by omega
  go_wp2
  go_loopw [11, 12] (fun u v wr => ∃ i : Nat, v = .int .i64 i ∧ u = .int .i64 (Oth.mine B i) ∧ i ≤ b ∧ OthRel w W1 g g2 r a b B i wr) (fun _ v _ => b - (intOf v).toNat)
  case atStart => exact ⟨0, rfl, rfl, by omega, HR0.out⟩
  case round =>
    clear HR0
    obtain ⟨i, rfl, rfl, hi, R, hst, hra, hx, hcc, hcd⟩ := hrel
    rw [HCC.out] at hcc
    rw [HDD.out] at hcd
    have HX := hid hx; have HRA := hid hra; have HCW := hid hcc; have HDW := hid hcd
    have hlf := Oth.mine_le B i
    have c2 : wr.cell? ⟨g, 2, none⟩ = some (.int .i64 b) := (cell_at hcc).trans (by rw [Cfg.A2, HCN.out])
    clear hx hra hcc hcd
    by_cases hlt : i < b
    · have i0 : (0 : Int) ≤ (i : Int) := by omega
      have i1 : (i : Int) < (b : Int) := by omega
      have i8 : (i : Int) < 8 := by omega
      obtain ⟨R', hw, hst', hget⟩ := HPUT.out R i hst hlt
      have HW := hid hw; have HST := hid hst'; have HGT := hid hget
      have hL : Oth.mine B (i + 1) = Oth.mine B i + if Oth.sel B i then 0 else 1 := rfl
      have hsel : Oth.sel B i = (decide (0 < i) && Few.bit B i) := rfl
      have hbit := few_bit1 B i HB64.out
      have hXi := HXX.out i
      obtain ⟨v4, hv4⟩ : ∃ W, wr.alloc (.cells (Cfg.A c) 59) = W := ⟨_, rfl⟩
      have HV4 := hid hv4
      have X4 := hid (show Ext wr v4 from hv4 ▸ (Ext.refl wr).alloc _)
      have hbs : (wr.alloc (.cells (Cfg.A Cfg.zero) 59)).heap[wr.heap.size]? = some (.cells (Cfg.A Cfg.zero) 59 (0, 0)) := block_alloc
      have HX4 : Hid (CBlk v4 wr.heap.size c) := hid (by rw [← hv4]; exact heap_alloc_new _ _)
      have HD4 : Hid (v4.heap[g2]? = some (.cells (Cfg.A d) 59 (0, 0))) := hid (Ext.at X4.out HDW.out)
      have HW1s : Hid (W1.heap.size ≤ wr.heap.size) := hid (Nat.le_of_not_lt fun q => absurd (HRA.out.there (wr.heap.size) q) (Nat.lt_irrefl _))
      clear hst hw hst' hv4 hget
      by_cases hs : Oth.sel B i = true
      · rw [hs] at hL
        rw [hs] at hsel
        simp only [if_true, Nat.add_zero] at hL
        have hb2 : (0 : Nat) < i ∧ Few.bit B i = true := by simpa using hsel.symm
        rw [hb2.2] at hbit
        have i2 : (0 : Int) < (i : Int) := by omega
        have HL := hid hL
        rw [hXi, hs, if_pos rfl] at HW HGT
        obtain ⟨VW, hVW⟩ : ∃ W, v4.setRow wr.heap.size (Cfg.A d) = W := ⟨_, rfl⟩
        have HVW := hid hVW
        have XVW : Ext wr VW := by rw [← hVW]; exact Ext.then X4.out (only_setRow _ _ _) (fun i hi => by omega)
        have HXV : Hid (VW.heap[wr.heap.size]? = some (.cells (Cfg.A d) 59 (0, 0))) := hid (by rw [← hVW]; exact setRow_heap _ _ _ _ _ _ HX4.out)
        have HRV : Hid (RackAt (fun b => b < W1.heap.size ∨ b = wr.heap.size) VW r R) := hid (HRA.out.more XVW fun b hb => by
          have q3 := HRA.out.there
          have q4 : wr.heap.size < VW.heap.size := lt_of_block HXV.out
          rcases hb with hb | rfl
          · exact ⟨by have := q3 b hb; omega, .inl hb⟩
          · exact ⟨q4, .inr (Nat.le_refl _)⟩)
        have XV := hid (Ext.trans HX.out XVW)
        have HCV2 := hid (Ext.at XVW HCW.out)
        have HDV2 := hid (Ext.at XVW HDW.out)
        have hb4 : v4.heap[wr.heap.size]? = some (.cells (Cfg.A c) 59 (0, 0)) := HX4.out
        clear hsel hXi hs hL hb2 XVW hVW
        go_wp2_with (first
          | (refine wpList_load_agg rfl 59 _ rfl ⟨g, 0, none⟩ rfl (Cfg.A c) (cfg_agg c) (agg_cells HCW.out) ?_)
          | (refine wpList_store_whole rfl 59 _ _ rfl wr.heap.size rfl (Cfg.A c) _ rfl 59 ?_ hbs ?_ ?_ ?_; (rw [HCS.out]; exact aggCfg); (rw [HCS.out, HCS.out]); exact Cfg.A_one _; rw [setRow_alloc, HV4.out])
          | (refine wpList_load_agg rfl 59 _ rfl ⟨g2, 0, none⟩ rfl (Cfg.A d) (cfg_agg d) (agg_cells HD4.out) ?_)
          | (refine wpList_store_whole rfl 59 _ _ rfl wr.heap.size rfl (Cfg.A d) _ rfl 59 ?_ hb4 ?_ ?_ ?_; (rw [HCS.out]; exact aggCfg); (rw [HCS.out, HCS.out]); exact Cfg.A_one _; rw [HVW.out])
          | (refine wpList_load_agg rfl 59 _ rfl ⟨wr.heap.size, 0, none⟩ rfl (Cfg.A d) (cfg_agg d) (agg_cells HXV.out) ?_))
        clear hbs
        refine (sput_c HRV.out d i).mono ?_
        rintro e w5 ⟨rfl, h5, k5⟩
        rw [HW.out] at h5 ⊢
        simp only [oErr]
        have H5 := hid h5
        have X5 := hid (Keeps.ext XV.out k5 fun q hq => .inl (Nat.lt_of_lt_of_le hq X1.out.size))
        have HX5 := hid (k5.at HXV.out fun q => q (.inr rfl))
        have HC5 := hid (k5.at HCV2.out fun q => q (.inl HLC.out))
        have HD5 := hid (k5.at HDV2.out fun q => q (.inl HLD.out))
        clear h5 k5
        go_wp2_with fail
        refine (sget_c H5.out i).mono ?_
        rintro e w6 ⟨rfl, x6⟩
        rw [HGT.out]
        simp only [toldO, Option.getD_some, Option.isSome_some]
        have x7 := x6.alloc (.cells (Cfg.A d) 59)
        have HF : Hid (OthRel w W1 g g2 r a b B (i + 1) (w6.alloc (.cells (Cfg.A d) 59))) := hid ⟨R', HST.out, (H5.out.less fun b hb => .inl hb).ext x7, Ext.trans X5.out x7, by rw [HCC.out]; exact Ext.at x7 HC5.out, by rw [HDD.out]; exact Ext.at x7 HD5.out⟩
        have HX7 := hid (Ext.at x7 HX5.out)
        have HY7 : Hid ((w6.alloc (.cells (Cfg.A d) 59)).heap[w6.heap.size]? = some (.cells (Cfg.A d) 59 (0, 0))) := hid block_alloc
        have hbs : (w6.alloc (.cells (Cfg.A Cfg.zero) 59)).heap[w6.heap.size]? = some (.cells (Cfg.A Cfg.zero) 59 (0, 0)) := block_alloc
        have HE := hid (cfg_neq d d)
        rw [Cfg.eqB_self] at HE
        clear x6 x7
        go_wp2_with (first
          | (refine wpList_store_whole rfl 59 _ _ rfl w6.heap.size rfl (Cfg.A d) _ rfl 59 ?_ hbs ?_ ?_ ?_; (rw [HCS.out]; exact aggCfg); (rw [HCS.out, HCS.out]); exact Cfg.A_one _; rw [setRow_alloc])
          | (refine wpListG_load_agg 59 _ rfl ⟨w6.heap.size, 0, none⟩ rfl (Cfg.A d) rfl (cfg_agg d) (agg_cells HY7.out) ?_)
          | (refine wpListG_load_agg 59 _ rfl ⟨wr.heap.size, 0, none⟩ rfl (Cfg.A d) rfl (cfg_agg d) (agg_cells HX7.out) ?_)
          | (refine wpListG_eql .neq 59 _ _ _ rfl (Cfg.A d) (Cfg.A d) rfl rfl (.bool false) rfl (cfg_guard _ _ _ _ _ _) (HE.out _) ?_))
        go_roundw
        case rel => exact ⟨i + 1, by go_num, by rw [HL.out], by omega, HF.out⟩
        case measure => simp [intOf]; omega
      · have hs' : Oth.sel B i = false := by simpa using hs
        rw [hs'] at hL
        rw [hs'] at hsel
        simp only [Bool.false_eq_true, if_false] at hL
        have HL := hid hL
        rw [hXi, hs', if_neg (by simp)] at HW HGT
        obtain ⟨VW, hVW⟩ : ∃ W, v4 = W := ⟨_, rfl⟩
        have XVW : Ext wr VW := by rw [← hVW]; exact X4.out
        have HXV : Hid (VW.heap[wr.heap.size]? = some (.cells (Cfg.A c) 59 (0, 0))) := hid (by rw [← hVW]; exact HX4.out)
        have HRV : Hid (RackAt (fun b => b < W1.heap.size ∨ b = wr.heap.size) VW r R) := hid (HRA.out.more XVW fun b hb => by
          have q3 := HRA.out.there
          have q4 : wr.heap.size < VW.heap.size := lt_of_block HXV.out
          rcases hb with hb | rfl
          · exact ⟨by have := q3 b hb; omega, .inl hb⟩
          · exact ⟨q4, .inr (Nat.le_refl _)⟩)
        have XV := hid (Ext.trans HX.out XVW)
        have HCV2 := hid (Ext.at XVW HCW.out)
        have HDV2 := hid (Ext.at XVW HDW.out)
        subst hVW
        by_cases hz : i = 0
        · have n2 : ¬ (0 : Int) < (i : Int) := by omega
          clear hsel hXi hs hs' hL XVW hbit hz
          go_wp2_with (first
            | (refine wpList_load_agg rfl 59 _ rfl ⟨g, 0, none⟩ rfl (Cfg.A c) (cfg_agg c) (agg_cells HCW.out) ?_)
            | (refine wpList_store_whole rfl 59 _ _ rfl wr.heap.size rfl (Cfg.A c) _ rfl 59 ?_ hbs ?_ ?_ ?_; (rw [HCS.out]; exact aggCfg); (rw [HCS.out, HCS.out]); exact Cfg.A_one _; rw [setRow_alloc, HV4.out])
            | (refine wpList_load_agg rfl 59 _ rfl ⟨wr.heap.size, 0, none⟩ rfl (Cfg.A c) (cfg_agg c) (agg_cells HXV.out) ?_))
          clear hbs
          refine (sput_c HRV.out c i).mono ?_
          rintro e w5 ⟨rfl, h5, k5⟩
          rw [HW.out] at h5 ⊢
          simp only [oErr]
          have H5 := hid h5
          have X5 := hid (Keeps.ext XV.out k5 fun q hq => .inl (Nat.lt_of_lt_of_le hq X1.out.size))
          have HX5 := hid (k5.at HXV.out fun q => q (.inr rfl))
          have HC5 := hid (k5.at HCV2.out fun q => q (.inl HLC.out))
          have HD5 := hid (k5.at HDV2.out fun q => q (.inl HLD.out))
          clear h5 k5
          go_wp2_with fail
          refine (sget_c H5.out i).mono ?_
          rintro e w6 ⟨rfl, x6⟩
          rw [HGT.out]
          simp only [toldO, Option.getD_some, Option.isSome_some]
          have x7 := x6.alloc (.cells (Cfg.A c) 59)
          have HF : Hid (OthRel w W1 g g2 r a b B (i + 1) (w6.alloc (.cells (Cfg.A c) 59))) := hid ⟨R', HST.out, (H5.out.less fun b hb => .inl hb).ext x7, Ext.trans X5.out x7, by rw [HCC.out]; exact Ext.at x7 HC5.out, by rw [HDD.out]; exact Ext.at x7 HD5.out⟩
          have HX7 := hid (Ext.at x7 HX5.out)
          have HY7 : Hid ((w6.alloc (.cells (Cfg.A c) 59)).heap[w6.heap.size]? = some (.cells (Cfg.A c) 59 (0, 0))) := hid block_alloc
          have hbs : (w6.alloc (.cells (Cfg.A Cfg.zero) 59)).heap[w6.heap.size]? = some (.cells (Cfg.A Cfg.zero) 59 (0, 0)) := block_alloc
          have HE := hid (cfg_neq c c)
          rw [Cfg.eqB_self] at HE
          clear x6 x7
          go_wp2_with (first
            | (refine wpList_store_whole rfl 59 _ _ rfl w6.heap.size rfl (Cfg.A c) _ rfl 59 ?_ hbs ?_ ?_ ?_; (rw [HCS.out]; exact aggCfg); (rw [HCS.out, HCS.out]); exact Cfg.A_one _; rw [setRow_alloc])
            | (refine wpListG_load_agg 59 _ rfl ⟨w6.heap.size, 0, none⟩ rfl (Cfg.A c) rfl (cfg_agg c) (agg_cells HY7.out) ?_)
            | (refine wpListG_load_agg 59 _ rfl ⟨wr.heap.size, 0, none⟩ rfl (Cfg.A c) rfl (cfg_agg c) (agg_cells HX7.out) ?_)
            | (refine wpListG_eql .neq 59 _ _ _ rfl (Cfg.A c) (Cfg.A c) rfl rfl (.bool false) rfl (cfg_guard _ _ _ _ _ _) (HE.out _) ?_))
          go_roundw
          case rel => exact ⟨i + 1, by go_num, by rw [HL.out]; go_num, by omega, HF.out⟩
          case measure => simp [intOf]; omega
        · have n2 : (0 : Int) < (i : Int) := by omega
          have hb3 : Few.bit B i = false := by
            rcases hq : Few.bit B i with _ | _
            · rfl
            · rw [hq, decide_eq_true (show 0 < i by omega)] at hsel; cases hsel
          rw [hb3] at hbit
          clear hsel hXi hs hs' hL XVW hz hb3
          go_wp2_with (first
            | (refine wpList_load_agg rfl 59 _ rfl ⟨g, 0, none⟩ rfl (Cfg.A c) (cfg_agg c) (agg_cells HCW.out) ?_)
            | (refine wpList_store_whole rfl 59 _ _ rfl wr.heap.size rfl (Cfg.A c) _ rfl 59 ?_ hbs ?_ ?_ ?_; (rw [HCS.out]; exact aggCfg); (rw [HCS.out, HCS.out]); exact Cfg.A_one _; rw [setRow_alloc, HV4.out])
            | (refine wpList_load_agg rfl 59 _ rfl ⟨wr.heap.size, 0, none⟩ rfl (Cfg.A c) (cfg_agg c) (agg_cells HXV.out) ?_))
          clear hbs
          refine (sput_c HRV.out c i).mono ?_
          rintro e w5 ⟨rfl, h5, k5⟩
          rw [HW.out] at h5 ⊢
          simp only [oErr]
          have H5 := hid h5
          have X5 := hid (Keeps.ext XV.out k5 fun q hq => .inl (Nat.lt_of_lt_of_le hq X1.out.size))
          have HX5 := hid (k5.at HXV.out fun q => q (.inr rfl))
          have HC5 := hid (k5.at HCV2.out fun q => q (.inl HLC.out))
          have HD5 := hid (k5.at HDV2.out fun q => q (.inl HLD.out))
          clear h5 k5
          go_wp2_with fail
          refine (sget_c H5.out i).mono ?_
          rintro e w6 ⟨rfl, x6⟩
          rw [HGT.out]
          simp only [toldO, Option.getD_some, Option.isSome_some]
          have x7 := x6.alloc (.cells (Cfg.A c) 59)
          have HF : Hid (OthRel w W1 g g2 r a b B (i + 1) (w6.alloc (.cells (Cfg.A c) 59))) := hid ⟨R', HST.out, (H5.out.less fun b hb => .inl hb).ext x7, Ext.trans X5.out x7, by rw [HCC.out]; exact Ext.at x7 HC5.out, by rw [HDD.out]; exact Ext.at x7 HD5.out⟩
          have HX7 := hid (Ext.at x7 HX5.out)
          have HY7 : Hid ((w6.alloc (.cells (Cfg.A c) 59)).heap[w6.heap.size]? = some (.cells (Cfg.A c) 59 (0, 0))) := hid block_alloc
          have hbs : (w6.alloc (.cells (Cfg.A Cfg.zero) 59)).heap[w6.heap.size]? = some (.cells (Cfg.A Cfg.zero) 59 (0, 0)) := block_alloc
          have HE := hid (cfg_neq c c)
          rw [Cfg.eqB_self] at HE
          clear x6 x7
          go_wp2_with (first
            | (refine wpList_store_whole rfl 59 _ _ rfl w6.heap.size rfl (Cfg.A c) _ rfl 59 ?_ hbs ?_ ?_ ?_; (rw [HCS.out]; exact aggCfg); (rw [HCS.out, HCS.out]); exact Cfg.A_one _; rw [setRow_alloc])
            | (refine wpListG_load_agg 59 _ rfl ⟨w6.heap.size, 0, none⟩ rfl (Cfg.A c) rfl (cfg_agg c) (agg_cells HY7.out) ?_)
            | (refine wpListG_load_agg 59 _ rfl ⟨wr.heap.size, 0, none⟩ rfl (Cfg.A c) rfl (cfg_agg c) (agg_cells HX7.out) ?_)
            | (refine wpListG_eql .neq 59 _ _ _ rfl (Cfg.A c) (Cfg.A c) rfl rfl (.bool false) rfl (cfg_guard _ _ _ _ _ _) (HE.out _) ?_))
          go_roundw
          case rel => exact ⟨i + 1, by go_num, by rw [HL.out]; go_num, by omega, HF.out⟩
          case measure => simp [intOf]; omega
    · obtain rfl : b = i := by omega
      have hfind := HFND.out R hst
      have c1 : wr.cell? ⟨g, 1, none⟩ = some (.int .i64 a) := (cell_at HCW.out).trans (by rw [Cfg.A1, HCK.out])
      generalize Oth.mine B b = L at *
      by_cases hL : (a : Int) ≤ (L : Int)
      · rw [if_pos hL] at hfind
        have HF := hid hfind
        clear hst hfind
        go_wp2_with fail
        refine (sfind_c HRA.out).mono ?_
        rintro e w3 ⟨rfl, x3⟩
        rw [HF.out]
        simp only [oErr]
        have X4 := hid (Ext.trans HX.out (x3.alloc (.cells (Cfg.A c) 59)))
        have HC4 := hid (Ext.at (x3.alloc (.cells (Cfg.A c) 59)) HCW.out)
        have HD4 : Hid ((w3.alloc (.cells (Cfg.A c) 59)).heap[w3.heap.size]? = some (.cells (Cfg.A c) 59 (0, 0))) := hid block_alloc
        have hbs : (w3.alloc (.cells (Cfg.A Cfg.zero) 59)).heap[w3.heap.size]? = some (.cells (Cfg.A Cfg.zero) 59 (0, 0)) := block_alloc
        have HE := hid (cfg_eql c c)
        rw [Cfg.eqB_self] at HE
        have c3 : ((w3.alloc (.cells (Cfg.A Cfg.zero) 59)).setRow w3.heap.size (Cfg.A c)).cell? ⟨g, 1, none⟩ = some (.int .i64 a) := by rw [setRow_alloc]; exact (cell_at HC4.out).trans (by rw [Cfg.A1, HCK.out])
        clear x3 c1 c2
        go_wp2_with (first
          | (refine wpList_store_whole rfl 59 _ _ rfl w3.heap.size rfl (Cfg.A c) _ rfl 59 ?_ hbs ?_ ?_ ?_; (rw [HCS.out]; exact aggCfg); (rw [HCS.out, HCS.out]); exact Cfg.A_one _)
          | (rw [setRow_alloc]; refine wpListG_load_agg 59 _ rfl ⟨w3.heap.size, 0, none⟩ rfl (Cfg.A c) rfl (cfg_agg c) (agg_cells HD4.out) ?_)
          | (refine wpListG_load_agg 59 _ rfl ⟨g, 0, none⟩ rfl (Cfg.A c) rfl (cfg_agg c) (agg_cells HC4.out) ?_)
          | (refine wpListG_eql .eql 59 _ _ _ rfl (Cfg.A c) (Cfg.A c) rfl rfl (.bool true) rfl (cfg_guard _ _ _ _ _ _) (HE.out _) ?_))
        clear c3 hbs
        refine (superRuns_c _ (HG.out.only X4.out (fun x => x))).mono ?_
        rintro e w9 ⟨rfl, x9⟩
        have X9 := hid (Ext.trans X4.out x9)
        clear x9
        go_wp2
        go_ret
        exact ⟨rfl, X9.out⟩
      · rw [if_neg hL] at hfind
        have HF := hid hfind
        clear hst hfind
        go_wp2_with fail
        refine (sfind_c HRA.out).mono ?_
        rintro e w3 ⟨rfl, x3⟩
        rw [HF.out]
        simp only [oErr]
        have X4 := hid (Ext.trans HX.out (x3.alloc (.cells (Cfg.A Cfg.zero) 59)))
        have HC4 := hid (Ext.at (x3.alloc (.cells (Cfg.A Cfg.zero) 59)) HCW.out)
        have HD4 : Hid ((w3.alloc (.cells (Cfg.A Cfg.zero) 59)).heap[w3.heap.size]? = some (.cells (Cfg.A Cfg.zero) 59 (0, 0))) := hid block_alloc
        have hbs : (w3.alloc (.cells (Cfg.A Cfg.zero) 59)).heap[w3.heap.size]? = some (.cells (Cfg.A Cfg.zero) 59 (0, 0)) := block_alloc
        have HE := hid (cfg_eql Cfg.zero Cfg.zero)
        rw [Cfg.eqB_self] at HE
        have HER : Hid ((Err.fault sSuperFind L (.no 7)).kind = 7) := hid rfl
        have HPA : Hid ((Err.fault sSuperFind L (.no 7)).parts = [] ++ [(sSuperFind, (L : Int), .no 7)] ∧ (Err.fault sSuperFind L (.no 7)).depth < 1000) := hid ⟨rfl, by show 1 < 1000; omega⟩
        obtain ⟨er, hre⟩ : ∃ er, Err.fault sSuperFind L (.no 7) = er := ⟨_, rfl⟩
        rw [hre] at HER HPA ⊢
        have c3 : ((w3.alloc (.cells (Cfg.A Cfg.zero) 59)).setRow w3.heap.size (Cfg.A Cfg.zero)).cell? ⟨g, 1, none⟩ = some (.int .i64 a) := by rw [setRow_alloc]; exact (cell_at HC4.out).trans (by rw [Cfg.A1, HCK.out])
        clear x3 c1 c2 hre HF
        go_wp2_with (refine wpList_store_whole rfl 59 _ _ rfl w3.heap.size rfl (Cfg.A Cfg.zero) _ rfl 59 ?_ hbs ?_ ?_ ?_; (rw [HCS.out]; exact aggCfg); (rfl); exact Cfg.A_one _)
        rw [setRow_alloc]
        clear c3 hbs
        refine (where_c er [] sSuperFind L (.no 7) HPA.out.1 HPA.out.2 _ (HG.out.only X4.out (fun x => x))).mono ?_
        rintro e w7 ⟨rfl, x7⟩
        have X4 := hid (Ext.trans X4.out x7)
        have HD4 := hid (Ext.at x7 HD4.out)
        clear x7
        go_wp2_with fail
        refine (kind_err er _ (HG.out.only X4.out (fun x => x))).mono ?_
        rintro e w8 ⟨rfl, x8⟩
        rw [HER.out]
        have X8 := hid (Ext.trans X4.out x8)
        have HD8 := hid (Ext.at x8 HD4.out)
        clear x8
        go_wp2_with (first
          | (refine wpListG_load_agg 59 _ rfl ⟨w3.heap.size, 0, none⟩ rfl (Cfg.A Cfg.zero) rfl (cfg_agg _) (agg_cells HD8.out) ?_)
          | (refine wpListG_eql .eql 59 _ _ _ rfl (Cfg.A Cfg.zero) (Cfg.A Cfg.zero) rfl rfl (.bool true) rfl (cfg_guard _ _ _ _ _ _) (HE.out _) ?_))
        refine (superRuns_c _ (HG.out.only X8.out (fun x => x))).mono ?_
        rintro e w9 ⟨rfl, x9⟩
        have X9 := hid (Ext.trans X8.out x9)
        clear x9
        go_wp2
        go_ret
        exact ⟨rfl, X9.out⟩
end Go.Proofs.YtdbjojnejkklhaaDoor

/- The statement SuperOther, as its tied card: for every input the call of stavelaw9's SuperOther answers true, and its arguments read behind it as they read before. No condition of our own. -/
namespace Go.Proofs.YtdbjojnejkklhaaDoor.superOther
open Go.ChangeShapes Go.WideShapes Go.ChangeAt Go.RowKit
open Go.ChangeMaps (open_string shut_string)
set_option linter.unusedVariables false
theorem laidOut : laidOutB Tryd.prog = true := by kernel_rfl
theorem walk (a0 : Int) (a1 : Int) (a2 : Int) (w : World) (hg : EtLaid w) (w0 : (Lit.int .i64 a0).wf = true) (w1 : (Lit.int .i64 a1).wf = true) (w2 : (Lit.int .u64 a2).wf = true) :
    Calls Tryd.prog 12 #[.int .i64 a0, .int .i64 a1, .int .u64 a2] w fun e w' => e = .returned (.bool true) ∧ Below w.heap.size w w' :=
  (superOther_c a0 a1 a2 w hg w2).mono fun _ _ ⟨he, hx⟩ => ⟨he, hx.below⟩
set_option maxRecDepth 100000 in
theorem lifted (os : Os) (started : os.Started) (H : Type) (enc : TypeId × Value → H) :
    ReturnsInHanded {} Tryd.checked os 12 .any (fun w args => (Rows.superOtherSpec.pre enc Tryd.prog Tryd.f12 [] false w args ∧ laidMetH Tryd.prog theLaid w) ∧ sizedMet enc Tryd.prog Tryd.f12 (OpenSpec.ofChange Rows.superOtherSpec) false w args)
      (Rows.superOtherSpec.post enc Tryd.prog Tryd.f12 false true false false) := by
  refine returnsInHanded_of_change_and (C := Tryd.checked) (X := fun w _ => laidMetH Tryd.prog theLaid w) (fun _ _ _ hh h => h.of_heap hh) hOwn started (by kernel_rfl) Tryd.func12
    (ChangeSpec.witness_at (enc := enc) (C := Tryd.checked) (os := os) (X := fun w _ => laidMetH Tryd.prog theLaid w) false (laidWorld os) #[.int .i64 0, .int .i64 0, .int .u64 0] 8 rfl (by kernel_rfl) (by kernel_rfl) (by kernel_rfl) (by kernel_rfl) (by kernel_rfl) (laidWorld_met os _)) ?_
  intro W base args ds gs before hval0 hW _ _ hL _
  have hval : ∀ (j : Nat) t v, Tryd.f12.params[j]? = some t → args[j]? = some v → Value.okWide Tryd.prog W .any base t v := hval0
  have hW' := hW
  obtain ⟨p, q, hA0, hV, rfl, hfz, hnd⟩ := hW
  have hA : DataW.TrodAll enc Tryd.prog W 0 (fun _ => true) true Tryd.f12.params.toList args.toList ds p := hA0
  rw [Tryd.params12] at hA hval
  obtain ⟨v0, vs0, d0, ds0, p0, q0, hargs, rfl, rfl, h0, r0⟩ := trodAll_cons hA
  obtain ⟨v1, vs1, d1, ds1, p1, q1, rfl, rfl, rfl, h1, r1⟩ := trodAll_cons r0
  obtain ⟨v2, vs2, d2, ds2, p2, q2, rfl, rfl, rfl, h2, r2⟩ := trodAll_cons r1
  obtain ⟨rfl, rfl, rfl⟩ := trodAll_nil r2
  obtain rfl : args = #[v0, v1, v2] := by cases args; simp_all
  obtain ⟨rfl, rfl⟩ := trodVars_none hV
  obtain ⟨a0, rfl, rfl, rfl, w0⟩ := open_int Tryd.underlying3 (hval 0 3 v0 rfl rfl) h0
  obtain ⟨a1, rfl, rfl, rfl, w1⟩ := open_int Tryd.underlying3 (hval 1 3 v1 rfl rfl) h1
  obtain ⟨a2, rfl, rfl, rfl, w2⟩ := open_int Tryd.underlying34 (hval 2 34 v2 rfl rfl) h2
  have hg := etLaid_of hL
  clear hA0 hval0
  simp only [List.append_nil] at hW'
  refine (walk a0 a1 a2 W hg w0 w1 w2).mono fun e W' ⟨he, bel⟩ => ?_
  subst he
  exact ⟨_, rfl, _, _, _, [], _, [], hW', trodAll_mk1 (shut_bool Tryd.underlying4 _), (trodAll_cons_mk (shut_int Tryd.underlying3 w0) (trodAll_cons_mk (shut_int Tryd.underlying3 w1) (trodAll_cons_mk (shut_int Tryd.underlying34 w2) trodAll_mk0))), rfl, bel.frame _, fun h => by cases h⟩
theorem over : Rows.SuperOtherSaid :=
  OpenClaim.holds_of_wide 12 Tryd.f12 rfl rfl rfl rfl rfl rfl rfl ⟨rfl, rfl, rfl, rfl, rfl⟩ rfl rfl rfl rfl rfl (by kernel_rfl) Tryd.func12 (by kernel_rfl)
    (of_decide_eq_true (by kernel_rfl)) (by unfold Func.isWrapper; first | (rw [if_pos (by decide +kernel)]; kernel_rfl) | (rw [if_neg (by decide +kernel)]; exact ⟨rfl, rfl⟩))
    (fun os started H enc _ => lifted os started H enc)
theorem proved : Rows.SuperOtherCardSaid :=
  Claim7.holds_tied_plain_at .later [] [.handle] true (true, "dba68c5c8641de8e0643fe4af85c7b77ef0591640622d3211a00d85201f74fa1") true
    over (fun _ h => by cases h) (by kernel_rfl) (fun _ h => by cases h) superOther_row_tie rfl ⟨rfl, rfl⟩ (by kernel_rfl) rfl
    (fun f fn hf hfn => by
      obtain rfl : f = 12 := Option.some.inj ((show Tryd.prog.funcNamed "stave/stavelaw9.SuperOther" = some 12 by kernel_rfl).symm.trans hf) |>.symm
      obtain rfl : fn = Tryd.f12 := (Option.some.inj (Tryd.func12.symm.trans hfn)).symm
      exact ⟨by kernel_rfl, fun j t ht => by
        rw [Tryd.params12] at ht
        rcases j with _ | _ | _ | j
        · simp at ht; subst ht; kernel_rfl
        · simp at ht; subst ht; kernel_rfl
        · simp at ht; subst ht; kernel_rfl
        · simp at ht⟩)
    (by kernel_rfl)
#print axioms proved
end Go.Proofs.YtdbjojnejkklhaaDoor.superOther
