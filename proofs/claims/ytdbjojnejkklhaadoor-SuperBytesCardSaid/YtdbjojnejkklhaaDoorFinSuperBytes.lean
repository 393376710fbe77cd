/- The statement SuperBytes, as its tied card: for every input the call of stavelaw9's SuperBytes answers true, and its arguments read behind it as they read before. No condition of our own. -/
/- Texts of one proof, joined: WSuperFew, ByPure, WSuperBytes, LawSuperBytes. -/
import Derived.Test.YtdbjojnejkklhaaDoorPartI
import Derived.Test.YtdbjojnejkklhaaDoorPartG
import Derived.Test.YtdbjojnejkklhaaDoorPartD
import Derived.Test.YtdbjojnejkklhaaDoorCards
import Derived.Test.YtdbjojnejkklhaaDoorTie
import Derived.Test.YtdbjojnejkklhaaDoorPartC
import Derived.WalkKit
import Derived.ProofKit
import Derived.OpenShut
import Derived.ShutString
import Derived.ChangeOld
import Derived.Below
import Derived.SevenTiedAt
set_option linter.unusedVariables false
set_option linter.unusedSimpArgs false
/- The walk of SuperFew. -/
namespace Go.Proofs.YtdbjojnejkklhaaDoor
set_option linter.unusedVariables false
open Go Go.RowKit
theorem sectors_nat (c : Cfg) (h : c.Good) : ∃ m : Nat, c.sectors = (m : Int) ∧ 1 ≤ m ∧ m ≤ 128 := by
  obtain ⟨b0, b1⟩ := sectors_bd c h
  have b2 := h.st0
  have b3 := h.st1
  have e : c.sectors = 1 + c.slots * c.k + c.stripes := rfl
  refine ⟨c.sectors.toNat, ?_, ?_, ?_⟩ <;> omega
theorem n_nat (c : Cfg) (h : c.Good) : ∃ n : Nat, c.n = (n : Int) ∧ 1 ≤ n ∧ n ≤ 8 := by
  have b1 := h.k0
  have b2 := h.k1
  have b3 := h.n1
  refine ⟨c.n.toNat, ?_, ?_, ?_⟩ <;> omega
theorem few_bit (B i : Nat) (hB : B < 18446744073709551616) : (Go.bits .and .u64 ((B : Int) / 2 ^ i) 1 == 0) = !Few.bit B i := by
  have e1 : ((B : Int) / 2 ^ i) = ((B / 2 ^ i : Nat) : Int) := by push_cast; rfl
  have h1 : B / 2 ^ i < 2 ^ 64 := Nat.lt_of_le_of_lt (Nat.div_le_self _ _) hB
  have e2 := u64_and_nat (B / 2 ^ i) 1 h1 (by decide)
  rw [e1, show (1 : Int) = ((1 : Nat) : Int) from rfl, e2, Nat.and_one_is_mod]
  unfold Few.bit
  rcases Nat.mod_two_eq_zero_or_one (B / 2 ^ i) with h | h <;> rw [h] <;> rfl
def FewRel (w W1 : World) (g r : Nat) (c : Cfg) (m : Nat) (P : Nat → Dsk) (i : Nat) (wr : World) : Prop :=
  ∃ R, Filled c.n.toNat m P R i ∧ RackAt (fun b => b < W1.heap.size) wr r R ∧ Ext w wr ∧ CBlk wr g c
set_option maxRecDepth 100000 in
set_option maxHeartbeats 2000000 in
theorem superFew_c (k n stripes slots G : Int) (how : Bool) (w : World) (hg : EtLaid w) (hG : (Lit.int .u64 G).wf = true) :
    Calls Tryd.prog 11 #[.int .i64 k, .int .i64 n, .int .i64 stripes, .int .i64 slots, .int .u64 G, .bool how] w fun e w' => e = .returned (.bool true) ∧ Ext w w' := by
  have HG := hid hg
  have hzc := zero_cfg
  have HCS := hid Cfg.A_size
  have hbz := built_cfg0
  obtain ⟨q0, q1⟩ := bounds_u64 hG
  obtain ⟨B, rfl⟩ := Int.eq_ofNat_of_zero_le q0
  have HB64 : Hid (B < 18446744073709551616) := hid (by omega)
  clear hg hG q0 q1
  go_enter Tryd.func11, Tryd.ntmps11
  go_wp2_with fail
  refine (kconfig_c k n stripes slots w).mono ?_
  rintro e w1 ⟨rfl, x1⟩
  have HGD := hid (keepCfg_good k n stripes slots)
  generalize keepCfg k n stripes slots = c at *
  obtain ⟨W1, hW1⟩ : ∃ W, w1.alloc (.cells (Cfg.A c) 59) = W := ⟨_, rfl⟩
  have X1 := hid (show Ext w W1 from hW1 ▸ x1.alloc _)
  have HC := hid (show W1.heap[w1.heap.size]? = some (.cells (Cfg.A c) 59 (0, 0)) from hW1 ▸ heap_alloc_new _ _)
  have hbs : (w1.alloc (.cells (Cfg.A Cfg.zero) 59)).heap[w1.heap.size]? = some (.cells (Cfg.A Cfg.zero) 59 (0, 0)) := block_alloc
  clear x1
  go_wp2_with (refine wpList_store_whole rfl 59 _ _ rfl w1.heap.size rfl (Cfg.A c) _ rfl 59 ?_ hbs ?_ ?_ ?_; (rw [HCS.out]; exact aggCfg); (rw [HCS.out, HCS.out]); exact Cfg.A_one _)
  rw [setRow_alloc, hW1]
  clear hbs hW1
  have HLT := hid (lt_of_block HC.out)
  generalize w1.heap.size = g at *
  obtain ⟨m, hm, m1, m128⟩ := sectors_nat c HGD.out
  obtain ⟨nn, hn, n1, n8⟩ := n_nat c HGD.out
  have xd : Ext W1 W1.drew := (Ext.refl W1).drew
  have lc : Hid (∀ x : SW Ext W1.drew, ∀ j v, (Cfg.A c).toList[j]? = some v → x.w.cell? ((⟨g, 0, none⟩ : Addr).add j) = some v) := hid fun x => agg_cells ((Ext.trans xd x.ext).at HC.out)
  have c2 : ∀ x : SW Ext W1.drew, x.w.cell? ⟨g, 2, none⟩ = some (.int .i64 nn) := fun x => (cell_at ((Ext.trans xd x.ext).at HC.out)).trans (by rw [Cfg.A2, hn])
  have sc : Hid (∀ x : SW Ext W1.drew, Calls Tryd.prog 35 #[.agg (Cfg.A c)] x.w fun e w'' => e = .returned (.int .i64 m) ∧ Ext x.w w'') := hid fun x => by
    have := ssectors_c c HGD.out x.w
    rw [hm] at this
    exact this
  have HM := hid hm; have HN := hid hn
  have HAG := hid (cfg_agg c)
  clear hm hn
  refine wp_region_rely_all (S := Ext) (.one [0, 1, 2, 3] 4 (.fin [5, 6, 7, 8, 9])) (by kernel_rfl) (by kernel_rfl) (fun _ _ d _ _ h => by cases d <;> exact h) ?_
  rw [wpS]
  simp only [opsAt, List.map_cons, List.map_nil, Array.getD_eq_getD_getElem?, List.getElem?_toArray, List.getElem?_cons_succ, List.getElem?_cons_zero, Option.getD_some]
  iterate 2 ((refine wpSQ_step (fun K hK => ?_); go_simp; first | (refine hK _ ?_; clear hK K) | (apply Exists.intro; refine ⟨fun x => ?_, hK _ ?_⟩; (fail); clear hK K)))
  refine wpSQ_load_agg 59 _ rfl ⟨g, 0, none⟩ rfl (Cfg.A c) rfl HAG.out lc.out ?_
  (refine wpSQ_step (fun K hK => ?_); go_simp; first | (refine hK _ ?_; clear hK K) | (apply Exists.intro; refine ⟨fun x => ?_, hK _ ?_⟩; (exact sc.out x); clear hK K))
  refine wpSQ_nil ?_
  intro V1 hV1
  refine wpS_loud fun K hK => ?_
  go_wp2_with fail
  refine (at_new nn m n1 n8 m1 m128 V1).mono ?_
  rintro e w2 ⟨r, rfl, h2, x2⟩
  go_wp2
  refine hK _ _ x2 ?_
  clear hK K
  rw [wpS]
  simp only [opsAt, List.map_cons, List.map_nil, Array.getD_eq_getD_getElem?, List.getElem?_toArray, List.getElem?_cons_succ, List.getElem?_cons_zero, Option.getD_some]
  iterate 5 ((refine wpSQ_step (fun K hK => ?_); go_simp; first | (refine hK _ ?_; clear hK K) | (apply Exists.intro; refine ⟨fun x => ?_, hK _ ?_⟩; (fail); clear hK K)))
  refine wpSQ_nil ?_
  intro V2 hV2
  have HR0 : Hid (FewRel w W1 g r c m (Few.P c m B how) 0 V2) := hid ⟨Rck.new nn m, by
    rw [show c.n.toNat = nn by have := HN.out; omega]; exact Filled.start nn m _ n1, (h2.less fun b hb => Nat.lt_of_lt_of_le hb (Ext.trans xd hV1).size).ext hV2, Ext.trans X1.out (Ext.trans xd (Ext.trans hV1 (Ext.trans x2 hV2))), (Ext.trans xd (Ext.trans hV1 (Ext.trans x2 hV2))).at HC.out⟩
  clear h2 x2 hV1 hV2 lc c2 sc xd
  go_wp2
  go_loopw [16, 17] (fun u v wr => ∃ i : Nat, v = .int .i64 i ∧ u = .int .i64 (Few.left B i) ∧ i ≤ nn ∧ FewRel w W1 g r c m (Few.P c m B how) i wr) (fun _ v _ => nn - (intOf v).toNat)
  case atStart => exact ⟨0, rfl, rfl, by omega, HR0.out⟩
  case round =>
    clear HR0
    obtain ⟨i, rfl, rfl, hi, R, hst, hra, hx, hc⟩ := hrel
    have HX := hid hx; have HRA := hid hra; have HCW := hid hc
    have hlf := Few.left_le B i
    have c2 : wr.cell? ⟨g, 2, none⟩ = some (.int .i64 nn) := (cell_at hc).trans (by rw [Cfg.A2, HN.out])
    clear hx hra hc
    by_cases hlt : i < nn
    · have i0 : (0 : Int) ≤ (i : Int) := by omega
      have i1 : (i : Int) < (nn : Int) := by omega
      have i8 : (i : Int) < 8 := by omega
      have hd : i < c.n.toNat := by have := HN.out; omega
      have hB := Few.B_ok c m i
      obtain ⟨R', hw, hst'⟩ := (hst.fill hd).superPut rfl HGD.out (by rw [HM.out]; omega) hd ⟨Dsk.new_len m, rfl⟩
      have HW := hid hw
      have HST : Hid (Fill c.n.toNat m (Few.P c m B how) R' i (Few.B c m i)) := hid hst'
      have hP : Few.P c m B how i = if Few.bit B i then (if how then (Few.B c m i).die else (Few.B c m i).rotted 0 i 7) else Few.B c m i := rfl
      have hL : Few.left B (i + 1) = Few.left B i + if Few.bit B i then 0 else 1 := rfl
      have hbit := few_bit B i HB64.out
      clear hst hw hst'
      go_wp2_with (refine wpList_load_agg rfl 59 _ rfl ⟨g, 0, none⟩ rfl (Cfg.A c) HAG.out (agg_cells HCW.out) ?_)
      refine (sput_c HRA.out c i).mono ?_
      rintro e w3 ⟨rfl, h3, k3⟩
      rw [HW.out] at h3 ⊢
      simp only [oErr]
      have H3 := hid h3
      have X3 := hid (Keeps.ext HX.out k3 fun q hq => Nat.lt_of_lt_of_le hq X1.out.size)
      have HC3 := hid (k3.at HCW.out fun q => q HLT.out)
      clear h3 k3
      rcases hb : Few.bit B i with _ | _
      · rw [hb] at hbit hL
        simp only [Bool.not_false, Bool.false_eq_true, if_false] at hbit hL
        have HL := hid hL
        have HF : Hid (FewRel w W1 g r c m (Few.P c m B how) (i + 1) w3) := hid ⟨R', by
          have := HST.out
          have e : Few.P c m B how i = Few.B c m i := by rw [hP, hb]; rfl
          rw [← e] at this
          exact this.filled, H3.out, X3.out, HC3.out⟩
        clear hL hP hb hB
        go_wp2
        go_roundw
        case rel => exact ⟨i + 1, by go_num, by rw [HL.out]; go_num, by omega, HF.out⟩
        case measure => simp [intOf]; omega
      · rw [hb] at hbit hL
        simp only [Bool.not_true, if_true, Nat.add_zero] at hbit hL
        have HL := hid hL
        rcases how with _ | _
        · have HF : Hid (∀ w4, RackAt (fun b => b < W1.heap.size) w4 r (R'.rot i 0 i 7) → Keeps (fun b => b < W1.heap.size) w3 w4 → FewRel w W1 g r c m (Few.P c m B false) (i + 1) w4) := hid fun w4 h4 k4 => ⟨_, by
            have := HST.out.rot hd hB i 7 (by omega) (by omega) m1
            have e : Few.P c m B false i = (Few.B c m i).rotted 0 i 7 := by rw [hP, hb]; rfl
            rw [← e] at this
            exact this.filled, h4, Keeps.ext X3.out k4 fun q hq => Nat.lt_of_lt_of_le hq X1.out.size, k4.at HC3.out fun q => q HLT.out⟩
          clear hL hP hb hB
          go_wp2_with fail
          refine (at_rot H3.out i 0 i 7 (by omega)).mono ?_
          rintro e w4 ⟨rfl, h4, k4⟩
          obtain ⟨b6, hb6⟩ : ∃ b, R'.rotOk i 0 i 7 = b := ⟨_, rfl⟩
          rw [hb6]
          have HF4 := hid (HF.out w4 h4 k4)
          clear hb6 h4 k4 HF
          go_wp2
          go_roundw
          case rel => exact ⟨i + 1, by go_num, by rw [HL.out], by omega, HF4.out⟩
          case measure => simp [intOf]; omega
        · have HF : Hid (∀ w4, RackAt (fun b => b < W1.heap.size) w4 r (R'.die i) → Keeps (fun b => b < W1.heap.size) w3 w4 → FewRel w W1 g r c m (Few.P c m B true) (i + 1) w4) := hid fun w4 h4 k4 => ⟨_, by
            have := HST.out.die hd hB.1
            have e : Few.P c m B true i = (Few.B c m i).die := by rw [hP, hb]; rfl
            rw [← e] at this
            exact this.filled, h4, Keeps.ext X3.out k4 fun q hq => Nat.lt_of_lt_of_le hq X1.out.size, k4.at HC3.out fun q => q HLT.out⟩
          clear hL hP hb hB
          go_wp2_with fail
          refine (at_die H3.out i).mono ?_
          rintro e w4 ⟨rfl, h4, k4⟩
          obtain ⟨b6, hb6⟩ : ∃ b, R'.has i = b := ⟨_, rfl⟩
          rw [hb6]
          have HF4 := hid (HF.out w4 h4 k4)
          clear hb6 h4 k4 HF
          go_wp2
          go_roundw
          case rel => exact ⟨i + 1, by go_num, by rw [HL.out], by omega, HF4.out⟩
          case measure => simp [intOf]; omega
    · obtain rfl : nn = i := by omega
      have hnn : c.n.toNat = nn := by have := HN.out; omega
      rw [hnn] at hst
      have hfind := Few.find (c := c) HGD.out (m := m) (G := B) (how := how) (by rw [HM.out]; omega) (R := R) (by rw [hnn]; exact hst)
      rw [hnn] at hfind
      have c1 : wr.cell? ⟨g, 1, none⟩ = some (.int .i64 c.k) := (cell_at HCW.out).trans (Cfg.A1 c)
      have hk0 := HGD.out.k0
      generalize Few.left B nn = L at *
      by_cases hL : c.k ≤ (L : Int)
      · rw [if_pos hL] at hfind
        have HF := hid hfind
        clear hst hfind hnn
        go_wp2_with fail
        refine (sfind_c HRA.out).mono ?_
        rintro e w3 ⟨rfl, x3⟩
        rw [HF.out]
        simp only [oErr]
        have X4 := hid (Ext.trans HX.out (x3.alloc (.cells (Cfg.A c) 59)))
        have HC4 := hid (Ext.at (x3.alloc (.cells (Cfg.A c) 59)) HCW.out)
        have HD4 : Hid ((w3.alloc (.cells (Cfg.A c) 59)).heap[w3.heap.size]? = some (.cells (Cfg.A c) 59 (0, 0))) := hid block_alloc
        have hbs : (w3.alloc (.cells (Cfg.A Cfg.zero) 59)).heap[w3.heap.size]? = some (.cells (Cfg.A Cfg.zero) 59 (0, 0)) := block_alloc
        have HE := hid (cfg_eql c c)
        rw [Cfg.eqB_self] at HE
        have c3 : ((w3.alloc (.cells (Cfg.A Cfg.zero) 59)).setRow w3.heap.size (Cfg.A c)).cell? ⟨g, 1, none⟩ = some (.int .i64 c.k) := by rw [setRow_alloc]; exact (cell_at HC4.out).trans (Cfg.A1 c)
        clear x3 c1 c2
        go_wp2_with (first
          | (refine wpList_store_whole rfl 59 _ _ rfl w3.heap.size rfl (Cfg.A c) _ rfl 59 ?_ hbs ?_ ?_ ?_; (rw [HCS.out]; exact aggCfg); (rw [HCS.out, HCS.out]); exact Cfg.A_one _)
          | (rw [setRow_alloc]; refine wpListG_load_agg 59 _ rfl ⟨w3.heap.size, 0, none⟩ rfl (Cfg.A c) rfl (cfg_agg c) (agg_cells HD4.out) ?_)
          | (refine wpListG_load_agg 59 _ rfl ⟨g, 0, none⟩ rfl (Cfg.A c) rfl (cfg_agg c) (agg_cells HC4.out) ?_)
          | (refine wpListG_eql .eql 59 _ _ _ rfl (Cfg.A c) (Cfg.A c) rfl rfl (.bool true) rfl (cfg_guard _ _ _ _ _ _) (HE.out _) ?_))
        clear c3 hbs
        refine (superRuns_c _ (HG.out.only X4.out (fun x => x))).mono ?_
        rintro e w9 ⟨rfl, x9⟩
        have X9 := hid (Ext.trans X4.out x9)
        clear x9
        go_wp2
        go_ret
        exact ⟨rfl, X9.out⟩
      · rw [if_neg hL] at hfind
        have HF := hid hfind
        clear hst hfind hnn
        go_wp2_with fail
        refine (sfind_c HRA.out).mono ?_
        rintro e w3 ⟨rfl, x3⟩
        rw [HF.out]
        simp only [oErr]
        have X4 := hid (Ext.trans HX.out (x3.alloc (.cells (Cfg.A Cfg.zero) 59)))
        have HC4 := hid (Ext.at (x3.alloc (.cells (Cfg.A Cfg.zero) 59)) HCW.out)
        have HD4 : Hid ((w3.alloc (.cells (Cfg.A Cfg.zero) 59)).heap[w3.heap.size]? = some (.cells (Cfg.A Cfg.zero) 59 (0, 0))) := hid block_alloc
        have hbs : (w3.alloc (.cells (Cfg.A Cfg.zero) 59)).heap[w3.heap.size]? = some (.cells (Cfg.A Cfg.zero) 59 (0, 0)) := block_alloc
        have HE := hid (cfg_eql Cfg.zero Cfg.zero)
        rw [Cfg.eqB_self] at HE
        have HER : Hid ((Err.fault sSuperFind L (.no 7)).kind = 7) := hid rfl
        obtain ⟨er, hre⟩ : ∃ er, Err.fault sSuperFind L (.no 7) = er := ⟨_, rfl⟩
        rw [hre] at HER ⊢
        have c3 : ((w3.alloc (.cells (Cfg.A Cfg.zero) 59)).setRow w3.heap.size (Cfg.A Cfg.zero)).cell? ⟨g, 1, none⟩ = some (.int .i64 c.k) := by rw [setRow_alloc]; exact (cell_at HC4.out).trans (Cfg.A1 c)
        clear x3 c1 c2 hre HF
        go_wp2_with (refine wpList_store_whole rfl 59 _ _ rfl w3.heap.size rfl (Cfg.A Cfg.zero) _ rfl 59 ?_ hbs ?_ ?_ ?_; (rw [HCS.out]; exact aggCfg); (rfl); exact Cfg.A_one _)
        rw [setRow_alloc]
        clear c3 hbs
        refine (kind_err er _ (HG.out.only X4.out (fun x => x))).mono ?_
        rintro e w8 ⟨rfl, x8⟩
        rw [HER.out]
        have X8 := hid (Ext.trans X4.out x8)
        have HD8 := hid (Ext.at x8 HD4.out)
        clear x8
        go_wp2_with (first
          | (refine wpListG_load_agg 59 _ rfl ⟨w3.heap.size, 0, none⟩ rfl (Cfg.A Cfg.zero) rfl (cfg_agg _) (agg_cells HD8.out) ?_)
          | (refine wpListG_eql .eql 59 _ _ _ rfl (Cfg.A Cfg.zero) (Cfg.A Cfg.zero) rfl rfl (.bool true) rfl (cfg_guard _ _ _ _ _ _) (HE.out _) ?_))
        refine (superRuns_c _ (HG.out.only X8.out (fun x => x))).mono ?_
        rintro e w9 ⟨rfl, x9⟩
        have X9 := hid (Ext.trans X8.out x9)
        clear x9
        go_wp2
        go_ret
        exact ⟨rfl, X9.out⟩
end Go.Proofs.YtdbjojnejkklhaaDoor

/- A superblock that is written again, changed, elder: as plain data. No program stands here. -/
namespace Go.Proofs.YtdbjojnejkklhaaDoor
set_option linter.unusedVariables false
namespace By
def C (a b s t : Nat) : Cfg := ⟨7, a, b, s, t⟩
theorem keep (k n stripes slots : Int) : ∃ a b s t : Nat, keepCfg k n stripes slots = C a b s t ∧ 1 ≤ a ∧ a ≤ 4 ∧ a ≤ b ∧ b ≤ 6 ∧ 1 ≤ s ∧ s ≤ 6 ∧ 1 ≤ t ∧ t ≤ 3 := by
  obtain ⟨a0, a1⟩ := within_bd k 1 4 (by omega)
  obtain ⟨b0, b1⟩ := within_bd n (within k 1 4) 6 (by omega)
  obtain ⟨c0, c1⟩ := within_bd stripes 1 6 (by omega)
  obtain ⟨d0, d1⟩ := within_bd slots 1 3 (by omega)
  unfold keepCfg C
  generalize within n (within k 1 4) 6 = N at *
  generalize within k 1 4 = K at *
  generalize within stripes 1 6 = S at *
  generalize within slots 1 3 = T at *
  refine ⟨K.toNat, N.toNat, S.toNat, T.toNat, ?_, by omega, by omega, by omega, by omega, by omega, by omega, by omega, by omega⟩
  rw [Int.toNat_of_nonneg (by omega), Int.toNat_of_nonneg (by omega), Int.toNat_of_nonneg (by omega), Int.toNat_of_nonneg (by omega)]
/-- The first nine bytes of its superblock. -/
def nine (a b s t : Nat) : List Nat := [7, 0, 0, 0, a, b, s, t, 0]
theorem take9 (a b s t : Nat) (d : Int) : ((C a b s t).block d).data.take 9 = nine a b s t := by
  show ((Frm.low 4 7 ++ [a, b, s, t]) ++ List.replicate 100 0).take 9 = _
  rw [show Frm.low 4 7 = [7, 0, 0, 0] from rfl]
  rfl
def g (c : Cfg) (d : Int) (x : Nat) : Frm := { c.block d with data := (c.block d).data.set (8 + x) 1 }
def h (c : Cfg) (d : Int) : Frm := { c.block d with gen := 2 }
theorem set8 (c : Cfg) (d : Int) (x : Nat) : (c.block d).data.set (8 + x) 1 = c.bytes ++ (List.replicate 100 0).set x 1 := by
  show (c.bytes ++ List.replicate 100 0).set (8 + x) 1 = _
  rw [List.set_append_right _ _ (by rw [Cfg.bytes_len]; omega), Cfg.bytes_len, show 8 + x - 8 = x by omega]
theorem g_ok (c : Cfg) (hc : c.Good) (d : Int) (x : Nat) : (g c d x).Ok := by
  have hb := Cfg.block_ok c d hc
  refine ⟨by show ((c.block d).data.set _ _).length = 108; rw [List.length_set]; exact hb.len, fun y hy => ?_⟩
  rcases List.mem_or_eq_of_mem_set hy with h | h
  · exact hb.byte y h
  · omega
theorem h_ok (c : Cfg) (hc : c.Good) (d : Int) : (h c d).Ok := ⟨(Cfg.block_ok c d hc).len, (Cfg.block_ok c d hc).byte⟩
theorem g_right (c : Cfg) (d x : Nat) (hd : d < 8) : (g c d x).right = true := Cfg.block_right c d hd
theorem h_right (c : Cfg) (d : Nat) (hd : d < 8) : (h c d).right = true := by
  have h1 : (h c d).kind = 1 := rfl
  have h2 : (h c d).slot = d := rfl
  have h3 : (h c d).stripe = 0 := rfl
  have h4 : (h c d).gen = 2 := rfl
  exact Frm.right_of (by omega) (by omega) (by omega) (by omega) (by omega) (by omega) (by omega) (by omega)
theorem told_g (c : Cfg) (hc : c.Good) (d : Int) (x : Nat) (hx : x < 100) : Cfg.told (g c d x) d = none := by
  unfold Cfg.told
  have e : Cfg.parse (g c d x).data = c := by
    show Cfg.parse ((c.block d).data.set (8 + x) 1) = c
    rw [set8]; exact Cfg.parse_app c hc _
  rw [e, if_neg]
  rintro ⟨_, q⟩
  have q2 : (c.block d).data.set (8 + x) 1 = (c.block d).data := congrArg Frm.data q
  have q3 := congrArg (fun l => l.getD (8 + x) 5) q2
  have hl : (c.block d).data.length = 108 := (Cfg.block_ok c d hc).len
  simp only [List.getD_eq_getElem?_getD, List.getElem?_set_self (show 8 + x < (c.block d).data.length by omega), Option.getD_some] at q3
  have q4 : (c.block d).data[8 + x]? = some 0 := by
    show (c.bytes ++ List.replicate 100 0)[8 + x]? = some 0
    rw [List.getElem?_append_right (by rw [Cfg.bytes_len]; omega), Cfg.bytes_len, show 8 + x - 8 = x by omega]
    rw [List.getElem?_replicate, if_pos hx]
  rw [q4] at q3
  simp at q3
theorem told_h (c : Cfg) (hc : c.Good) (d : Int) : Cfg.told (h c d) d = none := by
  unfold Cfg.told
  have e : Cfg.parse (h c d).data = c := Cfg.parse_app c hc _
  rw [e, if_neg]
  rintro ⟨_, q⟩
  have q2 : (2 : Int) = 1 := congrArg Frm.gen q
  omega
/-- The rack behind each step. -/
structure St (R : Rck) (n m d : Nat) (b : List Nat) (told : Option Cfg) : Prop where
  live : Live R n m
  alive : (R.dsk d).dead = false
  read : (R.dsk d).read 0 = b
  told : (R.dsk d).told d = told
variable {R : Rck} {n m d : Nat} {b : List Nat} {o : Option Cfg}
theorem St.readE (s : St R n m d b o) (hd : d < n) (hm : 1 ≤ m) : R.readE d 0 = none := s.live.readE (s := 0) hd s.alive (by omega)
theorem St.superGet (s : St R n m d b o) (hd : d < n) (hm : 1 ≤ m) : R.superGet d = o := (s.live.superGet hm hd).trans s.told
theorem St.put {c : Cfg} (hl : Live R n m) (ha : (R.dsk d).dead = false) (hn : n = c.n.toNat) (hc : c.Good) (hm : c.sectors ≤ (m : Int)) (hd : d < n) : ∃ R', R.superPut c d = (none, R') ∧ St R' n m d (c.block d).bytes (some c) ∧ R'.get d 0 1 d 0 = some (c.block d) := by
  subst hn
  have hs : Super R c m := ⟨hl, hc, hm⟩
  have h8 : d < 8 := by have := hs.n8; omega
  have hlen := hl.secs d hd
  have hm1 := hs.m1
  obtain ⟨l2, e2⟩ := hl.setD (i := d) (Super.disk (R.dsk d) (c.block d).bytes) (by rw [Dsk.disk_len]; exact hlen) hd
  have e3 := e2 d
  rw [if_pos rfl] at e3
  have al : ((R.setD d (Super.disk (R.dsk d) (c.block d).bytes)).dsk d).dead = false := by rw [e3, Dsk.disk_dead]; exact ha
  have rd : ((R.setD d (Super.disk (R.dsk d) (c.block d).bytes)).dsk d).read 0 = (c.block d).bytes := by rw [e3]; exact Dsk.disk_read _ _ (by omega)
  refine ⟨_, hs.put hd ha, ⟨l2, al, rd, ?_⟩, ?_⟩
  · rw [e3]; exact Dsk.told_disk _ (by omega) ha c hc d h8
  · have e := l2.get (s := 0) hd (by omega) al 1 d 0
    rw [rd, Frm.get_bytes _ (Cfg.block_ok c d hc) (Cfg.block_right c d h8)] at e
    exact e.trans (if_pos ⟨rfl, rfl, fun _ => rfl⟩)
theorem St.write (s : St R n m d b o) (hd : d < n) (h8 : d < 8) (hm : 1 ≤ m) (f : Frm) (hf : f.Ok) (hr : f.right = true) (h1 : f.kind = 1) (h2 : f.slot = d) (h3 : f.stripe = 0) : ∃ R', R.write d 0 f.bytes = (none, R') ∧ St R' n m d f.bytes (Cfg.told f d) := by
  have hb := Frm.bytes_len f hf
  have hlen := s.live.secs d hd
  obtain ⟨l2, e2⟩ := s.live.setD (i := d) ((R.dsk d).write 0 f.bytes) (by rw [Dsk.write_len]; exact hlen) hd
  have e3 := e2 d
  rw [if_pos rfl] at e3
  have al : ((R.setD d ((R.dsk d).write 0 f.bytes)).dsk d).dead = false := by rw [e3]; exact s.alive
  have rd : ((R.setD d ((R.dsk d).write 0 f.bytes)).dsk d).read 0 = f.bytes := by rw [e3, Dsk.write_read, if_pos rfl]
  refine ⟨_, s.live.write (s := 0) hd s.alive (by omega) hb, ⟨l2, al, rd, ?_⟩⟩
  rw [Dsk.told_of _ d al f hf hr rd, if_pos ⟨h1, h2, h3⟩]
end By
end Go.Proofs.YtdbjojnejkklhaaDoor

/- The walk of SuperBytes. -/
namespace Go.Proofs.YtdbjojnejkklhaaDoor
set_option linter.unusedVariables false
open Go Go.RowKit
theorem FBlk.bytes {w : World} {g : Nat} {f : Frm} (h : FBlk w g f) (ok : f.Ok) : BytesAt w (some ⟨g, 4, none⟩) 108 f.data :=
  ⟨ok.len, by omega, ok.byte, .inr ⟨g, 4, rfl, fun i hi => (cell_at h).trans (Frm.A4 f i (by rw [ok.len]; exact hi))⟩⟩
theorem BytesAt.front {w : World} {b off n : Nat} {l : List Nat} (h : BytesAt w (some ⟨b, off, none⟩) n l) (m : Nat) (hm : m ≤ n) : BytesAt w (some ⟨b, off, none⟩) m (l.take m) := by
  have := h.sub 0 m (by omega)
  simpa using this
theorem Frm.A_gen (f : Frm) (x : Int) : (Frm.A f).setIfInBounds 3 (.int .i64 x) = Frm.A { f with gen := x } := by
  rw [Frm.A_def, Frm.A_def]; rfl
theorem FBlk.gen {w : World} {g : Nat} {f : Frm} (h : FBlk w g f) (x : Int) : FBlk (w.setCell ⟨g, 3, none⟩ (.int .i64 x)) g { f with gen := x } := by
  have := block_set h (i := 3) (.int .i64 x)
  rw [Frm.A_gen] at this
  exact this
attribute [local irreducible] wpSQ
set_option maxRecDepth 100000 in
set_option maxHeartbeats 2000000 in
theorem superBytes_c (k n stripes slots i at_ : Int) (w : World) (hg : EtLaid w) :
    Calls Tryd.prog 9 #[.int .i64 k, .int .i64 n, .int .i64 stripes, .int .i64 slots, .int .i64 i, .int .i64 at_] w fun e w' => e = .returned (.bool true) ∧ Ext w w' := by
  have HG := hid hg
  have hz := zero_frame
  have hzc := zero_cfg
  have HZ := hid (Frm.A_size _ zero_ok)
  have HCS := hid Cfg.A_size
  clear hg
  go_enter Tryd.func9, Tryd.ntmps9
  go_wp2_with fail
  refine (kconfig_c k n stripes slots w).mono ?_
  rintro e w1 ⟨rfl, x1⟩
  have hgd := keepCfg_good k n stripes slots
  obtain ⟨a, b, s, t, hC, ha1, ha4, hab, hb6, hs1, hs6, ht1, ht3⟩ := By.keep k n stripes slots
  rw [hC] at hgd ⊢
  obtain ⟨c, hc⟩ : ∃ c, By.C a b s t = c := ⟨_, rfl⟩
  rw [hc] at hgd ⊢
  have HGD := hid hgd
  have HCC := hid hc
  clear hgd hC hc
  obtain ⟨W1, hW1⟩ : ∃ W, w1.alloc (.cells (Cfg.A c) 59) = W := ⟨_, rfl⟩
  have X1 := hid (show Ext w W1 from hW1 ▸ x1.alloc _)
  have HC := hid (show W1.heap[w1.heap.size]? = some (.cells (Cfg.A c) 59 (0, 0)) from hW1 ▸ heap_alloc_new _ _)
  have hbs : (w1.alloc (.cells (Cfg.A Cfg.zero) 59)).heap[w1.heap.size]? = some (.cells (Cfg.A Cfg.zero) 59 (0, 0)) := block_alloc
  clear x1
  go_wp2_with (refine wpList_store_whole rfl 59 _ _ rfl w1.heap.size rfl (Cfg.A c) _ rfl 59 ?_ hbs ?_ ?_ ?_; (rw [HCS.out]; exact aggCfg); (rw [HCS.out, HCS.out]); exact Cfg.A_one _)
  rw [setRow_alloc, hW1]
  clear hbs hW1
  have HLT := hid (lt_of_block HC.out)
  generalize w1.heap.size = g at *
  obtain ⟨m, hm, m1, m128⟩ := sectors_nat c HGD.out
  have hn : c.n = (b : Int) := by rw [← HCC.out]; rfl
  have n1 : 1 ≤ b := by omega
  have n8 : b ≤ 8 := by omega
  have xd : Ext W1 W1.drew := (Ext.refl W1).drew
  have lc : Hid (∀ x : SW Ext W1.drew, ∀ j v, (Cfg.A c).toList[j]? = some v → x.w.cell? ((⟨g, 0, none⟩ : Addr).add j) = some v) := hid fun x => agg_cells ((Ext.trans xd x.ext).at HC.out)
  have c2 : ∀ x : SW Ext W1.drew, x.w.cell? ⟨g, 2, none⟩ = some (.int .i64 b) := fun x => (cell_at ((Ext.trans xd x.ext).at HC.out)).trans (by rw [Cfg.A2, hn])
  have sc : Hid (∀ x : SW Ext W1.drew, Calls Tryd.prog 35 #[.agg (Cfg.A c)] x.w fun e w'' => e = .returned (.int .i64 m) ∧ Ext x.w w'') := hid fun x => by
    have := ssectors_c c HGD.out x.w
    rw [hm] at this
    exact this
  have HM := hid hm; have HN := hid hn
  have HAG := hid (cfg_agg c)
  clear hm hn
  refine wp_region_rely_all (S := Ext) (.one [0, 1, 2, 3] 4 (.fin [5, 6, 7, 8, 9])) (by kernel_rfl) (by kernel_rfl) (fun _ _ d _ _ h => by cases d <;> exact h) ?_
  rw [wpS]
  simp only [opsAt, List.map_cons, List.map_nil, Array.getD_eq_getD_getElem?, List.getElem?_toArray, List.getElem?_cons_succ, List.getElem?_cons_zero, Option.getD_some]
  iterate 2 ((refine wpSQ_step (fun K hK => ?_); go_simp; first | (refine hK _ ?_; clear hK K) | (apply Exists.intro; refine ⟨fun x => ?_, hK _ ?_⟩; (fail); clear hK K)))
  refine wpSQ_load_agg 59 _ rfl ⟨g, 0, none⟩ rfl (Cfg.A c) rfl HAG.out lc.out ?_
  (refine wpSQ_step (fun K hK => ?_); go_simp; first | (refine hK _ ?_; clear hK K) | (apply Exists.intro; refine ⟨fun x => ?_, hK _ ?_⟩; (exact sc.out x); clear hK K))
  refine wpSQ_nil ?_
  intro V1 hV1
  refine wpS_loud fun K hK => ?_
  go_wp2_with fail
  refine (at_new b m n1 n8 m1 m128 V1).mono ?_
  rintro e w2 ⟨r, rfl, h2, x2⟩
  go_wp2
  refine hK _ _ x2 ?_
  clear hK K
  rw [wpS]
  simp only [opsAt, List.map_cons, List.map_nil, Array.getD_eq_getD_getElem?, List.getElem?_toArray, List.getElem?_cons_succ, List.getElem?_cons_zero, Option.getD_some]
  iterate 5 ((refine wpSQ_step (fun K hK => ?_); go_simp; first | (refine hK _ ?_; clear hK K) | (apply Exists.intro; refine ⟨fun x => ?_, hK _ ?_⟩; (fail); clear hK K)))
  refine wpSQ_nil ?_
  intro V2 hV2
  have H2 := hid ((h2.less fun b hb => Nat.lt_of_lt_of_le hb (Ext.trans xd hV1).size : RackAt (fun b => b < W1.heap.size) w2 r (Rck.new b m)).ext hV2)
  have XX := Ext.trans xd (Ext.trans hV1 (Ext.trans x2 hV2))
  have X2 := hid (Ext.trans X1.out XX)
  have HC2 := hid (XX.at HC.out)
  have c2 : V2.cell? ⟨g, 2, none⟩ = some (.int .i64 b) := (cell_at (XX.at HC.out)).trans (by rw [Cfg.A2, HN.out])
  have b0 : (1 : Int) ≤ (b : Int) := by omega
  have b8 : (b : Int) ≤ 8 := by omega
  clear h2 x2 hV1 hV2 lc sc xd XX
  go_wp2_with fail
  refine (within_c i 0 ((b : Int) - 1) V2 (by omega) (by omega) (by omega)).mono ?_
  rintro e w' ⟨rfl, rfl⟩
  obtain ⟨d0, d1⟩ := within_bd i 0 ((b : Int) - 1) (by omega)
  generalize within i 0 ((b : Int) - 1) = dn at *
  obtain ⟨d, rfl⟩ := Int.eq_ofNat_of_zero_le d0
  have hd : d < b := by omega
  have d8 : d < 8 := by omega
  obtain ⟨R1, hp1, st1, hg1⟩ := By.St.put (c := c) (d := d) (Live.new b m n1) (by rw [Live.new_dsk b m d hd]; rfl) (by have := HN.out; omega) HGD.out (by rw [HM.out]; omega) hd
  have HP1 := hid hp1; have ST1 := hid st1; have HG1 := hid hg1
  clear hp1 st1 hg1 c2
  go_wp2_with (refine wpList_load_agg rfl 59 _ rfl ⟨g, 0, none⟩ rfl (Cfg.A c) HAG.out (agg_cells HC2.out) ?_)
  refine (sput_c H2.out c d).mono ?_
  rintro e w3 ⟨rfl, h3, k3⟩
  rw [HP1.out] at h3 ⊢
  simp only [oErr]
  have H3 := hid h3
  have X3 := hid (Keeps.ext X2.out k3 fun q hq => Nat.lt_of_lt_of_le hq X1.out.size)
  have HC3 := hid (k3.at HC2.out fun q => q HLT.out)
  clear h3 k3
  go_wp2_with fail
  refine (at_get H3.out d 0 1 d 0).mono ?_
  rintro e w4 ⟨rfl, x4⟩
  rw [HG1.out]
  simp only [gotO, Option.getD_some, Option.isSome_some]
  have HFO := hid (Cfg.block_ok c d HGD.out)
  have HFR := hid (Cfg.block_right c d d8)
  have HF9 : Hid ((c.block d).data.take 9 = By.nine a b s t) := hid (by rw [← HCC.out]; exact By.take9 a b s t d)
  have HFG : Hid ((c.block d).gen = 1) := hid rfl
  have HGF : Hid (∀ x, By.g c d x = { c.block d with data := (c.block d).data.set (8 + x) 1 }) := hid fun _ => rfl
  have HHF : Hid (By.h c d = { c.block d with gen := 2 }) := hid rfl
  have HST := hid (Frm.A_size _ HFO.out)
  obtain ⟨f, hf⟩ : ∃ f, c.block d = f := ⟨_, rfl⟩
  rw [hf] at HFO HFR HF9 HFG HGF HHF HST ST1 ⊢
  have hbs : (w4.alloc (.cells (Frm.A Frm.zero) 42)).heap[w4.heap.size]? = some (.cells (Frm.A Frm.zero) 42 (0, 0)) := block_alloc
  have HF4 : Hid (FBlk (w4.alloc (.cells (Frm.A f) 42)) w4.heap.size f) := hid block_alloc
  have X4 := hid (Ext.trans X3.out (x4.alloc (.cells (Frm.A f) 42)))
  have XR4 := hid (x4.alloc (.cells (Frm.A f) 42))
  have HC4 := hid (Ext.at (x4.alloc (.cells (Frm.A f) 42)) HC3.out)
  have HG4 : Hid (w3.heap.size ≤ w4.heap.size ∧ w4.heap.size < (w4.alloc (.cells (Frm.A f) 42)).heap.size) := hid ⟨x4.size, by simp⟩
  clear x4
  go_wp2_with (refine wpList_store_whole rfl 42 _ _ rfl w4.heap.size rfl (Frm.A f) _ rfl 42 ?_ hbs ?_ ?_ ?_; (rw [HST.out]; exact aggFrame); (rw [HST.out, HZ.out]); exact Frm.A_one _)
  rw [setRow_alloc]
  clear hbs
  generalize w4.alloc (.cells (Frm.A f) 42) = v4 at *
  generalize w4.heap.size = g4 at *
  have xd : Ext v4 v4.drew := (Ext.refl v4).drew
  have cg : ∀ x : SW Ext v4.drew, x.w.cell? ⟨g4, 3, none⟩ = some (.int .i64 1) := fun x => (cell_at ((Ext.trans xd x.ext).at HF4.out)).trans (by rw [Frm.A3, HFG.out])
  have c0 : ∀ x : SW Ext v4.drew, x.w.cell? ⟨g, 0, none⟩ = some (.int .i64 7) := fun x => (cell_at ((Ext.trans xd x.ext).at HC4.out)).trans (by rw [Cfg.A0, ← HCC.out]; rfl)
  have c1 : ∀ x : SW Ext v4.drew, x.w.cell? ⟨g, 1, none⟩ = some (.int .i64 a) := fun x => (cell_at ((Ext.trans xd x.ext).at HC4.out)).trans (by rw [Cfg.A1, ← HCC.out]; rfl)
  have c2 : ∀ x : SW Ext v4.drew, x.w.cell? ⟨g, 2, none⟩ = some (.int .i64 b) := fun x => (cell_at ((Ext.trans xd x.ext).at HC4.out)).trans (by rw [Cfg.A2, ← HCC.out]; rfl)
  have c3 : ∀ x : SW Ext v4.drew, x.w.cell? ⟨g, 3, none⟩ = some (.int .i64 s) := fun x => (cell_at ((Ext.trans xd x.ext).at HC4.out)).trans (by rw [Cfg.A3, ← HCC.out]; rfl)
  have c4 : ∀ x : SW Ext v4.drew, x.w.cell? ⟨g, 4, none⟩ = some (.int .i64 t) := fun x => (cell_at ((Ext.trans xd x.ext).at HC4.out)).trans (by rw [Cfg.A4, ← HCC.out]; rfl)
  have a7 : (a : Int) % 256 = (a : Int) := by omega
  have b7 : (b : Int) % 256 = (b : Int) := by omega
  have s7 : (s : Int) % 256 = (s : Int) := by omega
  have t7 : (t : Int) % 256 = (t : Int) := by omega
  refine wp_region_rely_all (S := Ext) (.one [0, 1, 2, 3, 4, 5, 6, 7, 8, 9, 10, 11, 12, 13, 14, 15, 16, 17, 18, 19, 20, 21, 22, 23, 24] 25 (.fin [26, 27, 28])) (by kernel_rfl) (by kernel_rfl) (fun _ _ d _ _ h => by cases d <;> exact h) ?_
  rw [wpS]
  simp only [opsAt, List.map_cons, List.map_nil, Array.getD_eq_getD_getElem?, List.getElem?_toArray, List.getElem?_cons_succ, List.getElem?_cons_zero, Option.getD_some]
  iterate 25 ((refine wpSQ_step (fun K hK => ?_); go_simp; first | (refine hK _ ?_; clear hK K) | (apply Exists.intro; refine ⟨fun x => ?_, hK _ ?_⟩; (fail); clear hK K)))
  refine wpSQ_nil ?_
  intro V5 hV5
  have X5 := hid (Ext.trans xd hV5)
  clear cg c0 c1 c2 c3 c4 a7 b7 s7 t7 hV5
  refine wpS_loud fun K hK => ?_
  go_wp2
  rw [show (#[Value.int .u8 7, .int .u8 0, .int .u8 0, .int .u8 0, .int .u8 a, .int .u8 b, .int .u8 s, .int .u8 t, .int .u8 0] : Array Value) = bA (By.nine a b s t) from by rw [bA_def]; rfl]
  refine hK _ _ ((Ext.refl V5).alloc _) ?_
  clear hK K
  have hn9 : ∀ x ∈ By.nine a b s t, x < 256 := by
    intro x hx
    unfold By.nine at hx
    simp only [List.mem_cons, List.not_mem_nil, or_false] at hx
    omega
  have sm : Hid (∀ x : SW Ext (V5.alloc (.cells (bA (By.nine a b s t)) 5)), Calls Tryd.prog 20 #[.slice (some ⟨g4, 4, none⟩) 9 108, .slice (some ⟨V5.heap.size, 0, none⟩) 9 9] x.w fun e w'' => e = .returned (.bool true) ∧ Ext x.w w'') := hid fun x => by
    have e1 : Ext V5 x.w := Ext.trans ((Ext.refl V5).alloc _) x.ext
    have f0 : FBlk x.w g4 f := Ext.at (Ext.trans X5.out e1) HF4.out
    have f1 := (FBlk.bytes f0 HFO.out).front 9 (by omega)
    rw [HF9.out] at f1
    have f2 : Blk x.w V5.heap.size (By.nine a b s t) := x.ext.at (heap_alloc_new V5 _)
    have := same_c 108 9 f1 (f2.bytes (n := 9) hn9 rfl (by omega))
    rw [decide_eq_true rfl] at this
    exact this
  rw [wpS]
  simp only [opsAt, List.map_cons, List.map_nil, Array.getD_eq_getD_getElem?, List.getElem?_toArray, List.getElem?_cons_succ, List.getElem?_cons_zero, Option.getD_some]
  (refine wpSQ_step (fun K hK => ?_); go_simp; first | (refine hK _ ?_; clear hK K) | (apply Exists.intro; refine ⟨fun x => ?_, hK _ ?_⟩; (exact sm.out x); clear hK K))
  iterate 2 ((refine wpSQ_step (fun K hK => ?_); go_simp; first | (refine hK _ ?_; clear hK K) | (apply Exists.intro; refine ⟨fun x => ?_, hK _ ?_⟩; (fail); clear hK K)))
  refine wpSQ_nil ?_
  intro V6 hV6
  have XR6 := hid (Ext.trans XR4.out (Ext.trans X5.out (Ext.trans ((Ext.refl V5).alloc _) hV6)))
  have XR6' := hid (Ext.trans X5.out (Ext.trans ((Ext.refl V5).alloc _) hV6))
  have X6 := hid (Ext.trans X4.out XR6'.out)
  have HC6 := hid (Ext.at XR6'.out HC4.out)
  have HF6 : Hid (FBlk V6 g4 f) := hid (Ext.at XR6'.out HF4.out)
  have hE6 := ST1.out.readE hd m1
  have hR6 := ST1.out.read
  have HE6 := hid hE6; have HRD6 := hid hR6
  clear hV6 sm hn9 hE6 hR6
  go_wp2_with fail
  refine (at_read (H3.out.ext XR6.out) d 0).mono ?_
  rintro e w7 (⟨er, q1, _⟩ | ⟨q1, p, rfl, hp, hsec, x7⟩)
  · exact absurd (HE6.out.symm.trans q1) (by simp)
  rw [show (0 : Int).toNat = 0 from rfl, HRD6.out] at hsec
  have HSEC7 := hid hsec
  have XR7 := hid (Ext.trans XR6.out x7)
  have X7 := hid (Ext.trans X6.out x7)
  have HC7 := hid (Ext.at x7 HC6.out)
  have HF7 : Hid (FBlk w7 g4 f) := hid (Ext.at x7 HF6.out)
  have HP7 : Hid (w3.heap.size ≤ p.blk ∧ p.blk < w7.heap.size) := hid ⟨Nat.le_trans XR6.out.size hp, owns_lt hsec.2.2⟩
  have HL7 : Hid (w3.heap.size ≤ g4 ∧ g4 < w7.heap.size) := hid ⟨HG4.out.1, lt_of_block HF7.out⟩
  have H7 : Hid (RackAt (fun b => b < W1.heap.size ∨ (w3.heap.size ≤ b ∧ b < w7.heap.size)) w7 r R1) := hid (H3.out.more XR7.out fun b hb => by
    have q3 := H3.out.there
    have q4 := XR7.out.size
    rcases hb with hb | hb
    · exact ⟨by have := q3 b hb; omega, .inl hb⟩
    · exact ⟨hb.2, .inr hb.1⟩)
  clear q1 hp hsec x7
  --M2
  obtain ⟨R2, hp2, st2, _⟩ := By.St.put (c := c) (d := d) ST1.out.live ST1.out.alive (by have := HN.out; omega) HGD.out (by rw [HM.out]; omega) hd
  have HP2 := hid hp2
  rw [hf] at st2
  have ST2 := hid st2
  clear hp2 st2
  go_wp2_with (refine wpList_load_agg rfl 59 _ rfl ⟨g, 0, none⟩ rfl (Cfg.A c) HAG.out (agg_cells HC7.out) ?_)
  refine (sput_c H7.out c d).mono ?_
  rintro e w8 ⟨rfl, h8, k8⟩
  rw [HP2.out] at h8 ⊢
  simp only [oErr]
  have H8 := hid h8
  have X8 := hid (Keeps.ext X7.out k8 fun q hq => .inl (Nat.lt_of_lt_of_le hq X1.out.size))
  have HF8 : Hid (FBlk w8 g4 f) := hid (k8.at HF7.out fun q => q (.inr HL7.out))
  have HSEC8 := hid (HSEC7.out.same (k8.block p.blk HP7.out.2 (fun q => q (.inr HP7.out))))
  clear h8 k8
  have hE8 := ST2.out.readE hd m1
  have hR8 := ST2.out.read
  have HE8 := hid hE8; have HRD8 := hid hR8
  clear hE8 hR8
  go_wp2_with fail
  refine (at_read H8.out d 0).mono ?_
  rintro e w9 (⟨er, q1, _⟩ | ⟨q1, p2, rfl, hp, hsec, x9⟩)
  · exact absurd (HE8.out.symm.trans q1) (by simp)
  rw [show (0 : Int).toNat = 0 from rfl, HRD8.out] at hsec
  have HSEC9 := hid hsec
  have HSP9 := hid (HSEC8.out.same (x9.block p.blk (owns_lt HSEC8.out.2.2) (fun x => x)))
  have HF9' : Hid (FBlk w9 g4 f) := hid (Ext.at x9 HF8.out)
  have XR9 := hid x9
  have X9 := hid (Ext.trans X8.out x9)
  clear q1 hp hsec x9
  have hbs : (w9.alloc (.cells (Frm.A Frm.zero) 42)).heap[w9.heap.size]? = some (.cells (Frm.A Frm.zero) 42 (0, 0)) := block_alloc
  have hl9 : w9.heap[g4]? = some (.cells (Frm.A f) 42 (0, 0)) := HF9'.out
  go_wp2_with (first
    | (refine wpList_load_agg rfl 42 _ rfl ⟨g4, 0, none⟩ rfl (Frm.A f) ?_ ?_ ?_; (rw [HST.out]; exact aggFrame); exact agg_cells hl9)
    | (refine wpList_store_whole rfl 42 _ _ rfl w9.heap.size rfl (Frm.A f) _ rfl 42 ?_ hbs ?_ ?_ ?_; (rw [HST.out]; exact aggFrame); (rw [HST.out, HZ.out]); exact Frm.A_one _))
  rw [setRow_alloc]
  clear hbs hl9
  have HF10 : Hid (FBlk (w9.alloc (.cells (Frm.A f) 42)) w9.heap.size f) := hid block_alloc
  have HO10 : Hid (FBlk (w9.alloc (.cells (Frm.A f) 42)) g4 f) := hid (Ext.at ((Ext.refl w9).alloc _) HF9'.out)
  have HN10 : Hid (g4 < w9.heap.size ∧ p.blk < w9.heap.size ∧ p2.blk < w9.heap.size ∧ w8.heap.size ≤ w9.heap.size) := hid ⟨lt_of_block HF9'.out, owns_lt HSP9.out.2.2, owns_lt HSEC9.out.2.2, XR9.out.size⟩
  have XR10 := hid (XR9.out.alloc (.cells (Frm.A f) 42))
  have HSP10 := hid (HSP9.out.same (heap_alloc_old w9 (.cells (Frm.A f) 42) HN10.out.2.1))
  have HSE10 := hid (HSEC9.out.same (heap_alloc_old w9 (.cells (Frm.A f) 42) HN10.out.2.2.1))
  generalize w9.alloc (.cells (Frm.A f) 42) = v10 at *
  generalize w9.heap.size = g10 at *
  refine (within_c at_ 0 99 v10 (by omega) (by omega) (by omega)).mono ?_
  rintro e w' ⟨rfl, rfl⟩
  obtain ⟨x0, x1⟩ := within_bd at_ 0 99 (by omega)
  generalize within at_ 0 99 = xn at *
  obtain ⟨x, rfl⟩ := Int.eq_ofNat_of_zero_le x0
  have hx : x < 100 := by omega
  have x2 : (8 : Int) + (x : Int) < 108 := by omega
  have cx : v10.cell? ⟨g10, 4 + (8 + x), none⟩ = some (.int .u8 (nth f.data (8 + x))) := (cell_at HF10.out).trans (Frm.A4 f _ (by rw [HFO.out.len]; omega))
  have fx : v10.frozen? ⟨g10, 4 + (8 + x), none⟩ = false := free_at HF10.out
  --M4
  obtain ⟨v11, hv11⟩ : ∃ v, v10.setCell ⟨g10, 4 + (8 + x), none⟩ (.int .u8 1) = v := ⟨_, rfl⟩
  have HG11 : Hid (FBlk v11 g10 (By.g c d x)) := hid (by
    have := FBlk.set HF10.out (8 + x) 1
    rw [HGF.out x, ← hv11]
    exact this)
  have HF11 : Hid (FBlk v11 g4 f) := hid (by rw [← hv11]; exact (block_set_other _ (by have := HN10.out; omega)).trans HO10.out)
  have XR11 : Hid (Ext w8 v11) := hid (by rw [← hv11]; exact Only.setCell (F := fun _ => False) XR10.out (.inl HN10.out.2.2.2) _)
  have HSP11 := hid (HSP10.out.same (w' := v11) (by rw [← hv11]; exact block_set_other _ (by have := HN10.out; omega)))
  have HSE11 := hid (HSE10.out.same (w' := v11) (by rw [← hv11]; exact block_set_other _ (by have := HN10.out; omega)))
  have hbs : (v11.alloc (.cells (Frm.A Frm.zero) 42)).heap[v11.heap.size]? = some (.cells (Frm.A Frm.zero) 42 (0, 0)) := block_alloc
  have hl11 : v11.heap[g4]? = some (.cells (Frm.A f) 42 (0, 0)) := HF11.out
  have hr11 : ((v11.alloc (.cells (Frm.A Frm.zero) 42)).setRow v11.heap.size (Frm.A f)).heap[v11.heap.size]? = some (.cells (Frm.A f) 42 (0, 0)) := setRow_heap _ _ _ _ _ _ hbs
  have c3 : ((v11.alloc (.cells (Frm.A Frm.zero) 42)).setRow v11.heap.size (Frm.A f)).cell? ⟨v11.heap.size, 3, none⟩ = some (.int .i64 f.gen) := (cell_at hr11).trans (Frm.A3 f)
  have f3 : ((v11.alloc (.cells (Frm.A Frm.zero) 42)).setRow v11.heap.size (Frm.A f)).frozen? ⟨v11.heap.size, 3, none⟩ = false := free_at hr11
  obtain ⟨v12, hv12⟩ : ∃ v, ((v11.alloc (.cells (Frm.A Frm.zero) 42)).setRow v11.heap.size (Frm.A f)).setCell ⟨v11.heap.size, 3, none⟩ (.int .i64 2) = v := ⟨_, rfl⟩
  have X12 : Hid (Ext v11 v12) := hid (by rw [← hv12, setRow_alloc]; exact Only.setCell (F := fun _ => False) ((Ext.refl v11).alloc _) (.inl (Nat.le_refl _)) _)
  have HH12 : Hid (FBlk v12 v11.heap.size (By.h c d)) := hid (by
    have := FBlk.gen (show FBlk _ _ f from hr11) 2
    rw [HHF.out, ← hv12]
    exact this)
  clear hr11
  go_wp2_with (first
    | (refine wpList_load_agg rfl 42 _ rfl ⟨g4, 0, none⟩ rfl (Frm.A f) ?_ ?_ ?_; (rw [HST.out]; exact aggFrame); exact agg_cells hl11)
    | (refine wpList_store_whole rfl 42 _ _ rfl v11.heap.size rfl (Frm.A f) _ rfl 42 ?_ hbs ?_ ?_ ?_; (rw [HST.out]; exact aggFrame); (rw [HST.out, HZ.out]); exact Frm.A_one _))
  --M5
  have XR12 := hid (Ext.trans XR11.out X12.out)
  have HG12 : Hid (FBlk v12 g10 (By.g c d x)) := hid (Ext.at X12.out HG11.out)
  have HSP12 := hid (HSP11.out.same (X12.out.block p.blk (owns_lt HSP11.out.2.2) (fun x => x)))
  have HSE12 := hid (HSE11.out.same (X12.out.block p2.blk (owns_lt HSE11.out.2.2) (fun x => x)))
  have HL12 : Hid (w8.heap.size ≤ v11.heap.size) := hid XR11.out.size
  clear hbs hl11 c3 f3 cx fx hv12 hv11
  generalize v11.heap.size = g11 at *
  refine (same_c p.cap p2.cap HSP12.out.bytes HSE12.out.bytes).mono ?_
  rintro e w13 ⟨rfl, x13⟩
  rw [decide_eq_true rfl]
  have XR13 := hid (Ext.trans XR12.out x13)
  have HG13 : Hid (FBlk w13 g10 (By.g c d x)) := hid (Ext.at x13 HG12.out)
  have HH13 : Hid (FBlk w13 g11 (By.h c d)) := hid (Ext.at x13 HH12.out)
  have HGO := hid (By.g_ok c HGD.out d x)
  have HGR := hid (By.g_right c d x d8)
  have HHO := hid (By.h_ok c HGD.out d)
  have HHR := hid (By.h_right c d d8)
  have HTG := hid (By.told_g c HGD.out d x hx)
  have HTH := hid (By.told_h c HGD.out d)
  have HSG := hid (Frm.A_size _ HGO.out)
  have HSH := hid (Frm.A_size _ HHO.out)
  have hk1 : (By.g c d x).kind = 1 := rfl
  have hk2 : (By.g c d x).slot = d := rfl
  have hk3 : (By.g c d x).stripe = 0 := rfl
  have hj1 : (By.h c d).kind = 1 := rfl
  have hj2 : (By.h c d).slot = d := rfl
  have hj3 : (By.h c d).stripe = 0 := rfl
  clear x13 HGF HHF
  generalize By.g c d x = fg at *
  generalize By.h c d = fh at *
  obtain ⟨R3, hw3, st3⟩ := ST2.out.write hd d8 m1 fg HGO.out HGR.out hk1 hk2 hk3
  obtain ⟨R4, hw4, st4⟩ := st3.write hd d8 m1 fh HHO.out HHR.out hj1 hj2 hj3
  rw [HTG.out] at st3
  rw [HTH.out] at st4
  have HW3 := hid hw3; have HW4 := hid hw4
  have HS3 := hid (st3.superGet hd m1); have HS4 := hid (st4.superGet hd m1)
  clear hw3 hw4 st3 st4 hk1 hk2 hk3 hj1 hj2 hj3
  go_wp2_with (refine wpListG_load_agg 42 _ rfl ⟨g10, 0, none⟩ rfl (Frm.A fg) rfl (by rw [HSG.out]; exact aggFrame) (agg_cells HG13.out) ?_)
  refine (fput_yes fg w13 HGO.out HGR.out).mono ?_
  rintro e w14 ⟨q14, rfl, _, hblk, x14⟩
  have HB14 := hid (hblk.bytes (Frm.bytes_byte fg HGO.out HGR.out) (Frm.bytes_len fg HGO.out) (by omega))
  have XR14 := hid (Ext.trans XR13.out x14)
  have HH14 : Hid (FBlk w14 g11 fh) := hid (Ext.at x14 HH13.out)
  have HL14 : Hid (w8.heap.size ≤ g11 ∧ g11 < w14.heap.size) := hid ⟨HL12.out, lt_of_block HH14.out⟩
  have H14 : Hid (RackAt (fun b => b < w.heap.size ∨ (w8.heap.size ≤ b ∧ b < w14.heap.size)) w14 r R2) := hid (H8.out.more XR14.out fun b hb => by
    have q3 := X8.out.size
    have q4 := XR14.out.size
    have q5 := X1.out.size
    rcases hb with hb | hb
    · exact ⟨by omega, .inl (.inl (by omega))⟩
    · exact ⟨hb.2, .inr hb.1⟩)
  have X14 := hid (Ext.trans X8.out XR14.out)
  clear hblk x14
  go_wp2_with fail
  refine (at_write H14.out d 0 _ 128 128 _ HB14.out).mono ?_
  rintro e w15 ⟨rfl, h15, k15⟩
  rw [HW3.out] at h15 ⊢
  simp only [oErr]
  have H15 := hid h15
  have X15 := hid (Keeps.ext X14.out k15 fun q hq => .inl hq)
  have HH15 : Hid (FBlk w15 g11 fh) := hid (k15.at HH14.out fun q => q (.inr HL14.out))
  clear h15 k15
  go_wp2_with fail
  refine (sget_c H15.out d).mono ?_
  rintro e w16 ⟨rfl, x16⟩
  rw [HS3.out]
  simp only [toldO, Option.getD_none, Option.isSome_none]
  have H16 := hid (H15.out.ext (x16.alloc (.cells (Cfg.A Cfg.zero) 59)))
  have X16 := hid (Ext.trans X15.out (x16.alloc (.cells (Cfg.A Cfg.zero) 59)))
  have HH16 : Hid ((w16.alloc (.cells (Cfg.A Cfg.zero) 59)).heap[g11]? = some (.cells (Frm.A fh) 42 (0, 0))) := hid (Ext.at (x16.alloc (.cells (Cfg.A Cfg.zero) 59)) HH15.out)
  have hbs : (w16.alloc (.cells (Cfg.A Cfg.zero) 59)).heap[w16.heap.size]? = some (.cells (Cfg.A Cfg.zero) 59 (0, 0)) := block_alloc
  clear x16
  go_wp2_with (first
    | (refine wpList_store_whole rfl 59 _ _ rfl w16.heap.size rfl (Cfg.A Cfg.zero) _ rfl 59 ?_ hbs ?_ ?_ ?_; (rw [HCS.out]; exact aggCfg); (rfl); exact Cfg.A_one _)
    | (rw [setRow_alloc]; refine wpList_load_agg rfl 42 _ rfl ⟨g11, 0, none⟩ rfl (Frm.A fh) ?_ ?_ ?_; (rw [HSH.out]; exact aggFrame); exact agg_cells HH16.out))
  clear hbs
  refine (fput_yes fh _ HHO.out HHR.out).mono ?_
  rintro e w17 ⟨q17, rfl, _, hblk, x17⟩
  have HB17 := hid (hblk.bytes (Frm.bytes_byte fh HHO.out HHR.out) (Frm.bytes_len fh HHO.out) (by omega))
  have H17 := hid (H16.out.ext x17)
  have X17 := hid (Ext.trans X16.out x17)
  clear hblk x17
  go_wp2_with fail
  refine (at_write H17.out d 0 _ 128 128 _ HB17.out).mono ?_
  rintro e w18 ⟨rfl, h18, k18⟩
  rw [HW4.out] at h18 ⊢
  simp only [oErr]
  have H18 := hid h18
  have X18 := hid (Keeps.ext X17.out k18 fun q hq => .inl hq)
  clear h18 k18
  go_wp2_with fail
  refine (sget_c H18.out d).mono ?_
  rintro e w19 ⟨rfl, x19⟩
  rw [HS4.out]
  simp only [toldO, Option.getD_none, Option.isSome_none]
  have X19 := hid (Ext.trans X18.out (x19.alloc (.cells (Cfg.A Cfg.zero) 59)))
  have hbs : (w19.alloc (.cells (Cfg.A Cfg.zero) 59)).heap[w19.heap.size]? = some (.cells (Cfg.A Cfg.zero) 59 (0, 0)) := block_alloc
  clear x19
  go_wp2_with (refine wpList_store_whole rfl 59 _ _ rfl w19.heap.size rfl (Cfg.A Cfg.zero) _ rfl 59 ?_ hbs ?_ ?_ ?_; (rw [HCS.out]; exact aggCfg); (rfl); exact Cfg.A_one _)
  rw [setRow_alloc]
  clear hbs
  refine (superRuns_c _ (HG.out.only X19.out (fun x => x))).mono ?_
  rintro e w20 ⟨rfl, x20⟩
  have X20 := hid (Ext.trans X19.out x20)
  clear x20
  go_wp2
  go_ret
  exact ⟨rfl, X20.out⟩
end Go.Proofs.YtdbjojnejkklhaaDoor

/- The statement SuperBytes, as its tied card: for every input the call of stavelaw9's SuperBytes answers true, and its arguments read behind it as they read before. No condition of our own. -/
namespace Go.Proofs.YtdbjojnejkklhaaDoor.superBytes
open Go.ChangeShapes Go.WideShapes Go.ChangeAt Go.RowKit
open Go.ChangeMaps (open_string shut_string)
set_option linter.unusedVariables false
theorem laidOut : laidOutB Tryd.prog = true := by kernel_rfl
theorem walk (a0 : Int) (a1 : Int) (a2 : Int) (a3 : Int) (a4 : Int) (a5 : Int) (w : World) (hg : EtLaid w) (w0 : (Lit.int .i64 a0).wf = true) (w1 : (Lit.int .i64 a1).wf = true) (w2 : (Lit.int .i64 a2).wf = true) (w3 : (Lit.int .i64 a3).wf = true) (w4 : (Lit.int .i64 a4).wf = true) (w5 : (Lit.int .i64 a5).wf = true) :
    Calls Tryd.prog 9 #[.int .i64 a0, .int .i64 a1, .int .i64 a2, .int .i64 a3, .int .i64 a4, .int .i64 a5] w fun e w' => e = .returned (.bool true) ∧ Below w.heap.size w w' :=
  (superBytes_c a0 a1 a2 a3 a4 a5 w hg).mono fun _ _ ⟨he, hx⟩ => ⟨he, hx.below⟩
set_option maxRecDepth 100000 in
theorem lifted (os : Os) (started : os.Started) (H : Type) (enc : TypeId × Value → H) :
    ReturnsInHanded {} Tryd.checked os 9 .any (fun w args => (Rows.superBytesSpec.pre enc Tryd.prog Tryd.f9 [] false w args ∧ laidMetH Tryd.prog theLaid w) ∧ sizedMet enc Tryd.prog Tryd.f9 (OpenSpec.ofChange Rows.superBytesSpec) false w args)
      (Rows.superBytesSpec.post enc Tryd.prog Tryd.f9 false true false false) := by
  refine returnsInHanded_of_change_and (C := Tryd.checked) (X := fun w _ => laidMetH Tryd.prog theLaid w) (fun _ _ _ hh h => h.of_heap hh) hOwn started (by kernel_rfl) Tryd.func9
    (ChangeSpec.witness_at (enc := enc) (C := Tryd.checked) (os := os) (X := fun w _ => laidMetH Tryd.prog theLaid w) false (laidWorld os) #[.int .i64 0, .int .i64 0, .int .i64 0, .int .i64 0, .int .i64 0, .int .i64 0] 8 rfl (by kernel_rfl) (by kernel_rfl) (by kernel_rfl) (by kernel_rfl) (by kernel_rfl) (laidWorld_met os _)) ?_
  intro W base args ds gs before hval0 hW _ _ hL _
  have hval : ∀ (j : Nat) t v, Tryd.f9.params[j]? = some t → args[j]? = some v → Value.okWide Tryd.prog W .any base t v := hval0
  have hW' := hW
  obtain ⟨p, q, hA0, hV, rfl, hfz, hnd⟩ := hW
  have hA : DataW.TrodAll enc Tryd.prog W 0 (fun _ => true) true Tryd.f9.params.toList args.toList ds p := hA0
  rw [Tryd.params9] at hA hval
  obtain ⟨v0, vs0, d0, ds0, p0, q0, hargs, rfl, rfl, h0, r0⟩ := trodAll_cons hA
  obtain ⟨v1, vs1, d1, ds1, p1, q1, rfl, rfl, rfl, h1, r1⟩ := trodAll_cons r0
  obtain ⟨v2, vs2, d2, ds2, p2, q2, rfl, rfl, rfl, h2, r2⟩ := trodAll_cons r1
  obtain ⟨v3, vs3, d3, ds3, p3, q3, rfl, rfl, rfl, h3, r3⟩ := trodAll_cons r2
  obtain ⟨v4, vs4, d4, ds4, p4, q4, rfl, rfl, rfl, h4, r4⟩ := trodAll_cons r3
  obtain ⟨v5, vs5, d5, ds5, p5, q5, rfl, rfl, rfl, h5, r5⟩ := trodAll_cons r4
  obtain ⟨rfl, rfl, rfl⟩ := trodAll_nil r5
  obtain rfl : args = #[v0, v1, v2, v3, v4, v5] := by cases args; simp_all
  obtain ⟨rfl, rfl⟩ := trodVars_none hV
  obtain ⟨a0, rfl, rfl, rfl, w0⟩ := open_int Tryd.underlying3 (hval 0 3 v0 rfl rfl) h0
  obtain ⟨a1, rfl, rfl, rfl, w1⟩ := open_int Tryd.underlying3 (hval 1 3 v1 rfl rfl) h1
  obtain ⟨a2, rfl, rfl, rfl, w2⟩ := open_int Tryd.underlying3 (hval 2 3 v2 rfl rfl) h2
  obtain ⟨a3, rfl, rfl, rfl, w3⟩ := open_int Tryd.underlying3 (hval 3 3 v3 rfl rfl) h3
  obtain ⟨a4, rfl, rfl, rfl, w4⟩ := open_int Tryd.underlying3 (hval 4 3 v4 rfl rfl) h4
  obtain ⟨a5, rfl, rfl, rfl, w5⟩ := open_int Tryd.underlying3 (hval 5 3 v5 rfl rfl) h5
  have hg := etLaid_of hL
  clear hA0 hval0
  simp only [List.append_nil] at hW'
  refine (walk a0 a1 a2 a3 a4 a5 W hg w0 w1 w2 w3 w4 w5).mono fun e W' ⟨he, bel⟩ => ?_
  subst he
  exact ⟨_, rfl, _, _, _, [], _, [], hW', trodAll_mk1 (shut_bool Tryd.underlying4 _), (trodAll_cons_mk (shut_int Tryd.underlying3 w0) (trodAll_cons_mk (shut_int Tryd.underlying3 w1) (trodAll_cons_mk (shut_int Tryd.underlying3 w2) (trodAll_cons_mk (shut_int Tryd.underlying3 w3) (trodAll_cons_mk (shut_int Tryd.underlying3 w4) (trodAll_cons_mk (shut_int Tryd.underlying3 w5) trodAll_mk0)))))), rfl, bel.frame _, fun h => by cases h⟩
theorem over : Rows.SuperBytesSaid :=
  OpenClaim.holds_of_wide 9 Tryd.f9 rfl rfl rfl rfl rfl rfl rfl ⟨rfl, rfl, rfl, rfl, rfl⟩ rfl rfl rfl rfl rfl (by kernel_rfl) Tryd.func9 (by kernel_rfl)
    (of_decide_eq_true (by kernel_rfl)) (by unfold Func.isWrapper; first | (rw [if_pos (by decide +kernel)]; kernel_rfl) | (rw [if_neg (by decide +kernel)]; exact ⟨rfl, rfl⟩))
    (fun os started H enc _ => lifted os started H enc)
theorem proved : Rows.SuperBytesCardSaid :=
  Claim7.holds_tied_plain_at .later [] [.handle] true (true, "dba68c5c8641de8e0643fe4af85c7b77ef0591640622d3211a00d85201f74fa1") true
    over (fun _ h => by cases h) (by kernel_rfl) (fun _ h => by cases h) superBytes_row_tie rfl ⟨rfl, rfl⟩ (by kernel_rfl) rfl
    (fun f fn hf hfn => by
      obtain rfl : f = 9 := Option.some.inj ((show Tryd.prog.funcNamed "stave/stavelaw9.SuperBytes" = some 9 by kernel_rfl).symm.trans hf) |>.symm
      obtain rfl : fn = Tryd.f9 := (Option.some.inj (Tryd.func9.symm.trans hfn)).symm
      exact ⟨by kernel_rfl, fun j t ht => by
        rw [Tryd.params9] at ht
        rcases j with _ | _ | _ | _ | _ | _ | j
        · simp at ht; subst ht; kernel_rfl
        · simp at ht; subst ht; kernel_rfl
        · simp at ht; subst ht; kernel_rfl
        · simp at ht; subst ht; kernel_rfl
        · simp at ht; subst ht; kernel_rfl
        · simp at ht; subst ht; kernel_rfl
        · simp at ht⟩)
    (by kernel_rfl)
#print axioms proved
end Go.Proofs.YtdbjojnejkklhaaDoor.superBytes
