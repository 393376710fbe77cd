/- The statement SuperFew, as its tied card: for every input the call of stavelaw9's SuperFew answers true, and its arguments read behind it as they read before. No condition of our own. -/
/- Texts of one proof, joined: WSuperFew, LawSuperFew. -/
import Derived.Test.YtdbjojnejkklhaaDoorPartI
import Derived.Test.YtdbjojnejkklhaaDoorPartG
import Derived.Test.YtdbjojnejkklhaaDoorPartD
import Derived.Test.YtdbjojnejkklhaaDoorCards
import Derived.Test.YtdbjojnejkklhaaDoorTie
import Derived.Test.YtdbjojnejkklhaaDoorPartC
import Derived.WalkKit
import Derived.ProofKit
import Derived.OpenShut
import Derived.ShutString
import Derived.ChangeOld
import Derived.Below
import Derived.SevenTiedAt
set_option linter.unusedVariables false
set_option linter.unusedSimpArgs false
/- The walk of SuperFew. -/
namespace Go.Proofs.YtdbjojnejkklhaaDoor
set_option linter.unusedVariables false
open Go Go.RowKit
theorem sectors_nat (c : Cfg) (h : c.Good) : ∃ m : Nat, c.sectors = (m : Int) ∧ 1 ≤ m ∧ m ≤ 128 := by
  obtain ⟨b0, b1⟩ := sectors_bd c h
  have b2 := h.st0
  have b3 := h.st1
  have e : c.sectors = 1 + c.slots * c.k + c.stripes := rfl
  refine ⟨c.sectors.toNat, ?_, ?_, ?_⟩ <;> omega
theorem n_nat (c : Cfg) (h : c.Good) : ∃ n : Nat, c.n = (n : Int) ∧ 1 ≤ n ∧ n ≤ 8 := by
  have b1 := h.k0
  have b2 := h.k1
  have b3 := h.n1
  refine ⟨c.n.toNat, ?_, ?_, ?_⟩ <;> omega
theorem few_bit (B i : Nat) (hB : B < 18446744073709551616) : (Go.bits .and .u64 ((B : Int) / 2 ^ i) 1 == 0) = !Few.bit B i := by
  have e1 : ((B : Int) / 2 ^ i) = ((B / 2 ^ i : Nat) : Int) := by push_cast; rfl
  have h1 : B / 2 ^ i < 2 ^ 64 := Nat.lt_of_le_of_lt (Nat.div_le_self _ _) hB
  have e2 := u64_and_nat (B / 2 ^ i) 1 h1 (by decide)
  rw [e1, show (1 : Int) = ((1 : Nat) : Int) from rfl, e2, Nat.and_one_is_mod]
  unfold Few.bit
  rcases Nat.mod_two_eq_zero_or_one (B / 2 ^ i) with h | h <;> rw [h] <;> rfl
def FewRel (w W1 : World) (g r : Nat) (c : Cfg) (m : Nat) (P : Nat → Dsk) (i : Nat) (wr : World) : Prop :=
  ∃ R, Filled c.n.toNat m P R i ∧ RackAt (fun b => b < W1.heap.size) wr r R ∧ Ext w wr ∧ CBlk wr g c
set_option maxRecDepth 100000 in
set_option maxHeartbeats 2000000 in
theorem superFew_c (k n stripes slots G : Int) (how : Bool) (w : World) (hg : EtLaid w) (hG : (Lit.int .u64 G).wf = true) :
    Calls Tryd.prog 11 #[.int .i64 k, .int .i64 n, .int .i64 stripes, .int .i64 slots, .int .u64 G, .bool how] w fun e w' => e = .returned (.bool true) ∧ Ext w w' := by
  have HG := hid hg
  have hzc := zero_cfg
  have HCS := hid Cfg.A_size
  have hbz := built_cfg0
  obtain ⟨q0, q1⟩ := bounds_u64 hG
  obtain ⟨B, rfl⟩ := Int.eq_ofNat_of_zero_le q0
  have HB64 : Hid (B < 18446744073709551616) := hid (by omega)
  clear hg hG q0 q1
  go_enter Tryd.func11, Tryd.ntmps11
  go_wp2_with fail
  refine (kconfig_c k n stripes slots w).mono ?_
  rintro e w1 ⟨rfl, x1⟩
  have HGD := hid (keepCfg_good k n stripes slots)
  generalize keepCfg k n stripes slots = c at *
  obtain ⟨W1, hW1⟩ : ∃ W, w1.alloc (.cells (Cfg.A c) 59) = W := ⟨_, rfl⟩
  have X1 := hid (show Ext w W1 from hW1 ▸ x1.alloc _)
  have HC := hid (show W1.heap[w1.heap.size]? = some (.cells (Cfg.A c) 59 (0, 0)) from hW1 ▸ heap_alloc_new _ _)
  have hbs : (w1.alloc (.cells (Cfg.A Cfg.zero) 59)).heap[w1.heap.size]? = some (.cells (Cfg.A Cfg.zero) 59 (0, 0)) := block_alloc
  clear x1
  go_wp2_with (refine wpList_store_whole rfl 59 _ _ rfl w1.heap.size rfl (Cfg.A c) _ rfl 59 ?_ hbs ?_ ?_ ?_; (rw [HCS.out]; exact aggCfg); (rw [HCS.out, HCS.out]); exact Cfg.A_one _)
  rw [setRow_alloc, hW1]
  clear hbs hW1
  have HLT := hid (lt_of_block HC.out)
  generalize w1.heap.size = g at *
  obtain ⟨m, hm, m1, m128⟩ := sectors_nat c HGD.out
  obtain ⟨nn, hn, n1, n8⟩ := n_nat c HGD.out
  have xd : Ext W1 W1.drew := (Ext.refl W1).drew
  have lc : Hid (∀ x : SW Ext W1.drew, ∀ j v, (Cfg.A c).toList[j]? = some v → x.w.cell? ((⟨g, 0, none⟩ : Addr).add j) = some v) := hid fun x => agg_cells ((Ext.trans xd x.ext).at HC.out)
  have c2 : ∀ x : SW Ext W1.drew, x.w.cell? ⟨g, 2, none⟩ = some (.int .i64 nn) := fun x => (cell_at ((Ext.trans xd x.ext).at HC.out)).trans (by rw [Cfg.A2, hn])
  have sc : Hid (∀ x : SW Ext W1.drew, Calls Tryd.prog 35 #[.agg (Cfg.A c)] x.w fun e w'' => e = .returned (.int .i64 m) ∧ Ext x.w w'') := hid fun x => by
    have := ssectors_c c HGD.out x.w
    rw [hm] at this
    exact this
  have HM := hid hm; have HN := hid hn
  have HAG := hid (cfg_agg c)
  clear hm hn
  refine wp_region_rely_all (S := Ext) (.one [0, 1, 2, 3] 4 (.fin [5, 6, 7, 8, 9])) (by kernel_rfl) (by kernel_rfl) (fun _ _ d _ _ h => by cases d <;> exact h) ?_
  rw [wpS]
  simp only [opsAt, List.map_cons, List.map_nil, Array.getD_eq_getD_getElem?, List.getElem?_toArray, List.getElem?_cons_succ, List.getElem?_cons_zero, Option.getD_some]
  iterate 2 ((refine wpSQ_step (fun K hK => ?_); go_simp; first | (refine hK _ ?_; clear hK K) | (apply Exists.intro; refine ⟨fun x => ?_, hK _ ?_⟩; (fail); clear hK K)))
  refine wpSQ_load_agg 59 _ rfl ⟨g, 0, none⟩ rfl (Cfg.A c) rfl HAG.out lc.out ?_
  (refine wpSQ_step (fun K hK => ?_); go_simp; first | (refine hK _ ?_; clear hK K) | (apply Exists.intro; refine ⟨fun x => ?_, hK _ ?_⟩; (exact sc.out x); clear hK K))
  refine wpSQ_nil ?_
  intro V1 hV1
  refine wpS_loud fun K hK => ?_
  go_wp2_with fail
  refine (at_new nn m n1 n8 m1 m128 V1).mono ?_
  rintro e w2 ⟨r, rfl, h2, x2⟩
  go_wp2
  refine hK _ _ x2 ?_
  clear hK K
  rw [wpS]
  simp only [opsAt, List.map_cons, List.map_nil, Array.getD_eq_getD_getElem?, List.getElem?_toArray, List.getElem?_cons_succ, List.getElem?_cons_zero, Option.getD_some]
  iterate 5 ((refine wpSQ_step (fun K hK => ?_); go_simp; first | (refine hK _ ?_; clear hK K) | (apply Exists.intro; refine ⟨fun x => ?_, hK _ ?_⟩; (fail); clear hK K)))
  refine wpSQ_nil ?_
  intro V2 hV2
  have HR0 : Hid (FewRel w W1 g r c m (Few.P c m B how) 0 V2) := hid ⟨Rck.new nn m, by
    rw [show c.n.toNat = nn by have := HN.out; omega]; exact Filled.start nn m _ n1, (h2.less fun b hb => Nat.lt_of_lt_of_le hb (Ext.trans xd hV1).size).ext hV2, Ext.trans X1.out (Ext.trans xd (Ext.trans hV1 (Ext.trans x2 hV2))), (Ext.trans xd (Ext.trans hV1 (Ext.trans x2 hV2))).at HC.out⟩
  clear h2 x2 hV1 hV2 lc c2 sc xd
  go_wp2
  go_loopw [16, 17] (fun u v wr => ∃ i : Nat, v = .int .i64 i ∧ u = .int .i64 (Few.left B i) ∧ i ≤ nn ∧ FewRel w W1 g r c m (Few.P c m B how) i wr) (fun _ v _ => nn - (intOf v).toNat)
  case atStart => exact ⟨0, rfl, rfl, by omega, HR0.out⟩
  case round =>
    clear HR0
    obtain ⟨i, rfl, rfl, hi, R, hst, hra, hx, hc⟩ := hrel
    have HX := hid hx; have HRA := hid hra; have HCW := hid hc
    have hlf := Few.left_le B i
    have c2 : wr.cell? ⟨g, 2, none⟩ = some (.int .i64 nn) := (cell_at hc).trans (by rw [Cfg.A2, HN.out])
    clear hx hra hc
    by_cases hlt : i < nn
    · have i0 : (0 : Int) ≤ (i : Int) := by omega
      have i1 : (i : Int) < (nn : Int) := by omega
      have i8 : (i : Int) < 8 := by omega
      have hd : i < c.n.toNat := by have := HN.out; omega
      have hB := Few.B_ok c m i
      obtain ⟨R', hw, hst'⟩ := (hst.fill hd).superPut rfl HGD.out (by rw [HM.out]; omega) hd ⟨Dsk.new_len m, rfl⟩
      have HW := hid hw
      have HST : Hid (Fill c.n.toNat m (Few.P c m B how) R' i (Few.B c m i)) := hid hst'
      have hP : Few.P c m B how i = if Few.bit B i then (if how then (Few.B c m i).die else (Few.B c m i).rotted 0 i 7) else Few.B c m i := rfl
      have hL : Few.left B (i + 1) = Few.left B i + if Few.bit B i then 0 else 1 := rfl
      have hbit := few_bit B i HB64.out
      clear hst hw hst'
      go_wp2_with (refine wpList_load_agg rfl 59 _ rfl ⟨g, 0, none⟩ rfl (Cfg.A c) HAG.out (agg_cells HCW.out) ?_)
      refine (sput_c HRA.out c i).mono ?_
      rintro e w3 ⟨rfl, h3, k3⟩
      rw [HW.out] at h3 ⊢
      simp only [oErr]
      have H3 := hid h3
      have X3 := hid (Keeps.ext HX.out k3 fun q hq => Nat.lt_of_lt_of_le hq X1.out.size)
      have HC3 := hid (k3.at HCW.out fun q => q HLT.out)
      clear h3 k3
      rcases hb : Few.bit B i with _ | _
      · rw [hb] at hbit hL
        simp only [Bool.not_false, Bool.false_eq_true, if_false] at hbit hL
        have HL := hid hL
        have HF : Hid (FewRel w W1 g r c m (Few.P c m B how) (i + 1) w3) := hid ⟨R', by
          have := HST.out
          have e : Few.P c m B how i = Few.B c m i := by rw [hP, hb]; rfl
          rw [← e] at this
          exact this.filled, H3.out, X3.out, HC3.out⟩
        clear hL hP hb hB
        go_wp2
        go_roundw
        case rel => exact ⟨i + 1, by go_num, by rw [HL.out]; go_num, by omega, HF.out⟩
        case measure => simp [intOf]; omega
      · rw [hb] at hbit hL
        simp only [Bool.not_true, if_true, Nat.add_zero] at hbit hL
        have HL := hid hL
        rcases how with _ | _
        · have HF : Hid (∀ w4, RackAt (fun b => b < W1.heap.size) w4 r (R'.rot i 0 i 7) → Keeps (fun b => b < W1.heap.size) w3 w4 → FewRel w W1 g r c m (Few.P c m B false) (i + 1) w4) := hid fun w4 h4 k4 => ⟨_, by
            have := HST.out.rot hd hB i 7 (by omega) (by omega) m1
            have e : Few.P c m B false i = (Few.B c m i).rotted 0 i 7 := by rw [hP, hb]; rfl
            rw [← e] at this
            exact this.filled, h4, Keeps.ext X3.out k4 fun q hq => Nat.lt_of_lt_of_le hq X1.out.size, k4.at HC3.out fun q => q HLT.out⟩
          clear hL hP hb hB
          go_wp2_with fail
          refine (at_rot H3.out i 0 i 7 (by omega)).mono ?_
          rintro e w4 ⟨rfl, h4, k4⟩
          obtain ⟨b6, hb6⟩ : ∃ b, R'.rotOk i 0 i 7 = b := ⟨_, rfl⟩
          rw [hb6]
          have HF4 := hid (HF.out w4 h4 k4)
          clear hb6 h4 k4 HF
          go_wp2
          go_roundw
          case rel => exact ⟨i + 1, by go_num, by rw [HL.out], by omega, HF4.out⟩
          case measure => simp [intOf]; omega
        · have HF : Hid (∀ w4, RackAt (fun b => b < W1.heap.size) w4 r (R'.die i) → Keeps (fun b => b < W1.heap.size) w3 w4 → FewRel w W1 g r c m (Few.P c m B true) (i + 1) w4) := hid fun w4 h4 k4 => ⟨_, by
            have := HST.out.die hd hB.1
            have e : Few.P c m B true i = (Few.B c m i).die := by rw [hP, hb]; rfl
            rw [← e] at this
            exact this.filled, h4, Keeps.ext X3.out k4 fun q hq => Nat.lt_of_lt_of_le hq X1.out.size, k4.at HC3.out fun q => q HLT.out⟩
          clear hL hP hb hB
          go_wp2_with fail
          refine (at_die H3.out i).mono ?_
          rintro e w4 ⟨rfl, h4, k4⟩
          obtain ⟨b6, hb6⟩ : ∃ b, R'.has i = b := ⟨_, rfl⟩
          rw [hb6]
          have HF4 := hid (HF.out w4 h4 k4)
          clear hb6 h4 k4 HF
          go_wp2
          go_roundw
          case rel => exact ⟨i + 1, by go_num, by rw [HL.out], by omega, HF4.out⟩
          case measure => simp [intOf]; omega
    · obtain rfl : nn = i := by omega
      have hnn : c.n.toNat = nn := by have := HN.out; omega
      rw [hnn] at hst
      have hfind := Few.find (c := c) HGD.out (m := m) (G := B) (how := how) (by rw [HM.out]; omega) (R := R) (by rw [hnn]; exact hst)
      rw [hnn] at hfind
      have c1 : wr.cell? ⟨g, 1, none⟩ = some (.int .i64 c.k) := (cell_at HCW.out).trans (Cfg.A1 c)
      have hk0 := HGD.out.k0
      generalize Few.left B nn = L at *
      by_cases hL : c.k ≤ (L : Int)
      · rw [if_pos hL] at hfind
        have HF := hid hfind
        clear hst hfind hnn
        go_wp2_with fail
        refine (sfind_c HRA.out).mono ?_
        rintro e w3 ⟨rfl, x3⟩
        rw [HF.out]
        simp only [oErr]
        have X4 := hid (Ext.trans HX.out (x3.alloc (.cells (Cfg.A c) 59)))
        have HC4 := hid (Ext.at (x3.alloc (.cells (Cfg.A c) 59)) HCW.out)
        have HD4 : Hid ((w3.alloc (.cells (Cfg.A c) 59)).heap[w3.heap.size]? = some (.cells (Cfg.A c) 59 (0, 0))) := hid block_alloc
        have hbs : (w3.alloc (.cells (Cfg.A Cfg.zero) 59)).heap[w3.heap.size]? = some (.cells (Cfg.A Cfg.zero) 59 (0, 0)) := block_alloc
        have HE := hid (cfg_eql c c)
        rw [Cfg.eqB_self] at HE
        have c3 : ((w3.alloc (.cells (Cfg.A Cfg.zero) 59)).setRow w3.heap.size (Cfg.A c)).cell? ⟨g, 1, none⟩ = some (.int .i64 c.k) := by rw [setRow_alloc]; exact (cell_at HC4.out).trans (Cfg.A1 c)
        clear x3 c1 c2
        go_wp2_with (first
          | (refine wpList_store_whole rfl 59 _ _ rfl w3.heap.size rfl (Cfg.A c) _ rfl 59 ?_ hbs ?_ ?_ ?_; (rw [HCS.out]; exact aggCfg); (rw [HCS.out, HCS.out]); exact Cfg.A_one _)
          | (rw [setRow_alloc]; refine wpListG_load_agg 59 _ rfl ⟨w3.heap.size, 0, none⟩ rfl (Cfg.A c) rfl (cfg_agg c) (agg_cells HD4.out) ?_)
          | (refine wpListG_load_agg 59 _ rfl ⟨g, 0, none⟩ rfl (Cfg.A c) rfl (cfg_agg c) (agg_cells HC4.out) ?_)
          | (refine wpListG_eql .eql 59 _ _ _ rfl (Cfg.A c) (Cfg.A c) rfl rfl (.bool true) rfl (cfg_guard _ _ _ _ _ _) (HE.out _) ?_))
        clear c3 hbs
        refine (superRuns_c _ (HG.out.only X4.out (fun x => x))).mono ?_
        rintro e w9 ⟨rfl, x9⟩
        have X9 := hid (Ext.trans X4.out x9)
        clear x9
        go_wp2
        go_ret
        exact ⟨rfl, X9.out⟩
      · rw [if_neg hL] at hfind
        have HF := hid hfind
        clear hst hfind hnn
        go_wp2_with fail
        refine (sfind_c HRA.out).mono ?_
        rintro e w3 ⟨rfl, x3⟩
        rw [HF.out]
        simp only [oErr]
        have X4 := hid (Ext.trans HX.out (x3.alloc (.cells (Cfg.A Cfg.zero) 59)))
        have HC4 := hid (Ext.at (x3.alloc (.cells (Cfg.A Cfg.zero) 59)) HCW.out)
        have HD4 : Hid ((w3.alloc (.cells (Cfg.A Cfg.zero) 59)).heap[w3.heap.size]? = some (.cells (Cfg.A Cfg.zero) 59 (0, 0))) := hid block_alloc
        have hbs : (w3.alloc (.cells (Cfg.A Cfg.zero) 59)).heap[w3.heap.size]? = some (.cells (Cfg.A Cfg.zero) 59 (0, 0)) := block_alloc
        have HE := hid (cfg_eql Cfg.zero Cfg.zero)
        rw [Cfg.eqB_self] at HE
        have HER : Hid ((Err.fault sSuperFind L (.no 7)).kind = 7) := hid rfl
        obtain ⟨er, hre⟩ : ∃ er, Err.fault sSuperFind L (.no 7) = er := ⟨_, rfl⟩
        rw [hre] at HER ⊢
        have c3 : ((w3.alloc (.cells (Cfg.A Cfg.zero) 59)).setRow w3.heap.size (Cfg.A Cfg.zero)).cell? ⟨g, 1, none⟩ = some (.int .i64 c.k) := by rw [setRow_alloc]; exact (cell_at HC4.out).trans (Cfg.A1 c)
        clear x3 c1 c2 hre HF
        go_wp2_with (refine wpList_store_whole rfl 59 _ _ rfl w3.heap.size rfl (Cfg.A Cfg.zero) _ rfl 59 ?_ hbs ?_ ?_ ?_; (rw [HCS.out]; exact aggCfg); (rfl); exact Cfg.A_one _)
        rw [setRow_alloc]
        clear c3 hbs
        refine (kind_err er _ (HG.out.only X4.out (fun x => x))).mono ?_
        rintro e w8 ⟨rfl, x8⟩
        rw [HER.out]
        have X8 := hid (Ext.trans X4.out x8)
        have HD8 := hid (Ext.at x8 HD4.out)
        clear x8
        go_wp2_with (first
          | (refine wpListG_load_agg 59 _ rfl ⟨w3.heap.size, 0, none⟩ rfl (Cfg.A Cfg.zero) rfl (cfg_agg _) (agg_cells HD8.out) ?_)
          | (refine wpListG_eql .eql 59 _ _ _ rfl (Cfg.A Cfg.zero) (Cfg.A Cfg.zero) rfl rfl (.bool true) rfl (cfg_guard _ _ _ _ _ _) (HE.out _) ?_))
        refine (superRuns_c _ (HG.out.only X8.out (fun x => x))).mono ?_
        rintro e w9 ⟨rfl, x9⟩
        have X9 := hid (Ext.trans X8.out x9)
        clear x9
        go_wp2
        go_ret
        exact ⟨rfl, X9.out⟩
end Go.Proofs.YtdbjojnejkklhaaDoor

/- The statement SuperFew, as its tied card: for every input the call of stavelaw9's SuperFew answers true, and its arguments read behind it as they read before. No condition of our own. -/
namespace Go.Proofs.YtdbjojnejkklhaaDoor.superFew
open Go.ChangeShapes Go.WideShapes Go.ChangeAt Go.RowKit
open Go.ChangeMaps (open_string shut_string)
set_option linter.unusedVariables false
theorem laidOut : laidOutB Tryd.prog = true := by kernel_rfl
theorem walk (a0 : Int) (a1 : Int) (a2 : Int) (a3 : Int) (a4 : Int) (a5 : Bool) (w : World) (hg : EtLaid w) (w0 : (Lit.int .i64 a0).wf = true) (w1 : (Lit.int .i64 a1).wf = true) (w2 : (Lit.int .i64 a2).wf = true) (w3 : (Lit.int .i64 a3).wf = true) (w4 : (Lit.int .u64 a4).wf = true) :
    Calls Tryd.prog 11 #[.int .i64 a0, .int .i64 a1, .int .i64 a2, .int .i64 a3, .int .u64 a4, .bool a5] w fun e w' => e = .returned (.bool true) ∧ Below w.heap.size w w' :=
  (superFew_c a0 a1 a2 a3 a4 a5 w hg w4).mono fun _ _ ⟨he, hx⟩ => ⟨he, hx.below⟩
set_option maxRecDepth 100000 in
theorem lifted (os : Os) (started : os.Started) (H : Type) (enc : TypeId × Value → H) :
    ReturnsInHanded {} Tryd.checked os 11 .any (fun w args => (Rows.superFewSpec.pre enc Tryd.prog Tryd.f11 [] false w args ∧ laidMetH Tryd.prog theLaid w) ∧ sizedMet enc Tryd.prog Tryd.f11 (OpenSpec.ofChange Rows.superFewSpec) false w args)
      (Rows.superFewSpec.post enc Tryd.prog Tryd.f11 false true false false) := by
  refine returnsInHanded_of_change_and (C := Tryd.checked) (X := fun w _ => laidMetH Tryd.prog theLaid w) (fun _ _ _ hh h => h.of_heap hh) hOwn started (by kernel_rfl) Tryd.func11
    (ChangeSpec.witness_at (enc := enc) (C := Tryd.checked) (os := os) (X := fun w _ => laidMetH Tryd.prog theLaid w) false (laidWorld os) #[.int .i64 0, .int .i64 0, .int .i64 0, .int .i64 0, .int .u64 0, .bool false] 8 rfl (by kernel_rfl) (by kernel_rfl) (by kernel_rfl) (by kernel_rfl) (by kernel_rfl) (laidWorld_met os _)) ?_
  intro W base args ds gs before hval0 hW _ _ hL _
  have hval : ∀ (j : Nat) t v, Tryd.f11.params[j]? = some t → args[j]? = some v → Value.okWide Tryd.prog W .any base t v := hval0
  have hW' := hW
  obtain ⟨p, q, hA0, hV, rfl, hfz, hnd⟩ := hW
  have hA : DataW.TrodAll enc Tryd.prog W 0 (fun _ => true) true Tryd.f11.params.toList args.toList ds p := hA0
  rw [Tryd.params11] at hA hval
  obtain ⟨v0, vs0, d0, ds0, p0, q0, hargs, rfl, rfl, h0, r0⟩ := trodAll_cons hA
  obtain ⟨v1, vs1, d1, ds1, p1, q1, rfl, rfl, rfl, h1, r1⟩ := trodAll_cons r0
  obtain ⟨v2, vs2, d2, ds2, p2, q2, rfl, rfl, rfl, h2, r2⟩ := trodAll_cons r1
  obtain ⟨v3, vs3, d3, ds3, p3, q3, rfl, rfl, rfl, h3, r3⟩ := trodAll_cons r2
  obtain ⟨v4, vs4, d4, ds4, p4, q4, rfl, rfl, rfl, h4, r4⟩ := trodAll_cons r3
  obtain ⟨v5, vs5, d5, ds5, p5, q5, rfl, rfl, rfl, h5, r5⟩ := trodAll_cons r4
  obtain ⟨rfl, rfl, rfl⟩ := trodAll_nil r5
  obtain rfl : args = #[v0, v1, v2, v3, v4, v5] := by cases args; simp_all
  obtain ⟨rfl, rfl⟩ := trodVars_none hV
  obtain ⟨a0, rfl, rfl, rfl, w0⟩ := open_int Tryd.underlying3 (hval 0 3 v0 rfl rfl) h0
  obtain ⟨a1, rfl, rfl, rfl, w1⟩ := open_int Tryd.underlying3 (hval 1 3 v1 rfl rfl) h1
  obtain ⟨a2, rfl, rfl, rfl, w2⟩ := open_int Tryd.underlying3 (hval 2 3 v2 rfl rfl) h2
  obtain ⟨a3, rfl, rfl, rfl, w3⟩ := open_int Tryd.underlying3 (hval 3 3 v3 rfl rfl) h3
  obtain ⟨a4, rfl, rfl, rfl, w4⟩ := open_int Tryd.underlying34 (hval 4 34 v4 rfl rfl) h4
  obtain ⟨a5, rfl, rfl, rfl⟩ := open_bool Tryd.underlying4 (hval 5 4 v5 rfl rfl) h5
  have hg := etLaid_of hL
  clear hA0 hval0
  simp only [List.append_nil] at hW'
  refine (walk a0 a1 a2 a3 a4 a5 W hg w0 w1 w2 w3 w4).mono fun e W' ⟨he, bel⟩ => ?_
  subst he
  exact ⟨_, rfl, _, _, _, [], _, [], hW', trodAll_mk1 (shut_bool Tryd.underlying4 _), (trodAll_cons_mk (shut_int Tryd.underlying3 w0) (trodAll_cons_mk (shut_int Tryd.underlying3 w1) (trodAll_cons_mk (shut_int Tryd.underlying3 w2) (trodAll_cons_mk (shut_int Tryd.underlying3 w3) (trodAll_cons_mk (shut_int Tryd.underlying34 w4) (trodAll_cons_mk (shut_bool Tryd.underlying4 _) trodAll_mk0)))))), rfl, bel.frame _, fun h => by cases h⟩
theorem over : Rows.SuperFewSaid :=
  OpenClaim.holds_of_wide 11 Tryd.f11 rfl rfl rfl rfl rfl rfl rfl ⟨rfl, rfl, rfl, rfl, rfl⟩ rfl rfl rfl rfl rfl (by kernel_rfl) Tryd.func11 (by kernel_rfl)
    (of_decide_eq_true (by kernel_rfl)) (by unfold Func.isWrapper; first | (rw [if_pos (by decide +kernel)]; kernel_rfl) | (rw [if_neg (by decide +kernel)]; exact ⟨rfl, rfl⟩))
    (fun os started H enc _ => lifted os started H enc)
theorem proved : Rows.SuperFewCardSaid :=
  Claim7.holds_tied_plain_at .later [] [.handle] true (true, "dba68c5c8641de8e0643fe4af85c7b77ef0591640622d3211a00d85201f74fa1") true
    over (fun _ h => by cases h) (by kernel_rfl) (fun _ h => by cases h) superFew_row_tie rfl ⟨rfl, rfl⟩ (by kernel_rfl) rfl
    (fun f fn hf hfn => by
      obtain rfl : f = 11 := Option.some.inj ((show Tryd.prog.funcNamed "stave/stavelaw9.SuperFew" = some 11 by kernel_rfl).symm.trans hf) |>.symm
      obtain rfl : fn = Tryd.f11 := (Option.some.inj (Tryd.func11.symm.trans hfn)).symm
      exact ⟨by kernel_rfl, fun j t ht => by
        rw [Tryd.params11] at ht
        rcases j with _ | _ | _ | _ | _ | _ | j
        · simp at ht; subst ht; kernel_rfl
        · simp at ht; subst ht; kernel_rfl
        · simp at ht; subst ht; kernel_rfl
        · simp at ht; subst ht; kernel_rfl
        · simp at ht; subst ht; kernel_rfl
        · simp at ht; subst ht; kernel_rfl
        · simp at ht⟩)
    (by kernel_rfl)
#print axioms proved
end Go.Proofs.YtdbjojnejkklhaaDoor.superFew
