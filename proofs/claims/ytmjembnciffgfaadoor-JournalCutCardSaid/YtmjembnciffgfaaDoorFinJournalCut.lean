/- The statement JournalCut, as its tied card: for every input the call of stavelaw10's JournalCut answers true, and its arguments read behind it as they read before. No condition of our own. -/
/- Texts of one proof, joined: WJournalCut, LawJournalCut. -/
import Derived.Test.YtmjembnciffgfaaDoorPartL
import Derived.Deep.DeepCutAuto
import Derived.Test.YtmjembnciffgfaaDoorCards
import Derived.Test.YtmjembnciffgfaaDoorTie
import Derived.Test.YtmjembnciffgfaaDoorPartC
import Derived.WalkKit
import Derived.ProofKit
import Derived.OpenShut
import Derived.ShutString
import Derived.ChangeOld
import Derived.Below
import Derived.SevenTiedAt
set_option linter.unusedVariables false
set_option linter.unusedSimpArgs false
/- The walk of JournalCut. -/
namespace Go.Proofs.YtmjembnciffgfaaDoor
set_option linter.unusedVariables false
open Go Go.RowKit
set_option maxRecDepth 100000 in
set_option maxHeartbeats 8000000 in
theorem journalCut_c (k n fuse a0 b0 : Int) (ia : Option Addr) (len cap : Nat) (z : List Int) (w : World) (hg : EtLaid w) (hl : IsRow .u64 w ia len cap z) :
    Calls Tryd.prog 7 #[.int .i64 k, .int .i64 n, .int .i64 fuse, .int .i64 a0, .int .i64 b0, .slice ia len cap] w fun e w' => e = .returned (.bool true) ∧ Ext w w' := by
  have HBT := hid hl.bits
  have HBL := hid (show ∀ p, ia = some p → 0 < len → p.block < w.heap.size from fun p hp hn => by
    rcases hl with ⟨rfl, rfl, rfl, rfl⟩ | ⟨x, rfl, hlc, hm, hz, hc, hw⟩
    · cases hp
    · cases hp
      have h0 := hc 0 (by omega)
      have := World.block_lt_of_cell? w _ h0
      unfold Addr.add at this
      split at this <;> simp_all)
  generalize (z.take len).map Int.toNat = bits at *
  clear hl
  have HG := hid hg
  have hzc := zero_cfg
  have hzr := zero_rec
  have hzl := zero_loss
  have HCS := hid Cfg.A_size
  clear hg
  go_enter Tryd.func7, Tryd.ntmps7
  go_wp2_with fail
  refine (kfixed_c k n 2 1 _).mono ?_
  rintro e w1 ⟨rfl, x1⟩
  have HGD := hid (show (keepFixed k n 2 1).Good from keepFixed_good k n 2 1 (by omega) (by omega) (by omega) (by omega))
  have HK4 := hid (keepFixed_k4 k n 2 1)
  have HN6 := hid (keepFixed_n6 k n 2 1)
  have HST := hid (show (keepFixed k n 2 1).stripes = 2 from rfl)
  have HSL := hid (show (keepFixed k n 2 1).slots = 1 from rfl)
  generalize keepFixed k n 2 1 = c at *
  obtain ⟨W1, hW1⟩ : ∃ W, w1.alloc (.cells (Cfg.A c) 23) = W := ⟨_, rfl⟩
  have X1 := hid (show Ext w W1 from hW1 ▸ x1.alloc _)
  have HC := hid (show W1.heap[w1.heap.size]? = some (.cells (Cfg.A c) 23 (0, 0)) from hW1 ▸ heap_alloc_new _ _)
  have hbs : (w1.alloc (.cells (Cfg.A Cfg.zero) 23)).heap[w1.heap.size]? = some (.cells (Cfg.A Cfg.zero) 23 (0, 0)) := block_alloc
  clear x1
  go_wp2_with (guard_target = wpList _ _ _ ({ dst := none, op := Op.store _ _ _, type := _, pos := _, after := _, guard := none } :: _) _ _; refine wpList_store_whole rfl 23 _ _ rfl w1.heap.size rfl (Cfg.A c) _ rfl 23 ?_ hbs ?_ ?_ ?_; (rw [HCS.out]; exact aggCfg); (rw [HCS.out, HCS.out]); exact Cfg.A_one _)
  rw [setRow_alloc, hW1]
  clear hbs hW1
  have HLT := hid (lt_of_block HC.out)
  generalize w1.heap.size = g at *
  obtain ⟨m, hm, m1, m128⟩ := sectors_nat c HGD.out
  obtain ⟨nn, hn⟩ : ∃ nn : Nat, c.n = nn := ⟨c.n.toNat, by have := HGD.out.k0; have := HGD.out.k1; omega⟩
  obtain ⟨kk, hk⟩ : ∃ kk : Nat, c.k = kk := ⟨c.k.toNat, by have := HGD.out.k0; omega⟩
  have HNT := hid (show c.n.toNat = nn by omega)
  have HKT := hid (show c.k.toNat = kk by omega)
  have n1 : 1 ≤ nn := by have := HGD.out.k0; have := HGD.out.k1; omega
  have n8 : nn ≤ 6 := by have := HN6.out; omega
  have k1 : 1 ≤ kk := by have := HGD.out.k0; omega
  have k4 : kk ≤ 4 := by have := HK4.out; omega
  have HM := hid hm; have HN := hid hn; have HK := hid hk
  have xd : Ext W1 W1.drew := (Ext.refl W1).drew
  have lc : Hid (∀ x : SW Ext W1.drew, ∀ j v, (Cfg.A c).toList[j]? = some v → x.w.cell? ((⟨g, 0, none⟩ : Addr).add j) = some v) := hid fun x => agg_cells ((Ext.trans xd x.ext).at HC.out)
  have c2 : ∀ x : SW Ext W1.drew, x.w.cell? ⟨g, 2, none⟩ = some (.int .i64 nn) := fun x => (cell_at ((Ext.trans xd x.ext).at HC.out)).trans (by rw [Cfg.A2, HN.out])
  have sc : Hid (∀ x : SW Ext W1.drew, Calls Tryd.prog 19 #[.agg (Cfg.A c)] x.w fun e w'' => e = .returned (.int .i64 m) ∧ Ext x.w w'') := hid fun x => by
    have := ksectors_c c HGD.out x.w
    rw [HM.out] at this
    exact this
  have HAG := hid (cfg_agg c)
  clear hm hn hk
  refine wp_region_rely_all (S := Ext) (.one [0, 1, 2, 3] 4 (.fin [5, 6, 7, 8, 9])) (by kernel_rfl) (by kernel_rfl) (fun _ _ d _ _ h => by cases d <;> exact h) ?_
  rw [wpS]
  simp only [opsAt, List.map_cons, List.map_nil, Array.getD_eq_getD_getElem?, List.getElem?_toArray, List.getElem?_cons_succ, List.getElem?_cons_zero, Option.getD_some]
  iterate 2 ((refine wpSQ_step (fun K hK => ?_); go_simp; first | (refine hK _ ?_; clear hK K) | (apply Exists.intro; refine ⟨fun x => ?_, hK _ ?_⟩; (fail); clear hK K)))
  refine wpSQ_load_agg 23 _ rfl ⟨g, 0, none⟩ rfl (Cfg.A c) rfl HAG.out lc.out ?_
  (refine wpSQ_step (fun K hK => ?_); go_simp; first | (refine hK _ ?_; clear hK K) | (apply Exists.intro; refine ⟨fun x => ?_, hK _ ?_⟩; (exact sc.out x); clear hK K))
  refine wpSQ_nil ?_
  intro V1 hV1
  refine wpS_loud fun K hK => ?_
  go_wp2_with fail
  refine (at_new nn m n1 (by omega) m1 m128 V1).mono ?_
  rintro e w2 ⟨r, rfl, h2, x2⟩
  go_wp2
  refine hK _ _ x2 ?_
  clear hK K
  rw [wpS]
  simp only [opsAt, List.map_cons, List.map_nil, Array.getD_eq_getD_getElem?, List.getElem?_toArray, List.getElem?_cons_succ, List.getElem?_cons_zero, Option.getD_some]
  iterate 5 ((refine wpSQ_step (fun K hK => ?_); go_simp; first | (refine hK _ ?_; clear hK K) | (apply Exists.intro; refine ⟨fun x => ?_, hK _ ?_⟩; (fail); clear hK K)))
  refine wpSQ_nil ?_
  intro V2 hV2
  have J2 : JE w V2 (fun b => b < W1.heap.size) r (Rck.new nn m) g c [] := ⟨(h2.less fun b hb => Nat.lt_of_lt_of_le hb (Ext.trans xd hV1).size).ext hV2, Ext.trans X1.out (Ext.trans xd (Ext.trans hV1 (Ext.trans x2 hV2))), fun b hb => Nat.lt_of_lt_of_le hb X1.out.size, (Ext.trans xd (Ext.trans hV1 (Ext.trans x2 hV2))).at HC.out, HLT.out, fun p hp => by simp at hp⟩
  have HJ2 := hid J2
  have RJ0 : RJ (Rck.new nn m) c m (fun _ => none) := by
    have := RJ.new HGD.out (m := m) (by rw [HM.out]; exact Int.le_refl _)
    rw [HNT.out] at this
    exact this
  have HRJ0 := hid RJ0
  clear h2 x2 hV1 hV2 lc c2 sc xd J2 X1 HC HLT RJ0
  obtain ⟨X, hX⟩ : ∃ X, recOf c 5 0 a0 = X := ⟨_, rfl⟩
  have HXE := hid hX
  have HXB := hid (show X.blocks = blocksOf kk a0 by rw [← hX, ← HKT.out]; rfl)
  have HXL := hid (show (X.blocks.length : Int) = c.k by rw [← hX]; exact recOf_len HGD.out _ _ _)
  have HXN := hid (show X.blocks ≠ [] by
    rw [HXB.out]; intro q
    have := congrArg List.length q
    rw [blocksOf_len] at this; simp at this; omega)
  have HXS := hid (show X.seq = 5 by rw [← hX]; rfl)
  have HXT := hid (show X.stripe = 0 by rw [← hX]; rfl)
  have HXO := hid (show X.Ok by rw [← hX]; exact recOf_ok _ _ _ _)
  clear hX
  obtain ⟨Y, hY⟩ : ∃ Y, recOf c 6 1 b0 = Y := ⟨_, rfl⟩
  have HYE := hid hY
  have HYB := hid (show Y.blocks = blocksOf kk b0 by rw [← hY, ← HKT.out]; rfl)
  have HYL := hid (show (Y.blocks.length : Int) = c.k by rw [← hY]; exact recOf_len HGD.out _ _ _)
  have HYN := hid (show Y.blocks ≠ [] by
    rw [HYB.out]; intro q
    have := congrArg List.length q
    rw [blocksOf_len] at this; simp at this; omega)
  have HYS := hid (show Y.seq = 6 by rw [← hY]; rfl)
  have HYT := hid (show Y.stripe = 1 by rw [← hY]; rfl)
  have HYO := hid (show Y.Ok by rw [← hY]; exact recOf_ok _ _ _ _)
  clear hY
  have HLV := hid (lt_of_block HJ2.out.cfg)
  have ck : ∀ y : SW (Only fun b => V2.heap.size ≤ b) V2.drew, y.w.cell? ⟨g, 1, none⟩ = some (.int .i64 kk) := fun y => (cell_at (y.ext.at (show V2.drew.heap[g]? = _ from HJ2.out.cfg) (fun q => absurd HLV.out (Nat.not_lt.2 q)))).trans (by rw [Cfg.A1, HK.out])
  go_upto_region 3 with (fail)
  go_cut [16, 17] (fun vx vy wr => ∃ px py a cp ya yc, vx = .pointer (some ⟨px, 0, none⟩) ∧ vy = .pointer (some ⟨py, 0, none⟩) ∧ Ext V2 wr ∧ RecN V2.heap.size wr ⟨px, X, a, cp⟩ ∧ RecN V2.heap.size wr ⟨py, Y, ya, yc⟩)
  case first =>
    refine wp_region_tree_all (E := Ext) (S := Only fun b => V2.heap.size ≤ b) (.three [0, 1, 2, 5, 6, 7] 3 10 11 (.three [4] 8 10 11 (.two [9] 10 11 (.one [] 11 (.one [] 12 (.one [] 13 (.fin [])))) (.one [] 10 (.one [] 12 (.one [] 13 (.fin []))))) (.two [] 8 11 (.one [9] 11 (.one [] 12 (.one [] 13 (.fin [])))) (.one [] 8 (.one [9] 12 (.one [] 13 (.fin []))))) (.two [] 8 10 (.one [9] 10 (.one [] 12 (.one [] 13 (.fin [])))) (.one [] 8 (.one [9] 12 (.one [] 13 (.fin [])))))) (.two [] 3 11 (.two [4] 8 11 (.one [9] 11 (.one [] 12 (.one [] 13 (.fin [])))) (.one [] 8 (.one [9] 12 (.one [] 13 (.fin []))))) (.one [] 3 (.one [4] 8 (.one [9] 12 (.one [] 13 (.fin [])))))) (.two [] 3 10 (.two [4] 8 10 (.one [9] 10 (.one [] 12 (.one [] 13 (.fin [])))) (.one [] 8 (.one [9] 12 (.one [] 13 (.fin []))))) (.one [] 3 (.one [4] 8 (.one [9] 12 (.one [] 13 (.fin []))))))) (by kernel_rfl) (by kernel_rfl) (fun _ _ d _ _ h => by cases d <;> exact h) ?_
    rw [wpT]
    simp only [opsAt, List.map_cons, List.map_nil, Array.getD_eq_getD_getElem?, List.getElem?_toArray, List.getElem?_cons_succ, List.getElem?_cons_zero, Option.getD_some]
    (refine wpSQ_step (fun K hK => ?_); go_simp; first | (refine hK _ ?_; clear hK K) | (apply Exists.intro; refine ⟨fun x => ?_, hK _ ?_⟩; (fail); clear hK K))
    (refine wpSQ_step (fun K hK => ?_); go_simp; first | (refine hK _ ?_; clear hK K) | (apply Exists.intro; refine ⟨fun x => ?_, hK _ ?_⟩; (fail); clear hK K))
    (refine wpSQ_step (fun K hK => ?_); go_simp; first | (refine hK _ ?_; clear hK K) | (apply Exists.intro; refine ⟨fun x => ?_, hK _ ?_⟩; (fail); clear hK K))
    (refine wpSQ_step (fun K hK => ?_); go_simp; first | (refine hK _ ?_; clear hK K) | (apply Exists.intro; refine ⟨fun x => ?_, hK _ ?_⟩; (fail); clear hK K))
    (refine wpSQ_step (fun K hK => ?_); go_simp; first | (refine hK _ ?_; clear hK K) | (apply Exists.intro; refine ⟨fun x => ?_, hK _ ?_⟩; (fail); clear hK K))
    (refine wpSQ_step (fun K hK => ?_); go_simp; first | (refine hK _ ?_; clear hK K) | (apply Exists.intro; refine ⟨fun x => ?_, hK _ ?_⟩; (fail); clear hK K))
    refine wpSQ_nil ?_
    intro U0 hU0
    have EX0 := hid (show Ext V2 U0 from Ext.trans (Ext.refl V2).drew hU0)
    have SZ0 := hid EX0.out.size
    clear hU0 ck
    refine ⟨?_, ?_, ?_⟩
    · refine wpT_loud fun K hK => ?_
      go_wp2_with fail
      refine (kblocks_c kk (by omega) a0 U0).mono ?_
      rintro e W0 ⟨v, rfl, hown, xw⟩
      obtain ⟨a, cp, rfl, hbk, hab⟩ := kblocks_at (fun b hb => by obtain ⟨n, rfl⟩ := blocksOf_mem hb; exact blockOf_len n) hown
      have HBX : Hid (Tryd.prog.built 32 [(0, .int .i64 5), (1, .int .i64 0), (2, .slice a (blocksOf kk a0).length cp)] = some (X.V a cp)) := hid (by
        have := built_recOfC c 5 0 a0 a cp
        rw [HKT.out] at this
        rw [this, HXE.out])
      have BKX := hid (show BlksAt W0 a X.blocks by rw [HXB.out]; exact hbk)
      have LOX := hid hab
      clear hown hbk hab
      generalize (blocksOf kk a0).length = n1 at *
      go_wp2
      refine hK _ _ (Ext.only xw) ?_
      clear hK K
      rw [wpT]
      simp only [opsAt, List.map_cons, List.map_nil, Array.getD_eq_getD_getElem?, List.getElem?_toArray, List.getElem?_cons_succ, List.getElem?_cons_zero, Option.getD_some]
      refine wpSQ_build rfl 32 _ rfl (X.V a cp) ?_ ?_
      · simp only [List.map_toArray, List.map_cons, List.map_nil, Act.eval]
        simp only [Array.getD_eq_getD_getElem?, List.getElem?_toArray, List.getElem?_cons_succ, List.getElem?_cons_zero, Option.getD_some]
        exact HBX.out
      refine wpSQ_nil ?_
      intro U1 hU1
      have XU := hid (Ext.trans xw hU1)
      have EX1 := hid (Ext.trans EX0.out XU.out)
      have SZ1 := hid XU.out.size
      replace BKX := hid (BKX.out.ext hU1)
      have HIX := hid (fun g (hg : a = some ⟨g, 0, none⟩) => (show g < U1.heap.size from BKX.out.lt HXN.out g hg))
      clear hU1 xw XU
      refine ⟨?_, ?_, ?_⟩
      · refine wpT_loud fun K hK => ?_
        go_wp2_with fail
        refine (kblocks_c kk (by omega) b0 U1).mono ?_
        rintro e W1 ⟨v, rfl, hown, xw⟩
        obtain ⟨ya, yc, rfl, hbk, hab⟩ := kblocks_at (fun b hb => by obtain ⟨n, rfl⟩ := blocksOf_mem hb; exact blockOf_len n) hown
        have HBY : Hid (Tryd.prog.built 32 [(0, .int .i64 6), (1, .int .i64 1), (2, .slice ya (blocksOf kk b0).length yc)] = some (Y.V ya yc)) := hid (by
          have := built_recOfC c 6 1 b0 ya yc
          rw [HKT.out] at this
          rw [this, HYE.out])
        have BKY := hid (show BlksAt W1 ya Y.blocks by rw [HYB.out]; exact hbk)
        have LOY := hid hab
        clear hown hbk hab
        generalize (blocksOf kk b0).length = n2 at *
        go_wp2
        refine hK _ _ (Ext.only xw) ?_
        clear hK K
        rw [wpT]
        simp only [opsAt, List.map_cons, List.map_nil, Array.getD_eq_getD_getElem?, List.getElem?_toArray, List.getElem?_cons_succ, List.getElem?_cons_zero, Option.getD_some]
        refine wpSQ_build rfl 32 _ rfl (Y.V ya yc) ?_ ?_
        · simp only [List.map_toArray, List.map_cons, List.map_nil, Act.eval]
          simp only [Array.getD_eq_getD_getElem?, List.getElem?_toArray, List.getElem?_cons_succ, List.getElem?_cons_zero, Option.getD_some]
          exact HBY.out
        refine wpSQ_nil ?_
        intro U2 hU2
        have XU := hid (Ext.trans xw hU2)
        have EX2 := hid (Ext.trans EX1.out XU.out)
        have SZ2 := hid XU.out.size
        replace BKX := hid (BKX.out.ext XU.out)
        replace BKY := hid (BKY.out.ext hU2)
        have HIY := hid (fun g (hg : ya = some ⟨g, 0, none⟩) => (show g < U2.heap.size from BKY.out.lt HYN.out g hg))
        clear hU2 xw XU
        refine ⟨?_, ?_⟩
        · refine wpT_loud fun K hK => ?_
          go_wp2
          refine hK _ _ (Ext.only ((Ext.refl _).alloc _)) ?_
          clear hK K
          have xw : Ext U2 (U2.alloc (.cells (Rcd.none_.V none 0) 32)) := (Ext.refl _).alloc _
          have CBX := hid (show (U2.alloc (.cells (Rcd.none_.V none 0) 32)).heap[U2.heap.size]? = some (.cells (Rcd.none_.V none 0) 32 (0, 0)) from heap_alloc_new _ _)
          rw [wpT]
          simp only [opsAt, List.map_cons, List.map_nil, Array.getD_eq_getD_getElem?, List.getElem?_toArray, List.getElem?_cons_succ, List.getElem?_cons_zero, Option.getD_some]
          refine wpSQ_nil ?_
          intro U3 hU3
          have XU := hid (Ext.trans xw hU3)
          have EX3 := hid (Ext.trans EX2.out XU.out)
          have SZ3 := hid XU.out.size
          have SPX := hid (show U2.heap.size < U3.heap.size from Nat.lt_of_lt_of_le (by simp) hU3.size)
          replace BKX := hid (BKX.out.ext XU.out)
          replace CBX := hid (hU3.at CBX.out)
          replace BKY := hid (BKY.out.ext XU.out)
          clear hU3 xw XU
          refine wpT_loud fun K hK => ?_
          go_wp2
          refine hK _ _ (Ext.only ((Ext.refl _).alloc _)) ?_
          clear hK K
          have xw : Ext U3 (U3.alloc (.cells (Rcd.none_.V none 0) 32)) := (Ext.refl _).alloc _
          have CBY := hid (show (U3.alloc (.cells (Rcd.none_.V none 0) 32)).heap[U3.heap.size]? = some (.cells (Rcd.none_.V none 0) 32 (0, 0)) from heap_alloc_new _ _)
          rw [wpT]
          simp only [opsAt, List.map_cons, List.map_nil, Array.getD_eq_getD_getElem?, List.getElem?_toArray, List.getElem?_cons_succ, List.getElem?_cons_zero, Option.getD_some]
          refine wpSQ_nil ?_
          intro U4 hU4
          have XU := hid (Ext.trans xw hU4)
          have EX4 := hid (Ext.trans EX3.out XU.out)
          have SZ4 := hid XU.out.size
          have SPY := hid (show U3.heap.size < U4.heap.size from Nat.lt_of_lt_of_le (by simp) hU4.size)
          replace BKX := hid (BKX.out.ext XU.out)
          replace CBX := hid (XU.out.at CBX.out)
          replace BKY := hid (BKY.out.ext XU.out)
          replace CBY := hid (hU4.at CBY.out)
          clear hU4 xw XU
          refine wpT_loud fun K hK => ?_
          go_wp2_with (guard_target = wpList _ _ _ ({ dst := none, op := Op.store _ _ _, type := _, pos := _, after := _, guard := none } :: _) _ _; refine wpList_store_whole rfl 32 _ _ rfl U2.heap.size rfl (X.V a cp) _ rfl 32 (agg_rec _ _ _) CBX.out rfl (V_one _ _ _) ?_)
          have HOU := hid ((only_setRow U4 U2.heap.size (X.V a cp)).mono (fun i _ h => by subst h; exact (EX2.out.size : V2.heap.size ≤ U2.heap.size)) : Only (fun b => V2.heap.size ≤ b) U4 (U4.setRow U2.heap.size (X.V a cp)))
          refine hK _ _ HOU.out ?_
          have HSX := hid (setRow_heap U4 U2.heap.size _ (X.V a cp) _ _ CBX.out)
          clear hK K HOU
          rw [wpT]
          simp only [opsAt, List.map_cons, List.map_nil, Array.getD_eq_getD_getElem?, List.getElem?_toArray, List.getElem?_cons_succ, List.getElem?_cons_zero, Option.getD_some]
          refine wpSQ_nil ?_
          intro U5 hU5
          have OU := hid (Only.ext (only_setRow U4 U2.heap.size (X.V a cp)) hU5)
          have EX5 := hid (show Ext V2 U5 from Ext.then EX4.out OU.out (fun q hq e => by have := EX2.out.size; omega))
          have SZ5 := hid OU.out.size
          have CFX := hid (hU5.at HSX.out)
          replace BKX := hid (BKX.out.only OU.out (fun g hg e => by have s0 := SZ0.out; have s1 := SZ1.out; have s2 := SZ2.out; have s3 := SZ3.out; have s4 := SZ4.out; have pX := SPX.out; have pY := SPY.out; have h1 := LOX.out g hg; have h2 := HIX.out g hg; omega))
          replace BKY := hid (BKY.out.only OU.out (fun g hg e => by have s0 := SZ0.out; have s1 := SZ1.out; have s2 := SZ2.out; have s3 := SZ3.out; have s4 := SZ4.out; have pX := SPX.out; have pY := SPY.out; have h1 := LOY.out g hg; have h2 := HIY.out g hg; omega))
          replace CBY := hid (OU.out.at CBY.out (by have s0 := SZ0.out; have s1 := SZ1.out; have s2 := SZ2.out; have s3 := SZ3.out; have s4 := SZ4.out; have pX := SPX.out; have pY := SPY.out; omega))
          clear hU5 OU HSX CBX
          refine wpT_loud fun K hK => ?_
          go_wp2_with (guard_target = wpList _ _ _ ({ dst := none, op := Op.store _ _ _, type := _, pos := _, after := _, guard := none } :: _) _ _; refine wpList_store_whole rfl 32 _ _ rfl U3.heap.size rfl (Y.V ya yc) _ rfl 32 (agg_rec _ _ _) CBY.out rfl (V_one _ _ _) ?_)
          have HOU := hid ((only_setRow U5 U3.heap.size (Y.V ya yc)).mono (fun i _ h => by subst h; exact (EX3.out.size : V2.heap.size ≤ U3.heap.size)) : Only (fun b => V2.heap.size ≤ b) U5 (U5.setRow U3.heap.size (Y.V ya yc)))
          refine hK _ _ HOU.out ?_
          have HSX := hid (setRow_heap U5 U3.heap.size _ (Y.V ya yc) _ _ CBY.out)
          clear hK K HOU
          rw [wpT]
          simp only [opsAt, List.map_cons, List.map_nil, Array.getD_eq_getD_getElem?, List.getElem?_toArray, List.getElem?_cons_succ, List.getElem?_cons_zero, Option.getD_some]
          refine wpSQ_nil ?_
          intro U6 hU6
          have OU := hid (Only.ext (only_setRow U5 U3.heap.size (Y.V ya yc)) hU6)
          have EX6 := hid (show Ext V2 U6 from Ext.then EX5.out OU.out (fun q hq e => by have := EX3.out.size; omega))
          have SZ6 := hid OU.out.size
          have CFY := hid (hU6.at HSX.out)
          replace BKX := hid (BKX.out.only OU.out (fun g hg e => by have s0 := SZ0.out; have s1 := SZ1.out; have s2 := SZ2.out; have s3 := SZ3.out; have s4 := SZ4.out; have s5 := SZ5.out; have pX := SPX.out; have pY := SPY.out; have h1 := LOX.out g hg; have h2 := HIX.out g hg; omega))
          replace BKY := hid (BKY.out.only OU.out (fun g hg e => by have s0 := SZ0.out; have s1 := SZ1.out; have s2 := SZ2.out; have s3 := SZ3.out; have s4 := SZ4.out; have s5 := SZ5.out; have pX := SPX.out; have pY := SPY.out; have h1 := LOY.out g hg; have h2 := HIY.out g hg; omega))
          replace CFX := hid (OU.out.at CFX.out (by have s0 := SZ0.out; have s1 := SZ1.out; have s2 := SZ2.out; have s3 := SZ3.out; have s4 := SZ4.out; have s5 := SZ5.out; have pX := SPX.out; have pY := SPY.out; omega))
          clear hU6 OU HSX CBY
          go_wp2
          go_meet
          case rel =>
            exact ⟨U2.heap.size, U3.heap.size, a, cp, ya, yc, rfl, rfl, EX6.out, ⟨CFX.out, EX2.out.size, BKX.out, fun g hg => Nat.le_trans EX0.out.size (LOX.out g hg)⟩, ⟨CFY.out, EX3.out.size, BKY.out, fun g hg => Nat.le_trans EX1.out.size (LOY.out g hg)⟩⟩
        · refine wpT_loud fun K hK => ?_
          go_wp2
          refine hK _ _ (Ext.only ((Ext.refl _).alloc _)) ?_
          clear hK K
          have xw : Ext U2 (U2.alloc (.cells (Rcd.none_.V none 0) 32)) := (Ext.refl _).alloc _
          have CBY := hid (show (U2.alloc (.cells (Rcd.none_.V none 0) 32)).heap[U2.heap.size]? = some (.cells (Rcd.none_.V none 0) 32 (0, 0)) from heap_alloc_new _ _)
          rw [wpT]
          simp only [opsAt, List.map_cons, List.map_nil, Array.getD_eq_getD_getElem?, List.getElem?_toArray, List.getElem?_cons_succ, List.getElem?_cons_zero, Option.getD_some]
          refine wpSQ_nil ?_
          intro U3 hU3
          have XU := hid (Ext.trans xw hU3)
          have EX3 := hid (Ext.trans EX2.out XU.out)
          have SZ3 := hid XU.out.size
          have SPY := hid (show U2.heap.size < U3.heap.size from Nat.lt_of_lt_of_le (by simp) hU3.size)
          replace BKX := hid (BKX.out.ext XU.out)
          replace BKY := hid (BKY.out.ext XU.out)
          replace CBY := hid (hU3.at CBY.out)
          clear hU3 xw XU
          refine wpT_loud fun K hK => ?_
          go_wp2
          refine hK _ _ (Ext.only ((Ext.refl _).alloc _)) ?_
          clear hK K
          have xw : Ext U3 (U3.alloc (.cells (Rcd.none_.V none 0) 32)) := (Ext.refl _).alloc _
          have CBX := hid (show (U3.alloc (.cells (Rcd.none_.V none 0) 32)).heap[U3.heap.size]? = some (.cells (Rcd.none_.V none 0) 32 (0, 0)) from heap_alloc_new _ _)
          rw [wpT]
          simp only [opsAt, List.map_cons, List.map_nil, Array.getD_eq_getD_getElem?, List.getElem?_toArray, List.getElem?_cons_succ, List.getElem?_cons_zero, Option.getD_some]
          refine wpSQ_nil ?_
          intro U4 hU4
          have XU := hid (Ext.trans xw hU4)
          have EX4 := hid (Ext.trans EX3.out XU.out)
          have SZ4 := hid XU.out.size
          have SPX := hid (show U3.heap.size < U4.heap.size from Nat.lt_of_lt_of_le (by simp) hU4.size)
          replace BKX := hid (BKX.out.ext XU.out)
          replace CBX := hid (hU4.at CBX.out)
          replace BKY := hid (BKY.out.ext XU.out)
          replace CBY := hid (XU.out.at CBY.out)
          clear hU4 xw XU
          refine wpT_loud fun K hK => ?_
          go_wp2_with (guard_target = wpList _ _ _ ({ dst := none, op := Op.store _ _ _, type := _, pos := _, after := _, guard := none } :: _) _ _; refine wpList_store_whole rfl 32 _ _ rfl U3.heap.size rfl (X.V a cp) _ rfl 32 (agg_rec _ _ _) CBX.out rfl (V_one _ _ _) ?_)
          have HOU := hid ((only_setRow U4 U3.heap.size (X.V a cp)).mono (fun i _ h => by subst h; exact (EX3.out.size : V2.heap.size ≤ U3.heap.size)) : Only (fun b => V2.heap.size ≤ b) U4 (U4.setRow U3.heap.size (X.V a cp)))
          refine hK _ _ HOU.out ?_
          have HSX := hid (setRow_heap U4 U3.heap.size _ (X.V a cp) _ _ CBX.out)
          clear hK K HOU
          rw [wpT]
          simp only [opsAt, List.map_cons, List.map_nil, Array.getD_eq_getD_getElem?, List.getElem?_toArray, List.getElem?_cons_succ, List.getElem?_cons_zero, Option.getD_some]
          refine wpSQ_nil ?_
          intro U5 hU5
          have OU := hid (Only.ext (only_setRow U4 U3.heap.size (X.V a cp)) hU5)
          have EX5 := hid (show Ext V2 U5 from Ext.then EX4.out OU.out (fun q hq e => by have := EX3.out.size; omega))
          have SZ5 := hid OU.out.size
          have CFX := hid (hU5.at HSX.out)
          replace BKX := hid (BKX.out.only OU.out (fun g hg e => by have s0 := SZ0.out; have s1 := SZ1.out; have s2 := SZ2.out; have s3 := SZ3.out; have s4 := SZ4.out; have pX := SPX.out; have pY := SPY.out; have h1 := LOX.out g hg; have h2 := HIX.out g hg; omega))
          replace BKY := hid (BKY.out.only OU.out (fun g hg e => by have s0 := SZ0.out; have s1 := SZ1.out; have s2 := SZ2.out; have s3 := SZ3.out; have s4 := SZ4.out; have pX := SPX.out; have pY := SPY.out; have h1 := LOY.out g hg; have h2 := HIY.out g hg; omega))
          replace CBY := hid (OU.out.at CBY.out (by have s0 := SZ0.out; have s1 := SZ1.out; have s2 := SZ2.out; have s3 := SZ3.out; have s4 := SZ4.out; have pX := SPX.out; have pY := SPY.out; omega))
          clear hU5 OU HSX CBX
          refine wpT_loud fun K hK => ?_
          go_wp2_with (guard_target = wpList _ _ _ ({ dst := none, op := Op.store _ _ _, type := _, pos := _, after := _, guard := none } :: _) _ _; refine wpList_store_whole rfl 32 _ _ rfl U2.heap.size rfl (Y.V ya yc) _ rfl 32 (agg_rec _ _ _) CBY.out rfl (V_one _ _ _) ?_)
          have HOU := hid ((only_setRow U5 U2.heap.size (Y.V ya yc)).mono (fun i _ h => by subst h; exact (EX2.out.size : V2.heap.size ≤ U2.heap.size)) : Only (fun b => V2.heap.size ≤ b) U5 (U5.setRow U2.heap.size (Y.V ya yc)))
          refine hK _ _ HOU.out ?_
          have HSX := hid (setRow_heap U5 U2.heap.size _ (Y.V ya yc) _ _ CBY.out)
          clear hK K HOU
          rw [wpT]
          simp only [opsAt, List.map_cons, List.map_nil, Array.getD_eq_getD_getElem?, List.getElem?_toArray, List.getElem?_cons_succ, List.getElem?_cons_zero, Option.getD_some]
          refine wpSQ_nil ?_
          intro U6 hU6
          have OU := hid (Only.ext (only_setRow U5 U2.heap.size (Y.V ya yc)) hU6)
          have EX6 := hid (show Ext V2 U6 from Ext.then EX5.out OU.out (fun q hq e => by have := EX2.out.size; omega))
          have SZ6 := hid OU.out.size
          have CFY := hid (hU6.at HSX.out)
          replace BKX := hid (BKX.out.only OU.out (fun g hg e => by have s0 := SZ0.out; have s1 := SZ1.out; have s2 := SZ2.out; have s3 := SZ3.out; have s4 := SZ4.out; have s5 := SZ5.out; have pX := SPX.out; have pY := SPY.out; have h1 := LOX.out g hg; have h2 := HIX.out g hg; omega))
          replace BKY := hid (BKY.out.only OU.out (fun g hg e => by have s0 := SZ0.out; have s1 := SZ1.out; have s2 := SZ2.out; have s3 := SZ3.out; have s4 := SZ4.out; have s5 := SZ5.out; have pX := SPX.out; have pY := SPY.out; have h1 := LOY.out g hg; have h2 := HIY.out g hg; omega))
          replace CFX := hid (OU.out.at CFX.out (by have s0 := SZ0.out; have s1 := SZ1.out; have s2 := SZ2.out; have s3 := SZ3.out; have s4 := SZ4.out; have s5 := SZ5.out; have pX := SPX.out; have pY := SPY.out; omega))
          clear hU6 OU HSX CBY
          go_wp2
          go_meet
          case rel =>
            exact ⟨U3.heap.size, U2.heap.size, a, cp, ya, yc, rfl, rfl, EX6.out, ⟨CFX.out, EX3.out.size, BKX.out, fun g hg => Nat.le_trans EX0.out.size (LOX.out g hg)⟩, ⟨CFY.out, EX2.out.size, BKY.out, fun g hg => Nat.le_trans EX1.out.size (LOY.out g hg)⟩⟩
      · refine wpT_loud fun K hK => ?_
        go_wp2
        refine hK _ _ (Ext.only ((Ext.refl _).alloc _)) ?_
        clear hK K
        have xw : Ext U1 (U1.alloc (.cells (Rcd.none_.V none 0) 32)) := (Ext.refl _).alloc _
        have CBX := hid (show (U1.alloc (.cells (Rcd.none_.V none 0) 32)).heap[U1.heap.size]? = some (.cells (Rcd.none_.V none 0) 32 (0, 0)) from heap_alloc_new _ _)
        rw [wpT]
        simp only [opsAt, List.map_cons, List.map_nil, Array.getD_eq_getD_getElem?, List.getElem?_toArray, List.getElem?_cons_succ, List.getElem?_cons_zero, Option.getD_some]
        refine wpSQ_nil ?_
        intro U2 hU2
        have XU := hid (Ext.trans xw hU2)
        have EX2 := hid (Ext.trans EX1.out XU.out)
        have SZ2 := hid XU.out.size
        have SPX := hid (show U1.heap.size < U2.heap.size from Nat.lt_of_lt_of_le (by simp) hU2.size)
        replace BKX := hid (BKX.out.ext XU.out)
        replace CBX := hid (hU2.at CBX.out)
        clear hU2 xw XU
        refine ⟨?_, ?_⟩
        · refine wpT_loud fun K hK => ?_
          go_wp2_with fail
          refine (kblocks_c kk (by omega) b0 U2).mono ?_
          rintro e W2 ⟨v, rfl, hown, xw⟩
          obtain ⟨ya, yc, rfl, hbk, hab⟩ := kblocks_at (fun b hb => by obtain ⟨n, rfl⟩ := blocksOf_mem hb; exact blockOf_len n) hown
          have HBY : Hid (Tryd.prog.built 32 [(0, .int .i64 6), (1, .int .i64 1), (2, .slice ya (blocksOf kk b0).length yc)] = some (Y.V ya yc)) := hid (by
            have := built_recOfC c 6 1 b0 ya yc
            rw [HKT.out] at this
            rw [this, HYE.out])
          have BKY := hid (show BlksAt W2 ya Y.blocks by rw [HYB.out]; exact hbk)
          have LOY := hid hab
          clear hown hbk hab
          generalize (blocksOf kk b0).length = n2 at *
          go_wp2
          refine hK _ _ (Ext.only xw) ?_
          clear hK K
          rw [wpT]
          simp only [opsAt, List.map_cons, List.map_nil, Array.getD_eq_getD_getElem?, List.getElem?_toArray, List.getElem?_cons_succ, List.getElem?_cons_zero, Option.getD_some]
          refine wpSQ_build rfl 32 _ rfl (Y.V ya yc) ?_ ?_
          · simp only [List.map_toArray, List.map_cons, List.map_nil, Act.eval]
            simp only [Array.getD_eq_getD_getElem?, List.getElem?_toArray, List.getElem?_cons_succ, List.getElem?_cons_zero, Option.getD_some]
            exact HBY.out
          refine wpSQ_nil ?_
          intro U3 hU3
          have XU := hid (Ext.trans xw hU3)
          have EX3 := hid (Ext.trans EX2.out XU.out)
          have SZ3 := hid XU.out.size
          replace BKX := hid (BKX.out.ext XU.out)
          replace CBX := hid (XU.out.at CBX.out)
          replace BKY := hid (BKY.out.ext hU3)
          have HIY := hid (fun g (hg : ya = some ⟨g, 0, none⟩) => (show g < U3.heap.size from BKY.out.lt HYN.out g hg))
          clear hU3 xw XU
          refine wpT_loud fun K hK => ?_
          go_wp2
          refine hK _ _ (Ext.only ((Ext.refl _).alloc _)) ?_
          clear hK K
          have xw : Ext U3 (U3.alloc (.cells (Rcd.none_.V none 0) 32)) := (Ext.refl _).alloc _
          have CBY := hid (show (U3.alloc (.cells (Rcd.none_.V none 0) 32)).heap[U3.heap.size]? = some (.cells (Rcd.none_.V none 0) 32 (0, 0)) from heap_alloc_new _ _)
          rw [wpT]
          simp only [opsAt, List.map_cons, List.map_nil, Array.getD_eq_getD_getElem?, List.getElem?_toArray, List.getElem?_cons_succ, List.getElem?_cons_zero, Option.getD_some]
          refine wpSQ_nil ?_
          intro U4 hU4
          have XU := hid (Ext.trans xw hU4)
          have EX4 := hid (Ext.trans EX3.out XU.out)
          have SZ4 := hid XU.out.size
          have SPY := hid (show U3.heap.size < U4.heap.size from Nat.lt_of_lt_of_le (by simp) hU4.size)
          replace BKX := hid (BKX.out.ext XU.out)
          replace CBX := hid (XU.out.at CBX.out)
          replace BKY := hid (BKY.out.ext XU.out)
          replace CBY := hid (hU4.at CBY.out)
          clear hU4 xw XU
          refine wpT_loud fun K hK => ?_
          go_wp2_with (guard_target = wpList _ _ _ ({ dst := none, op := Op.store _ _ _, type := _, pos := _, after := _, guard := none } :: _) _ _; refine wpList_store_whole rfl 32 _ _ rfl U1.heap.size rfl (X.V a cp) _ rfl 32 (agg_rec _ _ _) CBX.out rfl (V_one _ _ _) ?_)
          have HOU := hid ((only_setRow U4 U1.heap.size (X.V a cp)).mono (fun i _ h => by subst h; exact (EX1.out.size : V2.heap.size ≤ U1.heap.size)) : Only (fun b => V2.heap.size ≤ b) U4 (U4.setRow U1.heap.size (X.V a cp)))
          refine hK _ _ HOU.out ?_
          have HSX := hid (setRow_heap U4 U1.heap.size _ (X.V a cp) _ _ CBX.out)
          clear hK K HOU
          rw [wpT]
          simp only [opsAt, List.map_cons, List.map_nil, Array.getD_eq_getD_getElem?, List.getElem?_toArray, List.getElem?_cons_succ, List.getElem?_cons_zero, Option.getD_some]
          refine wpSQ_nil ?_
          intro U5 hU5
          have OU := hid (Only.ext (only_setRow U4 U1.heap.size (X.V a cp)) hU5)
          have EX5 := hid (show Ext V2 U5 from Ext.then EX4.out OU.out (fun q hq e => by have := EX1.out.size; omega))
          have SZ5 := hid OU.out.size
          have CFX := hid (hU5.at HSX.out)
          replace BKX := hid (BKX.out.only OU.out (fun g hg e => by have s0 := SZ0.out; have s1 := SZ1.out; have s2 := SZ2.out; have s3 := SZ3.out; have s4 := SZ4.out; have pX := SPX.out; have pY := SPY.out; have h1 := LOX.out g hg; have h2 := HIX.out g hg; omega))
          replace BKY := hid (BKY.out.only OU.out (fun g hg e => by have s0 := SZ0.out; have s1 := SZ1.out; have s2 := SZ2.out; have s3 := SZ3.out; have s4 := SZ4.out; have pX := SPX.out; have pY := SPY.out; have h1 := LOY.out g hg; have h2 := HIY.out g hg; omega))
          replace CBY := hid (OU.out.at CBY.out (by have s0 := SZ0.out; have s1 := SZ1.out; have s2 := SZ2.out; have s3 := SZ3.out; have s4 := SZ4.out; have pX := SPX.out; have pY := SPY.out; omega))
          clear hU5 OU HSX CBX
          refine wpT_loud fun K hK => ?_
          go_wp2_with (guard_target = wpList _ _ _ ({ dst := none, op := Op.store _ _ _, type := _, pos := _, after := _, guard := none } :: _) _ _; refine wpList_store_whole rfl 32 _ _ rfl U3.heap.size rfl (Y.V ya yc) _ rfl 32 (agg_rec _ _ _) CBY.out rfl (V_one _ _ _) ?_)
          have HOU := hid ((only_setRow U5 U3.heap.size (Y.V ya yc)).mono (fun i _ h => by subst h; exact (EX3.out.size : V2.heap.size ≤ U3.heap.size)) : Only (fun b => V2.heap.size ≤ b) U5 (U5.setRow U3.heap.size (Y.V ya yc)))
          refine hK _ _ HOU.out ?_
          have HSX := hid (setRow_heap U5 U3.heap.size _ (Y.V ya yc) _ _ CBY.out)
          clear hK K HOU
          rw [wpT]
          simp only [opsAt, List.map_cons, List.map_nil, Array.getD_eq_getD_getElem?, List.getElem?_toArray, List.getElem?_cons_succ, List.getElem?_cons_zero, Option.getD_some]
          refine wpSQ_nil ?_
          intro U6 hU6
          have OU := hid (Only.ext (only_setRow U5 U3.heap.size (Y.V ya yc)) hU6)
          have EX6 := hid (show Ext V2 U6 from Ext.then EX5.out OU.out (fun q hq e => by have := EX3.out.size; omega))
          have SZ6 := hid OU.out.size
          have CFY := hid (hU6.at HSX.out)
          replace BKX := hid (BKX.out.only OU.out (fun g hg e => by have s0 := SZ0.out; have s1 := SZ1.out; have s2 := SZ2.out; have s3 := SZ3.out; have s4 := SZ4.out; have s5 := SZ5.out; have pX := SPX.out; have pY := SPY.out; have h1 := LOX.out g hg; have h2 := HIX.out g hg; omega))
          replace BKY := hid (BKY.out.only OU.out (fun g hg e => by have s0 := SZ0.out; have s1 := SZ1.out; have s2 := SZ2.out; have s3 := SZ3.out; have s4 := SZ4.out; have s5 := SZ5.out; have pX := SPX.out; have pY := SPY.out; have h1 := LOY.out g hg; have h2 := HIY.out g hg; omega))
          replace CFX := hid (OU.out.at CFX.out (by have s0 := SZ0.out; have s1 := SZ1.out; have s2 := SZ2.out; have s3 := SZ3.out; have s4 := SZ4.out; have s5 := SZ5.out; have pX := SPX.out; have pY := SPY.out; omega))
          clear hU6 OU HSX CBY
          go_wp2
          go_meet
          case rel =>
            exact ⟨U1.heap.size, U3.heap.size, a, cp, ya, yc, rfl, rfl, EX6.out, ⟨CFX.out, EX1.out.size, BKX.out, fun g hg => Nat.le_trans EX0.out.size (LOX.out g hg)⟩, ⟨CFY.out, EX3.out.size, BKY.out, fun g hg => Nat.le_trans EX2.out.size (LOY.out g hg)⟩⟩
        · refine wpT_loud fun K hK => ?_
          go_wp2
          refine hK _ _ (Ext.only ((Ext.refl _).alloc _)) ?_
          clear hK K
          have xw : Ext U2 (U2.alloc (.cells (Rcd.none_.V none 0) 32)) := (Ext.refl _).alloc _
          have CBY := hid (show (U2.alloc (.cells (Rcd.none_.V none 0) 32)).heap[U2.heap.size]? = some (.cells (Rcd.none_.V none 0) 32 (0, 0)) from heap_alloc_new _ _)
          rw [wpT]
          simp only [opsAt, List.map_cons, List.map_nil, Array.getD_eq_getD_getElem?, List.getElem?_toArray, List.getElem?_cons_succ, List.getElem?_cons_zero, Option.getD_some]
          refine wpSQ_nil ?_
          intro U3 hU3
          have XU := hid (Ext.trans xw hU3)
          have EX3 := hid (Ext.trans EX2.out XU.out)
          have SZ3 := hid XU.out.size
          have SPY := hid (show U2.heap.size < U3.heap.size from Nat.lt_of_lt_of_le (by simp) hU3.size)
          replace BKX := hid (BKX.out.ext XU.out)
          replace CBX := hid (XU.out.at CBX.out)
          replace CBY := hid (hU3.at CBY.out)
          clear hU3 xw XU
          refine wpT_loud fun K hK => ?_
          go_wp2_with fail
          refine (kblocks_c kk (by omega) b0 U3).mono ?_
          rintro e W3 ⟨v, rfl, hown, xw⟩
          obtain ⟨ya, yc, rfl, hbk, hab⟩ := kblocks_at (fun b hb => by obtain ⟨n, rfl⟩ := blocksOf_mem hb; exact blockOf_len n) hown
          have HBY : Hid (Tryd.prog.built 32 [(0, .int .i64 6), (1, .int .i64 1), (2, .slice ya (blocksOf kk b0).length yc)] = some (Y.V ya yc)) := hid (by
            have := built_recOfC c 6 1 b0 ya yc
            rw [HKT.out] at this
            rw [this, HYE.out])
          have BKY := hid (show BlksAt W3 ya Y.blocks by rw [HYB.out]; exact hbk)
          have LOY := hid hab
          clear hown hbk hab
          generalize (blocksOf kk b0).length = n2 at *
          go_wp2
          refine hK _ _ (Ext.only xw) ?_
          clear hK K
          rw [wpT]
          simp only [opsAt, List.map_cons, List.map_nil, Array.getD_eq_getD_getElem?, List.getElem?_toArray, List.getElem?_cons_succ, List.getElem?_cons_zero, Option.getD_some]
          refine wpSQ_build rfl 32 _ rfl (Y.V ya yc) ?_ ?_
          · simp only [List.map_toArray, List.map_cons, List.map_nil, Act.eval]
            simp only [Array.getD_eq_getD_getElem?, List.getElem?_toArray, List.getElem?_cons_succ, List.getElem?_cons_zero, Option.getD_some]
            exact HBY.out
          refine wpSQ_nil ?_
          intro U4 hU4
          have XU := hid (Ext.trans xw hU4)
          have EX4 := hid (Ext.trans EX3.out XU.out)
          have SZ4 := hid XU.out.size
          replace BKX := hid (BKX.out.ext XU.out)
          replace CBX := hid (XU.out.at CBX.out)
          replace BKY := hid (BKY.out.ext hU4)
          have HIY := hid (fun g (hg : ya = some ⟨g, 0, none⟩) => (show g < U4.heap.size from BKY.out.lt HYN.out g hg))
          replace CBY := hid (XU.out.at CBY.out)
          clear hU4 xw XU
          refine wpT_loud fun K hK => ?_
          go_wp2_with (guard_target = wpList _ _ _ ({ dst := none, op := Op.store _ _ _, type := _, pos := _, after := _, guard := none } :: _) _ _; refine wpList_store_whole rfl 32 _ _ rfl U1.heap.size rfl (X.V a cp) _ rfl 32 (agg_rec _ _ _) CBX.out rfl (V_one _ _ _) ?_)
          have HOU := hid ((only_setRow U4 U1.heap.size (X.V a cp)).mono (fun i _ h => by subst h; exact (EX1.out.size : V2.heap.size ≤ U1.heap.size)) : Only (fun b => V2.heap.size ≤ b) U4 (U4.setRow U1.heap.size (X.V a cp)))
          refine hK _ _ HOU.out ?_
          have HSX := hid (setRow_heap U4 U1.heap.size _ (X.V a cp) _ _ CBX.out)
          clear hK K HOU
          rw [wpT]
          simp only [opsAt, List.map_cons, List.map_nil, Array.getD_eq_getD_getElem?, List.getElem?_toArray, List.getElem?_cons_succ, List.getElem?_cons_zero, Option.getD_some]
          refine wpSQ_nil ?_
          intro U5 hU5
          have OU := hid (Only.ext (only_setRow U4 U1.heap.size (X.V a cp)) hU5)
          have EX5 := hid (show Ext V2 U5 from Ext.then EX4.out OU.out (fun q hq e => by have := EX1.out.size; omega))
          have SZ5 := hid OU.out.size
          have CFX := hid (hU5.at HSX.out)
          replace BKX := hid (BKX.out.only OU.out (fun g hg e => by have s0 := SZ0.out; have s1 := SZ1.out; have s2 := SZ2.out; have s3 := SZ3.out; have s4 := SZ4.out; have pX := SPX.out; have pY := SPY.out; have h1 := LOX.out g hg; have h2 := HIX.out g hg; omega))
          replace BKY := hid (BKY.out.only OU.out (fun g hg e => by have s0 := SZ0.out; have s1 := SZ1.out; have s2 := SZ2.out; have s3 := SZ3.out; have s4 := SZ4.out; have pX := SPX.out; have pY := SPY.out; have h1 := LOY.out g hg; have h2 := HIY.out g hg; omega))
          replace CBY := hid (OU.out.at CBY.out (by have s0 := SZ0.out; have s1 := SZ1.out; have s2 := SZ2.out; have s3 := SZ3.out; have s4 := SZ4.out; have pX := SPX.out; have pY := SPY.out; omega))
          clear hU5 OU HSX CBX
          refine wpT_loud fun K hK => ?_
          go_wp2_with (guard_target = wpList _ _ _ ({ dst := none, op := Op.store _ _ _, type := _, pos := _, after := _, guard := none } :: _) _ _; refine wpList_store_whole rfl 32 _ _ rfl U2.heap.size rfl (Y.V ya yc) _ rfl 32 (agg_rec _ _ _) CBY.out rfl (V_one _ _ _) ?_)
          have HOU := hid ((only_setRow U5 U2.heap.size (Y.V ya yc)).mono (fun i _ h => by subst h; exact (EX2.out.size : V2.heap.size ≤ U2.heap.size)) : Only (fun b => V2.heap.size ≤ b) U5 (U5.setRow U2.heap.size (Y.V ya yc)))
          refine hK _ _ HOU.out ?_
          have HSX := hid (setRow_heap U5 U2.heap.size _ (Y.V ya yc) _ _ CBY.out)
          clear hK K HOU
          rw [wpT]
          simp only [opsAt, List.map_cons, List.map_nil, Array.getD_eq_getD_getElem?, List.getElem?_toArray, List.getElem?_cons_succ, List.getElem?_cons_zero, Option.getD_some]
          refine wpSQ_nil ?_
          intro U6 hU6
          have OU := hid (Only.ext (only_setRow U5 U2.heap.size (Y.V ya yc)) hU6)
          have EX6 := hid (show Ext V2 U6 from Ext.then EX5.out OU.out (fun q hq e => by have := EX2.out.size; omega))
          have SZ6 := hid OU.out.size
          have CFY := hid (hU6.at HSX.out)
          replace BKX := hid (BKX.out.only OU.out (fun g hg e => by have s0 := SZ0.out; have s1 := SZ1.out; have s2 := SZ2.out; have s3 := SZ3.out; have s4 := SZ4.out; have s5 := SZ5.out; have pX := SPX.out; have pY := SPY.out; have h1 := LOX.out g hg; have h2 := HIX.out g hg; omega))
          replace BKY := hid (BKY.out.only OU.out (fun g hg e => by have s0 := SZ0.out; have s1 := SZ1.out; have s2 := SZ2.out; have s3 := SZ3.out; have s4 := SZ4.out; have s5 := SZ5.out; have pX := SPX.out; have pY := SPY.out; have h1 := LOY.out g hg; have h2 := HIY.out g hg; omega))
          replace CFX := hid (OU.out.at CFX.out (by have s0 := SZ0.out; have s1 := SZ1.out; have s2 := SZ2.out; have s3 := SZ3.out; have s4 := SZ4.out; have s5 := SZ5.out; have pX := SPX.out; have pY := SPY.out; omega))
          clear hU6 OU HSX CBY
          go_wp2
          go_meet
          case rel =>
            exact ⟨U1.heap.size, U2.heap.size, a, cp, ya, yc, rfl, rfl, EX6.out, ⟨CFX.out, EX1.out.size, BKX.out, fun g hg => Nat.le_trans EX0.out.size (LOX.out g hg)⟩, ⟨CFY.out, EX2.out.size, BKY.out, fun g hg => Nat.le_trans EX3.out.size (LOY.out g hg)⟩⟩
      · refine wpT_loud fun K hK => ?_
        go_wp2
        refine hK _ _ (Ext.only ((Ext.refl _).alloc _)) ?_
        clear hK K
        have xw : Ext U1 (U1.alloc (.cells (Rcd.none_.V none 0) 32)) := (Ext.refl _).alloc _
        have CBY := hid (show (U1.alloc (.cells (Rcd.none_.V none 0) 32)).heap[U1.heap.size]? = some (.cells (Rcd.none_.V none 0) 32 (0, 0)) from heap_alloc_new _ _)
        rw [wpT]
        simp only [opsAt, List.map_cons, List.map_nil, Array.getD_eq_getD_getElem?, List.getElem?_toArray, List.getElem?_cons_succ, List.getElem?_cons_zero, Option.getD_some]
        refine wpSQ_nil ?_
        intro U2 hU2
        have XU := hid (Ext.trans xw hU2)
        have EX2 := hid (Ext.trans EX1.out XU.out)
        have SZ2 := hid XU.out.size
        have SPY := hid (show U1.heap.size < U2.heap.size from Nat.lt_of_lt_of_le (by simp) hU2.size)
        replace BKX := hid (BKX.out.ext XU.out)
        replace CBY := hid (hU2.at CBY.out)
        clear hU2 xw XU
        refine ⟨?_, ?_⟩
        · refine wpT_loud fun K hK => ?_
          go_wp2_with fail
          refine (kblocks_c kk (by omega) b0 U2).mono ?_
          rintro e W2 ⟨v, rfl, hown, xw⟩
          obtain ⟨ya, yc, rfl, hbk, hab⟩ := kblocks_at (fun b hb => by obtain ⟨n, rfl⟩ := blocksOf_mem hb; exact blockOf_len n) hown
          have HBY : Hid (Tryd.prog.built 32 [(0, .int .i64 6), (1, .int .i64 1), (2, .slice ya (blocksOf kk b0).length yc)] = some (Y.V ya yc)) := hid (by
            have := built_recOfC c 6 1 b0 ya yc
            rw [HKT.out] at this
            rw [this, HYE.out])
          have BKY := hid (show BlksAt W2 ya Y.blocks by rw [HYB.out]; exact hbk)
          have LOY := hid hab
          clear hown hbk hab
          generalize (blocksOf kk b0).length = n2 at *
          go_wp2
          refine hK _ _ (Ext.only xw) ?_
          clear hK K
          rw [wpT]
          simp only [opsAt, List.map_cons, List.map_nil, Array.getD_eq_getD_getElem?, List.getElem?_toArray, List.getElem?_cons_succ, List.getElem?_cons_zero, Option.getD_some]
          refine wpSQ_build rfl 32 _ rfl (Y.V ya yc) ?_ ?_
          · simp only [List.map_toArray, List.map_cons, List.map_nil, Act.eval]
            simp only [Array.getD_eq_getD_getElem?, List.getElem?_toArray, List.getElem?_cons_succ, List.getElem?_cons_zero, Option.getD_some]
            exact HBY.out
          refine wpSQ_nil ?_
          intro U3 hU3
          have XU := hid (Ext.trans xw hU3)
          have EX3 := hid (Ext.trans EX2.out XU.out)
          have SZ3 := hid XU.out.size
          replace BKX := hid (BKX.out.ext XU.out)
          replace BKY := hid (BKY.out.ext hU3)
          have HIY := hid (fun g (hg : ya = some ⟨g, 0, none⟩) => (show g < U3.heap.size from BKY.out.lt HYN.out g hg))
          replace CBY := hid (XU.out.at CBY.out)
          clear hU3 xw XU
          refine wpT_loud fun K hK => ?_
          go_wp2
          refine hK _ _ (Ext.only ((Ext.refl _).alloc _)) ?_
          clear hK K
          have xw : Ext U3 (U3.alloc (.cells (Rcd.none_.V none 0) 32)) := (Ext.refl _).alloc _
          have CBX := hid (show (U3.alloc (.cells (Rcd.none_.V none 0) 32)).heap[U3.heap.size]? = some (.cells (Rcd.none_.V none 0) 32 (0, 0)) from heap_alloc_new _ _)
          rw [wpT]
          simp only [opsAt, List.map_cons, List.map_nil, Array.getD_eq_getD_getElem?, List.getElem?_toArray, List.getElem?_cons_succ, List.getElem?_cons_zero, Option.getD_some]
          refine wpSQ_nil ?_
          intro U4 hU4
          have XU := hid (Ext.trans xw hU4)
          have EX4 := hid (Ext.trans EX3.out XU.out)
          have SZ4 := hid XU.out.size
          have SPX := hid (show U3.heap.size < U4.heap.size from Nat.lt_of_lt_of_le (by simp) hU4.size)
          replace BKX := hid (BKX.out.ext XU.out)
          replace CBX := hid (hU4.at CBX.out)
          replace BKY := hid (BKY.out.ext XU.out)
          replace CBY := hid (XU.out.at CBY.out)
          clear hU4 xw XU
          refine wpT_loud fun K hK => ?_
          go_wp2_with (guard_target = wpList _ _ _ ({ dst := none, op := Op.store _ _ _, type := _, pos := _, after := _, guard := none } :: _) _ _; refine wpList_store_whole rfl 32 _ _ rfl U3.heap.size rfl (X.V a cp) _ rfl 32 (agg_rec _ _ _) CBX.out rfl (V_one _ _ _) ?_)
          have HOU := hid ((only_setRow U4 U3.heap.size (X.V a cp)).mono (fun i _ h => by subst h; exact (EX3.out.size : V2.heap.size ≤ U3.heap.size)) : Only (fun b => V2.heap.size ≤ b) U4 (U4.setRow U3.heap.size (X.V a cp)))
          refine hK _ _ HOU.out ?_
          have HSX := hid (setRow_heap U4 U3.heap.size _ (X.V a cp) _ _ CBX.out)
          clear hK K HOU
          rw [wpT]
          simp only [opsAt, List.map_cons, List.map_nil, Array.getD_eq_getD_getElem?, List.getElem?_toArray, List.getElem?_cons_succ, List.getElem?_cons_zero, Option.getD_some]
          refine wpSQ_nil ?_
          intro U5 hU5
          have OU := hid (Only.ext (only_setRow U4 U3.heap.size (X.V a cp)) hU5)
          have EX5 := hid (show Ext V2 U5 from Ext.then EX4.out OU.out (fun q hq e => by have := EX3.out.size; omega))
          have SZ5 := hid OU.out.size
          have CFX := hid (hU5.at HSX.out)
          replace BKX := hid (BKX.out.only OU.out (fun g hg e => by have s0 := SZ0.out; have s1 := SZ1.out; have s2 := SZ2.out; have s3 := SZ3.out; have s4 := SZ4.out; have pX := SPX.out; have pY := SPY.out; have h1 := LOX.out g hg; have h2 := HIX.out g hg; omega))
          replace BKY := hid (BKY.out.only OU.out (fun g hg e => by have s0 := SZ0.out; have s1 := SZ1.out; have s2 := SZ2.out; have s3 := SZ3.out; have s4 := SZ4.out; have pX := SPX.out; have pY := SPY.out; have h1 := LOY.out g hg; have h2 := HIY.out g hg; omega))
          replace CBY := hid (OU.out.at CBY.out (by have s0 := SZ0.out; have s1 := SZ1.out; have s2 := SZ2.out; have s3 := SZ3.out; have s4 := SZ4.out; have pX := SPX.out; have pY := SPY.out; omega))
          clear hU5 OU HSX CBX
          refine wpT_loud fun K hK => ?_
          go_wp2_with (guard_target = wpList _ _ _ ({ dst := none, op := Op.store _ _ _, type := _, pos := _, after := _, guard := none } :: _) _ _; refine wpList_store_whole rfl 32 _ _ rfl U1.heap.size rfl (Y.V ya yc) _ rfl 32 (agg_rec _ _ _) CBY.out rfl (V_one _ _ _) ?_)
          have HOU := hid ((only_setRow U5 U1.heap.size (Y.V ya yc)).mono (fun i _ h => by subst h; exact (EX1.out.size : V2.heap.size ≤ U1.heap.size)) : Only (fun b => V2.heap.size ≤ b) U5 (U5.setRow U1.heap.size (Y.V ya yc)))
          refine hK _ _ HOU.out ?_
          have HSX := hid (setRow_heap U5 U1.heap.size _ (Y.V ya yc) _ _ CBY.out)
          clear hK K HOU
          rw [wpT]
          simp only [opsAt, List.map_cons, List.map_nil, Array.getD_eq_getD_getElem?, List.getElem?_toArray, List.getElem?_cons_succ, List.getElem?_cons_zero, Option.getD_some]
          refine wpSQ_nil ?_
          intro U6 hU6
          have OU := hid (Only.ext (only_setRow U5 U1.heap.size (Y.V ya yc)) hU6)
          have EX6 := hid (show Ext V2 U6 from Ext.then EX5.out OU.out (fun q hq e => by have := EX1.out.size; omega))
          have SZ6 := hid OU.out.size
          have CFY := hid (hU6.at HSX.out)
          replace BKX := hid (BKX.out.only OU.out (fun g hg e => by have s0 := SZ0.out; have s1 := SZ1.out; have s2 := SZ2.out; have s3 := SZ3.out; have s4 := SZ4.out; have s5 := SZ5.out; have pX := SPX.out; have pY := SPY.out; have h1 := LOX.out g hg; have h2 := HIX.out g hg; omega))
          replace BKY := hid (BKY.out.only OU.out (fun g hg e => by have s0 := SZ0.out; have s1 := SZ1.out; have s2 := SZ2.out; have s3 := SZ3.out; have s4 := SZ4.out; have s5 := SZ5.out; have pX := SPX.out; have pY := SPY.out; have h1 := LOY.out g hg; have h2 := HIY.out g hg; omega))
          replace CFX := hid (OU.out.at CFX.out (by have s0 := SZ0.out; have s1 := SZ1.out; have s2 := SZ2.out; have s3 := SZ3.out; have s4 := SZ4.out; have s5 := SZ5.out; have pX := SPX.out; have pY := SPY.out; omega))
          clear hU6 OU HSX CBY
          go_wp2
          go_meet
          case rel =>
            exact ⟨U3.heap.size, U1.heap.size, a, cp, ya, yc, rfl, rfl, EX6.out, ⟨CFX.out, EX3.out.size, BKX.out, fun g hg => Nat.le_trans EX0.out.size (LOX.out g hg)⟩, ⟨CFY.out, EX1.out.size, BKY.out, fun g hg => Nat.le_trans EX2.out.size (LOY.out g hg)⟩⟩
        · refine wpT_loud fun K hK => ?_
          go_wp2
          refine hK _ _ (Ext.only ((Ext.refl _).alloc _)) ?_
          clear hK K
          have xw : Ext U2 (U2.alloc (.cells (Rcd.none_.V none 0) 32)) := (Ext.refl _).alloc _
          have CBX := hid (show (U2.alloc (.cells (Rcd.none_.V none 0) 32)).heap[U2.heap.size]? = some (.cells (Rcd.none_.V none 0) 32 (0, 0)) from heap_alloc_new _ _)
          rw [wpT]
          simp only [opsAt, List.map_cons, List.map_nil, Array.getD_eq_getD_getElem?, List.getElem?_toArray, List.getElem?_cons_succ, List.getElem?_cons_zero, Option.getD_some]
          refine wpSQ_nil ?_
          intro U3 hU3
          have XU := hid (Ext.trans xw hU3)
          have EX3 := hid (Ext.trans EX2.out XU.out)
          have SZ3 := hid XU.out.size
          have SPX := hid (show U2.heap.size < U3.heap.size from Nat.lt_of_lt_of_le (by simp) hU3.size)
          replace BKX := hid (BKX.out.ext XU.out)
          replace CBX := hid (hU3.at CBX.out)
          replace CBY := hid (XU.out.at CBY.out)
          clear hU3 xw XU
          refine wpT_loud fun K hK => ?_
          go_wp2_with fail
          refine (kblocks_c kk (by omega) b0 U3).mono ?_
          rintro e W3 ⟨v, rfl, hown, xw⟩
          obtain ⟨ya, yc, rfl, hbk, hab⟩ := kblocks_at (fun b hb => by obtain ⟨n, rfl⟩ := blocksOf_mem hb; exact blockOf_len n) hown
          have HBY : Hid (Tryd.prog.built 32 [(0, .int .i64 6), (1, .int .i64 1), (2, .slice ya (blocksOf kk b0).length yc)] = some (Y.V ya yc)) := hid (by
            have := built_recOfC c 6 1 b0 ya yc
            rw [HKT.out] at this
            rw [this, HYE.out])
          have BKY := hid (show BlksAt W3 ya Y.blocks by rw [HYB.out]; exact hbk)
          have LOY := hid hab
          clear hown hbk hab
          generalize (blocksOf kk b0).length = n2 at *
          go_wp2
          refine hK _ _ (Ext.only xw) ?_
          clear hK K
          rw [wpT]
          simp only [opsAt, List.map_cons, List.map_nil, Array.getD_eq_getD_getElem?, List.getElem?_toArray, List.getElem?_cons_succ, List.getElem?_cons_zero, Option.getD_some]
          refine wpSQ_build rfl 32 _ rfl (Y.V ya yc) ?_ ?_
          · simp only [List.map_toArray, List.map_cons, List.map_nil, Act.eval]
            simp only [Array.getD_eq_getD_getElem?, List.getElem?_toArray, List.getElem?_cons_succ, List.getElem?_cons_zero, Option.getD_some]
            exact HBY.out
          refine wpSQ_nil ?_
          intro U4 hU4
          have XU := hid (Ext.trans xw hU4)
          have EX4 := hid (Ext.trans EX3.out XU.out)
          have SZ4 := hid XU.out.size
          replace BKX := hid (BKX.out.ext XU.out)
          replace CBX := hid (XU.out.at CBX.out)
          replace BKY := hid (BKY.out.ext hU4)
          have HIY := hid (fun g (hg : ya = some ⟨g, 0, none⟩) => (show g < U4.heap.size from BKY.out.lt HYN.out g hg))
          replace CBY := hid (XU.out.at CBY.out)
          clear hU4 xw XU
          refine wpT_loud fun K hK => ?_
          go_wp2_with (guard_target = wpList _ _ _ ({ dst := none, op := Op.store _ _ _, type := _, pos := _, after := _, guard := none } :: _) _ _; refine wpList_store_whole rfl 32 _ _ rfl U2.heap.size rfl (X.V a cp) _ rfl 32 (agg_rec _ _ _) CBX.out rfl (V_one _ _ _) ?_)
          have HOU := hid ((only_setRow U4 U2.heap.size (X.V a cp)).mono (fun i _ h => by subst h; exact (EX2.out.size : V2.heap.size ≤ U2.heap.size)) : Only (fun b => V2.heap.size ≤ b) U4 (U4.setRow U2.heap.size (X.V a cp)))
          refine hK _ _ HOU.out ?_
          have HSX := hid (setRow_heap U4 U2.heap.size _ (X.V a cp) _ _ CBX.out)
          clear hK K HOU
          rw [wpT]
          simp only [opsAt, List.map_cons, List.map_nil, Array.getD_eq_getD_getElem?, List.getElem?_toArray, List.getElem?_cons_succ, List.getElem?_cons_zero, Option.getD_some]
          refine wpSQ_nil ?_
          intro U5 hU5
          have OU := hid (Only.ext (only_setRow U4 U2.heap.size (X.V a cp)) hU5)
          have EX5 := hid (show Ext V2 U5 from Ext.then EX4.out OU.out (fun q hq e => by have := EX2.out.size; omega))
          have SZ5 := hid OU.out.size
          have CFX := hid (hU5.at HSX.out)
          replace BKX := hid (BKX.out.only OU.out (fun g hg e => by have s0 := SZ0.out; have s1 := SZ1.out; have s2 := SZ2.out; have s3 := SZ3.out; have s4 := SZ4.out; have pX := SPX.out; have pY := SPY.out; have h1 := LOX.out g hg; have h2 := HIX.out g hg; omega))
          replace BKY := hid (BKY.out.only OU.out (fun g hg e => by have s0 := SZ0.out; have s1 := SZ1.out; have s2 := SZ2.out; have s3 := SZ3.out; have s4 := SZ4.out; have pX := SPX.out; have pY := SPY.out; have h1 := LOY.out g hg; have h2 := HIY.out g hg; omega))
          replace CBY := hid (OU.out.at CBY.out (by have s0 := SZ0.out; have s1 := SZ1.out; have s2 := SZ2.out; have s3 := SZ3.out; have s4 := SZ4.out; have pX := SPX.out; have pY := SPY.out; omega))
          clear hU5 OU HSX CBX
          refine wpT_loud fun K hK => ?_
          go_wp2_with (guard_target = wpList _ _ _ ({ dst := none, op := Op.store _ _ _, type := _, pos := _, after := _, guard := none } :: _) _ _; refine wpList_store_whole rfl 32 _ _ rfl U1.heap.size rfl (Y.V ya yc) _ rfl 32 (agg_rec _ _ _) CBY.out rfl (V_one _ _ _) ?_)
          have HOU := hid ((only_setRow U5 U1.heap.size (Y.V ya yc)).mono (fun i _ h => by subst h; exact (EX1.out.size : V2.heap.size ≤ U1.heap.size)) : Only (fun b => V2.heap.size ≤ b) U5 (U5.setRow U1.heap.size (Y.V ya yc)))
          refine hK _ _ HOU.out ?_
          have HSX := hid (setRow_heap U5 U1.heap.size _ (Y.V ya yc) _ _ CBY.out)
          clear hK K HOU
          rw [wpT]
          simp only [opsAt, List.map_cons, List.map_nil, Array.getD_eq_getD_getElem?, List.getElem?_toArray, List.getElem?_cons_succ, List.getElem?_cons_zero, Option.getD_some]
          refine wpSQ_nil ?_
          intro U6 hU6
          have OU := hid (Only.ext (only_setRow U5 U1.heap.size (Y.V ya yc)) hU6)
          have EX6 := hid (show Ext V2 U6 from Ext.then EX5.out OU.out (fun q hq e => by have := EX1.out.size; omega))
          have SZ6 := hid OU.out.size
          have CFY := hid (hU6.at HSX.out)
          replace BKX := hid (BKX.out.only OU.out (fun g hg e => by have s0 := SZ0.out; have s1 := SZ1.out; have s2 := SZ2.out; have s3 := SZ3.out; have s4 := SZ4.out; have s5 := SZ5.out; have pX := SPX.out; have pY := SPY.out; have h1 := LOX.out g hg; have h2 := HIX.out g hg; omega))
          replace BKY := hid (BKY.out.only OU.out (fun g hg e => by have s0 := SZ0.out; have s1 := SZ1.out; have s2 := SZ2.out; have s3 := SZ3.out; have s4 := SZ4.out; have s5 := SZ5.out; have pX := SPX.out; have pY := SPY.out; have h1 := LOY.out g hg; have h2 := HIY.out g hg; omega))
          replace CFX := hid (OU.out.at CFX.out (by have s0 := SZ0.out; have s1 := SZ1.out; have s2 := SZ2.out; have s3 := SZ3.out; have s4 := SZ4.out; have s5 := SZ5.out; have pX := SPX.out; have pY := SPY.out; omega))
          clear hU6 OU HSX CBY
          go_wp2
          go_meet
          case rel =>
            exact ⟨U2.heap.size, U1.heap.size, a, cp, ya, yc, rfl, rfl, EX6.out, ⟨CFX.out, EX2.out.size, BKX.out, fun g hg => Nat.le_trans EX0.out.size (LOX.out g hg)⟩, ⟨CFY.out, EX1.out.size, BKY.out, fun g hg => Nat.le_trans EX3.out.size (LOY.out g hg)⟩⟩
    · refine wpT_loud fun K hK => ?_
      go_wp2
      refine hK _ _ (Ext.only ((Ext.refl _).alloc _)) ?_
      clear hK K
      have xw : Ext U0 (U0.alloc (.cells (Rcd.none_.V none 0) 32)) := (Ext.refl _).alloc _
      have CBX := hid (show (U0.alloc (.cells (Rcd.none_.V none 0) 32)).heap[U0.heap.size]? = some (.cells (Rcd.none_.V none 0) 32 (0, 0)) from heap_alloc_new _ _)
      rw [wpT]
      simp only [opsAt, List.map_cons, List.map_nil, Array.getD_eq_getD_getElem?, List.getElem?_toArray, List.getElem?_cons_succ, List.getElem?_cons_zero, Option.getD_some]
      refine wpSQ_nil ?_
      intro U1 hU1
      have XU := hid (Ext.trans xw hU1)
      have EX1 := hid (Ext.trans EX0.out XU.out)
      have SZ1 := hid XU.out.size
      have SPX := hid (show U0.heap.size < U1.heap.size from Nat.lt_of_lt_of_le (by simp) hU1.size)
      replace CBX := hid (hU1.at CBX.out)
      clear hU1 xw XU
      refine ⟨?_, ?_⟩
      · refine wpT_loud fun K hK => ?_
        go_wp2_with fail
        refine (kblocks_c kk (by omega) a0 U1).mono ?_
        rintro e W1 ⟨v, rfl, hown, xw⟩
        obtain ⟨a, cp, rfl, hbk, hab⟩ := kblocks_at (fun b hb => by obtain ⟨n, rfl⟩ := blocksOf_mem hb; exact blockOf_len n) hown
        have HBX : Hid (Tryd.prog.built 32 [(0, .int .i64 5), (1, .int .i64 0), (2, .slice a (blocksOf kk a0).length cp)] = some (X.V a cp)) := hid (by
          have := built_recOfC c 5 0 a0 a cp
          rw [HKT.out] at this
          rw [this, HXE.out])
        have BKX := hid (show BlksAt W1 a X.blocks by rw [HXB.out]; exact hbk)
        have LOX := hid hab
        clear hown hbk hab
        generalize (blocksOf kk a0).length = n1 at *
        go_wp2
        refine hK _ _ (Ext.only xw) ?_
        clear hK K
        rw [wpT]
        simp only [opsAt, List.map_cons, List.map_nil, Array.getD_eq_getD_getElem?, List.getElem?_toArray, List.getElem?_cons_succ, List.getElem?_cons_zero, Option.getD_some]
        refine wpSQ_build rfl 32 _ rfl (X.V a cp) ?_ ?_
        · simp only [List.map_toArray, List.map_cons, List.map_nil, Act.eval]
          simp only [Array.getD_eq_getD_getElem?, List.getElem?_toArray, List.getElem?_cons_succ, List.getElem?_cons_zero, Option.getD_some]
          exact HBX.out
        refine wpSQ_nil ?_
        intro U2 hU2
        have XU := hid (Ext.trans xw hU2)
        have EX2 := hid (Ext.trans EX1.out XU.out)
        have SZ2 := hid XU.out.size
        replace BKX := hid (BKX.out.ext hU2)
        have HIX := hid (fun g (hg : a = some ⟨g, 0, none⟩) => (show g < U2.heap.size from BKX.out.lt HXN.out g hg))
        replace CBX := hid (XU.out.at CBX.out)
        clear hU2 xw XU
        refine ⟨?_, ?_⟩
        · refine wpT_loud fun K hK => ?_
          go_wp2_with fail
          refine (kblocks_c kk (by omega) b0 U2).mono ?_
          rintro e W2 ⟨v, rfl, hown, xw⟩
          obtain ⟨ya, yc, rfl, hbk, hab⟩ := kblocks_at (fun b hb => by obtain ⟨n, rfl⟩ := blocksOf_mem hb; exact blockOf_len n) hown
          have HBY : Hid (Tryd.prog.built 32 [(0, .int .i64 6), (1, .int .i64 1), (2, .slice ya (blocksOf kk b0).length yc)] = some (Y.V ya yc)) := hid (by
            have := built_recOfC c 6 1 b0 ya yc
            rw [HKT.out] at this
            rw [this, HYE.out])
          have BKY := hid (show BlksAt W2 ya Y.blocks by rw [HYB.out]; exact hbk)
          have LOY := hid hab
          clear hown hbk hab
          generalize (blocksOf kk b0).length = n2 at *
          go_wp2
          refine hK _ _ (Ext.only xw) ?_
          clear hK K
          rw [wpT]
          simp only [opsAt, List.map_cons, List.map_nil, Array.getD_eq_getD_getElem?, List.getElem?_toArray, List.getElem?_cons_succ, List.getElem?_cons_zero, Option.getD_some]
          refine wpSQ_build rfl 32 _ rfl (Y.V ya yc) ?_ ?_
          · simp only [List.map_toArray, List.map_cons, List.map_nil, Act.eval]
            simp only [Array.getD_eq_getD_getElem?, List.getElem?_toArray, List.getElem?_cons_succ, List.getElem?_cons_zero, Option.getD_some]
            exact HBY.out
          refine wpSQ_nil ?_
          intro U3 hU3
          have XU := hid (Ext.trans xw hU3)
          have EX3 := hid (Ext.trans EX2.out XU.out)
          have SZ3 := hid XU.out.size
          replace BKX := hid (BKX.out.ext XU.out)
          replace CBX := hid (XU.out.at CBX.out)
          replace BKY := hid (BKY.out.ext hU3)
          have HIY := hid (fun g (hg : ya = some ⟨g, 0, none⟩) => (show g < U3.heap.size from BKY.out.lt HYN.out g hg))
          clear hU3 xw XU
          refine wpT_loud fun K hK => ?_
          go_wp2
          refine hK _ _ (Ext.only ((Ext.refl _).alloc _)) ?_
          clear hK K
          have xw : Ext U3 (U3.alloc (.cells (Rcd.none_.V none 0) 32)) := (Ext.refl _).alloc _
          have CBY := hid (show (U3.alloc (.cells (Rcd.none_.V none 0) 32)).heap[U3.heap.size]? = some (.cells (Rcd.none_.V none 0) 32 (0, 0)) from heap_alloc_new _ _)
          rw [wpT]
          simp only [opsAt, List.map_cons, List.map_nil, Array.getD_eq_getD_getElem?, List.getElem?_toArray, List.getElem?_cons_succ, List.getElem?_cons_zero, Option.getD_some]
          refine wpSQ_nil ?_
          intro U4 hU4
          have XU := hid (Ext.trans xw hU4)
          have EX4 := hid (Ext.trans EX3.out XU.out)
          have SZ4 := hid XU.out.size
          have SPY := hid (show U3.heap.size < U4.heap.size from Nat.lt_of_lt_of_le (by simp) hU4.size)
          replace BKX := hid (BKX.out.ext XU.out)
          replace CBX := hid (XU.out.at CBX.out)
          replace BKY := hid (BKY.out.ext XU.out)
          replace CBY := hid (hU4.at CBY.out)
          clear hU4 xw XU
          refine wpT_loud fun K hK => ?_
          go_wp2_with (guard_target = wpList _ _ _ ({ dst := none, op := Op.store _ _ _, type := _, pos := _, after := _, guard := none } :: _) _ _; refine wpList_store_whole rfl 32 _ _ rfl U0.heap.size rfl (X.V a cp) _ rfl 32 (agg_rec _ _ _) CBX.out rfl (V_one _ _ _) ?_)
          have HOU := hid ((only_setRow U4 U0.heap.size (X.V a cp)).mono (fun i _ h => by subst h; exact (EX0.out.size : V2.heap.size ≤ U0.heap.size)) : Only (fun b => V2.heap.size ≤ b) U4 (U4.setRow U0.heap.size (X.V a cp)))
          refine hK _ _ HOU.out ?_
          have HSX := hid (setRow_heap U4 U0.heap.size _ (X.V a cp) _ _ CBX.out)
          clear hK K HOU
          rw [wpT]
          simp only [opsAt, List.map_cons, List.map_nil, Array.getD_eq_getD_getElem?, List.getElem?_toArray, List.getElem?_cons_succ, List.getElem?_cons_zero, Option.getD_some]
          refine wpSQ_nil ?_
          intro U5 hU5
          have OU := hid (Only.ext (only_setRow U4 U0.heap.size (X.V a cp)) hU5)
          have EX5 := hid (show Ext V2 U5 from Ext.then EX4.out OU.out (fun q hq e => by have := EX0.out.size; omega))
          have SZ5 := hid OU.out.size
          have CFX := hid (hU5.at HSX.out)
          replace BKX := hid (BKX.out.only OU.out (fun g hg e => by have s0 := SZ0.out; have s1 := SZ1.out; have s2 := SZ2.out; have s3 := SZ3.out; have s4 := SZ4.out; have pX := SPX.out; have pY := SPY.out; have h1 := LOX.out g hg; have h2 := HIX.out g hg; omega))
          replace BKY := hid (BKY.out.only OU.out (fun g hg e => by have s0 := SZ0.out; have s1 := SZ1.out; have s2 := SZ2.out; have s3 := SZ3.out; have s4 := SZ4.out; have pX := SPX.out; have pY := SPY.out; have h1 := LOY.out g hg; have h2 := HIY.out g hg; omega))
          replace CBY := hid (OU.out.at CBY.out (by have s0 := SZ0.out; have s1 := SZ1.out; have s2 := SZ2.out; have s3 := SZ3.out; have s4 := SZ4.out; have pX := SPX.out; have pY := SPY.out; omega))
          clear hU5 OU HSX CBX
          refine wpT_loud fun K hK => ?_
          go_wp2_with (guard_target = wpList _ _ _ ({ dst := none, op := Op.store _ _ _, type := _, pos := _, after := _, guard := none } :: _) _ _; refine wpList_store_whole rfl 32 _ _ rfl U3.heap.size rfl (Y.V ya yc) _ rfl 32 (agg_rec _ _ _) CBY.out rfl (V_one _ _ _) ?_)
          have HOU := hid ((only_setRow U5 U3.heap.size (Y.V ya yc)).mono (fun i _ h => by subst h; exact (EX3.out.size : V2.heap.size ≤ U3.heap.size)) : Only (fun b => V2.heap.size ≤ b) U5 (U5.setRow U3.heap.size (Y.V ya yc)))
          refine hK _ _ HOU.out ?_
          have HSX := hid (setRow_heap U5 U3.heap.size _ (Y.V ya yc) _ _ CBY.out)
          clear hK K HOU
          rw [wpT]
          simp only [opsAt, List.map_cons, List.map_nil, Array.getD_eq_getD_getElem?, List.getElem?_toArray, List.getElem?_cons_succ, List.getElem?_cons_zero, Option.getD_some]
          refine wpSQ_nil ?_
          intro U6 hU6
          have OU := hid (Only.ext (only_setRow U5 U3.heap.size (Y.V ya yc)) hU6)
          have EX6 := hid (show Ext V2 U6 from Ext.then EX5.out OU.out (fun q hq e => by have := EX3.out.size; omega))
          have SZ6 := hid OU.out.size
          have CFY := hid (hU6.at HSX.out)
          replace BKX := hid (BKX.out.only OU.out (fun g hg e => by have s0 := SZ0.out; have s1 := SZ1.out; have s2 := SZ2.out; have s3 := SZ3.out; have s4 := SZ4.out; have s5 := SZ5.out; have pX := SPX.out; have pY := SPY.out; have h1 := LOX.out g hg; have h2 := HIX.out g hg; omega))
          replace BKY := hid (BKY.out.only OU.out (fun g hg e => by have s0 := SZ0.out; have s1 := SZ1.out; have s2 := SZ2.out; have s3 := SZ3.out; have s4 := SZ4.out; have s5 := SZ5.out; have pX := SPX.out; have pY := SPY.out; have h1 := LOY.out g hg; have h2 := HIY.out g hg; omega))
          replace CFX := hid (OU.out.at CFX.out (by have s0 := SZ0.out; have s1 := SZ1.out; have s2 := SZ2.out; have s3 := SZ3.out; have s4 := SZ4.out; have s5 := SZ5.out; have pX := SPX.out; have pY := SPY.out; omega))
          clear hU6 OU HSX CBY
          go_wp2
          go_meet
          case rel =>
            exact ⟨U0.heap.size, U3.heap.size, a, cp, ya, yc, rfl, rfl, EX6.out, ⟨CFX.out, EX0.out.size, BKX.out, fun g hg => Nat.le_trans EX1.out.size (LOX.out g hg)⟩, ⟨CFY.out, EX3.out.size, BKY.out, fun g hg => Nat.le_trans EX2.out.size (LOY.out g hg)⟩⟩
        · refine wpT_loud fun K hK => ?_
          go_wp2
          refine hK _ _ (Ext.only ((Ext.refl _).alloc _)) ?_
          clear hK K
          have xw : Ext U2 (U2.alloc (.cells (Rcd.none_.V none 0) 32)) := (Ext.refl _).alloc _
          have CBY := hid (show (U2.alloc (.cells (Rcd.none_.V none 0) 32)).heap[U2.heap.size]? = some (.cells (Rcd.none_.V none 0) 32 (0, 0)) from heap_alloc_new _ _)
          rw [wpT]
          simp only [opsAt, List.map_cons, List.map_nil, Array.getD_eq_getD_getElem?, List.getElem?_toArray, List.getElem?_cons_succ, List.getElem?_cons_zero, Option.getD_some]
          refine wpSQ_nil ?_
          intro U3 hU3
          have XU := hid (Ext.trans xw hU3)
          have EX3 := hid (Ext.trans EX2.out XU.out)
          have SZ3 := hid XU.out.size
          have SPY := hid (show U2.heap.size < U3.heap.size from Nat.lt_of_lt_of_le (by simp) hU3.size)
          replace BKX := hid (BKX.out.ext XU.out)
          replace CBX := hid (XU.out.at CBX.out)
          replace CBY := hid (hU3.at CBY.out)
          clear hU3 xw XU
          refine wpT_loud fun K hK => ?_
          go_wp2_with fail
          refine (kblocks_c kk (by omega) b0 U3).mono ?_
          rintro e W3 ⟨v, rfl, hown, xw⟩
          obtain ⟨ya, yc, rfl, hbk, hab⟩ := kblocks_at (fun b hb => by obtain ⟨n, rfl⟩ := blocksOf_mem hb; exact blockOf_len n) hown
          have HBY : Hid (Tryd.prog.built 32 [(0, .int .i64 6), (1, .int .i64 1), (2, .slice ya (blocksOf kk b0).length yc)] = some (Y.V ya yc)) := hid (by
            have := built_recOfC c 6 1 b0 ya yc
            rw [HKT.out] at this
            rw [this, HYE.out])
          have BKY := hid (show BlksAt W3 ya Y.blocks by rw [HYB.out]; exact hbk)
          have LOY := hid hab
          clear hown hbk hab
          generalize (blocksOf kk b0).length = n2 at *
          go_wp2
          refine hK _ _ (Ext.only xw) ?_
          clear hK K
          rw [wpT]
          simp only [opsAt, List.map_cons, List.map_nil, Array.getD_eq_getD_getElem?, List.getElem?_toArray, List.getElem?_cons_succ, List.getElem?_cons_zero, Option.getD_some]
          refine wpSQ_build rfl 32 _ rfl (Y.V ya yc) ?_ ?_
          · simp only [List.map_toArray, List.map_cons, List.map_nil, Act.eval]
            simp only [Array.getD_eq_getD_getElem?, List.getElem?_toArray, List.getElem?_cons_succ, List.getElem?_cons_zero, Option.getD_some]
            exact HBY.out
          refine wpSQ_nil ?_
          intro U4 hU4
          have XU := hid (Ext.trans xw hU4)
          have EX4 := hid (Ext.trans EX3.out XU.out)
          have SZ4 := hid XU.out.size
          replace BKX := hid (BKX.out.ext XU.out)
          replace CBX := hid (XU.out.at CBX.out)
          replace BKY := hid (BKY.out.ext hU4)
          have HIY := hid (fun g (hg : ya = some ⟨g, 0, none⟩) => (show g < U4.heap.size from BKY.out.lt HYN.out g hg))
          replace CBY := hid (XU.out.at CBY.out)
          clear hU4 xw XU
          refine wpT_loud fun K hK => ?_
          go_wp2_with (guard_target = wpList _ _ _ ({ dst := none, op := Op.store _ _ _, type := _, pos := _, after := _, guard := none } :: _) _ _; refine wpList_store_whole rfl 32 _ _ rfl U0.heap.size rfl (X.V a cp) _ rfl 32 (agg_rec _ _ _) CBX.out rfl (V_one _ _ _) ?_)
          have HOU := hid ((only_setRow U4 U0.heap.size (X.V a cp)).mono (fun i _ h => by subst h; exact (EX0.out.size : V2.heap.size ≤ U0.heap.size)) : Only (fun b => V2.heap.size ≤ b) U4 (U4.setRow U0.heap.size (X.V a cp)))
          refine hK _ _ HOU.out ?_
          have HSX := hid (setRow_heap U4 U0.heap.size _ (X.V a cp) _ _ CBX.out)
          clear hK K HOU
          rw [wpT]
          simp only [opsAt, List.map_cons, List.map_nil, Array.getD_eq_getD_getElem?, List.getElem?_toArray, List.getElem?_cons_succ, List.getElem?_cons_zero, Option.getD_some]
          refine wpSQ_nil ?_
          intro U5 hU5
          have OU := hid (Only.ext (only_setRow U4 U0.heap.size (X.V a cp)) hU5)
          have EX5 := hid (show Ext V2 U5 from Ext.then EX4.out OU.out (fun q hq e => by have := EX0.out.size; omega))
          have SZ5 := hid OU.out.size
          have CFX := hid (hU5.at HSX.out)
          replace BKX := hid (BKX.out.only OU.out (fun g hg e => by have s0 := SZ0.out; have s1 := SZ1.out; have s2 := SZ2.out; have s3 := SZ3.out; have s4 := SZ4.out; have pX := SPX.out; have pY := SPY.out; have h1 := LOX.out g hg; have h2 := HIX.out g hg; omega))
          replace BKY := hid (BKY.out.only OU.out (fun g hg e => by have s0 := SZ0.out; have s1 := SZ1.out; have s2 := SZ2.out; have s3 := SZ3.out; have s4 := SZ4.out; have pX := SPX.out; have pY := SPY.out; have h1 := LOY.out g hg; have h2 := HIY.out g hg; omega))
          replace CBY := hid (OU.out.at CBY.out (by have s0 := SZ0.out; have s1 := SZ1.out; have s2 := SZ2.out; have s3 := SZ3.out; have s4 := SZ4.out; have pX := SPX.out; have pY := SPY.out; omega))
          clear hU5 OU HSX CBX
          refine wpT_loud fun K hK => ?_
          go_wp2_with (guard_target = wpList _ _ _ ({ dst := none, op := Op.store _ _ _, type := _, pos := _, after := _, guard := none } :: _) _ _; refine wpList_store_whole rfl 32 _ _ rfl U2.heap.size rfl (Y.V ya yc) _ rfl 32 (agg_rec _ _ _) CBY.out rfl (V_one _ _ _) ?_)
          have HOU := hid ((only_setRow U5 U2.heap.size (Y.V ya yc)).mono (fun i _ h => by subst h; exact (EX2.out.size : V2.heap.size ≤ U2.heap.size)) : Only (fun b => V2.heap.size ≤ b) U5 (U5.setRow U2.heap.size (Y.V ya yc)))
          refine hK _ _ HOU.out ?_
          have HSX := hid (setRow_heap U5 U2.heap.size _ (Y.V ya yc) _ _ CBY.out)
          clear hK K HOU
          rw [wpT]
          simp only [opsAt, List.map_cons, List.map_nil, Array.getD_eq_getD_getElem?, List.getElem?_toArray, List.getElem?_cons_succ, List.getElem?_cons_zero, Option.getD_some]
          refine wpSQ_nil ?_
          intro U6 hU6
          have OU := hid (Only.ext (only_setRow U5 U2.heap.size (Y.V ya yc)) hU6)
          have EX6 := hid (show Ext V2 U6 from Ext.then EX5.out OU.out (fun q hq e => by have := EX2.out.size; omega))
          have SZ6 := hid OU.out.size
          have CFY := hid (hU6.at HSX.out)
          replace BKX := hid (BKX.out.only OU.out (fun g hg e => by have s0 := SZ0.out; have s1 := SZ1.out; have s2 := SZ2.out; have s3 := SZ3.out; have s4 := SZ4.out; have s5 := SZ5.out; have pX := SPX.out; have pY := SPY.out; have h1 := LOX.out g hg; have h2 := HIX.out g hg; omega))
          replace BKY := hid (BKY.out.only OU.out (fun g hg e => by have s0 := SZ0.out; have s1 := SZ1.out; have s2 := SZ2.out; have s3 := SZ3.out; have s4 := SZ4.out; have s5 := SZ5.out; have pX := SPX.out; have pY := SPY.out; have h1 := LOY.out g hg; have h2 := HIY.out g hg; omega))
          replace CFX := hid (OU.out.at CFX.out (by have s0 := SZ0.out; have s1 := SZ1.out; have s2 := SZ2.out; have s3 := SZ3.out; have s4 := SZ4.out; have s5 := SZ5.out; have pX := SPX.out; have pY := SPY.out; omega))
          clear hU6 OU HSX CBY
          go_wp2
          go_meet
          case rel =>
            exact ⟨U0.heap.size, U2.heap.size, a, cp, ya, yc, rfl, rfl, EX6.out, ⟨CFX.out, EX0.out.size, BKX.out, fun g hg => Nat.le_trans EX1.out.size (LOX.out g hg)⟩, ⟨CFY.out, EX2.out.size, BKY.out, fun g hg => Nat.le_trans EX3.out.size (LOY.out g hg)⟩⟩
      · refine wpT_loud fun K hK => ?_
        go_wp2
        refine hK _ _ (Ext.only ((Ext.refl _).alloc _)) ?_
        clear hK K
        have xw : Ext U1 (U1.alloc (.cells (Rcd.none_.V none 0) 32)) := (Ext.refl _).alloc _
        have CBY := hid (show (U1.alloc (.cells (Rcd.none_.V none 0) 32)).heap[U1.heap.size]? = some (.cells (Rcd.none_.V none 0) 32 (0, 0)) from heap_alloc_new _ _)
        rw [wpT]
        simp only [opsAt, List.map_cons, List.map_nil, Array.getD_eq_getD_getElem?, List.getElem?_toArray, List.getElem?_cons_succ, List.getElem?_cons_zero, Option.getD_some]
        refine wpSQ_nil ?_
        intro U2 hU2
        have XU := hid (Ext.trans xw hU2)
        have EX2 := hid (Ext.trans EX1.out XU.out)
        have SZ2 := hid XU.out.size
        have SPY := hid (show U1.heap.size < U2.heap.size from Nat.lt_of_lt_of_le (by simp) hU2.size)
        replace CBX := hid (XU.out.at CBX.out)
        replace CBY := hid (hU2.at CBY.out)
        clear hU2 xw XU
        refine wpT_loud fun K hK => ?_
        go_wp2_with fail
        refine (kblocks_c kk (by omega) a0 U2).mono ?_
        rintro e W2 ⟨v, rfl, hown, xw⟩
        obtain ⟨a, cp, rfl, hbk, hab⟩ := kblocks_at (fun b hb => by obtain ⟨n, rfl⟩ := blocksOf_mem hb; exact blockOf_len n) hown
        have HBX : Hid (Tryd.prog.built 32 [(0, .int .i64 5), (1, .int .i64 0), (2, .slice a (blocksOf kk a0).length cp)] = some (X.V a cp)) := hid (by
          have := built_recOfC c 5 0 a0 a cp
          rw [HKT.out] at this
          rw [this, HXE.out])
        have BKX := hid (show BlksAt W2 a X.blocks by rw [HXB.out]; exact hbk)
        have LOX := hid hab
        clear hown hbk hab
        generalize (blocksOf kk a0).length = n1 at *
        go_wp2
        refine hK _ _ (Ext.only xw) ?_
        clear hK K
        rw [wpT]
        simp only [opsAt, List.map_cons, List.map_nil, Array.getD_eq_getD_getElem?, List.getElem?_toArray, List.getElem?_cons_succ, List.getElem?_cons_zero, Option.getD_some]
        refine wpSQ_build rfl 32 _ rfl (X.V a cp) ?_ ?_
        · simp only [List.map_toArray, List.map_cons, List.map_nil, Act.eval]
          simp only [Array.getD_eq_getD_getElem?, List.getElem?_toArray, List.getElem?_cons_succ, List.getElem?_cons_zero, Option.getD_some]
          exact HBX.out
        refine wpSQ_nil ?_
        intro U3 hU3
        have XU := hid (Ext.trans xw hU3)
        have EX3 := hid (Ext.trans EX2.out XU.out)
        have SZ3 := hid XU.out.size
        replace BKX := hid (BKX.out.ext hU3)
        have HIX := hid (fun g (hg : a = some ⟨g, 0, none⟩) => (show g < U3.heap.size from BKX.out.lt HXN.out g hg))
        replace CBX := hid (XU.out.at CBX.out)
        replace CBY := hid (XU.out.at CBY.out)
        clear hU3 xw XU
        refine wpT_loud fun K hK => ?_
        go_wp2_with fail
        refine (kblocks_c kk (by omega) b0 U3).mono ?_
        rintro e W3 ⟨v, rfl, hown, xw⟩
        obtain ⟨ya, yc, rfl, hbk, hab⟩ := kblocks_at (fun b hb => by obtain ⟨n, rfl⟩ := blocksOf_mem hb; exact blockOf_len n) hown
        have HBY : Hid (Tryd.prog.built 32 [(0, .int .i64 6), (1, .int .i64 1), (2, .slice ya (blocksOf kk b0).length yc)] = some (Y.V ya yc)) := hid (by
          have := built_recOfC c 6 1 b0 ya yc
          rw [HKT.out] at this
          rw [this, HYE.out])
        have BKY := hid (show BlksAt W3 ya Y.blocks by rw [HYB.out]; exact hbk)
        have LOY := hid hab
        clear hown hbk hab
        generalize (blocksOf kk b0).length = n2 at *
        go_wp2
        refine hK _ _ (Ext.only xw) ?_
        clear hK K
        rw [wpT]
        simp only [opsAt, List.map_cons, List.map_nil, Array.getD_eq_getD_getElem?, List.getElem?_toArray, List.getElem?_cons_succ, List.getElem?_cons_zero, Option.getD_some]
        refine wpSQ_build rfl 32 _ rfl (Y.V ya yc) ?_ ?_
        · simp only [List.map_toArray, List.map_cons, List.map_nil, Act.eval]
          simp only [Array.getD_eq_getD_getElem?, List.getElem?_toArray, List.getElem?_cons_succ, List.getElem?_cons_zero, Option.getD_some]
          exact HBY.out
        refine wpSQ_nil ?_
        intro U4 hU4
        have XU := hid (Ext.trans xw hU4)
        have EX4 := hid (Ext.trans EX3.out XU.out)
        have SZ4 := hid XU.out.size
        replace BKX := hid (BKX.out.ext XU.out)
        replace CBX := hid (XU.out.at CBX.out)
        replace BKY := hid (BKY.out.ext hU4)
        have HIY := hid (fun g (hg : ya = some ⟨g, 0, none⟩) => (show g < U4.heap.size from BKY.out.lt HYN.out g hg))
        replace CBY := hid (XU.out.at CBY.out)
        clear hU4 xw XU
        refine wpT_loud fun K hK => ?_
        go_wp2_with (guard_target = wpList _ _ _ ({ dst := none, op := Op.store _ _ _, type := _, pos := _, after := _, guard := none } :: _) _ _; refine wpList_store_whole rfl 32 _ _ rfl U0.heap.size rfl (X.V a cp) _ rfl 32 (agg_rec _ _ _) CBX.out rfl (V_one _ _ _) ?_)
        have HOU := hid ((only_setRow U4 U0.heap.size (X.V a cp)).mono (fun i _ h => by subst h; exact (EX0.out.size : V2.heap.size ≤ U0.heap.size)) : Only (fun b => V2.heap.size ≤ b) U4 (U4.setRow U0.heap.size (X.V a cp)))
        refine hK _ _ HOU.out ?_
        have HSX := hid (setRow_heap U4 U0.heap.size _ (X.V a cp) _ _ CBX.out)
        clear hK K HOU
        rw [wpT]
        simp only [opsAt, List.map_cons, List.map_nil, Array.getD_eq_getD_getElem?, List.getElem?_toArray, List.getElem?_cons_succ, List.getElem?_cons_zero, Option.getD_some]
        refine wpSQ_nil ?_
        intro U5 hU5
        have OU := hid (Only.ext (only_setRow U4 U0.heap.size (X.V a cp)) hU5)
        have EX5 := hid (show Ext V2 U5 from Ext.then EX4.out OU.out (fun q hq e => by have := EX0.out.size; omega))
        have SZ5 := hid OU.out.size
        have CFX := hid (hU5.at HSX.out)
        replace BKX := hid (BKX.out.only OU.out (fun g hg e => by have s0 := SZ0.out; have s1 := SZ1.out; have s2 := SZ2.out; have s3 := SZ3.out; have s4 := SZ4.out; have pX := SPX.out; have pY := SPY.out; have h1 := LOX.out g hg; have h2 := HIX.out g hg; omega))
        replace BKY := hid (BKY.out.only OU.out (fun g hg e => by have s0 := SZ0.out; have s1 := SZ1.out; have s2 := SZ2.out; have s3 := SZ3.out; have s4 := SZ4.out; have pX := SPX.out; have pY := SPY.out; have h1 := LOY.out g hg; have h2 := HIY.out g hg; omega))
        replace CBY := hid (OU.out.at CBY.out (by have s0 := SZ0.out; have s1 := SZ1.out; have s2 := SZ2.out; have s3 := SZ3.out; have s4 := SZ4.out; have pX := SPX.out; have pY := SPY.out; omega))
        clear hU5 OU HSX CBX
        refine wpT_loud fun K hK => ?_
        go_wp2_with (guard_target = wpList _ _ _ ({ dst := none, op := Op.store _ _ _, type := _, pos := _, after := _, guard := none } :: _) _ _; refine wpList_store_whole rfl 32 _ _ rfl U1.heap.size rfl (Y.V ya yc) _ rfl 32 (agg_rec _ _ _) CBY.out rfl (V_one _ _ _) ?_)
        have HOU := hid ((only_setRow U5 U1.heap.size (Y.V ya yc)).mono (fun i _ h => by subst h; exact (EX1.out.size : V2.heap.size ≤ U1.heap.size)) : Only (fun b => V2.heap.size ≤ b) U5 (U5.setRow U1.heap.size (Y.V ya yc)))
        refine hK _ _ HOU.out ?_
        have HSX := hid (setRow_heap U5 U1.heap.size _ (Y.V ya yc) _ _ CBY.out)
        clear hK K HOU
        rw [wpT]
        simp only [opsAt, List.map_cons, List.map_nil, Array.getD_eq_getD_getElem?, List.getElem?_toArray, List.getElem?_cons_succ, List.getElem?_cons_zero, Option.getD_some]
        refine wpSQ_nil ?_
        intro U6 hU6
        have OU := hid (Only.ext (only_setRow U5 U1.heap.size (Y.V ya yc)) hU6)
        have EX6 := hid (show Ext V2 U6 from Ext.then EX5.out OU.out (fun q hq e => by have := EX1.out.size; omega))
        have SZ6 := hid OU.out.size
        have CFY := hid (hU6.at HSX.out)
        replace BKX := hid (BKX.out.only OU.out (fun g hg e => by have s0 := SZ0.out; have s1 := SZ1.out; have s2 := SZ2.out; have s3 := SZ3.out; have s4 := SZ4.out; have s5 := SZ5.out; have pX := SPX.out; have pY := SPY.out; have h1 := LOX.out g hg; have h2 := HIX.out g hg; omega))
        replace BKY := hid (BKY.out.only OU.out (fun g hg e => by have s0 := SZ0.out; have s1 := SZ1.out; have s2 := SZ2.out; have s3 := SZ3.out; have s4 := SZ4.out; have s5 := SZ5.out; have pX := SPX.out; have pY := SPY.out; have h1 := LOY.out g hg; have h2 := HIY.out g hg; omega))
        replace CFX := hid (OU.out.at CFX.out (by have s0 := SZ0.out; have s1 := SZ1.out; have s2 := SZ2.out; have s3 := SZ3.out; have s4 := SZ4.out; have s5 := SZ5.out; have pX := SPX.out; have pY := SPY.out; omega))
        clear hU6 OU HSX CBY
        go_wp2
        go_meet
        case rel =>
          exact ⟨U0.heap.size, U1.heap.size, a, cp, ya, yc, rfl, rfl, EX6.out, ⟨CFX.out, EX0.out.size, BKX.out, fun g hg => Nat.le_trans EX2.out.size (LOX.out g hg)⟩, ⟨CFY.out, EX1.out.size, BKY.out, fun g hg => Nat.le_trans EX3.out.size (LOY.out g hg)⟩⟩
    · refine wpT_loud fun K hK => ?_
      go_wp2
      refine hK _ _ (Ext.only ((Ext.refl _).alloc _)) ?_
      clear hK K
      have xw : Ext U0 (U0.alloc (.cells (Rcd.none_.V none 0) 32)) := (Ext.refl _).alloc _
      have CBY := hid (show (U0.alloc (.cells (Rcd.none_.V none 0) 32)).heap[U0.heap.size]? = some (.cells (Rcd.none_.V none 0) 32 (0, 0)) from heap_alloc_new _ _)
      rw [wpT]
      simp only [opsAt, List.map_cons, List.map_nil, Array.getD_eq_getD_getElem?, List.getElem?_toArray, List.getElem?_cons_succ, List.getElem?_cons_zero, Option.getD_some]
      refine wpSQ_nil ?_
      intro U1 hU1
      have XU := hid (Ext.trans xw hU1)
      have EX1 := hid (Ext.trans EX0.out XU.out)
      have SZ1 := hid XU.out.size
      have SPY := hid (show U0.heap.size < U1.heap.size from Nat.lt_of_lt_of_le (by simp) hU1.size)
      replace CBY := hid (hU1.at CBY.out)
      clear hU1 xw XU
      refine ⟨?_, ?_⟩
      · refine wpT_loud fun K hK => ?_
        go_wp2_with fail
        refine (kblocks_c kk (by omega) a0 U1).mono ?_
        rintro e W1 ⟨v, rfl, hown, xw⟩
        obtain ⟨a, cp, rfl, hbk, hab⟩ := kblocks_at (fun b hb => by obtain ⟨n, rfl⟩ := blocksOf_mem hb; exact blockOf_len n) hown
        have HBX : Hid (Tryd.prog.built 32 [(0, .int .i64 5), (1, .int .i64 0), (2, .slice a (blocksOf kk a0).length cp)] = some (X.V a cp)) := hid (by
          have := built_recOfC c 5 0 a0 a cp
          rw [HKT.out] at this
          rw [this, HXE.out])
        have BKX := hid (show BlksAt W1 a X.blocks by rw [HXB.out]; exact hbk)
        have LOX := hid hab
        clear hown hbk hab
        generalize (blocksOf kk a0).length = n1 at *
        go_wp2
        refine hK _ _ (Ext.only xw) ?_
        clear hK K
        rw [wpT]
        simp only [opsAt, List.map_cons, List.map_nil, Array.getD_eq_getD_getElem?, List.getElem?_toArray, List.getElem?_cons_succ, List.getElem?_cons_zero, Option.getD_some]
        refine wpSQ_build rfl 32 _ rfl (X.V a cp) ?_ ?_
        · simp only [List.map_toArray, List.map_cons, List.map_nil, Act.eval]
          simp only [Array.getD_eq_getD_getElem?, List.getElem?_toArray, List.getElem?_cons_succ, List.getElem?_cons_zero, Option.getD_some]
          exact HBX.out
        refine wpSQ_nil ?_
        intro U2 hU2
        have XU := hid (Ext.trans xw hU2)
        have EX2 := hid (Ext.trans EX1.out XU.out)
        have SZ2 := hid XU.out.size
        replace BKX := hid (BKX.out.ext hU2)
        have HIX := hid (fun g (hg : a = some ⟨g, 0, none⟩) => (show g < U2.heap.size from BKX.out.lt HXN.out g hg))
        replace CBY := hid (XU.out.at CBY.out)
        clear hU2 xw XU
        refine ⟨?_, ?_⟩
        · refine wpT_loud fun K hK => ?_
          go_wp2_with fail
          refine (kblocks_c kk (by omega) b0 U2).mono ?_
          rintro e W2 ⟨v, rfl, hown, xw⟩
          obtain ⟨ya, yc, rfl, hbk, hab⟩ := kblocks_at (fun b hb => by obtain ⟨n, rfl⟩ := blocksOf_mem hb; exact blockOf_len n) hown
          have HBY : Hid (Tryd.prog.built 32 [(0, .int .i64 6), (1, .int .i64 1), (2, .slice ya (blocksOf kk b0).length yc)] = some (Y.V ya yc)) := hid (by
            have := built_recOfC c 6 1 b0 ya yc
            rw [HKT.out] at this
            rw [this, HYE.out])
          have BKY := hid (show BlksAt W2 ya Y.blocks by rw [HYB.out]; exact hbk)
          have LOY := hid hab
          clear hown hbk hab
          generalize (blocksOf kk b0).length = n2 at *
          go_wp2
          refine hK _ _ (Ext.only xw) ?_
          clear hK K
          rw [wpT]
          simp only [opsAt, List.map_cons, List.map_nil, Array.getD_eq_getD_getElem?, List.getElem?_toArray, List.getElem?_cons_succ, List.getElem?_cons_zero, Option.getD_some]
          refine wpSQ_build rfl 32 _ rfl (Y.V ya yc) ?_ ?_
          · simp only [List.map_toArray, List.map_cons, List.map_nil, Act.eval]
            simp only [Array.getD_eq_getD_getElem?, List.getElem?_toArray, List.getElem?_cons_succ, List.getElem?_cons_zero, Option.getD_some]
            exact HBY.out
          refine wpSQ_nil ?_
          intro U3 hU3
          have XU := hid (Ext.trans xw hU3)
          have EX3 := hid (Ext.trans EX2.out XU.out)
          have SZ3 := hid XU.out.size
          replace BKX := hid (BKX.out.ext XU.out)
          replace BKY := hid (BKY.out.ext hU3)
          have HIY := hid (fun g (hg : ya = some ⟨g, 0, none⟩) => (show g < U3.heap.size from BKY.out.lt HYN.out g hg))
          replace CBY := hid (XU.out.at CBY.out)
          clear hU3 xw XU
          refine wpT_loud fun K hK => ?_
          go_wp2
          refine hK _ _ (Ext.only ((Ext.refl _).alloc _)) ?_
          clear hK K
          have xw : Ext U3 (U3.alloc (.cells (Rcd.none_.V none 0) 32)) := (Ext.refl _).alloc _
          have CBX := hid (show (U3.alloc (.cells (Rcd.none_.V none 0) 32)).heap[U3.heap.size]? = some (.cells (Rcd.none_.V none 0) 32 (0, 0)) from heap_alloc_new _ _)
          rw [wpT]
          simp only [opsAt, List.map_cons, List.map_nil, Array.getD_eq_getD_getElem?, List.getElem?_toArray, List.getElem?_cons_succ, List.getElem?_cons_zero, Option.getD_some]
          refine wpSQ_nil ?_
          intro U4 hU4
          have XU := hid (Ext.trans xw hU4)
          have EX4 := hid (Ext.trans EX3.out XU.out)
          have SZ4 := hid XU.out.size
          have SPX := hid (show U3.heap.size < U4.heap.size from Nat.lt_of_lt_of_le (by simp) hU4.size)
          replace BKX := hid (BKX.out.ext XU.out)
          replace CBX := hid (hU4.at CBX.out)
          replace BKY := hid (BKY.out.ext XU.out)
          replace CBY := hid (XU.out.at CBY.out)
          clear hU4 xw XU
          refine wpT_loud fun K hK => ?_
          go_wp2_with (guard_target = wpList _ _ _ ({ dst := none, op := Op.store _ _ _, type := _, pos := _, after := _, guard := none } :: _) _ _; refine wpList_store_whole rfl 32 _ _ rfl U3.heap.size rfl (X.V a cp) _ rfl 32 (agg_rec _ _ _) CBX.out rfl (V_one _ _ _) ?_)
          have HOU := hid ((only_setRow U4 U3.heap.size (X.V a cp)).mono (fun i _ h => by subst h; exact (EX3.out.size : V2.heap.size ≤ U3.heap.size)) : Only (fun b => V2.heap.size ≤ b) U4 (U4.setRow U3.heap.size (X.V a cp)))
          refine hK _ _ HOU.out ?_
          have HSX := hid (setRow_heap U4 U3.heap.size _ (X.V a cp) _ _ CBX.out)
          clear hK K HOU
          rw [wpT]
          simp only [opsAt, List.map_cons, List.map_nil, Array.getD_eq_getD_getElem?, List.getElem?_toArray, List.getElem?_cons_succ, List.getElem?_cons_zero, Option.getD_some]
          refine wpSQ_nil ?_
          intro U5 hU5
          have OU := hid (Only.ext (only_setRow U4 U3.heap.size (X.V a cp)) hU5)
          have EX5 := hid (show Ext V2 U5 from Ext.then EX4.out OU.out (fun q hq e => by have := EX3.out.size; omega))
          have SZ5 := hid OU.out.size
          have CFX := hid (hU5.at HSX.out)
          replace BKX := hid (BKX.out.only OU.out (fun g hg e => by have s0 := SZ0.out; have s1 := SZ1.out; have s2 := SZ2.out; have s3 := SZ3.out; have s4 := SZ4.out; have pX := SPX.out; have pY := SPY.out; have h1 := LOX.out g hg; have h2 := HIX.out g hg; omega))
          replace BKY := hid (BKY.out.only OU.out (fun g hg e => by have s0 := SZ0.out; have s1 := SZ1.out; have s2 := SZ2.out; have s3 := SZ3.out; have s4 := SZ4.out; have pX := SPX.out; have pY := SPY.out; have h1 := LOY.out g hg; have h2 := HIY.out g hg; omega))
          replace CBY := hid (OU.out.at CBY.out (by have s0 := SZ0.out; have s1 := SZ1.out; have s2 := SZ2.out; have s3 := SZ3.out; have s4 := SZ4.out; have pX := SPX.out; have pY := SPY.out; omega))
          clear hU5 OU HSX CBX
          refine wpT_loud fun K hK => ?_
          go_wp2_with (guard_target = wpList _ _ _ ({ dst := none, op := Op.store _ _ _, type := _, pos := _, after := _, guard := none } :: _) _ _; refine wpList_store_whole rfl 32 _ _ rfl U0.heap.size rfl (Y.V ya yc) _ rfl 32 (agg_rec _ _ _) CBY.out rfl (V_one _ _ _) ?_)
          have HOU := hid ((only_setRow U5 U0.heap.size (Y.V ya yc)).mono (fun i _ h => by subst h; exact (EX0.out.size : V2.heap.size ≤ U0.heap.size)) : Only (fun b => V2.heap.size ≤ b) U5 (U5.setRow U0.heap.size (Y.V ya yc)))
          refine hK _ _ HOU.out ?_
          have HSX := hid (setRow_heap U5 U0.heap.size _ (Y.V ya yc) _ _ CBY.out)
          clear hK K HOU
          rw [wpT]
          simp only [opsAt, List.map_cons, List.map_nil, Array.getD_eq_getD_getElem?, List.getElem?_toArray, List.getElem?_cons_succ, List.getElem?_cons_zero, Option.getD_some]
          refine wpSQ_nil ?_
          intro U6 hU6
          have OU := hid (Only.ext (only_setRow U5 U0.heap.size (Y.V ya yc)) hU6)
          have EX6 := hid (show Ext V2 U6 from Ext.then EX5.out OU.out (fun q hq e => by have := EX0.out.size; omega))
          have SZ6 := hid OU.out.size
          have CFY := hid (hU6.at HSX.out)
          replace BKX := hid (BKX.out.only OU.out (fun g hg e => by have s0 := SZ0.out; have s1 := SZ1.out; have s2 := SZ2.out; have s3 := SZ3.out; have s4 := SZ4.out; have s5 := SZ5.out; have pX := SPX.out; have pY := SPY.out; have h1 := LOX.out g hg; have h2 := HIX.out g hg; omega))
          replace BKY := hid (BKY.out.only OU.out (fun g hg e => by have s0 := SZ0.out; have s1 := SZ1.out; have s2 := SZ2.out; have s3 := SZ3.out; have s4 := SZ4.out; have s5 := SZ5.out; have pX := SPX.out; have pY := SPY.out; have h1 := LOY.out g hg; have h2 := HIY.out g hg; omega))
          replace CFX := hid (OU.out.at CFX.out (by have s0 := SZ0.out; have s1 := SZ1.out; have s2 := SZ2.out; have s3 := SZ3.out; have s4 := SZ4.out; have s5 := SZ5.out; have pX := SPX.out; have pY := SPY.out; omega))
          clear hU6 OU HSX CBY
          go_wp2
          go_meet
          case rel =>
            exact ⟨U3.heap.size, U0.heap.size, a, cp, ya, yc, rfl, rfl, EX6.out, ⟨CFX.out, EX3.out.size, BKX.out, fun g hg => Nat.le_trans EX1.out.size (LOX.out g hg)⟩, ⟨CFY.out, EX0.out.size, BKY.out, fun g hg => Nat.le_trans EX2.out.size (LOY.out g hg)⟩⟩
        · refine wpT_loud fun K hK => ?_
          go_wp2
          refine hK _ _ (Ext.only ((Ext.refl _).alloc _)) ?_
          clear hK K
          have xw : Ext U2 (U2.alloc (.cells (Rcd.none_.V none 0) 32)) := (Ext.refl _).alloc _
          have CBX := hid (show (U2.alloc (.cells (Rcd.none_.V none 0) 32)).heap[U2.heap.size]? = some (.cells (Rcd.none_.V none 0) 32 (0, 0)) from heap_alloc_new _ _)
          rw [wpT]
          simp only [opsAt, List.map_cons, List.map_nil, Array.getD_eq_getD_getElem?, List.getElem?_toArray, List.getElem?_cons_succ, List.getElem?_cons_zero, Option.getD_some]
          refine wpSQ_nil ?_
          intro U3 hU3
          have XU := hid (Ext.trans xw hU3)
          have EX3 := hid (Ext.trans EX2.out XU.out)
          have SZ3 := hid XU.out.size
          have SPX := hid (show U2.heap.size < U3.heap.size from Nat.lt_of_lt_of_le (by simp) hU3.size)
          replace BKX := hid (BKX.out.ext XU.out)
          replace CBX := hid (hU3.at CBX.out)
          replace CBY := hid (XU.out.at CBY.out)
          clear hU3 xw XU
          refine wpT_loud fun K hK => ?_
          go_wp2_with fail
          refine (kblocks_c kk (by omega) b0 U3).mono ?_
          rintro e W3 ⟨v, rfl, hown, xw⟩
          obtain ⟨ya, yc, rfl, hbk, hab⟩ := kblocks_at (fun b hb => by obtain ⟨n, rfl⟩ := blocksOf_mem hb; exact blockOf_len n) hown
          have HBY : Hid (Tryd.prog.built 32 [(0, .int .i64 6), (1, .int .i64 1), (2, .slice ya (blocksOf kk b0).length yc)] = some (Y.V ya yc)) := hid (by
            have := built_recOfC c 6 1 b0 ya yc
            rw [HKT.out] at this
            rw [this, HYE.out])
          have BKY := hid (show BlksAt W3 ya Y.blocks by rw [HYB.out]; exact hbk)
          have LOY := hid hab
          clear hown hbk hab
          generalize (blocksOf kk b0).length = n2 at *
          go_wp2
          refine hK _ _ (Ext.only xw) ?_
          clear hK K
          rw [wpT]
          simp only [opsAt, List.map_cons, List.map_nil, Array.getD_eq_getD_getElem?, List.getElem?_toArray, List.getElem?_cons_succ, List.getElem?_cons_zero, Option.getD_some]
          refine wpSQ_build rfl 32 _ rfl (Y.V ya yc) ?_ ?_
          · simp only [List.map_toArray, List.map_cons, List.map_nil, Act.eval]
            simp only [Array.getD_eq_getD_getElem?, List.getElem?_toArray, List.getElem?_cons_succ, List.getElem?_cons_zero, Option.getD_some]
            exact HBY.out
          refine wpSQ_nil ?_
          intro U4 hU4
          have XU := hid (Ext.trans xw hU4)
          have EX4 := hid (Ext.trans EX3.out XU.out)
          have SZ4 := hid XU.out.size
          replace BKX := hid (BKX.out.ext XU.out)
          replace CBX := hid (XU.out.at CBX.out)
          replace BKY := hid (BKY.out.ext hU4)
          have HIY := hid (fun g (hg : ya = some ⟨g, 0, none⟩) => (show g < U4.heap.size from BKY.out.lt HYN.out g hg))
          replace CBY := hid (XU.out.at CBY.out)
          clear hU4 xw XU
          refine wpT_loud fun K hK => ?_
          go_wp2_with (guard_target = wpList _ _ _ ({ dst := none, op := Op.store _ _ _, type := _, pos := _, after := _, guard := none } :: _) _ _; refine wpList_store_whole rfl 32 _ _ rfl U2.heap.size rfl (X.V a cp) _ rfl 32 (agg_rec _ _ _) CBX.out rfl (V_one _ _ _) ?_)
          have HOU := hid ((only_setRow U4 U2.heap.size (X.V a cp)).mono (fun i _ h => by subst h; exact (EX2.out.size : V2.heap.size ≤ U2.heap.size)) : Only (fun b => V2.heap.size ≤ b) U4 (U4.setRow U2.heap.size (X.V a cp)))
          refine hK _ _ HOU.out ?_
          have HSX := hid (setRow_heap U4 U2.heap.size _ (X.V a cp) _ _ CBX.out)
          clear hK K HOU
          rw [wpT]
          simp only [opsAt, List.map_cons, List.map_nil, Array.getD_eq_getD_getElem?, List.getElem?_toArray, List.getElem?_cons_succ, List.getElem?_cons_zero, Option.getD_some]
          refine wpSQ_nil ?_
          intro U5 hU5
          have OU := hid (Only.ext (only_setRow U4 U2.heap.size (X.V a cp)) hU5)
          have EX5 := hid (show Ext V2 U5 from Ext.then EX4.out OU.out (fun q hq e => by have := EX2.out.size; omega))
          have SZ5 := hid OU.out.size
          have CFX := hid (hU5.at HSX.out)
          replace BKX := hid (BKX.out.only OU.out (fun g hg e => by have s0 := SZ0.out; have s1 := SZ1.out; have s2 := SZ2.out; have s3 := SZ3.out; have s4 := SZ4.out; have pX := SPX.out; have pY := SPY.out; have h1 := LOX.out g hg; have h2 := HIX.out g hg; omega))
          replace BKY := hid (BKY.out.only OU.out (fun g hg e => by have s0 := SZ0.out; have s1 := SZ1.out; have s2 := SZ2.out; have s3 := SZ3.out; have s4 := SZ4.out; have pX := SPX.out; have pY := SPY.out; have h1 := LOY.out g hg; have h2 := HIY.out g hg; omega))
          replace CBY := hid (OU.out.at CBY.out (by have s0 := SZ0.out; have s1 := SZ1.out; have s2 := SZ2.out; have s3 := SZ3.out; have s4 := SZ4.out; have pX := SPX.out; have pY := SPY.out; omega))
          clear hU5 OU HSX CBX
          refine wpT_loud fun K hK => ?_
          go_wp2_with (guard_target = wpList _ _ _ ({ dst := none, op := Op.store _ _ _, type := _, pos := _, after := _, guard := none } :: _) _ _; refine wpList_store_whole rfl 32 _ _ rfl U0.heap.size rfl (Y.V ya yc) _ rfl 32 (agg_rec _ _ _) CBY.out rfl (V_one _ _ _) ?_)
          have HOU := hid ((only_setRow U5 U0.heap.size (Y.V ya yc)).mono (fun i _ h => by subst h; exact (EX0.out.size : V2.heap.size ≤ U0.heap.size)) : Only (fun b => V2.heap.size ≤ b) U5 (U5.setRow U0.heap.size (Y.V ya yc)))
          refine hK _ _ HOU.out ?_
          have HSX := hid (setRow_heap U5 U0.heap.size _ (Y.V ya yc) _ _ CBY.out)
          clear hK K HOU
          rw [wpT]
          simp only [opsAt, List.map_cons, List.map_nil, Array.getD_eq_getD_getElem?, List.getElem?_toArray, List.getElem?_cons_succ, List.getElem?_cons_zero, Option.getD_some]
          refine wpSQ_nil ?_
          intro U6 hU6
          have OU := hid (Only.ext (only_setRow U5 U0.heap.size (Y.V ya yc)) hU6)
          have EX6 := hid (show Ext V2 U6 from Ext.then EX5.out OU.out (fun q hq e => by have := EX0.out.size; omega))
          have SZ6 := hid OU.out.size
          have CFY := hid (hU6.at HSX.out)
          replace BKX := hid (BKX.out.only OU.out (fun g hg e => by have s0 := SZ0.out; have s1 := SZ1.out; have s2 := SZ2.out; have s3 := SZ3.out; have s4 := SZ4.out; have s5 := SZ5.out; have pX := SPX.out; have pY := SPY.out; have h1 := LOX.out g hg; have h2 := HIX.out g hg; omega))
          replace BKY := hid (BKY.out.only OU.out (fun g hg e => by have s0 := SZ0.out; have s1 := SZ1.out; have s2 := SZ2.out; have s3 := SZ3.out; have s4 := SZ4.out; have s5 := SZ5.out; have pX := SPX.out; have pY := SPY.out; have h1 := LOY.out g hg; have h2 := HIY.out g hg; omega))
          replace CFX := hid (OU.out.at CFX.out (by have s0 := SZ0.out; have s1 := SZ1.out; have s2 := SZ2.out; have s3 := SZ3.out; have s4 := SZ4.out; have s5 := SZ5.out; have pX := SPX.out; have pY := SPY.out; omega))
          clear hU6 OU HSX CBY
          go_wp2
          go_meet
          case rel =>
            exact ⟨U2.heap.size, U0.heap.size, a, cp, ya, yc, rfl, rfl, EX6.out, ⟨CFX.out, EX2.out.size, BKX.out, fun g hg => Nat.le_trans EX1.out.size (LOX.out g hg)⟩, ⟨CFY.out, EX0.out.size, BKY.out, fun g hg => Nat.le_trans EX3.out.size (LOY.out g hg)⟩⟩
      · refine wpT_loud fun K hK => ?_
        go_wp2
        refine hK _ _ (Ext.only ((Ext.refl _).alloc _)) ?_
        clear hK K
        have xw : Ext U1 (U1.alloc (.cells (Rcd.none_.V none 0) 32)) := (Ext.refl _).alloc _
        have CBX := hid (show (U1.alloc (.cells (Rcd.none_.V none 0) 32)).heap[U1.heap.size]? = some (.cells (Rcd.none_.V none 0) 32 (0, 0)) from heap_alloc_new _ _)
        rw [wpT]
        simp only [opsAt, List.map_cons, List.map_nil, Array.getD_eq_getD_getElem?, List.getElem?_toArray, List.getElem?_cons_succ, List.getElem?_cons_zero, Option.getD_some]
        refine wpSQ_nil ?_
        intro U2 hU2
        have XU := hid (Ext.trans xw hU2)
        have EX2 := hid (Ext.trans EX1.out XU.out)
        have SZ2 := hid XU.out.size
        have SPX := hid (show U1.heap.size < U2.heap.size from Nat.lt_of_lt_of_le (by simp) hU2.size)
        replace CBX := hid (hU2.at CBX.out)
        replace CBY := hid (XU.out.at CBY.out)
        clear hU2 xw XU
        refine wpT_loud fun K hK => ?_
        go_wp2_with fail
        refine (kblocks_c kk (by omega) a0 U2).mono ?_
        rintro e W2 ⟨v, rfl, hown, xw⟩
        obtain ⟨a, cp, rfl, hbk, hab⟩ := kblocks_at (fun b hb => by obtain ⟨n, rfl⟩ := blocksOf_mem hb; exact blockOf_len n) hown
        have HBX : Hid (Tryd.prog.built 32 [(0, .int .i64 5), (1, .int .i64 0), (2, .slice a (blocksOf kk a0).length cp)] = some (X.V a cp)) := hid (by
          have := built_recOfC c 5 0 a0 a cp
          rw [HKT.out] at this
          rw [this, HXE.out])
        have BKX := hid (show BlksAt W2 a X.blocks by rw [HXB.out]; exact hbk)
        have LOX := hid hab
        clear hown hbk hab
        generalize (blocksOf kk a0).length = n1 at *
        go_wp2
        refine hK _ _ (Ext.only xw) ?_
        clear hK K
        rw [wpT]
        simp only [opsAt, List.map_cons, List.map_nil, Array.getD_eq_getD_getElem?, List.getElem?_toArray, List.getElem?_cons_succ, List.getElem?_cons_zero, Option.getD_some]
        refine wpSQ_build rfl 32 _ rfl (X.V a cp) ?_ ?_
        · simp only [List.map_toArray, List.map_cons, List.map_nil, Act.eval]
          simp only [Array.getD_eq_getD_getElem?, List.getElem?_toArray, List.getElem?_cons_succ, List.getElem?_cons_zero, Option.getD_some]
          exact HBX.out
        refine wpSQ_nil ?_
        intro U3 hU3
        have XU := hid (Ext.trans xw hU3)
        have EX3 := hid (Ext.trans EX2.out XU.out)
        have SZ3 := hid XU.out.size
        replace BKX := hid (BKX.out.ext hU3)
        have HIX := hid (fun g (hg : a = some ⟨g, 0, none⟩) => (show g < U3.heap.size from BKX.out.lt HXN.out g hg))
        replace CBX := hid (XU.out.at CBX.out)
        replace CBY := hid (XU.out.at CBY.out)
        clear hU3 xw XU
        refine wpT_loud fun K hK => ?_
        go_wp2_with fail
        refine (kblocks_c kk (by omega) b0 U3).mono ?_
        rintro e W3 ⟨v, rfl, hown, xw⟩
        obtain ⟨ya, yc, rfl, hbk, hab⟩ := kblocks_at (fun b hb => by obtain ⟨n, rfl⟩ := blocksOf_mem hb; exact blockOf_len n) hown
        have HBY : Hid (Tryd.prog.built 32 [(0, .int .i64 6), (1, .int .i64 1), (2, .slice ya (blocksOf kk b0).length yc)] = some (Y.V ya yc)) := hid (by
          have := built_recOfC c 6 1 b0 ya yc
          rw [HKT.out] at this
          rw [this, HYE.out])
        have BKY := hid (show BlksAt W3 ya Y.blocks by rw [HYB.out]; exact hbk)
        have LOY := hid hab
        clear hown hbk hab
        generalize (blocksOf kk b0).length = n2 at *
        go_wp2
        refine hK _ _ (Ext.only xw) ?_
        clear hK K
        rw [wpT]
        simp only [opsAt, List.map_cons, List.map_nil, Array.getD_eq_getD_getElem?, List.getElem?_toArray, List.getElem?_cons_succ, List.getElem?_cons_zero, Option.getD_some]
        refine wpSQ_build rfl 32 _ rfl (Y.V ya yc) ?_ ?_
        · simp only [List.map_toArray, List.map_cons, List.map_nil, Act.eval]
          simp only [Array.getD_eq_getD_getElem?, List.getElem?_toArray, List.getElem?_cons_succ, List.getElem?_cons_zero, Option.getD_some]
          exact HBY.out
        refine wpSQ_nil ?_
        intro U4 hU4
        have XU := hid (Ext.trans xw hU4)
        have EX4 := hid (Ext.trans EX3.out XU.out)
        have SZ4 := hid XU.out.size
        replace BKX := hid (BKX.out.ext XU.out)
        replace CBX := hid (XU.out.at CBX.out)
        replace BKY := hid (BKY.out.ext hU4)
        have HIY := hid (fun g (hg : ya = some ⟨g, 0, none⟩) => (show g < U4.heap.size from BKY.out.lt HYN.out g hg))
        replace CBY := hid (XU.out.at CBY.out)
        clear hU4 xw XU
        refine wpT_loud fun K hK => ?_
        go_wp2_with (guard_target = wpList _ _ _ ({ dst := none, op := Op.store _ _ _, type := _, pos := _, after := _, guard := none } :: _) _ _; refine wpList_store_whole rfl 32 _ _ rfl U1.heap.size rfl (X.V a cp) _ rfl 32 (agg_rec _ _ _) CBX.out rfl (V_one _ _ _) ?_)
        have HOU := hid ((only_setRow U4 U1.heap.size (X.V a cp)).mono (fun i _ h => by subst h; exact (EX1.out.size : V2.heap.size ≤ U1.heap.size)) : Only (fun b => V2.heap.size ≤ b) U4 (U4.setRow U1.heap.size (X.V a cp)))
        refine hK _ _ HOU.out ?_
        have HSX := hid (setRow_heap U4 U1.heap.size _ (X.V a cp) _ _ CBX.out)
        clear hK K HOU
        rw [wpT]
        simp only [opsAt, List.map_cons, List.map_nil, Array.getD_eq_getD_getElem?, List.getElem?_toArray, List.getElem?_cons_succ, List.getElem?_cons_zero, Option.getD_some]
        refine wpSQ_nil ?_
        intro U5 hU5
        have OU := hid (Only.ext (only_setRow U4 U1.heap.size (X.V a cp)) hU5)
        have EX5 := hid (show Ext V2 U5 from Ext.then EX4.out OU.out (fun q hq e => by have := EX1.out.size; omega))
        have SZ5 := hid OU.out.size
        have CFX := hid (hU5.at HSX.out)
        replace BKX := hid (BKX.out.only OU.out (fun g hg e => by have s0 := SZ0.out; have s1 := SZ1.out; have s2 := SZ2.out; have s3 := SZ3.out; have s4 := SZ4.out; have pX := SPX.out; have pY := SPY.out; have h1 := LOX.out g hg; have h2 := HIX.out g hg; omega))
        replace BKY := hid (BKY.out.only OU.out (fun g hg e => by have s0 := SZ0.out; have s1 := SZ1.out; have s2 := SZ2.out; have s3 := SZ3.out; have s4 := SZ4.out; have pX := SPX.out; have pY := SPY.out; have h1 := LOY.out g hg; have h2 := HIY.out g hg; omega))
        replace CBY := hid (OU.out.at CBY.out (by have s0 := SZ0.out; have s1 := SZ1.out; have s2 := SZ2.out; have s3 := SZ3.out; have s4 := SZ4.out; have pX := SPX.out; have pY := SPY.out; omega))
        clear hU5 OU HSX CBX
        refine wpT_loud fun K hK => ?_
        go_wp2_with (guard_target = wpList _ _ _ ({ dst := none, op := Op.store _ _ _, type := _, pos := _, after := _, guard := none } :: _) _ _; refine wpList_store_whole rfl 32 _ _ rfl U0.heap.size rfl (Y.V ya yc) _ rfl 32 (agg_rec _ _ _) CBY.out rfl (V_one _ _ _) ?_)
        have HOU := hid ((only_setRow U5 U0.heap.size (Y.V ya yc)).mono (fun i _ h => by subst h; exact (EX0.out.size : V2.heap.size ≤ U0.heap.size)) : Only (fun b => V2.heap.size ≤ b) U5 (U5.setRow U0.heap.size (Y.V ya yc)))
        refine hK _ _ HOU.out ?_
        have HSX := hid (setRow_heap U5 U0.heap.size _ (Y.V ya yc) _ _ CBY.out)
        clear hK K HOU
        rw [wpT]
        simp only [opsAt, List.map_cons, List.map_nil, Array.getD_eq_getD_getElem?, List.getElem?_toArray, List.getElem?_cons_succ, List.getElem?_cons_zero, Option.getD_some]
        refine wpSQ_nil ?_
        intro U6 hU6
        have OU := hid (Only.ext (only_setRow U5 U0.heap.size (Y.V ya yc)) hU6)
        have EX6 := hid (show Ext V2 U6 from Ext.then EX5.out OU.out (fun q hq e => by have := EX0.out.size; omega))
        have SZ6 := hid OU.out.size
        have CFY := hid (hU6.at HSX.out)
        replace BKX := hid (BKX.out.only OU.out (fun g hg e => by have s0 := SZ0.out; have s1 := SZ1.out; have s2 := SZ2.out; have s3 := SZ3.out; have s4 := SZ4.out; have s5 := SZ5.out; have pX := SPX.out; have pY := SPY.out; have h1 := LOX.out g hg; have h2 := HIX.out g hg; omega))
        replace BKY := hid (BKY.out.only OU.out (fun g hg e => by have s0 := SZ0.out; have s1 := SZ1.out; have s2 := SZ2.out; have s3 := SZ3.out; have s4 := SZ4.out; have s5 := SZ5.out; have pX := SPX.out; have pY := SPY.out; have h1 := LOY.out g hg; have h2 := HIY.out g hg; omega))
        replace CFX := hid (OU.out.at CFX.out (by have s0 := SZ0.out; have s1 := SZ1.out; have s2 := SZ2.out; have s3 := SZ3.out; have s4 := SZ4.out; have s5 := SZ5.out; have pX := SPX.out; have pY := SPY.out; omega))
        clear hU6 OU HSX CBY
        go_wp2
        go_meet
        case rel =>
          exact ⟨U1.heap.size, U0.heap.size, a, cp, ya, yc, rfl, rfl, EX6.out, ⟨CFX.out, EX1.out.size, BKX.out, fun g hg => Nat.le_trans EX2.out.size (LOX.out g hg)⟩, ⟨CFY.out, EX0.out.size, BKY.out, fun g hg => Nat.le_trans EX3.out.size (LOY.out g hg)⟩⟩
  case rest =>
    obtain ⟨px, py, a, cp, ya, yc, rfl, rfl, xcut, rx, ry⟩ := hcut
    have J4 := HJ2.out.lay xcut [⟨px, X, a, cp⟩, ⟨py, Y, ya, yc⟩] (fun p hp => by
      rcases List.mem_cons.1 hp with rfl | hp
      · exact rx
      · rcases List.mem_cons.1 hp with rfl | hp
        · exact ry
        · cases hp)
    obtain ⟨S4, hS4⟩ : ∃ S, wideS (fun b => b < W1.heap.size) V2 wc = S := ⟨_, rfl⟩
    rw [hS4, List.append_nil] at J4
    have HJ4 := hid J4
    have HA4 := hid (show ∀ g, a = some ⟨g, 0, none⟩ → S4 g from (J4.recs ⟨px, X, a, cp⟩ (by simp)).own HXN.out)
    have HA7 := hid (show ∀ g, ya = some ⟨g, 0, none⟩ → S4 g from (J4.recs ⟨py, Y, ya, yc⟩ (by simp)).own HYN.out)
    clear J4 hS4 xcut rx ry ck HJ2
    go_wp2_with (first
      | (guard_target = wpList _ _ _ ({ dst := some _, op := Op.load _ _, type := _, pos := _, after := _, guard := some _ } :: _) _ _; refine wpListG_load_agg 23 _ rfl ⟨g, 0, none⟩ rfl (Cfg.A c) rfl (cfg_agg c) (agg_cells HJ4.out.cfg) ?_)
      | (guard_target = wpList _ _ _ ({ dst := some _, op := Op.load _ _, type := _, pos := _, after := _, guard := some _ } :: _) _ _; refine wpListG_load_agg 32 _ rfl ⟨px, 0, none⟩ rfl (X.V a cp) rfl (agg_rec _ _ _) (agg_cells (HJ4.out.recs ⟨px, X, a, cp⟩ (by simp)).blk) ?_))
    refine (jlog_c HJ4.out.rack c X HXO.out a cp (HJ4.out.recs ⟨px, X, a, cp⟩ (by simp)).bks HA4.out).mono ?_
    rintro e w5 ⟨rfl, h5, k5⟩
    obtain ⟨hfit, ht0, _, R5, hlog, hrj⟩ := HRJ0.out.log (x := X) (t := 0) (by rw [HXS.out, HSL.out]; decide) HXO.out (by rw [HXT.out]; decide) (by rw [HXT.out, HST.out]; decide) (by rw [HXS.out]; decide) (by rw [HXS.out]; decide) HXL.out
    rw [hlog] at h5 ⊢
    simp only [oErr]
    have HJ5 := hid (HJ4.out.keep h5 k5)
    have HYF := hid (show Y.Fit c 0 from ⟨HYO.out, by rw [HYT.out]; decide, by rw [HYT.out, HST.out]; decide, by rw [HYS.out]; decide, by rw [HYS.out]; decide, .inr ⟨by rw [HYS.out]; decide, by rw [HYS.out, HSL.out]; decide⟩⟩)
    obtain ⟨pn, hpn⟩ : ∃ pn : Nat, nn * kk = pn := ⟨_, rfl⟩
    have hpi : (nn : Int) * (kk : Int) = (pn : Int) := by rw [← hpn]; push_cast; rfl
    have hpb : pn ≤ 6 * 4 := by rw [← hpn]; exact Nat.mul_le_mul n8 k4
    have HPN := hid (show c.n.toNat * c.k.toNat + c.n.toNat = pn + nn by rw [HNT.out, HKT.out, hpn])
    have HALL := hid (fun (F : Nat) (hF : F ≤ pn + nn) => Cut.all hrj HSL.out (upd_at _ _ _) hfit HYF.out HXL.out HYL.out (by rw [HYS.out]; decide) (by rw [HXS.out, HYS.out]; decide) F (by rw [HPN.out]; exact hF) bits)
    have c1 : w5.cell? ⟨g, 1, none⟩ = some (.int .i64 kk) := (cell_at HJ5.out.cfg).trans (by rw [Cfg.A1, HK.out])
    have c2 : w5.cell? ⟨g, 2, none⟩ = some (.int .i64 nn) := (cell_at HJ5.out.cfg).trans (by rw [Cfg.A2, HN.out])
    have hw1 : wrap64 (pn : Int) = (pn : Int) := by unfold wrap64; omega
    have hw2 : wrap64 ((pn : Int) + (nn : Int)) = (pn : Int) + (nn : Int) := by unfold wrap64; omega
    clear h5 k5 HJ4 hlog hrj hfit hpn
    go_wp2_with fail
    refine (within_c fuse 0 ((pn : Int) + (nn : Int)) w5 (by omega) (by omega) (by omega)).mono ?_
    rintro e w6 ⟨rfl, rfl⟩
    obtain ⟨q0, q1⟩ := within_bd fuse 0 ((pn : Int) + (nn : Int)) (by omega)
    obtain ⟨F, hF⟩ := Int.eq_ofNat_of_zero_le q0
    have hF2 : F ≤ pn + nn := by omega
    rw [hF]
    clear q0 q1 hF c1 c2 hw1 hw2 hpi
    go_wp2_with fail
    refine (at_arm HJ5.out.rack F (by omega)).mono ?_
    rintro e w7 ⟨rfl, h7, k7⟩
    have HJ7 := hid (HJ5.out.keep h7 k7)
    clear h7 k7 HJ5
    go_wp2_with (first
      | (guard_target = wpList _ _ _ ({ dst := some _, op := Op.load _ _, type := _, pos := _, after := _, guard := none } :: _) _ _; refine wpList_load_agg rfl 23 _ rfl ⟨g, 0, none⟩ rfl (Cfg.A c) (cfg_agg c) (agg_cells HJ7.out.cfg) ?_)
      | (guard_target = wpList _ _ _ ({ dst := some _, op := Op.load _ _, type := _, pos := _, after := _, guard := none } :: _) _ _; refine wpList_load_agg rfl 32 _ rfl ⟨py, 0, none⟩ rfl (Y.V ya yc) (agg_rec _ _ _) (agg_cells (HJ7.out.recs ⟨py, Y, ya, yc⟩ (by simp)).blk) ?_))
    refine (jlog_c HJ7.out.rack c Y HYO.out ya yc (HJ7.out.recs ⟨py, Y, ya, yc⟩ (by simp)).bks HA7.out).mono ?_
    rintro e w8 ⟨rfl, h8, k8⟩
    have HJ8 := hid (HJ7.out.keep h8 k8)
    obtain ⟨hno, hsl, hfu⟩ := HALL.out F hF2
    rw [HPN.out] at hno hfu
    clear h8 k8 HJ7 HALL
    obtain ⟨⟨ov, R8⟩, hq⟩ : ∃ q, (R5.arm F).jlog c Y = q := ⟨_, rfl⟩
    rw [hq] at hno hsl hfu HJ8 ⊢
    simp only at hno hsl hfu
    have HSB := hid (show ∀ p : Addr, ia = some p → 0 < len → S4 p.block from fun p hp hn => HJ8.out.low _ (HBL.out p hp hn))
    have HB8 := hid (HBT.out.only HJ8.out.ext (fun _ _ _ x => x))
    have HSLT := hid hsl
    clear hq hsl
    rcases ov with _ | er
    · have hFe : F = pn + nn := by simpa using hno
      have hbF : ((F : Int) == (pn : Int) + (nn : Int)) = true := by rw [hFe]; simp
      have HSY := hid (show (R8.boot bits).jslot c 0 = (Y, true, Y.seq, none) from hfu hFe)
      clear hno hfu HSLT hFe hF2
      simp only [oErr]
      go_wp2_with fail
      refine (at_boot HJ8.out.rack ia len cap bits HB8.out HSB.out).mono ?_
      rintro e w9 ⟨rfl, h9, k9⟩
      have HJ9 := hid (HJ8.out.keep h9 k9)
      clear h9 k9 HJ8
      go_wp2_with (guard_target = wpList _ _ _ ({ dst := some _, op := Op.load _ _, type := _, pos := _, after := _, guard := none } :: _) _ _; refine wpList_load_agg rfl 23 _ rfl ⟨g, 0, none⟩ rfl (Cfg.A c) (cfg_agg c) (agg_cells HJ9.out.cfg) ?_)
      refine (jslot_c HJ9.out.rack c 0).mono ?_
      rintro e w10 ⟨a10, c10, rfl, x10, b10, l10⟩
      rw [HSY.out, HYS.out] at b10 ⊢
      simp only [oErr]
      have J10 := HJ9.out.put x10 Y a10 c10 b10 l10
      obtain ⟨W10, hW10⟩ : ∃ W, w10.alloc (.cells ((Y).V a10 c10) 32) = W := ⟨_, rfl⟩
      rw [hW10] at J10
      have HJ10 := hid J10
      have HW10 := hid hW10
      have hbs : (w10.alloc (.cells (Rcd.none_.V none 0) 32)).heap[w10.heap.size]? = some (.cells (Rcd.none_.V none 0) 32 (0, 0)) := block_alloc
      clear x10 b10 l10 J10 hW10
      go_wp2_with (first
        | (guard_target = wpList _ _ _ ({ dst := none, op := Op.store _ _ _, type := _, pos := _, after := _, guard := none } :: _) _ _; have hb0 := hbs; clear hbs; refine wpList_store_whole rfl 32 _ _ rfl w10.heap.size rfl (Y.V a10 c10) _ rfl 32 (agg_rec _ _ _) hb0 rfl (V_one _ _ _) ?_; rw [setRow_alloc, HW10.out])
        | (guard_target = wpList _ _ _ ({ dst := some _, op := Op.load _ _, type := _, pos := _, after := _, guard := some _ } :: _) _ _; refine wpListG_load_agg 32 _ rfl ⟨w10.heap.size, 0, none⟩ rfl (Y.V a10 c10) rfl (agg_rec _ _ _) (agg_cells (HJ10.out.recs ⟨w10.heap.size, Y, a10, c10⟩ (by simp)).blk) ?_)
        | (guard_target = wpList _ _ _ ({ dst := some _, op := Op.load _ _, type := _, pos := _, after := _, guard := some _ } :: _) _ _; refine wpListG_load_agg 32 _ rfl ⟨py, 0, none⟩ rfl (Y.V ya yc) rfl (agg_rec _ _ _) (agg_cells (HJ10.out.recs ⟨py, Y, ya, yc⟩ (by simp)).blk) ?_))
      refine (record_c Y HYO.out (by have := HYL.out; have := HK.out; omega) a10 ya c10 yc W10 (HJ10.out.recs ⟨w10.heap.size, Y, a10, c10⟩ (by simp)).bks (HJ10.out.recs ⟨py, Y, ya, yc⟩ (by simp)).bks).mono ?_
      rintro e w11 ⟨rfl, x11⟩
      have HX11 := hid (Ext.trans HJ10.out.ext x11)
      clear x11
      go_wp2_with (go_at_call 3; fail)
      refine (journalRuns_c w11 (HG.out.only HX11.out (fun x => x))).mono ?_
      rintro e w12 ⟨rfl, x12⟩
      have HX12 := hid (Ext.trans HX11.out x12)
      clear x12
      go_wp2
      go_ret
      exact ⟨rfl, HX12.out⟩
    · have hFe : F ≠ pn + nn := by simpa using hno
      have hbF : ((F : Int) == (pn : Int) + (nn : Int)) = false := by rw [beq_eq_false_iff_ne]; omega
      obtain ⟨et, ev, hev⟩ := er.iface
      simp only [oErr]
      rw [hev]
      clear hno hfu hFe hF2
      rcases HSLT.out with hs | hs | hs
      · have HSY := hid hs
        clear hs HSLT
        go_wp2_with fail
        refine (at_boot HJ8.out.rack ia len cap bits HB8.out HSB.out).mono ?_
        rintro e w9 ⟨rfl, h9, k9⟩
        have HJ9 := hid (HJ8.out.keep h9 k9)
        clear h9 k9 HJ8
        go_wp2_with (guard_target = wpList _ _ _ ({ dst := some _, op := Op.load _ _, type := _, pos := _, after := _, guard := none } :: _) _ _; refine wpList_load_agg rfl 23 _ rfl ⟨g, 0, none⟩ rfl (Cfg.A c) (cfg_agg c) (agg_cells HJ9.out.cfg) ?_)
        refine (jslot_c HJ9.out.rack c 0).mono ?_
        rintro e w10 ⟨a10, c10, rfl, x10, b10, l10⟩
        rw [HSY.out, HXS.out] at b10 ⊢
        simp only [oErr]
        have J10 := HJ9.out.put x10 X a10 c10 b10 l10
        obtain ⟨W10, hW10⟩ : ∃ W, w10.alloc (.cells ((X).V a10 c10) 32) = W := ⟨_, rfl⟩
        rw [hW10] at J10
        have HJ10 := hid J10
        have HW10 := hid hW10
        have hbs : (w10.alloc (.cells (Rcd.none_.V none 0) 32)).heap[w10.heap.size]? = some (.cells (Rcd.none_.V none 0) 32 (0, 0)) := block_alloc
        clear x10 b10 l10 J10 hW10
        go_wp2_with (first
          | (guard_target = wpList _ _ _ ({ dst := none, op := Op.store _ _ _, type := _, pos := _, after := _, guard := none } :: _) _ _; have hb0 := hbs; clear hbs; refine wpList_store_whole rfl 32 _ _ rfl w10.heap.size rfl (X.V a10 c10) _ rfl 32 (agg_rec _ _ _) hb0 rfl (V_one _ _ _) ?_; rw [setRow_alloc, HW10.out])
          | (guard_target = wpList _ _ _ ({ dst := some _, op := Op.load _ _, type := _, pos := _, after := _, guard := some _ } :: _) _ _; refine wpListG_load_agg 32 _ rfl ⟨w10.heap.size, 0, none⟩ rfl (X.V a10 c10) rfl (agg_rec _ _ _) (agg_cells (HJ10.out.recs ⟨w10.heap.size, X, a10, c10⟩ (by simp)).blk) ?_)
          | (guard_target = wpList _ _ _ ({ dst := some _, op := Op.load _ _, type := _, pos := _, after := _, guard := some _ } :: _) _ _; refine wpListG_load_agg 32 _ rfl ⟨px, 0, none⟩ rfl (X.V a cp) rfl (agg_rec _ _ _) (agg_cells (HJ10.out.recs ⟨px, X, a, cp⟩ (by simp)).blk) ?_))
        refine (record_c X HXO.out (by have := HXL.out; have := HK.out; omega) a10 a c10 cp W10 (HJ10.out.recs ⟨w10.heap.size, X, a10, c10⟩ (by simp)).bks (HJ10.out.recs ⟨px, X, a, cp⟩ (by simp)).bks).mono ?_
        rintro e w11 ⟨rfl, x11⟩
        have HX11 := hid (Ext.trans HJ10.out.ext x11)
        clear x11
        go_wp2_with (go_at_call 3; fail)
        refine (journalRuns_c w11 (HG.out.only HX11.out (fun x => x))).mono ?_
        rintro e w12 ⟨rfl, x12⟩
        have HX12 := hid (Ext.trans HX11.out x12)
        clear x12
        go_wp2
        go_ret
        exact ⟨rfl, HX12.out⟩
      · have HSY := hid hs
        clear hs HSLT
        go_wp2_with fail
        refine (at_boot HJ8.out.rack ia len cap bits HB8.out HSB.out).mono ?_
        rintro e w9 ⟨rfl, h9, k9⟩
        have HJ9 := hid (HJ8.out.keep h9 k9)
        clear h9 k9 HJ8
        go_wp2_with (guard_target = wpList _ _ _ ({ dst := some _, op := Op.load _ _, type := _, pos := _, after := _, guard := none } :: _) _ _; refine wpList_load_agg rfl 23 _ rfl ⟨g, 0, none⟩ rfl (Cfg.A c) (cfg_agg c) (agg_cells HJ9.out.cfg) ?_)
        refine (jslot_c HJ9.out.rack c 0).mono ?_
        rintro e w10 ⟨a10, c10, rfl, x10, b10, l10⟩
        rw [HSY.out, HYS.out] at b10 ⊢
        simp only [oErr]
        have J10 := HJ9.out.put x10 Y a10 c10 b10 l10
        obtain ⟨W10, hW10⟩ : ∃ W, w10.alloc (.cells ((Y).V a10 c10) 32) = W := ⟨_, rfl⟩
        rw [hW10] at J10
        have HJ10 := hid J10
        have HW10 := hid hW10
        have hbs : (w10.alloc (.cells (Rcd.none_.V none 0) 32)).heap[w10.heap.size]? = some (.cells (Rcd.none_.V none 0) 32 (0, 0)) := block_alloc
        clear x10 b10 l10 J10 hW10
        go_wp2_with (first
          | (guard_target = wpList _ _ _ ({ dst := none, op := Op.store _ _ _, type := _, pos := _, after := _, guard := none } :: _) _ _; have hb0 := hbs; clear hbs; refine wpList_store_whole rfl 32 _ _ rfl w10.heap.size rfl (Y.V a10 c10) _ rfl 32 (agg_rec _ _ _) hb0 rfl (V_one _ _ _) ?_; rw [setRow_alloc, HW10.out])
          | (guard_target = wpList _ _ _ ({ dst := some _, op := Op.load _ _, type := _, pos := _, after := _, guard := some _ } :: _) _ _; refine wpListG_load_agg 32 _ rfl ⟨w10.heap.size, 0, none⟩ rfl (Y.V a10 c10) rfl (agg_rec _ _ _) (agg_cells (HJ10.out.recs ⟨w10.heap.size, Y, a10, c10⟩ (by simp)).blk) ?_)
          | (guard_target = wpList _ _ _ ({ dst := some _, op := Op.load _ _, type := _, pos := _, after := _, guard := some _ } :: _) _ _; refine wpListG_load_agg 32 _ rfl ⟨py, 0, none⟩ rfl (Y.V ya yc) rfl (agg_rec _ _ _) (agg_cells (HJ10.out.recs ⟨py, Y, ya, yc⟩ (by simp)).blk) ?_))
        refine (record_c Y HYO.out (by have := HYL.out; have := HK.out; omega) a10 ya c10 yc W10 (HJ10.out.recs ⟨w10.heap.size, Y, a10, c10⟩ (by simp)).bks (HJ10.out.recs ⟨py, Y, ya, yc⟩ (by simp)).bks).mono ?_
        rintro e w11 ⟨rfl, x11⟩
        have HX11 := hid (Ext.trans HJ10.out.ext x11)
        clear x11
        go_wp2_with (go_at_call 3; fail)
        refine (journalRuns_c w11 (HG.out.only HX11.out (fun x => x))).mono ?_
        rintro e w12 ⟨rfl, x12⟩
        have HX12 := hid (Ext.trans HX11.out x12)
        clear x12
        go_wp2
        go_ret
        exact ⟨rfl, HX12.out⟩
      · have HSY := hid hs
        clear hs HSLT
        go_wp2_with fail
        refine (at_boot HJ8.out.rack ia len cap bits HB8.out HSB.out).mono ?_
        rintro e w9 ⟨rfl, h9, k9⟩
        have HJ9 := hid (HJ8.out.keep h9 k9)
        clear h9 k9 HJ8
        go_wp2_with (guard_target = wpList _ _ _ ({ dst := some _, op := Op.load _ _, type := _, pos := _, after := _, guard := none } :: _) _ _; refine wpList_load_agg rfl 23 _ rfl ⟨g, 0, none⟩ rfl (Cfg.A c) (cfg_agg c) (agg_cells HJ9.out.cfg) ?_)
        refine (jslot_c HJ9.out.rack c 0).mono ?_
        rintro e w10 ⟨a10, c10, rfl, x10, b10, l10⟩
        rw [HSY.out, HYS.out] at b10 ⊢
        simp only [oErr]
        have J10 := HJ9.out.put x10 Rcd.none_ a10 c10 b10 l10
        obtain ⟨W10, hW10⟩ : ∃ W, w10.alloc (.cells ((Rcd.none_).V a10 c10) 32) = W := ⟨_, rfl⟩
        rw [hW10] at J10
        have HJ10 := hid J10
        have HW10 := hid hW10
        have hbs : (w10.alloc (.cells (Rcd.none_.V none 0) 32)).heap[w10.heap.size]? = some (.cells (Rcd.none_.V none 0) 32 (0, 0)) := block_alloc
        clear x10 b10 l10 J10 hW10
        have cz : W10.cell? ⟨w10.heap.size, 0, none⟩ = some (.int .i64 0) := (cell_at (HJ10.out.recs ⟨w10.heap.size, Rcd.none_, a10, c10⟩ (by simp)).blk).trans rfl
        go_wp2_with (first
          | (guard_target = wpList _ _ _ ({ dst := none, op := Op.store _ _ _, type := _, pos := _, after := _, guard := none } :: _) _ _; have hb0 := hbs; clear hbs; refine wpList_store_whole rfl 32 _ _ rfl w10.heap.size rfl (Rcd.none_.V a10 c10) _ rfl 32 (agg_rec _ _ _) hb0 rfl (V_one _ _ _) ?_; rw [setRow_alloc, HW10.out])
          | (go_at_call 3; fail))
        have HX11 := hid HJ10.out.ext
        refine (journalRuns_c W10 (HG.out.only HX11.out (fun x => x))).mono ?_
        rintro e w12 ⟨rfl, x12⟩
        have HX12 := hid (Ext.trans HX11.out x12)
        clear x12
        go_wp2
        go_ret
        exact ⟨rfl, HX12.out⟩
end Go.Proofs.YtmjembnciffgfaaDoor

/- The statement JournalCut, as its tied card: for every input the call of stavelaw10's JournalCut answers true, and its arguments read behind it as they read before. No condition of our own. -/
namespace Go.Proofs.YtmjembnciffgfaaDoor.journalCut
open Go.ChangeShapes Go.WideShapes Go.ChangeAt Go.RowKit
open Go.ChangeMaps (open_string shut_string)
set_option linter.unusedVariables false
theorem laidOut : laidOutB Tryd.prog = true := by kernel_rfl
theorem walk (a0 : Int) (a1 : Int) (a2 : Int) (a3 : Int) (a4 : Int) (a5 : Option Addr) (len5 cap5 : Nat) (z5 : List Int) (w : World) (hg : EtLaid w) (w0 : (Lit.int .i64 a0).wf = true) (w1 : (Lit.int .i64 a1).wf = true) (w2 : (Lit.int .i64 a2).wf = true) (w3 : (Lit.int .i64 a3).wf = true) (w4 : (Lit.int .i64 a4).wf = true) (w5 : IsRow .u64 w a5 len5 cap5 z5) :
    Calls Tryd.prog 7 #[.int .i64 a0, .int .i64 a1, .int .i64 a2, .int .i64 a3, .int .i64 a4, .slice a5 len5 cap5] w fun e w' => e = .returned (.bool true) ∧ Below w.heap.size w w' :=
  (journalCut_c a0 a1 a2 a3 a4 a5 len5 cap5 z5 w hg w5).mono fun _ _ ⟨he, hx⟩ => ⟨he, hx.below⟩
set_option maxRecDepth 100000 in
theorem lifted (os : Os) (started : os.Started) (H : Type) (enc : TypeId × Value → H) :
    ReturnsInHanded {} Tryd.checked os 7 .any (fun w args => (Rows.journalCutSpec.pre enc Tryd.prog Tryd.f7 [] false w args ∧ laidMetH Tryd.prog theLaid w) ∧ sizedMet enc Tryd.prog Tryd.f7 (OpenSpec.ofChange Rows.journalCutSpec) false w args)
      (Rows.journalCutSpec.post enc Tryd.prog Tryd.f7 false true false false) := by
  refine returnsInHanded_of_change_and (C := Tryd.checked) (X := fun w _ => laidMetH Tryd.prog theLaid w) (fun _ _ _ hh h => h.of_heap hh) hOwn started (by kernel_rfl) Tryd.func7
    (ChangeSpec.witness_at (enc := enc) (C := Tryd.checked) (os := os) (X := fun w _ => laidMetH Tryd.prog theLaid w) false (laidWorld os) #[.int .i64 0, .int .i64 0, .int .i64 0, .int .i64 0, .int .i64 0, .slice none 0 0] 8 rfl (by kernel_rfl) (by kernel_rfl) (by kernel_rfl) (by kernel_rfl) (by kernel_rfl) (laidWorld_met os _)) ?_
  intro W base args ds gs before hval0 hW _ _ hL _
  have hval : ∀ (j : Nat) t v, Tryd.f7.params[j]? = some t → args[j]? = some v → Value.okWide Tryd.prog W .any base t v := hval0
  have hW' := hW
  obtain ⟨p, q, hA0, hV, rfl, hfz, hnd⟩ := hW
  have hA : DataW.TrodAll enc Tryd.prog W 0 (fun _ => true) true Tryd.f7.params.toList args.toList ds p := hA0
  rw [Tryd.params7] at hA hval
  obtain ⟨v0, vs0, d0, ds0, p0, q0, hargs, rfl, rfl, h0, r0⟩ := trodAll_cons hA
  obtain ⟨v1, vs1, d1, ds1, p1, q1, rfl, rfl, rfl, h1, r1⟩ := trodAll_cons r0
  obtain ⟨v2, vs2, d2, ds2, p2, q2, rfl, rfl, rfl, h2, r2⟩ := trodAll_cons r1
  obtain ⟨v3, vs3, d3, ds3, p3, q3, rfl, rfl, rfl, h3, r3⟩ := trodAll_cons r2
  obtain ⟨v4, vs4, d4, ds4, p4, q4, rfl, rfl, rfl, h4, r4⟩ := trodAll_cons r3
  obtain ⟨v5, vs5, d5, ds5, p5, q5, rfl, rfl, rfl, h5, r5⟩ := trodAll_cons r4
  obtain ⟨rfl, rfl, rfl⟩ := trodAll_nil r5
  obtain rfl : args = #[v0, v1, v2, v3, v4, v5] := by cases args; simp_all
  obtain ⟨rfl, rfl⟩ := trodVars_none hV
  obtain ⟨a0, rfl, rfl, rfl, w0⟩ := open_int Tryd.underlying3 (hval 0 3 v0 rfl rfl) h0
  obtain ⟨a1, rfl, rfl, rfl, w1⟩ := open_int Tryd.underlying3 (hval 1 3 v1 rfl rfl) h1
  obtain ⟨a2, rfl, rfl, rfl, w2⟩ := open_int Tryd.underlying3 (hval 2 3 v2 rfl rfl) h2
  obtain ⟨a3, rfl, rfl, rfl, w3⟩ := open_int Tryd.underlying3 (hval 3 3 v3 rfl rfl) h3
  obtain ⟨a4, rfl, rfl, rfl, w4⟩ := open_int Tryd.underlying3 (hval 4 3 v4 rfl rfl) h4
  obtain ⟨a5, len5, cap5, rfl⟩ := okWide_slice Tryd.underlying55 (hval 5 55 v5 rfl rfl)
  have k5 := h5
  have lt5 : ∀ x ∈ p5, x.block < W.heap.size := by obtain ⟨m, hm⟩ := k5; exact DataW.trod_lt m _ _ _ hm
  obtain ⟨z5, w5⟩ : ∃ zs, IsRow .u64 W a5 len5 cap5 zs := by
    obtain ⟨fuel, hf⟩ := h5
    rcases open_ints Tryd.underlying55 Tryd.underlying59 (by kernel_rfl) hf with ⟨hcs, _⟩ | ⟨x, l, c, zs, hcs, _, hl, hm, hz, _, hcell, hwz⟩
    · simp [Value.cells] at hcs
      obtain ⟨rfl, rfl, rfl⟩ := hcs
      exact ⟨[], .inl ⟨rfl, rfl, rfl, rfl⟩⟩
    · simp [Value.cells] at hcs
      obtain ⟨rfl, rfl, rfl⟩ := hcs
      exact ⟨zs, .inr ⟨_, rfl, hl, hm, by simpa using hz, hcell, hwz⟩⟩
  have hg := etLaid_of hL
  clear hA0 hval0
  simp only [List.append_nil] at hW'
  refine (walk a0 a1 a2 a3 a4 a5 len5 cap5 z5 W hg w0 w1 w2 w3 w4 w5).mono fun e W' ⟨he, bel⟩ => ?_
  subst he
  exact ⟨_, rfl, _, _, _, [], _, [], hW', trodAll_mk1 (shut_bool Tryd.underlying4 _), (trodAll_cons_mk (shut_int Tryd.underlying3 w0) (trodAll_cons_mk (shut_int Tryd.underlying3 w1) (trodAll_cons_mk (shut_int Tryd.underlying3 w2) (trodAll_cons_mk (shut_int Tryd.underlying3 w3) (trodAll_cons_mk (shut_int Tryd.underlying3 w4) (trodAll_cons_mk (Below.trod laidOut (by kernel_rfl) (of_decide_eq_true (by kernel_rfl)) k5 bel lt5) trodAll_mk0)))))), rfl, bel.frame _, fun h => by cases h⟩
theorem over : Rows.JournalCutSaid :=
  OpenClaim.holds_of_wide 7 Tryd.f7 rfl rfl rfl rfl rfl rfl rfl ⟨rfl, rfl, rfl, rfl, rfl⟩ rfl rfl rfl rfl rfl (by kernel_rfl) Tryd.func7 (by kernel_rfl)
    (of_decide_eq_true (by kernel_rfl)) (by unfold Func.isWrapper; first | (rw [if_pos (by decide +kernel)]; kernel_rfl) | (rw [if_neg (by decide +kernel)]; exact ⟨rfl, rfl⟩))
    (fun os started H enc _ => lifted os started H enc)
theorem proved : Rows.JournalCutCardSaid :=
  Claim7.holds_tied_plain_at .later [] [.handle] true (true, "24e5812b948f2c9b85d201dc8badf4eaee7fb8c9a31ded879c271ad3f1c97e3e") true
    over (fun _ h => by cases h) (by kernel_rfl) (fun _ h => by cases h) journalCut_row_tie rfl ⟨rfl, rfl⟩ (by kernel_rfl) rfl
    (fun f fn hf hfn => by
      obtain rfl : f = 7 := Option.some.inj ((show Tryd.prog.funcNamed "stave/stavelaw10.JournalCut" = some 7 by kernel_rfl).symm.trans hf) |>.symm
      obtain rfl : fn = Tryd.f7 := (Option.some.inj (Tryd.func7.symm.trans hfn)).symm
      exact ⟨by kernel_rfl, fun j t ht => by
        rw [Tryd.params7] at ht
        rcases j with _ | _ | _ | _ | _ | _ | j
        · simp at ht; subst ht; kernel_rfl
        · simp at ht; subst ht; kernel_rfl
        · simp at ht; subst ht; kernel_rfl
        · simp at ht; subst ht; kernel_rfl
        · simp at ht; subst ht; kernel_rfl
        · simp at ht; subst ht; kernel_rfl
        · simp at ht⟩)
    (by kernel_rfl)
#print axioms proved
end Go.Proofs.YtmjembnciffgfaaDoor.journalCut
