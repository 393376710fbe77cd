/- Texts of one proof, joined: KFix, RowInts, RowBits, RackArm, VolOpened, VolX, VolNum. -/
import Derived.Test.YtbdfjiedceaoiaaGreatDoorQH
import Derived.Test.YtbdfjiedceaoiaaGreatDoorQA
import Derived.Test.YtbdfjiedceaoiaaGreatDoorRows
import Derived.RowKit
import Derived.Test.YtbdfjiedceaoiaaGreatDoorQP
import Derived.Test.YtbdfjiedceaoiaaGreatDoorQF
import Derived.Test.YtbdfjiedceaoiaaGreatDoorQT
import Derived.Test.YtbdfjiedceaoiaaGreatDoorQJ
import Derived.Test.YtbdfjiedceaoiaaGreatDoorQV
import Derived.Test.YtbdfjiedceaoiaaGreatDoorQS
set_option linter.unusedVariables false
set_option linter.unusedSimpArgs false
namespace Go.Proofs.YtbdfjiedceaoiaaGreatDoor
set_option linter.unusedVariables false
open Go Go.RowKit
theorem built_cfg3 (i k s t : Int) : Tryz.prog.built 24 [(0, .int .i64 i), (1, .int .i64 k), (3, .int .i64 s), (4, .int .i64 t)] = some (Cfg.A ⟨i, k, 0, s, t⟩) := by kernel_rfl
theorem Cfg.A_n (c : Cfg) (x : Int) : (Cfg.A c).setIfInBounds 2 (.int .i64 x) = Cfg.A { c with n := x } := by
 rw [Cfg.A_def, Cfg.A_def]; rfl
def KCfgPost (w : World) (c : Cfg) (e : Ending) (w' : World) : Prop := e = .returned (.agg (Cfg.A c)) ∧ Ext w w'
def KCBlk (w : World) (g : Nat) (c : Cfg) : Prop := w.heap[g]? = some (.cells (Cfg.A c) 24 (0, 0))
def keepFixed (k n stripes slots : Int) : Cfg := ⟨7, within k 1 4, within n (within k 1 4) 6, stripes, slots⟩
set_option maxRecDepth 100000 in
set_option maxHeartbeats 1000000 in
theorem kfixed_c (k n stripes slots : Int) (w : World) : Calls Tryz.prog 8 #[.int .i64 k, .int .i64 n, .int .i64 stripes, .int .i64 slots] w (KCfgPost w (keepFixed k n stripes slots)) := by
 have hzc := Zcj
 have HCS := hid Cfg.A_size
 have HK : Hid (keepFixed k n stripes slots = ⟨7, within k 1 4, within n (within k 1 4) 6, stripes, slots⟩) := hid rfl
 rw [HK.out]
 clear HK
 obtain ⟨a0, a1⟩ := Zbe k 1 4 (by omega)
 have HWK := hid (Zb8 k 1 4)
 generalize within k 1 4 = kk at *
 have hb3 := built_cfg3
 go_enter Tryz.func8, Tryz.ntmps8
 go_wp2_with fail
 refine (HWK.out _ (by omega) (by omega) (by omega)).mono ?_
 rintro e w2 ⟨rfl, rfl⟩
 generalize hst : stripes = st at *
 generalize hsl : slots = sl at *
 clear hst hsl
 have e1 : (w.alloc (.cells (Cfg.A Cfg.zero) 24)).heap.size = w.heap.size + 1 := by simp
 have hbs : ((w.alloc (.cells (Cfg.A Cfg.zero) 24)).alloc (.cells (Cfg.A Cfg.zero) 24)).heap[w.heap.size + 1]? = some (.cells (Cfg.A Cfg.zero) 24 (0, 0)) := by rw [← e1]; exact heap_alloc_new _ _
 have HB3 : Hid (Tryz.prog.built 24 [(0, .int .i64 7), (1, .int .i64 kk), (3, .int .i64 st), (4, .int .i64 sl)] = some (Cfg.A ⟨7, kk, 0, st, sl⟩)) := hid (built_cfg3 7 kk st sl)
 clear hb3
 have c1 : (((w.alloc (.cells (Cfg.A Cfg.zero) 24)).alloc (.cells (Cfg.A Cfg.zero) 24)).setRow (w.heap.size + 1) (Cfg.A ⟨7, kk, 0, st, sl⟩)).cell? ⟨w.heap.size + 1, 1, none⟩ = some (.int .i64 kk) := (Zaf (setRow_heap _ _ _ _ _ _ hbs)).trans (Cfg.A1 _)
 go_wp2_with (first
  | (refine Zaq rfl 24 _ rfl (Cfg.A ⟨7, kk, 0, st, sl⟩) ?_ ?_; (simp only [List.map_toArray, List.map_cons, List.map_nil, Act.eval]; simp only [Array.getD_eq_getD_getElem?, List.getElem?_toArray, List.getElem?_cons_succ, List.getElem?_cons_zero, Option.getD_some]; exact HB3.out))
  | (refine Zaa rfl 24 _ _ rfl (w.heap.size + 1) rfl (Cfg.A ⟨7, kk, 0, st, sl⟩) _ rfl 24 ?_ hbs ?_ ?_ ?_; (rw [HCS.out]; exact aggCfg); (rw [HCS.out, HCS.out]); exact Cfg.A_one _))
 have HO : Hid (KCBlk (((w.alloc (.cells (Cfg.A Cfg.zero) 24)).alloc (.cells (Cfg.A Cfg.zero) 24)).setRow (w.heap.size + 1) (Cfg.A ⟨7, kk, 0, st, sl⟩)) (w.heap.size + 1) ⟨7, kk, 0, st, sl⟩) := hid (setRow_heap _ _ _ _ _ _ hbs)
 have HR : Hid (KCBlk (((w.alloc (.cells (Cfg.A Cfg.zero) 24)).alloc (.cells (Cfg.A Cfg.zero) 24)).setRow (w.heap.size + 1) (Cfg.A ⟨7, kk, 0, st, sl⟩)) w.heap.size Cfg.zero) := hid (by
  have := (Zae ((w.alloc (.cells (Cfg.A Cfg.zero) 24)).alloc (.cells (Cfg.A Cfg.zero) 24)) (w.heap.size + 1) (Cfg.A ⟨7, kk, 0, st, sl⟩)).at (k := w.heap.size) (o := .cells (Cfg.A Cfg.zero) 24) (by rw [heap_alloc_old _ _ (by simp)]; exact heap_alloc_new _ _) (by omega)
  exact this)
 have HX : Hid (Ext w (((w.alloc (.cells (Cfg.A Cfg.zero) 24)).alloc (.cells (Cfg.A Cfg.zero) 24)).setRow (w.heap.size + 1) (Cfg.A ⟨7, kk, 0, st, sl⟩))) := hid (Ext.then (((Ext.refl w).alloc _).alloc _) (Zae _ _ _) (fun i hi => by omega))
 clear hbs c1 HB3
 generalize ((w.alloc (.cells (Cfg.A Cfg.zero) 24)).alloc (.cells (Cfg.A Cfg.zero) 24)).setRow (w.heap.size + 1) (Cfg.A ⟨7, kk, 0, st, sl⟩) = W at *
 refine (Zb8 n kk 6 W (by omega) (by omega) (by omega)).mono ?_
 rintro e w2 ⟨rfl, rfl⟩
 generalize within n kk 6 = nn at *
 have c2 : W.cell? ⟨w.heap.size + 1, 2, none⟩ = some (.int .i64 0) := (Zaf HO.out).trans (Cfg.A2 _)
 have f2 : W.frozen? ⟨w.heap.size + 1, 2, none⟩ = false := Za2 HO.out
 have HO2 : Hid ((W.setCell ⟨w.heap.size + 1, 2, none⟩ (.int .i64 nn)).heap[w.heap.size + 1]? = some (.cells (Cfg.A ⟨7, kk, nn, st, sl⟩) 24 (0, 0))) := hid (by
  have := Zax HO.out (i := 2) (.int .i64 nn)
  rw [Cfg.A_n] at this
  exact this)
 have HR2 : Hid ((W.setCell ⟨w.heap.size + 1, 2, none⟩ (.int .i64 nn)).heap[w.heap.size]? = some (.cells (Cfg.A Cfg.zero) 24 (0, 0))) := hid ((Zan _ (by omega)).trans HR.out)
 have HX2 : Hid (Ext w (W.setCell ⟨w.heap.size + 1, 2, none⟩ (.int .i64 nn))) := hid (Only.setCell (F := fun _ => False) HX.out (.inl (by show _ ≤ w.heap.size + 1; omega)) _)
 go_wp2_with (first
  | (refine Zac rfl 24 _ rfl ⟨w.heap.size + 1, 0, none⟩ rfl (Cfg.A ⟨7, kk, nn, st, sl⟩) (Zat _) (Zah HO2.out) ?_)
  | (refine Zaa rfl 24 _ _ rfl w.heap.size rfl (Cfg.A ⟨7, kk, nn, st, sl⟩) _ rfl 24 ?_ HR2.out ?_ ?_ ?_; (rw [HCS.out]; exact aggCfg); (rw [HCS.out, HCS.out]); exact Cfg.A_one _))
 refine bodyPost_ret (results_cell_row Tryz.results8 _ _ w.heap.size _ (Cfg.A ⟨7, kk, nn, st, sl⟩) _ _ rfl (setRow_heap _ _ _ _ _ _ HR2.out) Tryz.underlying24 rfl (by rw [HCS.out]; exact aggCfg.2)) rfl ?_
 exact ⟨rfl, Ext.then HX2.out (Zae _ _ _) (fun i hi => by omega)⟩
theorem keepFixed_good (k n stripes slots : Int) (h1 : 1 ≤ stripes) (h2 : stripes ≤ 64) (h3 : 1 ≤ slots) (h4 : slots ≤ 4) : (keepFixed k n stripes slots).Good := by
 obtain ⟨a0, a1⟩ := Zbe k 1 4 (by omega)
 obtain ⟨b0, b1⟩ := Zbe n (within k 1 4) 6 (by omega)
 exact ⟨by show (1 : Int) ≤ 7; omega, by show (7 : Int) ≤ 2147483647; omega, by show within n (within k 1 4) 6 ≤ 8; omega, a0, b0, h1, h2, h3, h4⟩
theorem keepFixed_k4 (k n stripes slots : Int) : (keepFixed k n stripes slots).k ≤ 4 := (Zbe k 1 4 (by omega)).2
theorem keepFixed_n6 (k n stripes slots : Int) : (keepFixed k n stripes slots).n ≤ 6 := by
 obtain ⟨a0, a1⟩ := Zbe k 1 4 (by omega)
 exact (Zbe n (within k 1 4) 6 (by omega)).2
theorem sectors_nat (c : Cfg) (h : c.Good) : ∃ m : Nat, c.sectors = (m : Int) ∧ 1 ≤ m ∧ m ≤ 128 := by
 have b0 : 0 ≤ c.slots * c.k := Int.mul_nonneg (by have := h.sl0; omega) (by have := h.k0; omega)
 have b1 : c.slots * c.k ≤ 4 * 8 := Int.mul_le_mul h.sl1 (by have := h.k1; have := h.n1; omega) (by have := h.k0; omega) (by omega)
 have b2 := h.st0
 have b3 := h.st1
 have e : c.sectors = 1 + c.slots * c.k + c.stripes := rfl
 refine ⟨c.sectors.toNat, ?_, ?_, ?_⟩ <;> omega
theorem IsRow.ints {w : World} {a : Option Addr} {len cap : Nat} {z : List Int} (h : IsRow .i64 w a len cap z) : ∀ i, i < len → ∃ b off v, a = some ⟨b, off, none⟩ ∧ w.cell? ⟨b, off + i, none⟩ = some (.int .i64 v) := by
 intro i hi
 rcases h with ⟨rfl, rfl, rfl, rfl⟩ | ⟨x, rfl, hlc, hm, hz, hc, hw⟩
 ·
  omega
 ·
  have h1 := hc i (by omega)
  obtain ⟨b, off, sp⟩ := x
  rcases sp with _ | sp
  ·
   have e : (⟨b, off, none⟩ : Addr).add i = ⟨b, off + i, none⟩ := by unfold Addr.add; split <;> simp_all
   rw [e] at h1
   exact ⟨b, off, _, rfl, h1⟩
  ·
   exfalso
   have h0 := hc 0 (by omega)
   unfold World.cell? Addr.add at h0
   split at h0 <;> simp_all
theorem IsRow.low {w : World} {ik : IntKind} {a : Option Addr} {len cap : Nat} {z : List Int} (h : IsRow ik w a len cap z) : ∀ p, a = some p → 0 < len → p.block < w.heap.size := fun p hp hn => by
 rcases h with ⟨rfl, rfl, rfl, rfl⟩ | ⟨x, rfl, hlc, hm, hz, hc, hw⟩
 ·
  cases hp
 ·
  cases hp
  have h0 := hc 0 (by omega)
  have := World.block_lt_of_cell? w _ h0
  unfold Addr.add at this
  split at this <;> simp_all
theorem IsRow.bits {w : World} {a : Option Addr} {len cap : Nat} {z : List Int} (h : IsRow .u64 w a len cap z) : BitsAt w a len ((z.take len).map Int.toNat) := by
 rcases h with ⟨rfl, rfl, rfl, rfl⟩ | ⟨x, rfl, hlc, hm, hz, hc, hw⟩
 ·
  exact ⟨rfl, by simp, .inl rfl⟩
 ·
  have hb : ∀ i, i < z.length → 0 ≤ z.getD i 0 ∧ z.getD i 0 ≤ 18446744073709551615 := fun i hi => by
   have e : z.getD i 0 = z[i] := by simp [hi]
   rw [e]; exact bounds_u64 (hw _ (List.getElem_mem hi))
  refine ⟨by simp; omega, fun y hy => ?_, ?_⟩
  ·
   obtain ⟨q, hq, rfl⟩ := List.mem_map.1 hy
   have := bounds_u64 (hw q (List.mem_of_mem_take hq)); omega
  ·
   by_cases h0 : len = 0
   ·
    exact .inl h0
   ·
    have h1 := hc 0 (by omega)
    obtain ⟨b, off, sp⟩ := x
    rcases sp with _ | sp
    ·
     refine .inr ⟨b, off, rfl, fun i hi => ?_⟩
     have := hc i (by omega)
     have e : (⟨b, off, none⟩ : Addr).add i = ⟨b, off + i, none⟩ := by unfold Addr.add; split <;> simp_all
     rw [e] at this
     rw [this]
     have h2 := hb i (by omega)
     have e3 : ((z.take len).map Int.toNat).getD i 0 = (z.getD i 0).toNat := by
      have : i < z.length := by omega
      simp [List.getD_eq_getElem?_getD, List.getElem?_take, hi, this]
     rw [e3]
     congr 2; omega
    ·
     exfalso
     unfold World.cell? Addr.add at h1
     split at h1 <;> simp_all
theorem rarm_c {w : World} {K : RSk} {R : Rck} (h : RackRep w K R) (n : Int) (hn : n ≤ 9223372036854775807) :
  Calls Tryz.prog 13 #[.pointer (some ⟨K.r, 0, none⟩), .int .i64 n] w fun e w' => e = .returned (.tuple #[]) ∧ RackRep w' K (R.arm n) ∧ Only (fun b => b = K.r) w w' := by
 have c2 := h.cell2
 have f2 := h.free 2
 by_cases hp : -1 ≤ n
 ·
  have e : max n (-1) = n := by omega
  have HF : Hid (RackRep (w.setCell ⟨K.r, 2, none⟩ (.int .i64 n)) K (R.arm n)) := hid (by unfold Rck.arm; rw [e]; exact h.set (R' := { R with fuse := n }) rfl ⟨hp, hn⟩ rfl)
  have hmax : (if n < -1 then -1 else n) = n := if_neg (by omega)
  have hmax2 : (if (-1 : Int) > n then -1 else n) = n := if_neg (by omega)
  clear h e
  go_enter Tryz.func13, Tryz.ntmps13
  go_wp2
  go_end0
  exact ⟨rfl, HF.out, Zbn _ _ _ _⟩
 ·
  have e : max n (-1) = -1 := by omega
  have HF : Hid (RackRep (w.setCell ⟨K.r, 2, none⟩ (.int .i64 (-1))) K (R.arm n)) := hid (by unfold Rck.arm; rw [e]; exact h.set (R' := { R with fuse := -1 }) rfl ⟨by simp, by simp⟩ rfl)
  have hmax : (if n < -1 then -1 else n) = -1 := if_pos (by omega)
  clear h e
  go_enter Tryz.func13, Tryz.ntmps13
  go_wp2
  go_end0
  exact ⟨rfl, HF.out, Zbn _ _ _ _⟩
theorem at_arm {S : Nat → Prop} {w : World} {r : Nat} {R : Rck} (h : RackAt S w r R) (n : Int) (hn : n ≤ 9223372036854775807) :
  Calls Tryz.prog 13 #[.pointer (some ⟨r, 0, none⟩), .int .i64 n] w fun e w' => e = .returned (.tuple #[]) ∧ RackAt S w' r (R.arm n) ∧ Keeps S w w' := by
 obtain ⟨h0, K, rfl, h2, h3⟩ := h
 refine (rarm_c h2 n hn).mono ?_
 rintro e w' ⟨rfl, h4, h5⟩
 exact ⟨rfl, (RackTo.asked h4 h5).at_ h0 h3⟩
attribute [local irreducible] wpSQ
structure OpenedPost (w : World) (C : Cfg) (R : Rck) (e : Ending) (w' : World) (r g : Nat) (T : Nat → Prop) : Prop where
 ret : e = .returned (.tuple #[.pointer (some ⟨r, 0, none⟩), .pointer (some ⟨g, 0, none⟩)])
 ve : VE w w' T r R
 vol : VolAt w' g r ⟨C, 1, false⟩
 gT : T g
 new : w.heap.size ≤ g
set_option maxRecDepth 100000 in
set_option maxHeartbeats 2000000 in
theorem opened_c (C : Cfg) (hc : C.Good) {R1 R2 : Rck} (n m : Nat) (hn : C.n = (n : Int)) (hm : C.sectors = (m : Int)) (hm1 : 1 ≤ m) (hm2 : m ≤ 128) (e1 : (Rck.new n m).vmake C = (none, R1)) (e2 : R1.vopen = (none, R2, C, 1)) (w : World) :
  Calls Tryz.prog 9 #[.agg (Cfg.A C)] w fun e w' => ∃ r g T, OpenedPost w C R2 e w' r g T := by
 have hzc := Zcj
 have HCS := hid Cfg.A_size
 have HGD := hid hc
 have HN := hid hn; have HM := hid hm
 have HE1 := hid e1; have HE2 := hid e2
 have n1 : 1 ≤ n := by have := hc.k0; have := hc.k1; omega
 have n8 : n ≤ 8 := by have := hc.n1; omega
 obtain ⟨W1, hW1⟩ : ∃ W, w.alloc (.cells (Cfg.A C) 24) = W := ⟨_, rfl⟩
 have X1 := hid (show Ext w W1 from hW1 ▸ (Ext.refl w).alloc _)
 have HC1 := hid (show W1.heap[w.heap.size]? = some (.cells (Cfg.A C) 24 (0, 0)) from hW1 ▸ heap_alloc_new _ _)
 have xd : Ext W1 W1.drew := (Ext.refl W1).drew
 have HXD := hid xd
 have c2y : ∀ y : SW Ext W1.drew, y.w.cell? ⟨w.heap.size, 2, none⟩ = some (.int .i64 n) := fun y => (Zaf ((Ext.trans xd y.ext).at HC1.out)).trans ((Cfg.A2 C).trans (by rw [HN.out]))
 have lc : Hid (∀ y : SW Ext W1.drew, ∀ j u, (Cfg.A C).toList[j]? = some u → y.w.cell? ((⟨w.heap.size, 0, none⟩ : Addr).add j) = some u) := hid fun y => Zah ((Ext.trans xd y.ext).at HC1.out)
 have HW1 := hid hW1
 clear hc hn hm e1 e2 xd hW1
 go_enter Tryz.func9, Tryz.ntmps9
 go_wp2_with fail
 first | rw [HW1.out] | skip
 refine Zao (S := Ext) (.one [0, 1, 2] 3 (.one [] 4 (.fin [5, 6, 7, 8, 9]))) (by kernel_rfl) (by kernel_rfl) (fun _ _ d _ _ h => by cases d <;> exact h) ?_
 rw [wpS]
 simp only [opsAt, opA, opB, opC, opD, opE, opF, opG]
 iterate 2 ((refine Zab (fun K hK => ?_); go_simp; refine hK _ ?_; clear hK K))
 refine Zak 24 _ rfl ⟨w.heap.size, 0, none⟩ rfl (Cfg.A C) rfl (Zat C) lc.out ?_
 refine Zag ?_
 intro V2 hV2
 have X2 := hid (Ext.trans HXD.out hV2)
 clear c2y lc hV2 HXD
 refine Zaw fun Q hQ => ?_
 go_wp2_with fail
 refine (ksectors_c C HGD.out V2).mono ?_
 rintro e V3 ⟨rfl, x3⟩
 rw [HM.out]
 have X3 := hid x3
 clear x3
 go_wp2
 refine hQ _ _ X3.out ?_
 clear hQ Q
 rw [wpS]
 simp only [opsAt, opA, opB, opC, opD, opE, opF, opG]
 refine Zag ?_
 intro V4 hV4
 have X4 := hid (Ext.trans X2.out (Ext.trans X3.out hV4))
 clear hV4
 refine Zaw fun Q hQ => ?_
 go_wp2_with fail
 refine (at_new n m n1 n8 hm1 hm2 V4).mono ?_
 rintro e V5 ⟨r, rfl, h5, x5⟩
 have H5 := hid h5; have X5 := hid x5
 clear h5 x5
 go_wp2
 refine hQ _ _ X5.out ?_
 clear hQ Q
 rw [wpS]
 simp only [opsAt, opA, opB, opC, opD, opE, opF, opG]
 iterate 5 ((refine Zab (fun K hK => ?_); go_simp; refine hK _ ?_; clear hK K))
 refine Zag ?_
 intro V6 hV6
 have XA := hid (Ext.trans X1.out X4.out)
 have HV6 := hid (show VE w V6 (fun b => b < V4.heap.size) r (Rck.new n m) from ⟨H5.out.ext hV6, Ext.trans XA.out (Ext.trans X5.out hV6), fun b hb => Nat.lt_of_lt_of_le hb XA.out.size⟩)
 have HC6 := hid ((Ext.trans X4.out (Ext.trans X5.out hV6)).at HC1.out)
 clear hV6
 go_wp2_with (guard_target = wpList _ _ _ (⟨some _, Op.load _ _, _, _, _, some _⟩ :: _) _ _; refine Zay 24 _ rfl ⟨w.heap.size, 0, none⟩ rfl (Cfg.A C) rfl (Zat C) (Zah HC6.out) ?_)
 refine (vmake_c HV6.out.rack C).mono ?_
 rintro e w7 ⟨rfl, h7, k7⟩
 rw [HE1.out] at h7 ⊢
 simp only [oErr]
 have HV7 := hid (HV6.out.keep h7 k7)
 clear h7 k7 HV6 HC6
 go_wp2_with fail
 refine (vopen_c HV7.out.rack).mono ?_
 rintro e w8 h8
 rw [HE2.out] at h8
 rcases h8 with ⟨_, q, _⟩ | ⟨_, g, T, hok⟩
 ·
  cases q
 obtain rfl := hok.ret
 have HP := hid (show OpenedPost w C R2 (.returned (.tuple #[.pointer (some ⟨r, 0, none⟩), .pointer (some ⟨g, 0, none⟩)])) w8 r g T from ⟨rfl, HV7.out.opened hok, hok.vol, hok.gT, Nat.le_trans HV7.out.ext.size hok.new⟩)
 clear hok HV7
 go_wp2
 go_ret2
 exact ⟨_, _, _, HP.out⟩
end Go.Proofs.YtbdfjiedceaoiaaGreatDoor
namespace Go.Proofs.YtbdfjiedceaoiaaGreatDoor
set_option linter.unusedVariables false
open Go Go.RowKit
structure VX (w0 w : World) (S : Nat → Prop) (r : Nat) (R : Rck) (gc : Nat) (c : Cfg) (g : Nat) (v : Vol) : Prop where
 ve : VE w0 w S r R
 cfg : CBlkAt w gc c
 cfgS : S gc
 vol : VolAt w g r v
 gS : S g
 gw : w0.heap.size ≤ g
 ne : gc ≠ g
namespace VX
variable {w0 w w' : World} {S T : Nat → Prop} {r g gc : Nat} {R R' : Rck} {c : Cfg} {v v' : Vol}
theorem rack (h : VX w0 w S r R gc c g v) : RackAt S w r R := h.ve.rack
theorem ext (h : VX w0 w S r R gc c g v) : Ext w0 w := h.ve.ext
theorem more (h : VX w0 w S r R gc c g v) (e : Ext w w') : VX w0 w' S r R gc c g v := ⟨h.ve.more e, e.at h.cfg, h.cfgS, h.vol.ext e, h.gS, h.gw, h.ne⟩
theorem wide (h : VX w0 w S r R gc c g v) (e : Ext w w') : VX w0 w' (wideS S w w') r R gc c g v := ⟨h.ve.wide e, e.at h.cfg, .inl h.cfgS, h.vol.ext e, .inl h.gS, h.gw, h.ne⟩
theorem keep (h : VX w0 w S r R gc c g v) (hr : RackAt S w' r R') (k : Keeps S w w') : VX w0 w' S r R' gc c g v := ⟨h.ve.keep hr k, k.at h.cfg fun q => q h.cfgS, h.cfgS, h.vol.keep k h.gS, h.gS, h.gw, h.ne⟩
theorem commit {q : Option Err × Rck × Vol} {e : Ending} (h : VX w0 w S r R gc c g v) (hc : VCommitPost S w r g q e w') : VX w0 w' S r q.2.1 gc c g q.2.2 :=
 ⟨h.ve.commit h.gw hc, hc.only.at h.cfg fun q => q.elim (fun z => z h.cfgS) h.ne, h.cfgS, hc.vol, h.gS, h.gw, h.ne⟩
theorem opened {e : Ending} {g' : Nat} (h : VX w0 w S r R gc c g v) (ho : VOpenOk S w r R' v' e w' g' T) : VX w0 w' T r R' gc c g' v' :=
 ⟨h.ve.opened ho, ho.keep.at h.cfg fun q => q h.cfgS, ho.low gc h.cfgS, ho.vol, ho.gT, Nat.le_trans h.ext.size ho.new, fun q => by have := lt_of_block h.cfg; have := ho.new; omega⟩
theorem poke {F : Nat → Prop} (h : VX w0 w S r R gc c g v) (e : Only F w w') (hF : ∀ b, F b → S b ∧ w0.heap.size ≤ b ∧ b ≠ gc ∧ b ≠ g) : VX w0 w' S r R gc c g v :=
 ⟨⟨h.ve.rack.only e fun b hb => (hF b hb).1, Ext.then h.ve.ext e fun i hi hf => by have := (hF i hf).2.1; omega, h.ve.low⟩, e.at h.cfg fun hf => (hF _ hf).2.2.1 rfl, h.cfgS, e.at h.vol fun hf => (hF _ hf).2.2.2 rfl, h.gS, h.gw, h.ne⟩
theorem setvol (h : VX w0 w S r R gc c g v) (e : Only (fun b => b = g) w w') (hv : VolAt w' g r v') : VX w0 w' S r R gc c g v' :=
 ⟨⟨h.ve.rack.only e fun b hb => by have hb : b = g := hb; rw [hb]; exact h.gS, Ext.then h.ve.ext e fun i hi hf => by have hf : i = g := hf; have := h.gw; omega, h.ve.low⟩, e.at h.cfg fun hf => h.ne hf, h.cfgS, hv, h.gS, h.gw, h.ne⟩
theorem less (h : VX w0 w S r R gc c g v) (hT : ∀ b, T b → S b) (hl : ∀ b, b < w0.heap.size → T b) (hc : T gc) (hg : T g) : VX w0 w T r R gc c g v := ⟨⟨h.ve.rack.less hT, h.ve.ext, hl⟩, h.cfg, hc, h.vol, hg, h.gw, h.ne⟩
theorem c1 (h : VX w0 w S r R gc c g v) : w.cell? ⟨gc, 1, none⟩ = some (.int .i64 c.k) := (Zaf h.cfg).trans (by rw [Cfg.A1])
theorem c2 (h : VX w0 w S r R gc c g v) : w.cell? ⟨gc, 2, none⟩ = some (.int .i64 c.n) := (Zaf h.cfg).trans (by rw [Cfg.A2])
end VX
def GAt (w : World) (b : Nat) (G : Nat → Int) : Prop := ∃ C : Array Value, w.heap[b]? = some (.cells C 3 (0, 0)) ∧ C.size = 4 ∧ ∀ x, x < 4 → C[x]? = some (.int .i64 (G x))
namespace GAt
variable {w w' : World} {b : Nat} {G : Nat → Int}
theorem new (w : World) : GAt (w.alloc (.cells #[.int .i64 1, .int .i64 1, .int .i64 1, .int .i64 1] 3)) w.heap.size fun _ => 1 := ⟨_, heap_alloc_new _ _, rfl, fun x hx => by
 rcases x with _ | _ | _ | _ | x
 ·
  rfl
 ·
  rfl
 ·
  rfl
 ·
  rfl
 ·
  omega⟩
theorem only {F : Nat → Prop} (h : GAt w b G) (e : Only F w w') (hF : ¬ F b) : GAt w' b G := by
 obtain ⟨C, h1, h2, h3⟩ := h
 exact ⟨C, e.at h1 hF, h2, h3⟩
theorem ext (h : GAt w b G) (e : Ext w w') : GAt w' b G := h.only e fun x => x
theorem cell (h : GAt w b G) {x : Nat} (hx : x < 4) : w.cell? ⟨b, x, none⟩ = some (.int .i64 (G x)) := by
 obtain ⟨C, h1, h2, h3⟩ := h
 exact (Zaf h1).trans (h3 x hx)
theorem free (h : GAt w b G) (x : Nat) : w.frozen? ⟨b, x, none⟩ = false := by
 obtain ⟨C, h1, h2, h3⟩ := h
 exact Za2 h1
theorem set (h : GAt w b G) (s : Nat) (v : Int) : GAt (w.setCell ⟨b, s, none⟩ (.int .i64 v)) b fun x => if x = s then v else G x := by
 obtain ⟨C, h1, h2, h3⟩ := h
 refine ⟨C.setIfInBounds s (.int .i64 v), Zax h1 _, by rw [Array.size_setIfInBounds, h2], fun x hx => ?_⟩
 rw [Array.getElem?_setIfInBounds]
 by_cases e : s = x
 ·
  subst e
  show _ = some (Value.int .i64 (if s = s then v else G s))
  rw [if_pos rfl, if_pos (by omega), if_pos rfl]
 ·
  show _ = some (Value.int .i64 (if x = s then v else G x))
  rw [if_neg e, if_neg (fun q : x = s => e q.symm)]; exact h3 x hx
end GAt
end Go.Proofs.YtbdfjiedceaoiaaGreatDoor
namespace Go.Proofs.YtbdfjiedceaoiaaGreatDoor
set_option linter.unusedVariables false
theorem VH.start {c : Cfg} (hc : c.Good) (k4 : c.k ≤ 4) (n6 : c.n ≤ 6) {m : Nat} (hm : c.sectors ≤ (m : Int)) : ∃ R1 R2, (Rck.new c.n.toNat m).vmake c = (none, R1) ∧ R1.vopen = (none, R2, c, 1) ∧ VH R2 c m true (VH.jNew c) (VH.fNew c) ∧ VV c 1 (VH.jNew c) (VH.fNew c) := by
 obtain ⟨R1, e1, h1⟩ := (VH.new hc hm).make
 obtain ⟨R2, cur1, e2, h2, v2, hle⟩ := h1.opened k4 n6 (VH.vv_new hc)
 have hc1 : cur1 = 1 := by have := v2.cur; omega
 subst hc1
 exact ⟨R1, R2, e1, e2, h2, v2⟩
theorem VV.sfit {c : Cfg} {cur : Int} {j : Nat → Option Rcd} {f : Strs} (h : VV c cur j f) {s : Nat} {g : Int} {l : List (List Nat)} (e : f s = some (g, l)) (hs : s < c.stripes.toNat) : SFit c s g l := by
 obtain ⟨g', l', h1, h2, _⟩ := h.str s hs
 rw [e] at h1; cases h1; exact h2
structure Nums (R : Rck) (c : Cfg) (m : Nat) (i : Nat) (G : Nat → Int) : Prop where
 ex : ∃ j f, VH R c m true j f ∧ VV c (1 + (i : Int)) j f ∧ ∀ x, x < c.stripes.toNat → ∃ l, f x = some (G x, l)
namespace Nums
variable {R : Rck} {c : Cfg} {m i : Nat} {G : Nat → Int}
theorem start (h : VH R c m true (VH.jNew c) (VH.fNew c)) (v : VV c 1 (VH.jNew c) (VH.fNew c)) : Nums R c m 0 fun _ => 1 := ⟨_, _, h, v, fun x hx => ⟨_, by unfold VH.fNew; rw [if_pos hx]⟩⟩
theorem commit (h : Nums R c m i G) (k4 : c.k ≤ 4) (n6 : c.n ≤ 6) (hi : i < 1000) {s : Nat} (hs : s < c.stripes.toNat) {l : List (List Nat)} (hl : Cd.Blocks c.k.toNat 108 l) :
  ∃ R', Vol.commit ⟨c, 1 + (i : Int), false⟩ R (s : Int) l = (none, R', ⟨c, 2 + (i : Int), false⟩) ∧ Nums R' c m (i + 1) (fun x => if x = s then 2 + (i : Int) else G x) := by
 obtain ⟨j, f, h1, h2, h3⟩ := h.ex
 obtain ⟨R', slot, x, e, h4, h5⟩ := h1.commit k4 n6 h2 (by omega) hs hl
 rw [show 1 + (i : Int) + 1 = 2 + (i : Int) by omega] at e h4 h5
 refine ⟨R', e, ⟨_, _, h4, by rw [show 1 + ((i + 1 : Nat) : Int) = 2 + (i : Int) by omega]; exact h5, fun y hy => ?_⟩⟩
 by_cases q : y = s
 ·
  subst q; exact ⟨l, by rw [if_pos rfl]; exact Zbj _ _ _⟩
 ·
  obtain ⟨l', e'⟩ := h3 y hy
  exact ⟨l', by rw [if_neg q, Za8 _ _ q]; exact e'⟩
theorem read (h : Nums R c m i G) (k4 : c.k ≤ 4) (n6 : c.n ≤ 6) (cur : Int) {x : Nat} (hx : x < c.stripes.toNat) : ∃ l, Vol.read ⟨c, cur, false⟩ R (x : Int) = (l, G x, none) ∧ ∀ b ∈ l, b.length = 108 := by
 obtain ⟨j, f, h1, h2, h3⟩ := h.ex
 obtain ⟨l, e⟩ := h3 x hx
 have hf := h2.sfit e hx
 exact ⟨l, h1.read k4 n6 e hf, fun b hb => hf.bl.mem_len hb⟩
end Nums
theorem Vol.read_down (c : Cfg) (cur : Int) (R : Rck) (s : Int) : Vol.read ⟨c, cur, true⟩ R s = ([], 0, some (.fault sVRead s (.no 5))) := by
 unfold Vol.read; rw [if_pos rfl]
theorem Vol.commit_down {c : Cfg} (hc : c.Good) (cur : Int) (R : Rck) {l : List (List Nat)} (hl : (l.length : Int) = c.k) : Vol.commit ⟨c, cur, true⟩ R 0 l = (some (.fault sVCommit 0 (.no 5)), R, ⟨c, cur, true⟩) := by
 unfold Vol.commit
 have : Vol.may ⟨c, cur, true⟩ R 0 l.length = some (.no 5) := by
  unfold Vol.may
  rw [if_neg (by show ¬ ((0 : Int) < 0 ∨ c.stripes ≤ 0 ∨ (l.length : Int) ≠ c.k); have := hc.st0; omega), if_pos (.inl rfl)]
 rw [this]
theorem Vol.commit_arg (v : Vol) (R : Rck) (s : Int) (l : List (List Nat)) (h : s < 0 ∨ v.c.stripes ≤ s ∨ (l.length : Int) ≠ v.c.k) : v.commit R s l = (some (.fault sVCommit s (.no 1)), R, v) := by
 unfold Vol.commit
 have : v.may R s l.length = some (.no 1) := by
  unfold Vol.may
  rw [if_pos h]
 rw [this]
structure Fewer (R0 R : Rck) (c : Cfg) (m : Nat) (t : Nat) : Prop where
 live : Live R c.n.toNat m
 same : ∀ d : Nat, d < c.n.toNat → (d < c.k.toNat - 1 ∨ t ≤ d) → R.dsk (d : Nat) = R0.dsk (d : Nat)
 dead : ∀ d : Nat, d < c.n.toNat → c.k.toNat - 1 ≤ d → d < t → (R.dsk (d : Nat)).dead = true
namespace Fewer
variable {R0 R : Rck} {c : Cfg} {m t : Nat}
theorem start (h : Live R c.n.toNat m) : Fewer R R c m (c.k.toNat - 1) := ⟨h, fun _ _ _ => rfl, fun d _ h1 h2 => by omega⟩
theorem die (h : Fewer R0 R c m t) (ht : t < c.n.toNat) (hk : c.k.toNat - 1 ≤ t) : Fewer R0 (R.die (t : Nat)) c m (t + 1) := by
 obtain ⟨l1, k1⟩ := h.live.setD (R.dsk (t : Nat)).die (by rw [Dsk.die_len]; exact h.live.secs t ht) ht
 rw [h.live.die ht]
 refine ⟨l1, fun d hd hc => ?_, fun d hd h1 h2 => ?_⟩
 ·
  rw [k1, if_neg (by omega)]; exact h.same d hd (by omega)
 ·
  rw [k1]
  by_cases e : d = t
  ·
   rw [if_pos e]; rfl
  ·
   rw [if_neg e]; exact h.dead d hd h1 (by omega)
theorem online (h : Fewer R0 R c m c.n.toNat) (hc : c.Good) : (R.online.length : Int) < c.k := by
 have hk0 := hc.k0
 have hsub : R.online.length ≤ (List.range (c.k.toNat - 1)).length := by
  refine List.Nodup.length_le_of_subset ?_ ?_
  ·
   unfold Rck.online; exact List.nodup_range.filter _
  ·
   intro d hd
   unfold Rck.online at hd
   rw [List.mem_filter, List.mem_range, h.live.len] at hd
   rw [List.mem_range]
   refine Classical.byContradiction fun q => ?_
   have := h.live.up hd.1
   rw [h.dead d hd.1 (by omega) hd.1] at this
   rw [hd.2] at this; cases this
 rw [List.length_range] at hsub
 omega
theorem commit (h : Fewer R0 R c m c.n.toNat) (hc : c.Good) (cur : Int) {s : Nat} (hs : s < c.stripes.toNat) {l : List (List Nat)} (hl : (l.length : Int) = c.k) : Vol.commit ⟨c, cur, false⟩ R (s : Int) l = (some (.fault sVCommit s (.no 7)), R, ⟨c, cur, false⟩) := by
 unfold Vol.commit
 have : Vol.may ⟨c, cur, false⟩ R (s : Int) l.length = some (.no 7) := by
  unfold Vol.may
  rw [if_neg (by show ¬ ((s : Int) < 0 ∨ c.stripes ≤ s ∨ (l.length : Int) ≠ c.k); omega), if_neg (by rw [h.live.off]; simp), if_pos (h.online hc)]
 rw [this]
theorem readE (h : Fewer R0 R c m c.n.toNat) (h0 : ∀ d : Nat, d < c.n.toNat → (R0.dsk (d : Nat)).dead = false) {d i : Nat} (hd : d < c.n.toNat) (hk : d < c.k.toNat - 1) (hi : i < m) : R.readE d i = none :=
 h.live.readE hd (by rw [h.same d hd (.inl hk)]; exact h0 d hd) hi
end Fewer
end Go.Proofs.YtbdfjiedceaoiaaGreatDoor
