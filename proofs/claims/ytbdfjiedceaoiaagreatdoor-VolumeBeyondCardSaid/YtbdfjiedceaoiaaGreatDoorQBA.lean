/- Texts of one proof, joined: SupG, Taint, VolWas, KindNil. -/
import Derived.Test.YtbdfjiedceaoiaaGreatDoorQU
import Derived.Test.YtbdfjiedceaoiaaGreatDoorQA
import Derived.Test.YtbdfjiedceaoiaaGreatDoorQX
import Derived.Test.YtbdfjiedceaoiaaGreatDoorQF
import Derived.Test.YtbdfjiedceaoiaaGreatDoorQAD
import Derived.Test.YtbdfjiedceaoiaaGreatDoorQP
import Derived.Test.YtbdfjiedceaoiaaGreatDoorQZ
import Derived.Deep.DeepCutAuto
import Derived.Deep.CutBlock
import Derived.Test.YtbdfjiedceaoiaaGreatDoorQV
import Derived.Test.YtbdfjiedceaoiaaGreatDoorQJ
import Derived.Test.YtbdfjiedceaoiaaGreatDoorQAC
set_option linter.unusedVariables false
set_option linter.unusedSimpArgs false
namespace Go.Proofs.YtbdfjiedceaoiaaGreatDoor
set_option linter.unusedVariables false
open Go Go.RowKit
def keepCfg (k n stripes slots : Int) : Cfg := ⟨7, within k 1 4, within n (within k 1 4) 6, within stripes 1 6, within slots 1 3⟩
theorem keepCfg_good (k n stripes slots : Int) : (keepCfg k n stripes slots).Good := by
 obtain ⟨a0, a1⟩ := Zbe k 1 4 (by omega)
 obtain ⟨b0, b1⟩ := Zbe n (within k 1 4) 6 (by omega)
 obtain ⟨c0, c1⟩ := Zbe stripes 1 6 (by omega)
 obtain ⟨d0, d1⟩ := Zbe slots 1 3 (by omega)
 exact ⟨by show (1 : Int) ≤ 7; omega, by show (7 : Int) ≤ 2147483647; omega, by show within n (within k 1 4) 6 ≤ 8; omega, a0, b0, c0, by show within stripes 1 6 ≤ 64; omega, d0, by show within slots 1 3 ≤ 4; omega⟩
set_option maxRecDepth 100000 in
set_option maxHeartbeats 1000000 in
theorem kconfig_c (k n stripes slots : Int) (w : World) : Calls Tryz.prog 23 #[.int .i64 k, .int .i64 n, .int .i64 stripes, .int .i64 slots] w (KCfgPost w (keepCfg k n stripes slots)) := by
 have hzc := Zcj
 have HCS := hid Cfg.A_size
 have HK : Hid (keepCfg k n stripes slots = ⟨7, within k 1 4, within n (within k 1 4) 6, within stripes 1 6, within slots 1 3⟩) := hid rfl
 rw [HK.out]
 clear HK
 obtain ⟨a0, a1⟩ := Zbe k 1 4 (by omega)
 have HWK := hid (Zb8 k 1 4)
 generalize within k 1 4 = kk at *
 have hb3 := built_cfg3
 go_enter Tryz.func23, Tryz.ntmps23
 go_wp2_with fail
 refine (HWK.out _ (by omega) (by omega) (by omega)).mono ?_
 rintro e w2 ⟨rfl, rfl⟩
 go_wp2_with fail
 refine (Zb8 stripes 1 6 _ (by omega) (by omega) (by omega)).mono ?_
 rintro e w2 ⟨rfl, rfl⟩
 go_wp2_with fail
 refine (Zb8 slots 1 3 _ (by omega) (by omega) (by omega)).mono ?_
 rintro e w2 ⟨rfl, rfl⟩
 generalize within stripes 1 6 = st at *
 generalize within slots 1 3 = sl at *
 have e1 : (w.alloc (.cells (Cfg.A Cfg.zero) 24)).heap.size = w.heap.size + 1 := by simp
 have hbs : ((w.alloc (.cells (Cfg.A Cfg.zero) 24)).alloc (.cells (Cfg.A Cfg.zero) 24)).heap[w.heap.size + 1]? = some (.cells (Cfg.A Cfg.zero) 24 (0, 0)) := by rw [← e1]; exact heap_alloc_new _ _
 have HB3 : Hid (Tryz.prog.built 24 [(0, .int .i64 7), (1, .int .i64 kk), (3, .int .i64 st), (4, .int .i64 sl)] = some (Cfg.A ⟨7, kk, 0, st, sl⟩)) := hid (built_cfg3 7 kk st sl)
 clear hb3
 have c1 : (((w.alloc (.cells (Cfg.A Cfg.zero) 24)).alloc (.cells (Cfg.A Cfg.zero) 24)).setRow (w.heap.size + 1) (Cfg.A ⟨7, kk, 0, st, sl⟩)).cell? ⟨w.heap.size + 1, 1, none⟩ = some (.int .i64 kk) := (Zaf (setRow_heap _ _ _ _ _ _ hbs)).trans (Cfg.A1 _)
 go_wp2_with (first
  | (refine Zaq rfl 24 _ rfl (Cfg.A ⟨7, kk, 0, st, sl⟩) ?_ ?_; (simp only [List.map_toArray, List.map_cons, List.map_nil, Act.eval]; simp only [Array.getD_eq_getD_getElem?, List.getElem?_toArray, List.getElem?_cons_succ, List.getElem?_cons_zero, Option.getD_some]; exact HB3.out))
  | (refine Zaa rfl 24 _ _ rfl (w.heap.size + 1) rfl (Cfg.A ⟨7, kk, 0, st, sl⟩) _ rfl 24 ?_ hbs ?_ ?_ ?_; (rw [HCS.out]; exact aggCfg); (rw [HCS.out, HCS.out]); exact Cfg.A_one _))
 have HO : Hid (CBlk (((w.alloc (.cells (Cfg.A Cfg.zero) 24)).alloc (.cells (Cfg.A Cfg.zero) 24)).setRow (w.heap.size + 1) (Cfg.A ⟨7, kk, 0, st, sl⟩)) (w.heap.size + 1) ⟨7, kk, 0, st, sl⟩) := hid (setRow_heap _ _ _ _ _ _ hbs)
 have HR : Hid (CBlk (((w.alloc (.cells (Cfg.A Cfg.zero) 24)).alloc (.cells (Cfg.A Cfg.zero) 24)).setRow (w.heap.size + 1) (Cfg.A ⟨7, kk, 0, st, sl⟩)) w.heap.size Cfg.zero) := hid (by
  have := (Zae ((w.alloc (.cells (Cfg.A Cfg.zero) 24)).alloc (.cells (Cfg.A Cfg.zero) 24)) (w.heap.size + 1) (Cfg.A ⟨7, kk, 0, st, sl⟩)).at (k := w.heap.size) (o := .cells (Cfg.A Cfg.zero) 24) (by rw [heap_alloc_old _ _ (by simp)]; exact heap_alloc_new _ _) (by omega)
  exact this)
 have HX : Hid (Ext w (((w.alloc (.cells (Cfg.A Cfg.zero) 24)).alloc (.cells (Cfg.A Cfg.zero) 24)).setRow (w.heap.size + 1) (Cfg.A ⟨7, kk, 0, st, sl⟩))) := hid (Ext.then (((Ext.refl w).alloc _).alloc _) (Zae _ _ _) (fun i hi => by omega))
 clear hbs c1 HB3
 generalize ((w.alloc (.cells (Cfg.A Cfg.zero) 24)).alloc (.cells (Cfg.A Cfg.zero) 24)).setRow (w.heap.size + 1) (Cfg.A ⟨7, kk, 0, st, sl⟩) = W at *
 refine (Zb8 n kk 6 W (by omega) (by omega) (by omega)).mono ?_
 rintro e w2 ⟨rfl, rfl⟩
 generalize within n kk 6 = nn at *
 have c2 : W.cell? ⟨w.heap.size + 1, 2, none⟩ = some (.int .i64 0) := (Zaf HO.out).trans (Cfg.A2 _)
 have f2 : W.frozen? ⟨w.heap.size + 1, 2, none⟩ = false := Za2 HO.out
 have HO2 : Hid ((W.setCell ⟨w.heap.size + 1, 2, none⟩ (.int .i64 nn)).heap[w.heap.size + 1]? = some (.cells (Cfg.A ⟨7, kk, nn, st, sl⟩) 24 (0, 0))) := hid (by
  have := Zax HO.out (i := 2) (.int .i64 nn)
  rw [Cfg.A_n] at this
  exact this)
 have HR2 : Hid ((W.setCell ⟨w.heap.size + 1, 2, none⟩ (.int .i64 nn)).heap[w.heap.size]? = some (.cells (Cfg.A Cfg.zero) 24 (0, 0))) := hid ((Zan _ (by omega)).trans HR.out)
 have HX2 : Hid (Ext w (W.setCell ⟨w.heap.size + 1, 2, none⟩ (.int .i64 nn))) := hid (Only.setCell (F := fun _ => False) HX.out (.inl (by show _ ≤ w.heap.size + 1; omega)) _)
 go_wp2_with (first
  | (refine Zac rfl 24 _ rfl ⟨w.heap.size + 1, 0, none⟩ rfl (Cfg.A ⟨7, kk, nn, st, sl⟩) (Zat _) (Zah HO2.out) ?_)
  | (refine Zaa rfl 24 _ _ rfl w.heap.size rfl (Cfg.A ⟨7, kk, nn, st, sl⟩) _ rfl 24 ?_ HR2.out ?_ ?_ ?_; (rw [HCS.out]; exact aggCfg); (rw [HCS.out, HCS.out]); exact Cfg.A_one _))
 refine bodyPost_ret (results_cell_row Tryz.results23 _ _ w.heap.size _ (Cfg.A ⟨7, kk, nn, st, sl⟩) _ _ rfl (setRow_heap _ _ _ _ _ _ HR2.out) Tryz.underlying24 rfl (by rw [HCS.out]; exact aggCfg.2)) rfl ?_
 exact ⟨rfl, Ext.then HX2.out (Zae _ _ _) (fun i hi => by omega)⟩
attribute [local irreducible] wpSQ
structure TS (w0 w : World) (S0 S : Nat → Prop) (r : Nat) (R : Rck) : Prop where
 rack : RackAt S w r R
 sub : ∀ b, S0 b → S b
 keep : Keeps S0 w0 w
namespace TS
variable {w0 w w' : World} {S0 S : Nat → Prop} {r : Nat} {R R' : Rck}
theorem more (h : TS w0 w S0 S r R) (e : Ext w w') : TS w0 w' S0 S r R := ⟨h.rack.ext e, h.sub, Only.ext h.keep e⟩
theorem wide (h : TS w0 w S0 S r R) (e : Ext w w') : TS w0 w' S0 (wideS S w w') r R := ⟨h.rack.pokes e fun b hb => hb.elim, fun b hb => .inl (h.sub b hb), Only.ext h.keep e⟩
theorem step (h : TS w0 w S0 S r R) (hr : RackAt S w' r R') (k : Keeps S w w') : TS w0 w' S0 S r R' := ⟨hr, h.sub, Only.trans h.keep k fun b _ hb q => hb (h.sub b q)⟩
theorem cell (h : TS w0 w S0 S r R) {p : Addr} {v : Value} (e : w0.cell? p = some v) (hp : S0 p.block) : w.cell? p = some v := Only.cell h.keep e fun q => q hp
end TS
set_option maxRecDepth 100000 in
set_option maxHeartbeats 4000000 in
theorem taint_c {S0 : Nat → Prop} {w : World} {r n m : Nat} {R0 : Rck} (h : RackAt S0 w r R0) (hl : Live R0 n m) (n6 : n ≤ 6) (m1 : 1 ≤ m) (m128 : m ≤ 128) (many : Nat) (hm8 : many ≤ 8)
  (oa : Option Addr) (olen ocap : Nat) (ha : Option Addr) (hlen hcap : Nat) (ho : ∀ i, i < olen → ∃ b off v, oa = some ⟨b, off, none⟩ ∧ w.cell? ⟨b, off + i, none⟩ = some (.int .i64 v)) (hh : ∀ i, i < hlen → ∃ b off v, ha = some ⟨b, off, none⟩ ∧ w.cell? ⟨b, off + i, none⟩ = some (.int .i64 v)) (hso : ∀ p, oa = some p → 0 < olen → S0 p.block) (hsh : ∀ p, ha = some p → 0 < hlen → S0 p.block) :
  Calls Tryz.prog 24 #[.pointer (some ⟨r, 0, none⟩), .int .i64 many, .slice oa olen ocap, .slice ha hlen hcap] w
   fun e w' => e = .returned (.tuple #[]) ∧ ∃ R' L, Tnt R0 R' n m L ∧ n - many ≤ L.length ∧ RackAt S0 w' r R' ∧ Keeps S0 w w' := by
 have HO := hid ho
 have HH := hid hh
 have HSO := hid hso; have HSH := hid hsh
 have HTS := hid (show TS w w S0 S0 r R0 from ⟨h, fun _ q => q, Only.refl _ _⟩)
 have HL := hid hl
 have HLN := hid (show R0.l.length = n from hl.len)
 have HRS := hid (fun i => show List.range (i + 1) = List.range i ++ [i] from List.range_succ)
 clear ho hh h hl hso hsh
 go_enter Tryz.func24, Tryz.ntmps24
 go_wp2_with fail
 go_loopw [9, 8] (fun t v wr => ∃ i : Nat, t = .int .i64 i ∧ i ≤ n ∧ OwnInts wr w.heap.size v (List.range i) ∧ Ext w wr) (fun t _ _ => n - (intOf t).toNat)
 case atStart => exact ⟨0, rfl, by omega, OwnInts.nil _ _, Ext.refl _⟩
 case round =>
  obtain ⟨i, rfl, hi, hv, hx⟩ := hrel
  have HX := hid hx; have HV := hid hv
  clear hx hv
  go_wp2_with fail
  refine (at_n (HTS.out.more HX.out).rack).mono ?_
  rintro e _ ⟨rfl, rfl⟩
  rw [HLN.out]
  by_cases hlt : i < n
  ·
   have i1 : (i : Int) < (n : Int) := by omega
   obtain ⟨v2, w2, hap, hv2, _, hx2⟩ := HV.out.push i (by rw [List.length_range]; omega) HX.out.size
   have HAP := hid hap
   have HV2 := hid (show OwnInts w2 w.heap.size v2 (List.range (i + 1)) from by rw [HRS.out]; exact hv2)
   have HX2 := hid (hx2 w (Nat.le_refl _) HX.out)
   clear hap hv2 hx2 HV HX
   go_wp2_with (at_builtin; refine Zaj rfl _ _ _ rfl _ _ _ _ rfl rfl HAP.out ?_)
   go_roundw
   case rel => exact ⟨i + 1, by go_num, by omega, HV2.out, HX2.out⟩
   case measure => simp [intOf]; omega
  ·
   obtain rfl : n = i := by omega
   have i1 : ¬ (n : Int) < (n : Int) := by omega
   have HV1 := hid HV.out
   obtain ⟨S1, hS1⟩ : ∃ S, wideS S0 w wr = S := ⟨_, rfl⟩
   have HT1 := hid (hS1 ▸ HTS.out.wide HX.out)
   have HVS := hid (show ∀ b, Value.ownBlock _ = some b → S1 b from fun b hb => hS1 ▸ .inr (HV1.out.lt b hb))
   have HSZ := hid HX.out.size
   have HTN := hid (Tnt.start HL.out)
   clear HV HX hS1 HTS hlt hi
   go_wp2_with fail
   go_loopw [10, 8] (fun t v wd => ∃ q : Nat, t = .int .i64 q ∧ q ≤ many ∧ ∃ R S L, Tnt R0 R n m L ∧ n - q ≤ L.length ∧ TS w wd S0 S r R ∧ OwnInts wd w.heap.size v L ∧ (∀ b, v.ownBlock = some b → S b) ∧ w.heap.size ≤ wd.heap.size) (fun t _ _ => many - (intOf t).toNat)
   case atStart => exact ⟨0, rfl, by omega, _, _, _, HTN.out, by simp, HT1.out, HV1.out, HVS.out, HSZ.out⟩
   case round =>
    clear HT1 HV1 HVS HSZ HTN
    obtain ⟨q, rfl, hq, R, S, L, htn, hll, hts, hv, hvs, hsz⟩ := hrel
    have HTN := hid htn; have HTS := hid hts; have HLL := hid hll; have HSZ := hid hsz
    have hL6 : L.length ≤ 6 := by
     have := List.Nodup.length_le_of_subset htn.nodup (l₂ := List.range n) fun d hd => List.mem_range.2 (htn.lt d hd)
     rw [List.length_range] at this; omega
    obtain ⟨lad, lcap, rfl, hlc, hints, hne⟩ := hv.at
    by_cases hlt : q < many
    ·
     have q1 : (q : Int) < (many : Int) := by omega
     by_cases hl0 : L = []
     ·
      have l0 : ¬ (0 : Int) < (L.length : Int) := by rw [hl0]; simp
      clear hlt htn hts hv hvs hints hne
      go_wp2_with fail
      go_end0
      exact ⟨rfl, R, L, HTN.out, by have := HLL.out; rw [hl0] at this; simp at this; omega, HTS.out.rack.less HTS.out.sub, HTS.out.keep⟩
     ·
      have l1 : (0 : Int) < (L.length : Int) := by have := List.length_pos_iff.2 hl0; omega
      have l6 : (L.length : Int) ≤ 6 := by omega
      obtain ⟨lg, rfl⟩ := hne hl0
      have HV := hid hv
      have HVS := hid (hvs lg rfl)
      have HIN := hid hints
      have HLC := hid hlc
      clear htn hll hts hv hvs hsz hints hlc hne hl0 hlt hq
      go_upto_if 37 with (fail)
      go_cut [11] (fun t wq => (∃ x : Nat, t = .int .i64 x ∧ x < L.length) ∧ wr = wq)
      case first =>
       by_cases hio : q < olen
       ·
        obtain ⟨ib, ioff, vi, rfl, hci⟩ := HO.out q hio
        have ci : wr.cell? ⟨ib, ioff + q, none⟩ = some (.int .i64 vi) := HTS.out.cell hci (show S0 ib from HSO.out ⟨ib, ioff, none⟩ rfl (by omega))
        have i0 : (0 : Int) ≤ (q : Int) := by omega
        have i1 : (q : Int) < (olen : Int) := by omega
        clear hci
        go_wp2_with fail
        refine (Zb8 vi 0 ((L.length : Int) - 1) _ (by omega) (by omega) (by omega)).mono ?_
        rintro e w7 ⟨rfl, rfl⟩
        obtain ⟨q0, q1⟩ := Zbe vi 0 ((L.length : Int) - 1) (by omega)
        obtain ⟨x, hx⟩ := Int.eq_ofNat_of_zero_le q0
        rw [hx]
        have hxl : x < L.length := by omega
        clear hx q0 q1
        go_wp2
        go_meet
        case rel => exact ⟨⟨x, rfl, hxl⟩, rfl⟩
       ·
        have i1 : ¬ (q : Int) < (olen : Int) := by omega
        go_wp2_with fail
        go_meet
        case rel => exact ⟨⟨0, rfl, by omega⟩, rfl⟩
      case rest =>
       obtain ⟨⟨x, rfl, hxl⟩, rfl⟩ := hcut
       go_upto_if 49 with (fail)
       go_cut [12, 13] (fun t u wq => (∃ ww : Int, t = .int .i64 ww ∧ 0 ≤ ww ∧ ww ≤ 2) ∧ (∃ ss : Nat, u = .int .i64 ss ∧ ss < m) ∧ Ext wr wq)
       case first =>
        by_cases hio : q < hlen
        ·
         obtain ⟨ib, ioff, vi, rfl, hci⟩ := HH.out q hio
         have HCI := hid (show wr.cell? ⟨ib, ioff + q, none⟩ = some (.int .i64 vi) from HTS.out.cell hci (show S0 ib from HSH.out ⟨ib, ioff, none⟩ rfl (by omega)))
         have i0 : (0 : Int) ≤ (q : Int) := by omega
         have i1 : (q : Int) < (hlen : Int) := by omega
         obtain ⟨q0, q1⟩ := Zbe vi 0 2 (by omega)
         obtain ⟨r0, r1⟩ := Zbe vi 0 ((m : Int) - 1) (by omega)
         obtain ⟨ss, hss⟩ := Int.eq_ofNat_of_zero_le r0
         have hsm : ss < m := by omega
         have xd : Ext wr wr.drew := (Ext.refl wr).drew
         have HXD := hid xd
         have cl : ∀ y : SW Ext wr.drew, y.w.cell? ⟨ib, ioff + q, none⟩ = some (.int .i64 vi) := fun y => Ext.cell (Ext.trans HXD.out y.ext) HCI.out
         have wi : Hid (∀ y : SW Ext wr.drew, Calls Tryz.prog 12 #[.int .i64 vi, .int .i64 0, .int .i64 2] y.w fun e w'' => e = .returned (.int .i64 (within vi 0 2)) ∧ Ext y.w w'') := hid fun y => (Zb8 vi 0 2 y.w (by omega) (by omega) (by omega)).mono fun e w'' q => ⟨q.1, q.2 ▸ Ext.refl _⟩
         have wj : Hid (∀ y : SW Ext wr.drew, Calls Tryz.prog 12 #[.int .i64 vi, .int .i64 0, .int .i64 ((m : Int) - 1)] y.w fun e w'' => e = .returned (.int .i64 (ss : Int)) ∧ Ext y.w w'') := hid fun y => (Zb8 vi 0 ((m : Int) - 1) y.w (by omega) (by omega) (by omega)).mono fun e w'' q => ⟨by rw [q.1, hss], q.2 ▸ Ext.refl _⟩
         have sc : Hid (∀ y : SW Ext wr.drew, Calls Tryz.prog 55 #[.pointer (some ⟨r, 0, none⟩)] y.w fun e w'' => e = .returned (.int .i64 (m : Int)) ∧ Ext y.w w'') := hid fun y => (at_sectors (HTS.out.more (Ext.trans HXD.out y.ext)).rack).mono fun e w'' q => ⟨by rw [q.1, HTN.out.live.sectors], q.2 ▸ Ext.refl _⟩
         have hw1 : wrap64 ((m : Int) - 1) = (m : Int) - 1 := by unfold wrap64; omega
         have hw2 : IntKind.i64.wrap ((m : Int) - 1) = (m : Int) - 1 := by rw [IntKind.wrap_i64]; omega
         clear xd hci r0 r1 hss
         go_wp2_with fail
         refine Zap (S := Ext) 13 (.fin [0, 1, 2, 3, 4, 5, 6, 7, 8, 9, 10, 11, 12]) (by kernel_rfl) (by kernel_rfl) (fun _ _ d _ _ h => by cases d <;> exact h) ?_
         rw [wpS]
         simp only [opsAt, opA, opB, opC, opD, opE, opF, opG]
         iterate 4 ((refine Zab (fun K hK => ?_); go_simp; refine hK _ ?_; clear hK K))
         (refine Zab (fun K hK => ?_); go_simp; (apply Exists.intro; refine ⟨fun x => ?_, hK _ ?_⟩; (exact wi.out x); clear hK K))
         iterate 5 ((refine Zab (fun K hK => ?_); go_simp; refine hK _ ?_; clear hK K))
         (refine Zab (fun K hK => ?_); go_simp; (apply Exists.intro; refine ⟨fun x => ?_, hK _ ?_⟩; (exact sc.out x); clear hK K))
         (refine Zab (fun K hK => ?_); go_simp; refine hK _ ?_; clear hK K)
         (refine Zab (fun K hK => ?_); go_simp; (apply Exists.intro; refine ⟨fun x => ?_, hK _ ?_⟩; (exact wj.out x); clear hK K))
         refine Zag ?_
         intro V3 hV3
         have HXV := hid (Ext.trans HXD.out hV3)
         clear cl wi wj sc hV3
         generalize within vi 0 2 = ww at *
         go_wp2
         go_meet
         case rel => exact ⟨⟨ww, rfl, q0, q1⟩, ⟨ss, rfl, hsm⟩, HXV.out⟩
        ·
         have i1 : ¬ (q : Int) < (hlen : Int) := by omega
         go_wp2_with fail
         go_meet
         case rel => exact ⟨⟨0, rfl, by omega, by omega⟩, ⟨0, rfl, by omega⟩, Ext.refl _⟩
       case rest =>
        obtain ⟨⟨ww, rfl, w0', w2'⟩, ⟨ss, rfl, hsm⟩, hxc⟩ := hcut
        have HT2 := hid (HTS.out.more hxc)
        have HV2 := hid (HV.out.ext hxc)
        have HXC := hid hxc
        have HIN2 := hid (HIN.out.ext hxc)
        have HSZ2 := hid (Nat.le_trans HSZ.out hxc.size)
        clear hxc HTS HV HIN HSZ
        go_upto_block 4 with (fail)
        go_cut [11] (fun u wq => u = .int .i64 (x : Int) ∧ ∃ R', Tnt R0 R' n m (L.eraseIdx x) ∧ RackAt S wq r R' ∧ Keeps S wc wq)
        case first =>
         obtain ⟨d, hd⟩ : ∃ d, L[x] = d := ⟨_, rfl⟩
         have cd : wc.cell? ⟨lg, x, none⟩ = some (.int .i64 d) := by
          obtain ⟨g', hg', hc⟩ := HIN2.out x d (by rw [List.getElem?_eq_getElem hxl, hd])
          cases hg'
          exact hc
         have x0 : (0 : Int) ≤ (x : Int) := by omega
         have x1 : (x : Int) < (L.length : Int) := by omega
         have HD := hid hd
         clear hd
         by_cases e0 : ww = 0
         ·
          subst e0
          have hb := HTN.out.die hxl
          rw [HD.out] at hb
          have HB := hid hb
          clear hb w0' w2'
          go_wp2_with fail
          refine (at_die HT2.out.rack d).mono ?_
          rintro e w8 ⟨rfl, h8, k8⟩
          have H8 := hid h8; have K8 := hid k8
          clear h8 k8
          go_wp2
          go_meet
          case rel => exact ⟨rfl, _, HB.out, H8.out, K8.out⟩
         by_cases e1 : ww = 1
         ·
          subst e1
          have hb := HTN.out.replace hxl
          rw [HD.out] at hb
          have HB := hid hb
          clear hb w0' w2'
          go_wp2_with fail
          refine (at_replace HT2.out.rack d).mono ?_
          rintro e w8 ⟨rfl, h8, k8⟩
          have H8 := hid h8; have K8 := hid k8
          clear h8 k8
          go_wp2
          go_meet
          case rel => exact ⟨rfl, _, HB.out, H8.out, K8.out⟩
         obtain rfl : ww = 2 := by omega
         have hb := HTN.out.rot hxl hsm (a := x) (by omega)
         rw [HD.out] at hb
         have HB := hid hb
         clear hb e0 e1 w0' w2'
         go_wp2_with fail
         refine (at_rot HT2.out.rack d ss x 5 (by omega)).mono ?_
         rintro e w11 ⟨rfl, h11, k11⟩
         have H11 := hid h11; have K11 := hid k11
         generalize R.rotOk d ss x 5 = bb at *
         clear h11 k11
         go_wp2
         go_meet
         case rel => exact ⟨rfl, _, HB.out, H11.out, K11.out⟩
        case rest =>
         obtain ⟨rfl, R', htn', hr', hk'⟩ := hcut
         have HTN' := hid htn'
         have HTC := hid (HT2.out.step hr' hk')
         have HVC := hid (HV2.out.only hk' (fun b hb q => q (by cases hb; exact HVS.out)))
         have HSC := hid (Nat.le_trans HSZ2.out hk'.size)
         obtain ⟨lad, lcap', hq', hlc, hints, _⟩ := HVC.out.at
         cases hq'
         have HIC := hid hints
         have HXL := hid hxl
         have hsh := slice_head lg L.length lcap x (by have := HLC.out; omega)
         have hst := slice_tail lg L.length lcap x (by omega)
         obtain ⟨ta, hta⟩ : ∃ ta : Addr, (if lcap = x + 1 then ⟨lg, 0, none⟩ else ⟨lg, x + 1, none⟩) = ta := ⟨_, rfl⟩
         rw [hta] at hst
         have HTA := hid hta
         clear hta
         have hwx : IntKind.i64.wrap ((x : Int) + 1) = (x : Int) + 1 := by rw [IntKind.wrap_i64]; omega
         have hwx2 : wrap64 ((x : Int) + 1) = (x : Int) + 1 := by unfold wrap64; omega
         generalize hwcc : wc = W0 at *
         clear htn' hr' hk' hints hlc w0' w2'
         go_wp2_with fail
         refine Zav (E := Ext) (S := Only fun b => W0.heap.size ≤ b) (.one [1, 2, 3, 5, 6, 7, 8] 0 (.one [] 4 (.one [] 9 (.fin [10])))) (by kernel_rfl) (by kernel_rfl) (fun _ _ d _ _ h => by cases d <;> exact h) ?_
         rw [wpS]
         simp only [opsAt, opA, opB, opC, opD, opE, opF, opG]
         iterate 7 ((refine Zab (fun K hK => ?_); go_simp; refine hK _ ?_; clear hK K))
         refine Zag ?_
         intro V20 hV20
         have X20 := hid (show Ext W0 V20 from Ext.trans (Ext.refl W0).drew hV20)
         clear hV20 hsh hst
         refine Zaw fun Q1 hQ1 => ?_
         go_wp2
         refine hQ1 _ _ (Ext.only ((Ext.refl _).alloc _)) ?_
         clear hQ1 Q1
         rw [wpS]
         simp only [opsAt, opA, opB, opC, opD, opE, opF, opG]
         refine Zag ?_
         intro V21 hV21
         have X21 := hid (show Ext W0 V21 from Ext.trans (X20.out.alloc _) hV21)
         obtain ⟨v1, w21, hap1, ho1, hk1⟩ := erase_one rfl HXL.out (by omega) HIC.out X21.out ((OwnInts.bare V20).ext hV21) (by have := hV21.size; simp at this; omega)
         have HAP1 := hid hap1
         have HO1 := hid ho1
         have HSZ20 := hid X20.out.size
         have HK1 := hid (show Only (fun b => W0.heap.size ≤ b) V21 w21 from hk1.mono fun i _ hb => by
          have : i = V20.heap.size := by simpa [Value.ownBlock] using hb.symm
          have := HSZ20.out
          show W0.heap.size ≤ i
          omega)
         have HSZ21 := hid (show V20.heap.size ≤ w21.heap.size by have := hV21.size; have q := hk1.size; simp at this; omega)
         clear hap1 ho1 hk1
         refine Zaw fun Q2 hQ2 => ?_
         go_wp2_with (at_builtin; refine Zaj rfl _ _ _ rfl _ _ _ _ rfl rfl HAP1.out ?_)
         refine hQ2 _ _ HK1.out ?_
         clear hQ2 Q2 HAP1
         rw [wpS]
         simp only [opsAt, opA, opB, opC, opD, opE, opF, opG]
         refine Zag ?_
         intro V22 hV22
         have X22 := hid (show Ext W0 V22 from Ext.trans (Ext.then X21.out HK1.out (fun i hi hb => by have hb : W0.heap.size ≤ i := hb; omega)) hV22)
         obtain ⟨v2, w22, hap2, ho2, hk2⟩ := erase_two rfl HXL.out (by omega) HLC.out HIC.out X22.out (HO1.out.ext hV22) (Nat.le_trans HSZ21.out hV22.size)
         rw [HTA.out] at hap2
         have HAP2 := hid hap2
         have HO2 := hid ho2
         have HK2 := hid (show Only (fun b => W0.heap.size ≤ b) V22 w22 from hk2.mono fun i _ hb => by
          have := (HO1.out.lt i hb).1
          have := HSZ20.out
          show W0.heap.size ≤ i
          omega)
         clear hap2 ho2 hk2
         refine Zaw fun Q3 hQ3 => ?_
         go_wp2_with (at_builtin; refine Zaj rfl _ _ _ rfl _ _ _ _ rfl rfl HAP2.out ?_)
         refine hQ3 _ _ HK2.out ?_
         clear hQ3 Q3 HAP2
         rw [wpS]
         simp only [opsAt, opA, opB, opC, opD, opE, opF, opG]
         (refine Zab (fun K hK => ?_); go_simp; refine hK _ ?_; clear hK K)
         refine Zag ?_
         intro V23 hV23
         have X23 := hid (show Ext W0 V23 from Ext.trans (Ext.then X22.out HK2.out (fun i hi hb => by have hb : W0.heap.size ≤ i := hb; omega)) hV23)
         have HO3 := hid (HO2.out.ext hV23)
         clear hV23
         have HEL := hid (show (L.eraseIdx x).length = L.length - 1 by rw [List.length_eraseIdx, if_pos HXL.out])
         have HT23 := hid (HTC.out.wide X23.out)
         have HOS := hid (show ∀ b, v2.ownBlock = some b → wideS S W0 V23 b from fun b hb => .inr ⟨Nat.le_trans HSZ20.out (HO3.out.lt b hb).1, (HO3.out.lt b hb).2⟩)
         have HO4 := hid (HO3.out.low (Nat.le_trans HSC.out HSZ20.out))
         have HS4 := hid (Nat.le_trans HSC.out X23.out.size)
         go_wp2
         go_roundw
         case rel => exact ⟨q + 1, by go_num, by omega, R', _, L.eraseIdx x, HTN'.out, by have := HEL.out; have := HLL.out; omega, HT23.out, HO4.out, HOS.out, HS4.out⟩
         case measure => simp [intOf]; omega
    ·
     have q1 : ¬ (q : Int) < (many : Int) := by omega
     have hqm : q = many := by omega
     clear hlt htn hts hv hvs hints hne
     go_wp2_with fail
     go_end0
     exact ⟨rfl, R, L, HTN.out, by have := HLL.out; omega, HTS.out.rack.less HTS.out.sub, HTS.out.keep⟩
end Go.Proofs.YtbdfjiedceaoiaaGreatDoor
namespace Go.Proofs.YtbdfjiedceaoiaaGreatDoor
set_option linter.unusedVariables false
open Go Go.RowKit
theorem infoBs : (Tryz.prog.info? 33).map (fun i => (i.zero, i.size, i.bytes)) = some (some (.slice none 0 0), 1, 24) := by kernel_rfl
theorem make_was (k : Nat) (h1 : k ≤ 8) : ∃ C : Array Value, (∀ w : World, Sem.run Tryz.prog (Instr.makeSlice 53 (.int .i64 k) (.int .i64 k)) w = .ok (.slice (some ⟨w.heap.size, 0, none⟩) k k) (w.alloc (.cells C 33))) ∧ C.size = k ∧ ∀ q, q < k → C[q]? = some (.slice none 0 0) := by
 obtain ⟨i0, hi, hz0, hz1, hz2⟩ := info_parts infoBs
 refine ⟨madeCells #[.slice none 0 0] (k * 1), fun w => ?_, by unfold madeCells; simp, fun q hq => ?_⟩
 ·
  have h := run_make (P := Tryz.prog) w 53 33 i0 (.slice none 0 0) Tryz.underlying53 hi hz0 .i64 .i64 k k (by omega) (Int.le_refl _) (by rw [hz2]; omega) (by omega)
  rw [h, hz1]
  rfl
 ·
  unfold madeCells
  rw [Array.getElem?_map, Array.getElem?_range, if_pos (by omega)]
  have e : q % 1 = 0 := Nat.mod_one q
  simp [e]
structure WasAt (w : World) (g0 N : Nat) (F : Nat → List (List Nat)) (a : Nat → Option Addr) (cp : Nat → Nat) : Prop where
 blk : ∃ C : Array Value, w.heap[g0]? = some (.cells C 33 (0, 0)) ∧ C.size = N ∧ ∀ s, s < N → C[s]? = some (.slice (a s) (F s).length (cp s))
 bks : ∀ s, s < N → BlksAt w (a s) (F s)
structure WasOwn (S : Nat → Prop) (g0 N : Nat) (F : Nat → List (List Nat)) (a : Nat → Option Addr) : Prop where
 own : S g0
 bks : ∀ s, s < N → F s ≠ [] → ∀ b, a s = some ⟨b, 0, none⟩ → S b ∧ b ≠ g0
theorem WasOwn.mono {S T : Nat → Prop} {g0 N : Nat} {F : Nat → List (List Nat)} {a : Nat → Option Addr} (h : WasOwn S g0 N F a) (hT : ∀ b, S b → T b) : WasOwn T g0 N F a := ⟨hT _ h.own, fun s hs hn b e => ⟨hT _ (h.bks s hs hn b e).1, (h.bks s hs hn b e).2⟩⟩
theorem BlksAt.nil (w : World) (a : Option Addr) : BlksAt w a [] := fun i b hb => by simp at hb
namespace WasAt
variable {w w' : World} {S : Nat → Prop} {g0 N : Nat} {F : Nat → List (List Nat)} {a : Nat → Option Addr} {cp : Nat → Nat}
theorem new (C : Array Value) (hC : C.size = N) (h : ∀ q, q < N → C[q]? = some (.slice none 0 0)) : WasAt (w.alloc (.cells C 33)) w.heap.size N (fun _ => []) (fun _ => none) fun _ => 0 := ⟨⟨C, heap_alloc_new _ _, hC, h⟩, fun s _ => BlksAt.nil _ _⟩
theorem ext (h : WasAt w g0 N F a cp) (e : Ext w w') : WasAt w' g0 N F a cp := by
 obtain ⟨⟨C, h1, h2, h3⟩, h4⟩ := h
 exact ⟨⟨C, e.at h1, h2, h3⟩, fun s hs => (h4 s hs).ext e⟩
theorem only {P : Nat → Prop} (h : WasAt w g0 N F a cp) (o : WasOwn S g0 N F a) (e : Only P w w') (hP : ∀ b, S b → ¬ P b) : WasAt w' g0 N F a cp := by
 obtain ⟨⟨C, h1, h2, h3⟩, h4⟩ := h
 refine ⟨⟨C, e.at h1 (hP _ o.own), h2, h3⟩, fun s hs => ?_⟩
 by_cases q : F s = []
 ·
  rw [q]; exact BlksAt.nil _ _
 ·
  exact (h4 s hs).only e fun b eb => hP b (o.bks s hs q b eb).1
theorem cell (h : WasAt w g0 N F a cp) {s : Nat} (hs : s < N) : w.cell? ⟨g0, s, none⟩ = some (.slice (a s) (F s).length (cp s)) := by
 obtain ⟨⟨C, h1, h2, h3⟩, h4⟩ := h
 exact (Zaf h1).trans (h3 s hs)
theorem free (h : WasAt w g0 N F a cp) (s : Nat) : w.frozen? ⟨g0, s, none⟩ = false := by
 obtain ⟨⟨C, h1, h2, h3⟩, h4⟩ := h
 exact Za2 h1
theorem set (h : WasAt w g0 N F a cp) (o : WasOwn S g0 N F a) {s : Nat} {l : List (List Nat)} {a' : Option Addr} {c' : Nat} (hl : BlksAt w a' l) (ho : ∀ b, a' = some ⟨b, 0, none⟩ → S b ∧ b ≠ g0) :
  WasAt (w.setCell ⟨g0, s, none⟩ (.slice a' l.length c')) g0 N (fun t => if t = s then l else F t) (fun t => if t = s then a' else a t) (fun t => if t = s then c' else cp t) ∧ WasOwn S g0 N (fun t => if t = s then l else F t) (fun t => if t = s then a' else a t) := by
 have k : Only (fun b => b = g0) w (w.setCell ⟨g0, s, none⟩ (.slice a' l.length c')) := Zbn _ _ _ _
 obtain ⟨⟨C, h1, h2, h3⟩, h4⟩ := h
 refine ⟨⟨⟨C.setIfInBounds s (.slice a' l.length c'), Zax h1 _, by rw [Array.size_setIfInBounds, h2], fun t ht => ?_⟩, fun t ht => ?_⟩, o.own, fun t ht hn b e => ?_⟩
 ·
  rw [Array.getElem?_setIfInBounds]
  show _ = some (Value.slice (if t = s then a' else a t) (if t = s then l else F t).length (if t = s then c' else cp t))
  by_cases e : s = t
  ·
   subst e; rw [if_pos rfl, if_pos (by omega), if_pos rfl, if_pos rfl, if_pos rfl]
  ·
   rw [if_neg e, if_neg (fun q : t = s => e q.symm), if_neg (fun q : t = s => e q.symm), if_neg (fun q : t = s => e q.symm)]; exact h3 t ht
 ·
  show BlksAt _ (if t = s then a' else a t) (if t = s then l else F t)
  by_cases e : t = s
  ·
   rw [if_pos e, if_pos e]; exact hl.only k fun b eb q => (ho b eb).2 q
  ·
   rw [if_neg e, if_neg e]
   by_cases q : F t = []
   ·
    rw [q]; exact BlksAt.nil _ _
   ·
    exact (h4 t ht).only k fun b eb z => (o.bks t ht q b eb).2 z
 ·
  have hn : (if t = s then l else F t) ≠ [] := hn
  have e : (if t = s then a' else a t) = some ⟨b, 0, none⟩ := e
  by_cases q : t = s
  ·
   rw [if_pos q] at e; exact ho b e
  ·
   rw [if_neg q] at e hn; exact o.bks t ht hn b e
end WasAt
end Go.Proofs.YtbdfjiedceaoiaaGreatDoor
namespace Go.Proofs.YtbdfjiedceaoiaaGreatDoor
set_option linter.unusedVariables false
open Go.RowKit Go.Extern.Stop Go.Stop Go.Extern Go
set_option maxRecDepth 100000 in
theorem As_nilE (t : Value) (w : World) : Calls Tryz.prog 50 #[.nilIface, t] w fun e w' => e = .returned (.bool false) ∧ w = w' := by
 go_enter Tryz.func50, Tryz.ntmps50
 go_wp2
 go_ret
 exact ⟨rfl, rfl⟩
theorem eql_nil_iface (t : TypeId) (v : Value) (w : World) : (binOp .eql 31 .nilIface (.iface t v)).run Tryz.prog w = .ok (.bool false) w := by
 have h : ∀ d : Nat, (Op.equalIn (d + 1) 31 .nilIface (.iface t v)).run Tryz.prog w = .ok false w := fun d => by simp [Op.equalIn, run_underlying Tryz.underlying31]
 simp only [binOp]
 simp [Op.equal, Op.maxDepth, h 9999]
set_option maxRecDepth 100000 in
theorem Is_nil (t : TypeId) (v : Value) (w : World) : Calls Tryz.prog 51 #[.nilIface, .iface t v] w fun e w' => e = .returned (.bool false) ∧ w = w' := by
 have hE := eql_nil_iface t v
 go_enter Tryz.func51, Tryz.ntmps51
 go_wp2
 go_ret
 exact ⟨rfl, rfl⟩
set_option maxRecDepth 100000 in
set_option maxHeartbeats 2000000 in
theorem kind_nil (w : World) : Calls Tryz.prog 17 #[.nilIface] w fun e w' => e = .returned (.int .i64 0) ∧ Ext w w' := by
 go_enter Tryz.func17, Tryz.ntmps17
 go_wp2_with (first
  | (go_at_call 50; refine (As_nilE _ _).mono ?_; rintro e w' ⟨rfl, rfl⟩)
  | (go_at_call 51; refine (Is_nil _ _ _).mono ?_; rintro e w' ⟨rfl, rfl⟩))
 go_ret
 exact ⟨rfl, (Ext.refl w).alloc _⟩
end Go.Proofs.YtbdfjiedceaoiaaGreatDoor
