/- Texts of one proof, joined: KindAny, Taint. -/
import Derived.Test.YthopnbklmlopkaaGreatDoorQC
import Derived.Test.YthopnbklmlopkaaGreatDoorQF
import Derived.Test.YthopnbklmlopkaaGreatDoorQAD
import Derived.Test.YthopnbklmlopkaaGreatDoorQP
import Derived.Test.YthopnbklmlopkaaGreatDoorQX
import Derived.Test.YthopnbklmlopkaaGreatDoorQZ
import Derived.Deep.DeepCutAuto
import Derived.Deep.CutBlock
set_option linter.unusedVariables false
set_option linter.unusedSimpArgs false
namespace Go.Proofs.YthopnbklmlopkaaGreatDoor
set_option linter.unusedVariables false
open Go.RowKit Go.Extern.Stop Go.Stop Go.Extern Go
theorem eql_types (t t' : TypeId) (v v' : Value) (h : t ≠ t') (w : World) : (binOp .eql 26 (.iface t v) (.iface t' v')).run Tryz.prog w = .ok (.bool false) w := by
 have h0 : ∀ d : Nat, (Op.equalIn (d + 1) 26 (.iface t v) (.iface t' v')).run Tryz.prog w = .ok false w := fun d => by simp [Op.equalIn, run_underlying Tryz.underlying26, h]
 simp only [binOp]
 simp [Op.equal, Op.maxDepth, h0 9999]
theorem compE2 (w : World) : Sem.run Tryz.prog (ReflectliteType.method (fun t => do Rtype.noPackHeld "Comparable" t; (fun a => Value.bool a.comparable) <$> typeInfo t) #[.agg #[.pointer (some ⟨1, 44, none⟩)]]) w = .ok (.bool true) w := by kernel_rfl
theorem eql_errno (w : World) : Sem.run Tryz.prog (binOp .eql 26 (.iface 44 (.int .i64 6)) (.iface 44 (.int .i64 6))) w = .ok (.bool true) w := by kernel_rfl
set_option maxRecDepth 100000 in
set_option maxHeartbeats 600000 in
theorem is_lost (er : Err) (hl : er.lost = true) (w : World) :
  Calls Tryz.prog 86 #[er.val, .iface 44 (.int .i64 6), .bool true] w fun e w' => e = .returned (.bool true) ∧ Ext w w' := by
 have hF := fun v => eql_types 102 44 v (.int .i64 6) (by decide)
 have hL := fun v => eql_types 130 44 v (.int .i64 6) (by decide)
 have hE6 := eql_errno
 have nI := ErrFacts.noIsF
 have hI := ErrFacts.hasIsL
 have hU := ErrFacts.hasUnwrap
 have HL := hid hl
 clear hl
 go_enter Tryz.func86, Tryz.ntmps86
 go_wp2
 go_loopw [0] (fun v wr => ∃ e' : Err, v = e'.val ∧ e'.lost = true ∧ Ext w wr) (fun v _ => Err.vdepth v)
 case atStart => exact ⟨er, rfl, HL.out, Ext.refl _⟩
 case round =>
  obtain ⟨e', rfl, hk, hx⟩ := hrel
  rcases e' with n | ⟨lg, lh, ln⟩ | ⟨op, at_, e2⟩
  ·
   cases hk
  ·
   have hv : (Err.loss lg lh ln).val = .iface 130 (.agg #[.int .i64 lg, .int .i64 lh, .int .i64 ln]) := rfl
   have HX := hid hx
   clear hk hx
   go_wp2
   --M1
   go_ret
   exact ⟨rfl, HX.out.alloc _⟩
  ·
   have hv : (Err.fault op at_ e2).val = .iface 102 (.agg #[.string op, .int .i64 at_, e2.val]) := rfl
   have hk' : Hid (e2.lost = true) := hid hk
   obtain ⟨t2, v2, hq⟩ := e2.iface
   rw [hq] at hv
   have HQ := hid hq
   have HX := hid hx
   clear hk hx hq
   go_wp2
   --M2
   go_roundw
   case rel => exact ⟨e2, HQ.out.symm, hk'.out, HX.out.alloc _⟩
   case measure =>
    show Err.vdepth (.iface t2 v2) < Err.vdepth (Err.fault op at_ e2).val
    rw [← HQ.out, Err.vdepth_val, Err.vdepth_val]; exact Nat.lt_succ_self _
set_option maxRecDepth 100000 in
set_option maxHeartbeats 600000 in
theorem Is_lost (er : Err) (hl : er.lost = true) (w : World) :
  Calls Tryz.prog 54 #[er.val, .iface 44 (.int .i64 6)] w fun e w' => e = .returned (.bool true) ∧ Ext w w' := by
 have x106 := @run_callFunc_extern Tryz.prog 85 _ ReflectliteType.typeOf Tryz.func85 (by kernel_rfl) (by kernel_rfl) (by kernel_rfl) (by kernel_rfl)
 have xC := @run_callFunc_extern Tryz.prog 176 _ (ReflectliteType.method (fun t => do Rtype.noPackHeld "Comparable" t; pure (.bool (← typeInfo t).comparable))) Tryz.func176 (by kernel_rfl) (by kernel_rfl) (by kernel_rfl) (by kernel_rfl)
 have tE := ErrFacts.typeOfE
 have cE := compE2
 have HL := hid (is_lost er hl)
 obtain ⟨t2, v2, hq⟩ := er.iface
 rw [hq] at HL ⊢
 clear hl hq
 go_enter Tryz.func54, Tryz.ntmps54
 go_wp2_with (go_at_call 86; refine (HL.out _).mono ?_; rintro e w' ⟨rfl, hx⟩)
 --M3
 go_ret
 exact ⟨rfl, hx⟩
set_option maxRecDepth 100000 in
set_option maxHeartbeats 600000 in
theorem kind_err (er : Err) (w : World) (hg : EtLaid w) : Calls Tryz.prog 23 #[er.val] w fun e w' => e = .returned (.int .i64 er.kind) ∧ Ext w w' := by
 obtain ⟨t2, v2, hq⟩ := er.iface
 have HQ := hid hq
 have HI := hid (Is_lost er)
 have HK := hid (@Err.kind_lost er)
 rw [hq]
 rw [hq] at HI
 have HG := hid hg
 clear hq hg
 go_enter Tryz.func23, Tryz.ntmps23
 go_wp2_with (go_at_call 53; fail)
 have hg1 := HG.out.only ((Ext.refl w).alloc (.cells #[.int .i64 0] 44)) (fun x => x)
 have hX := (Ext.refl w).alloc (.cells #[.int .i64 0] 44)
 refine Calls.mono (by rw [← HQ.out]; exact As_c er ⟨w.heap.size, 0, none⟩ (.int .i64 0) _ hg1 (by simp) (by simp)) ?_
 rintro e w' (⟨hl, rfl, hc, ho⟩ | ⟨hl, rfl, ho⟩)
 ·
  have HO := hid ho
  clear ho hg1 hl
  go_wp2
  go_ret
  exact ⟨rfl, Ext.then hX HO.out (fun i hi e => by have : i = w.heap.size := e; omega)⟩
 ·
  have HO := hid (Ext.trans hX ho)
  have HL := hid hl
  clear ho hg1 hl hX
  go_wp2_with (go_at_call 54; refine (HI.out HL.out _).mono ?_; rintro e w2 ⟨rfl, hx⟩; have HX2 := hid hx; clear hx)
  go_ret
  exact ⟨ret_int (HK.out HL.out).symm, Ext.trans HO.out HX2.out⟩
open Go Go.RowKit
attribute [local irreducible] wpSQ
structure TS (w0 w : World) (S0 S : Nat → Prop) (r : Nat) (R : Rck) : Prop where
 rack : RackAt S w r R
 sub : ∀ b, S0 b → S b
 keep : Keeps S0 w0 w
namespace TS
variable {w0 w w' : World} {S0 S : Nat → Prop} {r : Nat} {R R' : Rck}
theorem more (h : TS w0 w S0 S r R) (e : Ext w w') : TS w0 w' S0 S r R := ⟨h.rack.ext e, h.sub, Only.ext h.keep e⟩
theorem wide (h : TS w0 w S0 S r R) (e : Ext w w') : TS w0 w' S0 (wideS S w w') r R := ⟨h.rack.pokes e fun b hb => hb.elim, fun b hb => .inl (h.sub b hb), Only.ext h.keep e⟩
theorem step (h : TS w0 w S0 S r R) (hr : RackAt S w' r R') (k : Keeps S w w') : TS w0 w' S0 S r R' := ⟨hr, h.sub, Only.trans h.keep k fun b _ hb q => hb (h.sub b q)⟩
theorem cell (h : TS w0 w S0 S r R) {p : Addr} {v : Value} (e : w0.cell? p = some v) (hp : S0 p.block) : w.cell? p = some v := Only.cell h.keep e fun q => q hp
end TS
set_option maxRecDepth 100000 in
set_option maxHeartbeats 1000000 in
theorem taint_c {S0 : Nat → Prop} {w : World} {r n m : Nat} {R0 : Rck} (h : RackAt S0 w r R0) (hl : Live R0 n m) (n6 : n ≤ 6) (m1 : 1 ≤ m) (m128 : m ≤ 128) (many : Nat) (hm8 : many ≤ 8)
  (oa : Option Addr) (olen ocap : Nat) (ha : Option Addr) (hlen hcap : Nat) (ho : ∀ i, i < olen → ∃ b off v, oa = some ⟨b, off, none⟩ ∧ w.cell? ⟨b, off + i, none⟩ = some (.int .i64 v)) (hh : ∀ i, i < hlen → ∃ b off v, ha = some ⟨b, off, none⟩ ∧ w.cell? ⟨b, off + i, none⟩ = some (.int .i64 v)) (hso : ∀ p, oa = some p → 0 < olen → S0 p.block) (hsh : ∀ p, ha = some p → 0 < hlen → S0 p.block) :
  Calls Tryz.prog 35 #[.pointer (some ⟨r, 0, none⟩), .int .i64 many, .slice oa olen ocap, .slice ha hlen hcap] w
   fun e w' => e = .returned (.tuple #[]) ∧ ∃ R' L, Tnt R0 R' n m L ∧ n - many ≤ L.length ∧ RackAt S0 w' r R' ∧ Keeps S0 w w' := by
 have HO := hid ho
 have HH := hid hh
 have HSO := hid hso; have HSH := hid hsh
 have HTS := hid (show TS w w S0 S0 r R0 from ⟨h, fun _ q => q, Only.refl _ _⟩)
 have HL := hid hl
 have HLN := hid (show R0.l.length = n from hl.len)
 have HRS := hid (fun i => show List.range (i + 1) = List.range i ++ [i] from List.range_succ)
 clear ho hh h hl hso hsh
 go_enter Tryz.func35, Tryz.ntmps35
 go_wp2_with fail
 go_loopw [9, 8] (fun t v wr => ∃ i : Nat, t = .int .i64 i ∧ i ≤ n ∧ OwnInts wr w.heap.size v (List.range i) ∧ Ext w wr) (fun t _ _ => n - (intOf t).toNat)
 case atStart => exact ⟨0, rfl, by omega, OwnInts.nil _ _, Ext.refl _⟩
 case round =>
  obtain ⟨i, rfl, hi, hv, hx⟩ := hrel
  have HX := hid hx; have HV := hid hv
  clear hx hv
  go_wp2_with fail
  refine (at_n (HTS.out.more HX.out).rack).mono ?_
  rintro e _ ⟨rfl, rfl⟩
  rw [HLN.out]
  by_cases hlt : i < n
  ·
   have i1 : (i : Int) < (n : Int) := by omega
   obtain ⟨v2, w2, hap, hv2, _, hx2⟩ := HV.out.push i (by rw [List.length_range]; omega) HX.out.size
   have HAP := hid hap
   have HV2 := hid (show OwnInts w2 w.heap.size v2 (List.range (i + 1)) from by rw [HRS.out]; exact hv2)
   have HX2 := hid (hx2 w (Nat.le_refl _) HX.out)
   clear hap hv2 hx2 HV HX
   go_wp2_with (at_builtin; refine Zaj rfl _ _ _ rfl _ _ _ _ rfl rfl HAP.out ?_)
   go_roundw
   case rel => exact ⟨i + 1, by go_num, by omega, HV2.out, HX2.out⟩
   case measure => simp [intOf]; omega
  ·
   obtain rfl : n = i := by omega
   have i1 : ¬ (n : Int) < (n : Int) := by omega
   have HV1 := hid HV.out
   obtain ⟨S1, hS1⟩ : ∃ S, wideS S0 w wr = S := ⟨_, rfl⟩
   have HT1 := hid (hS1 ▸ HTS.out.wide HX.out)
   have HVS := hid (show ∀ b, Value.ownBlock _ = some b → S1 b from fun b hb => hS1 ▸ .inr (HV1.out.lt b hb))
   have HSZ := hid HX.out.size
   have HTN := hid (Tnt.start HL.out)
   clear HV HX hS1 HTS hlt hi
   go_wp2_with fail
   go_loopw [10, 8] (fun t v wd => ∃ q : Nat, t = .int .i64 q ∧ q ≤ many ∧ ∃ R S L, Tnt R0 R n m L ∧ n - q ≤ L.length ∧ TS w wd S0 S r R ∧ OwnInts wd w.heap.size v L ∧ (∀ b, v.ownBlock = some b → S b) ∧ w.heap.size ≤ wd.heap.size) (fun t _ _ => many - (intOf t).toNat)
   case atStart => exact ⟨0, rfl, by omega, _, _, _, HTN.out, by simp, HT1.out, HV1.out, HVS.out, HSZ.out⟩
   case round =>
    clear HT1 HV1 HVS HSZ HTN
    obtain ⟨q, rfl, hq, R, S, L, htn, hll, hts, hv, hvs, hsz⟩ := hrel
    have HTN := hid htn; have HTS := hid hts; have HLL := hid hll; have HSZ := hid hsz
    have hL6 : L.length ≤ 6 := by
     have := List.Nodup.length_le_of_subset htn.nodup (l₂ := List.range n) fun d hd => List.mem_range.2 (htn.lt d hd)
     rw [List.length_range] at this; omega
    obtain ⟨lad, lcap, rfl, hlc, hints, hne⟩ := hv.at
    by_cases hlt : q < many
    ·
     have q1 : (q : Int) < (many : Int) := by omega
     by_cases hl0 : L = []
     ·
      have l0 : ¬ (0 : Int) < (L.length : Int) := by rw [hl0]; simp
      clear hlt htn hts hv hvs hints hne
      go_wp2_with fail
      go_end0
      exact ⟨rfl, R, L, HTN.out, by have := HLL.out; rw [hl0] at this; simp at this; omega, HTS.out.rack.less HTS.out.sub, HTS.out.keep⟩
     ·
      have l1 : (0 : Int) < (L.length : Int) := by have := List.length_pos_iff.2 hl0; omega
      have l6 : (L.length : Int) ≤ 6 := by omega
      obtain ⟨lg, rfl⟩ := hne hl0
      have HV := hid hv
      have HVS := hid (hvs lg rfl)
      have HIN := hid hints
      have HLC := hid hlc
      clear htn hll hts hv hvs hsz hints hlc hne hl0 hlt hq
      go_upto_if 37 with (fail)
      go_cut [11] (fun t wq => (∃ x : Nat, t = .int .i64 x ∧ x < L.length) ∧ wr = wq)
      case first =>
       by_cases hio : q < olen
       ·
        obtain ⟨ib, ioff, vi, rfl, hci⟩ := HO.out q hio
        have ci : wr.cell? ⟨ib, ioff + q, none⟩ = some (.int .i64 vi) := HTS.out.cell hci (show S0 ib from HSO.out ⟨ib, ioff, none⟩ rfl (by omega))
        have i0 : (0 : Int) ≤ (q : Int) := by omega
        have i1 : (q : Int) < (olen : Int) := by omega
        clear hci
        go_wp2_with fail
        refine (Zb7 vi 0 ((L.length : Int) - 1) _ (by omega) (by omega) (by omega)).mono ?_
        rintro e w7 ⟨rfl, rfl⟩
        obtain ⟨q0, q1⟩ := Zbc vi 0 ((L.length : Int) - 1) (by omega)
        obtain ⟨x, hx⟩ := Int.eq_ofNat_of_zero_le q0
        rw [hx]
        have hxl : x < L.length := by omega
        clear hx q0 q1
        go_wp2
        go_meet
        case rel => exact ⟨⟨x, rfl, hxl⟩, rfl⟩
       ·
        have i1 : ¬ (q : Int) < (olen : Int) := by omega
        go_wp2_with fail
        go_meet
        case rel => exact ⟨⟨0, rfl, by omega⟩, rfl⟩
      case rest =>
       obtain ⟨⟨x, rfl, hxl⟩, rfl⟩ := hcut
       go_upto_if 49 with (fail)
       go_cut [12, 13] (fun t u wq => (∃ ww : Int, t = .int .i64 ww ∧ 0 ≤ ww ∧ ww ≤ 2) ∧ (∃ ss : Nat, u = .int .i64 ss ∧ ss < m) ∧ Ext wr wq)
       case first =>
        by_cases hio : q < hlen
        ·
         obtain ⟨ib, ioff, vi, rfl, hci⟩ := HH.out q hio
         have HCI := hid (show wr.cell? ⟨ib, ioff + q, none⟩ = some (.int .i64 vi) from HTS.out.cell hci (show S0 ib from HSH.out ⟨ib, ioff, none⟩ rfl (by omega)))
         have i0 : (0 : Int) ≤ (q : Int) := by omega
         have i1 : (q : Int) < (hlen : Int) := by omega
         obtain ⟨q0, q1⟩ := Zbc vi 0 2 (by omega)
         obtain ⟨r0, r1⟩ := Zbc vi 0 ((m : Int) - 1) (by omega)
         obtain ⟨ss, hss⟩ := Int.eq_ofNat_of_zero_le r0
         have hsm : ss < m := by omega
         have xd : Ext wr wr.drew := (Ext.refl wr).drew
         have HXD := hid xd
         have cl : ∀ y : SW Ext wr.drew, y.w.cell? ⟨ib, ioff + q, none⟩ = some (.int .i64 vi) := fun y => Ext.cell (Ext.trans HXD.out y.ext) HCI.out
         have wi : Hid (∀ y : SW Ext wr.drew, Calls Tryz.prog 27 #[.int .i64 vi, .int .i64 0, .int .i64 2] y.w fun e w'' => e = .returned (.int .i64 (within vi 0 2)) ∧ Ext y.w w'') := hid fun y => (Zb7 vi 0 2 y.w (by omega) (by omega) (by omega)).mono fun e w'' q => ⟨q.1, q.2 ▸ Ext.refl _⟩
         have wj : Hid (∀ y : SW Ext wr.drew, Calls Tryz.prog 27 #[.int .i64 vi, .int .i64 0, .int .i64 ((m : Int) - 1)] y.w fun e w'' => e = .returned (.int .i64 (ss : Int)) ∧ Ext y.w w'') := hid fun y => (Zb7 vi 0 ((m : Int) - 1) y.w (by omega) (by omega) (by omega)).mono fun e w'' q => ⟨by rw [q.1, hss], q.2 ▸ Ext.refl _⟩
         have sc : Hid (∀ y : SW Ext wr.drew, Calls Tryz.prog 29 #[.pointer (some ⟨r, 0, none⟩)] y.w fun e w'' => e = .returned (.int .i64 (m : Int)) ∧ Ext y.w w'') := hid fun y => (at_sectors (HTS.out.more (Ext.trans HXD.out y.ext)).rack).mono fun e w'' q => ⟨by rw [q.1, HTN.out.live.sectors], q.2 ▸ Ext.refl _⟩
         have hw1 : wrap64 ((m : Int) - 1) = (m : Int) - 1 := by unfold wrap64; omega
         have hw2 : IntKind.i64.wrap ((m : Int) - 1) = (m : Int) - 1 := by rw [IntKind.wrap_i64]; omega
         clear xd hci r0 r1 hss
         go_wp2_with fail
         refine Zap (S := Ext) 13 (.fin [0, 1, 2, 3, 4, 5, 6, 7, 8, 9, 10, 11, 12]) (by kernel_rfl) (by kernel_rfl) (fun _ _ d _ _ h => by cases d <;> exact h) ?_
         rw [wpS]
         simp only [opsAt, opA, opB, opC, opD, opE, opF, opG]
         iterate 4 ((refine Zab (fun K hK => ?_); go_simp; refine hK _ ?_; clear hK K))
         (refine Zab (fun K hK => ?_); go_simp; (apply Exists.intro; refine ⟨fun x => ?_, hK _ ?_⟩; (exact wi.out x); clear hK K))
         iterate 5 ((refine Zab (fun K hK => ?_); go_simp; refine hK _ ?_; clear hK K))
         (refine Zab (fun K hK => ?_); go_simp; (apply Exists.intro; refine ⟨fun x => ?_, hK _ ?_⟩; (exact sc.out x); clear hK K))
         (refine Zab (fun K hK => ?_); go_simp; refine hK _ ?_; clear hK K)
         (refine Zab (fun K hK => ?_); go_simp; (apply Exists.intro; refine ⟨fun x => ?_, hK _ ?_⟩; (exact wj.out x); clear hK K))
         refine Zag ?_
         intro V3 hV3
         have HXV := hid (Ext.trans HXD.out hV3)
         clear cl wi wj sc hV3
         generalize within vi 0 2 = ww at *
         go_wp2
         go_meet
         case rel => exact ⟨⟨ww, rfl, q0, q1⟩, ⟨ss, rfl, hsm⟩, HXV.out⟩
        ·
         have i1 : ¬ (q : Int) < (hlen : Int) := by omega
         go_wp2_with fail
         go_meet
         case rel => exact ⟨⟨0, rfl, by omega, by omega⟩, ⟨0, rfl, by omega⟩, Ext.refl _⟩
       case rest =>
        obtain ⟨⟨ww, rfl, w0', w2'⟩, ⟨ss, rfl, hsm⟩, hxc⟩ := hcut
        have HT2 := hid (HTS.out.more hxc)
        have HV2 := hid (HV.out.ext hxc)
        have HXC := hid hxc
        have HIN2 := hid (HIN.out.ext hxc)
        have HSZ2 := hid (Nat.le_trans HSZ.out hxc.size)
        clear hxc HTS HV HIN HSZ
        go_upto_block 4 with (fail)
        go_cut [11] (fun u wq => u = .int .i64 (x : Int) ∧ ∃ R', Tnt R0 R' n m (L.eraseIdx x) ∧ RackAt S wq r R' ∧ Keeps S wc wq)
        case first =>
         obtain ⟨d, hd⟩ : ∃ d, L[x] = d := ⟨_, rfl⟩
         have cd : wc.cell? ⟨lg, x, none⟩ = some (.int .i64 d) := by
          obtain ⟨g', hg', hc⟩ := HIN2.out x d (by rw [List.getElem?_eq_getElem hxl, hd])
          cases hg'
          exact hc
         have x0 : (0 : Int) ≤ (x : Int) := by omega
         have x1 : (x : Int) < (L.length : Int) := by omega
         have HD := hid hd
         clear hd
         by_cases e0 : ww = 0
         ·
          subst e0
          have hb := HTN.out.die hxl
          rw [HD.out] at hb
          have HB := hid hb
          clear hb w0' w2'
          go_wp2_with fail
          refine (at_die HT2.out.rack d).mono ?_
          rintro e w8 ⟨rfl, h8, k8⟩
          have H8 := hid h8; have K8 := hid k8
          clear h8 k8
          go_wp2
          go_meet
          case rel => exact ⟨rfl, _, HB.out, H8.out, K8.out⟩
         by_cases e1 : ww = 1
         ·
          subst e1
          have hb := HTN.out.replace hxl
          rw [HD.out] at hb
          have HB := hid hb
          clear hb w0' w2'
          go_wp2_with fail
          refine (at_replace HT2.out.rack d).mono ?_
          rintro e w8 ⟨rfl, h8, k8⟩
          have H8 := hid h8; have K8 := hid k8
          clear h8 k8
          go_wp2
          go_meet
          case rel => exact ⟨rfl, _, HB.out, H8.out, K8.out⟩
         obtain rfl : ww = 2 := by omega
         have hb := HTN.out.rot hxl hsm (a := x) (by omega)
         rw [HD.out] at hb
         have HB := hid hb
         clear hb e0 e1 w0' w2'
         go_wp2_with fail
         refine (at_rot HT2.out.rack d ss x 5 (by omega)).mono ?_
         rintro e w11 ⟨rfl, h11, k11⟩
         have H11 := hid h11; have K11 := hid k11
         generalize R.rotOk d ss x 5 = bb at *
         clear h11 k11
         go_wp2
         go_meet
         case rel => exact ⟨rfl, _, HB.out, H11.out, K11.out⟩
        case rest =>
         obtain ⟨rfl, R', htn', hr', hk'⟩ := hcut
         have HTN' := hid htn'
         have HTC := hid (HT2.out.step hr' hk')
         have HVC := hid (HV2.out.only hk' (fun b hb q => q (by cases hb; exact HVS.out)))
         have HSC := hid (Nat.le_trans HSZ2.out hk'.size)
         obtain ⟨lad, lcap', hq', hlc, hints, _⟩ := HVC.out.at
         cases hq'
         have HIC := hid hints
         have HXL := hid hxl
         have hsh := slice_head lg L.length lcap x (by have := HLC.out; omega)
         have hst := slice_tail lg L.length lcap x (by omega)
         obtain ⟨ta, hta⟩ : ∃ ta : Addr, (if lcap = x + 1 then ⟨lg, 0, none⟩ else ⟨lg, x + 1, none⟩) = ta := ⟨_, rfl⟩
         rw [hta] at hst
         have HTA := hid hta
         clear hta
         have hwx : IntKind.i64.wrap ((x : Int) + 1) = (x : Int) + 1 := by rw [IntKind.wrap_i64]; omega
         have hwx2 : wrap64 ((x : Int) + 1) = (x : Int) + 1 := by unfold wrap64; omega
         generalize hwcc : wc = W0 at *
         clear htn' hr' hk' hints hlc w0' w2'
         go_wp2_with fail
         refine Zaw (E := Ext) (S := Only fun b => W0.heap.size ≤ b) (.one [1, 2, 3, 5, 6, 7, 8] 0 (.one [] 4 (.one [] 9 (.fin [10])))) (by kernel_rfl) (by kernel_rfl) (fun _ _ d _ _ h => by cases d <;> exact h) ?_
         rw [wpS]
         simp only [opsAt, opA, opB, opC, opD, opE, opF, opG]
         iterate 7 ((refine Zab (fun K hK => ?_); go_simp; refine hK _ ?_; clear hK K))
         refine Zag ?_
         intro V20 hV20
         have X20 := hid (show Ext W0 V20 from Ext.trans (Ext.refl W0).drew hV20)
         clear hV20 hsh hst
         refine Zav fun Q1 hQ1 => ?_
         go_wp2
         refine hQ1 _ _ (Ext.only ((Ext.refl _).alloc _)) ?_
         clear hQ1 Q1
         rw [wpS]
         simp only [opsAt, opA, opB, opC, opD, opE, opF, opG]
         refine Zag ?_
         intro V21 hV21
         have X21 := hid (show Ext W0 V21 from Ext.trans (X20.out.alloc _) hV21)
         obtain ⟨v1, w21, hap1, ho1, hk1⟩ := erase_one rfl HXL.out (by omega) HIC.out X21.out ((OwnInts.bare V20).ext hV21) (by have := hV21.size; simp at this; omega)
         have HAP1 := hid hap1
         have HO1 := hid ho1
         have HSZ20 := hid X20.out.size
         have HK1 := hid (show Only (fun b => W0.heap.size ≤ b) V21 w21 from hk1.mono fun i _ hb => by
          have : i = V20.heap.size := by simpa [Value.ownBlock] using hb.symm
          have := HSZ20.out
          show W0.heap.size ≤ i
          omega)
         have HSZ21 := hid (show V20.heap.size ≤ w21.heap.size by have := hV21.size; have q := hk1.size; simp at this; omega)
         clear hap1 ho1 hk1
         refine Zav fun Q2 hQ2 => ?_
         go_wp2_with (at_builtin; refine Zaj rfl _ _ _ rfl _ _ _ _ rfl rfl HAP1.out ?_)
         refine hQ2 _ _ HK1.out ?_
         clear hQ2 Q2 HAP1
         rw [wpS]
         simp only [opsAt, opA, opB, opC, opD, opE, opF, opG]
         refine Zag ?_
         intro V22 hV22
         have X22 := hid (show Ext W0 V22 from Ext.trans (Ext.then X21.out HK1.out (fun i hi hb => by have hb : W0.heap.size ≤ i := hb; omega)) hV22)
         obtain ⟨v2, w22, hap2, ho2, hk2⟩ := erase_two rfl HXL.out (by omega) HLC.out HIC.out X22.out (HO1.out.ext hV22) (Nat.le_trans HSZ21.out hV22.size)
         rw [HTA.out] at hap2
         have HAP2 := hid hap2
         have HO2 := hid ho2
         have HK2 := hid (show Only (fun b => W0.heap.size ≤ b) V22 w22 from hk2.mono fun i _ hb => by
          have := (HO1.out.lt i hb).1
          have := HSZ20.out
          show W0.heap.size ≤ i
          omega)
         clear hap2 ho2 hk2
         refine Zav fun Q3 hQ3 => ?_
         go_wp2_with (at_builtin; refine Zaj rfl _ _ _ rfl _ _ _ _ rfl rfl HAP2.out ?_)
         refine hQ3 _ _ HK2.out ?_
         clear hQ3 Q3 HAP2
         rw [wpS]
         simp only [opsAt, opA, opB, opC, opD, opE, opF, opG]
         (refine Zab (fun K hK => ?_); go_simp; refine hK _ ?_; clear hK K)
         refine Zag ?_
         intro V23 hV23
         have X23 := hid (show Ext W0 V23 from Ext.trans (Ext.then X22.out HK2.out (fun i hi hb => by have hb : W0.heap.size ≤ i := hb; omega)) hV23)
         have HO3 := hid (HO2.out.ext hV23)
         clear hV23
         have HEL := hid (show (L.eraseIdx x).length = L.length - 1 by rw [List.length_eraseIdx, if_pos HXL.out])
         have HT23 := hid (HTC.out.wide X23.out)
         have HOS := hid (show ∀ b, v2.ownBlock = some b → wideS S W0 V23 b from fun b hb => .inr ⟨Nat.le_trans HSZ20.out (HO3.out.lt b hb).1, (HO3.out.lt b hb).2⟩)
         have HO4 := hid (HO3.out.low (Nat.le_trans HSC.out HSZ20.out))
         have HS4 := hid (Nat.le_trans HSC.out X23.out.size)
         go_wp2
         go_roundw
         case rel => exact ⟨q + 1, by go_num, by omega, R', _, L.eraseIdx x, HTN'.out, by have := HEL.out; have := HLL.out; omega, HT23.out, HO4.out, HOS.out, HS4.out⟩
         case measure => simp [intOf]; omega
    ·
     have q1 : ¬ (q : Int) < (many : Int) := by omega
     have hqm : q = many := by omega
     clear hlt htn hts hv hvs hints hne
     go_wp2_with fail
     go_end0
     exact ⟨rfl, R, L, HTN.out, by have := HLL.out; omega, HTS.out.rack.less HTS.out.sub, HTS.out.keep⟩
end Go.Proofs.YthopnbklmlopkaaGreatDoor
