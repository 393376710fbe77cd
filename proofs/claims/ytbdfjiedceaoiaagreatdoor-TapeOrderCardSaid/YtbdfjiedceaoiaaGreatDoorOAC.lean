/- Texts of one proof, joined: ErrLoss, LossAs, LostC, LossEq, KindAny. -/
import Derived.Test.YtbdfjiedceaoiaaGreatDoorOC
import Derived.Test.YtbdfjiedceaoiaaGreatDoorOA
import Derived.LaidEql
import Derived.Stop.Asserts
import Derived.RowKitTokens
import Derived.Handy
import Derived.Test.YtbdfjiedceaoiaaGreatDoorOB
set_option linter.unusedVariables false
set_option linter.unusedSimpArgs false
namespace Go.Proofs.YtbdfjiedceaoiaaGreatDoor
set_option linter.unusedVariables false
open Go.RowKit Go.Extern.Stop Go.Stop Go.Extern Go
namespace LossFacts
end LossFacts
namespace Err
end Err
open Go Go.RowKit
theorem eql_types (t t' : TypeId) (v v' : Value) (h : t ≠ t') (w : World) : (binOp .eql 31 (.iface t v) (.iface t' v')).run Tryz.prog w = .ok (.bool false) w := by
 have h0 : ∀ d : Nat, (Op.equalIn (d + 1) 31 (.iface t v) (.iface t' v')).run Tryz.prog w = .ok false w := fun d => by simp [Op.equalIn, run_underlying Tryz.underlying31, h]
 simp only [binOp]
 simp [Op.equal, Op.maxDepth, h0 9999]
theorem compE2 (w : World) : Sem.run Tryz.prog (ReflectliteType.method (fun t => do Rtype.noPackHeld "Comparable" t; (fun a => Value.bool a.comparable) <$> typeInfo t) #[.agg #[.pointer (some ⟨1, 41, none⟩)]]) w = .ok (.bool true) w := by kernel_rfl
theorem eql_errno (w : World) : Sem.run Tryz.prog (binOp .eql 31 (.iface 41 (.int .i64 6)) (.iface 41 (.int .i64 6))) w = .ok (.bool true) w := by kernel_rfl
set_option maxRecDepth 100000 in
set_option maxHeartbeats 2000000 in
theorem is_lost (er : Err) (hl : er.lost = true) (w : World) :
  Calls Tryz.prog 86 #[er.val, .iface 41 (.int .i64 6), .bool true] w fun e w' => e = .returned (.bool true) ∧ Ext w w' := by
 have hF := fun v => eql_types 116 41 v (.int .i64 6) (by decide)
 have hL := fun v => eql_types 70 41 v (.int .i64 6) (by decide)
 have hE6 := eql_errno
 have nI := ErrFacts.noIsF
 have hI := ErrFacts.hasIsL
 have hU := ErrFacts.hasUnwrap
 have HL := hid hl
 clear hl
 go_enter Tryz.func86, Tryz.ntmps86
 go_wp2
 go_loopw [0] (fun v wr => ∃ e' : Err, v = e'.val ∧ e'.lost = true ∧ Ext w wr) (fun v _ => Err.vdepth v)
 case atStart => exact ⟨er, rfl, HL.out, Ext.refl _⟩
 case round =>
  obtain ⟨e', rfl, hk, hx⟩ := hrel
  rcases e' with n | ⟨lg, lh, ln⟩ | ⟨op, at_, e2⟩
  ·
   cases hk
  ·
   have hv : (Err.loss lg lh ln).val = .iface 70 (.agg #[.int .i64 lg, .int .i64 lh, .int .i64 ln]) := rfl
   have HX := hid hx
   clear hk hx
   go_wp2
   --M1
   go_ret
   exact ⟨rfl, HX.out.alloc _⟩
  ·
   have hv : (Err.fault op at_ e2).val = .iface 116 (.agg #[.string op, .int .i64 at_, e2.val]) := rfl
   have hk' : Hid (e2.lost = true) := hid hk
   obtain ⟨t2, v2, hq⟩ := e2.iface
   rw [hq] at hv
   have HQ := hid hq
   have HX := hid hx
   clear hk hx hq
   go_wp2
   --M2
   go_roundw
   case rel => exact ⟨e2, HQ.out.symm, hk'.out, HX.out.alloc _⟩
   case measure =>
    show Err.vdepth (.iface t2 v2) < Err.vdepth (Err.fault op at_ e2).val
    rw [← HQ.out, Err.vdepth_val, Err.vdepth_val]; exact Nat.lt_succ_self _
set_option maxRecDepth 100000 in
set_option maxHeartbeats 2000000 in
theorem Is_lost (er : Err) (hl : er.lost = true) (w : World) :
  Calls Tryz.prog 51 #[er.val, .iface 41 (.int .i64 6)] w fun e w' => e = .returned (.bool true) ∧ Ext w w' := by
 have x106 := @run_callFunc_extern Tryz.prog 85 _ ReflectliteType.typeOf Tryz.func85 (by kernel_rfl) (by kernel_rfl) (by kernel_rfl) (by kernel_rfl)
 have xC := @run_callFunc_extern Tryz.prog 182 _ (ReflectliteType.method (fun t => do Rtype.noPackHeld "Comparable" t; pure (.bool (← typeInfo t).comparable))) Tryz.func182 (by kernel_rfl) (by kernel_rfl) (by kernel_rfl) (by kernel_rfl)
 have tE := ErrFacts.typeOfE
 have cE := compE2
 have HL := hid (is_lost er hl)
 obtain ⟨t2, v2, hq⟩ := er.iface
 rw [hq] at HL ⊢
 clear hl hq
 go_enter Tryz.func51, Tryz.ntmps51
 go_wp2_with (go_at_call 86; refine (HL.out _).mono ?_; rintro e w' ⟨rfl, hx⟩)
 --M3
 go_ret
 exact ⟨rfl, hx⟩
set_option maxRecDepth 100000 in
set_option maxHeartbeats 2000000 in
theorem kind_err (er : Err) (w : World) (hg : EtLaid w) : Calls Tryz.prog 17 #[er.val] w fun e w' => e = .returned (.int .i64 er.kind) ∧ Ext w w' := by
 obtain ⟨t2, v2, hq⟩ := er.iface
 have HQ := hid hq
 have HI := hid (Is_lost er)
 have HK := hid (@Err.kind_lost er)
 rw [hq]
 rw [hq] at HI
 have HG := hid hg
 clear hq hg
 go_enter Tryz.func17, Tryz.ntmps17
 go_wp2_with (go_at_call 50; fail)
 have hg1 := HG.out.only ((Ext.refl w).alloc (.cells #[.int .i64 0] 41)) (fun x => x)
 have hX := (Ext.refl w).alloc (.cells #[.int .i64 0] 41)
 refine Calls.mono (by rw [← HQ.out]; exact As_c er ⟨w.heap.size, 0, none⟩ (.int .i64 0) _ hg1 (by simp) (by simp)) ?_
 rintro e w' (⟨hl, rfl, hc, ho⟩ | ⟨hl, rfl, ho⟩)
 ·
  have HO := hid ho
  clear ho hg1 hl
  go_wp2
  go_ret
  exact ⟨rfl, Ext.then hX HO.out (fun i hi e => by have : i = w.heap.size := e; omega)⟩
 ·
  have HO := hid (Ext.trans hX ho)
  have HL := hid hl
  clear ho hg1 hl hX
  go_wp2_with (go_at_call 51; refine (HI.out HL.out _).mono ?_; rintro e w2 ⟨rfl, hx⟩; have HX2 := hid hx; clear hx)
  go_ret
  exact ⟨ret_int (HK.out HL.out).symm, Ext.trans HO.out HX2.out⟩
end Go.Proofs.YtbdfjiedceaoiaaGreatDoor
