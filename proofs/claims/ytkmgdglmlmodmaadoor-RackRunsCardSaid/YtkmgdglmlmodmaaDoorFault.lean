/- fault.Wrap, fault.Kind. -/
import Derived.Test.YtkmgdglmlmodmaaDoorErrAsTop
namespace Go.Proofs.YtkmgdglmlmodmaaDoor
set_option linter.unusedVariables false
open Go.RowKit Go
set_option maxRecDepth 100000 in
set_option maxHeartbeats 2000000 in
theorem kind_err (er : Err) (w : World) (hg : EtLaid w) : Calls Tryd.prog 30 #[er.val] w fun e w' => e = .returned (.int .i64 er.kind) ∧ Ext w w' := by
  obtain ⟨t2, v2, hq⟩ : ∃ t v, er.val = .iface t v := by cases er <;> exact ⟨_, _, rfl⟩
  have HQ := hid hq
  rw [hq]
  have HG := hid hg
  clear hq hg
  go_enter Tryd.func30, Tryd.ntmps30
  go_wp2_with (go_at_call 74; fail)
  have hg1 := HG.out.only ((Ext.refl w).alloc (.cells #[.int .i64 0] 42)) (fun x => x)
  have hX := (Ext.refl w).alloc (.cells #[.int .i64 0] 42)
  refine Calls.mono (by rw [← HQ.out]; exact As_c er ⟨w.heap.size, 0, none⟩ (.int .i64 0) _ hg1 (by simp) (by simp)) ?_
  rintro e w' ⟨rfl, hc, ho⟩
  have HO := hid ho
  clear ho hg1
  go_wp2
  go_ret
  exact ⟨rfl, Ext.then hX HO.out (fun i hi e => by have : i = w.heap.size := e; omega)⟩
set_option maxRecDepth 100000 in
theorem As_nil (t : Value) (w : World) : Calls Tryd.prog 74 #[.nilIface, t] w fun e w' => e = .returned (.bool false) ∧ w = w' := by
  go_enter Tryd.func74, Tryd.ntmps74
  go_wp2
  go_ret
  exact ⟨rfl, rfl⟩
theorem eql_nil_iface (t : TypeId) (v : Value) (w : World) : (binOp .eql 24 .nilIface (.iface t v)).run Tryd.prog w = .ok (.bool false) w := by
  have h : ∀ d : Nat, (Op.equalIn (d + 1) 24 .nilIface (.iface t v)).run Tryd.prog w = .ok false w := fun d => by simp [Op.equalIn, run_underlying Tryd.underlying24]
  simp only [binOp]
  simp [Op.equal, Op.maxDepth, h 9999]
set_option maxRecDepth 100000 in
theorem Is_nil (t : TypeId) (v : Value) (w : World) : Calls Tryd.prog 75 #[.nilIface, .iface t v] w fun e w' => e = .returned (.bool false) ∧ w = w' := by
  have hE := eql_nil_iface t v
  go_enter Tryd.func75, Tryd.ntmps75
  go_wp2
  go_ret
  exact ⟨rfl, rfl⟩
set_option maxRecDepth 100000 in
set_option maxHeartbeats 2000000 in
theorem kind_nil (w : World) : Calls Tryd.prog 30 #[.nilIface] w fun e w' => e = .returned (.int .i64 0) ∧ Ext w w' := by
  go_enter Tryd.func30, Tryd.ntmps30
  go_wp2_with (first
    | (go_at_call 74; refine (As_nil _ _).mono ?_; rintro e w' ⟨rfl, rfl⟩)
    | (go_at_call 75; refine (Is_nil _ _ _).mono ?_; rintro e w' ⟨rfl, rfl⟩))
  go_ret
  exact ⟨rfl, (Ext.refl w).alloc _⟩
theorem wrap_nil (op : ByteArray) (n : Int) (w : World) : Calls Tryd.prog 61 #[.string op, .int .i64 n, .nilIface] w fun e w' => e = .returned .nilIface ∧ w = w' := by
  go_enter Tryd.func61, Tryd.ntmps61
  go_wp2
  go_ret
  exact ⟨rfl, rfl⟩
theorem wrap_err (op : ByteArray) (n : Int) (er : Err) (w : World) : Calls Tryd.prog 61 #[.string op, .int .i64 n, er.val] w fun e w' => e = .returned (Err.fault op n er).val ∧ w = w' := by
  obtain ⟨t2, v2, hq⟩ : ∃ t v, er.val = .iface t v := by cases er <;> exact ⟨_, _, rfl⟩
  have hv : (Err.fault op n er).val = .iface 141 (.agg #[.string op, .int .i64 n, .iface t2 v2]) := by rw [← hq]; rfl
  rw [hq, hv]
  clear hq hv
  go_enter Tryd.func61, Tryd.ntmps61
  go_wp2
  go_ret
  exact ⟨rfl, rfl⟩
end Go.Proofs.YtkmgdglmlmodmaaDoor
