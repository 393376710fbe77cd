/- errors.As at an *api.Errno target. -/
import Derived.Test.YtkmgdglmlmodmaaDoorErrFacts
import Derived.Handy
import Derived.Test.YtkmgdglmlmodmaaDoorAgg
namespace Go.Proofs.YtkmgdglmlmodmaaDoor
set_option linter.unusedVariables false
open Go.RowKit Go.Extern.Stop Go.Stop Go.Extern Go
namespace ErrFacts
theorem rlm (z : Sem Value) (f : TypeId → Addr → Nat → Nat → Sem Value) (v : Value) :
    ReflectliteValue.method z f #[v] = (do match ← ReflectliteValue.parts v with | none => z | some (t, a, fl) => f t a fl (fl % 32)) := rfl
theorem isNilP (a p : Addr) (W : World) (ha : W.cell? a = some (.pointer (some p))) :
    (ReflectliteValue.method (ReflectliteValue.valueError "reflectlite.Value.IsNil" 0) ReflectliteValue.isNil #[.agg #[.pointer (some ⟨1, 121, none⟩), .pointer (some a), .int .u64 150]]).run Tryd.prog W = .ok (.bool false) W := by
  rw [rlm]
  simp only [Sem.run_bind, partsP, Result.andThen]
  simp [ReflectliteValue.isNil, loadVar, isAgg, underlying, Tryd.underlying121, ha, Result.andThen]
theorem elemV (a p : Addr) (W : World) (ha : W.cell? a = some (.pointer (some p))) :
    (ReflectliteValue.method (ReflectliteValue.valueError "reflectlite.Value.Elem" 0) ReflectliteValue.elem #[.agg #[.pointer (some ⟨1, 121, none⟩), .pointer (some a), .int .u64 150]]).run Tryd.prog W
      = .ok (.agg #[.pointer (some ⟨1, 42, none⟩), .pointer (some p), .int .u64 386]) W := by
  rw [rlm]
  simp only [Sem.run_bind, partsP, Result.andThen]
  simp [ReflectliteValue.elem, loadVar, isAgg, underlying, Tryd.underlying121, ha, Result.andThen, elemOfP, mkE]
theorem rls (v x : Value) : ReflectliteValue.set #[v, x] = (do
    let (some (dst, a, fl), some (src, b, _)) := (← ReflectliteValue.parts v, ← ReflectliteValue.parts x)
      | unsupported (.noEntry "extern/(internal/reflectlite.Value).Set.zeroValue")
    if fl / ReflectliteValue.flagAddr % 2 == 0 then unsupported (.noEntry "extern/(internal/reflectlite.Value).Set.unaddressable")
    let val ← loadVar src b
    if ← Rtype.directlyAssignable dst src then storeVar dst a val
    else if ← Rtype.implements dst src then
      if (← Rtype.kind src) == 20 then
        match val with
        | .nilIface => unsupported (.noEntry "extern/reflectlite: a nil value of one interface type handed on as a value of another")
        | _ => storeVar dst a val
      else storeVar dst a (.iface src val)
    else panicString ("reflectlite.Set: value of type " ++ (← Rtype.spelt src) ++ " is not assignable to type " ++ (← Rtype.spelt dst))
    pure (.tuple #[])) := rfl
theorem setE (ta b : Addr) (n : Int) (old : Value) (W : World) (hb : W.cell? b = some (.int .i64 n)) (ht : W.cell? ta = some old) (hf : W.frozen? ta = false) :
    (ReflectliteValue.set #[.agg #[.pointer (some ⟨1, 42, none⟩), .pointer (some ta), .int .u64 386], .agg #[.pointer (some ⟨1, 42, none⟩), .pointer (some b), .int .u64 130]]).run Tryd.prog W
      = .ok (.tuple #[]) (W.setCell ta (.int .i64 n)) := by
  rw [rls]
  simp only [Sem.run_bind, partsEa, partsE, Result.andThen]
  simp [ReflectliteValue.flagAddr, loadVar, isAgg, underlying, Tryd.underlying42, hb, Result.andThen, directE, storeVar, Value.cells, storeCells, Addr.add]
  rw [run_store Tryd.prog W ta _ _ (by rfl)]
  simp [ht, hf]
theorem noAs (v : Value) (w : World) : Sem.run Tryd.prog (Instr.typeAssert (.iface 141 v) 24 183 true) w = .ok (.tuple #[.nilIface, .bool false]) w :=
  run_typeAssert_lacksB Tryd.underlying183 (by kernel_rfl) (by kernel_rfl) v _ w
theorem hasUnwrap (v : Value) (w : World) : Sem.run Tryd.prog (Instr.typeAssert (.iface 141 v) 24 186 true) w = .ok (.tuple #[.iface 141 v, .bool true]) w := by kernel_rfl
end ErrFacts
theorem agg_cells' {w : World} {g : Nat} {A : Array Value} {t : TypeId} {fr : Nat × Nat} (h : w.heap[g]? = some (.cells A t fr)) : ∀ j v, A.toList[j]? = some v → w.cell? ((⟨g, 0, none⟩ : Addr).add j) = some v := by
  intro j v hv
  have e : (⟨g, 0, none⟩ : Addr).add j = ⟨g, j, none⟩ := by unfold Addr.add; split <;> simp_all
  rw [e, cell_at h]
  simpa using hv
theorem frozen_ext {w w' : World} (h : Ext w w') {p : Addr} (hp : p.block < w.heap.size) : w'.frozen? p = w.frozen? p := by
  unfold World.frozen?
  rw [h.block p.block hp (fun x => x)]
/-- An error as a chain. -/
inductive Err where
  | no (n : Int)
  | fault (op : ByteArray) (at_ : Int) (e : Err)
namespace Err
def val : Err → Value
  | no n => .iface 42 (.int .i64 n)
  | fault op a e => .iface 141 (.agg #[.string op, .int .i64 a, e.val])
def kind : Err → Int
  | no n => n
  | fault _ _ e => e.kind
def depth : Err → Nat
  | no _ => 0
  | fault _ _ e => e.depth + 1
/-- The depth, read off a value. -/
noncomputable def vdepth (v : Value) : Nat := open Classical in if h : ∃ e : Err, e.val = v then (Classical.choose h).depth else 0
theorem val_inj : ∀ {a b : Err}, a.val = b.val → a = b
  | .no n, .no m, h => by simp [val] at h; rw [h]
  | .no n, .fault _ _ _, h => by simp [val] at h
  | .fault _ _ _, .no n, h => by simp [val] at h
  | .fault o i e, .fault o' i' e', h => by
    simp [val] at h
    obtain ⟨h1, h2, h3⟩ := h
    rw [h1, h2, val_inj h3]
theorem vdepth_val (e : Err) : vdepth e.val = e.depth := by
  have h : ∃ e' : Err, e'.val = e.val := ⟨e, rfl⟩
  unfold vdepth
  rw [dif_pos h, val_inj (Classical.choose_spec h)]
end Err
set_option maxRecDepth 100000 in
set_option maxHeartbeats 2000000 in
theorem as_c (er : Err) (ta a : Addr) (old : Value) (w : World) (hf : w.frozen? ta = false) (ht : w.cell? ta = some old) (ha : w.cell? a = some (.pointer (some ta))) :
    Calls Tryd.prog 105 #[er.val, .iface 121 (.pointer (some ta)), .agg #[.pointer (some ⟨1, 121, none⟩), .pointer (some a), .int .u64 150], .iface 179 (.agg #[.pointer (some ⟨1, 42, none⟩)])] w
      fun e w' => e = .returned (.bool true) ∧ w'.cell? ta = some (.int .i64 er.kind) ∧ Only (fun k => k = ta.block) w w' := by
  have x106 := @run_callFunc_extern Tryd.prog 106 _ ReflectliteType.typeOf Tryd.func106 (by kernel_rfl) (by kernel_rfl) (by kernel_rfl) (by kernel_rfl)
  have x111 := @run_callFunc_extern Tryd.prog 111 _ (ReflectliteValue.method (ReflectliteValue.valueError "reflectlite.Value.Elem" 0) ReflectliteValue.elem) Tryd.func111 (by kernel_rfl) (by kernel_rfl) (by kernel_rfl) (by kernel_rfl)
  have x112 := @run_callFunc_extern Tryd.prog 112 _ ReflectliteValue.set Tryd.func112 (by kernel_rfl) (by kernel_rfl) (by kernel_rfl) (by kernel_rfl)
  have x102 := @run_callFunc_extern Tryd.prog 102 _ (fun args => ReflectliteValue.unpack (args.getD 0 (.tuple #[]))) Tryd.func102 (by kernel_rfl) (by kernel_rfl) (by kernel_rfl) (by kernel_rfl)
  have x141 := @run_callFunc_extern Tryd.prog 141 _ (ReflectliteType.relation "AssignableTo" ReflectliteType.assignableTo) Tryd.func141 (by kernel_rfl) (by kernel_rfl) (by kernel_rfl) (by kernel_rfl)
  have tO := ErrFacts.typeOfE
  have aE := ErrFacts.assE
  have vE := ErrFacts.valueOfE
  have tF := ErrFacts.typeOfF
  have aF := ErrFacts.assF
  have htl := World.block_lt_of_cell? w _ ht
  have hal := World.block_lt_of_cell? w _ ha
  have HT := hid ht; have HF := hid hf; have HA := hid ha
  clear ht hf ha
  go_enter Tryd.func105, Tryd.ntmps105
  go_wp2
  have hbox : (w.alloc (.cells #[.pointer (some ⟨1, 121, none⟩), .pointer (some a), .int .u64 150] 162)).heap[w.heap.size]? = some (.cells #[.pointer (some ⟨1, 121, none⟩), .pointer (some a), .int .u64 150] 162 (0, 0)) := block_alloc
  have hX0 : Ext w (w.alloc (.cells #[.pointer (some ⟨1, 121, none⟩), .pointer (some a), .int .u64 150] 162)) := (Ext.refl w).alloc _
  generalize (w.alloc (.cells #[.pointer (some ⟨1, 121, none⟩), .pointer (some a), .int .u64 150] 162)) = W at *
  go_loopw [0] (fun v wr => ∃ e' : Err, v = e'.val ∧ e'.kind = er.kind ∧ Ext W wr) (fun v _ => Err.vdepth v)
  case atStart => exact ⟨er, rfl, rfl, Ext.refl _⟩
  case round =>
    obtain ⟨e', rfl, hk, hXr⟩ := hrel
    have hX1 : Ext w wr := Ext.trans hX0 hXr
    have hbox := hXr.at hbox
    have ta1 := hX1.cell HT.out
    have aa1 := hX1.cell HA.out
    have fa1 : wr.frozen? ta = false := by rw [frozen_ext hX1 htl]; exact HF.out
    have htl1 := World.block_lt_of_cell? wr _ ta1
    rcases e' with n | ⟨op, at_, e2⟩
    · have hv : (Err.no n).val = .iface 42 (.int .i64 n) := rfl
      have hk' : Hid (n = er.kind) := hid hk
      have el := ErrFacts.elemV a ta wr aa1
      have st := ErrFacts.setE ta ⟨wr.heap.size, 0, none⟩ n old (wr.alloc (.cells #[.int .i64 n] 42))
        (by rw [World.cell?_alloc_at _ _ _ _ rfl]; rfl)
        (by rw [World.cell?_alloc_lt _ _ ta htl1]; exact ta1)
        (by rw [World.frozen?_alloc_old _ _ ta (Nat.ne_of_lt htl1)]; exact fa1)
      have HTA := hid ta1
      have HBX := hid hbox
      clear hk ta1 fa1 aa1 tF aF hbox
      go_wp2_with (refine wpList_load_agg rfl 162 _ rfl ⟨w.heap.size, 0, none⟩ rfl _ ⟨by kernel_rfl, by kernel_rfl⟩ (agg_cells' HBX.out) ?_)
      go_ret
      refine ⟨rfl, ?_, Only.setCell (F := fun k => k = ta.block) (Ext.only (hX1.alloc _)) (p := ta) (.inr rfl) _⟩
      rw [← hk'.out]
      exact World.cell?_setCell_same _ _ _ (by rw [World.cell?_alloc_lt _ _ ta htl1]; exact HTA.out)
    · have hv : (Err.fault op at_ e2).val = .iface 141 (.agg #[.string op, .int .i64 at_, e2.val]) := rfl
      have hk' : Hid (e2.kind = er.kind) := hid hk
      obtain ⟨t2, v2, hq⟩ : ∃ t v, e2.val = .iface t v := by cases e2 <;> exact ⟨_, _, rfl⟩
      rw [hq] at hv
      have HQ := hid hq
      have nA := ErrFacts.noAs
      have hU := ErrFacts.hasUnwrap
      clear hk ta1 fa1 aa1 tO aE vE hq
      go_wp2
      go_roundw
      case rel => exact ⟨e2, HQ.out.symm, hk'.out, Ext.trans hXr ((Ext.refl wr).alloc _)⟩
      case measure =>
        show Err.vdepth (.iface t2 v2) < Err.vdepth (Err.fault op at_ e2).val
        rw [← HQ.out, Err.vdepth_val, Err.vdepth_val]; exact Nat.lt_succ_self _
end Go.Proofs.YtkmgdglmlmodmaaDoor
