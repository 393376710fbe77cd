/- Texts of one proof, joined: ErrFacts, ErrAs, ErrAsTop, Fault, Handle. -/
import Derived.Test.YtdbjojnejkklhaaDoorPartA
import Derived.LaidEql
import Derived.Stop.Asserts
import Derived.RowKitTokens
import Derived.Handy
import Derived.Test.YtdbjojnejkklhaaDoorRows
import Derived.ChangeSame
import Derived.ChangeVars
import Derived.JoinedOf
import Derived.RowKit
import Derived.LaidLaws
import Derived.LaidHandle
import Derived.Stop.Joined
set_option linter.unusedVariables false
set_option linter.unusedSimpArgs false
/- What the model's entries for internal/reflectlite answer at this program's error types. -/
namespace Go.Proofs.YtdbjojnejkklhaaDoor
set_option linter.unusedVariables false
open Go.RowKit Go.Extern.Stop Go.Stop Go.Extern Go
namespace ErrFacts

theorem valueOfP (t : Addr) (w : World) : (ReflectliteValue.unpack (.iface 104 (.pointer (some t)))).run Tryd.prog w
    = .ok (.agg #[.pointer (some ⟨1, 104, none⟩), .pointer (some ⟨w.heap.size, 0, none⟩), .int .u64 150]) (w.alloc (.cells #[.pointer (some t)] 104)) := by kernel_rfl
theorem typeP (a : Addr) (w : World) : (ReflectliteValue.methodAny (ReflectliteValue.valueError "reflectlite.Value.Type" 0) (fun t _ _ _ => ReflectliteType.toType t) #[.agg #[.pointer (some ⟨1, 104, none⟩), .pointer (some a), .int .u64 150]]).run Tryd.prog w
    = .ok (.iface 150 (.agg #[.pointer (some ⟨1, 104, none⟩)])) w := by kernel_rfl
theorem kindP (w : World) : ((ReflectliteType.abiMethod fun t => (fun a : Nat => Value.int IntKind.u8 (a : Int)) <$> Rtype.kind t) #[.pointer (some ⟨1, 104, none⟩)]).run Tryd.prog w = .ok (.int .u8 22) w := by kernel_rfl
theorem kindE (w : World) : ((ReflectliteType.abiMethod fun t => (fun a : Nat => Value.int IntKind.u8 (a : Int)) <$> Rtype.kind t) #[.pointer (some ⟨1, 50, none⟩)]).run Tryd.prog w = .ok (.int .u8 2) w := by kernel_rfl
theorem elemP (w : World) : (ReflectliteType.method ReflectliteType.elem #[.agg #[.pointer (some ⟨1, 104, none⟩)]]).run Tryd.prog w = .ok (.iface 150 (.agg #[.pointer (some ⟨1, 50, none⟩)])) w := by kernel_rfl
theorem implE (w : World) : (ReflectliteType.relation "Implements" ReflectliteType.implements_ #[.agg #[.pointer (some ⟨1, 50, none⟩)], .iface 150 (.agg #[.pointer (some ⟨1, 26, none⟩)])]).run Tryd.prog w = .ok (.bool true) w := by kernel_rfl
theorem typeOfE (v : Value) (w : World) : (ReflectliteType.typeOf #[.iface 50 v]).run Tryd.prog w = .ok (.iface 150 (.agg #[.pointer (some ⟨1, 50, none⟩)])) w := by kernel_rfl
theorem typeOfF (v : Value) (w : World) : (ReflectliteType.typeOf #[.iface 123 v]).run Tryd.prog w = .ok (.iface 150 (.agg #[.pointer (some ⟨1, 123, none⟩)])) w := by kernel_rfl
theorem assE (w : World) : (ReflectliteType.relation "AssignableTo" ReflectliteType.assignableTo #[.agg #[.pointer (some ⟨1, 50, none⟩)], .iface 150 (.agg #[.pointer (some ⟨1, 50, none⟩)])]).run Tryd.prog w = .ok (.bool true) w := by kernel_rfl
theorem assF (w : World) : (ReflectliteType.relation "AssignableTo" ReflectliteType.assignableTo #[.agg #[.pointer (some ⟨1, 123, none⟩)], .iface 150 (.agg #[.pointer (some ⟨1, 50, none⟩)])]).run Tryd.prog w = .ok (.bool false) w := by kernel_rfl
theorem valueOfE (n : Int) (w : World) : (ReflectliteValue.unpack (.iface 50 (.int .i64 n))).run Tryd.prog w
    = .ok (.agg #[.pointer (some ⟨1, 50, none⟩), .pointer (some ⟨w.heap.size, 0, none⟩), .int .u64 130]) (w.alloc (.cells #[.int .i64 n] 50)) := by kernel_rfl
theorem elemOfP (w : World) : (Rtype.elem? 104).run Tryd.prog w = .ok (some 50) w := by kernel_rfl
theorem mkE (p : Addr) (w : World) : (ReflectliteValue.mk 50 p ReflectliteValue.flagAddr).run Tryd.prog w = .ok (.agg #[.pointer (some ⟨1, 50, none⟩), .pointer (some p), .int .u64 386]) w := by kernel_rfl
theorem partsP (a : Addr) (w : World) : (ReflectliteValue.parts (.agg #[.pointer (some ⟨1, 104, none⟩), .pointer (some a), .int .u64 150])).run Tryd.prog w = .ok (some (104, a, 150)) w := by kernel_rfl
theorem partsEa (a : Addr) (w : World) : (ReflectliteValue.parts (.agg #[.pointer (some ⟨1, 50, none⟩), .pointer (some a), .int .u64 386])).run Tryd.prog w = .ok (some (50, a, 386)) w := by kernel_rfl
theorem partsE (a : Addr) (w : World) : (ReflectliteValue.parts (.agg #[.pointer (some ⟨1, 50, none⟩), .pointer (some a), .int .u64 130])).run Tryd.prog w = .ok (some (50, a, 130)) w := by kernel_rfl
theorem directE (w : World) : (Rtype.directlyAssignable 50 50).run Tryd.prog w = .ok true w := by kernel_rfl
end ErrFacts
end Go.Proofs.YtdbjojnejkklhaaDoor

/- errors.As at an *api.Errno target. -/
namespace Go.Proofs.YtdbjojnejkklhaaDoor
set_option linter.unusedVariables false
open Go.RowKit Go.Extern.Stop Go.Stop Go.Extern Go
namespace ErrFacts
theorem rlm (z : Sem Value) (f : TypeId → Addr → Nat → Nat → Sem Value) (v : Value) :
    ReflectliteValue.method z f #[v] = (do match ← ReflectliteValue.parts v with | none => z | some (t, a, fl) => f t a fl (fl % 32)) := rfl
theorem isNilP (a p : Addr) (W : World) (ha : W.cell? a = some (.pointer (some p))) :
    (ReflectliteValue.method (ReflectliteValue.valueError "reflectlite.Value.IsNil" 0) ReflectliteValue.isNil #[.agg #[.pointer (some ⟨1, 104, none⟩), .pointer (some a), .int .u64 150]]).run Tryd.prog W = .ok (.bool false) W := by
  rw [rlm]
  simp only [Sem.run_bind, partsP, Result.andThen]
  simp [ReflectliteValue.isNil, loadVar, isAgg, underlying, Tryd.underlying104, ha, Result.andThen]
theorem elemV (a p : Addr) (W : World) (ha : W.cell? a = some (.pointer (some p))) :
    (ReflectliteValue.method (ReflectliteValue.valueError "reflectlite.Value.Elem" 0) ReflectliteValue.elem #[.agg #[.pointer (some ⟨1, 104, none⟩), .pointer (some a), .int .u64 150]]).run Tryd.prog W
      = .ok (.agg #[.pointer (some ⟨1, 50, none⟩), .pointer (some p), .int .u64 386]) W := by
  rw [rlm]
  simp only [Sem.run_bind, partsP, Result.andThen]
  simp [ReflectliteValue.elem, loadVar, isAgg, underlying, Tryd.underlying104, ha, Result.andThen, elemOfP, mkE]
theorem rls (v x : Value) : ReflectliteValue.set #[v, x] = (do
    let (some (dst, a, fl), some (src, b, _)) := (← ReflectliteValue.parts v, ← ReflectliteValue.parts x)
      | unsupported (.noEntry "extern/(internal/reflectlite.Value).Set.zeroValue")
    if fl / ReflectliteValue.flagAddr % 2 == 0 then unsupported (.noEntry "extern/(internal/reflectlite.Value).Set.unaddressable")
    let val ← loadVar src b
    if ← Rtype.directlyAssignable dst src then storeVar dst a val
    else if ← Rtype.implements dst src then
      if (← Rtype.kind src) == 20 then
        match val with
        | .nilIface => unsupported (.noEntry "extern/reflectlite: a nil value of one interface type handed on as a value of another")
        | _ => storeVar dst a val
      else storeVar dst a (.iface src val)
    else panicString ("reflectlite.Set: value of type " ++ (← Rtype.spelt src) ++ " is not assignable to type " ++ (← Rtype.spelt dst))
    pure (.tuple #[])) := rfl
theorem setE (ta b : Addr) (n : Int) (old : Value) (W : World) (hb : W.cell? b = some (.int .i64 n)) (ht : W.cell? ta = some old) (hf : W.frozen? ta = false) :
    (ReflectliteValue.set #[.agg #[.pointer (some ⟨1, 50, none⟩), .pointer (some ta), .int .u64 386], .agg #[.pointer (some ⟨1, 50, none⟩), .pointer (some b), .int .u64 130]]).run Tryd.prog W
      = .ok (.tuple #[]) (W.setCell ta (.int .i64 n)) := by
  rw [rls]
  simp only [Sem.run_bind, partsEa, partsE, Result.andThen]
  simp [ReflectliteValue.flagAddr, loadVar, isAgg, underlying, Tryd.underlying50, hb, Result.andThen, directE, storeVar, Value.cells, storeCells, Addr.add]
  rw [run_store Tryd.prog W ta _ _ (by rfl)]
  simp [ht, hf]
theorem noAs (v : Value) (w : World) : Sem.run Tryd.prog (Instr.typeAssert (.iface 123 v) 26 154 true) w = .ok (.tuple #[.nilIface, .bool false]) w :=
  run_typeAssert_lacksB Tryd.underlying154 (by kernel_rfl) (by kernel_rfl) v _ w
theorem hasUnwrap (v : Value) (w : World) : Sem.run Tryd.prog (Instr.typeAssert (.iface 123 v) 26 157 true) w = .ok (.tuple #[.iface 123 v, .bool true]) w := by kernel_rfl
end ErrFacts
theorem agg_cells' {w : World} {g : Nat} {A : Array Value} {t : TypeId} {fr : Nat × Nat} (h : w.heap[g]? = some (.cells A t fr)) : ∀ j v, A.toList[j]? = some v → w.cell? ((⟨g, 0, none⟩ : Addr).add j) = some v := by
  intro j v hv
  have e : (⟨g, 0, none⟩ : Addr).add j = ⟨g, j, none⟩ := by unfold Addr.add; split <;> simp_all
  rw [e, cell_at h]
  simpa using hv
theorem frozen_ext {w w' : World} (h : Ext w w') {p : Addr} (hp : p.block < w.heap.size) : w'.frozen? p = w.frozen? p := by
  unfold World.frozen?
  rw [h.block p.block hp (fun x => x)]
/-- An error as a chain. -/
inductive Err where
  | no (n : Int)
  | fault (op : ByteArray) (at_ : Int) (e : Err)
namespace Err
def val : Err → Value
  | no n => .iface 50 (.int .i64 n)
  | fault op a e => .iface 123 (.agg #[.string op, .int .i64 a, e.val])
def kind : Err → Int
  | no n => n
  | fault _ _ e => e.kind
def depth : Err → Nat
  | no _ => 0
  | fault _ _ e => e.depth + 1
/-- The depth, read off a value. -/
noncomputable def vdepth (v : Value) : Nat := open Classical in if h : ∃ e : Err, e.val = v then (Classical.choose h).depth else 0
theorem val_inj : ∀ {a b : Err}, a.val = b.val → a = b
  | .no n, .no m, h => by simp [val] at h; rw [h]
  | .no n, .fault _ _ _, h => by simp [val] at h
  | .fault _ _ _, .no n, h => by simp [val] at h
  | .fault o i e, .fault o' i' e', h => by
    simp [val] at h
    obtain ⟨h1, h2, h3⟩ := h
    rw [h1, h2, val_inj h3]
theorem vdepth_val (e : Err) : vdepth e.val = e.depth := by
  have h : ∃ e' : Err, e'.val = e.val := ⟨e, rfl⟩
  unfold vdepth
  rw [dif_pos h, val_inj (Classical.choose_spec h)]
end Err
set_option maxRecDepth 100000 in
set_option maxHeartbeats 2000000 in
theorem as_c (er : Err) (ta a : Addr) (old : Value) (w : World) (hf : w.frozen? ta = false) (ht : w.cell? ta = some old) (ha : w.cell? a = some (.pointer (some ta))) :
    Calls Tryd.prog 87 #[er.val, .iface 104 (.pointer (some ta)), .agg #[.pointer (some ⟨1, 104, none⟩), .pointer (some a), .int .u64 150], .iface 150 (.agg #[.pointer (some ⟨1, 50, none⟩)])] w
      fun e w' => e = .returned (.bool true) ∧ w'.cell? ta = some (.int .i64 er.kind) ∧ Only (fun k => k = ta.block) w w' := by
  have x106 := @run_callFunc_extern Tryd.prog 88 _ ReflectliteType.typeOf Tryd.func88 (by kernel_rfl) (by kernel_rfl) (by kernel_rfl) (by kernel_rfl)
  have x111 := @run_callFunc_extern Tryd.prog 90 _ (ReflectliteValue.method (ReflectliteValue.valueError "reflectlite.Value.Elem" 0) ReflectliteValue.elem) Tryd.func90 (by kernel_rfl) (by kernel_rfl) (by kernel_rfl) (by kernel_rfl)
  have x112 := @run_callFunc_extern Tryd.prog 91 _ ReflectliteValue.set Tryd.func91 (by kernel_rfl) (by kernel_rfl) (by kernel_rfl) (by kernel_rfl)
  have x102 := @run_callFunc_extern Tryd.prog 84 _ (fun args => ReflectliteValue.unpack (args.getD 0 (.tuple #[]))) Tryd.func84 (by kernel_rfl) (by kernel_rfl) (by kernel_rfl) (by kernel_rfl)
  have x141 := @run_callFunc_extern Tryd.prog 118 _ (ReflectliteType.relation "AssignableTo" ReflectliteType.assignableTo) Tryd.func118 (by kernel_rfl) (by kernel_rfl) (by kernel_rfl) (by kernel_rfl)
  have tO := ErrFacts.typeOfE
  have aE := ErrFacts.assE
  have vE := ErrFacts.valueOfE
  have tF := ErrFacts.typeOfF
  have aF := ErrFacts.assF
  have htl := World.block_lt_of_cell? w _ ht
  have hal := World.block_lt_of_cell? w _ ha
  have HT := hid ht; have HF := hid hf; have HA := hid ha
  clear ht hf ha
  go_enter Tryd.func87, Tryd.ntmps87
  go_wp2
  have hbox : (w.alloc (.cells #[.pointer (some ⟨1, 104, none⟩), .pointer (some a), .int .u64 150] 137)).heap[w.heap.size]? = some (.cells #[.pointer (some ⟨1, 104, none⟩), .pointer (some a), .int .u64 150] 137 (0, 0)) := block_alloc
  have hX0 : Ext w (w.alloc (.cells #[.pointer (some ⟨1, 104, none⟩), .pointer (some a), .int .u64 150] 137)) := (Ext.refl w).alloc _
  generalize (w.alloc (.cells #[.pointer (some ⟨1, 104, none⟩), .pointer (some a), .int .u64 150] 137)) = W at *
  go_loopw [0] (fun v wr => ∃ e' : Err, v = e'.val ∧ e'.kind = er.kind ∧ Ext W wr) (fun v _ => Err.vdepth v)
  case atStart => exact ⟨er, rfl, rfl, Ext.refl _⟩
  case round =>
    obtain ⟨e', rfl, hk, hXr⟩ := hrel
    have hX1 : Ext w wr := Ext.trans hX0 hXr
    have hbox := hXr.at hbox
    have ta1 := hX1.cell HT.out
    have aa1 := hX1.cell HA.out
    have fa1 : wr.frozen? ta = false := by rw [frozen_ext hX1 htl]; exact HF.out
    have htl1 := World.block_lt_of_cell? wr _ ta1
    rcases e' with n | ⟨op, at_, e2⟩
    · have hv : (Err.no n).val = .iface 50 (.int .i64 n) := rfl
      have hk' : Hid (n = er.kind) := hid hk
      have el := ErrFacts.elemV a ta wr aa1
      have st := ErrFacts.setE ta ⟨wr.heap.size, 0, none⟩ n old (wr.alloc (.cells #[.int .i64 n] 50))
        (by rw [World.cell?_alloc_at _ _ _ _ rfl]; rfl)
        (by rw [World.cell?_alloc_lt _ _ ta htl1]; exact ta1)
        (by rw [World.frozen?_alloc_old _ _ ta (Nat.ne_of_lt htl1)]; exact fa1)
      have HTA := hid ta1
      have HBX := hid hbox
      clear hk ta1 fa1 aa1 tF aF hbox
      go_wp2_with (refine wpList_load_agg rfl 137 _ rfl ⟨w.heap.size, 0, none⟩ rfl _ ⟨by kernel_rfl, by kernel_rfl⟩ (agg_cells' HBX.out) ?_)
      go_ret
      refine ⟨rfl, ?_, Only.setCell (F := fun k => k = ta.block) (Ext.only (hX1.alloc _)) (p := ta) (.inr rfl) _⟩
      rw [← hk'.out]
      exact World.cell?_setCell_same _ _ _ (by rw [World.cell?_alloc_lt _ _ ta htl1]; exact HTA.out)
    · have hv : (Err.fault op at_ e2).val = .iface 123 (.agg #[.string op, .int .i64 at_, e2.val]) := rfl
      have hk' : Hid (e2.kind = er.kind) := hid hk
      obtain ⟨t2, v2, hq⟩ : ∃ t v, e2.val = .iface t v := by cases e2 <;> exact ⟨_, _, rfl⟩
      rw [hq] at hv
      have HQ := hid hq
      have nA := ErrFacts.noAs
      have hU := ErrFacts.hasUnwrap
      clear hk ta1 fa1 aa1 tO aE vE hq
      go_wp2
      go_roundw
      case rel => exact ⟨e2, HQ.out.symm, hk'.out, Ext.trans hXr ((Ext.refl wr).alloc _)⟩
      case measure =>
        show Err.vdepth (.iface t2 v2) < Err.vdepth (Err.fault op at_ e2).val
        rw [← HQ.out, Err.vdepth_val, Err.vdepth_val]; exact Nat.lt_succ_self _
end Go.Proofs.YtdbjojnejkklhaaDoor

/- errors.As at an *api.Errno target; fault.Kind. -/
namespace Go.Proofs.YtdbjojnejkklhaaDoor
set_option linter.unusedVariables false
open Go.RowKit Go.Extern.Stop Go.Stop Go.Extern Go
/-- The package variable errors.errorType, as it is laid. -/
def EtLaid (w : World) : Prop := w.cell? ⟨0, 0, none⟩ = some (.iface 150 (.agg #[.pointer (some ⟨1, 26, none⟩)]))
theorem EtLaid.only {F : Nat → Prop} {w w' : World} (h : EtLaid w) (e : Only F w w') (hn : ¬ F 0) : EtLaid w' := e.cell h hn
set_option maxRecDepth 100000 in
set_option maxHeartbeats 2000000 in
theorem As_c (er : Err) (ta : Addr) (old : Value) (w : World) (hg : EtLaid w) (hf : w.frozen? ta = false) (ht : w.cell? ta = some old) :
    Calls Tryd.prog 63 #[er.val, .iface 104 (.pointer (some ta))] w
      fun e w' => e = .returned (.bool true) ∧ w'.cell? ta = some (.int .i64 er.kind) ∧ Only (fun k => k = ta.block) w w' := by
  obtain ⟨t2, v2, hq⟩ : ∃ t v, er.val = .iface t v := by cases er <;> exact ⟨_, _, rfl⟩
  have HQ := hid hq
  rw [hq]
  have htl := World.block_lt_of_cell? w _ ht
  have hgl := World.block_lt_of_cell? w _ hg
  have x103 := @run_callFunc_extern Tryd.prog 85 _ (ReflectliteValue.methodAny (ReflectliteValue.valueError "reflectlite.Value.Type" 0) (fun t _ _ _ => ReflectliteType.toType t)) Tryd.func85 (by kernel_rfl) (by kernel_rfl) (by kernel_rfl) (by kernel_rfl)
  have x104 := @run_callFunc_extern Tryd.prog 86 _ (ReflectliteValue.method (ReflectliteValue.valueError "reflectlite.Value.IsNil" 0) ReflectliteValue.isNil) Tryd.func86 (by kernel_rfl) (by kernel_rfl) (by kernel_rfl) (by kernel_rfl)
  have x102 := @run_callFunc_extern Tryd.prog 84 _ (fun args => ReflectliteValue.unpack (args.getD 0 (.tuple #[]))) Tryd.func84 (by kernel_rfl) (by kernel_rfl) (by kernel_rfl) (by kernel_rfl)
  have x127 := @run_callFunc_extern Tryd.prog 106 _ (ReflectliteType.abiMethod fun t => do pure (.int .u8 (← Rtype.kind t))) Tryd.func106 (by kernel_rfl) (by kernel_rfl) (by kernel_rfl) (by kernel_rfl)
  have x143 := @run_callFunc_extern Tryd.prog 120 _ (ReflectliteType.method ReflectliteType.elem) Tryd.func120 (by kernel_rfl) (by kernel_rfl) (by kernel_rfl) (by kernel_rfl)
  have x144 := @run_callFunc_extern Tryd.prog 121 _ (ReflectliteType.relation "Implements" ReflectliteType.implements_) Tryd.func121 (by kernel_rfl) (by kernel_rfl) (by kernel_rfl) (by kernel_rfl)
  have vP := ErrFacts.valueOfP
  have tP := ErrFacts.typeP
  have kP := ErrFacts.kindP
  have kE := ErrFacts.kindE
  have eP := ErrFacts.elemP
  have iE := ErrFacts.implE
  have hg1 : ((w.alloc (.cells #[.pointer (some ta)] 104)).alloc (.cells #[.pointer (some ⟨1, 104, none⟩), .pointer (some ⟨w.heap.size, 0, none⟩), .int .u64 150] 137)).cell? ⟨0, 0, none⟩ = some (.iface 150 (.agg #[.pointer (some ⟨1, 26, none⟩)])) := by
    rw [World.cell?_alloc_lt _ _ ⟨0, 0, none⟩ (by simp), World.cell?_alloc_lt _ _ ⟨0, 0, none⟩ hgl]; exact hg
  have n8 := ErrFacts.isNilP ⟨w.heap.size, 0, none⟩ ta ((w.alloc (.cells #[.pointer (some ta)] 104)).alloc (.cells #[.pointer (some ⟨1, 104, none⟩), .pointer (some ⟨w.heap.size, 0, none⟩), .int .u64 150] 137)) (by simp)
  clear hq
  go_enter Tryd.func63, Tryd.ntmps63
  go_wp2_with (go_at_call 87; fail)
  have ht1 : ((w.alloc (.cells #[.pointer (some ta)] 104)).alloc (.cells #[.pointer (some ⟨1, 104, none⟩), .pointer (some ⟨w.heap.size, 0, none⟩), .int .u64 150] 137)).cell? ta = some old := by
    rw [World.cell?_alloc_lt _ _ ta (by simp; omega), World.cell?_alloc_lt _ _ ta htl]; exact ht
  have hf1 : ((w.alloc (.cells #[.pointer (some ta)] 104)).alloc (.cells #[.pointer (some ⟨1, 104, none⟩), .pointer (some ⟨w.heap.size, 0, none⟩), .int .u64 150] 137)).frozen? ta = false := by
    rw [World.frozen?_alloc_old _ _ ta (by simp; omega), World.frozen?_alloc_old _ _ ta (Nat.ne_of_lt htl)]; exact hf
  have hX := ((Ext.refl w).alloc (.cells #[.pointer (some ta)] 104)).alloc (.cells #[.pointer (some ⟨1, 104, none⟩), .pointer (some ⟨w.heap.size, 0, none⟩), .int .u64 150] 137)
  refine Calls.mono (by rw [← HQ.out]; exact as_c er ta ⟨w.heap.size, 0, none⟩ old _ hf1 ht1 (by simp)) ?_
  rintro e w' ⟨rfl, hc, ho⟩
  have HC := hid hc; have HO := hid ho
  clear hc ho ht1 hf1 hg1 n8
  go_wp2
  go_ret
  exact ⟨rfl, HC.out, Only.trans (Ext.only hX) HO.out (fun i _ h => h)⟩
end Go.Proofs.YtdbjojnejkklhaaDoor

/- fault.Wrap, fault.Kind. -/
namespace Go.Proofs.YtdbjojnejkklhaaDoor
set_option linter.unusedVariables false
open Go.RowKit Go
set_option maxRecDepth 100000 in
set_option maxHeartbeats 2000000 in
theorem kind_err (er : Err) (w : World) (hg : EtLaid w) : Calls Tryd.prog 27 #[er.val] w fun e w' => e = .returned (.int .i64 er.kind) ∧ Ext w w' := by
  obtain ⟨t2, v2, hq⟩ : ∃ t v, er.val = .iface t v := by cases er <;> exact ⟨_, _, rfl⟩
  have HQ := hid hq
  rw [hq]
  have HG := hid hg
  clear hq hg
  go_enter Tryd.func27, Tryd.ntmps27
  go_wp2_with (go_at_call 63; fail)
  have hg1 := HG.out.only ((Ext.refl w).alloc (.cells #[.int .i64 0] 50)) (fun x => x)
  have hX := (Ext.refl w).alloc (.cells #[.int .i64 0] 50)
  refine Calls.mono (by rw [← HQ.out]; exact As_c er ⟨w.heap.size, 0, none⟩ (.int .i64 0) _ hg1 (by simp) (by simp)) ?_
  rintro e w' ⟨rfl, hc, ho⟩
  have HO := hid ho
  clear ho hg1
  go_wp2
  go_ret
  exact ⟨rfl, Ext.then hX HO.out (fun i hi e => by have : i = w.heap.size := e; omega)⟩
set_option maxRecDepth 100000 in
theorem As_nil (t : Value) (w : World) : Calls Tryd.prog 63 #[.nilIface, t] w fun e w' => e = .returned (.bool false) ∧ w = w' := by
  go_enter Tryd.func63, Tryd.ntmps63
  go_wp2
  go_ret
  exact ⟨rfl, rfl⟩
theorem eql_nil_iface (t : TypeId) (v : Value) (w : World) : (binOp .eql 26 .nilIface (.iface t v)).run Tryd.prog w = .ok (.bool false) w := by
  have h : ∀ d : Nat, (Op.equalIn (d + 1) 26 .nilIface (.iface t v)).run Tryd.prog w = .ok false w := fun d => by simp [Op.equalIn, run_underlying Tryd.underlying26]
  simp only [binOp]
  simp [Op.equal, Op.maxDepth, h 9999]
set_option maxRecDepth 100000 in
theorem Is_nil (t : TypeId) (v : Value) (w : World) : Calls Tryd.prog 64 #[.nilIface, .iface t v] w fun e w' => e = .returned (.bool false) ∧ w = w' := by
  have hE := eql_nil_iface t v
  go_enter Tryd.func64, Tryd.ntmps64
  go_wp2
  go_ret
  exact ⟨rfl, rfl⟩
set_option maxRecDepth 100000 in
set_option maxHeartbeats 2000000 in
theorem kind_nil (w : World) : Calls Tryd.prog 27 #[.nilIface] w fun e w' => e = .returned (.int .i64 0) ∧ Ext w w' := by
  go_enter Tryd.func27, Tryd.ntmps27
  go_wp2_with (first
    | (go_at_call 63; refine (As_nil _ _).mono ?_; rintro e w' ⟨rfl, rfl⟩)
    | (go_at_call 64; refine (Is_nil _ _ _).mono ?_; rintro e w' ⟨rfl, rfl⟩))
  go_ret
  exact ⟨rfl, (Ext.refl w).alloc _⟩
theorem wrap_nil (op : ByteArray) (n : Int) (w : World) : Calls Tryd.prog 48 #[.string op, .int .i64 n, .nilIface] w fun e w' => e = .returned .nilIface ∧ w = w' := by
  go_enter Tryd.func48, Tryd.ntmps48
  go_wp2
  go_ret
  exact ⟨rfl, rfl⟩
theorem wrap_err (op : ByteArray) (n : Int) (er : Err) (w : World) : Calls Tryd.prog 48 #[.string op, .int .i64 n, er.val] w fun e w' => e = .returned (Err.fault op n er).val ∧ w = w' := by
  obtain ⟨t2, v2, hq⟩ : ∃ t v, er.val = .iface t v := by cases er <;> exact ⟨_, _, rfl⟩
  have hv : (Err.fault op n er).val = .iface 123 (.agg #[.string op, .int .i64 n, .iface t2 v2]) := by rw [← hq]; rfl
  rw [hq, hv]
  clear hq hv
  go_enter Tryd.func48, Tryd.ntmps48
  go_wp2
  go_ret
  exact ⟨rfl, rfl⟩
end Go.Proofs.YtdbjojnejkklhaaDoor

/- The seat's one listed variable: what the condition gives a walk; a world that meets it. -/
namespace Go.Proofs.YtdbjojnejkklhaaDoor
open Go.ChangeShapes Go.WideShapes Go.RowKit
def theLaid : List (String × DataW Unit) := [("errors.errorType", Rows.laid_errors_errorType)]
theorem hOwn : ownKnob Tryd.prog.godebug = none := by kernel_rfl
theorem hEt : Tryd.prog.globalNamed "errors.errorType" = some 0 := by kernel_rfl
theorem hRt : (Tryd.prog.cutTypes.find? (·.1 == "internal/reflectlite.rtype")).map (·.2) = some 150 := by kernel_rfl
theorem hSize : Tryd.prog.types.size = 192 := by kernel_rfl
theorem hOneRow : ((List.range 192).filter fun t => Tryd.prog.rowNamed t [101, 114, 114, 111, 114]) = [26] := by kernel_rfl
/-- What the condition gives a walk: the variable's one cell. -/
theorem etLaid_of {W : World} (h : laidMetH Tryd.prog theLaid W) : EtLaid W := by
  have h' : laidMet Tryd.prog [] W ∧ handlesMet Tryd.prog theLaid W := h
  obtain ⟨name, u, ty, e1, e2, e3, e4, e5⟩ := h'.2 _ (List.mem_singleton.2 rfl)
  have en : name = [101, 114, 114, 111, 114] := (Option.some.inj e1).symm
  subst en
  obtain rfl := Option.some.inj (hRt.symm.trans e2)
  have hm : ty ∈ (List.range 192).filter fun t => Tryd.prog.rowNamed t [101, 114, 114, 111, 114] := List.mem_filter.2 ⟨List.mem_range.2 (by rw [← hSize]; exact e3), e4⟩
  rw [hOneRow] at hm
  obtain rfl := List.mem_singleton.1 hm
  have hh : typeHandle Tryd.prog 26 = .pointer (some ⟨1, 26, none⟩) := by kernel_rfl
  rw [hh] at e5
  unfold EtLaid
  simpa using World.var?_cell hEt e5 0
/-- A world that meets the condition: the settled one, the variable's cell laid. -/
noncomputable def laidWorld (os : Os) : World :=
  let w0 := World.holding Tryd.prog os ⟨#[], #[], []⟩
  { w0 with heap := w0.heap.modify 0 fun
      | .cells _ t frozen => .cells #[.iface 150 (.agg #[.pointer (some ⟨1, 26, none⟩)])] t frozen
      | o => o }
theorem laidWorld_met (os : Os) (args : Array Value) : laidMetH Tryd.prog theLaid ((laidWorld os).forCall (fun _ _ => 0) ⟨#[], args, []⟩).memory :=
  laidMetH_of_parts (laidMet_nil _ _) (by kernel_rfl)
end Go.Proofs.YtdbjojnejkklhaaDoor
