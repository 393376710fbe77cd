/- Texts of one proof, joined: Err, Wrap, Handle, ErrLoss, LossAs, LostC. -/
import Derived.Test.YtkofmabonpbegaaGreatDoorPartA
import Derived.LaidEql
import Derived.RowKitTokens
import Derived.Test.YtkofmabonpbegaaGreatDoorProg
import Derived.Test.YtkofmabonpbegaaGreatDoorRows
import Derived.ChangeSame
import Derived.ChangeVars
import Derived.JoinedOf
import Derived.RowKit
import Derived.LaidLaws
import Derived.LaidHandle
import Derived.Stop.Joined
import Derived.Stop.Asserts
import Derived.Handy
import Derived.Test.YtkofmabonpbegaaGreatDoorPartB
set_option linter.unusedVariables false
set_option linter.unusedSimpArgs false
/- Errors as values: a number, a loss, a Fault around one. -/
namespace Go.Proofs.YtkofmabonpbegaaGreatDoor
set_option linter.unusedVariables false
open Go.RowKit Go.Extern.Stop Go.Stop Go.Extern Go
theorem agg_cells' {w : World} {g : Nat} {A : Array Value} {t : TypeId} {fr : Nat × Nat} (h : w.heap[g]? = some (.cells A t fr)) : ∀ j v, A.toList[j]? = some v → w.cell? ((⟨g, 0, none⟩ : Addr).add j) = some v := by
  intro j v hv
  have e : (⟨g, 0, none⟩ : Addr).add j = ⟨g, j, none⟩ := by unfold Addr.add; split <;> simp_all
  rw [e, cell_at h]
  simpa using hv
theorem frozen_ext {w w' : World} (h : Ext w w') {p : Addr} (hp : p.block < w.heap.size) : w'.frozen? p = w.frozen? p := by
  unfold World.frozen?
  rw [h.block p.block hp (fun x => x)]
/-- An error as a chain. -/
inductive Err where
  | no (n : Int)
  | loss (g h n : Int)
  | fault (op : ByteArray) (at_ : Int) (e : Err)
namespace Err
def val : Err → Value
  | no n => .iface 66 (.int .i64 n)
  | loss g h n => .iface 52 (.agg #[.int .i64 g, .int .i64 h, .int .i64 n])
  | fault op a e => .iface 108 (.agg #[.string op, .int .i64 a, e.val])
def kind : Err → Int
  | no n => n
  | loss _ _ _ => 6
  | fault _ _ e => e.kind
/-- Is it a loss, in its depth? -/
def lost : Err → Bool
  | no _ => false
  | loss _ _ _ => true
  | fault _ _ e => e.lost
def depth : Err → Nat
  | no _ => 0
  | loss _ _ _ => 0
  | fault _ _ e => e.depth + 1
theorem kind_lost : ∀ {e : Err}, e.lost = true → e.kind = 6
  | .no _, h => by cases h
  | .loss _ _ _, _ => rfl
  | .fault _ _ e, h => kind_lost (e := e) h
/-- The depth, read off a value. -/
noncomputable def vdepth (v : Value) : Nat := open Classical in if h : ∃ e : Err, e.val = v then (Classical.choose h).depth else 0
theorem val_inj : ∀ {a b : Err}, a.val = b.val → a = b
  | .no n, .no m, h => by simp [val] at h; rw [h]
  | .no n, .loss _ _ _, h => by simp [val] at h
  | .no n, .fault _ _ _, h => by simp [val] at h
  | .loss _ _ _, .no _, h => by simp [val] at h
  | .loss _ _ _, .loss _ _ _, h => by simp [val] at h; obtain ⟨h1, h2, h3⟩ := h; rw [h1, h2, h3]
  | .loss _ _ _, .fault _ _ _, h => by simp [val] at h
  | .fault _ _ _, .no n, h => by simp [val] at h
  | .fault _ _ _, .loss _ _ _, h => by simp [val] at h
  | .fault o i e, .fault o' i' e', h => by
    simp [val] at h
    obtain ⟨h1, h2, h3⟩ := h
    rw [h1, h2, val_inj h3]
theorem vdepth_val (e : Err) : vdepth e.val = e.depth := by
  have h : ∃ e' : Err, e'.val = e.val := ⟨e, rfl⟩
  unfold vdepth
  rw [dif_pos h, val_inj (Classical.choose_spec h)]
theorem iface (e : Err) : ∃ t v, e.val = .iface t v := by cases e <;> exact ⟨_, _, rfl⟩
end Err
/-- The package variable errors.errorType, as it is laid. -/
def EtLaid (w : World) : Prop := w.cell? ⟨0, 0, none⟩ = some (.iface 161 (.agg #[.pointer (some ⟨1, 27, none⟩)]))
theorem EtLaid.only {F : Nat → Prop} {w w' : World} (h : EtLaid w) (e : Only F w w') (hn : ¬ F 0) : EtLaid w' := e.cell h hn
end Go.Proofs.YtkofmabonpbegaaGreatDoor

/- fault.Wrap. -/
namespace Go.Proofs.YtkofmabonpbegaaGreatDoor
set_option linter.unusedVariables false
open Go.RowKit Go
theorem wrap_nil (op : ByteArray) (n : Int) (w : World) : Calls Tryz.prog 27 #[.string op, .int .i64 n, .nilIface] w fun e w' => e = .returned .nilIface ∧ w = w' := by
  go_enter Tryz.func27, Tryz.ntmps27
  go_wp2
  go_ret
  exact ⟨rfl, rfl⟩
theorem wrap_err (op : ByteArray) (n : Int) (er : Err) (w : World) : Calls Tryz.prog 27 #[.string op, .int .i64 n, er.val] w fun e w' => e = .returned (Err.fault op n er).val ∧ w = w' := by
  obtain ⟨t2, v2, hq⟩ : ∃ t v, er.val = .iface t v := by cases er <;> exact ⟨_, _, rfl⟩
  have hv : (Err.fault op n er).val = .iface 108 (.agg #[.string op, .int .i64 n, .iface t2 v2]) := by rw [← hq]; rfl
  rw [hq, hv]
  clear hq hv
  go_enter Tryz.func27, Tryz.ntmps27
  go_wp2
  go_ret
  exact ⟨rfl, rfl⟩
end Go.Proofs.YtkofmabonpbegaaGreatDoor

/- The seat's one listed variable: what the condition gives a walk; a world that meets it. -/
namespace Go.Proofs.YtkofmabonpbegaaGreatDoor
open Go.ChangeShapes Go.WideShapes Go.RowKit
def theLaid : List (String × DataW Unit) := [("errors.errorType", Rows.laid_errors_errorType)]
theorem hOwn : ownKnob Tryz.prog.godebug = none := by kernel_rfl
theorem hEt : Tryz.prog.globalNamed "errors.errorType" = some 0 := by kernel_rfl
theorem hRt : (Tryz.prog.cutTypes.find? (·.1 == "internal/reflectlite.rtype")).map (·.2) = some 161 := by kernel_rfl
theorem hSize : Tryz.prog.types.size = 207 := by kernel_rfl
theorem hOneRow : ((List.range 207).filter fun t => Tryz.prog.rowNamed t [101, 114, 114, 111, 114]) = [27] := by kernel_rfl
/-- What the condition gives a walk: the variable's one cell. -/
theorem etLaid_of {W : World} (h : laidMetH Tryz.prog theLaid W) : EtLaid W := by
  have h' : laidMet Tryz.prog [] W ∧ handlesMet Tryz.prog theLaid W := h
  obtain ⟨name, u, ty, e1, e2, e3, e4, e5⟩ := h'.2 _ (List.mem_singleton.2 rfl)
  have en : name = [101, 114, 114, 111, 114] := (Option.some.inj e1).symm
  subst en
  obtain rfl := Option.some.inj (hRt.symm.trans e2)
  have hm : ty ∈ (List.range 207).filter fun t => Tryz.prog.rowNamed t [101, 114, 114, 111, 114] := List.mem_filter.2 ⟨List.mem_range.2 (by rw [← hSize]; exact e3), e4⟩
  rw [hOneRow] at hm
  obtain rfl := List.mem_singleton.1 hm
  have hh : typeHandle Tryz.prog 27 = .pointer (some ⟨1, 27, none⟩) := by kernel_rfl
  rw [hh] at e5
  unfold EtLaid
  simpa using World.var?_cell hEt e5 0
/-- A world that meets the condition: the settled one, the variable's cell laid. -/
noncomputable def laidWorld (os : Os) : World :=
  let w0 := World.holding Tryz.prog os ⟨#[], #[], []⟩
  { w0 with heap := w0.heap.modify 0 fun
      | .cells _ t frozen => .cells #[.iface 161 (.agg #[.pointer (some ⟨1, 27, none⟩)])] t frozen
      | o => o }
theorem laidWorld_met (os : Os) (args : Array Value) : laidMetH Tryz.prog theLaid ((laidWorld os).forCall (fun _ _ => 0) ⟨#[], args, []⟩).memory :=
  laidMetH_of_parts (laidMet_nil _ _) (by kernel_rfl)
end Go.Proofs.YtkofmabonpbegaaGreatDoor

/- errors.As at an *api.Loss target: what the model's entries answer. -/
namespace Go.Proofs.YtkofmabonpbegaaGreatDoor
set_option linter.unusedVariables false
open Go.RowKit Go.Extern.Stop Go.Stop Go.Extern Go
namespace LossFacts
theorem valueOfP (t : Addr) (w : World) : (ReflectliteValue.unpack (.iface 102 (.pointer (some t)))).run Tryz.prog w
    = .ok (.agg #[.pointer (some ⟨1, 102, none⟩), .pointer (some ⟨w.heap.size, 0, none⟩), .int .u64 150]) (w.alloc (.cells #[.pointer (some t)] 102)) := by kernel_rfl
theorem typeP (a : Addr) (w : World) : (ReflectliteValue.methodAny (ReflectliteValue.valueError "reflectlite.Value.Type" 0) (fun t _ _ _ => ReflectliteType.toType t) #[.agg #[.pointer (some ⟨1, 102, none⟩), .pointer (some a), .int .u64 150]]).run Tryz.prog w
    = .ok (.iface 161 (.agg #[.pointer (some ⟨1, 102, none⟩)])) w := by kernel_rfl
theorem kindP (w : World) : ((ReflectliteType.abiMethod fun t => (fun a : Nat => Value.int IntKind.u8 (a : Int)) <$> Rtype.kind t) #[.pointer (some ⟨1, 102, none⟩)]).run Tryz.prog w = .ok (.int .u8 22) w := by kernel_rfl
theorem kindF (w : World) : ((ReflectliteType.abiMethod fun t => (fun a : Nat => Value.int IntKind.u8 (a : Int)) <$> Rtype.kind t) #[.pointer (some ⟨1, 52, none⟩)]).run Tryz.prog w = .ok (.int .u8 25) w := by kernel_rfl
theorem elemP (w : World) : (ReflectliteType.method ReflectliteType.elem #[.agg #[.pointer (some ⟨1, 102, none⟩)]]).run Tryz.prog w = .ok (.iface 161 (.agg #[.pointer (some ⟨1, 52, none⟩)])) w := by kernel_rfl
theorem implF (w : World) : (ReflectliteType.relation "Implements" ReflectliteType.implements_ #[.agg #[.pointer (some ⟨1, 52, none⟩)], .iface 161 (.agg #[.pointer (some ⟨1, 27, none⟩)])]).run Tryz.prog w = .ok (.bool true) w := by kernel_rfl
theorem assF (w : World) : (ReflectliteType.relation "AssignableTo" ReflectliteType.assignableTo #[.agg #[.pointer (some ⟨1, 52, none⟩)], .iface 161 (.agg #[.pointer (some ⟨1, 52, none⟩)])]).run Tryz.prog w = .ok (.bool true) w := by kernel_rfl
theorem typeOfF (v : Value) (w : World) : (ReflectliteType.typeOf #[.iface 108 v]).run Tryz.prog w = .ok (.iface 161 (.agg #[.pointer (some ⟨1, 108, none⟩)])) w := by kernel_rfl
theorem typeOfL (v : Value) (w : World) : (ReflectliteType.typeOf #[.iface 52 v]).run Tryz.prog w = .ok (.iface 161 (.agg #[.pointer (some ⟨1, 52, none⟩)])) w := by kernel_rfl
theorem assX (w : World) : (ReflectliteType.relation "AssignableTo" ReflectliteType.assignableTo #[.agg #[.pointer (some ⟨1, 108, none⟩)], .iface 161 (.agg #[.pointer (some ⟨1, 52, none⟩)])]).run Tryz.prog w = .ok (.bool false) w := by kernel_rfl
theorem valueOfF (x y z : Value) (w : World) : (ReflectliteValue.unpack (.iface 52 (.agg #[x, y, z]))).run Tryz.prog w
    = .ok (.agg #[.pointer (some ⟨1, 52, none⟩), .pointer (some ⟨w.heap.size, 0, none⟩), .int .u64 153]) (w.alloc (.cells #[x, y, z] 52)) := by kernel_rfl
theorem elemOfP (w : World) : (Rtype.elem? 102).run Tryz.prog w = .ok (some 52) w := by kernel_rfl
theorem mkF (p : Addr) (w : World) : (ReflectliteValue.mk 52 p ReflectliteValue.flagAddr).run Tryz.prog w = .ok (.agg #[.pointer (some ⟨1, 52, none⟩), .pointer (some p), .int .u64 409]) w := by kernel_rfl
theorem partsP (a : Addr) (w : World) : (ReflectliteValue.parts (.agg #[.pointer (some ⟨1, 102, none⟩), .pointer (some a), .int .u64 150])).run Tryz.prog w = .ok (some (102, a, 150)) w := by kernel_rfl
theorem partsFa (a : Addr) (w : World) : (ReflectliteValue.parts (.agg #[.pointer (some ⟨1, 52, none⟩), .pointer (some a), .int .u64 409])).run Tryz.prog w = .ok (some (52, a, 409)) w := by kernel_rfl
theorem partsF (a : Addr) (w : World) : (ReflectliteValue.parts (.agg #[.pointer (some ⟨1, 52, none⟩), .pointer (some a), .int .u64 153])).run Tryz.prog w = .ok (some (52, a, 153)) w := by kernel_rfl
theorem directF (w : World) : (Rtype.directlyAssignable 52 52).run Tryz.prog w = .ok true w := by kernel_rfl
theorem rlm (z : Sem Value) (f : TypeId → Addr → Nat → Nat → Sem Value) (v : Value) :
    ReflectliteValue.method z f #[v] = (do match ← ReflectliteValue.parts v with | none => z | some (t, a, fl) => f t a fl (fl % 32)) := rfl
theorem rls (v x : Value) : ReflectliteValue.set #[v, x] = (do
    let (some (dst, a, fl), some (src, b, _)) := (← ReflectliteValue.parts v, ← ReflectliteValue.parts x)
      | unsupported (.noEntry "extern/(internal/reflectlite.Value).Set.zeroValue")
    if fl / ReflectliteValue.flagAddr % 2 == 0 then unsupported (.noEntry "extern/(internal/reflectlite.Value).Set.unaddressable")
    let val ← loadVar src b
    if ← Rtype.directlyAssignable dst src then storeVar dst a val
    else if ← Rtype.implements dst src then
      if (← Rtype.kind src) == 20 then
        match val with
        | .nilIface => unsupported (.noEntry "extern/reflectlite: a nil value of one interface type handed on as a value of another")
        | _ => storeVar dst a val
      else storeVar dst a (.iface src val)
    else panicString ("reflectlite.Set: value of type " ++ (← Rtype.spelt src) ++ " is not assignable to type " ++ (← Rtype.spelt dst))
    pure (.tuple #[])) := rfl
theorem isNilP (a p : Addr) (W : World) (ha : W.cell? a = some (.pointer (some p))) :
    (ReflectliteValue.method (ReflectliteValue.valueError "reflectlite.Value.IsNil" 0) ReflectliteValue.isNil #[.agg #[.pointer (some ⟨1, 102, none⟩), .pointer (some a), .int .u64 150]]).run Tryz.prog W = .ok (.bool false) W := by
  rw [rlm]
  simp only [Sem.run_bind, partsP, Result.andThen]
  simp [ReflectliteValue.isNil, loadVar, isAgg, underlying, Tryz.underlying102, ha, Result.andThen]
theorem elemV (a p : Addr) (W : World) (ha : W.cell? a = some (.pointer (some p))) :
    (ReflectliteValue.method (ReflectliteValue.valueError "reflectlite.Value.Elem" 0) ReflectliteValue.elem #[.agg #[.pointer (some ⟨1, 102, none⟩), .pointer (some a), .int .u64 150]]).run Tryz.prog W
      = .ok (.agg #[.pointer (some ⟨1, 52, none⟩), .pointer (some p), .int .u64 409]) W := by
  rw [rlm]
  simp only [Sem.run_bind, partsP, Result.andThen]
  simp [ReflectliteValue.elem, loadVar, isAgg, underlying, Tryz.underlying102, ha, Result.andThen, elemOfP, mkF]
theorem aggF : AggType Tryz.prog 52 3 := ⟨by kernel_rfl, by kernel_rfl⟩
theorem setF (tb b : Nat) (x y z : Value) (cur : Array Value) (W : World) (hb : W.heap[b]? = some (.cells #[x, y, z] 52 (0, 0))) (ht : W.heap[tb]? = some (.cells cur 52 (0, 0))) (hc : cur.size = 3) (h1 : ∀ v ∈ (#[x, y, z] : Array Value).toList, v.oneCell' = true) :
    (ReflectliteValue.set #[.agg #[.pointer (some ⟨1, 52, none⟩), .pointer (some ⟨tb, 0, none⟩), .int .u64 409], .agg #[.pointer (some ⟨1, 52, none⟩), .pointer (some ⟨b, 0, none⟩), .int .u64 153]]).run Tryz.prog W
      = .ok (.tuple #[]) (W.setRow tb #[x, y, z]) := by
  have hl := run_loadVar_agg (P := Tryz.prog) W 52 ⟨b, 0, none⟩ #[x, y, z] aggF (agg_cells' hb)
  have hs := run_storeVar_agg (P := Tryz.prog) W 52 tb 0 #[x, y, z] cur 52 aggF ht (by rw [hc]; simp) h1
  have e : (cur.toList.take 0 ++ (#[x, y, z] : Array Value).toList ++ cur.toList.drop (0 + (#[x, y, z] : Array Value).size)).toArray = #[x, y, z] := by
    have : cur.toList.length = 3 := by rw [Array.length_toList, hc]
    rw [List.drop_of_length_le (by rw [this]; simp)]
    simp
  rw [e] at hs
  rw [rls]
  simp only [Sem.run_bind, partsFa, partsF, Result.andThen]
  simp [ReflectliteValue.flagAddr, hl, directF, hs, Result.andThen]
theorem noAs (v : Value) (w : World) : Sem.run Tryz.prog (Instr.typeAssert (.iface 108 v) 27 165 true) w = .ok (.tuple #[.nilIface, .bool false]) w :=
  run_typeAssert_lacksB Tryz.underlying165 (by kernel_rfl) (by kernel_rfl) v _ w
theorem hasUnwrap (v : Value) (w : World) : Sem.run Tryz.prog (Instr.typeAssert (.iface 108 v) 27 168 true) w = .ok (.tuple #[.iface 108 v, .bool true]) w := by kernel_rfl
end LossFacts
end Go.Proofs.YtkofmabonpbegaaGreatDoor

/- errors.As at an *api.Loss target, fault.Lost: the loss that an error is. -/
namespace Go.Proofs.YtkofmabonpbegaaGreatDoor
set_option linter.unusedVariables false
open Go.RowKit Go.Extern.Stop Go.Stop Go.Extern Go
namespace Err
/-- The loss in an error's depth. -/
def lossOf : Err → Int × Int × Int
  | no _ => (0, 0, 0)
  | loss g h n => (g, h, n)
  | fault _ _ e => e.lossOf
end Err
def lcells (l : Int × Int × Int) : Array Value := #[.int .i64 l.1, .int .i64 l.2.1, .int .i64 l.2.2]
theorem lcells_one (l : Int × Int × Int) : ∀ v ∈ (lcells l).toList, v.oneCell' = true := by
  intro v hv
  unfold lcells at hv
  simp only [List.mem_cons, List.not_mem_nil, or_false] at hv
  rcases hv with rfl | rfl | rfl <;> rfl
set_option maxRecDepth 100000 in
set_option maxHeartbeats 2000000 in
theorem asl_c (er : Err) (hl : er.lost = true) (tb : Nat) (a : Addr) (cur : Array Value) (w : World) (ht : w.heap[tb]? = some (.cells cur 52 (0, 0))) (hc : cur.size = 3) (ha : w.cell? a = some (.pointer (some ⟨tb, 0, none⟩))) :
    Calls Tryz.prog 72 #[er.val, .iface 102 (.pointer (some ⟨tb, 0, none⟩)), .agg #[.pointer (some ⟨1, 102, none⟩), .pointer (some a), .int .u64 150], .iface 161 (.agg #[.pointer (some ⟨1, 52, none⟩)])] w
      fun e w' => e = .returned (.bool true) ∧ w'.heap[tb]? = some (.cells (lcells er.lossOf) 52 (0, 0)) ∧ Only (fun k => k = tb) w w' := by
  have x106 := @run_callFunc_extern Tryz.prog 74 _ ReflectliteType.typeOf Tryz.func74 (by kernel_rfl) (by kernel_rfl) (by kernel_rfl) (by kernel_rfl)
  have x111 := @run_callFunc_extern Tryz.prog 88 _ (ReflectliteValue.method (ReflectliteValue.valueError "reflectlite.Value.Elem" 0) ReflectliteValue.elem) Tryz.func88 (by kernel_rfl) (by kernel_rfl) (by kernel_rfl) (by kernel_rfl)
  have x112 := @run_callFunc_extern Tryz.prog 89 _ ReflectliteValue.set Tryz.func89 (by kernel_rfl) (by kernel_rfl) (by kernel_rfl) (by kernel_rfl)
  have x102 := @run_callFunc_extern Tryz.prog 69 _ (fun args => ReflectliteValue.unpack (args.getD 0 (.tuple #[]))) Tryz.func69 (by kernel_rfl) (by kernel_rfl) (by kernel_rfl) (by kernel_rfl)
  have x141 := @run_callFunc_extern Tryz.prog 120 _ (ReflectliteType.relation "AssignableTo" ReflectliteType.assignableTo) Tryz.func120 (by kernel_rfl) (by kernel_rfl) (by kernel_rfl) (by kernel_rfl)
  have tF := LossFacts.typeOfF
  have aF := LossFacts.assX
  have tL := LossFacts.typeOfL
  have aL := LossFacts.assF
  have vL := LossFacts.valueOfF
  have HT := hid ht; have HA := hid ha; have HL := hid hl
  have htl := lt_of_block ht
  clear ht ha hl
  go_enter Tryz.func72, Tryz.ntmps72
  go_wp2
  have hbox : (w.alloc (.cells #[.pointer (some ⟨1, 102, none⟩), .pointer (some a), .int .u64 150] 136)).heap[w.heap.size]? = some (.cells #[.pointer (some ⟨1, 102, none⟩), .pointer (some a), .int .u64 150] 136 (0, 0)) := block_alloc
  have hX0 : Ext w (w.alloc (.cells #[.pointer (some ⟨1, 102, none⟩), .pointer (some a), .int .u64 150] 136)) := (Ext.refl w).alloc _
  generalize (w.alloc (.cells #[.pointer (some ⟨1, 102, none⟩), .pointer (some a), .int .u64 150] 136)) = W at *
  go_loopw [0] (fun v wr => ∃ e' : Err, v = e'.val ∧ (e'.lossOf = er.lossOf ∧ e'.lost = true) ∧ Ext W wr) (fun v _ => Err.vdepth v)
  case atStart => exact ⟨er, rfl, ⟨rfl, HL.out⟩, Ext.refl _⟩
  case round =>
    obtain ⟨e', rfl, hk, hXr⟩ := hrel
    have hX1 : Ext w wr := Ext.trans hX0 hXr
    have hbox := hXr.at hbox
    have tb1 := hX1.at HT.out
    have aa1 := hX1.cell HA.out
    have htl1 := lt_of_block tb1
    rcases e' with n | ⟨lg, lh, ln⟩ | ⟨op, at_, e2⟩
    · cases hk.2
    · have hv : (Err.loss lg lh ln).val = .iface 52 (.agg #[.int .i64 lg, .int .i64 lh, .int .i64 ln]) := rfl
      have hk' : Hid ((lg, lh, ln) = er.lossOf) := hid hk.1
      have el := LossFacts.elemV a ⟨tb, 0, none⟩ wr aa1
      have st := LossFacts.setF tb wr.heap.size (.int .i64 lg) (.int .i64 lh) (.int .i64 ln) cur (wr.alloc (.cells #[.int .i64 lg, .int .i64 lh, .int .i64 ln] 52)) block_alloc
        (by rw [heap_alloc_old _ _ htl1]; exact tb1) hc (lcells_one (lg, lh, ln))
      have HTT : Hid ((wr.alloc (.cells #[.int .i64 lg, .int .i64 lh, .int .i64 ln] 52)).heap[tb]? = some (.cells cur 52 (0, 0))) := hid (by rw [heap_alloc_old _ _ htl1]; exact tb1)
      have HBX := hid hbox
      have HX1 := hid hX1
      clear hk aa1 tF aF hbox tb1 hX1 hX0 hXr
      go_wp2_with (refine wpList_load_agg rfl 136 _ rfl ⟨w.heap.size, 0, none⟩ rfl _ ⟨by kernel_rfl, by kernel_rfl⟩ (agg_cells' HBX.out) ?_)
      go_ret
      refine ⟨rfl, ?_, Only.trans (Ext.only (HX1.out.alloc _)) (only_setRow _ _ _) (fun i _ h => h)⟩
      rw [← hk'.out]
      exact setRow_heap _ _ _ _ _ _ HTT.out
    · have hv : (Err.fault op at_ e2).val = .iface 108 (.agg #[.string op, .int .i64 at_, e2.val]) := rfl
      have hk' : Hid (e2.lossOf = er.lossOf ∧ e2.lost = true) := hid hk
      obtain ⟨t2, v2, hq⟩ : ∃ t v, e2.val = .iface t v := by cases e2 <;> exact ⟨_, _, rfl⟩
      rw [hq] at hv
      have HQ := hid hq
      have nA := LossFacts.noAs
      have hU := LossFacts.hasUnwrap
      clear hk aa1 tL aL vL hq tb1
      go_wp2
      go_roundw
      case rel => exact ⟨e2, HQ.out.symm, hk'.out, Ext.trans hXr ((Ext.refl wr).alloc _)⟩
      case measure =>
        show Err.vdepth (.iface t2 v2) < Err.vdepth (Err.fault op at_ e2).val
        rw [← HQ.out, Err.vdepth_val, Err.vdepth_val]; exact Nat.lt_succ_self _
set_option maxRecDepth 100000 in
set_option maxHeartbeats 2000000 in
theorem Asl_c (er : Err) (hl : er.lost = true) (tb : Nat) (cur : Array Value) (w : World) (hg : EtLaid w) (ht : w.heap[tb]? = some (.cells cur 52 (0, 0))) (hc : cur.size = 3) :
    Calls Tryz.prog 46 #[er.val, .iface 102 (.pointer (some ⟨tb, 0, none⟩))] w
      fun e w' => e = .returned (.bool true) ∧ w'.heap[tb]? = some (.cells (lcells er.lossOf) 52 (0, 0)) ∧ Only (fun k => k = tb) w w' := by
  obtain ⟨t2, v2, hq⟩ := er.iface
  have HQ := hid hq
  rw [hq]
  have hgl := World.block_lt_of_cell? w _ hg
  have x103 := @run_callFunc_extern Tryz.prog 70 _ (ReflectliteValue.methodAny (ReflectliteValue.valueError "reflectlite.Value.Type" 0) (fun t _ _ _ => ReflectliteType.toType t)) Tryz.func70 (by kernel_rfl) (by kernel_rfl) (by kernel_rfl) (by kernel_rfl)
  have x104 := @run_callFunc_extern Tryz.prog 71 _ (ReflectliteValue.method (ReflectliteValue.valueError "reflectlite.Value.IsNil" 0) ReflectliteValue.isNil) Tryz.func71 (by kernel_rfl) (by kernel_rfl) (by kernel_rfl) (by kernel_rfl)
  have x102 := @run_callFunc_extern Tryz.prog 69 _ (fun args => ReflectliteValue.unpack (args.getD 0 (.tuple #[]))) Tryz.func69 (by kernel_rfl) (by kernel_rfl) (by kernel_rfl) (by kernel_rfl)
  have x127 := @run_callFunc_extern Tryz.prog 107 _ (ReflectliteType.abiMethod fun t => do pure (.int .u8 (← Rtype.kind t))) Tryz.func107 (by kernel_rfl) (by kernel_rfl) (by kernel_rfl) (by kernel_rfl)
  have x143 := @run_callFunc_extern Tryz.prog 122 _ (ReflectliteType.method ReflectliteType.elem) Tryz.func122 (by kernel_rfl) (by kernel_rfl) (by kernel_rfl) (by kernel_rfl)
  have x144 := @run_callFunc_extern Tryz.prog 123 _ (ReflectliteType.relation "Implements" ReflectliteType.implements_) Tryz.func123 (by kernel_rfl) (by kernel_rfl) (by kernel_rfl) (by kernel_rfl)
  have vP := LossFacts.valueOfP
  have tP := LossFacts.typeP
  have kP := LossFacts.kindP
  have kE := LossFacts.kindF
  have eP := LossFacts.elemP
  have iE := LossFacts.implF
  have hg1 : ((w.alloc (.cells #[.pointer (some ⟨tb, 0, none⟩)] 102)).alloc (.cells #[.pointer (some ⟨1, 102, none⟩), .pointer (some ⟨w.heap.size, 0, none⟩), .int .u64 150] 136)).cell? ⟨0, 0, none⟩ = some (.iface 161 (.agg #[.pointer (some ⟨1, 27, none⟩)])) := by
    rw [World.cell?_alloc_lt _ _ ⟨0, 0, none⟩ (by simp), World.cell?_alloc_lt _ _ ⟨0, 0, none⟩ hgl]; exact hg
  have n8 := LossFacts.isNilP ⟨w.heap.size, 0, none⟩ ⟨tb, 0, none⟩ ((w.alloc (.cells #[.pointer (some ⟨tb, 0, none⟩)] 102)).alloc (.cells #[.pointer (some ⟨1, 102, none⟩), .pointer (some ⟨w.heap.size, 0, none⟩), .int .u64 150] 136)) (by simp)
  have HT := hid ht
  clear hq ht
  go_enter Tryz.func46, Tryz.ntmps46
  go_wp2_with (go_at_call 72; fail)
  have hX := ((Ext.refl w).alloc (.cells #[.pointer (some ⟨tb, 0, none⟩)] 102)).alloc (.cells #[.pointer (some ⟨1, 102, none⟩), .pointer (some ⟨w.heap.size, 0, none⟩), .int .u64 150] 136)
  refine Calls.mono (by rw [← HQ.out]; exact asl_c er hl tb ⟨w.heap.size, 0, none⟩ cur _ (Ext.at hX HT.out) hc (by simp)) ?_
  rintro e w' ⟨rfl, hcl, ho⟩
  have HC := hid hcl; have HO := hid ho
  clear hcl ho hg1 n8
  go_wp2
  go_ret
  exact ⟨rfl, HC.out, Only.trans (Ext.only hX) HO.out (fun i _ h => h)⟩
set_option maxRecDepth 100000 in
theorem As_nil (t : Value) (w : World) : Calls Tryz.prog 46 #[.nilIface, t] w fun e w' => e = .returned (.bool false) ∧ w = w' := by
  go_enter Tryz.func46, Tryz.ntmps46
  go_wp2
  go_ret
  exact ⟨rfl, rfl⟩
end Go.Proofs.YtkofmabonpbegaaGreatDoor

/- fault.Lost. -/
namespace Go.Proofs.YtkofmabonpbegaaGreatDoor
set_option linter.unusedVariables false
open Go Go.RowKit
theorem zero_loss (w : World) : Sem.run Tryz.prog (zeroValue 52) w = .ok (.agg (lcells (0, 0, 0))) w := by kernel_rfl
theorem built_loss0 : Tryz.prog.built 52 [] = some (lcells (0, 0, 0)) := by kernel_rfl
theorem agg_loss (l : Int × Int × Int) : AggType Tryz.prog 52 (lcells l).size := ⟨by kernel_rfl, by kernel_rfl⟩
def lostV (l : Int × Int × Int) (b : Bool) : Value := .tuple #[.agg (lcells l), .bool b]
set_option maxRecDepth 100000 in
set_option maxHeartbeats 1000000 in
theorem lost_yes (er : Err) (hl : er.lost = true) (w : World) (hg : EtLaid w) : Calls Tryz.prog 19 #[er.val] w fun e w' => e = .returned (lostV er.lossOf true) ∧ Ext w w' := by
  have hz := zero_loss
  obtain ⟨t2, v2, hq⟩ := er.iface
  have HQ := hid hq
  rw [hq]
  obtain ⟨W0, hW0⟩ : ∃ W, w.alloc (.cells (lcells (0, 0, 0)) 52) = W := ⟨_, rfl⟩
  have x0 : Ext w W0 := hW0 ▸ (Ext.refl w).alloc _
  have hr0 : W0.heap[w.heap.size]? = some (.cells (lcells (0, 0, 0)) 52 (0, 0)) := hW0 ▸ heap_alloc_new _ _
  have hsz0 : W0.heap.size = w.heap.size + 1 := by rw [← hW0]; simp
  obtain ⟨W1, hW1⟩ : ∃ W, W0.alloc (.cells (lcells (0, 0, 0)) 52) = W := ⟨_, rfl⟩
  have x1 : Ext W0 W1 := hW1 ▸ (Ext.refl W0).alloc _
  have hr1 : W1.heap[w.heap.size + 1]? = some (.cells (lcells (0, 0, 0)) 52 (0, 0)) := by rw [← hsz0]; exact hW1 ▸ heap_alloc_new _ _
  have HX1 := hid (Ext.trans x0 x1)
  have HR1 := hid (x1.at hr0)
  have HAS := hid (Asl_c er hl (w.heap.size + 1) (lcells (0, 0, 0)) W1 (hg.only HX1.out (fun x => x)) hr1 rfl)
  clear hq x0 x1 hr0 hr1 hg hl
  go_enter Tryz.func19, Tryz.ntmps19
  go_wp2_with (go_at_call 46; fail)
  refine Calls.mono (by rw [← HQ.out]; exact HAS.out) ?_
  rintro e w' ⟨rfl, hcl, ho⟩
  have HC := hid hcl
  have HO := hid ho
  have HR := hid (ho.at HR1.out (by omega))
  clear hcl ho
  go_wp2_with (first
    | (guard_target = wpList _ _ _ ({ dst := some _, op := Op.load _ _, type := _, pos := _, after := _, guard := none } :: _) _ _; refine wpList_load_agg rfl 52 _ rfl ⟨w.heap.size + 1, 0, none⟩ rfl (lcells er.lossOf) (agg_loss _) (agg_cells HC.out) ?_)
    | (guard_target = wpList _ _ _ ({ dst := none, op := Op.store _ _ _, type := _, pos := _, after := _, guard := none } :: _) _ _; refine wpList_store_whole rfl 52 _ _ rfl w.heap.size rfl (lcells er.lossOf) _ rfl 52 (agg_loss _) HR.out rfl (lcells_one _) ?_))
  refine bodyPost_ret (run_results_agg Tryz.results19 rfl (agg_loss _) (setRow_heap _ _ _ _ _ _ HR.out)) rfl ?_
  exact ⟨rfl, Ext.then (Ext.then HX1.out HO.out (fun i hi e => by omega)) (only_setRow _ _ _) (fun i hi => by omega)⟩
set_option maxRecDepth 100000 in
set_option maxHeartbeats 1000000 in
theorem lost_nil (w : World) : Calls Tryz.prog 19 #[.nilIface] w fun e w' => e = .returned (lostV (0, 0, 0) false) ∧ Ext w w' := by
  have hz := zero_loss
  have hb0 := built_loss0
  obtain ⟨W0, hW0⟩ : ∃ W, w.alloc (.cells (lcells (0, 0, 0)) 52) = W := ⟨_, rfl⟩
  have x0 : Ext w W0 := hW0 ▸ (Ext.refl w).alloc _
  have hr0 : W0.heap[w.heap.size]? = some (.cells (lcells (0, 0, 0)) 52 (0, 0)) := hW0 ▸ heap_alloc_new _ _
  have hsz0 : W0.heap.size = w.heap.size + 1 := by rw [← hW0]; simp
  obtain ⟨W1, hW1⟩ : ∃ W, W0.alloc (.cells (lcells (0, 0, 0)) 52) = W := ⟨_, rfl⟩
  have x1 : Ext W0 W1 := hW1 ▸ (Ext.refl W0).alloc _
  have HX1 := hid (Ext.trans x0 x1)
  have HR := hid (x1.at hr0)
  clear x0 x1 hr0
  go_enter Tryz.func19, Tryz.ntmps19
  go_wp2_with (first
    | (go_at_call 46; refine (As_nil _ _).mono ?_; rintro e w' ⟨rfl, rfl⟩)
    | (guard_target = wpList _ _ _ ({ dst := some _, op := Op.build _ _, type := _, pos := _, after := _, guard := none } :: _) _ _; refine wpList_build_eq rfl 52 _ rfl (lcells (0, 0, 0)) ?_ ?_; exact hb0)
    | (guard_target = wpList _ _ _ ({ dst := none, op := Op.store _ _ _, type := _, pos := _, after := _, guard := none } :: _) _ _; refine wpList_store_whole rfl 52 _ _ rfl w.heap.size rfl (lcells (0, 0, 0)) _ rfl 52 (agg_loss _) HR.out rfl (lcells_one _) ?_))
  refine bodyPost_ret (run_results_agg Tryz.results19 rfl (agg_loss _) (setRow_heap _ _ _ _ _ _ HR.out)) rfl ?_
  exact ⟨rfl, Ext.then HX1.out (only_setRow _ _ _) (fun i hi => by omega)⟩
end Go.Proofs.YtkofmabonpbegaaGreatDoor
