/- Texts of one proof, joined: ErrFlt, FltAs, FltList, FltWhere, FltPath, StrSame. -/
import Derived.Test.YtdbjojnejkklhaaDoorPartC
import Derived.Test.YtdbjojnejkklhaaDoorPartA
import Derived.Test.YtdbjojnejkklhaaDoorPartD
import Derived.Test.YtdbjojnejkklhaaDoorPartF
import Derived.OwnWalk
set_option linter.unusedVariables false
set_option linter.unusedSimpArgs false
/- errors.As at an *api.Fault target. -/
namespace Go.Proofs.YtdbjojnejkklhaaDoor
set_option linter.unusedVariables false
open Go.RowKit Go.Extern.Stop Go.Stop Go.Extern Go
namespace FltFacts
theorem valueOfP (t : Addr) (w : World) : (ReflectliteValue.unpack (.iface 148 (.pointer (some t)))).run Tryd.prog w
    = .ok (.agg #[.pointer (some ⟨1, 148, none⟩), .pointer (some ⟨w.heap.size, 0, none⟩), .int .u64 150]) (w.alloc (.cells #[.pointer (some t)] 148)) := by kernel_rfl
theorem typeP (a : Addr) (w : World) : (ReflectliteValue.methodAny (ReflectliteValue.valueError "reflectlite.Value.Type" 0) (fun t _ _ _ => ReflectliteType.toType t) #[.agg #[.pointer (some ⟨1, 148, none⟩), .pointer (some a), .int .u64 150]]).run Tryd.prog w
    = .ok (.iface 150 (.agg #[.pointer (some ⟨1, 148, none⟩)])) w := by kernel_rfl
theorem kindP (w : World) : ((ReflectliteType.abiMethod fun t => (fun a : Nat => Value.int IntKind.u8 (a : Int)) <$> Rtype.kind t) #[.pointer (some ⟨1, 148, none⟩)]).run Tryd.prog w = .ok (.int .u8 22) w := by kernel_rfl
theorem kindF (w : World) : ((ReflectliteType.abiMethod fun t => (fun a : Nat => Value.int IntKind.u8 (a : Int)) <$> Rtype.kind t) #[.pointer (some ⟨1, 123, none⟩)]).run Tryd.prog w = .ok (.int .u8 25) w := by kernel_rfl
theorem elemP (w : World) : (ReflectliteType.method ReflectliteType.elem #[.agg #[.pointer (some ⟨1, 148, none⟩)]]).run Tryd.prog w = .ok (.iface 150 (.agg #[.pointer (some ⟨1, 123, none⟩)])) w := by kernel_rfl
theorem implF (w : World) : (ReflectliteType.relation "Implements" ReflectliteType.implements_ #[.agg #[.pointer (some ⟨1, 123, none⟩)], .iface 150 (.agg #[.pointer (some ⟨1, 26, none⟩)])]).run Tryd.prog w = .ok (.bool true) w := by kernel_rfl
theorem assF (w : World) : (ReflectliteType.relation "AssignableTo" ReflectliteType.assignableTo #[.agg #[.pointer (some ⟨1, 123, none⟩)], .iface 150 (.agg #[.pointer (some ⟨1, 123, none⟩)])]).run Tryd.prog w = .ok (.bool true) w := by kernel_rfl
theorem assE (w : World) : (ReflectliteType.relation "AssignableTo" ReflectliteType.assignableTo #[.agg #[.pointer (some ⟨1, 50, none⟩)], .iface 150 (.agg #[.pointer (some ⟨1, 123, none⟩)])]).run Tryd.prog w = .ok (.bool false) w := by kernel_rfl
theorem valueOfF (x y z : Value) (w : World) : (ReflectliteValue.unpack (.iface 123 (.agg #[x, y, z]))).run Tryd.prog w
    = .ok (.agg #[.pointer (some ⟨1, 123, none⟩), .pointer (some ⟨w.heap.size, 0, none⟩), .int .u64 153]) (w.alloc (.cells #[x, y, z] 123)) := by kernel_rfl
theorem elemOfP (w : World) : (Rtype.elem? 148).run Tryd.prog w = .ok (some 123) w := by kernel_rfl
theorem mkF (p : Addr) (w : World) : (ReflectliteValue.mk 123 p ReflectliteValue.flagAddr).run Tryd.prog w = .ok (.agg #[.pointer (some ⟨1, 123, none⟩), .pointer (some p), .int .u64 409]) w := by kernel_rfl
theorem partsP (a : Addr) (w : World) : (ReflectliteValue.parts (.agg #[.pointer (some ⟨1, 148, none⟩), .pointer (some a), .int .u64 150])).run Tryd.prog w = .ok (some (148, a, 150)) w := by kernel_rfl
theorem partsFa (a : Addr) (w : World) : (ReflectliteValue.parts (.agg #[.pointer (some ⟨1, 123, none⟩), .pointer (some a), .int .u64 409])).run Tryd.prog w = .ok (some (123, a, 409)) w := by kernel_rfl
theorem partsF (a : Addr) (w : World) : (ReflectliteValue.parts (.agg #[.pointer (some ⟨1, 123, none⟩), .pointer (some a), .int .u64 153])).run Tryd.prog w = .ok (some (123, a, 153)) w := by kernel_rfl
theorem directF (w : World) : (Rtype.directlyAssignable 123 123).run Tryd.prog w = .ok true w := by kernel_rfl
theorem isNilP (a p : Addr) (W : World) (ha : W.cell? a = some (.pointer (some p))) :
    (ReflectliteValue.method (ReflectliteValue.valueError "reflectlite.Value.IsNil" 0) ReflectliteValue.isNil #[.agg #[.pointer (some ⟨1, 148, none⟩), .pointer (some a), .int .u64 150]]).run Tryd.prog W = .ok (.bool false) W := by
  rw [ErrFacts.rlm]
  simp only [Sem.run_bind, partsP, Result.andThen]
  simp [ReflectliteValue.isNil, loadVar, isAgg, underlying, Tryd.underlying148, ha, Result.andThen]
theorem elemV (a p : Addr) (W : World) (ha : W.cell? a = some (.pointer (some p))) :
    (ReflectliteValue.method (ReflectliteValue.valueError "reflectlite.Value.Elem" 0) ReflectliteValue.elem #[.agg #[.pointer (some ⟨1, 148, none⟩), .pointer (some a), .int .u64 150]]).run Tryd.prog W
      = .ok (.agg #[.pointer (some ⟨1, 123, none⟩), .pointer (some p), .int .u64 409]) W := by
  rw [ErrFacts.rlm]
  simp only [Sem.run_bind, partsP, Result.andThen]
  simp [ReflectliteValue.elem, loadVar, isAgg, underlying, Tryd.underlying148, ha, Result.andThen, elemOfP, mkF]
theorem aggF : AggType Tryd.prog 123 3 := ⟨by kernel_rfl, by kernel_rfl⟩
theorem setF (tb b : Nat) (x y z : Value) (cur : Array Value) (W : World) (hb : W.heap[b]? = some (.cells #[x, y, z] 123 (0, 0))) (ht : W.heap[tb]? = some (.cells cur 123 (0, 0))) (hc : cur.size = 3) (h1 : ∀ v ∈ (#[x, y, z] : Array Value).toList, v.oneCell' = true) :
    (ReflectliteValue.set #[.agg #[.pointer (some ⟨1, 123, none⟩), .pointer (some ⟨tb, 0, none⟩), .int .u64 409], .agg #[.pointer (some ⟨1, 123, none⟩), .pointer (some ⟨b, 0, none⟩), .int .u64 153]]).run Tryd.prog W
      = .ok (.tuple #[]) (W.setRow tb #[x, y, z]) := by
  have hl := run_loadVar_agg (P := Tryd.prog) W 123 ⟨b, 0, none⟩ #[x, y, z] aggF (agg_cells' hb)
  have hs := run_storeVar_agg (P := Tryd.prog) W 123 tb 0 #[x, y, z] cur 123 aggF ht (by rw [hc]; simp) h1
  have e : (cur.toList.take 0 ++ (#[x, y, z] : Array Value).toList ++ cur.toList.drop (0 + (#[x, y, z] : Array Value).size)).toArray = #[x, y, z] := by
    have : cur.toList.length = 3 := by rw [Array.length_toList, hc]
    rw [List.drop_of_length_le (by rw [this]; simp)]
    simp
  rw [e] at hs
  rw [ErrFacts.rls]
  simp only [Sem.run_bind, partsFa, partsF, Result.andThen]
  simp [ReflectliteValue.flagAddr, hl, directF, hs, Result.andThen]
theorem noAs (v : Value) (w : World) : Sem.run Tryd.prog (Instr.typeAssert (.iface 50 v) 26 154 true) w = .ok (.tuple #[.nilIface, .bool false]) w :=
  run_typeAssert_lacksB Tryd.underlying154 (by kernel_rfl) (by kernel_rfl) v _ w
theorem noUnwrap (v : Value) (w : World) : Sem.run Tryd.prog (Instr.typeAssert (.iface 50 v) 26 157 true) w = .ok (.tuple #[.nilIface, .bool false]) w :=
  run_typeAssert_lacksB Tryd.underlying157 (by kernel_rfl) (by kernel_rfl) v _ w
theorem noUnwraps (v : Value) (w : World) : Sem.run Tryd.prog (Instr.typeAssert (.iface 50 v) 26 158 true) w = .ok (.tuple #[.nilIface, .bool false]) w :=
  run_typeAssert_lacksB Tryd.underlying158 (by kernel_rfl) (by kernel_rfl) v _ w
end FltFacts
end Go.Proofs.YtdbjojnejkklhaaDoor

/- errors.As at an *api.Fault target: a Fault is put there; a number is none. -/
namespace Go.Proofs.YtdbjojnejkklhaaDoor
set_option linter.unusedVariables false
open Go.RowKit Go.Extern.Stop Go.Stop Go.Extern Go
def fcells (op : ByteArray) (at_ : Int) (e : Err) : Array Value := #[.string op, .int .i64 at_, e.val]
theorem Err.iface (e : Err) : ∃ t v, e.val = .iface t v := by cases e <;> exact ⟨_, _, rfl⟩
theorem fcells_one (op : ByteArray) (at_ : Int) (e : Err) : ∀ v ∈ (fcells op at_ e).toList, v.oneCell' = true := by
  obtain ⟨t, u, hq⟩ := e.iface
  intro v hv
  unfold fcells at hv
  simp only [List.mem_cons, List.not_mem_nil, or_false] at hv
  rcases hv with rfl | rfl | rfl
  · rfl
  · rfl
  · rw [hq]; rfl
set_option maxRecDepth 100000 in
set_option maxHeartbeats 2000000 in
theorem asf_yes (op : ByteArray) (at_ : Int) (er : Err) (tb : Nat) (a : Addr) (cur : Array Value) (w : World) (ht : w.heap[tb]? = some (.cells cur 123 (0, 0))) (hc : cur.size = 3) (ha : w.cell? a = some (.pointer (some ⟨tb, 0, none⟩))) :
    Calls Tryd.prog 87 #[(Err.fault op at_ er).val, .iface 148 (.pointer (some ⟨tb, 0, none⟩)), .agg #[.pointer (some ⟨1, 148, none⟩), .pointer (some a), .int .u64 150], .iface 150 (.agg #[.pointer (some ⟨1, 123, none⟩)])] w
      fun e w' => e = .returned (.bool true) ∧ w'.heap[tb]? = some (.cells (fcells op at_ er) 123 (0, 0)) ∧ Only (fun k => k = tb) w w' := by
  have x106 := @run_callFunc_extern Tryd.prog 88 _ ReflectliteType.typeOf Tryd.func88 (by kernel_rfl) (by kernel_rfl) (by kernel_rfl) (by kernel_rfl)
  have x111 := @run_callFunc_extern Tryd.prog 90 _ (ReflectliteValue.method (ReflectliteValue.valueError "reflectlite.Value.Elem" 0) ReflectliteValue.elem) Tryd.func90 (by kernel_rfl) (by kernel_rfl) (by kernel_rfl) (by kernel_rfl)
  have x112 := @run_callFunc_extern Tryd.prog 91 _ ReflectliteValue.set Tryd.func91 (by kernel_rfl) (by kernel_rfl) (by kernel_rfl) (by kernel_rfl)
  have x102 := @run_callFunc_extern Tryd.prog 84 _ (fun args => ReflectliteValue.unpack (args.getD 0 (.tuple #[]))) Tryd.func84 (by kernel_rfl) (by kernel_rfl) (by kernel_rfl) (by kernel_rfl)
  have x141 := @run_callFunc_extern Tryd.prog 118 _ (ReflectliteType.relation "AssignableTo" ReflectliteType.assignableTo) Tryd.func118 (by kernel_rfl) (by kernel_rfl) (by kernel_rfl) (by kernel_rfl)
  have tF := ErrFacts.typeOfF
  have aF := FltFacts.assF
  have vF := FltFacts.valueOfF
  have h1 := fcells_one op at_ er
  obtain ⟨t2, v2, hq⟩ := er.iface
  have hv : (Err.fault op at_ er).val = .iface 123 (.agg #[.string op, .int .i64 at_, .iface t2 v2]) := by rw [← hq]; rfl
  have hfc : fcells op at_ er = #[.string op, .int .i64 at_, .iface t2 v2] := by unfold fcells; rw [hq]
  rw [hv, hfc]
  rw [hfc] at h1
  have HBX : Hid ((w.alloc (.cells #[.pointer (some ⟨1, 148, none⟩), .pointer (some a), .int .u64 150] 137)).heap[w.heap.size]? = some (.cells #[.pointer (some ⟨1, 148, none⟩), .pointer (some a), .int .u64 150] 137 (0, 0))) := hid block_alloc
  have hX0 : Ext w (w.alloc (.cells #[.pointer (some ⟨1, 148, none⟩), .pointer (some a), .int .u64 150] 137)) := (Ext.refl w).alloc _
  have ht0 := hX0.at ht
  have ha0 := hX0.cell ha
  have HX0 := hid hX0
  have el := FltFacts.elemV a ⟨tb, 0, none⟩ _ ha0
  have htl := lt_of_block ht0
  clear ht ha hX0 ha0 hv hfc hq
  go_enter Tryd.func87, Tryd.ntmps87
  go_wp2
  generalize (w.alloc (.cells #[.pointer (some ⟨1, 148, none⟩), .pointer (some a), .int .u64 150] 137)) = W at *
  have st := FltFacts.setF tb W.heap.size (.string op) (.int .i64 at_) (.iface t2 v2) cur (W.alloc (.cells #[.string op, .int .i64 at_, .iface t2 v2] 123)) block_alloc
    (by rw [heap_alloc_old _ _ htl]; exact ht0) hc h1
  have HT : Hid ((W.alloc (.cells #[.string op, .int .i64 at_, .iface t2 v2] 123)).heap[tb]? = some (.cells cur 123 (0, 0))) := hid (by rw [heap_alloc_old _ _ htl]; exact ht0)
  clear ht0 h1 htl
  go_loopw [0] (fun v wr => v = .iface 123 (.agg #[.string op, .int .i64 at_, .iface t2 v2]) ∧ wr = W) (fun _ _ => 0)
  case atStart => exact ⟨rfl, rfl⟩
  case round =>
    obtain ⟨rfl, rfl⟩ := hrel
    go_wp2_with (refine wpList_load_agg rfl 137 _ rfl ⟨w.heap.size, 0, none⟩ rfl _ ⟨by kernel_rfl, by kernel_rfl⟩ (agg_cells' HBX.out) ?_)
    go_ret
    refine ⟨rfl, setRow_heap _ _ _ _ _ _ HT.out, ?_⟩
    exact Only.trans (Ext.only (HX0.out.alloc _)) (only_setRow _ _ _) (fun i _ h => h)
set_option maxRecDepth 100000 in
set_option maxHeartbeats 2000000 in
theorem asf_no (n : Int) (ta a : Addr) (w : World) :
    Calls Tryd.prog 87 #[(Err.no n).val, .iface 148 (.pointer (some ta)), .agg #[.pointer (some ⟨1, 148, none⟩), .pointer (some a), .int .u64 150], .iface 150 (.agg #[.pointer (some ⟨1, 123, none⟩)])] w
      fun e w' => e = .returned (.bool false) ∧ Ext w w' := by
  have x106 := @run_callFunc_extern Tryd.prog 88 _ ReflectliteType.typeOf Tryd.func88 (by kernel_rfl) (by kernel_rfl) (by kernel_rfl) (by kernel_rfl)
  have x141 := @run_callFunc_extern Tryd.prog 118 _ (ReflectliteType.relation "AssignableTo" ReflectliteType.assignableTo) Tryd.func118 (by kernel_rfl) (by kernel_rfl) (by kernel_rfl) (by kernel_rfl)
  have tE := ErrFacts.typeOfE
  have aE := FltFacts.assE
  have nA := FltFacts.noAs
  have nU := FltFacts.noUnwrap
  have nV := FltFacts.noUnwraps
  have hv : (Err.no n).val = .iface 50 (.int .i64 n) := rfl
  rw [hv]
  clear hv
  have HX0 := hid (show Ext w (w.alloc (.cells #[.pointer (some ⟨1, 148, none⟩), .pointer (some a), .int .u64 150] 137)) from (Ext.refl w).alloc _)
  go_enter Tryd.func87, Tryd.ntmps87
  go_wp2
  generalize (w.alloc (.cells #[.pointer (some ⟨1, 148, none⟩), .pointer (some a), .int .u64 150] 137)) = W at *
  go_loopw [0] (fun v wr => v = .iface 50 (.int .i64 n) ∧ wr = W) (fun _ _ => 0)
  case atStart => exact ⟨rfl, rfl⟩
  case round =>
    obtain ⟨rfl, rfl⟩ := hrel
    go_wp2
    go_ret
    exact ⟨rfl, HX0.out⟩
set_option maxRecDepth 100000 in
set_option maxHeartbeats 2000000 in
theorem Asf_c (er : Err) (tb : Nat) (cur : Array Value) (w : World) (hg : EtLaid w) (ht : w.heap[tb]? = some (.cells cur 123 (0, 0))) (hc : cur.size = 3) :
    Calls Tryd.prog 63 #[er.val, .iface 148 (.pointer (some ⟨tb, 0, none⟩))] w
      fun e w' => (∃ n, er = .no n ∧ e = .returned (.bool false) ∧ Ext w w') ∨ (∃ op at_ e2, er = .fault op at_ e2 ∧ e = .returned (.bool true) ∧ w'.heap[tb]? = some (.cells (fcells op at_ e2) 123 (0, 0)) ∧ Only (fun k => k = tb) w w') := by
  obtain ⟨t2, v2, hq⟩ := er.iface
  have HQ := hid hq
  rw [hq]
  have hgl := World.block_lt_of_cell? w _ hg
  have x103 := @run_callFunc_extern Tryd.prog 85 _ (ReflectliteValue.methodAny (ReflectliteValue.valueError "reflectlite.Value.Type" 0) (fun t _ _ _ => ReflectliteType.toType t)) Tryd.func85 (by kernel_rfl) (by kernel_rfl) (by kernel_rfl) (by kernel_rfl)
  have x104 := @run_callFunc_extern Tryd.prog 86 _ (ReflectliteValue.method (ReflectliteValue.valueError "reflectlite.Value.IsNil" 0) ReflectliteValue.isNil) Tryd.func86 (by kernel_rfl) (by kernel_rfl) (by kernel_rfl) (by kernel_rfl)
  have x102 := @run_callFunc_extern Tryd.prog 84 _ (fun args => ReflectliteValue.unpack (args.getD 0 (.tuple #[]))) Tryd.func84 (by kernel_rfl) (by kernel_rfl) (by kernel_rfl) (by kernel_rfl)
  have x127 := @run_callFunc_extern Tryd.prog 106 _ (ReflectliteType.abiMethod fun t => do pure (.int .u8 (← Rtype.kind t))) Tryd.func106 (by kernel_rfl) (by kernel_rfl) (by kernel_rfl) (by kernel_rfl)
  have x143 := @run_callFunc_extern Tryd.prog 120 _ (ReflectliteType.method ReflectliteType.elem) Tryd.func120 (by kernel_rfl) (by kernel_rfl) (by kernel_rfl) (by kernel_rfl)
  have x144 := @run_callFunc_extern Tryd.prog 121 _ (ReflectliteType.relation "Implements" ReflectliteType.implements_) Tryd.func121 (by kernel_rfl) (by kernel_rfl) (by kernel_rfl) (by kernel_rfl)
  have vP := FltFacts.valueOfP
  have tP := FltFacts.typeP
  have kP := FltFacts.kindP
  have kE := FltFacts.kindF
  have eP := FltFacts.elemP
  have iE := FltFacts.implF
  have hg1 : ((w.alloc (.cells #[.pointer (some ⟨tb, 0, none⟩)] 148)).alloc (.cells #[.pointer (some ⟨1, 148, none⟩), .pointer (some ⟨w.heap.size, 0, none⟩), .int .u64 150] 137)).cell? ⟨0, 0, none⟩ = some (.iface 150 (.agg #[.pointer (some ⟨1, 26, none⟩)])) := by
    rw [World.cell?_alloc_lt _ _ ⟨0, 0, none⟩ (by simp), World.cell?_alloc_lt _ _ ⟨0, 0, none⟩ hgl]; exact hg
  have n8 := FltFacts.isNilP ⟨w.heap.size, 0, none⟩ ⟨tb, 0, none⟩ ((w.alloc (.cells #[.pointer (some ⟨tb, 0, none⟩)] 148)).alloc (.cells #[.pointer (some ⟨1, 148, none⟩), .pointer (some ⟨w.heap.size, 0, none⟩), .int .u64 150] 137)) (by simp)
  have HT := hid ht
  clear hq ht
  go_enter Tryd.func63, Tryd.ntmps63
  go_wp2_with (go_at_call 87; fail)
  have hX := ((Ext.refl w).alloc (.cells #[.pointer (some ⟨tb, 0, none⟩)] 148)).alloc (.cells #[.pointer (some ⟨1, 148, none⟩), .pointer (some ⟨w.heap.size, 0, none⟩), .int .u64 150] 137)
  rcases er with n | ⟨op, at_, e2⟩
  · refine Calls.mono (by rw [← HQ.out]; exact asf_no n ⟨tb, 0, none⟩ ⟨w.heap.size, 0, none⟩ _) ?_
    rintro e w' ⟨rfl, ho⟩
    have HO := hid ho
    clear ho hg1 n8
    go_wp2
    go_ret
    exact .inl ⟨n, rfl, rfl, Ext.trans hX HO.out⟩
  · refine Calls.mono (by rw [← HQ.out]; exact asf_yes op at_ e2 tb ⟨w.heap.size, 0, none⟩ cur _ (Ext.at hX HT.out) hc (by simp)) ?_
    rintro e w' ⟨rfl, hcl, ho⟩
    have HC := hid hcl; have HO := hid ho
    clear hcl ho hg1 n8
    go_wp2
    go_ret
    exact .inr ⟨op, at_, e2, rfl, rfl, HC.out, Only.trans (Ext.only hX) HO.out (fun i _ h => h)⟩
end Go.Proofs.YtdbjojnejkklhaaDoor

/- fault.faults: the Faults of an error, the outermost first. -/
namespace Go.Proofs.YtdbjojnejkklhaaDoor
set_option linter.unusedVariables false
open Go Go.RowKit
abbrev Flt := ByteArray × Int × Err
def Err.parts : Err → List Flt
  | .no _ => []
  | .fault op a e => (op, a, e) :: e.parts
def fltCells (x : Flt) : List Value := (fcells x.1 x.2.1 x.2.2).toList
theorem fltCells_len (x : Flt) : (fltCells x).length = 3 := rfl
theorem infoF : (Tryd.prog.info? 123).map (fun i => (i.zero, i.size, i.bytes)) = some (some (.agg #[.string ⟨#[]⟩, .int .i64 0, .nilIface]), 3, 40) := by kernel_rfl
/-- Faults of the call's own, in blocks from B on. -/
def OwnF (w : World) (B : Nat) (v : Value) (l : List Flt) : Prop := w.ownsRow B 123 3 v l.length (l.flatMap fltCells)
theorem OwnF.nil (w : World) (B : Nat) : OwnF w B (.slice none 0 0) [] := World.ownsRow_nil w B _ _
theorem OwnF.only {F : Nat → Prop} {w w' : World} {B : Nat} {v : Value} {l : List Flt} (h : OwnF w B v l) (e : Only F w w') (hn : ∀ b, v.ownBlock = some b → ¬ F b) : OwnF w' B v l := by
  refine ⟨h.1, ?_⟩
  rcases h.2 with h' | ⟨g, c, cur, h1, h2, h3, h4⟩
  · exact .inl h'
  · exact .inr ⟨g, c, cur, h1, h2, e.at h3 (hn g (by rw [h1]; rfl)), h4⟩
theorem OwnF.ext {w w' : World} {B : Nat} {v : Value} {l : List Flt} (h : OwnF w B v l) (e : Ext w w') : OwnF w' B v l := h.only e fun _ _ x => x
theorem flat_len (l : List Flt) : (l.flatMap fltCells).length = l.length * 3 := by
  induction l with
  | nil => rfl
  | cons x l ih => rw [List.flatMap_cons, List.length_append, ih, fltCells_len, List.length_cons]; omega
theorem flat_get : ∀ (l : List Flt) (i j : Nat) (x : Flt), l[i]? = some x → j < 3 → (l.flatMap fltCells)[i * 3 + j]? = (fltCells x)[j]?
  | [], i, j, x, h, _ => by simp at h
  | y :: l, 0, j, x, h, hj => by
    rw [List.getElem?_cons_zero] at h
    cases h
    rw [List.flatMap_cons, List.getElem?_append_left (by rw [fltCells_len]; omega)]
    simp
  | y :: l, i + 1, j, x, h, hj => by
    rw [List.getElem?_cons_succ] at h
    rw [List.flatMap_cons, List.getElem?_append_right (by rw [fltCells_len]; omega), fltCells_len, show (i + 1) * 3 + j - 3 = i * 3 + j by omega]
    exact flat_get l i j x h hj
/-- As a slice. -/
theorem OwnF.slice {w : World} {B : Nat} {v : Value} {l : List Flt} (h : OwnF w B v l) : ∃ a c, v = .slice a l.length c ∧ ((l = [] ∧ a = none) ∨ ∃ b, a = some ⟨b, 0, none⟩ ∧ B ≤ b ∧ b < w.heap.size ∧ l.length ≤ c ∧ ∀ i x, l[i]? = some x → ∀ j u, (fcells x.1 x.2.1 x.2.2).toList[j]? = some u → w.cell? ⟨b, i * 3 + j, none⟩ = some u) := by
  rcases h.2 with ⟨h1, h2⟩ | ⟨g, c, cur, h1, h2, h3, h4⟩
  · refine ⟨none, 0, by rw [h1, h2], .inl ⟨List.length_eq_zero_iff.1 h2, rfl⟩⟩
  · refine ⟨_, c, h1, .inr ⟨g, rfl, h2, lt_of_block h3, h4.1, fun i x hx j u hu => ?_⟩⟩
    have hj : j < 3 := by
      rcases Nat.lt_or_ge j 3 with q | q
      · exact q
      · rw [List.getElem?_eq_none (by show 3 ≤ j; exact q)] at hu; cases hu
    have hc : w.ownsRow B 123 3 v l.length (l.flatMap fltCells) := h
    have := hc.cells (g := g) (by rw [h1]; rfl) (i * 3 + j) u (by rw [flat_get l i j x hx hj]; exact hu)
    have e : (⟨g, 0, none⟩ : Addr).add (i * 3 + j) = ⟨g, i * 3 + j, none⟩ := by unfold Addr.add; split <;> simp_all
    rw [e] at this
    exact this
/-- 'out = append(out, f)'. -/
theorem OwnF.push {w : World} {B : Nat} {v : Value} {l : List Flt} (h : OwnF w B v l) (x : Flt) (hl : l.length < 1000000) (hB : B ≤ w.heap.size) :
    ∃ v' w', (Builtin.append_ #[120, 120] 120 #[v, .slice (some ⟨w.heap.size, 0, none⟩) 1 1]).run Tryd.prog (w.alloc (.cells (fcells x.1 x.2.1 x.2.2) 123)) = .ok v' w' ∧ OwnF w' B v' (l ++ [x]) ∧
      Only (fun b => v.ownBlock = some b) w w' ∧ (∀ w0, w0.heap.size ≤ B → Ext w0 w → Ext w0 w') := by
  obtain ⟨i0, hi, hz0, hz1, hz2⟩ := info_parts infoF
  obtain ⟨v', w', h1, h2, h3, _⟩ := run_append_own_at (P := Tryd.prog) (w := w.alloc (.cells (fcells x.1 x.2.1 x.2.2) 123)) B 120 120 123 i0 (.agg #[.string ⟨#[]⟩, .int .i64 0, .nilIface]) 3 40 Tryd.underlying120 hi hz0 hz1 hz2 rfl (by decide)
    v l.length _ (World.ownsRow.alloc h _) ⟨w.heap.size, 0, none⟩ 1 1 (fltCells x) rfl
    (by
      intro j u hu
      exact agg_cells' block_alloc j u hu)
    (fcells_one _ _ _) (by unfold maxLen; omega) (by omega) (by simp; omega)
  have ho : Only (fun b => v.ownBlock = some b) w w' := (Only.alloc (Only.refl (fun b => v.ownBlock = some b) w) _).grown h3 (fun k _ e => e)
  refine ⟨v', w', h1, by unfold OwnF; rw [List.length_append, List.flatMap_append]; simpa using h2, ho, fun w0 hw0 hx => Ext.then hx ho fun i hi e => ?_⟩
  have := (h.lt i e).1
  omega
theorem Err.parts_len : ∀ e : Err, e.parts.length = e.depth
  | .no _ => rfl
  | .fault _ _ e => by show e.parts.length + 1 = e.depth + 1; rw [Err.parts_len e]
end Go.Proofs.YtdbjojnejkklhaaDoor

/- fault.faults, fault.Where. -/
namespace Go.Proofs.YtdbjojnejkklhaaDoor
set_option linter.unusedVariables false
open Go Go.RowKit
def FltZ : Array Value := #[.string ⟨#[]⟩, .int .i64 0, .nilIface]
theorem zero_flt (w : World) : Sem.run Tryd.prog (zeroValue 123) w = .ok (.agg FltZ) w := by kernel_rfl
theorem agg_flt (op : ByteArray) (n : Int) (e : Err) : AggType Tryd.prog 123 (fcells op n e).size := FltFacts.aggF
def FaultsPost (w : World) (er : Err) (e : Ending) (w' : World) : Prop := ∃ v, e = .returned v ∧ OwnF w' w.heap.size v er.parts ∧ Ext w w'
set_option maxRecDepth 100000 in
set_option maxHeartbeats 1000000 in
theorem faults_c (er : Err) (hd : er.depth < 1000) (w : World) (hg : EtLaid w) : Calls Tryd.prog 73 #[er.val] w (FaultsPost w er) := by
  have hz := zero_flt
  have HG := hid hg
  clear hg
  have HZ : Hid (FltZ.size = 3) := hid rfl
  have HS : Hid ((w.alloc (.cells FltZ 123)).heap[w.heap.size]? = some (.cells FltZ 123 (0, 0))) := hid (heap_alloc_new _ _)
  have HX := hid (show Ext w (w.alloc (.cells FltZ 123)) from (Ext.refl w).alloc _)
  go_enter Tryd.func73, Tryd.ntmps73
  go_wp2
  generalize w.alloc (.cells FltZ 123) = W0 at *
  go_loopw [0, 3] (fun u v wr => ∃ (e' : Err) (l : List Flt) (cur : Array Value), u = e'.val ∧ er.parts = l ++ e'.parts ∧ OwnF wr (w.heap.size + 1) v l ∧ Ext w wr ∧ wr.heap[w.heap.size]? = some (.cells cur 123 (0, 0)) ∧ cur.size = 3) (fun u _ _ => Err.vdepth u)
  case atStart => exact ⟨er, [], FltZ, rfl, rfl, OwnF.nil _ _, HX.out, HS.out, HZ.out⟩
  case round =>
    clear HX HS
    obtain ⟨e', l, cur, rfl, hp, hown, hx, hc, hcs⟩ := hrel
    have hll : l.length + e'.depth = er.depth := by
      have := congrArg List.length hp
      rw [List.length_append, Err.parts_len, Err.parts_len] at this
      omega
    have HP := hid hp; have HO := hid hown; have HX := hid hx; have HC := hid hc; have HCS := hid hcs
    clear hp hown hx hc hcs
    go_wp2_with fail
    refine (Asf_c e' w.heap.size cur wr (HG.out.only HX.out (fun x => x)) HC.out HCS.out).mono ?_
    rintro e w2 (⟨n, rfl, rfl, x2⟩ | ⟨op, at_, e2, rfl, rfl, hc2, o2⟩)
    · have HX2 := hid (Ext.trans HX.out x2)
      have HO2 := hid (HO.out.ext x2)
      have HP2 : Hid (er.parts = l) := hid (by rw [HP.out]; exact List.append_nil l)
      clear x2
      go_wp2
      go_ret
      refine ⟨_, rfl, ?_, HX2.out⟩
      rw [HP2.out]
      obtain ⟨q1, q2⟩ := HO2.out
      refine ⟨q1, ?_⟩
      rcases q2 with q | ⟨g, c, cur, h1, h2, h3, h4⟩
      · exact .inl q
      · exact .inr ⟨g, c, cur, h1, Nat.le_trans (Nat.le_succ _) h2, h3, h4⟩
    · have hown2 := HO.out.only o2 (fun b hb => by have := (HO.out.lt b hb).1; omega)
      have hx2 : Ext w w2 := Ext.then HX.out o2 (fun i hi => by omega)
      have hsz : w.heap.size + 1 ≤ w2.heap.size := lt_of_block hc2
      obtain ⟨v', W3, hap, hown3, ho3, hx3⟩ := hown2.push (op, at_, e2) (by omega) hsz
      have hc3 : W3.heap[w.heap.size]? = some (.cells (fcells op at_ e2) 123 (0, 0)) := ho3.at hc2 (fun hb => by have := (hown2.lt _ hb).1; omega)
      have c2 : W3.cell? ⟨w.heap.size, 2, none⟩ = some e2.val := (cell_at hc3).trans rfl
      have HAP := hid hap
      have HF : Hid (∃ (e' : Err) (l' : List Flt) (cur : Array Value), e2.val = e'.val ∧ er.parts = l' ++ e'.parts ∧ OwnF W3 (w.heap.size + 1) v' l' ∧ Ext w W3 ∧ W3.heap[w.heap.size]? = some (.cells cur 123 (0, 0)) ∧ cur.size = 3) :=
        hid ⟨e2, l ++ [(op, at_, e2)], _, rfl, by rw [HP.out]; simp [Err.parts], hown3, Ext.then hx2 ho3 (fun i hi hb => by have := (hown2.lt _ hb).1; omega), hc3, rfl⟩
      have HC2 := hid hc2
      have HM : Hid (Err.vdepth e2.val < Err.vdepth (Err.fault op at_ e2).val) := hid (by rw [Err.vdepth_val, Err.vdepth_val]; exact Nat.lt_succ_self _)
      obtain ⟨t2, v2, hq⟩ := e2.iface
      have HQ := hid hq
      rw [hq] at c2
      clear hown2 hx2 hsz hap hown3 ho3 hx3 hc3 hc2 o2 hq
      have hs3 : (fcells op at_ e2).size = 3 := rfl
      --M1
      go_wp2_with (first
        | (refine wpList_load_agg rfl 123 _ rfl ⟨w.heap.size, 0, none⟩ rfl (fcells op at_ e2) (agg_flt _ _ _) (agg_cells' HC2.out) ?_)
        | (at_builtin; refine wpList_append_run rfl _ _ _ rfl _ _ _ _ rfl rfl HAP.out ?_))
      go_roundw
      case rel => rw [← HQ.out]; exact HF.out
      case measure => rw [← HQ.out]; exact HM.out
theorem agg_cellsAt {w : World} {b o : Nat} {A : Array Value} (h : ∀ j u, A.toList[j]? = some u → w.cell? ⟨b, o + j, none⟩ = some u) : ∀ j u, A.toList[j]? = some u → w.cell? ((⟨b, o, none⟩ : Addr).add j) = some u := by
  intro j u hu
  have e : (⟨b, o, none⟩ : Addr).add j = ⟨b, o + j, none⟩ := by unfold Addr.add; split <;> simp_all
  rw [e]; exact h j u hu
set_option maxRecDepth 100000 in
set_option maxHeartbeats 1000000 in
theorem where_c (er : Err) (l : List Flt) (op : ByteArray) (n : Int) (e2 : Err) (hp : er.parts = l ++ [(op, n, e2)]) (hd : er.depth < 1000) (w : World) (hg : EtLaid w) :
    Calls Tryd.prog 44 #[er.val] w fun e w' => e = .returned (.tuple #[.string op, .int .i64 n, .bool true]) ∧ Ext w w' := by
  have hz := zero_flt
  have HZ : Hid (FltZ.size = 3) := hid rfl
  have HF := hid (faults_c er hd w hg)
  clear hg
  go_enter Tryd.func44, Tryd.ntmps44
  go_wp2_with fail
  refine HF.out.mono ?_
  rintro e w1 ⟨v, rfl, hown, x1⟩
  obtain ⟨a, c, rfl, h⟩ := hown.slice
  rw [hp] at h ⊢
  have hl : (l ++ [(op, n, e2)]).length = l.length + 1 := by simp
  have hll : l.length < 1000 := by
    have := congrArg List.length hp
    rw [hl, Err.parts_len] at this
    omega
  rcases h with ⟨h0, _⟩ | ⟨b, rfl, hb, hb2, hc, hcells⟩
  · exact absurd (congrArg List.length h0) (by rw [hl]; simp)
  have hat := hcells l.length (op, n, e2) (by rw [List.getElem?_append_right (Nat.le_refl _)]; simp)
  rw [hl]
  generalize l.length = k at *
  have HAT := hid hat
  have HX1 := hid (x1.alloc (.cells (fcells op n e2) 123))
  have HN : Hid ((w1.alloc (.cells (fcells op n e2) 123)).heap[w1.heap.size]? = some (.cells (fcells op n e2) 123 (0, 0))) := hid block_alloc
  have k0 : (0 : Int) ≤ (k : Int) := by omega
  have k1 : (k : Int) < 1000 := by omega
  have k2 : (((k + 1 : Nat) : Int) == 0) = false := by simp; omega
  have hbs : (w1.alloc (.cells FltZ 123)).heap[w1.heap.size]? = some (.cells FltZ 123 (0, 0)) := block_alloc
  clear hat hcells hown hp hl hd HF hb hb2 hc x1
  --M1
  go_wp2_with (first
    | (refine wpList_load_agg rfl 123 _ rfl ⟨b, k * 3, none⟩ rfl (fcells op n e2) (agg_flt _ _ _) (agg_cellsAt HAT.out) ?_)
    | (refine wpList_store_whole rfl 123 _ _ rfl w1.heap.size rfl (fcells op n e2) _ rfl 123 ?_ hbs ?_ ?_ ?_; (exact agg_flt _ _ _); (rfl); exact fcells_one _ _ _))
  rw [setRow_alloc]
  clear hbs
  generalize w1.alloc (.cells (fcells op n e2) 123) = v1 at *
  generalize w1.heap.size = g1 at *
  have xd : Ext v1 v1.drew := (Ext.refl v1).drew
  have c0 : ∀ x : SW Ext v1.drew, x.w.cell? ⟨g1, 0, none⟩ = some (.string op) := fun x => (cell_at ((Ext.trans xd x.ext).at HN.out)).trans rfl
  have c1 : ∀ x : SW Ext v1.drew, x.w.cell? ⟨g1, 1, none⟩ = some (.int .i64 n) := fun x => (cell_at ((Ext.trans xd x.ext).at HN.out)).trans rfl
  refine wp_region_rely_all (S := Ext) (.fin [0, 1, 2, 3, 4, 5, 6]) (by kernel_rfl) (by kernel_rfl) (fun _ _ d _ _ h => by cases d <;> exact h) ?_
  rw [wpS]
  simp only [opsAt, List.map_cons, List.map_nil, Array.getD_eq_getD_getElem?, List.getElem?_toArray, List.getElem?_cons_succ, List.getElem?_cons_zero, Option.getD_some]
  iterate 7 ((refine wpSQ_step (fun K hK => ?_); go_simp; first | (refine hK _ ?_; clear hK K) | (apply Exists.intro; refine ⟨fun x => ?_, hK _ ?_⟩; (fail); clear hK K)))
  refine wpSQ_nil ?_
  intro W hW
  go_wp2
  go_ret3
  exact ⟨rfl, Ext.trans HX1.out (Ext.trans xd hW)⟩
end Go.Proofs.YtdbjojnejkklhaaDoor

/- fault.Path; two lists of texts that are alike. -/
namespace Go.Proofs.YtdbjojnejkklhaaDoor
set_option linter.unusedVariables false
open Go Go.RowKit
theorem infoStr : (Tryd.prog.info? 9).map (fun i => (i.zero, i.size, i.bytes)) = some (some (.string ⟨#[]⟩), 1, 16) := by kernel_rfl
def vS (x : ByteArray) : Value := .string x
/-- Texts of the call's own, in blocks from B on. -/
def OwnS (w : World) (B : Nat) (v : Value) (l : List ByteArray) : Prop := w.ownsRow B 9 1 v l.length (l.map vS)
theorem OwnS.nil (w : World) (B : Nat) : OwnS w B (.slice none 0 0) [] := World.ownsRow_nil w B _ _
theorem OwnS.only {F : Nat → Prop} {w w' : World} {B : Nat} {v : Value} {l : List ByteArray} (h : OwnS w B v l) (e : Only F w w') (hn : ∀ b, v.ownBlock = some b → ¬ F b) : OwnS w' B v l := by
  refine ⟨h.1, ?_⟩
  rcases h.2 with h' | ⟨g, c, cur, h1, h2, h3, h4⟩
  · exact .inl h'
  · exact .inr ⟨g, c, cur, h1, h2, e.at h3 (hn g (by rw [h1]; rfl)), h4⟩
theorem OwnS.ext {w w' : World} {B : Nat} {v : Value} {l : List ByteArray} (h : OwnS w B v l) (e : Ext w w') : OwnS w' B v l := h.only e fun _ _ x => x
theorem OwnS.slice {w : World} {B : Nat} {v : Value} {l : List ByteArray} (h : OwnS w B v l) : ∃ a c, v = .slice a l.length c ∧ ((l = [] ∧ a = none) ∨ ∃ b, a = some ⟨b, 0, none⟩ ∧ B ≤ b ∧ b < w.heap.size ∧ l.length ≤ c ∧ ∀ i x, l[i]? = some x → w.cell? ⟨b, i, none⟩ = some (.string x)) := by
  rcases h.2 with ⟨h1, h2⟩ | ⟨g, c, cur, h1, h2, h3, h4⟩
  · refine ⟨none, 0, by rw [h1, h2], .inl ⟨List.length_eq_zero_iff.1 h2, rfl⟩⟩
  · refine ⟨_, c, h1, .inr ⟨g, rfl, h2, lt_of_block h3, h4.1, fun i x hx => ?_⟩⟩
    have hc : w.ownsRow B 9 1 v l.length (l.map vS) := h
    have := hc.cells (g := g) (by rw [h1]; rfl) i (vS x) (by rw [List.getElem?_map, hx]; rfl)
    have e : (⟨g, 0, none⟩ : Addr).add i = ⟨g, i, none⟩ := by unfold Addr.add; split <;> simp_all
    rw [e] at this
    exact this
theorem OwnS.push {w : World} {B : Nat} {v : Value} {l : List ByteArray} (h : OwnS w B v l) (x : ByteArray) (hl : l.length < 1000000) (hB : B ≤ w.heap.size) :
    ∃ v' w', (Builtin.append_ #[76, 76] 76 #[v, .slice (some ⟨w.heap.size, 0, none⟩) 1 1]).run Tryd.prog (w.alloc (.cells #[.string x] 9)) = .ok v' w' ∧ OwnS w' B v' (l ++ [x]) ∧
      Only (fun b => v.ownBlock = some b) w w' ∧ (∀ w0, w0.heap.size ≤ B → Ext w0 w → Ext w0 w') := by
  obtain ⟨i0, hi, hz0, hz1, hz2⟩ := info_parts infoStr
  obtain ⟨v', w', h1, h2, h3, _⟩ := run_append_own_at (P := Tryd.prog) (w := w.alloc (.cells #[.string x] 9)) B 76 76 9 i0 (.string ⟨#[]⟩) 1 16 Tryd.underlying76 hi hz0 hz1 hz2 rfl (by decide)
    v l.length _ (World.ownsRow.alloc h _) ⟨w.heap.size, 0, none⟩ 1 1 [vS x] rfl
    (by
      intro j u hu
      exact agg_cells' block_alloc j u hu)
    (by intro u hu; simp at hu; subst hu; rfl) (by unfold maxLen; omega) (by omega) (by simp; omega)
  have ho : Only (fun b => v.ownBlock = some b) w w' := (Only.alloc (Only.refl (fun b => v.ownBlock = some b) w) _).grown h3 (fun k _ e => e)
  refine ⟨v', w', h1, by unfold OwnS; rw [List.length_append, List.map_append]; exact h2, ho, fun w0 hw0 hx => Ext.then hx ho fun i hi e => ?_⟩
  have := (h.lt i e).1
  omega
def PathPost (w : World) (er : Err) (e : Ending) (w' : World) : Prop := ∃ v, e = .returned v ∧ OwnS w' w.heap.size v (er.parts.map (·.1)) ∧ Ext w w'
set_option maxRecDepth 100000 in
set_option maxHeartbeats 1000000 in
theorem path_c (er : Err) (hd : er.depth < 1000) (w : World) (hg : EtLaid w) : Calls Tryd.prog 45 #[er.val] w (PathPost w er) := by
  have hz := zero_flt
  have HF := hid (faults_c er hd w hg)
  have hpl := Err.parts_len er
  unfold PathPost
  generalize hpe : er.parts = L at *
  have HPE := hid hpe
  clear hg
  go_enter Tryd.func45, Tryd.ntmps45
  go_wp2_with fail
  refine HF.out.mono ?_
  rintro e w1 ⟨v, rfl, hown, x1⟩
  rw [hpe] at hown
  obtain ⟨a, c, rfl, h⟩ := hown.slice
  have hN : L.length < 1000 := by omega
  have HB : Hid (∀ i x, L[i]? = some x → ∃ b, a = some ⟨b, 0, none⟩ ∧ ∀ j u, (fcells x.1 x.2.1 x.2.2).toList[j]? = some u → w1.cell? ⟨b, i * 3 + j, none⟩ = some u) := hid fun i x hx => by
    rcases h with ⟨h0, _⟩ | ⟨b, rfl, hb, hb2, hc, hcells⟩
    · rw [h0] at hx; simp at hx
    · exact ⟨b, rfl, hcells i x hx⟩
  have HX1 := hid x1
  clear h hown HF hpe hpl x1
  go_wp2
  go_loopw [3, 9] (fun v i wr => ∃ j : Nat, i = .int .i64 j ∧ j ≤ L.length ∧ OwnS wr w1.heap.size v ((L.take j).map (·.1)) ∧ Ext w1 wr) (fun _ i _ => L.length - (intOf i).toNat)
  case atStart => exact ⟨0, rfl, by omega, OwnS.nil _ _, Ext.refl _⟩
  case round =>
    obtain ⟨j, rfl, hj, hown, hx⟩ := hrel
    by_cases hlt : j < L.length
    · have j0 : (0 : Int) ≤ (j : Int) := by omega
      have j1 : (j : Int) < (L.length : Int) := by omega
      obtain ⟨⟨op, n, e2⟩, hxj⟩ : ∃ x, L[j]? = some x := ⟨L[j], List.getElem?_eq_getElem hlt⟩
      obtain ⟨b, rfl, hat⟩ := HB.out j _ hxj
      obtain ⟨W2, hW2⟩ : ∃ W, wr.alloc (.cells (fcells op n e2) 123) = W := ⟨_, rfl⟩
      have x2 : Ext wr W2 := hW2 ▸ (Ext.refl wr).alloc _
      have HN : Hid (W2.heap[wr.heap.size]? = some (.cells (fcells op n e2) 123 (0, 0))) := hid (hW2 ▸ block_alloc)
      have hown2 := hown.ext x2
      have hsz : w1.heap.size ≤ W2.heap.size := Nat.le_trans hx.size x2.size
      obtain ⟨v', W3, hap, hown3, ho3, hx3⟩ := hown2.push op (by simp; omega) hsz
      have htk : (L.take (j + 1)).map (·.1) = (L.take j).map (·.1) ++ [op] := by
        rw [List.take_add_one, hxj]; simp
      rw [← htk] at hown3
      have HF : Hid (OwnS W3 w1.heap.size v' ((L.take (j + 1)).map (·.1)) ∧ Ext w1 W3) := hid ⟨hown3, hx3 w1 (Nat.le_refl _) (Ext.trans hx x2)⟩
      have HAP := hid hap
      have HAT := hid (agg_cellsAt (w := wr) (b := b) (o := j * 3) (A := fcells op n e2) fun q u hu => Ext.cell hx (hat q u hu))
      have hbs : (wr.alloc (.cells FltZ 123)).heap[wr.heap.size]? = some (.cells FltZ 123 (0, 0)) := block_alloc
      have c0 : W2.cell? ⟨wr.heap.size, 0, none⟩ = some (.string op) := (cell_at HN.out).trans rfl
      have HW2 := hid hW2
      clear hown hown2 hown3 ho3 hx3 hap hat hx hsz htk hxj x2 hW2
      --M1
      go_wp2_with (first
        | (refine wpList_load_agg rfl 123 _ rfl ⟨b, j * 3, none⟩ rfl (fcells op n e2) (agg_flt _ _ _) HAT.out ?_)
        | (refine wpList_store_whole rfl 123 _ _ rfl wr.heap.size rfl (fcells op n e2) _ rfl 123 ?_ hbs ?_ ?_ ?_; (exact agg_flt _ _ _); (rfl); exact fcells_one _ _ _; rw [setRow_alloc, HW2.out])
        | (at_builtin; refine wpList_append_run rfl _ _ _ rfl _ _ _ _ rfl rfl HAP.out ?_))
      go_roundw
      case rel => exact ⟨j + 1, by go_num, by omega, HF.out.1, HF.out.2⟩
      case measure => simp [intOf]; omega
    · obtain rfl : L.length = j := by omega
      rw [List.take_length] at hown
      have HO := hid hown; have HX := hid hx
      clear hown hx
      go_wp2
      go_ret
      refine ⟨_, rfl, ?_, Ext.trans HX1.out HX.out⟩
      obtain ⟨q1, q2⟩ := HO.out
      refine ⟨q1, ?_⟩
      rcases q2 with q | ⟨g, c, cur, h1, h2, h3, h4⟩
      · exact .inl q
      · exact .inr ⟨g, c, cur, h1, Nat.le_trans HX1.out.size h2, h3, h4⟩
end Go.Proofs.YtdbjojnejkklhaaDoor

/- stavebook.Same of two lists of texts that are the same. -/
namespace Go.Proofs.YtdbjojnejkklhaaDoor
set_option linter.unusedVariables false
open Go Go.RowKit
def StrAt (w : World) (a : Option Addr) (l : List ByteArray) : Prop := ∀ i x, l[i]? = some x → ∃ b off, a = some ⟨b, off, none⟩ ∧ w.cell? ⟨b, off + i, none⟩ = some (.string x)
theorem StrAt.ext {w w' : World} {a : Option Addr} {l : List ByteArray} (h : StrAt w a l) (e : Ext w w') : StrAt w' a l := fun i x hx => by
  obtain ⟨b, off, ha, hc⟩ := h i x hx
  exact ⟨b, off, ha, Ext.cell e hc⟩
set_option maxRecDepth 100000 in
set_option maxHeartbeats 1000000 in
theorem samestr_c (a a' : Option Addr) (l : List ByteArray) (n c c' : Nat) (hn : l.length = n) (hs : n < 1000) (w : World) (h : StrAt w a l) (h' : StrAt w a' l) :
    Calls Tryd.prog 46 #[.slice a n c, .slice a' n c'] w fun e w' => e = .returned (.bool true) ∧ Ext w w' := by
  have H := hid h; have H' := hid h'; have HN := hid hn
  clear h h' hn
  go_enter Tryd.func46, Tryd.ntmps46
  go_wp2
  go_loopw [5] (fun i wr => ∃ k : Nat, k ≤ n ∧ i = .int .i64 k ∧ Ext w wr) (fun i _ => n - (intOf i).toNat)
  case atStart => exact ⟨0, by omega, rfl, Ext.refl _⟩
  case round =>
    obtain ⟨k, hk, rfl, hx⟩ := hrel
    have HX := hid hx
    clear hx
    by_cases hlt : k < n
    · have k0 : (0 : Int) ≤ (k : Int) := by omega
      have k1 : (k : Int) < (n : Int) := by omega
      obtain ⟨x, hxk⟩ : ∃ x, l[k]? = some x := ⟨l[k]'(by have := HN.out; omega), List.getElem?_eq_getElem (by have := HN.out; omega)⟩
      obtain ⟨b, off, rfl, hc⟩ := H.out k x hxk
      obtain ⟨b', off', rfl, hc'⟩ := H'.out k x hxk
      have xd : Ext wr wr.drew := (Ext.refl wr).drew
      have c1 : ∀ y : SW Ext wr.drew, y.w.cell? ⟨b, off + k, none⟩ = some (.string x) := fun y => Ext.cell (Ext.trans HX.out (Ext.trans xd y.ext)) hc
      have c2 : ∀ y : SW Ext wr.drew, y.w.cell? ⟨b', off' + k, none⟩ = some (.string x) := fun y => Ext.cell (Ext.trans HX.out (Ext.trans xd y.ext)) hc'
      clear hxk hc hc'
      go_wp2
      refine wp_region_rely_all (S := Ext) (.fin [0, 1, 2, 3, 4, 5, 6, 7, 8]) (by kernel_rfl) (by kernel_rfl) (fun _ _ d _ _ h => by cases d <;> exact h) ?_
      rw [wpS]
      simp only [opsAt, List.map_cons, List.map_nil, Array.getD_eq_getD_getElem?, List.getElem?_toArray, List.getElem?_cons_succ, List.getElem?_cons_zero, Option.getD_some]
      iterate 9 ((refine wpSQ_step (fun K hK => ?_); go_simp; first | (refine hK _ ?_; clear hK K) | (apply Exists.intro; refine ⟨fun x => ?_, hK _ ?_⟩; (fail); clear hK K)))
      refine wpSQ_nil ?_
      intro W hW
      have HW := hid (Ext.trans HX.out (Ext.trans xd hW))
      clear hW c1 c2
      go_wp2
      go_roundw
      case rel => exact ⟨k + 1, by omega, by go_num, HW.out⟩
      case measure => simp [intOf]; omega
    · go_wp2
      go_ret
      exact ⟨rfl, HX.out⟩
end Go.Proofs.YtdbjojnejkklhaaDoor
