/- Texts of one proof, joined: ErrLoss, LossAs, LostC, LossEq, KindAny. -/
import Derived.Test.YtbdfjiedceaoiaaGreatDoorTC
import Derived.Test.YtbdfjiedceaoiaaGreatDoorTA
import Derived.LaidEql
import Derived.Stop.Asserts
import Derived.RowKitTokens
import Derived.Handy
import Derived.Test.YtbdfjiedceaoiaaGreatDoorTB
set_option linter.unusedVariables false
set_option linter.unusedSimpArgs false
namespace Go.Proofs.YtbdfjiedceaoiaaGreatDoor
set_option linter.unusedVariables false
open Go.RowKit Go.Extern.Stop Go.Stop Go.Extern Go
namespace LossFacts
theorem valueOfP (t : Addr) (w : World) : (ReflectliteValue.unpack (.iface 111 (.pointer (some t)))).run Tryz.prog w
  = .ok (.agg #[.pointer (some ⟨1, 111, none⟩), .pointer (some ⟨w.heap.size, 0, none⟩), .int .u64 150]) (w.alloc (.cells #[.pointer (some t)] 111)) := by kernel_rfl
theorem typeP (a : Addr) (w : World) : (ReflectliteValue.methodAny (ReflectliteValue.valueError "reflectlite.Value.Type" 0) (fun t _ _ _ => ReflectliteType.toType t) #[.agg #[.pointer (some ⟨1, 111, none⟩), .pointer (some a), .int .u64 150]]).run Tryz.prog w
  = .ok (.iface 184 (.agg #[.pointer (some ⟨1, 111, none⟩)])) w := by kernel_rfl
theorem kindP (w : World) : ((ReflectliteType.abiMethod fun t => (fun a : Nat => Value.int IntKind.u8 (a : Int)) <$> Rtype.kind t) #[.pointer (some ⟨1, 111, none⟩)]).run Tryz.prog w = .ok (.int .u8 22) w := by kernel_rfl
theorem kindF (w : World) : ((ReflectliteType.abiMethod fun t => (fun a : Nat => Value.int IntKind.u8 (a : Int)) <$> Rtype.kind t) #[.pointer (some ⟨1, 70, none⟩)]).run Tryz.prog w = .ok (.int .u8 25) w := by kernel_rfl
theorem elemP (w : World) : (ReflectliteType.method ReflectliteType.elem #[.agg #[.pointer (some ⟨1, 111, none⟩)]]).run Tryz.prog w = .ok (.iface 184 (.agg #[.pointer (some ⟨1, 70, none⟩)])) w := by kernel_rfl
theorem implF (w : World) : (ReflectliteType.relation "Implements" ReflectliteType.implements_ #[.agg #[.pointer (some ⟨1, 70, none⟩)], .iface 184 (.agg #[.pointer (some ⟨1, 31, none⟩)])]).run Tryz.prog w = .ok (.bool true) w := by kernel_rfl
theorem assF (w : World) : (ReflectliteType.relation "AssignableTo" ReflectliteType.assignableTo #[.agg #[.pointer (some ⟨1, 70, none⟩)], .iface 184 (.agg #[.pointer (some ⟨1, 70, none⟩)])]).run Tryz.prog w = .ok (.bool true) w := by kernel_rfl
theorem typeOfF (v : Value) (w : World) : (ReflectliteType.typeOf #[.iface 116 v]).run Tryz.prog w = .ok (.iface 184 (.agg #[.pointer (some ⟨1, 116, none⟩)])) w := by kernel_rfl
theorem typeOfL (v : Value) (w : World) : (ReflectliteType.typeOf #[.iface 70 v]).run Tryz.prog w = .ok (.iface 184 (.agg #[.pointer (some ⟨1, 70, none⟩)])) w := by kernel_rfl
theorem assX (w : World) : (ReflectliteType.relation "AssignableTo" ReflectliteType.assignableTo #[.agg #[.pointer (some ⟨1, 116, none⟩)], .iface 184 (.agg #[.pointer (some ⟨1, 70, none⟩)])]).run Tryz.prog w = .ok (.bool false) w := by kernel_rfl
theorem valueOfF (x y z : Value) (w : World) : (ReflectliteValue.unpack (.iface 70 (.agg #[x, y, z]))).run Tryz.prog w
  = .ok (.agg #[.pointer (some ⟨1, 70, none⟩), .pointer (some ⟨w.heap.size, 0, none⟩), .int .u64 153]) (w.alloc (.cells #[x, y, z] 70)) := by kernel_rfl
theorem elemOfP (w : World) : (Rtype.elem? 111).run Tryz.prog w = .ok (some 70) w := by kernel_rfl
theorem mkF (p : Addr) (w : World) : (ReflectliteValue.mk 70 p ReflectliteValue.flagAddr).run Tryz.prog w = .ok (.agg #[.pointer (some ⟨1, 70, none⟩), .pointer (some p), .int .u64 409]) w := by kernel_rfl
theorem partsP (a : Addr) (w : World) : (ReflectliteValue.parts (.agg #[.pointer (some ⟨1, 111, none⟩), .pointer (some a), .int .u64 150])).run Tryz.prog w = .ok (some (111, a, 150)) w := by kernel_rfl
theorem partsFa (a : Addr) (w : World) : (ReflectliteValue.parts (.agg #[.pointer (some ⟨1, 70, none⟩), .pointer (some a), .int .u64 409])).run Tryz.prog w = .ok (some (70, a, 409)) w := by kernel_rfl
theorem partsF (a : Addr) (w : World) : (ReflectliteValue.parts (.agg #[.pointer (some ⟨1, 70, none⟩), .pointer (some a), .int .u64 153])).run Tryz.prog w = .ok (some (70, a, 153)) w := by kernel_rfl
theorem directF (w : World) : (Rtype.directlyAssignable 70 70).run Tryz.prog w = .ok true w := by kernel_rfl
theorem rlm (z : Sem Value) (f : TypeId → Addr → Nat → Nat → Sem Value) (v : Value) :
  ReflectliteValue.method z f #[v] = (do match ← ReflectliteValue.parts v with | none => z | some (t, a, fl) => f t a fl (fl % 32)) := rfl
theorem rls (v x : Value) : ReflectliteValue.set #[v, x] = (do
  let (some (dst, a, fl), some (src, b, _)) := (← ReflectliteValue.parts v, ← ReflectliteValue.parts x)
   | unsupported (.noEntry "extern/(internal/reflectlite.Value).Set.zeroValue")
  if fl / ReflectliteValue.flagAddr % 2 == 0 then unsupported (.noEntry "extern/(internal/reflectlite.Value).Set.unaddressable")
  let val ← loadVar src b
  if ← Rtype.directlyAssignable dst src then storeVar dst a val
  else if ← Rtype.implements dst src then
   if (← Rtype.kind src) == 20 then
    match val with
    | .nilIface => unsupported (.noEntry "extern/reflectlite: a nil value of one interface type handed on as a value of another")
    | _ => storeVar dst a val
   else storeVar dst a (.iface src val)
  else panicString ("reflectlite.Set: value of type " ++ (← Rtype.spelt src) ++ " is not assignable to type " ++ (← Rtype.spelt dst))
  pure (.tuple #[])) := rfl
theorem isNilP (a p : Addr) (W : World) (ha : W.cell? a = some (.pointer (some p))) :
  (ReflectliteValue.method (ReflectliteValue.valueError "reflectlite.Value.IsNil" 0) ReflectliteValue.isNil #[.agg #[.pointer (some ⟨1, 111, none⟩), .pointer (some a), .int .u64 150]]).run Tryz.prog W = .ok (.bool false) W := by
 rw [rlm]
 simp only [Sem.run_bind, partsP, Result.andThen]
 simp [ReflectliteValue.isNil, loadVar, isAgg, underlying, Tryz.underlying111, ha, Result.andThen]
theorem elemV (a p : Addr) (W : World) (ha : W.cell? a = some (.pointer (some p))) :
  (ReflectliteValue.method (ReflectliteValue.valueError "reflectlite.Value.Elem" 0) ReflectliteValue.elem #[.agg #[.pointer (some ⟨1, 111, none⟩), .pointer (some a), .int .u64 150]]).run Tryz.prog W
   = .ok (.agg #[.pointer (some ⟨1, 70, none⟩), .pointer (some p), .int .u64 409]) W := by
 rw [rlm]
 simp only [Sem.run_bind, partsP, Result.andThen]
 simp [ReflectliteValue.elem, loadVar, isAgg, underlying, Tryz.underlying111, ha, Result.andThen, elemOfP, mkF]
theorem aggF : AggType Tryz.prog 70 3 := ⟨by kernel_rfl, by kernel_rfl⟩
theorem setF (tb b : Nat) (x y z : Value) (cur : Array Value) (W : World) (hb : W.heap[b]? = some (.cells #[x, y, z] 70 (0, 0))) (ht : W.heap[tb]? = some (.cells cur 70 (0, 0))) (hc : cur.size = 3) (h1 : ∀ v ∈ (#[x, y, z] : Array Value).toList, v.oneCell' = true) :
  (ReflectliteValue.set #[.agg #[.pointer (some ⟨1, 70, none⟩), .pointer (some ⟨tb, 0, none⟩), .int .u64 409], .agg #[.pointer (some ⟨1, 70, none⟩), .pointer (some ⟨b, 0, none⟩), .int .u64 153]]).run Tryz.prog W
   = .ok (.tuple #[]) (W.setRow tb #[x, y, z]) := by
 have hl := Za6 (P := Tryz.prog) W 70 ⟨b, 0, none⟩ #[x, y, z] aggF (agg_cells' hb)
 have hs := run_storeVar_agg (P := Tryz.prog) W 70 tb 0 #[x, y, z] cur 70 aggF ht (by rw [hc]; simp) h1
 have e : (cur.toList.take 0 ++ (#[x, y, z] : Array Value).toList ++ cur.toList.drop (0 + (#[x, y, z] : Array Value).size)).toArray = #[x, y, z] := by
  have : cur.toList.length = 3 := by rw [Array.length_toList, hc]
  rw [List.drop_of_length_le (by rw [this]; simp)]
  simp
 rw [e] at hs
 rw [rls]
 simp only [Sem.run_bind, partsFa, partsF, Result.andThen]
 simp [ReflectliteValue.flagAddr, hl, directF, hs, Result.andThen]
theorem noAs (v : Value) (w : World) : Sem.run Tryz.prog (Instr.typeAssert (.iface 116 v) 31 188 true) w = .ok (.tuple #[.nilIface, .bool false]) w :=
 run_typeAssert_lacksB Tryz.underlying188 (by kernel_rfl) (by kernel_rfl) v _ w
theorem hasUnwrap (v : Value) (w : World) : Sem.run Tryz.prog (Instr.typeAssert (.iface 116 v) 31 191 true) w = .ok (.tuple #[.iface 116 v, .bool true]) w := by kernel_rfl
end LossFacts
namespace Err
def lossOf : Err → Int × Int × Int
 | no _ => (0, 0, 0)
 | loss g h n => (g, h, n)
 | fault _ _ e => e.lossOf
end Err
def lcells (l : Int × Int × Int) : Array Value := #[.int .i64 l.1, .int .i64 l.2.1, .int .i64 l.2.2]
theorem lcells_one (l : Int × Int × Int) : ∀ v ∈ (lcells l).toList, v.oneCell' = true := by
 intro v hv
 unfold lcells at hv
 simp only [List.mem_cons, List.not_mem_nil, or_false] at hv
 rcases hv with rfl | rfl | rfl <;> rfl
set_option maxRecDepth 100000 in
set_option maxHeartbeats 2000000 in
theorem asl_c (er : Err) (hl : er.lost = true) (tb : Nat) (a : Addr) (cur : Array Value) (w : World) (ht : w.heap[tb]? = some (.cells cur 70 (0, 0))) (hc : cur.size = 3) (ha : w.cell? a = some (.pointer (some ⟨tb, 0, none⟩))) :
  Calls Tryz.prog 84 #[er.val, .iface 111 (.pointer (some ⟨tb, 0, none⟩)), .agg #[.pointer (some ⟨1, 111, none⟩), .pointer (some a), .int .u64 150], .iface 184 (.agg #[.pointer (some ⟨1, 70, none⟩)])] w
   fun e w' => e = .returned (.bool true) ∧ w'.heap[tb]? = some (.cells (lcells er.lossOf) 70 (0, 0)) ∧ Only (fun k => k = tb) w w' := by
 have x106 := @run_callFunc_extern Tryz.prog 85 _ ReflectliteType.typeOf Tryz.func85 (by kernel_rfl) (by kernel_rfl) (by kernel_rfl) (by kernel_rfl)
 have x111 := @run_callFunc_extern Tryz.prog 113 _ (ReflectliteValue.method (ReflectliteValue.valueError "reflectlite.Value.Elem" 0) ReflectliteValue.elem) Tryz.func113 (by kernel_rfl) (by kernel_rfl) (by kernel_rfl) (by kernel_rfl)
 have x112 := @run_callFunc_extern Tryz.prog 114 _ ReflectliteValue.set Tryz.func114 (by kernel_rfl) (by kernel_rfl) (by kernel_rfl) (by kernel_rfl)
 have x102 := @run_callFunc_extern Tryz.prog 81 _ (fun args => ReflectliteValue.unpack (args.getD 0 (.tuple #[]))) Tryz.func81 (by kernel_rfl) (by kernel_rfl) (by kernel_rfl) (by kernel_rfl)
 have x141 := @run_callFunc_extern Tryz.prog 181 _ (ReflectliteType.relation "AssignableTo" ReflectliteType.assignableTo) Tryz.func181 (by kernel_rfl) (by kernel_rfl) (by kernel_rfl) (by kernel_rfl)
 have tF := LossFacts.typeOfF
 have aF := LossFacts.assX
 have tL := LossFacts.typeOfL
 have aL := LossFacts.assF
 have vL := LossFacts.valueOfF
 have HT := hid ht; have HA := hid ha; have HL := hid hl
 have htl := lt_of_block ht
 clear ht ha hl
 go_enter Tryz.func84, Tryz.ntmps84
 go_wp2
 have hbox : (w.alloc (.cells #[.pointer (some ⟨1, 111, none⟩), .pointer (some a), .int .u64 150] 145)).heap[w.heap.size]? = some (.cells #[.pointer (some ⟨1, 111, none⟩), .pointer (some a), .int .u64 150] 145 (0, 0)) := Zad
 have hX0 : Ext w (w.alloc (.cells #[.pointer (some ⟨1, 111, none⟩), .pointer (some a), .int .u64 150] 145)) := (Ext.refl w).alloc _
 generalize (w.alloc (.cells #[.pointer (some ⟨1, 111, none⟩), .pointer (some a), .int .u64 150] 145)) = W at *
 go_loopw [0] (fun v wr => ∃ e' : Err, v = e'.val ∧ (e'.lossOf = er.lossOf ∧ e'.lost = true) ∧ Ext W wr) (fun v _ => Err.vdepth v)
 case atStart => exact ⟨er, rfl, ⟨rfl, HL.out⟩, Ext.refl _⟩
 case round =>
  obtain ⟨e', rfl, hk, hXr⟩ := hrel
  have hX1 : Ext w wr := Ext.trans hX0 hXr
  have hbox := hXr.at hbox
  have tb1 := hX1.at HT.out
  have aa1 := hX1.cell HA.out
  have htl1 := lt_of_block tb1
  rcases e' with n | ⟨lg, lh, ln⟩ | ⟨op, at_, e2⟩
  ·
   cases hk.2
  ·
   have hv : (Err.loss lg lh ln).val = .iface 70 (.agg #[.int .i64 lg, .int .i64 lh, .int .i64 ln]) := rfl
   have hk' : Hid ((lg, lh, ln) = er.lossOf) := hid hk.1
   have el := LossFacts.elemV a ⟨tb, 0, none⟩ wr aa1
   have st := LossFacts.setF tb wr.heap.size (.int .i64 lg) (.int .i64 lh) (.int .i64 ln) cur (wr.alloc (.cells #[.int .i64 lg, .int .i64 lh, .int .i64 ln] 70)) Zad
    (by rw [heap_alloc_old _ _ htl1]; exact tb1) hc (lcells_one (lg, lh, ln))
   have HTT : Hid ((wr.alloc (.cells #[.int .i64 lg, .int .i64 lh, .int .i64 ln] 70)).heap[tb]? = some (.cells cur 70 (0, 0))) := hid (by rw [heap_alloc_old _ _ htl1]; exact tb1)
   have HBX := hid hbox
   have HX1 := hid hX1
   clear hk aa1 tF aF hbox tb1 hX1 hX0 hXr
   go_wp2_with (refine Zac rfl 145 _ rfl ⟨w.heap.size, 0, none⟩ rfl _ ⟨by kernel_rfl, by kernel_rfl⟩ (agg_cells' HBX.out) ?_)
   go_ret
   refine ⟨rfl, ?_, Only.trans (Ext.only (HX1.out.alloc _)) (Zaf _ _ _) (fun i _ h => h)⟩
   rw [← hk'.out]
   exact setRow_heap _ _ _ _ _ _ HTT.out
  ·
   have hv : (Err.fault op at_ e2).val = .iface 116 (.agg #[.string op, .int .i64 at_, e2.val]) := rfl
   have hk' : Hid (e2.lossOf = er.lossOf ∧ e2.lost = true) := hid hk
   obtain ⟨t2, v2, hq⟩ : ∃ t v, e2.val = .iface t v := by cases e2 <;> exact ⟨_, _, rfl⟩
   rw [hq] at hv
   have HQ := hid hq
   have nA := LossFacts.noAs
   have hU := LossFacts.hasUnwrap
   clear hk aa1 tL aL vL hq tb1
   go_wp2
   go_roundw
   case rel => exact ⟨e2, HQ.out.symm, hk'.out, Ext.trans hXr ((Ext.refl wr).alloc _)⟩
   case measure =>
    show Err.vdepth (.iface t2 v2) < Err.vdepth (Err.fault op at_ e2).val
    rw [← HQ.out, Err.vdepth_val, Err.vdepth_val]; exact Nat.lt_succ_self _
set_option maxRecDepth 100000 in
set_option maxHeartbeats 2000000 in
theorem Asl_c (er : Err) (hl : er.lost = true) (tb : Nat) (cur : Array Value) (w : World) (hg : EtLaid w) (ht : w.heap[tb]? = some (.cells cur 70 (0, 0))) (hc : cur.size = 3) :
  Calls Tryz.prog 50 #[er.val, .iface 111 (.pointer (some ⟨tb, 0, none⟩))] w
   fun e w' => e = .returned (.bool true) ∧ w'.heap[tb]? = some (.cells (lcells er.lossOf) 70 (0, 0)) ∧ Only (fun k => k = tb) w w' := by
 obtain ⟨t2, v2, hq⟩ := er.iface
 have HQ := hid hq
 rw [hq]
 have hgl := World.block_lt_of_cell? w _ hg
 have x103 := @run_callFunc_extern Tryz.prog 82 _ (ReflectliteValue.methodAny (ReflectliteValue.valueError "reflectlite.Value.Type" 0) (fun t _ _ _ => ReflectliteType.toType t)) Tryz.func82 (by kernel_rfl) (by kernel_rfl) (by kernel_rfl) (by kernel_rfl)
 have x104 := @run_callFunc_extern Tryz.prog 83 _ (ReflectliteValue.method (ReflectliteValue.valueError "reflectlite.Value.IsNil" 0) ReflectliteValue.isNil) Tryz.func83 (by kernel_rfl) (by kernel_rfl) (by kernel_rfl) (by kernel_rfl)
 have x102 := @run_callFunc_extern Tryz.prog 81 _ (fun args => ReflectliteValue.unpack (args.getD 0 (.tuple #[]))) Tryz.func81 (by kernel_rfl) (by kernel_rfl) (by kernel_rfl) (by kernel_rfl)
 have x127 := @run_callFunc_extern Tryz.prog 168 _ (ReflectliteType.abiMethod fun t => do pure (.int .u8 (← Rtype.kind t))) Tryz.func168 (by kernel_rfl) (by kernel_rfl) (by kernel_rfl) (by kernel_rfl)
 have x143 := @run_callFunc_extern Tryz.prog 183 _ (ReflectliteType.method ReflectliteType.elem) Tryz.func183 (by kernel_rfl) (by kernel_rfl) (by kernel_rfl) (by kernel_rfl)
 have x144 := @run_callFunc_extern Tryz.prog 184 _ (ReflectliteType.relation "Implements" ReflectliteType.implements_) Tryz.func184 (by kernel_rfl) (by kernel_rfl) (by kernel_rfl) (by kernel_rfl)
 have vP := LossFacts.valueOfP
 have tP := LossFacts.typeP
 have kP := LossFacts.kindP
 have kE := LossFacts.kindF
 have eP := LossFacts.elemP
 have iE := LossFacts.implF
 have hg1 : ((w.alloc (.cells #[.pointer (some ⟨tb, 0, none⟩)] 111)).alloc (.cells #[.pointer (some ⟨1, 111, none⟩), .pointer (some ⟨w.heap.size, 0, none⟩), .int .u64 150] 145)).cell? ⟨0, 0, none⟩ = some (.iface 184 (.agg #[.pointer (some ⟨1, 31, none⟩)])) := by
  rw [World.cell?_alloc_lt _ _ ⟨0, 0, none⟩ (by simp), World.cell?_alloc_lt _ _ ⟨0, 0, none⟩ hgl]; exact hg
 have n8 := LossFacts.isNilP ⟨w.heap.size, 0, none⟩ ⟨tb, 0, none⟩ ((w.alloc (.cells #[.pointer (some ⟨tb, 0, none⟩)] 111)).alloc (.cells #[.pointer (some ⟨1, 111, none⟩), .pointer (some ⟨w.heap.size, 0, none⟩), .int .u64 150] 145)) (by simp)
 have HT := hid ht
 clear hq ht
 go_enter Tryz.func50, Tryz.ntmps50
 go_wp2_with (go_at_call 84; fail)
 have hX := ((Ext.refl w).alloc (.cells #[.pointer (some ⟨tb, 0, none⟩)] 111)).alloc (.cells #[.pointer (some ⟨1, 111, none⟩), .pointer (some ⟨w.heap.size, 0, none⟩), .int .u64 150] 145)
 refine Calls.mono (by rw [← HQ.out]; exact asl_c er hl tb ⟨w.heap.size, 0, none⟩ cur _ (Ext.at hX HT.out) hc (by simp)) ?_
 rintro e w' ⟨rfl, hcl, ho⟩
 have HC := hid hcl; have HO := hid ho
 clear hcl ho hg1 n8
 go_wp2
 go_ret
 exact ⟨rfl, HC.out, Only.trans (Ext.only hX) HO.out (fun i _ h => h)⟩
open Go Go.RowKit
theorem zero_loss (w : World) : Sem.run Tryz.prog (zeroValue 70) w = .ok (.agg (lcells (0, 0, 0))) w := by kernel_rfl
theorem agg_loss (l : Int × Int × Int) : AggType Tryz.prog 70 (lcells l).size := ⟨by kernel_rfl, by kernel_rfl⟩
def lostV (l : Int × Int × Int) (b : Bool) : Value := .tuple #[.agg (lcells l), .bool b]
set_option maxRecDepth 100000 in
set_option maxHeartbeats 1000000 in
theorem lost_yes (er : Err) (hl : er.lost = true) (w : World) (hg : EtLaid w) : Calls Tryz.prog 31 #[er.val] w fun e w' => e = .returned (lostV er.lossOf true) ∧ Ext w w' := by
 have hz := zero_loss
 obtain ⟨t2, v2, hq⟩ := er.iface
 have HQ := hid hq
 rw [hq]
 obtain ⟨W0, hW0⟩ : ∃ W, w.alloc (.cells (lcells (0, 0, 0)) 70) = W := ⟨_, rfl⟩
 have x0 : Ext w W0 := hW0 ▸ (Ext.refl w).alloc _
 have hr0 : W0.heap[w.heap.size]? = some (.cells (lcells (0, 0, 0)) 70 (0, 0)) := hW0 ▸ heap_alloc_new _ _
 have hsz0 : W0.heap.size = w.heap.size + 1 := by rw [← hW0]; simp
 obtain ⟨W1, hW1⟩ : ∃ W, W0.alloc (.cells (lcells (0, 0, 0)) 70) = W := ⟨_, rfl⟩
 have x1 : Ext W0 W1 := hW1 ▸ (Ext.refl W0).alloc _
 have hr1 : W1.heap[w.heap.size + 1]? = some (.cells (lcells (0, 0, 0)) 70 (0, 0)) := by rw [← hsz0]; exact hW1 ▸ heap_alloc_new _ _
 have HX1 := hid (Ext.trans x0 x1)
 have HR1 := hid (x1.at hr0)
 have HAS := hid (Asl_c er hl (w.heap.size + 1) (lcells (0, 0, 0)) W1 (hg.only HX1.out (fun x => x)) hr1 rfl)
 clear hq x0 x1 hr0 hr1 hg hl
 go_enter Tryz.func31, Tryz.ntmps31
 go_wp2_with (go_at_call 50; fail)
 refine Calls.mono (by rw [← HQ.out]; exact HAS.out) ?_
 rintro e w' ⟨rfl, hcl, ho⟩
 have HC := hid hcl
 have HO := hid ho
 have HR := hid (ho.at HR1.out (by omega))
 clear hcl ho
 go_wp2_with (first
  | (guard_target = wpList _ _ _ (⟨some _, Op.load _ _, _, _, _, none⟩ :: _) _ _; refine Zac rfl 70 _ rfl ⟨w.heap.size + 1, 0, none⟩ rfl (lcells er.lossOf) (agg_loss _) (Zah HC.out) ?_)
  | (guard_target = wpList _ _ _ (⟨none, Op.store _ _ _, _, _, _, none⟩ :: _) _ _; refine Zaa rfl 70 _ _ rfl w.heap.size rfl (lcells er.lossOf) _ rfl 70 (agg_loss _) HR.out rfl (lcells_one _) ?_))
 refine bodyPost_ret (Zam Tryz.results31 rfl (agg_loss _) (setRow_heap _ _ _ _ _ _ HR.out)) rfl ?_
 exact ⟨rfl, Ext.then (Ext.then HX1.out HO.out (fun i hi e => by omega)) (Zaf _ _ _) (fun i hi => by omega)⟩
theorem loss_stood : Tryz.prog.stoodInHeld 70 = false := by kernel_rfl
theorem loss_list : (Tryz.prog.fieldsOf 70).toList = [fld "Group" 3 0 0, fld "Have" 3 1 8, fld "Need" 3 2 16] := by unfold Program.fieldsOf; rw [Tryz.underlying70]; rfl
theorem loss_fields : Tryz.prog.underlying 70 = some (.struct (Tryz.prog.fieldsOf 70)) := by unfold Program.fieldsOf; rw [Tryz.underlying70]
theorem loss_eqIn (d : Nat) (l : Int × Int × Int) (w : World) : (Op.equalIn (d + 2) 70 (.agg (lcells l)) (.agg (lcells l))).run Tryz.prog w = .ok true w := by
 rw [run_equalIn_struct w (d + 1) 70 (lcells l) (lcells l) loss_fields loss_stood]
 rw [loss_list]
 have q0 := run_part_plain (P := Tryz.prog) w plainI (show (lcells l)[0]? = some (.int .i64 l.1) from rfl)
 have q1 := run_part_plain (P := Tryz.prog) w plainI (show (lcells l)[1]? = some (.int .i64 l.2.1) from rfl)
 have q2 := run_part_plain (P := Tryz.prog) w plainI (show (lcells l)[2]? = some (.int .i64 l.2.2) from rfl)
 have e : ∀ a : Int, (Op.equalIn (d + 1) 3 (.int .i64 a) (.int .i64 a)).run Tryz.prog w = .ok true w := fun a => by
  rw [run_equalIn_int (P := Tryz.prog) w d 3 .i64 .i64 a a Tryz.underlying3]; simp
 refine (Zay (by decide) q0 q0 (e _)).trans ?_
 rw [if_pos rfl]
 refine (Zay (by decide) q1 q1 (e _)).trans ?_
 rw [if_pos rfl]
 refine (Zay (by decide) q2 q2 (e _)).trans ?_
 rfl
theorem loss_eqAt (D : Nat) (hD : ∃ d, D = d + 2) (l : Int × Int × Int) (w : World) : (Op.equalIn D 70 (.agg (lcells l)) (.agg (lcells l))).run Tryz.prog w = .ok true w := by
 obtain ⟨d, rfl⟩ := hD
 exact loss_eqIn d l w
theorem loss_eql (l : Int × Int × Int) (w : World) : (binOp .eql 70 (.agg (lcells l)) (.agg (lcells l))).run Tryz.prog w = .ok (.bool true) w := by
 rw [run_eql_struct]
 rw [loss_eqAt 10000 ⟨9998, by omega⟩ l w]; rfl
theorem loss_neq (l : Int × Int × Int) (w : World) : (binOp .neq 70 (.agg (lcells l)) (.agg (lcells l))).run Tryz.prog w = .ok (.bool false) w := by
 rw [run_neq_struct]
 rw [loss_eqAt 10000 ⟨9998, by omega⟩ l w]; rfl
theorem loss_guardB : Tryz.prog.eqGuardType Tryz.prog.depth 70 = false := by kernel_rfl
theorem loss_guard (op : BinOp) (x y : Operand) (xs ys : Array Value) (w : World) : (eqGuard op 70 x y (.agg xs) (.agg ys)).run Tryz.prog w = .ok () w := run_eqGuard_agg w op 70 x y xs ys loss_guardB
theorem built_loss3 (a b c : Int) : Tryz.prog.built 70 [(0, .int .i64 a), (1, .int .i64 b), (2, .int .i64 c)] = some (lcells (a, b, c)) := by kernel_rfl
theorem eql_types (t t' : TypeId) (v v' : Value) (h : t ≠ t') (w : World) : (binOp .eql 31 (.iface t v) (.iface t' v')).run Tryz.prog w = .ok (.bool false) w := by
 have h0 : ∀ d : Nat, (Op.equalIn (d + 1) 31 (.iface t v) (.iface t' v')).run Tryz.prog w = .ok false w := fun d => by simp [Op.equalIn, run_underlying Tryz.underlying31, h]
 simp only [binOp]
 simp [Op.equal, Op.maxDepth, h0 9999]
theorem compE2 (w : World) : Sem.run Tryz.prog (ReflectliteType.method (fun t => do Rtype.noPackHeld "Comparable" t; (fun a => Value.bool a.comparable) <$> typeInfo t) #[.agg #[.pointer (some ⟨1, 41, none⟩)]]) w = .ok (.bool true) w := by kernel_rfl
theorem eql_errno (w : World) : Sem.run Tryz.prog (binOp .eql 31 (.iface 41 (.int .i64 6)) (.iface 41 (.int .i64 6))) w = .ok (.bool true) w := by kernel_rfl
set_option maxRecDepth 100000 in
set_option maxHeartbeats 2000000 in
theorem is_lost (er : Err) (hl : er.lost = true) (w : World) :
  Calls Tryz.prog 86 #[er.val, .iface 41 (.int .i64 6), .bool true] w fun e w' => e = .returned (.bool true) ∧ Ext w w' := by
 have hF := fun v => eql_types 116 41 v (.int .i64 6) (by decide)
 have hL := fun v => eql_types 70 41 v (.int .i64 6) (by decide)
 have hE6 := eql_errno
 have nI := ErrFacts.noIsF
 have hI := ErrFacts.hasIsL
 have hU := ErrFacts.hasUnwrap
 have HL := hid hl
 clear hl
 go_enter Tryz.func86, Tryz.ntmps86
 go_wp2
 go_loopw [0] (fun v wr => ∃ e' : Err, v = e'.val ∧ e'.lost = true ∧ Ext w wr) (fun v _ => Err.vdepth v)
 case atStart => exact ⟨er, rfl, HL.out, Ext.refl _⟩
 case round =>
  obtain ⟨e', rfl, hk, hx⟩ := hrel
  rcases e' with n | ⟨lg, lh, ln⟩ | ⟨op, at_, e2⟩
  ·
   cases hk
  ·
   have hv : (Err.loss lg lh ln).val = .iface 70 (.agg #[.int .i64 lg, .int .i64 lh, .int .i64 ln]) := rfl
   have HX := hid hx
   clear hk hx
   go_wp2
   --M1
   go_ret
   exact ⟨rfl, HX.out.alloc _⟩
  ·
   have hv : (Err.fault op at_ e2).val = .iface 116 (.agg #[.string op, .int .i64 at_, e2.val]) := rfl
   have hk' : Hid (e2.lost = true) := hid hk
   obtain ⟨t2, v2, hq⟩ := e2.iface
   rw [hq] at hv
   have HQ := hid hq
   have HX := hid hx
   clear hk hx hq
   go_wp2
   --M2
   go_roundw
   case rel => exact ⟨e2, HQ.out.symm, hk'.out, HX.out.alloc _⟩
   case measure =>
    show Err.vdepth (.iface t2 v2) < Err.vdepth (Err.fault op at_ e2).val
    rw [← HQ.out, Err.vdepth_val, Err.vdepth_val]; exact Nat.lt_succ_self _
set_option maxRecDepth 100000 in
set_option maxHeartbeats 2000000 in
theorem Is_lost (er : Err) (hl : er.lost = true) (w : World) :
  Calls Tryz.prog 51 #[er.val, .iface 41 (.int .i64 6)] w fun e w' => e = .returned (.bool true) ∧ Ext w w' := by
 have x106 := @run_callFunc_extern Tryz.prog 85 _ ReflectliteType.typeOf Tryz.func85 (by kernel_rfl) (by kernel_rfl) (by kernel_rfl) (by kernel_rfl)
 have xC := @run_callFunc_extern Tryz.prog 182 _ (ReflectliteType.method (fun t => do Rtype.noPackHeld "Comparable" t; pure (.bool (← typeInfo t).comparable))) Tryz.func182 (by kernel_rfl) (by kernel_rfl) (by kernel_rfl) (by kernel_rfl)
 have tE := ErrFacts.typeOfE
 have cE := compE2
 have HL := hid (is_lost er hl)
 obtain ⟨t2, v2, hq⟩ := er.iface
 rw [hq] at HL ⊢
 clear hl hq
 go_enter Tryz.func51, Tryz.ntmps51
 go_wp2_with (go_at_call 86; refine (HL.out _).mono ?_; rintro e w' ⟨rfl, hx⟩)
 --M3
 go_ret
 exact ⟨rfl, hx⟩
set_option maxRecDepth 100000 in
set_option maxHeartbeats 2000000 in
theorem kind_err (er : Err) (w : World) (hg : EtLaid w) : Calls Tryz.prog 17 #[er.val] w fun e w' => e = .returned (.int .i64 er.kind) ∧ Ext w w' := by
 obtain ⟨t2, v2, hq⟩ := er.iface
 have HQ := hid hq
 have HI := hid (Is_lost er)
 have HK := hid (@Err.kind_lost er)
 rw [hq]
 rw [hq] at HI
 have HG := hid hg
 clear hq hg
 go_enter Tryz.func17, Tryz.ntmps17
 go_wp2_with (go_at_call 50; fail)
 have hg1 := HG.out.only ((Ext.refl w).alloc (.cells #[.int .i64 0] 41)) (fun x => x)
 have hX := (Ext.refl w).alloc (.cells #[.int .i64 0] 41)
 refine Calls.mono (by rw [← HQ.out]; exact As_c er ⟨w.heap.size, 0, none⟩ (.int .i64 0) _ hg1 (by simp) (by simp)) ?_
 rintro e w' (⟨hl, rfl, hc, ho⟩ | ⟨hl, rfl, ho⟩)
 ·
  have HO := hid ho
  clear ho hg1 hl
  go_wp2
  go_ret
  exact ⟨rfl, Ext.then hX HO.out (fun i hi e => by have : i = w.heap.size := e; omega)⟩
 ·
  have HO := hid (Ext.trans hX ho)
  have HL := hid hl
  clear ho hg1 hl hX
  go_wp2_with (go_at_call 51; refine (HI.out HL.out _).mono ?_; rintro e w2 ⟨rfl, hx⟩; have HX2 := hid hx; clear hx)
  go_ret
  exact ⟨ret_int (HK.out HL.out).symm, Ext.trans HO.out HX2.out⟩
end Go.Proofs.YtbdfjiedceaoiaaGreatDoor
