/- What the model's entries for internal/reflectlite answer at this program's error types. -/
import Derived.Test.YtkmgdglmlmodmaaDoorBase
import Derived.Test.YtkmgdglmlmodmaaDoorWithin
import Derived.LaidEql
import Derived.Stop.Asserts
import Derived.RowKitTokens
namespace Go.Proofs.YtkmgdglmlmodmaaDoor
set_option linter.unusedVariables false
open Go.RowKit Go.Extern.Stop Go.Stop Go.Extern Go
namespace ErrFacts

theorem valueOfP (t : Addr) (w : World) : (ReflectliteValue.unpack (.iface 121 (.pointer (some t)))).run Tryd.prog w
    = .ok (.agg #[.pointer (some ⟨1, 121, none⟩), .pointer (some ⟨w.heap.size, 0, none⟩), .int .u64 150]) (w.alloc (.cells #[.pointer (some t)] 121)) := by kernel_rfl
theorem typeP (a : Addr) (w : World) : (ReflectliteValue.methodAny (ReflectliteValue.valueError "reflectlite.Value.Type" 0) (fun t _ _ _ => ReflectliteType.toType t) #[.agg #[.pointer (some ⟨1, 121, none⟩), .pointer (some a), .int .u64 150]]).run Tryd.prog w
    = .ok (.iface 179 (.agg #[.pointer (some ⟨1, 121, none⟩)])) w := by kernel_rfl
theorem kindP (w : World) : ((ReflectliteType.abiMethod fun t => (fun a : Nat => Value.int IntKind.u8 (a : Int)) <$> Rtype.kind t) #[.pointer (some ⟨1, 121, none⟩)]).run Tryd.prog w = .ok (.int .u8 22) w := by kernel_rfl
theorem kindE (w : World) : ((ReflectliteType.abiMethod fun t => (fun a : Nat => Value.int IntKind.u8 (a : Int)) <$> Rtype.kind t) #[.pointer (some ⟨1, 42, none⟩)]).run Tryd.prog w = .ok (.int .u8 2) w := by kernel_rfl
theorem elemP (w : World) : (ReflectliteType.method ReflectliteType.elem #[.agg #[.pointer (some ⟨1, 121, none⟩)]]).run Tryd.prog w = .ok (.iface 179 (.agg #[.pointer (some ⟨1, 42, none⟩)])) w := by kernel_rfl
theorem implE (w : World) : (ReflectliteType.relation "Implements" ReflectliteType.implements_ #[.agg #[.pointer (some ⟨1, 42, none⟩)], .iface 179 (.agg #[.pointer (some ⟨1, 24, none⟩)])]).run Tryd.prog w = .ok (.bool true) w := by kernel_rfl
theorem typeOfE (v : Value) (w : World) : (ReflectliteType.typeOf #[.iface 42 v]).run Tryd.prog w = .ok (.iface 179 (.agg #[.pointer (some ⟨1, 42, none⟩)])) w := by kernel_rfl
theorem typeOfF (v : Value) (w : World) : (ReflectliteType.typeOf #[.iface 141 v]).run Tryd.prog w = .ok (.iface 179 (.agg #[.pointer (some ⟨1, 141, none⟩)])) w := by kernel_rfl
theorem assE (w : World) : (ReflectliteType.relation "AssignableTo" ReflectliteType.assignableTo #[.agg #[.pointer (some ⟨1, 42, none⟩)], .iface 179 (.agg #[.pointer (some ⟨1, 42, none⟩)])]).run Tryd.prog w = .ok (.bool true) w := by kernel_rfl
theorem assF (w : World) : (ReflectliteType.relation "AssignableTo" ReflectliteType.assignableTo #[.agg #[.pointer (some ⟨1, 141, none⟩)], .iface 179 (.agg #[.pointer (some ⟨1, 42, none⟩)])]).run Tryd.prog w = .ok (.bool false) w := by kernel_rfl
theorem assL (w : World) : (ReflectliteType.relation "AssignableTo" ReflectliteType.assignableTo #[.agg #[.pointer (some ⟨1, 89, none⟩)], .iface 179 (.agg #[.pointer (some ⟨1, 42, none⟩)])]).run Tryd.prog w = .ok (.bool false) w := by kernel_rfl
theorem valueOfE (n : Int) (w : World) : (ReflectliteValue.unpack (.iface 42 (.int .i64 n))).run Tryd.prog w
    = .ok (.agg #[.pointer (some ⟨1, 42, none⟩), .pointer (some ⟨w.heap.size, 0, none⟩), .int .u64 130]) (w.alloc (.cells #[.int .i64 n] 42)) := by kernel_rfl
theorem elemOfP (w : World) : (Rtype.elem? 121).run Tryd.prog w = .ok (some 42) w := by kernel_rfl
theorem mkE (p : Addr) (w : World) : (ReflectliteValue.mk 42 p ReflectliteValue.flagAddr).run Tryd.prog w = .ok (.agg #[.pointer (some ⟨1, 42, none⟩), .pointer (some p), .int .u64 386]) w := by kernel_rfl
theorem partsP (a : Addr) (w : World) : (ReflectliteValue.parts (.agg #[.pointer (some ⟨1, 121, none⟩), .pointer (some a), .int .u64 150])).run Tryd.prog w = .ok (some (121, a, 150)) w := by kernel_rfl
theorem partsEa (a : Addr) (w : World) : (ReflectliteValue.parts (.agg #[.pointer (some ⟨1, 42, none⟩), .pointer (some a), .int .u64 386])).run Tryd.prog w = .ok (some (42, a, 386)) w := by kernel_rfl
theorem partsE (a : Addr) (w : World) : (ReflectliteValue.parts (.agg #[.pointer (some ⟨1, 42, none⟩), .pointer (some a), .int .u64 130])).run Tryd.prog w = .ok (some (42, a, 130)) w := by kernel_rfl
theorem directE (w : World) : (Rtype.directlyAssignable 42 42).run Tryd.prog w = .ok true w := by kernel_rfl
end ErrFacts
end Go.Proofs.YtkmgdglmlmodmaaDoor
