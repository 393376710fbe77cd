/- errors.As at an *api.Errno target; fault.Kind. -/
import Derived.Test.YtkmgdglmlmodmaaDoorErrAs
namespace Go.Proofs.YtkmgdglmlmodmaaDoor
set_option linter.unusedVariables false
open Go.RowKit Go.Extern.Stop Go.Stop Go.Extern Go
/-- The package variable errors.errorType, as it is laid. -/
def EtLaid (w : World) : Prop := w.cell? ⟨0, 0, none⟩ = some (.iface 179 (.agg #[.pointer (some ⟨1, 24, none⟩)]))
theorem EtLaid.only {F : Nat → Prop} {w w' : World} (h : EtLaid w) (e : Only F w w') (hn : ¬ F 0) : EtLaid w' := e.cell h hn
set_option maxRecDepth 100000 in
set_option maxHeartbeats 2000000 in
theorem As_c (er : Err) (ta : Addr) (old : Value) (w : World) (hg : EtLaid w) (hf : w.frozen? ta = false) (ht : w.cell? ta = some old) :
    Calls Tryd.prog 74 #[er.val, .iface 121 (.pointer (some ta))] w
      fun e w' => e = .returned (.bool true) ∧ w'.cell? ta = some (.int .i64 er.kind) ∧ Only (fun k => k = ta.block) w w' := by
  obtain ⟨t2, v2, hq⟩ : ∃ t v, er.val = .iface t v := by cases er <;> exact ⟨_, _, rfl⟩
  have HQ := hid hq
  rw [hq]
  have htl := World.block_lt_of_cell? w _ ht
  have hgl := World.block_lt_of_cell? w _ hg
  have x103 := @run_callFunc_extern Tryd.prog 103 _ (ReflectliteValue.methodAny (ReflectliteValue.valueError "reflectlite.Value.Type" 0) (fun t _ _ _ => ReflectliteType.toType t)) Tryd.func103 (by kernel_rfl) (by kernel_rfl) (by kernel_rfl) (by kernel_rfl)
  have x104 := @run_callFunc_extern Tryd.prog 104 _ (ReflectliteValue.method (ReflectliteValue.valueError "reflectlite.Value.IsNil" 0) ReflectliteValue.isNil) Tryd.func104 (by kernel_rfl) (by kernel_rfl) (by kernel_rfl) (by kernel_rfl)
  have x102 := @run_callFunc_extern Tryd.prog 102 _ (fun args => ReflectliteValue.unpack (args.getD 0 (.tuple #[]))) Tryd.func102 (by kernel_rfl) (by kernel_rfl) (by kernel_rfl) (by kernel_rfl)
  have x127 := @run_callFunc_extern Tryd.prog 127 _ (ReflectliteType.abiMethod fun t => do pure (.int .u8 (← Rtype.kind t))) Tryd.func127 (by kernel_rfl) (by kernel_rfl) (by kernel_rfl) (by kernel_rfl)
  have x143 := @run_callFunc_extern Tryd.prog 143 _ (ReflectliteType.method ReflectliteType.elem) Tryd.func143 (by kernel_rfl) (by kernel_rfl) (by kernel_rfl) (by kernel_rfl)
  have x144 := @run_callFunc_extern Tryd.prog 144 _ (ReflectliteType.relation "Implements" ReflectliteType.implements_) Tryd.func144 (by kernel_rfl) (by kernel_rfl) (by kernel_rfl) (by kernel_rfl)
  have vP := ErrFacts.valueOfP
  have tP := ErrFacts.typeP
  have kP := ErrFacts.kindP
  have kE := ErrFacts.kindE
  have eP := ErrFacts.elemP
  have iE := ErrFacts.implE
  have hg1 : ((w.alloc (.cells #[.pointer (some ta)] 121)).alloc (.cells #[.pointer (some ⟨1, 121, none⟩), .pointer (some ⟨w.heap.size, 0, none⟩), .int .u64 150] 162)).cell? ⟨0, 0, none⟩ = some (.iface 179 (.agg #[.pointer (some ⟨1, 24, none⟩)])) := by
    rw [World.cell?_alloc_lt _ _ ⟨0, 0, none⟩ (by simp), World.cell?_alloc_lt _ _ ⟨0, 0, none⟩ hgl]; exact hg
  have n8 := ErrFacts.isNilP ⟨w.heap.size, 0, none⟩ ta ((w.alloc (.cells #[.pointer (some ta)] 121)).alloc (.cells #[.pointer (some ⟨1, 121, none⟩), .pointer (some ⟨w.heap.size, 0, none⟩), .int .u64 150] 162)) (by simp)
  clear hq
  go_enter Tryd.func74, Tryd.ntmps74
  go_wp2_with (go_at_call 105; fail)
  have ht1 : ((w.alloc (.cells #[.pointer (some ta)] 121)).alloc (.cells #[.pointer (some ⟨1, 121, none⟩), .pointer (some ⟨w.heap.size, 0, none⟩), .int .u64 150] 162)).cell? ta = some old := by
    rw [World.cell?_alloc_lt _ _ ta (by simp; omega), World.cell?_alloc_lt _ _ ta htl]; exact ht
  have hf1 : ((w.alloc (.cells #[.pointer (some ta)] 121)).alloc (.cells #[.pointer (some ⟨1, 121, none⟩), .pointer (some ⟨w.heap.size, 0, none⟩), .int .u64 150] 162)).frozen? ta = false := by
    rw [World.frozen?_alloc_old _ _ ta (by simp; omega), World.frozen?_alloc_old _ _ ta (Nat.ne_of_lt htl)]; exact hf
  have hX := ((Ext.refl w).alloc (.cells #[.pointer (some ta)] 121)).alloc (.cells #[.pointer (some ⟨1, 121, none⟩), .pointer (some ⟨w.heap.size, 0, none⟩), .int .u64 150] 162)
  refine Calls.mono (by rw [← HQ.out]; exact as_c er ta ⟨w.heap.size, 0, none⟩ old _ hf1 ht1 (by simp)) ?_
  rintro e w' ⟨rfl, hc, ho⟩
  have HC := hid hc; have HO := hid ho
  clear hc ho ht1 hf1 hg1 n8
  go_wp2
  go_ret
  exact ⟨rfl, HC.out, Only.trans (Ext.only hX) HO.out (fun i _ h => h)⟩
end Go.Proofs.YtkmgdglmlmodmaaDoor
