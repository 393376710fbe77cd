/- A slice of ints of the call's own, appended to. -/
import Derived.Test.YtkmgdglmlmodmaaDoorBase
import Derived.Test.YtkmgdglmlmodmaaDoorProg
import Derived.Test.YtkmgdglmlmodmaaDoorRunLaws
import Derived.Maps.AppendAt
namespace Go.Proofs.YtkmgdglmlmodmaaDoor
set_option linter.unusedVariables false
open Go Go.RowKit
theorem infoI : (Tryd.prog.info? 3).map (fun i => (i.zero, i.size, i.bytes)) = some (some (.int .i64 0), 1, 8) := by kernel_rfl
def vI (x : Nat) : Value := .int .i64 x
/-- Numbers of the call's own, in blocks from B on. -/
def OwnInts (w : World) (B : Nat) (v : Value) (l : List Nat) : Prop := w.ownsRow B 3 1 v l.length (l.map vI)
theorem OwnInts.nil (w : World) (B : Nat) : OwnInts w B (.slice none 0 0) [] := World.ownsRow_nil w B _ _
theorem OwnInts.only {F : Nat → Prop} {w w' : World} {B : Nat} {v : Value} {l : List Nat} (h : OwnInts w B v l) (e : Only F w w') (hn : ∀ b, v.ownBlock = some b → ¬ F b) : OwnInts w' B v l := by
  refine ⟨h.1, ?_⟩
  rcases h.2 with h' | ⟨g, c, cur, h1, h2, h3, h4⟩
  · exact .inl h'
  · exact .inr ⟨g, c, cur, h1, h2, e.at h3 (hn g (by rw [h1]; rfl)), h4⟩
theorem OwnInts.ext {w w' : World} {B : Nat} {v : Value} {l : List Nat} (h : OwnInts w B v l) (e : Ext w w') : OwnInts w' B v l := h.only e fun _ _ x => x
/-- As a slice. -/
theorem OwnInts.slice {w : World} {B : Nat} {v : Value} {l : List Nat} (h : OwnInts w B v l) : ∃ a c, v = .slice a l.length c ∧ ((l = [] ∧ a = none) ∨ ∃ b, a = some ⟨b, 0, none⟩ ∧ B ≤ b ∧ b < w.heap.size ∧ l.length ≤ c ∧ ∀ i, i < l.length → w.cell? ⟨b, i, none⟩ = some (vI (l.getD i 0))) := by
  have hc := h
  rcases h.2 with ⟨h1, h2⟩ | ⟨g, c, cur, h1, h2, h3, h4⟩
  · refine ⟨none, 0, by rw [h1, h2], .inl ⟨List.length_eq_zero_iff.1 h2, rfl⟩⟩
  · refine ⟨_, c, h1, .inr ⟨g, rfl, h2, lt_of_block h3, h4.1, fun i hi => ?_⟩⟩
    have := h.cells (g := g) (by rw [h1]; rfl) i (vI (l.getD i 0)) (by rw [List.getElem?_map, List.getElem?_eq_getElem hi]; simp [List.getD_eq_getElem?_getD, hi])
    have e : (⟨g, 0, none⟩ : Addr).add i = ⟨g, i, none⟩ := by unfold Addr.add; split <;> simp_all
    rw [e] at this
    exact this
/-- 'out = append(out, x)'. -/
theorem OwnInts.push {w : World} {B : Nat} {v : Value} {l : List Nat} (h : OwnInts w B v l) (x : Nat) (hl : l.length < 1000000) (hB : B ≤ w.heap.size) :
    ∃ v' w', (Builtin.append_ #[51, 51] 51 #[v, .slice (some ⟨w.heap.size, 0, none⟩) 1 1]).run Tryd.prog (w.alloc (.cells #[.int .i64 x] 3)) = .ok v' w' ∧ OwnInts w' B v' (l ++ [x]) ∧
      Only (fun b => v.ownBlock = some b) w w' ∧ (∀ w0, w0.heap.size ≤ B → Ext w0 w → Ext w0 w') := by
  obtain ⟨i0, hi, hz0, hz1, hz2⟩ := info_parts infoI
  obtain ⟨v', w', h1, h2, h3, _⟩ := run_append_own_at (P := Tryd.prog) (w := w.alloc (.cells #[.int .i64 x] 3)) B 51 51 3 i0 (.int .i64 0) 1 8 Tryd.underlying51 hi hz0 hz1 hz2 rfl (by decide)
    v l.length _ (World.ownsRow.alloc h _) ⟨w.heap.size, 0, none⟩ 1 1 [vI x] rfl
    (by
      intro j u hu
      have hj : j = 0 := by
        rcases j with _ | j
        · rfl
        · simp at hu
      subst hj
      have e : (⟨w.heap.size, 0, none⟩ : Addr).add 0 = ⟨w.heap.size, 0, none⟩ := rfl
      rw [e, cell_at block_alloc]
      simpa [vI] using hu)
    (by intro u hu; simp at hu; subst hu; rfl) (by unfold maxLen; omega) (by omega) (by simp; omega)
  have ho : Only (fun b => v.ownBlock = some b) w w' := (Only.alloc (Only.refl (fun b => v.ownBlock = some b) w) _).grown h3 (fun k _ e => e)
  refine ⟨v', w', h1, by unfold OwnInts; rw [List.length_append, List.map_append]; exact h2, ho, fun w0 hw0 hx => Ext.then hx ho fun i hi e => ?_⟩
  have := (h.lt i e).1
  omega
end Go.Proofs.YtkmgdglmlmodmaaDoor
