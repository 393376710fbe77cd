/- Whole structs and arrays, loaded out of memory and stored into it, at whatever place. -/
import Derived.WalkKit
import Derived.Laws.Rows
import Derived.Laws.ResultCell
namespace Go
set_option linter.unusedVariables false
section
variable {P : Program}
/-- A struct's or array's type, with so many cells. -/
def AggType (P : Program) (ty : TypeId) (n : Nat) : Prop := (match P.underlying ty with | some (.struct _) | some (.array _ _) => true | _ => false) = true ∧ (P.info? ty).map (·.size) = some n
theorem run_isAgg {ty : TypeId} {n : Nat} (h : AggType P ty n) (w : World) : (isAgg ty).run P w = .ok true w := by
  have h1 := h.1
  unfold isAgg
  cases hu : P.underlying ty with
  | none => rw [hu] at h1; cases h1
  | some d =>
    rw [hu] at h1
    simp only [Sem.run_bind, run_underlying hu, Result.andThen_ok]
    cases d <;> first | rfl | cases h1
theorem run_sizeOf_agg {ty : TypeId} {n : Nat} (h : AggType P ty n) (w : World) : (sizeOf ty).run P w = .ok n w := by
  have h2 := h.2
  cases hi : P.info? ty with
  | none => rw [hi] at h2; cases h2
  | some i =>
    rw [hi] at h2
    have : i.size = n := by simpa using h2
    simp [sizeOf, typeInfo, hi, this]
theorem run_loadVar_agg (w : World) (ty : TypeId) (ad : Addr) (A : Array Value) (ht : AggType P ty A.size) (hc : ∀ j v, A.toList[j]? = some v → w.cell? (ad.add j) = some v) :
    (loadVar ty ad).run P w = .ok (.agg A) w := by
  have hl := run_loadCells_list (P := P) w ad A.toList hc
  rw [Array.length_toList] at hl
  unfold loadVar
  simp only [Sem.run_bind, run_isAgg ht, run_sizeOf_agg ht, Result.andThen_ok, if_true, hl]
  rfl
theorem wp_load_agg {o : Oper} {a : Act} {w : World} {K : Act → World → Prop} {Q : Exit → Act → World → Prop} (ty : TypeId) (x : Operand) (ho : o.op = .load ty x)
    (ad : Addr) (hx : a.eval x = .pointer (some ad)) (A : Array Value) (ht : AggType P ty A.size) (hc : ∀ j v, A.toList[j]? = some v → w.cell? (ad.add j) = some v)
    (h : K (a.put o.dst (.agg A)) w) : o.wp P a w K Q := by
  unfold Oper.wp execOp
  simp only [ho, hx, Instr.loadAt, Instr.sureAddr, Sem.run_bind, Sem.run_pure, Result.andThen_ok, run_loadVar_agg w ty ad A ht hc]
  exact h
theorem wpList_load_agg {ops : Array Oper} {rest : List Oper} {o : Oper} {a : Act} {w : World} {Q : Exit → Act → World → Prop} (hgd : o.guard = none) (ty : TypeId) (x : Operand) (ho : o.op = .load ty x)
    (ad : Addr) (hx : a.eval x = .pointer (some ad)) (A : Array Value) (ht : AggType P ty A.size) (hc : ∀ j v, A.toList[j]? = some v → w.cell? (ad.add j) = some v)
    (h : wpList P ops Q rest (a.put o.dst (.agg A)) w) : wpList P ops Q (o :: rest) a w :=
  wpList_plain hgd fun _ hK => wp_load_agg ty x ho ad hx A ht hc (hK _ _ h)
theorem run_storeVar_agg (w : World) (ty : TypeId) (g off : Nat) (A cur : Array Value) (t : TypeId) (ht : AggType P ty A.size) (hg : w.heap[g]? = some (.cells cur t (0, 0))) (hfit : off + A.size ≤ cur.size)
    (h1 : ∀ v ∈ A.toList, v.oneCell' = true) : (storeVar ty ⟨g, off, none⟩ (.agg A)).run P w = .ok () (w.setRow g (cur.toList.take off ++ A.toList ++ cur.toList.drop (off + A.size)).toArray) := by
  have hs := run_storeCells_at P g off t A.toList 0 cur w hg (by rw [Array.length_toList]; omega) h1
  rw [Nat.add_zero, Array.length_toList] at hs
  unfold storeVar
  simp only [Sem.run_bind, run_sizeOf_agg ht, Result.andThen_ok, Value.cells, ne_eq, not_true_eq_false, if_false, hs]
theorem wp_store_agg {o : Oper} {a : Act} {w : World} {K : Act → World → Prop} {Q : Exit → Act → World → Prop} (ty : TypeId) (x y : Operand) (ho : o.op = .store ty x y)
    (g off : Nat) (hx : a.eval x = .pointer (some ⟨g, off, none⟩)) (A cur : Array Value) (hy : a.eval y = .agg A) (t : TypeId) (ht : AggType P ty A.size) (hg : w.heap[g]? = some (.cells cur t (0, 0))) (hfit : off + A.size ≤ cur.size)
    (h1 : ∀ v ∈ A.toList, v.oneCell' = true) (h : K (a.put o.dst undef) (w.setRow g (cur.toList.take off ++ A.toList ++ cur.toList.drop (off + A.size)).toArray)) : o.wp P a w K Q := by
  unfold Oper.wp execOp
  simp only [ho, hx, hy, Instr.storeAt, Instr.sureAddr, Sem.run_bind, Sem.run_pure, Result.andThen_ok, run_storeVar_agg w ty g off A cur t ht hg hfit h1]
  exact h
theorem wpList_store_agg {ops : Array Oper} {rest : List Oper} {o : Oper} {a : Act} {w : World} {Q : Exit → Act → World → Prop} (hgd : o.guard = none) (ty : TypeId) (x y : Operand) (ho : o.op = .store ty x y)
    (g off : Nat) (hx : a.eval x = .pointer (some ⟨g, off, none⟩)) (A cur : Array Value) (hy : a.eval y = .agg A) (t : TypeId) (ht : AggType P ty A.size) (hg : w.heap[g]? = some (.cells cur t (0, 0))) (hfit : off + A.size ≤ cur.size)
    (h1 : ∀ v ∈ A.toList, v.oneCell' = true) (h : wpList P ops Q rest (a.put o.dst undef) (w.setRow g (cur.toList.take off ++ A.toList ++ cur.toList.drop (off + A.size)).toArray)) : wpList P ops Q (o :: rest) a w :=
  wpList_plain hgd fun _ hK => wp_store_agg ty x y ho g off hx A cur hy t ht hg hfit h1 (hK _ _ h)
/-- All of a block written anew. -/
theorem wpList_store_whole {ops : Array Oper} {rest : List Oper} {o : Oper} {a : Act} {w : World} {Q : Exit → Act → World → Prop} (hgd : o.guard = none) (ty : TypeId) (x y : Operand) (ho : o.op = .store ty x y)
    (g : Nat) (hx : a.eval x = .pointer (some ⟨g, 0, none⟩)) (A cur : Array Value) (hy : a.eval y = .agg A) (t : TypeId) (ht : AggType P ty A.size) (hg : w.heap[g]? = some (.cells cur t (0, 0))) (hfit : A.size = cur.size)
    (h1 : ∀ v ∈ A.toList, v.oneCell' = true) (h : wpList P ops Q rest (a.put o.dst undef) (w.setRow g A)) : wpList P ops Q (o :: rest) a w := by
  refine wpList_store_agg hgd ty x y ho g 0 hx A cur hy t ht hg (by omega) h1 ?_
  have e : (cur.toList.take 0 ++ A.toList ++ cur.toList.drop (0 + A.size)).toArray = A := by
    rw [List.take_zero, List.nil_append, Nat.zero_add, hfit, List.drop_of_length_le (by simp), List.append_nil]
  rw [e]; exact h
/-- What a function hands back whose first result lies in a struct of its own. -/
theorem run_results_agg {fn : Func} {p u : Tmp} {ty t : TypeId} {g : Nat} {A : Array Value} {tmps : Array Value} {w : World} (h : fn.results = #[.cell p ty, .tmp u]) (hp : tmps.getD p undef = .pointer (some ⟨g, 0, none⟩))
    (ht : AggType P ty A.size) (hg : w.heap[g]? = some (.cells A t (0, 0))) : (results fn tmps).run P w = .ok (.tuple #[.agg A, tmps.getD u undef]) w := by
  rw [results_cell_tmp h, hp]
  have hl := run_loadVar_agg (P := P) w ty ⟨g, 0, none⟩ A ht (fun j v hv => by
    have e : (⟨g, 0, none⟩ : Addr).add j = ⟨g, j, none⟩ := by unfold Addr.add; split <;> simp_all
    rw [e]; simp only [World.cell?, hg]
    simpa using hv)
  show ((loadVar ty ⟨g, 0, none⟩).run P w).andThen _ = _
  rw [hl]
  rfl
theorem setRow_alloc (w : World) (c X : Array Value) (t : TypeId) : (w.alloc (.cells c t)).setRow w.heap.size X = w.alloc (.cells X t) := by
  unfold World.setRow World.alloc
  congr 1
  apply Array.ext_getElem?
  intro j
  simp only [Array.getElem?_modify, Array.getElem?_push]
  by_cases hj : w.heap.size = j
  · subst hj; simp
  · rw [if_neg hj, if_neg (fun e => hj e.symm), if_neg (fun e => hj e.symm)]
end
end Go
