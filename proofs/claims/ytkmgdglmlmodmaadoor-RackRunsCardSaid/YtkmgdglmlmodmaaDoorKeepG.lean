/- stavekeep.Frame: a frame of numbers. -/
import Derived.Test.YtkmgdglmlmodmaaDoorKeepF
namespace Go
theorem fold_set (off : Nat) : ∀ (l : List Value) (k : Nat) (cs : Array Value) (i : Nat),
    (((l.zipIdx k).foldl (fun cs p => cs.setIfInBounds (off + p.2) p.1) cs)[i]? : Option Value) = if off + k ≤ i ∧ i < off + k + l.length ∧ i < cs.size then l[i - (off + k)]? else cs[i]?
  | [], k, cs, i => by simp; intro h1 h2; omega
  | x :: l, k, cs, i => by
    rw [List.zipIdx_cons, List.foldl_cons, fold_set off l (k + 1) _ i]
    simp only [Array.size_setIfInBounds, Array.getElem?_setIfInBounds, List.length_cons]
    by_cases h1 : off + k = i
    · subst h1
      by_cases h2 : off + k < cs.size
      · rw [if_neg (by omega), if_pos rfl, if_pos h2, if_pos (by omega)]; simp
      · rw [if_neg (by omega), if_pos rfl, if_neg h2, if_neg (by omega)]
        rw [Array.getElem?_eq_none]; omega
    · by_cases h2 : off + (k + 1) ≤ i ∧ i < off + (k + 1) + l.length ∧ i < cs.size
      · rw [if_pos h2, if_pos (by omega)]
        rw [show i - (off + k) = (i - (off + (k + 1))) + 1 by omega, List.getElem?_cons_succ]
      · rw [if_neg h2, if_neg h1, if_neg (by omega)]
theorem fill_append (place : Nat → Option (Nat × Nat)) : ∀ (p q : List (Nat × Value)) (cs : Array Value), Instr.fill place cs (p ++ q) = (Instr.fill place cs p).bind fun cs' => Instr.fill place cs' q
  | [], q, cs => rfl
  | (i, v) :: p, q, cs => by
    rw [List.cons_append]
    simp only [Instr.fill]
    split
    · rfl
    · split
      · rfl
      · exact fill_append place p q _
theorem wpList_build_eq {P : Program} {ops : Array Oper} {rest : List Oper} {o : Oper} {a : Act} {w : World} {Q : Exit → Act → World → Prop} (hg : o.guard = none) (t : TypeId) (parts : Array (Nat × Operand)) (ho : o.op = .build t parts) (A : Array Value)
    (hb : P.built t (parts.map fun (i, x) => (i, a.eval x)).toList = some A) (h : wpList P ops Q rest (a.put o.dst (.agg A)) w) : wpList P ops Q (o :: rest) a w :=
  wpList_build hg t parts ho (by rw [hb]; rfl) (by rw [hb]; exact h)
theorem built_snoc {P : Program} {t : TypeId} {fields : Array Field} {p : List (Nat × Value)} {cs : Array Value} {i off size : Nat} {v : Value} (hu : P.underlying t = some (.struct fields)) (hp : P.built t p = some cs)
    (hpl : ((fields.toList.mapM (fun f => (P.info? f.type).map fun i => (f.offset, i.size))).bind fun pl => pl.toArray[i]?) = some (off, size)) (hs : v.cells.size = size) (hfit : off + size ≤ cs.size) :
    P.built t (p ++ [(i, v)]) = some (v.cells.zipIdx.foldl (fun cs (c, j) => cs.setIfInBounds (off + j) c) cs) := by
  unfold Program.built at hp ⊢
  rw [hu] at hp ⊢
  cases hi : P.info? t with
  | none => rw [hi] at hp; cases hp
  | some it =>
    rw [hi] at hp
    cases hz : it.zero with
    | none => simp only [hz] at hp; cases hp
    | some z =>
      cases hm : fields.toList.mapM (fun f => (P.info? f.type).map fun i => (f.offset, i.size)) with
      | none => rw [hm] at hpl; cases hpl
      | some pl =>
        rw [hm] at hpl
        simp only [hz, hm] at hp ⊢
        rw [fill_append, hp]
        simp only [Option.bind_some] at hpl ⊢
        unfold Instr.fill
        rw [hpl]
        simp only [hs]
        rw [if_neg (by simp; omega)]
        rfl
end Go
namespace Go.Proofs.YtkmgdglmlmodmaaDoor
set_option linter.unusedVariables false
open Go Go.RowKit
theorem frame_struct : ∃ fields, Tryd.prog.underlying 31 = some (.struct fields) ∧ ((fields.toList.mapM (fun f => (Tryd.prog.info? f.type).map fun i => (f.offset, i.size))).bind fun pl => pl.toArray[4]?) = some (4, 108) :=
  ⟨_, Tryd.underlying31, by kernel_rfl⟩
theorem built_five (k s t g : Int) (l : List Nat) (hl : l.length = 108) : Tryd.prog.built 31 [(0, .int .i64 k), (1, .int .i64 s), (2, .int .i64 t), (3, .int .i64 g), (4, .agg (bA l))] = some (Frm.A ⟨k, s, t, g, l⟩) := by
  obtain ⟨fields, hu, hpl⟩ := frame_struct
  have hz : (⟨k, s, t, g, List.replicate 108 0⟩ : Frm).Ok := ⟨by simp, by simp⟩
  have h := built_snoc hu (built_four k s t g) hpl (v := .agg (bA l)) (by show (bA l).size = 108; rw [bA_size, hl]) (by rw [Frm.A_size _ hz]; omega)
  refine h.trans (congrArg some ?_)
  show (bA l).zipIdx.foldl _ _ = _
  apply Array.ext_getElem?
  intro i
  rw [← Array.foldl_toList, Array.toList_zipIdx, fold_set 4 (bA l).toList 0 _ i, Frm.A_size _ hz]
  have hA : ∀ f : Frm, Frm.A f = (Frm.cl f).toArray := Frm.A_def
  rw [hA, hA, bA_def]
  simp only [Frm.cl]
  simp only [List.length_map, hl]
  by_cases h1 : 4 ≤ i
  · by_cases h2 : i < 112
    · rw [if_pos (by omega)]
      simp only [List.getElem?_toArray]
      rw [List.getElem?_append_right (by simp; omega)]
      simp
    · rw [if_neg (by omega), List.getElem?_toArray, List.getElem?_toArray, List.getElem?_append_right (by simp; omega), List.getElem?_append_right (by simp; omega)]
      rw [List.getElem?_eq_none (by simp; omega), List.getElem?_eq_none (by simp [hl]; omega)]
  · rw [if_neg (by omega), List.getElem?_toArray, List.getElem?_toArray, List.getElem?_append_left (by simp; omega), List.getElem?_append_left (by simp; omega)]
def KFramePost (w : World) (f : Frm) (e : Ending) (w' : World) : Prop := e = .returned (.agg (Frm.A f)) ∧ Ext w w'
set_option maxRecDepth 100000 in
set_option maxHeartbeats 1000000 in
theorem kframe_c (kind slot stripe gen n : Int) (w : World) :
    Calls Tryd.prog 22 #[.int .i64 kind, .int .i64 slot, .int .i64 stripe, .int .i64 gen, .int .i64 n] w (KFramePost w (keepFrm kind slot stripe gen n)) := by
  have hz := zero_frame
  have HZ := hid (Frm.A_size _ zero_ok)
  have HS := hid (Frm.A_size _ (keepFrm_ok kind slot stripe gen n))
  have hB := built_five kind slot stripe gen (blockOf n) (blockOf_len n)
  have HB : Hid (Tryd.prog.built 31 [(0, .int .i64 kind), (1, .int .i64 slot), (2, .int .i64 stripe), (3, .int .i64 gen), (4, .agg (bA (blockOf n)))] = some (Frm.A (keepFrm kind slot stripe gen n))) := hid hB
  clear hB
  go_enter Tryd.func22, Tryd.ntmps22
  go_wp2_with fail
  refine (block_c n _).mono ?_
  rintro e w1 ⟨rfl, hx⟩
  have hr := hx.at (block_alloc (w := w) (o := .cells (Frm.A Frm.zero) 31))
  have HX := hid (Ext.trans ((Ext.refl w).alloc (.cells (Frm.A Frm.zero) 31)) hx)
  clear hx
  go_wp2_with (first
    | (refine wpList_build_eq rfl 31 _ rfl (Frm.A (keepFrm kind slot stripe gen n)) ?_ ?_; (simp only [List.map_toArray, List.map_cons, List.map_nil, Act.eval]; simp only [Array.getD_eq_getD_getElem?, List.getElem?_toArray, List.getElem?_cons_succ, List.getElem?_cons_zero, Option.getD_some]; exact HB.out))
    | (refine wpList_store_whole rfl 31 _ _ rfl w.heap.size rfl (Frm.A (keepFrm kind slot stripe gen n)) _ rfl 31 ?_ hr ?_ ?_ ?_; (rw [HS.out]; exact aggFrame); (rw [HS.out, HZ.out]); exact Frm.A_one _))
  refine bodyPost_ret (results_cell_row Tryd.results22 _ _ w.heap.size _ (Frm.A (keepFrm kind slot stripe gen n)) _ _ rfl (setRow_heap _ _ _ _ _ _ hr) Tryd.underlying31 rfl (by rw [HS.out]; exact aggFrame.2)) rfl ?_
  exact ⟨rfl, Ext.then HX.out (only_setRow _ _ _) (fun i hi => by omega)⟩
end Go.Proofs.YtkmgdglmlmodmaaDoor
