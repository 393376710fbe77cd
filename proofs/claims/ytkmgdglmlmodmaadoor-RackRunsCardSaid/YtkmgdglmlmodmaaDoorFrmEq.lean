/- Two frames, two blocks compared. -/
import Derived.Test.YtkmgdglmlmodmaaDoorKeepG
import Derived.ChangeKeysEq
import Derived.Laws.StructEq
namespace Go.Proofs.YtkmgdglmlmodmaaDoor
set_option linter.unusedVariables false
open Go Go.RowKit
def Frm.eqB (f g : Frm) : Bool := f.kind == g.kind && (f.slot == g.slot && (f.stripe == g.stripe && (f.gen == g.gen && f.data == g.data)))
theorem Frm.eqB_iff (f g : Frm) : f.eqB g = true ↔ f = g := by
  cases f; cases g; simp [Frm.eqB]
theorem Frm.eqB_self (f : Frm) : f.eqB f = true := (Frm.eqB_iff f f).2 rfl
theorem plain8 : Tryd.prog.plainKey 5 = true := by kernel_rfl
theorem plainI : Tryd.prog.plainKey 3 = true := by kernel_rfl
theorem cells8 : Tryd.prog.cellsOf 5 = 1 := by kernel_rfl
theorem agg108 : AggType Tryd.prog 29 108 := ⟨by kernel_rfl, by kernel_rfl⟩
theorem run_items (d : Nat) (l m : List Nat) (w : World) : ∀ is : List Nat, (∀ i ∈ is, i < l.length ∧ i < m.length) →
    (Op.eqItems (d + 1) 5 1 (bA l) (bA m) is).run Tryd.prog w = .ok (is.all fun i => nth l i == nth m i) w
  | [], _ => by simp [Op.eqItems]
  | i :: is, h => by
    have h1 := (h i (by simp)).1
    have h2 := (h i (by simp)).2
    have p1 := run_part_plain (P := Tryd.prog) w plain8 (bA_get l i h1)
    have p2 := run_part_plain (P := Tryd.prog) w plain8 (bA_get m i h2)
    have p3 := run_equalIn_int (P := Tryd.prog) w d 5 .u8 .u8 (nth l i : Int) (nth m i : Int) Tryd.underlying5
    have p4 := run_items d l m w is (fun j hj => h j (by simp [hj]))
    have e : ((nth l i : Int) == (nth m i : Int)) = (nth l i == nth m i) := by
      by_cases hq : nth l i = nth m i
      · rw [hq, beq_self_eq_true, beq_self_eq_true]
      · rw [beq_eq_false_iff_ne.2 hq, beq_eq_false_iff_ne.2 (by omega)]
    simp only [Op.eqItems, Nat.mul_one, Sem.run_bind, p1, p2, p3, Result.andThen_ok, e, List.all_cons]
    cases nth l i == nth m i
    · simp
    · simp [p4]
theorem all_nth (l m : List Nat) (h : l.length = m.length) : ((List.range l.length).all fun i => nth l i == nth m i) = (l == m) := by
  rw [Bool.eq_iff_iff]
  simp only [List.all_eq_true, List.mem_range, beq_iff_eq]
  exact ⟨fun hh => ext_nth h hh, fun e i _ => by rw [e]⟩
theorem run_bytes_eq (d : Nat) (t : TypeId) (l m : List Nat) (hl : l.length = 108) (hm : m.length = 108) (hu : Tryd.prog.underlying t = some (.array 108 5)) (w : World) :
    (Op.equalIn (d + 2) t (.agg (bA l)) (.agg (bA m))).run Tryd.prog w = .ok (l == m) w := by
  obtain ⟨i0, hi, _⟩ := info_parts info8
  rw [run_equalIn_array w (d + 1) (bA l) (bA m) hu hi, cells8, run_items d l m w _ (by intro i hi; have := List.mem_range.1 hi; omega)]
  rw [← all_nth l m (by omega), hl]
theorem A_extract (f : Frm) (h : f.Ok) : (Frm.A f).extract 4 (4 + 108) = bA f.data := by
  rw [Frm.A_def, bA_def]
  apply Array.ext'
  unfold Frm.cl
  have e : List.take 108 (List.map bv f.data) = List.map bv f.data := List.take_of_length_le (by simp [h.len])
  simp [e]
theorem run_part_data (f : Frm) (h : f.Ok) (w : World) : (part 29 (Frm.A f) 4).run Tryd.prog w = .ok (.agg (bA f.data)) w := by
  unfold part
  simp only [Sem.run_bind, run_isAgg agg108, Result.andThen_ok, if_true, run_sizeOf_agg agg108]
  rw [A_extract f h]
  rfl
def fld (nm : String) (ty off bo : Nat) : Field := { name := nm, type := ty, offset := off, embedded := false, tag := "", pkgPath := "", byteOffset := bo }
theorem eqFields_step {P : Program} {d : Nat} {xs ys : Array Value} {nm : String} {ty off bo : Nat} {fs : List Field} {a b : Value} {r : Bool} {w : World} (hn : nm ≠ "_") (ha : (part ty xs off).run P w = .ok a w)
    (hb : (part ty ys off).run P w = .ok b w) (hr : (Op.equalIn d ty a b).run P w = .ok r w) : (Op.eqFields d xs ys (fld nm ty off bo :: fs)).run P w = if r then (Op.eqFields d xs ys fs).run P w else .ok false w := by
  have h1 : (fld nm ty off bo).name ≠ "_" := hn
  conv => lhs; unfold Op.eqFields
  rw [if_pos h1]
  simp only [fld]
  simp only [Sem.run_bind, ha, hb, hr, Result.andThen_ok]
  cases r <;> rfl
theorem frame_stood : Tryd.prog.stoodInHeld 31 = false := by kernel_rfl
theorem frame_list : (Tryd.prog.fieldsOf 31).toList = [fld "Kind" 3 0 0, fld "Slot" 3 1 8, fld "Stripe" 3 2 16, fld "Gen" 3 3 24, fld "Data" 29 4 32] := by unfold Program.fieldsOf; rw [Tryd.underlying31]; rfl
theorem frame_fields : Tryd.prog.underlying 31 = some (.struct (Tryd.prog.fieldsOf 31)) := by unfold Program.fieldsOf; rw [Tryd.underlying31]
set_option maxHeartbeats 400000 in
theorem frame_eqIn (d : Nat) (f g : Frm) (hf : f.Ok) (hg : g.Ok) (w : World) : (Op.equalIn (d + 3) 31 (.agg (Frm.A f)) (.agg (Frm.A g))).run Tryd.prog w = .ok (f.eqB g) w := by
  rw [run_equalIn_struct w (d + 2) 31 (Frm.A f) (Frm.A g) frame_fields frame_stood]
  rw [frame_list]
  have q0 := run_part_plain (P := Tryd.prog) w plainI (Frm.A0 f)
  have q1 := run_part_plain (P := Tryd.prog) w plainI (Frm.A1 f)
  have q2 := run_part_plain (P := Tryd.prog) w plainI (Frm.A2 f)
  have q3 := run_part_plain (P := Tryd.prog) w plainI (Frm.A3 f)
  have q4 := run_part_data f hf w
  have r0 := run_part_plain (P := Tryd.prog) w plainI (Frm.A0 g)
  have r1 := run_part_plain (P := Tryd.prog) w plainI (Frm.A1 g)
  have r2 := run_part_plain (P := Tryd.prog) w plainI (Frm.A2 g)
  have r3 := run_part_plain (P := Tryd.prog) w plainI (Frm.A3 g)
  have r4 := run_part_data g hg w
  have e : ∀ a b : Int, (Op.equalIn (d + 2) 3 (.int .i64 a) (.int .i64 b)).run Tryd.prog w = .ok (a == b) w := fun a b => run_equalIn_int (P := Tryd.prog) w (d + 1) 3 .i64 .i64 a b Tryd.underlying3
  have e4 := run_bytes_eq d 29 f.data g.data hf.len hg.len Tryd.underlying29 w
  refine (eqFields_step (by decide) q0 r0 (e _ _)).trans ?_
  rcases h0 : f.kind == g.kind with _ | _
  · have hb : f.eqB g = false := by unfold Frm.eqB; simp only [h0]; rfl
    rw [hb]; rfl
  rw [if_pos rfl]
  refine (eqFields_step (by decide) q1 r1 (e _ _)).trans ?_
  rcases h1 : f.slot == g.slot with _ | _
  · have hb : f.eqB g = false := by unfold Frm.eqB; simp only [h0, h1]; rfl
    rw [hb]; rfl
  rw [if_pos rfl]
  refine (eqFields_step (by decide) q2 r2 (e _ _)).trans ?_
  rcases h2 : f.stripe == g.stripe with _ | _
  · have hb : f.eqB g = false := by unfold Frm.eqB; simp only [h0, h1, h2]; rfl
    rw [hb]; rfl
  rw [if_pos rfl]
  refine (eqFields_step (by decide) q3 r3 (e _ _)).trans ?_
  rcases h3 : f.gen == g.gen with _ | _
  · have hb : f.eqB g = false := by unfold Frm.eqB; simp only [h0, h1, h2, h3]; rfl
    rw [hb]; rfl
  rw [if_pos rfl]
  refine (eqFields_step (by decide) q4 r4 e4).trans ?_
  have hb : f.eqB g = (f.data == g.data) := by unfold Frm.eqB; simp only [h0, h1, h2, h3]; rfl
  rw [hb]
  cases f.data == g.data <;> rfl
theorem frame_eqAt (D : Nat) (hD : ∃ d, D = d + 3) (f g : Frm) (hf : f.Ok) (hg : g.Ok) (w : World) : (Op.equalIn D 31 (.agg (Frm.A f)) (.agg (Frm.A g))).run Tryd.prog w = .ok (f.eqB g) w := by
  obtain ⟨d, rfl⟩ := hD
  exact frame_eqIn d f g hf hg w
theorem frame_eql (f g : Frm) (hf : f.Ok) (hg : g.Ok) (w : World) : (binOp .eql 31 (.agg (Frm.A f)) (.agg (Frm.A g))).run Tryd.prog w = .ok (.bool (f.eqB g)) w := by
  rw [run_eql_struct]
  rw [frame_eqAt 10000 ⟨9997, by omega⟩ f g hf hg w]; rfl
theorem frame_neq (f g : Frm) (hf : f.Ok) (hg : g.Ok) (w : World) : (binOp .neq 31 (.agg (Frm.A f)) (.agg (Frm.A g))).run Tryd.prog w = .ok (.bool (!f.eqB g)) w := by
  rw [run_neq_struct]
  rw [frame_eqAt 10000 ⟨9997, by omega⟩ f g hf hg w]; rfl
theorem frame_guardB : Tryd.prog.eqGuardType Tryd.prog.depth 31 = false := by kernel_rfl
theorem frame_guard (op : BinOp) (x y : Operand) (xs ys : Array Value) (w : World) : (eqGuard op 31 x y (.agg xs) (.agg ys)).run Tryd.prog w = .ok () w := run_eqGuard_agg w op 31 x y xs ys frame_guardB
end Go.Proofs.YtkmgdglmlmodmaaDoor
