/- A disk blanked, made, dead, replaced. -/
import Derived.Test.YtkmgdglmlmodmaaDoorDiskD
namespace Go.Proofs.YtkmgdglmlmodmaaDoor
set_option linter.unusedVariables false
open Go Go.RowKit
theorem zeros_len : Dsk.zeros.length = 128 := by simp [Dsk.zeros]
theorem make_sector (W : World) : Sem.run Tryd.prog (Instr.makeSlice 27 (.int .i64 128) (.int .i64 128)) W = .ok (.slice (some ⟨W.heap.size, 0, none⟩) 128 128) (W.alloc (.cells (bA Dsk.zeros) 5)) :=
  make_bytes 128 (by omega) (by omega) W
theorem infoS : (Tryd.prog.info? 27).map (fun i => (i.zero, i.size, i.bytes)) = some (some (.slice none 0 0), 1, 24) := by kernel_rfl
theorem make_slices (N : Nat) (h1 : N ≤ 1000000) (w : World) :
    ∃ C : Array Value, C.size = N ∧ Sem.run Tryd.prog (Instr.makeSlice 132 (.int .i64 N) (.int .i64 N)) w = .ok (.slice (some ⟨w.heap.size, 0, none⟩) N N) (w.alloc (.cells C 27)) := by
  obtain ⟨i0, hi, hz0, hz1, hz2⟩ := info_parts infoS
  have h := run_make (P := Tryd.prog) w 132 27 i0 (.slice none 0 0) Tryd.underlying132 hi hz0 .i64 .i64 N N (by omega) (Int.le_refl _) (by rw [hz2]; omega) (by omega)
  rw [h]
  refine ⟨_, ?_, rfl⟩
  rw [hz1]
  show (madeCells #[.slice none 0 0] ((N : Int).toNat * 1)).size = N
  rw [← Array.length_toList, toList_madeCells_one]
  simp
structure BlankMid (w wr : World) (lb n j : Nat) : Prop where
  only : Only (fun b => b = lb) w wr
  secs : ∃ (C : Array Value) (ss : Nat → Spot), wr.heap[lb]? = some (.cells C 27 (0, 0)) ∧ C.size = n ∧ (∀ i, i < j → C[i]? = some (ss i).val ∧ SecAt wr (ss i) Dsk.zeros ∧ w.heap.size ≤ (ss i).blk) ∧ ∀ i i', i < j → i' < j → (ss i).blk = (ss i').blk → i = i'
theorem BlankMid.ext {w wr W : World} {lb n j : Nat} (h : BlankMid w wr lb n j) (e : Ext wr W) : BlankMid w W lb n j := by
  obtain ⟨h1, C, ss, h2, h3, h4, h5⟩ := h
  exact ⟨Only.ext h1 e, C, ss, e.at h2, h3, fun i hi => ⟨(h4 i hi).1, (h4 i hi).2.1.same (e.block _ (h4 i hi).2.1.lt (fun x => x)), (h4 i hi).2.2⟩, h5⟩
theorem BlankMid.step {w wr W : World} {lb n j g : Nat} (hlb : lb < w.heap.size) (h : BlankMid w wr lb n j) (hj : j < n) (e : Ext wr W) (hg : wr.heap.size ≤ g) (hb : Blk W g Dsk.zeros) :
    BlankMid w (W.setCell ⟨lb, j, none⟩ (.slice (some ⟨g, 0, none⟩) 128 128)) lb n (j + 1) := by
  have hE := h.ext e
  obtain ⟨h1, C, ss, h2, h3, h4, h5⟩ := hE
  have hsz := h.only.size
  have hlt : ∀ i, i < j → (ss i).blk < wr.heap.size := by
    intro i hi
    obtain ⟨_, C', ss', g2, g3, g4, g5⟩ := h
    have e1 : W.heap[lb]? = some (.cells C' 27 (0, 0)) := e.at g2
    rw [h2] at e1
    cases e1
    have q1 := (h4 i hi).1
    rw [(g4 i hi).1] at q1
    have : (ss' i).blk = (ss i).blk := by
      have := Option.some.inj q1
      unfold Spot.val at this
      cases hs : ss i; cases hs' : ss' i
      rw [hs, hs'] at this
      simp at this
      simp [this.1]
    rw [← this]; exact (g4 i hi).2.1.lt
  have hkeep : ∀ b, b ≠ lb → (W.setCell ⟨lb, j, none⟩ (.slice (some ⟨g, 0, none⟩) 128 128)).heap[b]? = W.heap[b]? := fun b hb => block_set_other _ hb
  have hgl : g ≠ lb := by omega
  refine ⟨h1.setCell (.inr rfl) _, C.setIfInBounds j (.slice (some ⟨g, 0, none⟩) 128 128), fun i => if i = j then ⟨g, 128⟩ else ss i, block_set h2 _, by simp [h3], fun i hi => ?_, fun i i' hi hi' he => ?_⟩
  · by_cases hij : i = j
    · subst hij
      refine ⟨by simp [Spot.val, h3, hj], ?_, by simp; omega⟩
      simp only [if_true]
      have hz : ∀ x ∈ Dsk.zeros, x < 256 := by simp [Dsk.zeros]
      have hB : Blk (W.setCell ⟨lb, i, none⟩ (.slice (some ⟨g, 0, none⟩) 128 128)) g Dsk.zeros := (hkeep g hgl).trans hb
      exact ⟨zeros_len, hz, hB.owns zeros_len (by omega)⟩
    · have hi' : i < j := by omega
      obtain ⟨q1, q2, q3⟩ := h4 i hi'
      have hne : (ss i).blk ≠ lb := by omega
      simp only [hij, if_false]
      refine ⟨by rw [Array.getElem?_setIfInBounds]; simp [Ne.symm hij, q1], q2.same (hkeep _ hne), q3⟩
  · by_cases hij : i = j
    · by_cases hij' : i' = j
      · omega
      · simp only [hij, hij', if_true, if_false] at he
        have := hlt i' (by omega); omega
    · by_cases hij' : i' = j
      · simp only [hij, hij', if_true, if_false] at he
        have := hlt i (by omega); omega
      · simp only [hij, hij', if_false] at he
        exact h5 i i' (by omega) (by omega) he
/-- What blank leaves. -/
def BlankPost (w : World) (p lb n : Nat) (dead : Bool) (e : Ending) (w' : World) : Prop :=
  e = .returned (.tuple #[]) ∧ ∃ k, k.p = p ∧ k.lb = lb ∧ k.n = n ∧ DiskRep w' k ⟨List.replicate n Dsk.zeros, fun _ => none, fun _ => false, dead⟩ ∧ (∀ b, k.foot b → b = p ∨ b = lb ∨ w.heap.size ≤ b) ∧ Only (fun b => b = p ∨ b = lb) w w'
theorem BlankMid.finish {w wr : World} {p lb n : Nat} {dead : Bool} {v1 v2 : Value} (hn1 : 1 ≤ n) (hn2 : n ≤ 128) (hne : p ≠ lb)
    (hp : w.heap[p]? = some (.cells #[.slice (some ⟨lb, 0, none⟩) n n, v1, v2, .bool dead] 151 (0, 0))) (hlb : lb < w.heap.size) (h : BlankMid w wr lb n n) :
    BlankPost w p lb n dead (.returned (.tuple #[])) ((((wr.alloc (.map #[] 0)).alloc (.map #[] 0)).setCell ⟨p, 1, none⟩ (.map (some wr.heap.size))).setCell ⟨p, 2, none⟩ (.map (some (wr.heap.size + 1)))) := by
  obtain ⟨h1, C, ss, h2, h3, h4, h5⟩ := h
  have hsz := h1.size
  have hpl := lt_of_block hp
  have hO : Only (fun b => b = p ∨ b = lb) w ((((wr.alloc (.map #[] 0)).alloc (.map #[] 0)).setCell ⟨p, 1, none⟩ (.map (some wr.heap.size))).setCell ⟨p, 2, none⟩ (.map (some (wr.heap.size + 1)))) :=
    Only.setCell (Only.setCell (Only.alloc (Only.alloc (h1.mono (G := fun b => b = p ∨ b = lb) fun b _ e => .inr e) _) _) (.inr (.inl rfl)) _) (.inr (.inl rfl)) _
  have hold : ∀ b, b ≠ p → b < wr.heap.size → ((((wr.alloc (.map #[] 0)).alloc (.map #[] 0)).setCell ⟨p, 1, none⟩ (.map (some wr.heap.size))).setCell ⟨p, 2, none⟩ (.map (some (wr.heap.size + 1)))).heap[b]? = wr.heap[b]? := fun b hb hl => by
    rw [block_set_other _ hb, block_set_other _ hb, heap_alloc_old _ _ (by simp; omega), heap_alloc_old _ _ hl]
  have hpw : wr.heap[p]? = some (.cells #[.slice (some ⟨lb, 0, none⟩) n n, v1, v2, .bool dead] 151 (0, 0)) := h1.at hp hne
  have hp2 : ((wr.alloc (.map #[] 0)).alloc (.map #[] 0)).heap[p]? = some (.cells #[.slice (some ⟨lb, 0, none⟩) n n, v1, v2, .bool dead] 151 (0, 0)) := by
    rw [heap_alloc_old _ _ (by simp; omega), heap_alloc_old _ _ (by omega)]; exact hpw
  let k : DSk := ⟨p, lb, wr.heap.size, wr.heap.size + 1, n, ss, fun _ => none⟩
  have hat : ∀ x b, k.at_ x = some b → (x = .p ∧ b = p) ∨ (x = .lb ∧ b = lb) ∨ (x = .wm ∧ b = wr.heap.size) ∨ (x = .rm ∧ b = wr.heap.size + 1) ∨ ∃ i, i < n ∧ x = .sec i ∧ b = (ss i).blk := by
    intro x b hx
    cases x with
    | p => exact .inl ⟨rfl, (Option.some.inj hx).symm⟩
    | lb => exact .inr (.inl ⟨rfl, (Option.some.inj hx).symm⟩)
    | wm => exact .inr (.inr (.inl ⟨rfl, (Option.some.inj hx).symm⟩))
    | rm => exact .inr (.inr (.inr (.inl ⟨rfl, (Option.some.inj hx).symm⟩)))
    | sec i =>
      have hx : (if i < n then some (ss i).blk else none) = some b := hx
      by_cases hi : i < n
      · rw [if_pos hi] at hx; exact .inr (.inr (.inr (.inr ⟨i, hi, rfl, (Option.some.inj hx).symm⟩)))
      · rw [if_neg hi] at hx; cases hx
    | wait i => cases hx
  refine ⟨rfl, k, rfl, rfl, rfl, ⟨by simp [k], hn1, hn2, ?_, ?_, ?_, ?_, (fun i s hs => by cases hs), fun i _ => rfl, ?_, ?_⟩, ?_, hO⟩
  · show _ = some (Obj.cells (dskA k _) _ _)
    rw [block_set (block_set hp2 _) _]
    rfl
  · refine (hold lb (Ne.symm hne) (by omega)).trans (h2.trans ?_)
    congr 2
    rw [DSk.arr_def]
    apply Array.ext'
    apply List.ext_getElem?
    intro i
    by_cases hi : i < n
    · rw [Array.getElem?_toList, (h4 i hi).1]
      simp [k, hi]
    · have e1 : C.toList[i]? = none := by rw [List.getElem?_eq_none]; simp [h3]; omega
      rw [e1]; simp [k, hi]
  · intro i hi
    have hi : i < n := hi
    obtain ⟨q1, q2, q3⟩ := h4 i hi
    have e1 : (List.replicate n Dsk.zeros).getD i [] = Dsk.zeros := by simp [List.getD_eq_getElem?_getD, hi]
    show SecAt _ (ss i) ((List.replicate n Dsk.zeros).getD i [])
    rw [e1]
    exact q2.same (hold _ (by omega) q2.lt)
  · have e2 : (iKey fun i => ((k.wf i).map Spot.val)) = fun _ => none := by funext i; simp [iKey, k]
    rw [e2]
    refine (MapI.made wr).same ?_
    show _ = (wr.alloc (.map #[] 0)).heap[wr.heap.size]?
    rw [block_set_other _ (by omega), block_set_other _ (by omega), heap_alloc_old _ _ (by simp)]
  · refine ⟨fun _ => none, ?_, fun i => by simp⟩
    have := MapI.made (wr.alloc (.map #[] 0))
    have e1 : (wr.alloc (.map #[] 0)).heap.size = wr.heap.size + 1 := by simp
    rw [e1] at this
    refine this.same ?_
    rw [block_set_other _ (by omega), block_set_other _ (by omega)]
  · intro x y b hx hy
    rcases hat x b hx with ⟨rfl, h6⟩ | ⟨rfl, h6⟩ | ⟨rfl, h6⟩ | ⟨rfl, h6⟩ | ⟨i, hi, rfl, h6⟩ <;> rcases hat y b hy with ⟨rfl, h7⟩ | ⟨rfl, h7⟩ | ⟨rfl, h7⟩ | ⟨rfl, h7⟩ | ⟨j, hj, rfl, h7⟩ <;> first | rfl | omega | skip
    all_goals first
      | (have := (h4 j hj).2.1.lt; have := (h4 j hj).2.2; omega)
      | (have := (h4 i hi).2.1.lt; have := (h4 i hi).2.2; omega)
      | (rw [h5 i j hi hj (by omega)])
  · intro b ⟨x, hx⟩
    rcases hat x b hx with ⟨rfl, h6⟩ | ⟨rfl, h6⟩ | ⟨rfl, h6⟩ | ⟨rfl, h6⟩ | ⟨i, hi, rfl, h6⟩
    · exact .inl h6
    · exact .inr (.inl h6)
    · exact .inr (.inr (by omega))
    · exact .inr (.inr (by omega))
    · have := (h4 i hi).2.2; exact .inr (.inr (by omega))
set_option maxHeartbeats 800000 in
theorem blank_c {w : World} {p lb n : Nat} {dead : Bool} {v1 v2 : Value} {C : Array Value} (hn1 : 1 ≤ n) (hn2 : n ≤ 128) (hne : p ≠ lb)
    (hp : w.heap[p]? = some (.cells #[.slice (some ⟨lb, 0, none⟩) n n, v1, v2, .bool dead] 151 (0, 0))) (hl : w.heap[lb]? = some (.cells C 27 (0, 0))) (hC : C.size = n) :
    Calls Tryd.prog 92 #[.pointer (some ⟨p, 0, none⟩)] w (BlankPost w p lb n dead) := by
  have c0 : w.cell? ⟨p, 0, none⟩ = some (.slice (some ⟨lb, 0, none⟩) n n) := cell_at hp
  have hmm := @run_makeMap Tryd.prog
  have hmk := make_sector
  have HS : Hid (BlankMid w w lb n 0) := hid ⟨Only.refl _ _, C, fun _ => ⟨0, 0⟩, hl, hC, fun i hi => by omega, fun i i' hi => by omega⟩
  have HP := hid hp; have HL := hid hl; have HC := hid hC
  clear hp hl hC
  go_enter Tryd.func92, Tryd.ntmps92
  go_wp2
  clear c0
  go_loopw [8] (fun i wr => ∃ j : Nat, i = .int .i64 j ∧ j ≤ n ∧ BlankMid w wr lb n j) (fun i _ => n - (intOf i).toNat)
  case atStart => exact ⟨0, rfl, by omega, HS.out⟩
  case round =>
    clear HS
    obtain ⟨j, rfl, hj, hmid⟩ := hrel
    have hlb := lt_of_block HL.out
    by_cases hlt : j < n
    · have c0 : ∀ x : SW Ext wr.drew, x.w.cell? ⟨p, 0, none⟩ = some (.slice (some ⟨lb, 0, none⟩) n n) := fun x => Ext.cell (Ext.trans (Ext.refl wr).drew x.ext) (cell_at (hmid.only.at HP.out hne))
      have HM := hid hmid
      have i0 : (0 : Int) ≤ (j : Int) := by omega
      have i1 : (j : Int) < (n : Int) := by omega
      clear hmid
      go_wp2
      refine wp_region_rely_tail (S := Ext) 6 (.one [0, 1, 2, 3, 4] 5 (.fin [])) (by kernel_rfl) (by kernel_rfl) (fun _ _ d _ _ h => by cases d <;> exact h) ?_
      rw [wpS]
      simp only [opsAt, List.map_cons, List.map_nil, Array.getD_eq_getD_getElem?, List.getElem?_toArray, List.getElem?_cons_succ, List.getElem?_cons_zero, Option.getD_some]
      iterate 5 ((refine wpSQ_step (fun K hK => ?_); go_simp; first | (refine hK _ ?_; clear hK K) | (apply Exists.intro; refine ⟨fun x => ?_, hK _ ?_⟩; (fail); clear hK K)))
      refine wpSQ_nil ?_
      intro W1 hW1
      have hw1 : Ext wr W1 := Ext.trans (Ext.refl wr).drew hW1
      refine wpS_loud fun K hK => ?_
      go_wp2
      refine hK _ _ ((Ext.refl W1).alloc _) ?_
      clear hK K
      rw [wpS]
      simp only [opsAt, List.map_cons, List.map_nil, Array.getD_eq_getD_getElem?, List.getElem?_toArray, List.getElem?_cons_succ, List.getElem?_cons_zero, Option.getD_some]
      refine wpSQ_nil ?_
      intro W2 hW2
      have hB : Blk W2 W1.heap.size Dsk.zeros := hW2.at block_alloc
      have hx : Ext wr W2 := Ext.trans hw1 (Ext.trans ((Ext.refl W1).alloc _) hW2)
      have HF := hid (HM.out.step hlb hlt hx hw1.size hB)
      obtain ⟨_, C2, ss2, g2, g3, _⟩ := HM.out.ext hx
      have cj : W2.cell? ⟨lb, j, none⟩ = some (C2[j]'(by omega)) := (cell_at g2).trans (by simp)
      have fj : W2.frozen? ⟨lb, j, none⟩ = false := free_at g2
      obtain ⟨old, hold⟩ : ∃ old, C2[j]'(by omega) = old := ⟨_, rfl⟩
      rw [hold] at cj
      clear hB hx hW2 hw1 hW1 c0 g2 g3 hold
      generalize W1.heap.size = g at *
      go_wp2
      go_roundw
      case rel => exact ⟨j + 1, by go_num, by omega, HF.out⟩
      case measure => simp [intOf]; omega
    · obtain rfl : n = j := by omega
      have hfin := hmid.finish hn1 hn2 hne HP.out hlb
      have e1 := hmid.only.at HP.out hne
      have hpw := lt_of_block e1
      rw [World.setCell_alloc_past (w := wr.alloc (.map #[] 0)) _ p 1 _ (by simp; omega), World.setCell_alloc_past (w := wr) _ p 1 _ hpw,
        World.setCell_alloc_past (w := (wr.setCell ⟨p, 1, none⟩ (.map (some wr.heap.size))).alloc (.map #[] 0)) _ p 2 _ (by simp; omega), World.setCell_alloc_past (w := wr.setCell ⟨p, 1, none⟩ (.map (some wr.heap.size))) _ p 2 _ (by simpa using hpw)] at hfin
      have HF := hid hfin
      have e2 : ((wr.alloc (.map #[] 0)).alloc (.map #[] 0)).heap[p]? = some (.cells #[.slice (some ⟨lb, 0, none⟩) n n, v1, v2, .bool dead] 151 (0, 0)) := by
        rw [heap_alloc_old _ _ (by simp; omega), heap_alloc_old _ _ hpw]; exact e1
      have c1 : wr.cell? ⟨p, 1, none⟩ = some v1 := cell_at e1
      have c2 : wr.cell? ⟨p, 2, none⟩ = some v2 := cell_at e1
      have f1 : ∀ i, wr.frozen? ⟨p, i, none⟩ = false := fun i => free_at e1
      have e3 := block_set e1 (i := 1) (.map (some wr.heap.size))
      have f3 : ∀ i, (((wr.setCell ⟨p, 1, none⟩ (.map (some wr.heap.size))).alloc (.map #[] 0)).alloc (.map #[] 0)).frozen? ⟨p, i, none⟩ = false := fun i =>
        free_at ((heap_alloc_old _ _ (by simp; omega)).trans ((heap_alloc_old _ _ (by simp; omega)).trans e3))
      have f2 : ∀ i, ((wr.alloc (.map #[] 0)).alloc (.map #[] 0)).frozen? ⟨p, i, none⟩ = false := fun i => free_at e2
      clear e1 e2 e3 hmid hfin
      go_wp2
      go_end0
      exact HF.out
end Go.Proofs.YtkmgdglmlmodmaaDoor
