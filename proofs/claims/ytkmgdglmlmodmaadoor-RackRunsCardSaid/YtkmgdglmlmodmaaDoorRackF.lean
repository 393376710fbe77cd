/- A rack made. -/
import Derived.Test.YtkmgdglmlmodmaaDoorRackE
namespace Go.Proofs.YtkmgdglmlmodmaaDoor
set_option linter.unusedVariables false
open Go Go.RowKit
theorem infoP : (Tryd.prog.info? 104).map (fun i => (i.zero, i.size, i.bytes)) = some (some (.pointer none), 1, 8) := by kernel_rfl
theorem ptr_push {w : World} {B : Nat} {v : Value} {l : List Value} (h : w.ownsRow B 104 1 v l.length l) (x : Addr) (hl : l.length < 1000000) (hB : B ≤ w.heap.size) :
    ∃ v' w', (Builtin.append_ #[101, 101] 101 #[v, .slice (some ⟨w.heap.size, 0, none⟩) 1 1]).run Tryd.prog (w.alloc (.cells #[.pointer (some x)] 104)) = .ok v' w' ∧ w'.ownsRow B 104 1 v' (l ++ [Value.pointer (some x)]).length (l ++ [Value.pointer (some x)]) ∧
      Only (fun b => v.ownBlock = some b) w w' ∧ (v'.ownBlock = v.ownBlock ∨ v'.ownBlock = some (w.heap.size + 1)) := by
  obtain ⟨i0, hi, hz0, hz1, hz2⟩ := info_parts infoP
  obtain ⟨v', w', h1, h2, h3, _, h5⟩ := run_append_own_at (P := Tryd.prog) (w := w.alloc (.cells #[.pointer (some x)] 104)) B 101 101 104 i0 (.pointer none) 1 8 Tryd.underlying101 hi hz0 hz1 hz2 rfl (by decide)
    v l.length _ (World.ownsRow.alloc h _) ⟨w.heap.size, 0, none⟩ 1 1 [.pointer (some x)] rfl
    (by
      intro j u hu
      have hj : j = 0 := by
        rcases j with _ | j
        · rfl
        · simp at hu
      subst hj
      have e : (⟨w.heap.size, 0, none⟩ : Addr).add 0 = ⟨w.heap.size, 0, none⟩ := rfl
      rw [e, cell_at block_alloc]
      simpa using hu)
    (by intro u hu; simp at hu; subst hu; rfl) (by unfold maxLen; omega) (by omega) (by simp; omega)
  exact ⟨v', w', h1, by rw [List.length_append]; exact h2, (Only.alloc (Only.refl (fun b => v.ownBlock = some b) w) _).grown h3 (fun k _ e => e), by simpa using h5⟩
theorem ownsRow_ext {w w' : World} {B n : Nat} {E : TypeId} {v : Value} {xs : List Value} (h : w.ownsRow B E 1 v n xs) (e : Ext w w') : w'.ownsRow B E 1 v n xs := by
  refine ⟨h.1, ?_⟩
  rcases h.2 with h' | ⟨g, c, cur, h1, h2, h3, h4⟩
  · exact .inl h'
  · exact .inr ⟨g, c, cur, h1, h2, e.at h3, h4⟩
def kptrs (ks : Nat → DSk) (j : Nat) : List Value := (List.range j).map fun i => .pointer (some ⟨(ks i).p, 0, none⟩)
theorem kptrs_len (ks : Nat → DSk) (j : Nat) : (kptrs ks j).length = j := by simp [kptrs]
/-- A rack of j disks that is being made. -/
structure RackMid (w wr : World) (j m : Nat) (v : Value) (ks : Nat → DSk) : Prop where
  ext : Ext w wr
  own : wr.heap[w.heap.size]? = some (.cells #[v, .bool false, .int .i64 (-1)] 103 (0, 0))
  row : wr.ownsRow (w.heap.size + 1) 104 1 v (kptrs ks j).length (kptrs ks j)
  dsk : ∀ i, i < j → DiskRep wr (ks i) (Dsk.new m) ∧ (ks i).n = m ∧ ∀ b, (ks i).foot b → w.heap.size < b ∧ v.ownBlock ≠ some b
  one : ∀ i i' b, i < j → i' < j → (ks i).foot b → (ks i').foot b → i = i'
theorem RackMid.step {w wr w2 W3 : World} {j m : Nat} {v v' : Value} {ks : Nat → DSk} {k : DSk} (h : RackMid w wr j m v ks) (hx : Ext wr w2) (hk : DiskRep w2 k (Dsk.new m)) (hn : k.n = m) (hf : ∀ b, k.foot b → wr.heap.size ≤ b)
    (hrow : W3.ownsRow (w.heap.size + 1) 104 1 v' (kptrs ks j ++ [Value.pointer (some ⟨k.p, 0, none⟩)]).length (kptrs ks j ++ [Value.pointer (some ⟨k.p, 0, none⟩)])) (ho : Only (fun b => v.ownBlock = some b) w2 W3) (hv : v'.ownBlock = v.ownBlock ∨ v'.ownBlock = some (w2.heap.size + 1)) :
    RackMid w (W3.setCell ⟨w.heap.size, 0, none⟩ v') (j + 1) m v' fun i => if i = j then k else ks i := by
  have hlt := lt_of_block h.own
  have hvb : ∀ b, v.ownBlock = some b → w.heap.size + 1 ≤ b ∧ b < wr.heap.size := fun b hb => h.row.lt b hb
  have hsz := hx.size
  have hr3 : W3.heap[w.heap.size]? = some (.cells #[v, .bool false, .int .i64 (-1)] 103 (0, 0)) := ho.at (hx.at h.own) (fun e => by have := hvb _ e; omega)
  have hks : kptrs (fun i => if i = j then k else ks i) (j + 1) = kptrs ks j ++ [.pointer (some ⟨k.p, 0, none⟩)] := by
    unfold kptrs
    rw [List.range_succ, List.map_append, List.map_cons, List.map_nil]
    simp only [if_true]
    congr 1
    apply List.map_congr_left
    intro i hi
    have : i ≠ j := by have := List.mem_range.1 hi; omega
    simp only [this, if_false]
  have hkeep : ∀ b, b ≠ w.heap.size → v.ownBlock ≠ some b → b < w2.heap.size → (W3.setCell ⟨w.heap.size, 0, none⟩ v').heap[b]? = w2.heap[b]? := fun b h1 h2 h3 => by
    rw [block_set_other _ h1]; exact ho.block b h3 h2
  have hold : ∀ i, i < j → DiskRep (W3.setCell ⟨w.heap.size, 0, none⟩ v') (ks i) (Dsk.new m) := fun i hi => by
    obtain ⟨q1, _, q3⟩ := h.dsk i hi
    exact (q1.ext hx).same fun b hb => hkeep b (by have := (q3 b hb).1; omega) (q3 b hb).2 ((q1.ext hx).lt hb)
  have hkb : ∀ b, k.foot b → w.heap.size < b ∧ v'.ownBlock ≠ some b := fun b hb => by
    have h1 := hf b hb
    have h2 := hk.lt hb
    refine ⟨by omega, fun e => ?_⟩
    rcases hv with e1 | e1
    · have := hvb b (e1 ▸ e); omega
    · rw [e1] at e; have : w2.heap.size + 1 = b := Option.some.inj e; omega
  refine ⟨?_, by rw [block_set hr3]; rfl, ?_, fun i hi => ?_, fun i i' b hi hi' hb hb' => ?_⟩
  · exact Only.setCell (F := fun _ => False) (Ext.then (Ext.trans h.ext hx) ho (fun i hi e => by have := hvb i e; omega)) (.inl (Nat.le_refl _)) _
  · rw [hks]
    refine ⟨hrow.1, ?_⟩
    rcases hrow.2 with h' | ⟨g, c, cur, h1, h2, h3, h4⟩
    · exact .inl h'
    · refine .inr ⟨g, c, cur, h1, h2, ?_, h4⟩
      rw [block_set_other _ (by omega)]; exact h3
  · by_cases hij : i = j
    · subst hij
      simp only [if_true]
      exact ⟨hk.same fun b hb => hkeep b (by have := (hkb b hb).1; omega) (fun e => by have := hvb b e; have := hf b hb; omega) (hk.lt hb), hn, hkb⟩
    · simp only [hij, if_false]
      obtain ⟨q1, q2, q3⟩ := h.dsk i (by omega)
      refine ⟨hold i (by omega), q2, fun b hb => ⟨(q3 b hb).1, fun e => ?_⟩⟩
      rcases hv with e1 | e1
      · exact (q3 b hb).2 (e1 ▸ e)
      · rw [e1] at e; have : w2.heap.size + 1 = b := Option.some.inj e; have := q1.lt hb; omega
  · by_cases hij : i = j
    · by_cases hij' : i' = j
      · omega
      · simp only [hij, hij', if_true, if_false] at hb hb'
        have := (h.dsk i' (by omega)).1.lt hb'; have := hf b hb; omega
    · by_cases hij' : i' = j
      · simp only [hij, hij', if_true, if_false] at hb hb'
        have := (h.dsk i (by omega)).1.lt hb; have := hf b hb'; omega
      · simp only [hij, hij', if_false] at hb hb'
        exact h.one i i' b (by omega) (by omega) hb hb'
def RNewPost (w : World) (n m : Nat) (e : Ending) (w' : World) : Prop :=
  ∃ K, e = .returned (.tuple #[.pointer (some ⟨K.r, 0, none⟩), .nilIface]) ∧ RackRep w' K (Rck.new n m) ∧ (∀ b, K.foot b → w.heap.size ≤ b) ∧ Ext w w' ∧ K.n = n ∧ K.m = m
theorem RackMid.finish {w wr : World} {n m : Nat} {v : Value} {ks : Nat → DSk} (hn : 1 ≤ n) (hn8 : n ≤ 8) (h : RackMid w wr n m v ks) : RNewPost w n m (.returned (.tuple #[.pointer (some ⟨w.heap.size, 0, none⟩), .nilIface])) wr := by
  rcases h.row.2 with ⟨_, h0⟩ | ⟨g, c, cur, rfl, h2, h3, h4⟩
  · rw [kptrs_len] at h0; omega
  · have hrow := h.row
    rw [kptrs_len] at hrow
    refine ⟨⟨w.heap.size, g, c, n, m, ks⟩, rfl, ⟨by simp [Rck.new], hn, hn8, ?_, ?_, fun i hi => ?_, fun i hi => (h.dsk i hi).2.1, by simp [Rck.new], h.one, fun i b hi hb => ?_, ?_⟩, ?_, h.ext, rfl, rfl⟩
    · rw [h.own, kptrs_len]; rfl
    · have e : (⟨w.heap.size, g, c, n, m, ks⟩ : RSk).ptrs = kptrs ks n := rfl
      rw [e]
      refine ⟨hrow.1, ?_⟩
      rcases hrow.2 with ⟨q1, _⟩ | ⟨g', c', cur', q1, q2, q3⟩
      · cases q1
      · cases q1
        exact .inr ⟨g, _, cur', rfl, Nat.zero_le _, q3⟩
    · have e : (Rck.new n m).l.getD i default = Dsk.new m := by
        have hi : i < n := hi
        simp [Rck.new, List.getD_eq_getElem?_getD, hi]
      rw [e]; exact (h.dsk i hi).1
    · have := (h.dsk i hi).2.2 b hb
      exact ⟨by show b ≠ w.heap.size; omega, fun e => this.2 (by rw [e]; rfl)⟩
    · show w.heap.size ≠ g; omega
    · rintro b (hb | hb | ⟨i, hi, hb⟩)
      · have hb : b = w.heap.size := hb; omega
      · have hb : b = g := hb; omega
      · have := (h.dsk i hi).2.2 b hb; omega
def NewRel (w : World) (m j : Nat) (wr : World) : Prop := ∃ v ks, RackMid w wr j m v ks
set_option maxRecDepth 100000 in
set_option maxHeartbeats 1000000 in
theorem rnew_c (n m : Nat) (hn : 1 ≤ n) (hn8 : n ≤ 8) (hm : 1 ≤ m) (hm2 : m ≤ 128) (w : World) : Calls Tryd.prog 20 #[.int .i64 n, .int .i64 m] w (RNewPost w n m) := by
  have i1 : ¬ (n : Int) < 1 := by omega
  have i2 : ¬ (8 : Int) < (n : Int) := by omega
  have HS : Hid (NewRel w m 0 (w.alloc (.cells #[.slice none 0 0, .bool false, .int .i64 (-1)] 103))) := hid ⟨.slice none 0 0, fun _ => ⟨0, 0, 0, 0, 0, fun _ => ⟨0, 0⟩, fun _ => none⟩, (Ext.refl w).alloc _, block_alloc, World.ownsRow_nil _ _ _ _, fun i hi => by omega, fun i i' b hi => by omega⟩
  go_enter Tryd.func20, Tryd.ntmps20
  go_wp2
  go_loopw [21] (fun i wr => ∃ j : Nat, i = .int .i64 j ∧ j ≤ n ∧ NewRel w m j wr) (fun i _ => n - (intOf i).toNat)
  case atStart => exact ⟨0, rfl, by omega, HS.out⟩
  case round =>
    clear HS
    obtain ⟨j, rfl, hj, v, ks, hmid⟩ := hrel
    have HM := hid hmid
    clear hmid
    by_cases hlt : j < n
    · go_wp2_with (go_at_call 62; fail)
      refine (dnew_c m hm hm2 wr).mono ?_
      rintro e w2 ⟨k, rfl, hk, hkn, hkf, hx⟩
      have c0 : w2.cell? ⟨w.heap.size, 0, none⟩ = some v := cell_at (hx.at HM.out.own)
      obtain ⟨v', W3, hap, hrow, ho, hv⟩ := ptr_push (ownsRow_ext HM.out.row hx) ⟨k.p, 0, none⟩ (by rw [kptrs_len]; omega) (by have := hx.size; have := lt_of_block HM.out.own; omega)
      obtain ⟨g, L, c, rfl⟩ : ∃ g L c, v' = .slice (some ⟨g, 0, none⟩) L c := by
        rcases hrow.2 with ⟨_, h0⟩ | ⟨g, c, cur, h1, _⟩
        · simp at h0
        · exact ⟨g, _, c, h1⟩
      have HF := hid (HM.out.step hx hk hkn hkf hrow ho hv)
      have hr3 : W3.heap[w.heap.size]? = some (.cells #[v, .bool false, .int .i64 (-1)] 103 (0, 0)) := ho.at (hx.at HM.out.own) (fun e => by have := (HM.out.row.lt _ e).1; omega)
      have c3 : W3.cell? ⟨w.heap.size, 0, none⟩ = some v := cell_at hr3
      have f3 : W3.frozen? ⟨w.heap.size, 0, none⟩ = false := free_at hr3
      clear hk hkn hkf hx hrow ho hv hr3
      go_wp2_with (at_builtin; refine wpList_append_run rfl _ _ _ rfl _ _ _ _ rfl rfl hap ?_)
      go_roundw
      case rel => exact ⟨j + 1, by go_num, by omega, _, _, HF.out⟩
      case measure => simp [intOf]; omega
    · obtain rfl : n = j := by omega
      have HF := hid (HM.out.finish hn hn8)
      go_wp2
      go_ret2
      exact HF.out
theorem rnew_bad (n m : Int) (h : n < 1 ∨ 8 < n) (w : World) : Calls Tryd.prog 20 #[.int .i64 n, .int .i64 m] w fun e w' => e = .returned (.tuple #[.pointer none, (Err.fault sRackNew n (.no 1)).val]) ∧ w = w' := by
  rcases h with h | h
  · go_enter Tryd.func20, Tryd.ntmps20
    go_wp2_with (go_at_call 61; refine (wrap_err sRackNew n (.no 1) _).mono ?_; rintro e w2 ⟨rfl, rfl⟩)
    go_ret2
    exact ⟨rfl, rfl⟩
  · have h' : ¬ n < 1 := by omega
    go_enter Tryd.func20, Tryd.ntmps20
    go_wp2_with (go_at_call 61; refine (wrap_err sRackNew n (.no 1) _).mono ?_; rintro e w2 ⟨rfl, rfl⟩)
    go_ret2
    exact ⟨rfl, rfl⟩
end Go.Proofs.YtkmgdglmlmodmaaDoor
