/- A disk written, read, put. -/
import Derived.Test.YtkmgdglmlmodmaaDoorDiskA
namespace Go.Proofs.YtkmgdglmlmodmaaDoor
set_option linter.unusedVariables false
open Go Go.RowKit
theorem keyI : Tryd.prog.underlying 3 = some (.int .i64) := Tryd.underlying3
theorem zeroS (w : World) : (zeroValue 27).run Tryd.prog w = .ok (.slice none 0 0) w := by kernel_rfl
theorem zeroB (w : World) : (zeroValue 4).run Tryd.prog w = .ok (.bool false) w := by kernel_rfl
/-- What waits at a sector, as a map's value. -/
def DSk.wv (k : DSk) (i : Int) : Option Value := iKey (fun i => (k.wf i).map Spot.val) i
theorem DSk.wv_some {k : DSk} {i : Nat} {s : Spot} (h : k.wf i = some s) : k.wv i = some s.val := by simp [DSk.wv, iKey, h]
theorem DSk.wv_none {k : DSk} {i : Nat} (h : k.wf i = none) : k.wv i = none := by simp [DSk.wv, iKey, h]
theorem DiskRep.waits_ok {w : World} {k : DSk} {D : Dsk} (h : DiskRep w k D) (i : Int) :
    (Instr.lookup 133 (.map (some k.wm)) (.int .i64 i) true).run Tryd.prog w = .ok (.tuple #[(k.wv i).getD (.slice none 0 0), .bool (k.wv i).isSome]) w :=
  h.wmap.run_look Tryd.underlying133 keyI (zeroS w) i true
theorem DiskRep.waits_v {w : World} {k : DSk} {D : Dsk} (h : DiskRep w k D) (i : Int) :
    (Instr.lookup 133 (.map (some k.wm)) (.int .i64 i) false).run Tryd.prog w = .ok ((k.wv i).getD (.slice none 0 0)) w :=
  h.wmap.run_look Tryd.underlying133 keyI (zeroS w) i false
theorem DiskRep.rot_v {w : World} {k : DSk} {D : Dsk} (h : DiskRep w k D) (i : Int) :
    (Instr.lookup 134 (.map (some k.rm)) (.int .i64 i) false).run Tryd.prog w = .ok (.bool (decide (0 ≤ i) && D.rot i.toNat)) w := by
  obtain ⟨g, h1, h2⟩ := h.rmap
  have := h1.run_look (P := Tryd.prog) Tryd.underlying134 keyI (zeroB w) i false
  rw [h2] at this
  exact this
/-- Behind a store into what waits. -/
theorem DiskRep.written {w W W' : World} {k : DSk} {D : Dsk} (h : DiskRep w k D) {i : Nat} (hi : i < k.n) {s : Spot} {l : List Nat} (hx : Ext w W) (hs : SecAt W s l) (hnew : w.heap.size ≤ s.blk)
    (hm : MapI W' k.wm (fun j => if j = (i : Int) then some s.val else k.wv j)) (ho : Only (fun b => b = k.wm) W W') :
    DiskTo w k W' (D.write i l) { k with wf := fun j => if j = i then some s else k.wf j } := by
  have hW := h.ext hx
  have hkeep : ∀ b, b ≠ k.wm → b < W.heap.size → W'.heap[b]? = W.heap[b]? := fun b hb hl => ho.block b hl hb
  have hnot : ∀ x b, k.at_ x = some b → x ≠ .wm → W'.heap[b]? = W.heap[b]? := fun x b hb hne => hkeep b (fun e => hne (h.inj x .wm b hb (by rw [e]; rfl))) (hW.lt ⟨x, hb⟩)
  have hold : ∀ x b, k.at_ x = some b → b ≠ s.blk := fun x b hb => by have := h.lt ⟨x, hb⟩; omega
  refine ⟨⟨h.len, h.pos, h.small, ?_, ?_, ?_, ?_, ?_, ?_, ?_, ?_⟩, rfl, rfl, ?_, ?_⟩
  · exact (hnot .p _ rfl (by simp)).trans hW.own
  · exact (hnot .lb _ rfl (by simp)).trans hW.arr
  · intro j hj
    exact (hW.sec j hj).same (hnot (.sec j) _ (by simp [DSk.at_, show j < k.n from hj]) (by simp))
  · have e : (iKey fun j => ((if j = i then some s else k.wf j).map Spot.val)) = fun j : Int => if j = (i : Int) then some s.val else k.wv j := by
      funext j
      unfold iKey DSk.wv iKey
      by_cases hj : 0 ≤ j
      · simp only [hj, if_true]
        by_cases hji : j = (i : Int)
        · subst hji; simp
        · have : j.toNat ≠ i := by omega
          simp [this, hji]
      · have : j ≠ (i : Int) := by omega
        simp [hj, this]
    show MapI W' k.wm (iKey fun j => ((if j = i then some s else k.wf j).map Spot.val))
    rw [e]; exact hm
  · intro j t ht
    by_cases hj : j = i
    · subst hj
      simp only [if_true, Option.some.injEq] at ht
      subst ht
      refine ⟨hi, l, by simp [Dsk.write], hs.same (hkeep _ (fun e => ?_) hs.lt)⟩
      exact hold .wm _ rfl e.symm
    · simp only [hj, if_false] at ht
      obtain ⟨h1, l', h2, h3⟩ := hW.waitS j t ht
      exact ⟨h1, l', by simp [Dsk.write, hj, h2], h3.same (hnot (.wait j) _ (by simp [DSk.at_, ht]) (by simp))⟩
  · intro j hj
    by_cases hji : j = i
    · simp [hji] at hj
    · simp only [hji, if_false] at hj
      simp [Dsk.write, hji, h.waitN j hj]
  · obtain ⟨g, h1, h2⟩ := hW.rmap
    exact ⟨g, h1.same (hnot .rm _ rfl (by simp)), h2⟩
  · have key : ∀ x b, ({ k with wf := fun j => if j = i then some s else k.wf j } : DSk).at_ x = some b → (x = .wait i ∧ b = s.blk) ∨ k.at_ x = some b := by
      intro x b hb
      cases x with
      | wait j =>
        by_cases hj : j = i
        · subst hj; simp [DSk.at_] at hb; exact .inl ⟨rfl, hb.symm⟩
        · simp [DSk.at_, hj] at hb; exact .inr (by simpa [DSk.at_] using hb)
      | _ => exact .inr hb
    intro x y b hx' hy'
    rcases key x b hx' with ⟨h1, h2⟩ | h1
    · rcases key y b hy' with ⟨h3, h4⟩ | h3
      · rw [h1, h3]
      · exact absurd h2 (hold y b h3)
    · rcases key y b hy' with ⟨h3, h4⟩ | h3
      · exact absurd h4 (hold x b h1)
      · exact h.inj x y b h1 h3
  · intro b ⟨x, hb⟩
    cases x with
    | wait j =>
      by_cases hj : j = i
      · subst hj; simp [DSk.at_] at hb; exact .inr (by omega)
      · simp [DSk.at_, hj] at hb; exact .inl ⟨.wait j, by simpa [DSk.at_] using hb⟩
    | p => exact .inl ⟨.p, hb⟩
    | lb => exact .inl ⟨.lb, hb⟩
    | wm => exact .inl ⟨.wm, hb⟩
    | rm => exact .inl ⟨.rm, hb⟩
    | sec j => exact .inl ⟨.sec j, hb⟩
  · refine hx.only.trans (ho.mono (G := k.foot) fun b _ hb => ⟨.wm, by rw [hb]; rfl⟩) fun _ _ x => x
def DWritePost (w : World) (k : DSk) (D' : Dsk) (e : Ending) (w' : World) : Prop := e = .returned .nilIface ∧ ∃ k', DiskTo w k w' D' k'
set_option maxHeartbeats 600000 in
theorem dwrite_c {w : World} {k : DSk} {D : Dsk} (h : DiskRep w k D) (hd : D.dead = false) (i : Nat) (hi : i < k.n) (b off c : Nat) (l : List Nat) (hb : BytesAt w (some ⟨b, off, none⟩) 128 l) :
    Calls Tryd.prog 70 #[.pointer (some ⟨k.p, 0, none⟩), .int .i64 i, .slice (some ⟨b, off, none⟩) 128 c] w (DWritePost w k (D.write i l)) := by
  have hr : D.refusedE sDiskWrite i false = none := by
    unfold Dsk.refusedE; rw [hd, h.len]; simp; omega
  have HR := hid hr; have H := hid h; have HB := hid hb; have HI := hid hi
  have c1 : ∀ x : SW Ext w.drew, x.w.cell? ⟨k.p, 1, none⟩ = some (.map (some k.wm)) := fun x => (h.ext (Ext.trans (Ext.refl w).drew x.ext)).cell1
  clear hr h hb hi hd
  go_enter Tryd.func70, Tryd.ntmps70
  go_wp2_with (go_at_call 96; refine (refused_c H.out sDiskWrite i false).mono ?_; rintro e w' ⟨rfl, rfl⟩; rw [HR.out]; simp only [oErr])
  refine wp_region_rely_tail (S := Ext) 7 (.one [0, 1, 2, 3, 4, 5] 6 (.fin [])) (by kernel_rfl) (by kernel_rfl) (fun _ _ d _ _ h => by cases d <;> exact h) ?_
  rw [wpS]
  simp only [opsAt, List.map_cons, List.map_nil, Array.getD_eq_getD_getElem?, List.getElem?_toArray, List.getElem?_cons_succ, List.getElem?_cons_zero, Option.getD_some]
  iterate 6 ((refine wpSQ_step (fun K hK => ?_); go_simp; first | (refine hK _ ?_; clear hK K) | (apply Exists.intro; refine ⟨fun x => ?_, hK _ ?_⟩; (fail); clear hK K)))
  refine wpSQ_nil ?_
  intro W1 hW1
  have hw1 : Ext w W1 := Ext.trans (Ext.refl w).drew hW1
  refine wpS_loud fun K hK => ?_
  go_wp2_with fail
  refine (clone_c b off c 128 l W1 (HB.out.ext hw1)).mono ?_
  rintro e W2 ⟨s, rfl, hsb, hown, hx2⟩
  go_wp2
  refine hK _ _ hx2 ?_
  clear hK K
  rw [wpS]
  simp only [opsAt, List.map_cons, List.map_nil, Array.getD_eq_getD_getElem?, List.getElem?_toArray, List.getElem?_cons_succ, List.getElem?_cons_zero, Option.getD_some]
  refine wpSQ_nil ?_
  intro W3 hx3
  have hw3 : Ext w W3 := Ext.trans hw1 (Ext.trans hx2 hx3)
  have hsec : SecAt W3 s l := (show SecAt W2 s l from ⟨HB.out.len, HB.out.byte, hown⟩).same (hx3.block s.blk (owns_lt hown) (fun x => x))
  have hnew : w.heap.size ≤ s.blk := Nat.le_trans hw1.size hsb
  obtain ⟨W4, hrun, hm4, ho4⟩ := (H.out.ext hw3).wmap.run_set (P := Tryd.prog) (e := 27) Tryd.underlying133 keyI i (.slice (some ⟨s.blk, 0, none⟩) 128 s.cap)
  have HF := hid (H.out.written HI.out hw3 hsec hnew hm4 ho4)
  clear hsec hm4 ho4 hown hx2 hx3 c1
  go_wp2
  go_ret
  exact ⟨rfl, _, HF.out⟩
end Go.Proofs.YtkmgdglmlmodmaaDoor
