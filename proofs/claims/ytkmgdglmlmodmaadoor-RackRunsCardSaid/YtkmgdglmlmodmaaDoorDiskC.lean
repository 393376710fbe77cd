/- A disk read; what waits put into its sectors. -/
import Derived.Test.YtkmgdglmlmodmaaDoorDiskB
namespace Go.Proofs.YtkmgdglmlmodmaaDoor
set_option linter.unusedVariables false
open Go Go.RowKit
def DReadPost (w : World) (D : Dsk) (i : Int) (e : Ending) (w' : World) : Prop :=
  (∃ er, D.refusedE sDiskRead i false = some er ∧ e = .returned (.tuple #[.slice none 0 0, er.val]) ∧ Ext w w') ∨
  (D.refusedE sDiskRead i false = none ∧ ∃ s : Spot, e = .returned (.tuple #[.slice (some ⟨s.blk, 0, none⟩) 128 s.cap, .nilIface]) ∧ w.heap.size ≤ s.blk ∧ SecAt w' s (D.read i.toNat) ∧ Ext w w')
theorem refused_none {D : Dsk} {op : ByteArray} {i : Int} {wrong : Bool} (h : D.refusedE op i wrong = none) : D.dead = false ∧ wrong = false ∧ ∃ j : Nat, i = j ∧ j < D.l.length := by
  unfold Dsk.refusedE at h
  cases hd : D.dead
  · rw [hd] at h
    rw [if_neg (by simp)] at h
    split at h
    · cases h
    · rename_i hc
      simp only [Bool.or_eq_true, decide_eq_true_eq, not_or, Bool.not_eq_true] at hc
      exact ⟨rfl, hc.1.1, i.toNat, by omega, by omega⟩
  · rw [hd] at h; simp at h
set_option maxHeartbeats 600000 in
theorem dread_c {w : World} {k : DSk} {D : Dsk} (h : DiskRep w k D) (i : Int) :
    Calls Tryd.prog 77 #[.pointer (some ⟨k.p, 0, none⟩), .int .i64 i] w (DReadPost w D i) := by
  have H := hid h
  rcases hr : D.refusedE sDiskRead i false with _ | er
  · obtain ⟨_, _, j, rfl, hj⟩ := refused_none hr
    rw [h.len] at hj
    have HR := hid hr
    have hj0 : (0 : Int) ≤ (j : Int) := by omega
    have hj1 : (j : Int) < (k.n : Int) := by omega
    have c0 := h.cell0
    have c1 := h.cell1
    have cS := h.cellS j hj
    unfold Spot.val at cS
    rcases hw : k.wf j with _ | s
    · have hl := h.waits_ok j
      rw [DSk.wv_none hw] at hl
      simp only [Option.getD_none, Option.isSome_none] at hl
      have HB := hid (h.sec j hj)
      have HV : Hid (D.read j = D.l.getD j []) := hid (by unfold Dsk.read; rw [h.waitN j hw]; rfl)
      clear hr h hj hw
      go_enter Tryd.func77, Tryd.ntmps77
      go_wp2_with (first
        | (go_at_call 96; refine (refused_c H.out sDiskRead j false).mono ?_; rintro e w' ⟨rfl, rfl⟩; rw [HR.out]; simp only [oErr])
        | (go_at_call 97; refine (clone_c _ 0 _ 128 _ w HB.out.bytes).mono ?_; rintro e w2 ⟨s2, rfl, hb2, ho2, hx2⟩; have HO2 := hid ho2; have HX2 := hid hx2; clear ho2 hx2))
      go_ret2
      exact .inr ⟨HR.out, s2, rfl, hb2, by rw [Int.toNat_natCast, HV.out]; exact ⟨HB.out.1, HB.out.2.1, HO2.out⟩, HX2.out⟩
    · have hl := h.waits_ok j
      rw [DSk.wv_some hw] at hl
      simp only [Option.getD_some, Option.isSome_some, Spot.val] at hl
      obtain ⟨_, l, hlw, hsec⟩ := h.waitS j s hw
      have HB := hid hsec
      have HV : Hid (D.read j = l) := hid (by unfold Dsk.read; rw [hlw]; rfl)
      clear hr h hj hw hsec hlw
      go_enter Tryd.func77, Tryd.ntmps77
      go_wp2_with (first
        | (go_at_call 96; refine (refused_c H.out sDiskRead j false).mono ?_; rintro e w' ⟨rfl, rfl⟩; rw [HR.out]; simp only [oErr])
        | (go_at_call 97; refine (clone_c _ 0 _ 128 _ w HB.out.bytes).mono ?_; rintro e w2 ⟨s2, rfl, hb2, ho2, hx2⟩; have HO2 := hid ho2; have HX2 := hid hx2; clear ho2 hx2))
      go_ret2
      exact .inr ⟨HR.out, s2, rfl, hb2, by rw [Int.toNat_natCast, HV.out]; exact ⟨HB.out.1, HB.out.2.1, HO2.out⟩, HX2.out⟩
  · have HR := hid hr
    obtain ⟨t2, v2, hq⟩ : ∃ t v, er.val = .iface t v := by cases er <;> exact ⟨_, _, rfl⟩
    have HQ := hid hq
    clear hr h hq
    go_enter Tryd.func77, Tryd.ntmps77
    go_wp2_with (go_at_call 96; refine (refused_c H.out sDiskRead i false).mono ?_; rintro e w' ⟨rfl, rfl⟩; rw [HR.out]; simp only [oErr, HQ.out])
    go_ret2
    exact .inl ⟨er, HR.out, by rw [HQ.out]; rfl, Ext.refl _⟩
/-- A disk while what waits is put into its sectors: those are done that dn says. -/
structure Mid (w0 w : World) (k : DSk) (D : Dsk) (dn : Nat → Bool) : Prop where
  only : Only (fun b => b = k.lb ∨ b = k.rm) w0 w
  arr : w.heap[k.lb]? = some (.cells ((List.range k.n).map fun i => (if dn i then (k.wf i).getD (k.ss i) else k.ss i).val).toArray 27 (0, 0))
  rmap : ∃ g, MapI w k.rm g ∧ ∀ i : Int, (g i).getD (.bool false) = .bool (decide (0 ≤ i) && (if dn i.toNat && (D.waits i.toNat).isSome then false else D.rot i.toNat))
namespace Mid
variable {w0 w w' : World} {k : DSk} {D : Dsk} {dn : Nat → Bool}
theorem start (h : DiskRep w0 k D) : Mid w0 w0 k D fun _ => false := ⟨Only.refl _ _, h.arr, by obtain ⟨g, h1, h2⟩ := h.rmap; exact ⟨g, h1, fun i => by simpa using h2 i⟩⟩
theorem ext (h0 : DiskRep w0 k D) (h : Mid w0 w k D dn) (e : Ext w w') : Mid w0 w' k D dn :=
  ⟨Only.ext h.only e, e.at h.arr, by obtain ⟨g, h1, h2⟩ := h.rmap; exact ⟨g, h1.same (e.block _ h1.lt (fun x => x)), h2⟩⟩
theorem new {F : Nat → Prop} (h0 : DiskRep w0 k D) (h : Mid w0 w k D dn) (e : Only F w w') (hF : ∀ b, F b → w0.heap.size ≤ b) : Mid w0 w' k D dn := by
  have hk : ∀ x b, k.at_ x = some b → w'.heap[b]? = w.heap[b]? := fun x b hx => by
    have := h0.lt ⟨x, hx⟩
    exact e.block b (Nat.lt_of_lt_of_le this h.only.size) (fun hf => by have := hF b hf; omega)
  refine ⟨h.only.trans e fun i hi hf => by have := hF i hf; omega, (hk .lb _ rfl).trans h.arr, ?_⟩
  obtain ⟨g, h1, h2⟩ := h.rmap
  exact ⟨g, h1.same (hk .rm _ rfl), h2⟩
theorem congr {dn' : Nat → Bool} (h0 : DiskRep w0 k D) (h : Mid w0 w k D dn) (e : ∀ i, (k.wf i).isSome = true → dn i = dn' i) : Mid w0 w k D dn' := by
  have h1 : ∀ i, (if dn i then (k.wf i).getD (k.ss i) else k.ss i) = if dn' i then (k.wf i).getD (k.ss i) else k.ss i := fun i => by
    rcases hw : k.wf i with _ | s
    · simp
    · rw [e i (by rw [hw]; rfl)]
  refine ⟨h.only, ?_, ?_⟩
  · simp only [← h1]; exact h.arr
  · obtain ⟨g, h2, h3⟩ := h.rmap
    refine ⟨g, h2, fun i => ?_⟩
    rw [h3 i]
    rcases hw : k.wf i.toNat with _ | s
    · rw [h0.waitN _ hw]; simp
    · rw [e i.toNat (by rw [hw]; rfl)]
theorem at_ (h0 : DiskRep w0 k D) (h : Mid w0 w k D dn) (x : Slot) (b : Nat) (hx : k.at_ x = some b) (h1 : x ≠ .lb) (h2 : x ≠ .rm) : w.heap[b]? = w0.heap[b]? :=
  h.only.block b (h0.lt ⟨x, hx⟩) fun e => by
    rcases e with e | e
    · exact h1 (h0.inj x .lb b hx (by rw [e]; rfl))
    · exact h2 (h0.inj x .rm b hx (by rw [e]; rfl))
theorem cell0 (h0 : DiskRep w0 k D) (h : Mid w0 w k D dn) : w.cell? ⟨k.p, 0, none⟩ = some (.slice (some ⟨k.lb, 0, none⟩) k.n k.n) := cell_at ((h.at_ h0 .p _ rfl (by simp) (by simp)).trans h0.own)
theorem cell1 (h0 : DiskRep w0 k D) (h : Mid w0 w k D dn) : w.cell? ⟨k.p, 1, none⟩ = some (.map (some k.wm)) := cell_at ((h.at_ h0 .p _ rfl (by simp) (by simp)).trans h0.own)
theorem cell2 (h0 : DiskRep w0 k D) (h : Mid w0 w k D dn) : w.cell? ⟨k.p, 2, none⟩ = some (.map (some k.rm)) := cell_at ((h.at_ h0 .p _ rfl (by simp) (by simp)).trans h0.own)
theorem wmap (h0 : DiskRep w0 k D) (h : Mid w0 w k D dn) : MapI w k.wm (iKey fun i => (k.wf i).map Spot.val) := h0.wmap.same (h.at_ h0 .wm _ rfl (by simp) (by simp))
theorem waits_v (h0 : DiskRep w0 k D) (h : Mid w0 w k D dn) (i : Int) :
    (Instr.lookup 133 (.map (some k.wm)) (.int .i64 i) false).run Tryd.prog w = .ok ((k.wv i).getD (.slice none 0 0)) w :=
  (h.wmap h0).run_look Tryd.underlying133 keyI (zeroS w) i false
theorem lbrm (h0 : DiskRep w0 k D) : k.lb ≠ k.rm := h0.ne (x := .lb) (y := .rm) rfl rfl (by simp)
theorem plb (h0 : DiskRep w0 k D) : k.p ≠ k.lb := h0.ne (x := .p) (y := .lb) rfl rfl (by simp)
theorem prm (h0 : DiskRep w0 k D) : k.p ≠ k.rm := h0.ne (x := .p) (y := .rm) rfl rfl (by simp)
/-- One more is put. -/
theorem put (h0 : DiskRep w0 k D) (h : Mid w0 w k D dn) {W W' : World} (hx : Ext w W) {i : Nat} (hi : i < k.n) {s : Spot} (hs : k.wf i = some s)
    {g : Int → Option Value} (h2 : ∀ i : Int, (g i).getD (.bool false) = .bool (decide (0 ≤ i) && (if dn i.toNat && (D.waits i.toNat).isSome then false else D.rot i.toNat))) (hm : MapI W' k.rm fun j => if j = (i : Int) then some (.bool false) else g j) (ho : Only (fun b => b = k.rm) (W.setCell ⟨k.lb, i, none⟩ s.val) W') :
    Mid w0 W' k D fun j => dn j || j == i := by
  have hW := h.ext h0 hx
  have hO : Only (fun b => b = k.lb ∨ b = k.rm) w0 (W.setCell ⟨k.lb, i, none⟩ s.val) := hW.only.setCell (.inr (.inl rfl)) s.val
  refine ⟨hO.trans (ho.mono (G := fun b => b = k.lb ∨ b = k.rm) fun b _ e => .inr e) fun _ _ x => x, ?_, ?_⟩
  · have e1 : (W.setCell ⟨k.lb, i, none⟩ s.val).heap[k.lb]? = some (.cells ((List.range k.n).map fun j => (if dn j || j == i then (k.wf j).getD (k.ss j) else k.ss j).val).toArray 27 (0, 0)) := by
      rw [block_set hW.arr]
      congr 2
      apply Array.ext'
      apply List.ext_getElem?
      intro j
      simp only [List.setIfInBounds_toArray, List.getElem?_set, List.getElem?_map, List.length_map, List.length_range]
      by_cases hj : i = j
      · subst hj; simp [hi, hs]
      · by_cases hjn : j < k.n
        · simp [hj, hjn, Ne.symm hj]
        · simp [hj, hjn]
    exact (ho.block k.lb (lt_of_block e1) (lbrm h0)).trans e1
  · refine ⟨_, hm, fun j => ?_⟩
    by_cases hj : j = (i : Int)
    · subst hj
      obtain ⟨_, l, hl, _⟩ := h0.waitS i s hs
      simp [hl]
    · simp only [hj, if_false]
      rw [h2 j]
      by_cases hj0 : 0 ≤ j
      · have : (j.toNat == i) = false := by simp; omega
        simp [this]
      · have : decide (0 ≤ j) = false := by simp; omega
        rw [this, Bool.false_and, Bool.false_and]
end Mid
def PutPost (w0 : World) (k : DSk) (D : Dsk) (dn : Nat → Bool) (e : Ending) (w' : World) : Prop := e = .returned (.tuple #[]) ∧ Mid w0 w' k D dn
set_option maxHeartbeats 600000 in
theorem dput_c {w0 w : World} {k : DSk} {D : Dsk} {dn : Nat → Bool} (h0 : DiskRep w0 k D) (h : Mid w0 w k D dn) (i : Nat) (hi : i < k.n) (s : Spot) (hs : k.wf i = some s) :
    Calls Tryd.prog 98 #[.pointer (some ⟨k.p, 0, none⟩), .int .i64 i] w fun e w' => e = .returned (.tuple #[]) ∧ Mid w0 w' k D (fun j => dn j || j == i) ∧ Only (fun b => b = k.lb ∨ b = k.rm) w w' := by
  have M : ∀ x : SW Ext w.drew, Mid w0 x.w k D dn := fun x => h.ext h0 (Ext.trans (Ext.refl w).drew x.ext)
  have c0 : ∀ x : SW Ext w.drew, x.w.cell? ⟨k.p, 0, none⟩ = some (.slice (some ⟨k.lb, 0, none⟩) k.n k.n) := fun x => (M x).cell0 h0
  have c1 : ∀ x : SW Ext w.drew, x.w.cell? ⟨k.p, 1, none⟩ = some (.map (some k.wm)) := fun x => (M x).cell1 h0
  have c2 : ∀ x : SW Ext w.drew, (Instr.lookup 133 (.map (some k.wm)) (.int .i64 (i : Int)) false).run Tryd.prog x.w = .ok (.slice (some ⟨s.blk, 0, none⟩) 128 s.cap) x.w := fun x => by
    have := (M x).waits_v h0 i
    rw [DSk.wv_some hs] at this
    exact this
  have H0 := hid h0; have H := hid h; have HI := hid hi; have HS := hid hs
  have i0 : (0 : Int) ≤ (i : Int) := by omega
  have i1 : (i : Int) < (k.n : Int) := by omega
  clear M h0 h hi hs
  go_enter Tryd.func98, Tryd.ntmps98
  go_wp2
  refine wp_region_rely_tail (S := Ext) 11 (.fin [0, 1, 2, 3, 4, 5, 6, 7, 8, 9, 10]) (by kernel_rfl) (by kernel_rfl) (fun _ _ d _ _ h => by cases d <;> exact h) ?_
  rw [wpS]
  simp only [opsAt, List.map_cons, List.map_nil, Array.getD_eq_getD_getElem?, List.getElem?_toArray, List.getElem?_cons_succ, List.getElem?_cons_zero, Option.getD_some]
  iterate 11 ((refine wpSQ_step (fun K hK => ?_); go_simp; first | (refine hK _ ?_; clear hK K) | (apply Exists.intro; refine ⟨fun x => ?_, hK _ ?_⟩; (fail); clear hK K)))
  refine wpSQ_nil ?_
  intro W1 hW1
  have hw1 : Ext w W1 := Ext.trans (Ext.refl w).drew hW1
  have M1 := H.out.ext H0.out hw1
  have a1 : W1.cell? ⟨k.lb, i, none⟩ = some (if dn i then (k.wf i).getD (k.ss i) else k.ss i).val := (cell_at M1.arr).trans (by simp [HI.out])
  have f1 : W1.frozen? ⟨k.lb, i, none⟩ = false := free_at M1.arr
  obtain ⟨old, ho⟩ : ∃ old, (if dn i then (k.wf i).getD (k.ss i) else k.ss i).val = old := ⟨_, rfl⟩
  rw [ho] at a1
  have p2 : W1.cell? ⟨k.p, 2, none⟩ = some (.map (some k.rm)) := M1.cell2 H0.out
  have n1 : k.p ≠ k.lb := Mid.plb H0.out
  obtain ⟨g, hg1, hg2⟩ := M1.rmap
  obtain ⟨W2, hrun, hm2, ho2⟩ := (hg1.same (block_set_other (.slice (some ⟨s.blk, 0, none⟩) 128 s.cap) (Ne.symm (Mid.lbrm H0.out)) (i := i))).run_set (P := Tryd.prog) (e := 4) Tryd.underlying134 keyI i (.bool false)
  have HF : Hid (Mid w0 W2 k D (fun j => dn j || j == i)) := hid (H.out.put H0.out hw1 HI.out HS.out hg2 hm2 ho2)
  have HX : Hid (Only (fun b => b = k.lb ∨ b = k.rm) w W2) := hid (((Only.setCell hw1.only (.inr (.inl rfl)) (.slice (some ⟨s.blk, 0, none⟩) 128 s.cap) (p := ⟨k.lb, i, none⟩) : Only (fun b => b = k.lb ∨ b = k.rm) w (W1.setCell ⟨k.lb, i, none⟩ (.slice (some ⟨s.blk, 0, none⟩) 128 s.cap)))).trans (ho2.mono (G := fun b => b = k.lb ∨ b = k.rm) fun b _ e => .inr e) fun _ _ x => x)
  clear c0 c1 c2 M1 hg1 hg2 hm2 ho2 ho hw1 hW1
  go_wp2
  go_end0
  exact ⟨rfl, HF.out, HX.out⟩
end Go.Proofs.YtkmgdglmlmodmaaDoor
