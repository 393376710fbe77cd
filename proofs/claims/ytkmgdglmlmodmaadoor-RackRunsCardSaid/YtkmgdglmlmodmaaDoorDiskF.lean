/- A disk made, dead, replaced. -/
import Derived.Test.YtkmgdglmlmodmaaDoorDiskE
namespace Go.Proofs.YtkmgdglmlmodmaaDoor
set_option linter.unusedVariables false
open Go Go.RowKit
/-- Whether it is dead turned. -/
theorem DiskRep.setDead {w : World} {k : DSk} {D : Dsk} (h : DiskRep w k D) (b : Bool) : DiskRep (w.setCell ⟨k.p, 3, none⟩ (.bool b)) k { D with dead := b } := by
  have hk : ∀ x c, k.at_ x = some c → x ≠ .p → (w.setCell ⟨k.p, 3, none⟩ (.bool b)).heap[c]? = w.heap[c]? := fun x c hx hne => block_set_other _ (fun e => hne (h.inj x .p c hx (by rw [e]; rfl)))
  refine ⟨h.len, h.pos, h.small, ?_, (hk .lb _ rfl (by simp)).trans h.arr, ?_, h.wmap.same (hk .wm _ rfl (by simp)), ?_, h.waitN, ?_, h.inj⟩
  · rw [block_set h.own]; rfl
  · intro i hi; exact (h.sec i hi).same (hk (.sec i) _ (by simp [DSk.at_, hi]) (by simp))
  · intro i s hs
    obtain ⟨h1, l, h2, h3⟩ := h.waitS i s hs
    exact ⟨h1, l, h2, h3.same (hk (.wait i) _ (by simp [DSk.at_, hs]) (by simp))⟩
  · obtain ⟨g, h1, h2⟩ := h.rmap
    exact ⟨g, h1.same (hk .rm _ rfl (by simp)), h2⟩
def DVoidPost (w : World) (k : DSk) (D' : Dsk) (e : Ending) (w' : World) : Prop := e = .returned (.tuple #[]) ∧ ∃ k', DiskTo w k w' D' k'
theorem BlankPost.to {w w' : World} {k : DSk} {D : Dsk} (h : DiskRep w k D) {e : Ending} (hb : BlankPost w k.p k.lb k.n D.dead e w') (b : Bool) :
    ∃ k', k'.p = k.p ∧ DiskRep w' k' { D.blank with dead := D.dead } ∧ DiskTo w k (w'.setCell ⟨k.p, 3, none⟩ (.bool b)) { D.blank with dead := b } k' := by
  obtain ⟨_, k1, h1, h2, h3, h4, h5, h6⟩ := hb
  have e1 : (⟨List.replicate k.n Dsk.zeros, fun _ => none, fun _ => false, D.dead⟩ : Dsk) = { D.blank with dead := D.dead } := by unfold Dsk.blank; rw [h.len]
  rw [e1] at h4
  have h7 := h4.setDead b
  rw [h1] at h7
  refine ⟨k1, h1, h4, h7, h1, h3, fun c hc => ?_, ?_⟩
  · rcases h5 c hc with rfl | rfl | h8
    · exact .inl ⟨.p, rfl⟩
    · exact .inl ⟨.lb, rfl⟩
    · exact .inr h8
  · refine Only.setCell (h6.mono (G := k.foot) fun c _ hc => ?_) (.inr ⟨.p, rfl⟩) _
    rcases hc with rfl | rfl
    · exact ⟨.p, rfl⟩
    · exact ⟨.lb, rfl⟩
theorem DiskRep.blanks {w : World} {k : DSk} {D : Dsk} (h : DiskRep w k D) : Calls Tryd.prog 92 #[.pointer (some ⟨k.p, 0, none⟩)] w (BlankPost w k.p k.lb k.n D.dead) :=
  blank_c h.pos h.small (Mid.plb h) h.own h.arr k.arr_size
theorem ddie_c {w : World} {k : DSk} {D : Dsk} (h : DiskRep w k D) :
    Calls Tryd.prog 78 #[.pointer (some ⟨k.p, 0, none⟩)] w (DVoidPost w k D.die) := by
  have H := hid h
  clear h
  go_enter Tryd.func78, Tryd.ntmps78
  go_wp2_with fail
  refine H.out.blanks.mono ?_
  intro e w1 hb
  obtain ⟨k', h1, h2, h3⟩ := hb.to H.out true
  obtain ⟨rfl, _⟩ := hb
  have HF := hid h3
  have c3 := h2.cell3
  have f3 : w1.frozen? ⟨k'.p, 3, none⟩ = false := free_at h2.own
  rw [h1] at c3 f3
  clear h2 h3
  go_wp2
  go_end0
  exact ⟨rfl, _, HF.out⟩
theorem dreplace_c {w : World} {k : DSk} {D : Dsk} (h : DiskRep w k D) :
    Calls Tryd.prog 81 #[.pointer (some ⟨k.p, 0, none⟩)] w (DVoidPost w k D.replace) := by
  have H := hid h
  clear h
  go_enter Tryd.func81, Tryd.ntmps81
  go_wp2_with fail
  refine H.out.blanks.mono ?_
  intro e w1 hb
  obtain ⟨k', h1, h2, h3⟩ := hb.to H.out false
  obtain ⟨rfl, _⟩ := hb
  have HF := hid h3
  have c3 := h2.cell3
  have f3 : w1.frozen? ⟨k'.p, 3, none⟩ = false := free_at h2.own
  rw [h1] at c3 f3
  clear h2 h3
  go_wp2
  go_end0
  exact ⟨rfl, _, HF.out⟩
def DNewPost (w : World) (n : Nat) (e : Ending) (w' : World) : Prop :=
  ∃ k, e = .returned (.tuple #[.pointer (some ⟨k.p, 0, none⟩), .nilIface]) ∧ DiskRep w' k (Dsk.new n) ∧ k.n = n ∧ (∀ b, k.foot b → w.heap.size ≤ b) ∧ Ext w w'
set_option maxHeartbeats 800000 in
theorem dnew_c (n : Nat) (h1 : 1 ≤ n) (h2 : n ≤ 128) (w : World) : Calls Tryd.prog 62 #[.int .i64 n] w (DNewPost w n) := by
  obtain ⟨C, hC, hmk⟩ := make_slices n (by omega) w
  have i1 : ¬ (n : Int) < 1 := by omega
  have i2 : ¬ (128 : Int) < (n : Int) := by omega
  have HC := hid hC
  clear hC
  go_enter Tryd.func62, Tryd.ntmps62
  go_wp2_with fail
  have hs : (w.alloc (.cells C 27)).heap.size = w.heap.size + 1 := by simp
  have hp : ∀ A : Array Value, ((w.alloc (.cells C 27)).alloc (.cells A 151)).heap[w.heap.size + 1]? = some (.cells A 151 (0, 0)) := fun A => by
    rw [← hs]; exact heap_alloc_new _ _
  have hl : ∀ A : Array Value, ((w.alloc (.cells C 27)).alloc (.cells A 151)).heap[w.heap.size]? = some (.cells C 27 (0, 0)) := fun A => by
    rw [heap_alloc_old _ _ (by simp)]; exact heap_alloc_new _ _
  refine (blank_c (p := w.heap.size + 1) (lb := w.heap.size) h1 h2 (by omega) (hp _) (hl _) HC.out).mono ?_
  have hx : ∀ A : Array Value, Ext w ((w.alloc (.cells C 27)).alloc (.cells A 151)) := fun A => ((Ext.refl w).alloc _).alloc _
  rintro e w1 ⟨rfl, k, hk1, hk2, hk3, hk4, hk5, hk6⟩
  have HK4 := hid hk4; have HK5 := hid hk5; have HK6 := hid hk6; have HK1 := hid hk1; have HK3 := hid hk3
  have HX := hid (hx #[.slice (some ⟨w.heap.size, 0, none⟩) n n, .map none, .map none, .bool false])
  clear hk1 hk2 hk3 hk4 hk5 hk6 hx hp hl hs hmk
  go_wp2
  go_ret2
  refine ⟨k, by rw [HK1.out]; rfl, HK4.out, HK3.out, fun b hb => ?_, Ext.then HX.out HK6.out (fun i hi e => by omega)⟩
  rcases HK5.out b hb with h | h | h
  · omega
  · omega
  · have := h; simp at this; omega
theorem dnew_bad (n : Int) (h : n < 1 ∨ 128 < n) (w : World) : Calls Tryd.prog 62 #[.int .i64 n] w fun e w' => e = .returned (.tuple #[.pointer none, (Err.fault sDiskNew n (.no 1)).val]) ∧ w = w' := by
  rcases h with h | h
  · go_enter Tryd.func62, Tryd.ntmps62
    go_wp2_with (go_at_call 61; refine (wrap_err sDiskNew n (.no 1) _).mono ?_; rintro e w2 ⟨rfl, rfl⟩)
    go_ret2
    exact ⟨rfl, rfl⟩
  · have h' : ¬ n < 1 := by omega
    go_enter Tryd.func62, Tryd.ntmps62
    go_wp2_with (go_at_call 61; refine (wrap_err sDiskNew n (.no 1) _).mono ?_; rintro e w2 ⟨rfl, rfl⟩)
    go_ret2
    exact ⟨rfl, rfl⟩
end Go.Proofs.YtkmgdglmlmodmaaDoor
