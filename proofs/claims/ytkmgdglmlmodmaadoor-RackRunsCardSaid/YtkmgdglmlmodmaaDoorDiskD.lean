/- A disk flushed. -/
import Derived.Test.YtkmgdglmlmodmaaDoorDiskC
import Derived.Deep.LoopGhost
namespace Go.Proofs.YtkmgdglmlmodmaaDoor
set_option linter.unusedVariables false
open Go Go.RowKit
/-- The places of a disk behind the putting. -/
def DSk.settled (k : DSk) (dn : Nat → Bool) (b : Nat) : DSk := { k with wm := b, ss := fun i => if dn i then (k.wf i).getD (k.ss i) else k.ss i, wf := fun _ => none }
def phi (k : DSk) (dn : Nat → Bool) : Slot → Slot
  | .sec i => if dn i && (k.wf i).isSome then .wait i else .sec i
  | x => x
theorem phi_at {k : DSk} {dn : Nat → Bool} {b c : Nat} {x : Slot} (hx : (k.settled dn b).at_ x = some c) (hne : x ≠ .wm) : k.at_ (phi k dn x) = some c := by
  cases x with
  | wm => exact absurd rfl hne
  | sec i =>
    have hx : (if i < k.n then some ((if dn i then (k.wf i).getD (k.ss i) else k.ss i) : Spot).blk else none) = some c := hx
    by_cases hi : i < k.n
    · rw [if_pos hi] at hx
      cases hd : dn i
      · have hp : phi k dn (.sec i) = .sec i := by simp [phi, hd]
        simp [hd] at hx
        rw [hp]; simp [DSk.at_, hi, hx]
      · rcases hw : k.wf i with _ | s
        · have hp : phi k dn (.sec i) = .sec i := by simp [phi, hd, hw]
          simp [hd, hw] at hx
          rw [hp]; simp [DSk.at_, hi, hx]
        · have hp : phi k dn (.sec i) = .wait i := by simp [phi, hd, hw]
          simp [hd, hw] at hx
          rw [hp]; simp [DSk.at_, hw, hx]
    · rw [if_neg hi] at hx; cases hx
  | wait i => simp [DSk.settled, DSk.at_] at hx
  | _ => exact hx
theorem phi_inj {k : DSk} {dn : Nat → Bool} {x y : Slot} (h : phi k dn x = phi k dn y) (hx : ∀ i, x ≠ .wait i) (hy : ∀ i, y ≠ .wait i) : x = y := by
  cases x with
  | wait i => exact absurd rfl (hx i)
  | sec i =>
    cases y with
    | wait j => exact absurd rfl (hy j)
    | sec j =>
      simp only [phi] at h
      split at h <;> split at h <;> simp at h <;> rw [h]
    | _ => simp only [phi] at h; split at h <;> cases h
  | _ =>
    cases y with
    | wait j => exact absurd rfl (hy j)
    | sec j => simp only [phi] at h; split at h <;> cases h
    | _ => first | rfl | cases h
theorem Mid.finish {w0 w : World} {k : DSk} {D : Dsk} {dn : Nat → Bool} (h0 : DiskRep w0 k D) (h : Mid w0 w k D dn) :
    DiskTo w0 k ((w.alloc (.map #[] 0)).setCell ⟨k.p, 1, none⟩ (.map (some w.heap.size))) (D.settle dn) (k.settled dn w.heap.size) := by
  have hO : Only (fun b => b = k.lb ∨ b = k.rm ∨ b = k.p) w0 ((w.alloc (.map #[] 0)).setCell ⟨k.p, 1, none⟩ (.map (some w.heap.size))) :=
    Only.setCell ((h.only.mono (G := fun b => b = k.lb ∨ b = k.rm ∨ b = k.p) fun b _ e => by rcases e with e | e <;> simp [e]).alloc _) (.inr (.inr (.inr rfl))) _
  have hW : ∀ b, b ≠ k.p → b < w.heap.size → ((w.alloc (.map #[] 0)).setCell ⟨k.p, 1, none⟩ (.map (some w.heap.size))).heap[b]? = w.heap[b]? := fun b h1 h2 => by
    rw [block_set_other _ h1, heap_alloc_old w _ h2]
  have hlt : ∀ x b, k.at_ x = some b → b < w.heap.size := fun x b hx => Nat.lt_of_lt_of_le (h0.lt ⟨x, hx⟩) h.only.size
  have hsz := h.only.size
  have hp : k.p ≠ w.heap.size := by have := hlt .p _ rfl; omega
  have hat : ∀ x b, k.at_ x = some b → x ≠ .lb → x ≠ .rm → x ≠ .p → ((w.alloc (.map #[] 0)).setCell ⟨k.p, 1, none⟩ (.map (some w.heap.size))).heap[b]? = w0.heap[b]? := fun x b hx h1 h2 h3 => by
    rw [hW b (fun e => h3 (h0.inj x .p b hx (by rw [e]; rfl))) (hlt x b hx)]
    exact h.at_ h0 x b hx h1 h2
  have hsec : ∀ i, i < k.n → SecAt ((w.alloc (.map #[] 0)).setCell ⟨k.p, 1, none⟩ (.map (some w.heap.size))) ((k.settled dn w.heap.size).ss i) ((D.settle dn).l.getD i []) := by
    intro i hi
    have hi' : i < D.l.length := by rw [h0.len]; exact hi
    have e1 : (D.settle dn).l.getD i [] = if dn i then (D.waits i).getD (D.l.getD i []) else D.l.getD i [] := by
      simp [Dsk.settle, List.getD_eq_getElem?_getD, hi']
    rw [e1]
    show SecAt _ (if dn i then (k.wf i).getD (k.ss i) else k.ss i) _
    have hs := h0.sec i hi
    have hs' : SecAt ((w.alloc (.map #[] 0)).setCell ⟨k.p, 1, none⟩ (.map (some w.heap.size))) (k.ss i) (D.l.getD i []) := hs.same (hat (.sec i) _ (by simp [DSk.at_, hi]) (by simp) (by simp) (by simp))
    cases hd : dn i
    · simpa using hs'
    · rcases hw : k.wf i with _ | s
      · rw [h0.waitN i hw]; simpa using hs'
      · obtain ⟨_, l, hl, hsl⟩ := h0.waitS i s hw
        rw [hl]
        simpa using hsl.same (hat (.wait i) _ (by simp [DSk.at_, hw]) (by simp) (by simp) (by simp))
  refine ⟨⟨?_, h0.pos, h0.small, ?_, ?_, hsec, ?_, (fun i s hs => by cases hs), fun i _ => rfl, ?_, ?_⟩, rfl, rfl, ?_, ?_⟩
  · simp [Dsk.settle, DSk.settled, h0.len]
  · have e1 : (w.alloc (.map #[] 0)).heap[k.p]? = some (.cells (dskA k D) 151 (0, 0)) := by
      rw [heap_alloc_old w _ (hlt .p _ rfl), h.at_ h0 .p _ rfl (by simp) (by simp)]; exact h0.own
    rw [show (k.settled dn w.heap.size).p = k.p from rfl, block_set e1]
    rfl
  · show _ = some (Obj.cells ((List.range k.n).map fun i => ((if dn i then (k.wf i).getD (k.ss i) else k.ss i) : Spot).val).toArray _ _)
    exact (hW k.lb (fun e => Mid.plb h0 e.symm) (hlt .lb _ rfl)).trans h.arr
  · have e1 : ((w.alloc (.map #[] 0)).setCell ⟨k.p, 1, none⟩ (.map (some w.heap.size))).heap[w.heap.size]? = (w.alloc (.map #[] 0)).heap[w.heap.size]? := block_set_other _ (Ne.symm hp)
    have := (MapI.made w).same e1
    have e2 : (iKey fun i => (((k.settled dn w.heap.size).wf i).map Spot.val)) = fun _ => none := by funext i; simp [iKey, DSk.settled]
    rw [e2]; exact this
  · obtain ⟨g, h1, h2⟩ := h.rmap
    refine ⟨g, h1.same (hW k.rm (fun e => Mid.prm h0 e.symm) (hlt .rm _ rfl)), fun i => ?_⟩
    rw [h2 i]; rfl
  · intro x y b hx hy
    have hnw : ∀ z c, (k.settled dn w.heap.size).at_ z = some c → ∀ i, z ≠ .wait i := fun z c hz i e => by subst e; simp [DSk.settled, DSk.at_] at hz
    by_cases hxw : x = .wm
    · subst hxw
      have hb : w.heap.size = b := by simpa [DSk.settled, DSk.at_] using hx
      by_cases hyw : y = .wm
      · rw [hyw]
      · have := hlt _ _ (phi_at hy hyw); omega
    · by_cases hyw : y = .wm
      · subst hyw
        have hb : w.heap.size = b := by simpa [DSk.settled, DSk.at_] using hy
        have := hlt _ _ (phi_at hx hxw); omega
      · exact phi_inj (h0.inj _ _ b (phi_at hx hxw) (phi_at hy hyw)) (hnw x b hx) (hnw y b hy)
  · intro b ⟨x, hx⟩
    by_cases hxw : x = .wm
    · subst hxw
      have hb : w.heap.size = b := by simpa [DSk.settled, DSk.at_] using hx
      exact .inr (by omega)
    · exact .inl ⟨_, phi_at hx hxw⟩
  · refine hO.mono fun b _ e => ?_
    rcases e with e | e | e
    · exact ⟨.lb, by rw [e]; rfl⟩
    · exact ⟨.rm, by rw [e]; rfl⟩
    · exact ⟨.p, by rw [e]; rfl⟩
theorem nat_beq (i j : Nat) : ((i : Int) == (j : Int)) = (i == j) := by
  by_cases h : i = j
  · subst h; rw [beq_self_eq_true, beq_self_eq_true]
  · have : (i : Int) ≠ (j : Int) := by omega
    rw [beq_eq_false_iff_ne.2 this, beq_eq_false_iff_ne.2 h]
def DFlushPost (w : World) (k : DSk) (D' : Dsk) (e : Ending) (w' : World) : Prop := e = .returned .nilIface ∧ ∃ k', DiskTo w k w' D' k'
/-- While a disk is flushed. -/
def FlushRel (w : World) (k : DSk) (D : Dsk) (r : Nat) (g : Nat) (wr : World) : Prop :=
  ∃ left dn, IterI wr k.wm r k.wv left g ∧ Mid w wr k D dn ∧ ∀ i : Nat, (k.wf i).isSome = true → dn i = !left i
theorem FlushRel.start {w W : World} {k : DSk} {D : Dsk} {g : Nat} (h0 : DiskRep w k D) (hx : Ext w W) (h : IterI W k.wm w.heap.size k.wv (fun i => (k.wv i).isSome) g) : FlushRel w k D w.heap.size g W :=
  ⟨_, _, h, (Mid.start h0).ext h0 hx, fun i hi => by
    obtain ⟨s, hs⟩ := Option.isSome_iff_exists.1 hi
    rw [DSk.wv_some hs]; rfl⟩
set_option maxHeartbeats 800000 in
theorem dflush_c {w : World} {k : DSk} {D : Dsk} (h : DiskRep w k D) (hd : D.dead = false) :
    Calls Tryd.prog 71 #[.pointer (some ⟨k.p, 0, none⟩)] w (DFlushPost w k D.flush) := by
  have hr : D.refusedE sDiskFlush 0 false = none := by
    have := h.pos
    unfold Dsk.refusedE; rw [hd, h.len]; simp; omega
  have HR := hid hr; have H := hid h
  have c1 := h.cell1
  have hmm := @run_makeMap Tryd.prog
  obtain ⟨W1, cnt, hrun, hit, hx, hsz⟩ := h.wmap.run_range (P := Tryd.prog) (k := 3) (e := 27) Tryd.underlying133
  have HS := hid (FlushRel.start h hx hit)
  clear hr h hd hit hx hsz
  go_enter Tryd.func71, Tryd.ntmps71
  go_wp2_with (go_at_call 96; refine (refused_c H.out sDiskFlush 0 false).mono ?_; rintro e w' ⟨rfl, rfl⟩; rw [HR.out]; simp only [oErr])
  clear c1 hrun
  go_loopg [4] cnt (fun g s4 wr => FlushRel w k D w.heap.size g wr)
  case atStart => exact HS.out
  case round =>
    clear HS
    obtain ⟨left, dn, hit, hmid, hdn⟩ := hrel
    have c1 := hmid.cell1 H.out
    rcases hit.run_next (P := Tryd.prog) 0 with ⟨hl, hrun⟩ | ⟨i, v, W2, g2, hl, hv, hrun, hit2, hlt, ho2, hsz2, hent⟩
    · have hfin := (hmid.congr (dn' := fun _ => true) H.out (fun i hi => by rw [hdn i hi, hl]; rfl)).finish H.out
      have HF := hid hfin
      have hf : wr.frozen? ⟨k.p, 1, none⟩ = false := free_at ((hmid.at_ H.out .p _ rfl (by simp) (by simp)).trans H.out.own)
      have hfa : ∀ o, (wr.alloc o).frozen? ⟨k.p, 1, none⟩ = false := fun o => by
        have := lt_of_block ((hmid.at_ H.out .p _ rfl (by simp) (by simp)).trans H.out.own)
        exact free_at ((heap_alloc_old wr o this).trans ((hmid.at_ H.out .p _ rfl (by simp) (by simp)).trans H.out.own))
      have hca : ∀ o, (wr.alloc o).cell? ⟨k.p, 1, none⟩ = some (.map (some k.wm)) := fun o => Ext.cell ((Ext.refl wr).alloc o) c1
      clear hfin hit hmid hdn hl
      go_wp2
      go_ret
      exact ⟨rfl, _, HF.out⟩
    · have HD := hid hdn
      obtain ⟨j, rfl⟩ : ∃ j : Nat, i = j := by
        rcases Int.lt_or_le i 0 with h1 | h1
        · have : k.wv i = none := by simp [DSk.wv, iKey, show ¬ 0 ≤ i by omega]
          rw [this] at hv; cases hv
        · exact ⟨i.toNat, by omega⟩
      obtain ⟨s, hs⟩ : ∃ s, k.wf j = some s := by
        rcases hw : k.wf j with _ | s
        · rw [DSk.wv_none hw] at hv; cases hv
        · exact ⟨s, rfl⟩
      have hj := (H.out.waitS j s hs).1
      have HM := hid (hmid.new H.out ho2 (fun b hb => by have : b = w.heap.size := hb; omega))
      have HI := hid hit2; have HS := hid hs; have HL := hid hl; have HLT := hid hlt
      clear hdn hit hmid hl hv hit2 ho2 hsz2 hs hlt c1
      go_wp2_with (go_at_call 98; refine (dput_c H.out HM.out j hj s HS.out).mono ?_; rintro e W3 ⟨rfl, hm3, ho3⟩)
      have hb : k.wm ≠ k.lb ∧ k.wm ≠ k.rm := ⟨H.out.ne (x := .wm) (y := .lb) rfl rfl (by simp), H.out.ne (x := .wm) (y := .rm) rfl rfl (by simp)⟩
      have h1 := H.out.lt (b := k.lb) ⟨.lb, rfl⟩
      have h2 := H.out.lt (b := k.rm) ⟨.rm, rfl⟩
      go_roundg g2
      case measure => exact HLT.out
      case rel =>
        refine ⟨_, _, HI.out.same (ho3.block _ HI.out.map.lt (by omega)) (ho3.block _ HI.out.rlt (by omega)), hm3, fun i hi => ?_⟩
        have := HD.out i hi
        have e : ((i : Int) == (j : Int)) = (i == j) := nat_beq i j
        simp [this, e]
end Go.Proofs.YtkmgdglmlmodmaaDoor
