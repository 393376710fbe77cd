/- frame.Put: the bytes of a frame. -/
import Derived.Test.YtkmgdglmlmodmaaDoorFrameB
import Derived.Test.YtkmgdglmlmodmaaDoorRunLaws
namespace Go.Proofs.YtkmgdglmlmodmaaDoor
set_option linter.unusedVariables false
open Go.RowKit Go

theorem aggFrame : AggType Tryd.prog 31 112 := ⟨by kernel_rfl, by kernel_rfl⟩
def z128 : List Nat := List.replicate 128 0
theorem z128_len : z128.length = 128 := by simp [z128]
/-- What Put hands back. -/
def FPutPost (f : Frm) (w : World) (e : Ending) (w' : World) : Prop :=
  (f.right = false ∧ e = .returned (.slice none 0 0) ∧ Ext w w') ∨
  (f.right = true ∧ ∃ b, e = .returned (.slice (some ⟨b, 0, none⟩) 128 128) ∧ w.heap.size ≤ b ∧ Blk w' b f.bytes ∧ Ext w w')
theorem agg_cells {w : World} {g : Nat} {A : Array Value} {t : TypeId} {fr : Nat × Nat} (h : w.heap[g]? = some (.cells A t fr)) : ∀ j v, A.toList[j]? = some v → w.cell? ((⟨g, 0, none⟩ : Addr).add j) = some v := by
  intro j v hv
  have e : (⟨g, 0, none⟩ : Addr).add j = ⟨g, j, none⟩ := by unfold Addr.add; split <;> simp_all
  rw [e, cell_at h]
  simpa using hv

set_option maxRecDepth 100000 in
set_option maxHeartbeats 2000000 in
theorem fput_no (f : Frm) (w : World) (h : f.Ok) (hr : f.right = false) : Calls Tryd.prog 21 #[.agg (Frm.A f)] w fun e w' => e = .returned (.slice none 0 0) ∧ Ext w w' := by
  have hs := Frm.A_size f h
  go_enter Tryd.func21, Tryd.ntmps21
  go_wp2_with (first
    | (refine wpList_load_agg rfl 31 _ rfl ⟨w.heap.size, 0, none⟩ rfl (Frm.A f) ?_ ?_ ?_; (rw [hs]; exact aggFrame); exact agg_cells block_alloc)
    | (go_at_call 63; refine (fright_c f _).mono ?_; rintro e w' ⟨rfl, hx⟩; rw [hr]))
  go_ret
  exact ⟨rfl, Ext.trans ((Ext.refl w).alloc _) hx⟩

/-- The bytes' first ones. -/
def L4 (k s : Nat) : List Nat := (((z128.set 0 83).set 1 84).set 2 k).set 3 s
theorem L4_len (k s : Nat) : (L4 k s).length = 128 := by simp [L4, z128_len]
/-- Put's world under way: the bytes' block, the frame's own, all else as it was. -/
structure PutAt (w0 : World) (f : Frm) (b : Nat) (L : List Nat) (W : World) : Prop where
  blk : Blk W b L
  len : L.length = 128
  own : W.heap[w0.heap.size]? = some (.cells (Frm.A f) 31 (0, 0))
  ext : Ext w0 W
  new : w0.heap.size < b
theorem PutAt.drewN {w0 W : World} {f : Frm} {b : Nat} {L : List Nat} (h : PutAt w0 f b L W) (n : Nat) : PutAt w0 f b L (W.drewN n) := ⟨h.blk, h.len, h.own, Only.drewN h.ext n, h.new⟩
theorem PutAt.drew {w0 W : World} {f : Frm} {b : Nat} {L : List Nat} (h : PutAt w0 f b L W) : PutAt w0 f b L W.drew := ⟨h.blk, h.len, h.own, Only.drew h.ext, h.new⟩
theorem PutAt.more {w0 W W' : World} {f : Frm} {b : Nat} {L : List Nat} (h : PutAt w0 f b L W) (e : Ext W W') : PutAt w0 f b L W' := ⟨e.at h.blk, h.len, e.at h.own, Ext.trans h.ext e, h.new⟩
theorem PutAt.step {w0 W W' : World} {f : Frm} {b off : Nat} {L m : List Nat} (h : PutAt w0 f b L W) (hB : Blk W' b (spl L off m)) (hm : off + m.length ≤ 128) (e : Only (fun k => k = b) W W') : PutAt w0 f b (spl L off m) W' :=
  ⟨hB, by rw [spl_len _ _ _ (by rw [h.len]; exact hm), h.len], Only.at e h.own (by have := h.new; omega), Ext.then h.ext e (by have := h.new; intro i hi; omega), h.new⟩
theorem PutAt.cell {w0 W : World} {f : Frm} {b : Nat} {L : List Nat} (h : PutAt w0 f b L W) {i : Nat} {v : Value} (hv : (Frm.A f)[i]? = some v) : W.cell? ⟨w0.heap.size, i, none⟩ = some v := (cell_at h.own).trans hv
theorem PutAt.data {w0 W : World} {f : Frm} {b : Nat} {L : List Nat} (h : PutAt w0 f b L W) (ok : f.Ok) : BytesAt W (some ⟨w0.heap.size, 4, none⟩) 108 f.data :=
  ⟨ok.len, by omega, ok.byte, .inr ⟨_, 4, rfl, fun i hi => h.cell (Frm.A4 f i (by rw [ok.len]; exact hi))⟩⟩
theorem spl_app (A B m : List Nat) (off : Nat) (h : A.length = off) : spl (A ++ B) off m = A ++ (m ++ B.drop m.length) := by
  subst h
  unfold spl
  rw [List.take_append_of_le_length (Nat.le_refl _), List.take_of_length_le (Nat.le_refl _), List.drop_append, List.drop_of_length_le (by omega), List.nil_append, Nat.add_sub_cancel_left]
theorem body_build3 (f : Frm) (h : f.Ok) {k1 s1 t1 g1 : Nat} (hk : f.kind = k1) (hs : f.slot = s1) (ht : f.stripe = t1) (hg : f.gen = g1) :
    spl (spl (spl (L4 k1 s1) 4 (Frm.low 4 t1)) 8 (Frm.low 8 g1)) 16 f.data = f.body ++ List.replicate 4 0 := by
  have e4 : (Frm.low 4 t1).length = 4 := Frm.low_len _ _
  have e8 : (Frm.low 8 g1).length = 8 := Frm.low_len _ _
  have e0 : L4 k1 s1 = [83, 84, k1, s1] ++ List.replicate 124 0 := by
    unfold L4 z128
    rw [show (128 : Nat) = 124 + 1 + 1 + 1 + 1 from rfl, List.replicate_succ, List.replicate_succ, List.replicate_succ, List.replicate_succ]; rfl
  have hd := h.len
  unfold Frm.body
  rw [hk, hs, ht, hg, e0, spl_app [83, 84, k1, s1] _ _ 4 rfl, e4, List.drop_replicate, ← List.append_assoc, spl_app ([83, 84, k1, s1] ++ Frm.low 4 t1) _ _ 8 (by rw [List.length_append, e4]; rfl), e8, List.drop_replicate, ← List.append_assoc,
    spl_app ([83, 84, k1, s1] ++ Frm.low 4 t1 ++ Frm.low 8 g1) _ _ 16 (by rw [List.length_append, List.length_append, e4, e8]; rfl), hd, List.drop_replicate]
  simp only [Int.toNat_natCast, List.append_assoc]
theorem body_build (f : Frm) (h : f.Ok) {k1 s1 t1 g1 : Nat} (hk : f.kind = k1) (hs : f.slot = s1) (ht : f.stripe = t1) (hg : f.gen = g1) (X : Nat) :
    spl (spl (spl (spl (L4 k1 s1) 4 (Frm.low 4 t1)) 8 (Frm.low 8 g1)) 16 f.data) 124 (Frm.low 4 X) = f.body ++ Frm.low 4 X := by
  rw [body_build3 f h hk hs ht hg]
  have e := Frm.body_len f h
  unfold spl
  rw [List.take_append_of_le_length (by omega), List.take_of_length_le (by omega), Frm.low_len, List.drop_of_length_le (by simp [e]), List.append_nil]
theorem body_take (f : Frm) (h : f.Ok) {k1 s1 t1 g1 : Nat} (hk : f.kind = k1) (hs : f.slot = s1) (ht : f.stripe = t1) (hg : f.gen = g1) :
    (spl (spl (spl (L4 k1 s1) 4 (Frm.low 4 t1)) 8 (Frm.low 8 g1)) 16 f.data).take 124 = f.body := by
  rw [body_build3 f h hk hs ht hg]
  have e := Frm.body_len f h
  rw [List.take_append_of_le_length (by omega), List.take_of_length_le (by omega)]
set_option maxRecDepth 100000 in
set_option maxHeartbeats 2000000 in
theorem fput_yes (f : Frm) (w : World) (h : f.Ok) (hr : f.right = true) : Calls Tryd.prog 21 #[.agg (Frm.A f)] w fun e w' => ∃ b, e = .returned (.slice (some ⟨b, 0, none⟩) 128 128) ∧ w.heap.size ≤ b ∧ Blk w' b f.bytes ∧ Ext w w' := by
  have hs := Frm.A_size f h
  have hsp := Frm.right_spec hr
  have hA := hid hs
  have HR := hid hr; have HOK := hid h
  have hk := Int.toNat_of_nonneg (show 0 ≤ f.kind by omega)
  have hl := Int.toNat_of_nonneg (show 0 ≤ f.slot by omega)
  obtain ⟨k1, hk1⟩ : ∃ k1 : Nat, f.kind = k1 := ⟨f.kind.toNat, by omega⟩
  obtain ⟨s1, hs1⟩ : ∃ s1 : Nat, f.slot = s1 := ⟨f.slot.toNat, by omega⟩
  obtain ⟨t1, ht1⟩ : ∃ t1 : Nat, f.stripe = t1 := ⟨f.stripe.toNat, by omega⟩
  obtain ⟨g1, hg1⟩ : ∃ g1 : Nat, f.gen = g1 := ⟨f.gen.toNat, by omega⟩
  have hb1 : k1 < 256 ∧ s1 < 256 ∧ t1 ≤ 63 ∧ g1 ≤ 1152921504606846976 := by omega
  have a0 := Frm.A0 f
  have a1 := Frm.A1 f
  have a2 := Frm.A2 f
  have a3 := Frm.A3 f
  rw [hk1] at a0
  rw [hs1] at a1
  rw [ht1] at a2
  rw [hg1] at a3
  have HK := hid hk1; have HS := hid hs1; have HT := hid ht1; have HG := hid hg1
  have A0' := hid a0; have A1' := hid a1; have A2' := hid a2; have A3' := hid a3
  clear hk hl hk1 hs1 ht1 hg1 hsp hs h a2 a3
  go_enter Tryd.func21, Tryd.ntmps21
  have hmk : ∀ w, Sem.run Tryd.prog (Instr.makeSlice 27 (.int .i64 128) (.int .i64 128)) w = .ok (.slice (some ⟨w.heap.size, 0, none⟩) 128 128) (w.alloc (.cells (bA z128) 5)) := fun w => make_bytes 128 (by omega) (by omega) w
  have z0 := bA_get z128 0 (by rw [z128_len]; omega)
  have z1 := bA_get z128 1 (by rw [z128_len]; omega)
  have z2 := bA_get z128 2 (by rw [z128_len]; omega)
  have z3 := bA_get z128 3 (by rw [z128_len]; omega)
  go_wp2_with (refine wpList_load_agg rfl 31 _ rfl ⟨w.heap.size, 0, none⟩ rfl (Frm.A f) ?_ ?_ ?_; (rw [hA.out]; exact aggFrame); exact agg_cells block_alloc)
  refine (fright_c f _).mono ?_
  rintro e w1 ⟨rfl, hx⟩
  rw [hr]
  have hA1 : w1.heap[w.heap.size]? = some (.cells (Frm.A f) 31 (0, 0)) := hx.at block_alloc
  have X1 : Ext w w1 := Ext.trans ((Ext.refl w).alloc _) hx
  have hsz1 : w.heap.size < w1.heap.size := lt_of_block hA1
  have c0 : w1.cell? ⟨w.heap.size, 0, none⟩ = some (.int .i64 k1) := (cell_at hA1).trans A0'.out
  have c1 : w1.cell? ⟨w.heap.size, 1, none⟩ = some (.int .i64 s1) := (cell_at hA1).trans A1'.out
  have HA1 := hid hA1; have HX1 := hid X1
  clear hx hA1 X1 a0 a1
  go_wp2
  have e4 : (((((bA z128).setIfInBounds 0 (.int .u8 83)).setIfInBounds 1 (.int .u8 84)).setIfInBounds 2 (.int .u8 (k1 : Int))).setIfInBounds 3 (.int .u8 (s1 : Int))) = bA (L4 k1 s1) := by
    rw [show (83 : Int) = ((83 : Nat) : Int) from rfl, show (84 : Int) = ((84 : Nat) : Int) from rfl, bA_set, bA_set, bA_set, bA_set]; rfl
  rw [e4]
  clear e4 z0 z1 z2 z3 c0 c1 hmk
  have P0 : PutAt w f w1.heap.size (L4 k1 s1) (w1.alloc (.cells (bA (L4 k1 s1)) 5)) := ⟨block_alloc, L4_len _ _, ((Ext.refl w1).alloc _).at HA1.out (fun x => x), Ext.trans HX1.out ((Ext.refl w1).alloc _), hsz1⟩
  generalize w1.alloc (.cells (bA (L4 k1 s1)) 5) = W at *
  generalize hbb : w1.heap.size = b at *
  have c2 := P0.cell A2'.out
  have HP := hid P0
  clear P0
  refine wp_region_quiet_tail 5 (by kernel_rfl) (by kernel_rfl) ?_
  simp only [List.take_succ_cons, List.take_zero, List.drop_succ_cons, List.drop_zero]
  repeat (go_big_quiet_step (fail))
  refine wpQuiet_nil ?_
  intro _ hw'
  obtain ⟨nq, hw''⟩ := hw'
  subst hw''
  go_wp2_with fail
  have HP1 := hid (HP.out.drewN nq)
  clear HP c2
  generalize W.drewN nq = W1 at *
  refine (low_c b 4 4 124 t1 _ W1 HP1.out.blk (by rw [HP1.out.len]; omega) (by omega) (by rw [HP1.out.len]; omega) (by omega)).mono ?_
  rintro e W2 ⟨rfl, hB2, ho2⟩
  have P2 := HP1.out.step hB2 (by rw [Frm.low_len]; omega) ho2
  have c3 := P2.cell A3'.out
  have HP2 := hid P2
  clear P2 hB2 ho2 HP1 W W1
  go_wp2
  refine wp_region_quiet_tail 5 (by kernel_rfl) (by kernel_rfl) ?_
  simp only [List.take_succ_cons, List.take_zero, List.drop_succ_cons, List.drop_zero]
  repeat (go_big_quiet_step (fail))
  refine wpQuiet_nil ?_
  intro _ hw'
  obtain ⟨nq, hw''⟩ := hw'
  subst hw''
  go_wp2_with fail
  have HP3 := hid (HP2.out.drewN nq)
  clear HP2 c3
  generalize W2.drewN nq = W3 at *
  refine (low_c b 8 8 120 g1 _ W3 HP3.out.blk (by rw [HP3.out.len]; omega) (by omega) (by rw [HP3.out.len]; omega) (by omega)).mono ?_
  rintro e W4 ⟨rfl, hB4, ho4⟩
  have P4 := HP3.out.step hB4 (by rw [Frm.low_len]; omega) ho4
  have HP4 := hid P4
  clear P4 hB4 ho4 HP3 W2 W3
  go_wp2
  refine wp_region_mix [([0,1,2,3],4)] [] (by kernel_rfl) (by kernel_rfl) (fun _ _ d _ _ h => by cases d <;> exact h) ?_
  simp only [opsAt, List.map_cons, List.map_nil, Array.getD_eq_getD_getElem?, List.getElem?_toArray, List.getElem?_cons_succ, List.getElem?_cons_zero, Option.getD_some]
  have HP5 := hid HP4.out.drew
  clear HP4
  generalize W4.drew = W5 at *
  have hcp := copy_blk W5 b 16 108 112 _ f.data (some ⟨w.heap.size, 4, none⟩) 108 HP5.out.blk (HP5.out.data HOK.out) (by rw [HP5.out.len]; omega)
  rw [wpMix]
  repeat (refine wpPure_step (fun K hK => ?_); go_simp; refine hK _ ?_; clear hK K)
  refine wpPure_nil ?_
  refine wpMix_loud fun K hK => ?_
  go_wp2
  have HP6 := hid (HP5.out.step (off := 16) (m := f.data) (HP5.out.blk.setRow _) (by rw [HOK.out.len]; omega) (only_setRow W5 b _))
  clear hcp HP5
  generalize W5.setRow b (bA (spl (spl (spl (L4 k1 s1) 4 (Frm.low 4 t1)) 8 (Frm.low 8 g1)) 16 f.data)) = W6 at *
  rw [wpMix]
  refine wpPure_nil ?_
  go_wp2
  refine wp_region_mix [([0,1,3,4],2),([],5),([6],7)] [] (by kernel_rfl) (by kernel_rfl) (fun _ _ d _ _ h => by cases d <;> exact h) ?_
  simp only [opsAt, List.map_cons, List.map_nil, Array.getD_eq_getD_getElem?, List.getElem?_toArray, List.getElem?_cons_succ, List.getElem?_cons_zero, Option.getD_some]
  have HP7 := hid HP6.out.drew
  clear HP6
  generalize W6.drew = W7 at *
  rw [wpMix]
  repeat (refine wpPure_step (fun K hK => ?_); go_simp; refine hK _ ?_; clear hK K)
  refine wpPure_nil ?_
  refine wpMix_loud fun K hK => ?_
  go_wp2_with fail
  refine (crcMake_c W7).mono ?_
  rintro e W8 ⟨tb, rfl, hle, htb, hx8⟩
  have HP8 := hid (HP7.out.more hx8)
  have HTB := hid htb
  clear HP7 hle htb hx8 W7
  go_wp2
  rw [wpMix]
  refine wpPure_nil ?_
  refine wpMix_loud fun K hK => ?_
  go_wp2_with fail
  obtain ⟨B3, hB3⟩ : ∃ B3, spl (spl (spl (L4 k1 s1) 4 (Frm.low 4 t1)) 8 (Frm.low 8 g1)) 16 f.data = B3 := ⟨_, rfl⟩
  have HB3 := hid hB3
  rw [hB3] at HP8
  clear hB3
  have HBB : Hid (∀ X, spl B3 124 (Frm.low 4 X) = f.body ++ Frm.low 4 X) := hid (by
    intro X
    rw [← HB3.out, body_build f HOK.out HK.out HS.out HT.out HG.out X])
  have HB4 : Hid (B3.take 124 = f.body) := hid (by
    rw [← HB3.out]; exact body_take f HOK.out HK.out HS.out HT.out HG.out)
  have hby : BytesAt W8 (some ⟨b, 0, none⟩) 124 f.body := ⟨Frm.body_len f HOK.out, by omega, Frm.body_byte f HOK.out HR.out, .inr ⟨b, 0, rfl, fun i hi => by
    rw [Nat.zero_add, HP8.out.blk.cell i (by rw [HP8.out.len]; omega), ← HB4.out, nth_take, if_pos hi]⟩⟩
  refine (crcSum_c tb 124 128 _ f.body W8 HTB.out hby).mono ?_
  rintro e W9 ⟨rfl, rfl⟩
  have hsum := Crc.sum_bd f.body
  clear hby
  go_wp2
  rw [wpMix]
  repeat (refine wpPure_step (fun K hK => ?_); go_simp; refine hK _ ?_; clear hK K)
  refine wpPure_nil ?_
  refine wpMix_loud fun K hK => ?_
  go_wp2_with fail
  refine (low_c b 124 4 4 (Crc.sum f.body) _ W8 HP8.out.blk (by rw [HP8.out.len]; omega) (by omega) (by rw [HP8.out.len]; omega) (by omega)).mono ?_
  rintro e W10 ⟨rfl, hB10, ho10⟩
  have HP10 := hid (HP8.out.step hB10 (by rw [Frm.low_len]; omega) ho10)
  clear hB10 ho10 HP8 HTB
  go_wp2
  rw [wpMix]
  refine wpPure_nil ?_
  go_wp2
  go_ret
  refine ⟨b, rfl, Nat.le_of_lt HP10.out.new, ?_, HP10.out.ext⟩
  have := HP10.out.blk
  rw [HBB.out] at this
  exact this
theorem fput_c (f : Frm) (w : World) (h : f.Ok) : Calls Tryd.prog 21 #[.agg (Frm.A f)] w (FPutPost f w) := by
  rcases hr : f.right with _ | _
  · exact (fput_no f w h hr).mono fun e w' he => .inl ⟨hr, he⟩
  · exact (fput_yes f w h hr).mono fun e w' he => .inr ⟨hr, he⟩
end Go.Proofs.YtkmgdglmlmodmaaDoor
