/- frame.Get: the frame of bytes. -/
import Derived.Test.YtkmgdglmlmodmaaDoorFramePut
import Derived.Test.YtkmgdglmlmodmaaDoorBEqual
import Derived.Test.YtkmgdglmlmodmaaDoorHeld
import Derived.Laws.ResultCell
namespace Go.Proofs.YtkmgdglmlmodmaaDoor
set_option linter.unusedVariables false
open Go.RowKit Go

theorem zero_frame (w : World) : Sem.run Tryd.prog (zeroValue 31) w = .ok (.agg (Frm.A Frm.zero)) w := by kernel_rfl
theorem built_zero : Tryd.prog.built 31 [] = some (Frm.A Frm.zero) := by kernel_rfl
theorem built_four (k s t g : Int) : Tryd.prog.built 31 [(0, .int .i64 k), (1, .int .i64 s), (2, .int .i64 t), (3, .int .i64 g)] = some (Frm.A ⟨k, s, t, g, List.replicate 108 0⟩) := by kernel_rfl
theorem zero_ok : Frm.zero.Ok := ⟨by simp [Frm.zero], by simp [Frm.zero]⟩
/-- Bytes copied into a frame's data. -/
theorem copy_frame (W : World) (g : Nat) (f : Frm) (hf : f.Ok) (hg : W.heap[g]? = some (.cells (Frm.A f) 31 (0, 0))) (b off : Nat) (l : List Nat) (h : BytesAt W (some ⟨b, off, none⟩) 108 l) (c c' : Nat) :
    Sem.run Tryd.prog (Builtin.copy_ #[27, 27] 3 #[.slice (some ⟨g, 4, none⟩) 108 c, .slice (some ⟨b, off, none⟩) 108 c']) W = .ok (.int .i64 (108 : Nat)) (W.setRow g (Frm.A { f with data := l })) := by
  obtain ⟨i0, hi, hz0, hz1, hz2⟩ := info_parts info8
  have hl := h.len
  have hr := run_copy_row (P := Tryd.prog) W 27 27 3 5 g 4 108 c ⟨b, off, none⟩ 108 c' (Frm.A f) 31 (l.map bv)
    Tryd.underlying27 (by rw [hi]; exact congrArg some hz1) hg (by rw [List.length_map, hl]; rfl)
    (by
      intro j v hv
      rw [List.getElem?_map] at hv
      have hj : j < l.length := by
        rcases Nat.lt_or_ge j l.length with h' | h'
        · exact h'
        · rw [List.getElem?_eq_none h'] at hv; cases hv
      rw [List.getElem?_eq_getElem hj] at hv
      have e : (⟨b, off, none⟩ : Addr).add j = ⟨b, off + j, none⟩ := by unfold Addr.add; split <;> simp_all
      rw [e, h.get j (by omega), nth_eq hj]
      exact hv)
    (by rw [Frm.A_size f hf, List.length_map]; omega) (by intro v hv; obtain ⟨x, _, rfl⟩ := List.mem_map.1 hv; rfl)
  rw [hr, List.length_map, hl]
  refine congrArg (fun X => Result.ok (Value.int .i64 (108 : Nat)) (W.setRow g X)) ?_
  have hd := hf.len
  rw [Frm.A_def, Frm.A_def]
  unfold Frm.cl
  apply Array.ext'
  simp [hd, hl]
theorem fput_b (f : Frm) (w : World) (h : f.Ok) : Calls Tryd.prog 21 #[.agg (Frm.A f)] w fun e w' => ∃ a n, e = .returned (.slice a n n) ∧ BytesAt w' a n f.put ∧ (0 < n ∨ a = none) ∧ Ext w w' := by
  refine (fput_c f w h).mono ?_
  rintro e w' (⟨hr, rfl, hx⟩ | ⟨hr, b, rfl, hle, hb, hx⟩)
  · exact ⟨none, 0, rfl, by unfold Frm.put; rw [if_neg (by rw [hr]; exact Bool.false_ne_true)]; exact ⟨rfl, by omega, by simp, .inl rfl⟩, .inr rfl, hx⟩
  · exact ⟨_, 128, rfl, by unfold Frm.put; rw [if_pos hr]; exact hb.bytes (Frm.bytes_byte f h hr) (Frm.bytes_len f h) (by omega), .inl (by omega), hx⟩
/-- Get's world under way: its own frame, the result's, all else as it was. -/
structure GetAt (w0 : World) (g : Nat) (f : Frm) (W : World) : Prop where
  own : W.heap[g]? = some (.cells (Frm.A f) 31 (0, 0))
  res : W.heap[w0.heap.size]? = some (.cells (Frm.A Frm.zero) 31 (0, 0))
  ext : Ext w0 W
  new : w0.heap.size < g
theorem GetAt.drew {w0 W : World} {g : Nat} {f : Frm} (h : GetAt w0 g f W) : GetAt w0 g f W.drew := ⟨h.own, h.res, Only.drew h.ext, h.new⟩
theorem GetAt.more {w0 W W' : World} {g : Nat} {f : Frm} (h : GetAt w0 g f W) (e : Ext W W') : GetAt w0 g f W' := ⟨e.at h.own, e.at h.res, Ext.trans h.ext e, h.new⟩
theorem GetAt.setRow {w0 W : World} {g : Nat} {f : Frm} (h : GetAt w0 g f W) (f' : Frm) : GetAt w0 g f' (W.setRow g (Frm.A f')) :=
  ⟨setRow_heap W g _ _ _ _ h.own, (only_setRow W g (Frm.A f')).at h.res (by have := h.new; omega), Ext.then h.ext (only_setRow W g (Frm.A f')) (fun i hi => by have := h.new; omega), h.new⟩
theorem BytesAt.sub {W : World} {b off n : Nat} {l : List Nat} (h : BytesAt W (some ⟨b, off, none⟩) n l) (i m : Nat) (hm : i + m ≤ n) : BytesAt W (some ⟨b, off + i, none⟩) m ((l.drop i).take m) := by
  have hl := h.len
  have hs := h.small
  refine ⟨by simp; omega, by omega, fun x hx => h.byte x (List.mem_of_mem_drop (List.mem_of_mem_take hx)), .inr ⟨b, off + i, rfl, fun j hj => ?_⟩⟩
  rw [nth_take, if_pos hj, nth_drop, Nat.add_assoc]
  exact h.get (i + j) (by omega)
/-- What Get hands back. -/
def got (l : List Nat) : Value := .tuple #[.agg (Frm.A ((Frm.get l).getD Frm.zero)), .bool (Frm.get l).isSome]

set_option maxRecDepth 100000 in
set_option maxHeartbeats 2000000 in
theorem fget_short (a : Option Addr) (n c : Nat) (l : List Nat) (w : World) (h : BytesAt w a n l) (hn : n ≠ 128) :
    Calls Tryd.prog 73 #[.slice a n c] w fun e w' => e = .returned (got l) ∧ Ext w w' := by
  have hz := zero_frame
  have hs := Frm.A_size _ zero_ok
  have hS := hid hs
  have hG : Hid (got l = .tuple #[.agg (Frm.A Frm.zero), .bool false]) := hid (by
    have : Frm.get l = none := by unfold Frm.get; rw [if_neg (by rw [h.len]; omega)]
    unfold got; rw [this]; rfl)
  rw [hG.out]
  have hne : ((n : Int) != 128) = true := by simp; omega
  clear hs h
  go_enter Tryd.func73, Tryd.ntmps73
  go_wp2_with (first
    | (refine wpList_build rfl 31 _ rfl (by simp [built_zero]) ?_; simp only [Array.map_empty, built_zero, Option.getD_some])
    | (refine wpList_store_whole rfl 31 _ _ rfl w.heap.size rfl (Frm.A Frm.zero) _ rfl 31 ?_ block_alloc rfl ?_ ?_; (rw [hS.out]; exact aggFrame); exact Frm.A_one _))
  rw [setRow_alloc]
  refine bodyPost_ret (run_results_agg Tryd.results73 rfl (by rw [hS.out]; exact aggFrame) block_alloc) rfl ?_
  exact ⟨rfl, (Ext.refl w).alloc _⟩

set_option maxRecDepth 100000 in
set_option maxHeartbeats 600000 in
theorem fget_128 (b off c : Nat) (l : List Nat) (w : World) (h : BytesAt w (some ⟨b, off, none⟩) 128 l) (hcap : 128 ≤ c) :
    Calls Tryd.prog 73 #[.slice (some ⟨b, off, none⟩) 128 c] w fun e w' => e = .returned (got l) ∧ Ext w w' := by
  have hz := zero_frame
  have HB := hid h
  clear h
  go_enter Tryd.func73, Tryd.ntmps73
  go_wp2
  refine wp_region_held_tail 16 (.one [0,1,2,3,4,5,6,7,8,9,10,11,12,13,14] 15 (.fin [])) (by kernel_rfl) (by kernel_rfl) (fun _ _ d _ _ h => by cases d <;> exact h) ?_
  have hX : Ext w (w.alloc (.cells (Frm.A Frm.zero) 31)).drew := ((Ext.refl w).alloc _).drew
  have hR : (w.alloc (.cells (Frm.A Frm.zero) 31)).drew.heap[w.heap.size]? = some (.cells (Frm.A Frm.zero) 31 (0, 0)) := block_alloc
  generalize (w.alloc (.cells (Frm.A Frm.zero) 31)).drew = W at *
  have xb2 := nth_lt HB.out.byte 2
  have xb3 := nth_lt HB.out.byte 3
  have c2 : ∀ x : ExtW W, x.w.cell? ⟨b, off + 2, none⟩ = some (.int .u8 (nth l 2)) := fun x => ((HB.out.ext hX).ext x.ext).get 2 (by omega)
  have c3 : ∀ x : ExtW W, x.w.cell? ⟨b, off + 3, none⟩ = some (.int .u8 (nth l 3)) := fun x => ((HB.out.ext hX).ext x.ext).get 3 (by omega)
  obtain ⟨x2, hx2⟩ : ∃ x2, nth l 2 = x2 := ⟨_, rfl⟩
  obtain ⟨x3, hx3⟩ : ∃ x3, nth l 3 = x3 := ⟨_, rfl⟩
  rw [hx2] at c2 xb2
  rw [hx3] at c3 xb3
  have hlen := HB.out.len
  have n1 : ∀ (c' : Nat) (x : ExtW W), Calls Tryd.prog 100 #[.slice (some ⟨b, off + 4, none⟩) 4 c'] x.w fun e w'' => e = .returned (.int .i64 (Frm.numI ((l.drop 4).take 4))) ∧ Ext x.w w'' := fun c' x =>
    (number_some b (off + 4) 4 c' ((l.drop 4).take 4) x.w (by simp [hlen]) (by omega) (fun y hy => HB.out.byte y (List.mem_of_mem_drop (List.mem_of_mem_take hy)))
      (fun i hi => by rw [nth_take, if_pos hi, nth_drop, Nat.add_assoc]; exact ((HB.out.ext hX).ext x.ext).get (4 + i) (by omega))).mono fun e w'' he => ⟨he.1, he.2 ▸ Ext.refl _⟩
  have n2 : ∀ (c' : Nat) (x : ExtW W), Calls Tryd.prog 100 #[.slice (some ⟨b, off + 8, none⟩) 8 c'] x.w fun e w'' => e = .returned (.int .i64 (Frm.numI ((l.drop 8).take 8))) ∧ Ext x.w w'' := fun c' x =>
    (number_some b (off + 8) 8 c' ((l.drop 8).take 8) x.w (by simp [hlen]) (by omega) (fun y hy => HB.out.byte y (List.mem_of_mem_drop (List.mem_of_mem_take hy)))
      (fun i hi => by rw [nth_take, if_pos hi, nth_drop, Nat.add_assoc]; exact ((HB.out.ext hX).ext x.ext).get (8 + i) (by omega))).mono fun e w'' he => ⟨he.1, he.2 ▸ Ext.refl _⟩
  have N1 := hid n1; have N2 := hid n2; have HX2 := hid hx2; have HX3 := hid hx3
  clear n1 n2 hx2 hx3
  have hok0 : (⟨x2, x3, Frm.numI ((l.drop 4).take 4), Frm.numI ((l.drop 8).take 8), List.replicate 108 0⟩ : Frm).Ok := ⟨by simp, by simp⟩
  obtain ⟨f0, hf0⟩ : ∃ f0 : Frm, (⟨x2, x3, Frm.numI ((l.drop 4).take 4), Frm.numI ((l.drop 8).take 8), List.replicate 108 0⟩ : Frm) = f0 := ⟨_, rfl⟩
  rw [hf0] at hok0
  have HP : Hid ({ f0 with data := (l.drop 16).take 108 } = Frm.parse l) := hid (by rw [← hf0]; unfold Frm.parse; rw [show l.getD 2 0 = x2 from HX2.out, show l.getD 3 0 = x3 from HX3.out])
  have hsz := Frm.A_size _ hok0
  have hszz := Frm.A_size _ zero_ok
  have HS0 := hid hsz; have HSZ := hid hszz; have HOK := hid hok0
  have HBT : Hid (Tryd.prog.built 31 [(0, .int .i64 x2), (1, .int .i64 x3), (2, .int .i64 (Frm.numI ((l.drop 4).take 4))), (3, .int .i64 (Frm.numI ((l.drop 8).take 8)))] = some (Frm.A f0)) := hid (by rw [built_four, hf0])
  clear hsz hszz hok0 hf0
  have w2 : IntKind.i64.wrap (x2 : Int) = x2 := by rw [IntKind.wrap_i64]; omega
  have w3 : IntKind.i64.wrap (x3 : Int) = x3 := by rw [IntKind.wrap_i64]; omega
  have g1 : (8 : Int) ≤ (c : Int) := by omega
  have g2 : (16 : Int) ≤ (c : Int) := by omega
  have g3 : (124 : Int) ≤ (c : Int) := by omega
  have g4 : ¬ c = 4 := by omega
  have g5 : ¬ c = 8 := by omega
  have g6 : ¬ c = 16 := by omega
  rw [wpE]
  simp only [opsAt, List.map_cons, List.map_nil, Array.getD_eq_getD_getElem?, List.getElem?_toArray, List.getElem?_cons_succ, List.getElem?_cons_zero, Option.getD_some]
  iterate 10 ((refine wpEQ_step (fun K hK => ?_); go_simp; first | (refine hK _ ?_; clear hK K) | (apply Exists.intro; refine ⟨fun x => ?_, hK _ ?_⟩; (fail); clear hK K)))
  (refine wpEQ_step (fun K hK => ?_); go_simp; first | (refine hK _ ?_; clear hK K) | (apply Exists.intro; refine ⟨fun x => ?_, hK _ ?_⟩; (exact N1.out _ x); clear hK K))
  iterate 2 ((refine wpEQ_step (fun K hK => ?_); go_simp; first | (refine hK _ ?_; clear hK K) | (apply Exists.intro; refine ⟨fun x => ?_, hK _ ?_⟩; (fail); clear hK K)))
  (refine wpEQ_step (fun K hK => ?_); go_simp; first | (refine hK _ ?_; clear hK K) | (apply Exists.intro; refine ⟨fun x => ?_, hK _ ?_⟩; (exact N2.out _ x); clear hK K))
  refine wpEQ_build rfl 31 _ rfl (Frm.A f0) (by simp only [List.map_toArray, List.map_cons, List.map_nil, Act.eval]; simp only [Array.getD_eq_getD_getElem?, List.getElem?_toArray, List.getElem?_cons_succ, List.getElem?_cons_zero, Option.getD_some]; exact HBT.out) ?_
  refine wpEQ_nil ?_
  intro W2 hW2
  refine wpE_loud fun K hK => ?_
  go_wp2
  refine hK _ _ ((Ext.refl W2).alloc _) ?_
  clear hK K
  have hF : (W2.alloc (.cells (Frm.A Frm.zero) 31)).heap[W2.heap.size]? = some (.cells (Frm.A Frm.zero) 31 (0, 0)) := block_alloc
  have hX3 : Ext w (W2.alloc (.cells (Frm.A Frm.zero) 31)) := Ext.trans hX ((hW2).alloc _)
  have hR3 := (Ext.trans hW2 ((Ext.refl W2).alloc (.cells (Frm.A Frm.zero) 31))).at hR
  have hne : w.heap.size < W2.heap.size := lt_of_block (hW2.at hR)
  rw [wpE]
  simp only [opsAt, List.map_cons, List.map_nil, Array.getD_eq_getD_getElem?, List.getElem?_toArray, List.getElem?_cons_succ, List.getElem?_cons_zero, Option.getD_some]
  refine wpEQ_nil ?_
  intro W3 hW3
  have hF3 := hW3.at hF
  have hR4 := hW3.at hR3
  have hX4 := Ext.trans hX3 hW3
  generalize W2.heap.size = g at *
  clear hF hX3 hR3 hW3
  simp only [List.drop_succ_cons, List.drop_zero]
  go_wp2_with (refine wpList_store_whole rfl 31 _ _ rfl g rfl (Frm.A f0) _ rfl 31 ?_ hF3 ?_ ?_ ?_; (rw [HS0.out]; exact aggFrame); (rw [HS0.out, HSZ.out]); exact Frm.A_one _)
  have G : GetAt w g f0 (W3.setRow g (Frm.A f0)) := ⟨setRow_heap W3 g _ _ _ _ hF3, (only_setRow W3 g (Frm.A f0)).at hR4 (by omega), Ext.then hX4 (only_setRow W3 g (Frm.A f0)) (fun i hi => by omega), hne⟩
  have HG := hid G.drew
  clear G hF3 hR4 hX4 hR hW2 c2 c3 N1 N2
  go_wp2
  refine wp_region_mix [([0,1,2,3],4)] [] (by kernel_rfl) (by kernel_rfl) (fun _ _ d _ _ h => by cases d <;> exact h) ?_
  simp only [opsAt, List.map_cons, List.map_nil, Array.getD_eq_getD_getElem?, List.getElem?_toArray, List.getElem?_cons_succ, List.getElem?_cons_zero, Option.getD_some]
  generalize (W3.setRow g (Frm.A f0)).drew = W5 at *
  have hB5 : BytesAt W5 (some ⟨b, off + 16, none⟩) 108 ((l.drop 16).take 108) := (HB.out.ext HG.out.ext).sub 16 108 (by omega)
  have hcp := copy_frame W5 g f0 HOK.out HG.out.own b (off + 16) ((l.drop 16).take 108) hB5 108 (c - 16)
  rw [HP.out] at hcp
  rw [wpMix]
  repeat (refine wpPure_step (fun K hK => ?_); go_simp; refine hK _ ?_; clear hK K)
  refine wpPure_nil ?_
  refine wpMix_loud fun K hK => ?_
  go_wp2
  rw [wpMix]
  refine wpPure_nil ?_
  have hokp : (Frm.parse l).Ok := by rw [← HP.out]; exact ⟨hB5.len, hB5.byte⟩
  have HG6 := hid (HG.out.setRow (Frm.parse l))
  have HOKP := hid hokp
  have HS := hid (Frm.A_size _ hokp)
  clear hcp hB5 HG hokp HP HOK HBT HS0
  generalize W5.setRow g (Frm.A (Frm.parse l)) = W6 at *
  go_wp2_with (refine wpList_load_agg rfl 31 _ rfl ⟨g, 0, none⟩ rfl (Frm.A (Frm.parse l)) ?_ ?_ ?_; (rw [HS.out]; exact aggFrame); exact agg_cells HG6.out.own)
  refine (fput_b _ W6 HOKP.out).mono ?_
  rintro e W7 ⟨pa, pn, rfl, hpb, hpn, hx7⟩
  have HG7 := hid (HG6.out.more hx7)
  have HB7 := hid (HB.out.ext HG7.out.ext)
  have HPB := hid hpb; have HPN := hid hpn
  clear hx7 hpb hpn HG6
  go_wp2_with fail
  refine (bytesEqual_c HPB.out HB7.out HPN.out (.inl (by omega)) pn c).mono ?_
  rintro e W8 ⟨rfl, rfl⟩
  rcases hd : decide ((Frm.parse l).put = l) with _ | _
  · have hG : Hid (got l = .tuple #[.agg (Frm.A Frm.zero), .bool false]) := hid (by
      have hne : ¬ (Frm.parse l).put = l := by simpa using hd
      have : Frm.get l = none := by unfold Frm.get; rw [if_neg (fun h => hne h.2)]
      unfold got; rw [this]; rfl)
    have HSZ := hid (Frm.A_size _ zero_ok)
    clear hd
    go_wp2_with (first
      | (refine wpList_build rfl 31 _ rfl (by simp [built_zero]) ?_; simp only [Array.map_empty, built_zero, Option.getD_some])
      | (refine wpList_store_whole rfl 31 _ _ rfl w.heap.size rfl (Frm.A Frm.zero) _ rfl 31 ?_ HG7.out.res rfl ?_ ?_; (rw [HSZ.out]; exact aggFrame); exact Frm.A_one _))
    refine bodyPost_ret (run_results_agg Tryd.results73 rfl (by rw [HSZ.out]; exact aggFrame) (setRow_heap W7 _ _ _ _ _ HG7.out.res)) rfl ?_
    exact ⟨by rw [hG.out]; rfl, Ext.then HG7.out.ext (only_setRow W7 _ _) (fun i hi => by omega)⟩
  · have hG : Hid (got l = .tuple #[.agg (Frm.A (Frm.parse l)), .bool true]) := hid (by
      have he : (Frm.parse l).put = l := by simpa using hd
      have : Frm.get l = some (Frm.parse l) := by unfold Frm.get; rw [if_pos ⟨hlen, he⟩]
      unfold got; rw [this]; rfl)
    have HSZ := hid (Frm.A_size _ zero_ok)
    clear hd
    go_wp2_with (first
      | (refine wpList_load_agg rfl 31 _ rfl ⟨g, 0, none⟩ rfl (Frm.A (Frm.parse l)) ?_ ?_ ?_; (rw [HS.out]; exact aggFrame); exact agg_cells HG7.out.own)
      | (refine wpList_store_whole rfl 31 _ _ rfl w.heap.size rfl (Frm.A (Frm.parse l)) _ rfl 31 ?_ HG7.out.res ?_ ?_ ?_; (rw [HS.out]; exact aggFrame); (rw [HS.out, HSZ.out]); exact Frm.A_one _))
    refine bodyPost_ret (run_results_agg Tryd.results73 rfl (by rw [HS.out]; exact aggFrame) (setRow_heap W7 _ _ _ _ _ HG7.out.res)) rfl ?_
    exact ⟨by rw [hG.out]; rfl, Ext.then HG7.out.ext (only_setRow W7 _ _) (fun i hi => by omega)⟩
theorem fget_c (a : Option Addr) (n c : Nat) (l : List Nat) (w : World) (h : BytesAt w a n l) (hcap : n ≤ c) :
    Calls Tryd.prog 73 #[.slice a n c] w fun e w' => e = .returned (got l) ∧ Ext w w' := by
  by_cases hn : n = 128
  · subst hn
    rcases h.cells with h0 | ⟨b, off, rfl, _⟩
    · omega
    · exact fget_128 b off c l w h hcap
  · exact fget_short a n c l w h hn
end Go.Proofs.YtkmgdglmlmodmaaDoor
