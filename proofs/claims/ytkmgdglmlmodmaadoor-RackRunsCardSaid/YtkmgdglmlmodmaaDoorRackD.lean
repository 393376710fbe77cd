/- A rack's frame got. -/
import Derived.Test.YtkmgdglmlmodmaaDoorRackC
import Derived.Test.YtkmgdglmlmodmaaDoorFrameGet
namespace Go.Proofs.YtkmgdglmlmodmaaDoor
set_option linter.unusedVariables false
open Go Go.RowKit
def gotO (o : Option Frm) : Value := .tuple #[.agg (Frm.A (o.getD Frm.zero)), .bool o.isSome]
def RGetPost (w : World) (R : Rck) (i s kind slot stripe : Int) (e : Ending) (w' : World) : Prop := e = .returned (gotO (R.get i s kind slot stripe)) ∧ Ext w w'
theorem setRow_alloc_ext (w : World) (A : Array Value) (t : TypeId) : Ext w (w.alloc (.cells A t)) := (Ext.refl w).alloc _
theorem row_cell {w : World} {A Z : Array Value} {t : TypeId} {i : Nat} {v : Value} (h : A[i]? = some v) : ((w.alloc (.cells Z t)).setRow w.heap.size A).cell? ⟨w.heap.size, i, none⟩ = some v := by
  rw [setRow_alloc, cell_at block_alloc]; exact h
/-- What is read of a rack are bytes. -/
theorem RackRep.bytes {w : World} {K : RSk} {R : Rck} (h : RackRep w K R) {i s : Int} (hr : R.readE i s = none) : ((R.dsk i).read s.toNat).length = 128 ∧ ∀ x ∈ (R.dsk i).read s.toNat, x < 256 := by
  unfold Rck.readE at hr
  cases hh : R.has i
  · rw [hh] at hr; simp at hr
  · rw [hh, if_neg (by simp)] at hr
    obtain ⟨j, rfl, hj⟩ := h.has_nat hh
    split at hr
    · cases hr
    · simp only [Option.map_eq_none_iff] at hr
      obtain ⟨_, _, t, rfl, ht⟩ := refused_none hr
      have hd := h.dskAt hj
      rw [hd.len] at ht
      rw [Int.toNat_natCast]
      unfold Dsk.read
      rcases hw : (K.ks j).wf t with _ | p
      · rw [hd.waitN t hw]; exact ⟨(hd.sec t ht).1, (hd.sec t ht).2.1⟩
      · obtain ⟨_, l, hl, hs⟩ := hd.waitS t p hw
        rw [hl]; exact ⟨hs.1, hs.2.1⟩
theorem Frm.get_ok {l : List Nat} {f : Frm} (hb : ∀ x ∈ l, x < 256) (h : Frm.get l = some f) : f.Ok := by
  unfold Frm.get at h
  split at h
  · rename_i hc
    cases h
    exact ⟨by simp [Frm.parse, hc.1], fun x hx => hb x (List.mem_of_mem_drop (List.mem_of_mem_take hx))⟩
  · cases h
set_option maxRecDepth 100000 in
set_option maxHeartbeats 1000000 in
theorem rget_err {w : World} {K : RSk} {R : Rck} (h : RackRep w K R) (i s kind slot stripe : Int) (er : Err) (hr : R.readE i s = some er) :
    Calls Tryd.prog 29 #[.pointer (some ⟨K.r, 0, none⟩), .int .i64 i, .int .i64 s, .int .i64 kind, .int .i64 slot, .int .i64 stripe] w (RGetPost w R i s kind slot stripe) := by
  have hz := zero_frame
  have HZ := hid (Frm.A_size _ zero_ok)
  have HR := hid hr
  have HV : Hid (R.get i s kind slot stripe = none) := hid (by unfold Rck.get Rck.read; rw [hr]; rfl)
  have H : Hid (RackRep (w.alloc (.cells (Frm.A Frm.zero) 31)) K R) := hid (h.ext ((Ext.refl w).alloc _))
  clear h hr
  go_enter Tryd.func29, Tryd.ntmps29
  go_wp2_with fail
  refine (rread_c H.out i s).mono ?_
  rintro e w1 (⟨er', h1, rfl, hx⟩ | ⟨h1, p, rfl, hp, hs, hx⟩)
  · obtain rfl : er = er' := by have := HR.out.symm.trans h1; exact Option.some.inj this
    obtain ⟨t2, v2, hq⟩ : ∃ t v, er.val = .iface t v := by cases er <;> exact ⟨_, _, rfl⟩
    rw [hq]
    have hres := hx.at (block_alloc (w := w) (o := .cells (Frm.A Frm.zero) 31))
    have HX := hid (Ext.trans ((Ext.refl w).alloc (.cells (Frm.A Frm.zero) 31)) hx)
    clear hq h1 hx
    go_wp2_with (first
      | (refine wpList_build rfl 31 _ rfl (by simp [built_zero]) ?_; simp only [Array.map_empty, built_zero, Option.getD_some])
      | (refine wpList_store_whole rfl 31 _ _ rfl w.heap.size rfl (Frm.A Frm.zero) _ rfl 31 ?_ hres rfl ?_ ?_; (rw [HZ.out]; exact aggFrame); exact Frm.A_one _))
    refine bodyPost_ret (run_results_agg Tryd.results29 rfl (by rw [HZ.out]; exact aggFrame) (setRow_heap w1 _ _ _ _ _ hres)) rfl ?_
    exact ⟨by rw [HV.out]; rfl, Ext.then HX.out (only_setRow w1 _ _) (fun i hi => by omega)⟩
  · rw [HR.out] at h1; cases h1
set_option maxRecDepth 100000 in
set_option maxHeartbeats 1000000 in
theorem rget_bad {w : World} {K : RSk} {R : Rck} (h : RackRep w K R) (i s kind slot stripe : Int) (hr : R.readE i s = none) (hg : Frm.get ((R.dsk i).read s.toNat) = none) :
    Calls Tryd.prog 29 #[.pointer (some ⟨K.r, 0, none⟩), .int .i64 i, .int .i64 s, .int .i64 kind, .int .i64 slot, .int .i64 stripe] w (RGetPost w R i s kind slot stripe) := by
  have hz := zero_frame
  have HZ := hid (Frm.A_size _ zero_ok)
  have HR := hid hr; have HG := hid hg
  have HV : Hid (R.get i s kind slot stripe = none) := hid (by unfold Rck.get Rck.read; rw [hr, if_pos rfl]; simp only [Option.bind_some, hg])
  have H : Hid (RackRep (w.alloc (.cells (Frm.A Frm.zero) 31)) K R) := hid (h.ext ((Ext.refl w).alloc _))
  clear h hr hg 
  go_enter Tryd.func29, Tryd.ntmps29
  go_wp2_with fail
  refine (rread_c H.out i s).mono ?_
  rintro e w1 (⟨er', h1, rfl, hx⟩ | ⟨h1, p, rfl, hp, hs, hx⟩)
  · rw [HR.out] at h1; cases h1
  · have HX := hid hx; have HS := hid hs
    clear hx hs
    go_wp2_with fail
    refine (fget_c _ 128 p.cap _ w1 HS.out.bytes HS.out.cap).mono ?_
    rintro e w2 ⟨rfl, hx2⟩
    have hG : got ((R.dsk i).read s.toNat) = .tuple #[.agg (Frm.A Frm.zero), .bool false] := by unfold got; rw [HG.out]; rfl
    rw [hG]
    have hres := (Ext.trans HX.out hx2).at (block_alloc (w := w) (o := .cells (Frm.A Frm.zero) 31))
    have HX2 := hid (Ext.trans ((Ext.refl w).alloc (.cells (Frm.A Frm.zero) 31)) (Ext.trans HX.out hx2))
    clear hG hx2
    have k0 : ((w2.alloc (.cells (Frm.A Frm.zero) 31)).setRow w2.heap.size (Frm.A Frm.zero)).cell? ⟨w2.heap.size, 0, none⟩ = some (.int .i64 (Frm.zero).kind) := row_cell (Frm.A0 _)
    have k1 : ((w2.alloc (.cells (Frm.A Frm.zero) 31)).setRow w2.heap.size (Frm.A Frm.zero)).cell? ⟨w2.heap.size, 1, none⟩ = some (.int .i64 (Frm.zero).slot) := row_cell (Frm.A1 _)
    have k2 : ((w2.alloc (.cells (Frm.A Frm.zero) 31)).setRow w2.heap.size (Frm.A Frm.zero)).cell? ⟨w2.heap.size, 2, none⟩ = some (.int .i64 (Frm.zero).stripe) := row_cell (Frm.A2 _)
    have hb2 : (w2.alloc (.cells (Frm.A Frm.zero) 31)).heap[w2.heap.size]? = some (.cells (Frm.A Frm.zero) 31 (0, 0)) := block_alloc
    have hb3 : ((w2.alloc (.cells (Frm.A Frm.zero) 31)).setRow w2.heap.size (Frm.A Frm.zero)).heap[w2.heap.size]? = some (.cells (Frm.A Frm.zero) 31 (0, 0)) := setRow_heap _ _ _ _ _ _ hb2
    have hlt := lt_of_block hres
    have hres3 : ((w2.alloc (.cells (Frm.A Frm.zero) 31)).setRow w2.heap.size (Frm.A Frm.zero)).heap[w.heap.size]? = some (.cells (Frm.A Frm.zero) 31 (0, 0)) :=
      (only_setRow _ w2.heap.size _).at (Ext.at ((Ext.refl w2).alloc _) hres) (by omega)
    have HX3 : Hid (Ext w ((w2.alloc (.cells (Frm.A Frm.zero) 31)).setRow w2.heap.size (Frm.A Frm.zero))) := hid (Ext.then (Ext.trans HX2.out ((Ext.refl w2).alloc _)) (only_setRow _ _ _) (fun i hi => by have := HX2.out.size; omega))
    go_wp2_with (first
      | (refine wpList_build rfl 31 _ rfl (by simp [built_zero]) ?_; simp only [Array.map_empty, built_zero, Option.getD_some])
      | (refine wpList_load_agg rfl 31 _ rfl ⟨w2.heap.size, 0, none⟩ rfl (Frm.A Frm.zero) ?_ ?_ ?_; (rw [HZ.out]; exact aggFrame); exact agg_cells hb3)
      | (refine wpList_store_whole rfl 31 _ _ rfl w2.heap.size rfl (Frm.A Frm.zero) _ rfl 31 ?_ hb2 ?_ ?_ ?_; (rw [HZ.out]; exact aggFrame); rfl; exact Frm.A_one _)
      | (refine wpList_store_whole rfl 31 _ _ rfl w.heap.size rfl (Frm.A Frm.zero) _ rfl 31 ?_ hres3 ?_ ?_ ?_; (rw [HZ.out]; exact aggFrame); rfl; exact Frm.A_one _))
    refine bodyPost_ret (run_results_agg Tryd.results29 rfl (by rw [HZ.out]; exact aggFrame) (setRow_heap _ _ _ _ _ _ hres3)) rfl ?_
    exact ⟨by rw [HV.out]; rfl, Ext.then HX3.out (only_setRow _ _ _) (fun i hi => by omega)⟩
set_option maxRecDepth 100000 in
set_option maxHeartbeats 1000000 in
theorem rget_no1 {w : World} {K : RSk} {R : Rck} (h : RackRep w K R) (i s kind slot stripe : Int) (f : Frm) (hr : R.readE i s = none) (hg : Frm.get ((R.dsk i).read s.toNat) = some f) (h1 : f.kind ≠ kind) :
    Calls Tryd.prog 29 #[.pointer (some ⟨K.r, 0, none⟩), .int .i64 i, .int .i64 s, .int .i64 kind, .int .i64 slot, .int .i64 stripe] w (RGetPost w R i s kind slot stripe) := by
  have hz := zero_frame
  have HZ := hid (Frm.A_size _ zero_ok)
  have HR := hid hr; have HG := hid hg
  have HV : Hid (R.get i s kind slot stripe = none) := hid (by unfold Rck.get Rck.read; rw [hr, if_pos rfl]; simp only [Option.bind_some, hg]; rw [if_neg (fun h => h1 h.1)])
  have H : Hid (RackRep (w.alloc (.cells (Frm.A Frm.zero) 31)) K R) := hid (h.ext ((Ext.refl w).alloc _))
  have hfo : f.Ok := Frm.get_ok (fun x hx => (h.bytes hr).2 x hx) hg
  have HF := hid (Frm.A_size _ hfo)
  have q1 : ((f.kind : Int) != kind) = true := by simpa using h1
  clear h hr hg h1
  go_enter Tryd.func29, Tryd.ntmps29
  go_wp2_with fail
  refine (rread_c H.out i s).mono ?_
  rintro e w1 (⟨er', h1, rfl, hx⟩ | ⟨h1, p, rfl, hp, hs, hx⟩)
  · rw [HR.out] at h1; cases h1
  · have HX := hid hx; have HS := hid hs
    clear hx hs
    go_wp2_with fail
    refine (fget_c _ 128 p.cap _ w1 HS.out.bytes HS.out.cap).mono ?_
    rintro e w2 ⟨rfl, hx2⟩
    have hG : got ((R.dsk i).read s.toNat) = .tuple #[.agg (Frm.A f), .bool true] := by unfold got; rw [HG.out]; rfl
    rw [hG]
    have hres := (Ext.trans HX.out hx2).at (block_alloc (w := w) (o := .cells (Frm.A Frm.zero) 31))
    have HX2 := hid (Ext.trans ((Ext.refl w).alloc (.cells (Frm.A Frm.zero) 31)) (Ext.trans HX.out hx2))
    clear hG hx2
    have k0 : ((w2.alloc (.cells (Frm.A Frm.zero) 31)).setRow w2.heap.size (Frm.A f)).cell? ⟨w2.heap.size, 0, none⟩ = some (.int .i64 (f).kind) := row_cell (Frm.A0 _)
    have k1 : ((w2.alloc (.cells (Frm.A Frm.zero) 31)).setRow w2.heap.size (Frm.A f)).cell? ⟨w2.heap.size, 1, none⟩ = some (.int .i64 (f).slot) := row_cell (Frm.A1 _)
    have k2 : ((w2.alloc (.cells (Frm.A Frm.zero) 31)).setRow w2.heap.size (Frm.A f)).cell? ⟨w2.heap.size, 2, none⟩ = some (.int .i64 (f).stripe) := row_cell (Frm.A2 _)
    have hb2 : (w2.alloc (.cells (Frm.A Frm.zero) 31)).heap[w2.heap.size]? = some (.cells (Frm.A Frm.zero) 31 (0, 0)) := block_alloc
    have hb3 : ((w2.alloc (.cells (Frm.A Frm.zero) 31)).setRow w2.heap.size (Frm.A f)).heap[w2.heap.size]? = some (.cells (Frm.A f) 31 (0, 0)) := setRow_heap _ _ _ _ _ _ hb2
    have hlt := lt_of_block hres
    have hres3 : ((w2.alloc (.cells (Frm.A Frm.zero) 31)).setRow w2.heap.size (Frm.A f)).heap[w.heap.size]? = some (.cells (Frm.A Frm.zero) 31 (0, 0)) :=
      (only_setRow _ w2.heap.size _).at (Ext.at ((Ext.refl w2).alloc _) hres) (by omega)
    have HX3 : Hid (Ext w ((w2.alloc (.cells (Frm.A Frm.zero) 31)).setRow w2.heap.size (Frm.A f))) := hid (Ext.then (Ext.trans HX2.out ((Ext.refl w2).alloc _)) (only_setRow _ _ _) (fun i hi => by have := HX2.out.size; omega))
    go_wp2_with (first
      | (refine wpList_build rfl 31 _ rfl (by simp [built_zero]) ?_; simp only [Array.map_empty, built_zero, Option.getD_some])
      | (refine wpList_load_agg rfl 31 _ rfl ⟨w2.heap.size, 0, none⟩ rfl (Frm.A f) ?_ ?_ ?_; (rw [HF.out]; exact aggFrame); exact agg_cells hb3)
      | (refine wpList_store_whole rfl 31 _ _ rfl w2.heap.size rfl (Frm.A f) _ rfl 31 ?_ hb2 ?_ ?_ ?_; (rw [HF.out]; exact aggFrame); (rw [HF.out, HZ.out]); exact Frm.A_one _)
      | (refine wpList_store_whole rfl 31 _ _ rfl w.heap.size rfl (Frm.A Frm.zero) _ rfl 31 ?_ hres3 ?_ ?_ ?_; (rw [HZ.out]; exact aggFrame); rfl; exact Frm.A_one _))
    refine bodyPost_ret (run_results_agg Tryd.results29 rfl (by rw [HZ.out]; exact aggFrame) (setRow_heap _ _ _ _ _ _ hres3)) rfl ?_
    exact ⟨by rw [HV.out]; rfl, Ext.then HX3.out (only_setRow _ _ _) (fun i hi => by omega)⟩
set_option maxRecDepth 100000 in
set_option maxHeartbeats 1000000 in
theorem rget_no2 {w : World} {K : RSk} {R : Rck} (h : RackRep w K R) (i s kind slot stripe : Int) (f : Frm) (hr : R.readE i s = none) (hg : Frm.get ((R.dsk i).read s.toNat) = some f) (h1 : f.kind = kind) (h2 : f.slot ≠ slot) :
    Calls Tryd.prog 29 #[.pointer (some ⟨K.r, 0, none⟩), .int .i64 i, .int .i64 s, .int .i64 kind, .int .i64 slot, .int .i64 stripe] w (RGetPost w R i s kind slot stripe) := by
  have hz := zero_frame
  have HZ := hid (Frm.A_size _ zero_ok)
  have HR := hid hr; have HG := hid hg
  have HV : Hid (R.get i s kind slot stripe = none) := hid (by unfold Rck.get Rck.read; rw [hr, if_pos rfl]; simp only [Option.bind_some, hg]; rw [if_neg (fun h => h2 h.2.1)])
  have H : Hid (RackRep (w.alloc (.cells (Frm.A Frm.zero) 31)) K R) := hid (h.ext ((Ext.refl w).alloc _))
  have hfo : f.Ok := Frm.get_ok (fun x hx => (h.bytes hr).2 x hx) hg
  have HF := hid (Frm.A_size _ hfo)
  have q1 : ((f.kind : Int) != kind) = false := by simpa using h1
  have q2 : ((f.slot : Int) != slot) = true := by simpa using h2
  clear h hr hg h1 h2
  go_enter Tryd.func29, Tryd.ntmps29
  go_wp2_with fail
  refine (rread_c H.out i s).mono ?_
  rintro e w1 (⟨er', h1, rfl, hx⟩ | ⟨h1, p, rfl, hp, hs, hx⟩)
  · rw [HR.out] at h1; cases h1
  · have HX := hid hx; have HS := hid hs
    clear hx hs
    go_wp2_with fail
    refine (fget_c _ 128 p.cap _ w1 HS.out.bytes HS.out.cap).mono ?_
    rintro e w2 ⟨rfl, hx2⟩
    have hG : got ((R.dsk i).read s.toNat) = .tuple #[.agg (Frm.A f), .bool true] := by unfold got; rw [HG.out]; rfl
    rw [hG]
    have hres := (Ext.trans HX.out hx2).at (block_alloc (w := w) (o := .cells (Frm.A Frm.zero) 31))
    have HX2 := hid (Ext.trans ((Ext.refl w).alloc (.cells (Frm.A Frm.zero) 31)) (Ext.trans HX.out hx2))
    clear hG hx2
    have k0 : ((w2.alloc (.cells (Frm.A Frm.zero) 31)).setRow w2.heap.size (Frm.A f)).cell? ⟨w2.heap.size, 0, none⟩ = some (.int .i64 (f).kind) := row_cell (Frm.A0 _)
    have k1 : ((w2.alloc (.cells (Frm.A Frm.zero) 31)).setRow w2.heap.size (Frm.A f)).cell? ⟨w2.heap.size, 1, none⟩ = some (.int .i64 (f).slot) := row_cell (Frm.A1 _)
    have k2 : ((w2.alloc (.cells (Frm.A Frm.zero) 31)).setRow w2.heap.size (Frm.A f)).cell? ⟨w2.heap.size, 2, none⟩ = some (.int .i64 (f).stripe) := row_cell (Frm.A2 _)
    have hb2 : (w2.alloc (.cells (Frm.A Frm.zero) 31)).heap[w2.heap.size]? = some (.cells (Frm.A Frm.zero) 31 (0, 0)) := block_alloc
    have hb3 : ((w2.alloc (.cells (Frm.A Frm.zero) 31)).setRow w2.heap.size (Frm.A f)).heap[w2.heap.size]? = some (.cells (Frm.A f) 31 (0, 0)) := setRow_heap _ _ _ _ _ _ hb2
    have hlt := lt_of_block hres
    have hres3 : ((w2.alloc (.cells (Frm.A Frm.zero) 31)).setRow w2.heap.size (Frm.A f)).heap[w.heap.size]? = some (.cells (Frm.A Frm.zero) 31 (0, 0)) :=
      (only_setRow _ w2.heap.size _).at (Ext.at ((Ext.refl w2).alloc _) hres) (by omega)
    have HX3 : Hid (Ext w ((w2.alloc (.cells (Frm.A Frm.zero) 31)).setRow w2.heap.size (Frm.A f))) := hid (Ext.then (Ext.trans HX2.out ((Ext.refl w2).alloc _)) (only_setRow _ _ _) (fun i hi => by have := HX2.out.size; omega))
    go_wp2_with (first
      | (refine wpList_build rfl 31 _ rfl (by simp [built_zero]) ?_; simp only [Array.map_empty, built_zero, Option.getD_some])
      | (refine wpList_load_agg rfl 31 _ rfl ⟨w2.heap.size, 0, none⟩ rfl (Frm.A f) ?_ ?_ ?_; (rw [HF.out]; exact aggFrame); exact agg_cells hb3)
      | (refine wpList_store_whole rfl 31 _ _ rfl w2.heap.size rfl (Frm.A f) _ rfl 31 ?_ hb2 ?_ ?_ ?_; (rw [HF.out]; exact aggFrame); (rw [HF.out, HZ.out]); exact Frm.A_one _)
      | (refine wpList_store_whole rfl 31 _ _ rfl w.heap.size rfl (Frm.A Frm.zero) _ rfl 31 ?_ hres3 ?_ ?_ ?_; (rw [HZ.out]; exact aggFrame); rfl; exact Frm.A_one _))
    refine bodyPost_ret (run_results_agg Tryd.results29 rfl (by rw [HZ.out]; exact aggFrame) (setRow_heap _ _ _ _ _ _ hres3)) rfl ?_
    exact ⟨by rw [HV.out]; rfl, Ext.then HX3.out (only_setRow _ _ _) (fun i hi => by omega)⟩
set_option maxRecDepth 100000 in
set_option maxHeartbeats 1000000 in
theorem rget_no3 {w : World} {K : RSk} {R : Rck} (h : RackRep w K R) (i s kind slot stripe : Int) (f : Frm) (hr : R.readE i s = none) (hg : Frm.get ((R.dsk i).read s.toNat) = some f) (h1 : f.kind = kind) (h2 : f.slot = slot) (h3 : 0 ≤ stripe) (h4 : f.stripe ≠ stripe) :
    Calls Tryd.prog 29 #[.pointer (some ⟨K.r, 0, none⟩), .int .i64 i, .int .i64 s, .int .i64 kind, .int .i64 slot, .int .i64 stripe] w (RGetPost w R i s kind slot stripe) := by
  have hz := zero_frame
  have HZ := hid (Frm.A_size _ zero_ok)
  have HR := hid hr; have HG := hid hg
  have HV : Hid (R.get i s kind slot stripe = none) := hid (by unfold Rck.get Rck.read; rw [hr, if_pos rfl]; simp only [Option.bind_some, hg]; rw [if_neg (fun h => h4 (h.2.2 h3))])
  have H : Hid (RackRep (w.alloc (.cells (Frm.A Frm.zero) 31)) K R) := hid (h.ext ((Ext.refl w).alloc _))
  have hfo : f.Ok := Frm.get_ok (fun x hx => (h.bytes hr).2 x hx) hg
  have HF := hid (Frm.A_size _ hfo)
  have q1 : ((f.kind : Int) != kind) = false := by simpa using h1
  have q2 : ((f.slot : Int) != slot) = false := by simpa using h2
  have q3 : ((f.stripe : Int) != stripe) = true := by simpa using h4
  clear h hr hg h1 h2 h4
  go_enter Tryd.func29, Tryd.ntmps29
  go_wp2_with fail
  refine (rread_c H.out i s).mono ?_
  rintro e w1 (⟨er', h1, rfl, hx⟩ | ⟨h1, p, rfl, hp, hs, hx⟩)
  · rw [HR.out] at h1; cases h1
  · have HX := hid hx; have HS := hid hs
    clear hx hs
    go_wp2_with fail
    refine (fget_c _ 128 p.cap _ w1 HS.out.bytes HS.out.cap).mono ?_
    rintro e w2 ⟨rfl, hx2⟩
    have hG : got ((R.dsk i).read s.toNat) = .tuple #[.agg (Frm.A f), .bool true] := by unfold got; rw [HG.out]; rfl
    rw [hG]
    have hres := (Ext.trans HX.out hx2).at (block_alloc (w := w) (o := .cells (Frm.A Frm.zero) 31))
    have HX2 := hid (Ext.trans ((Ext.refl w).alloc (.cells (Frm.A Frm.zero) 31)) (Ext.trans HX.out hx2))
    clear hG hx2
    have k0 : ((w2.alloc (.cells (Frm.A Frm.zero) 31)).setRow w2.heap.size (Frm.A f)).cell? ⟨w2.heap.size, 0, none⟩ = some (.int .i64 (f).kind) := row_cell (Frm.A0 _)
    have k1 : ((w2.alloc (.cells (Frm.A Frm.zero) 31)).setRow w2.heap.size (Frm.A f)).cell? ⟨w2.heap.size, 1, none⟩ = some (.int .i64 (f).slot) := row_cell (Frm.A1 _)
    have k2 : ((w2.alloc (.cells (Frm.A Frm.zero) 31)).setRow w2.heap.size (Frm.A f)).cell? ⟨w2.heap.size, 2, none⟩ = some (.int .i64 (f).stripe) := row_cell (Frm.A2 _)
    have hb2 : (w2.alloc (.cells (Frm.A Frm.zero) 31)).heap[w2.heap.size]? = some (.cells (Frm.A Frm.zero) 31 (0, 0)) := block_alloc
    have hb3 : ((w2.alloc (.cells (Frm.A Frm.zero) 31)).setRow w2.heap.size (Frm.A f)).heap[w2.heap.size]? = some (.cells (Frm.A f) 31 (0, 0)) := setRow_heap _ _ _ _ _ _ hb2
    have hlt := lt_of_block hres
    have hres3 : ((w2.alloc (.cells (Frm.A Frm.zero) 31)).setRow w2.heap.size (Frm.A f)).heap[w.heap.size]? = some (.cells (Frm.A Frm.zero) 31 (0, 0)) :=
      (only_setRow _ w2.heap.size _).at (Ext.at ((Ext.refl w2).alloc _) hres) (by omega)
    have HX3 : Hid (Ext w ((w2.alloc (.cells (Frm.A Frm.zero) 31)).setRow w2.heap.size (Frm.A f))) := hid (Ext.then (Ext.trans HX2.out ((Ext.refl w2).alloc _)) (only_setRow _ _ _) (fun i hi => by have := HX2.out.size; omega))
    go_wp2_with (first
      | (refine wpList_build rfl 31 _ rfl (by simp [built_zero]) ?_; simp only [Array.map_empty, built_zero, Option.getD_some])
      | (refine wpList_load_agg rfl 31 _ rfl ⟨w2.heap.size, 0, none⟩ rfl (Frm.A f) ?_ ?_ ?_; (rw [HF.out]; exact aggFrame); exact agg_cells hb3)
      | (refine wpList_store_whole rfl 31 _ _ rfl w2.heap.size rfl (Frm.A f) _ rfl 31 ?_ hb2 ?_ ?_ ?_; (rw [HF.out]; exact aggFrame); (rw [HF.out, HZ.out]); exact Frm.A_one _)
      | (refine wpList_store_whole rfl 31 _ _ rfl w.heap.size rfl (Frm.A Frm.zero) _ rfl 31 ?_ hres3 ?_ ?_ ?_; (rw [HZ.out]; exact aggFrame); rfl; exact Frm.A_one _))
    refine bodyPost_ret (run_results_agg Tryd.results29 rfl (by rw [HZ.out]; exact aggFrame) (setRow_heap _ _ _ _ _ _ hres3)) rfl ?_
    exact ⟨by rw [HV.out]; rfl, Ext.then HX3.out (only_setRow _ _ _) (fun i hi => by omega)⟩
set_option maxRecDepth 100000 in
set_option maxHeartbeats 1000000 in
theorem rget_yes4 {w : World} {K : RSk} {R : Rck} (h : RackRep w K R) (i s kind slot stripe : Int) (f : Frm) (hr : R.readE i s = none) (hg : Frm.get ((R.dsk i).read s.toNat) = some f) (h1 : f.kind = kind) (h2 : f.slot = slot) (h3 : 0 ≤ stripe) (h4 : f.stripe = stripe) :
    Calls Tryd.prog 29 #[.pointer (some ⟨K.r, 0, none⟩), .int .i64 i, .int .i64 s, .int .i64 kind, .int .i64 slot, .int .i64 stripe] w (RGetPost w R i s kind slot stripe) := by
  have hz := zero_frame
  have HZ := hid (Frm.A_size _ zero_ok)
  have HR := hid hr; have HG := hid hg
  have HV : Hid (R.get i s kind slot stripe = some f) := hid (by unfold Rck.get Rck.read; rw [hr, if_pos rfl]; simp only [Option.bind_some, hg]; rw [if_pos ⟨h1, h2, fun _ => h4⟩])
  have H : Hid (RackRep (w.alloc (.cells (Frm.A Frm.zero) 31)) K R) := hid (h.ext ((Ext.refl w).alloc _))
  have hfo : f.Ok := Frm.get_ok (fun x hx => (h.bytes hr).2 x hx) hg
  have HF := hid (Frm.A_size _ hfo)
  have q1 : ((f.kind : Int) != kind) = false := by simpa using h1
  have q2 : ((f.slot : Int) != slot) = false := by simpa using h2
  have q3 : ((f.stripe : Int) != stripe) = false := by simpa using h4
  clear h hr hg h1 h2 h4
  go_enter Tryd.func29, Tryd.ntmps29
  go_wp2_with fail
  refine (rread_c H.out i s).mono ?_
  rintro e w1 (⟨er', h1, rfl, hx⟩ | ⟨h1, p, rfl, hp, hs, hx⟩)
  · rw [HR.out] at h1; cases h1
  · have HX := hid hx; have HS := hid hs
    clear hx hs
    go_wp2_with fail
    refine (fget_c _ 128 p.cap _ w1 HS.out.bytes HS.out.cap).mono ?_
    rintro e w2 ⟨rfl, hx2⟩
    have hG : got ((R.dsk i).read s.toNat) = .tuple #[.agg (Frm.A f), .bool true] := by unfold got; rw [HG.out]; rfl
    rw [hG]
    have hres := (Ext.trans HX.out hx2).at (block_alloc (w := w) (o := .cells (Frm.A Frm.zero) 31))
    have HX2 := hid (Ext.trans ((Ext.refl w).alloc (.cells (Frm.A Frm.zero) 31)) (Ext.trans HX.out hx2))
    clear hG hx2
    have k0 : ((w2.alloc (.cells (Frm.A Frm.zero) 31)).setRow w2.heap.size (Frm.A f)).cell? ⟨w2.heap.size, 0, none⟩ = some (.int .i64 (f).kind) := row_cell (Frm.A0 _)
    have k1 : ((w2.alloc (.cells (Frm.A Frm.zero) 31)).setRow w2.heap.size (Frm.A f)).cell? ⟨w2.heap.size, 1, none⟩ = some (.int .i64 (f).slot) := row_cell (Frm.A1 _)
    have k2 : ((w2.alloc (.cells (Frm.A Frm.zero) 31)).setRow w2.heap.size (Frm.A f)).cell? ⟨w2.heap.size, 2, none⟩ = some (.int .i64 (f).stripe) := row_cell (Frm.A2 _)
    have hb2 : (w2.alloc (.cells (Frm.A Frm.zero) 31)).heap[w2.heap.size]? = some (.cells (Frm.A Frm.zero) 31 (0, 0)) := block_alloc
    have hb3 : ((w2.alloc (.cells (Frm.A Frm.zero) 31)).setRow w2.heap.size (Frm.A f)).heap[w2.heap.size]? = some (.cells (Frm.A f) 31 (0, 0)) := setRow_heap _ _ _ _ _ _ hb2
    have hlt := lt_of_block hres
    have hres3 : ((w2.alloc (.cells (Frm.A Frm.zero) 31)).setRow w2.heap.size (Frm.A f)).heap[w.heap.size]? = some (.cells (Frm.A Frm.zero) 31 (0, 0)) :=
      (only_setRow _ w2.heap.size _).at (Ext.at ((Ext.refl w2).alloc _) hres) (by omega)
    have HX3 : Hid (Ext w ((w2.alloc (.cells (Frm.A Frm.zero) 31)).setRow w2.heap.size (Frm.A f))) := hid (Ext.then (Ext.trans HX2.out ((Ext.refl w2).alloc _)) (only_setRow _ _ _) (fun i hi => by have := HX2.out.size; omega))
    go_wp2_with (first
      | (refine wpList_build rfl 31 _ rfl (by simp [built_zero]) ?_; simp only [Array.map_empty, built_zero, Option.getD_some])
      | (refine wpList_load_agg rfl 31 _ rfl ⟨w2.heap.size, 0, none⟩ rfl (Frm.A f) ?_ ?_ ?_; (rw [HF.out]; exact aggFrame); exact agg_cells hb3)
      | (refine wpList_store_whole rfl 31 _ _ rfl w2.heap.size rfl (Frm.A f) _ rfl 31 ?_ hb2 ?_ ?_ ?_; (rw [HF.out]; exact aggFrame); (rw [HF.out, HZ.out]); exact Frm.A_one _)
      | (refine wpList_store_whole rfl 31 _ _ rfl w.heap.size rfl (Frm.A f) _ rfl 31 ?_ hres3 ?_ ?_ ?_; (rw [HF.out]; exact aggFrame); (rw [HF.out, HZ.out]); exact Frm.A_one _))
    refine bodyPost_ret (run_results_agg Tryd.results29 rfl (by rw [HF.out]; exact aggFrame) (setRow_heap _ _ _ _ _ _ hres3)) rfl ?_
    exact ⟨by rw [HV.out]; rfl, Ext.then HX3.out (only_setRow _ _ _) (fun i hi => by omega)⟩
set_option maxRecDepth 100000 in
set_option maxHeartbeats 1000000 in
theorem rget_yes3 {w : World} {K : RSk} {R : Rck} (h : RackRep w K R) (i s kind slot stripe : Int) (f : Frm) (hr : R.readE i s = none) (hg : Frm.get ((R.dsk i).read s.toNat) = some f) (h1 : f.kind = kind) (h2 : f.slot = slot) (h3 : ¬ 0 ≤ stripe) :
    Calls Tryd.prog 29 #[.pointer (some ⟨K.r, 0, none⟩), .int .i64 i, .int .i64 s, .int .i64 kind, .int .i64 slot, .int .i64 stripe] w (RGetPost w R i s kind slot stripe) := by
  have hz := zero_frame
  have HZ := hid (Frm.A_size _ zero_ok)
  have HR := hid hr; have HG := hid hg
  have HV : Hid (R.get i s kind slot stripe = some f) := hid (by unfold Rck.get Rck.read; rw [hr, if_pos rfl]; simp only [Option.bind_some, hg]; rw [if_pos ⟨h1, h2, fun h => absurd h h3⟩])
  have H : Hid (RackRep (w.alloc (.cells (Frm.A Frm.zero) 31)) K R) := hid (h.ext ((Ext.refl w).alloc _))
  have hfo : f.Ok := Frm.get_ok (fun x hx => (h.bytes hr).2 x hx) hg
  have HF := hid (Frm.A_size _ hfo)
  have q1 : ((f.kind : Int) != kind) = false := by simpa using h1
  have q2 : ((f.slot : Int) != slot) = false := by simpa using h2
  clear h hr hg h1 h2
  go_enter Tryd.func29, Tryd.ntmps29
  go_wp2_with fail
  refine (rread_c H.out i s).mono ?_
  rintro e w1 (⟨er', h1, rfl, hx⟩ | ⟨h1, p, rfl, hp, hs, hx⟩)
  · rw [HR.out] at h1; cases h1
  · have HX := hid hx; have HS := hid hs
    clear hx hs
    go_wp2_with fail
    refine (fget_c _ 128 p.cap _ w1 HS.out.bytes HS.out.cap).mono ?_
    rintro e w2 ⟨rfl, hx2⟩
    have hG : got ((R.dsk i).read s.toNat) = .tuple #[.agg (Frm.A f), .bool true] := by unfold got; rw [HG.out]; rfl
    rw [hG]
    have hres := (Ext.trans HX.out hx2).at (block_alloc (w := w) (o := .cells (Frm.A Frm.zero) 31))
    have HX2 := hid (Ext.trans ((Ext.refl w).alloc (.cells (Frm.A Frm.zero) 31)) (Ext.trans HX.out hx2))
    clear hG hx2
    have k0 : ((w2.alloc (.cells (Frm.A Frm.zero) 31)).setRow w2.heap.size (Frm.A f)).cell? ⟨w2.heap.size, 0, none⟩ = some (.int .i64 (f).kind) := row_cell (Frm.A0 _)
    have k1 : ((w2.alloc (.cells (Frm.A Frm.zero) 31)).setRow w2.heap.size (Frm.A f)).cell? ⟨w2.heap.size, 1, none⟩ = some (.int .i64 (f).slot) := row_cell (Frm.A1 _)
    have k2 : ((w2.alloc (.cells (Frm.A Frm.zero) 31)).setRow w2.heap.size (Frm.A f)).cell? ⟨w2.heap.size, 2, none⟩ = some (.int .i64 (f).stripe) := row_cell (Frm.A2 _)
    have hb2 : (w2.alloc (.cells (Frm.A Frm.zero) 31)).heap[w2.heap.size]? = some (.cells (Frm.A Frm.zero) 31 (0, 0)) := block_alloc
    have hb3 : ((w2.alloc (.cells (Frm.A Frm.zero) 31)).setRow w2.heap.size (Frm.A f)).heap[w2.heap.size]? = some (.cells (Frm.A f) 31 (0, 0)) := setRow_heap _ _ _ _ _ _ hb2
    have hlt := lt_of_block hres
    have hres3 : ((w2.alloc (.cells (Frm.A Frm.zero) 31)).setRow w2.heap.size (Frm.A f)).heap[w.heap.size]? = some (.cells (Frm.A Frm.zero) 31 (0, 0)) :=
      (only_setRow _ w2.heap.size _).at (Ext.at ((Ext.refl w2).alloc _) hres) (by omega)
    have HX3 : Hid (Ext w ((w2.alloc (.cells (Frm.A Frm.zero) 31)).setRow w2.heap.size (Frm.A f))) := hid (Ext.then (Ext.trans HX2.out ((Ext.refl w2).alloc _)) (only_setRow _ _ _) (fun i hi => by have := HX2.out.size; omega))
    go_wp2_with (first
      | (refine wpList_build rfl 31 _ rfl (by simp [built_zero]) ?_; simp only [Array.map_empty, built_zero, Option.getD_some])
      | (refine wpList_load_agg rfl 31 _ rfl ⟨w2.heap.size, 0, none⟩ rfl (Frm.A f) ?_ ?_ ?_; (rw [HF.out]; exact aggFrame); exact agg_cells hb3)
      | (refine wpList_store_whole rfl 31 _ _ rfl w2.heap.size rfl (Frm.A f) _ rfl 31 ?_ hb2 ?_ ?_ ?_; (rw [HF.out]; exact aggFrame); (rw [HF.out, HZ.out]); exact Frm.A_one _)
      | (refine wpList_store_whole rfl 31 _ _ rfl w.heap.size rfl (Frm.A f) _ rfl 31 ?_ hres3 ?_ ?_ ?_; (rw [HF.out]; exact aggFrame); (rw [HF.out, HZ.out]); exact Frm.A_one _))
    refine bodyPost_ret (run_results_agg Tryd.results29 rfl (by rw [HF.out]; exact aggFrame) (setRow_heap _ _ _ _ _ _ hres3)) rfl ?_
    exact ⟨by rw [HV.out]; rfl, Ext.then HX3.out (only_setRow _ _ _) (fun i hi => by omega)⟩
theorem rget_c {w : World} {K : RSk} {R : Rck} (h : RackRep w K R) (i s kind slot stripe : Int) :
    Calls Tryd.prog 29 #[.pointer (some ⟨K.r, 0, none⟩), .int .i64 i, .int .i64 s, .int .i64 kind, .int .i64 slot, .int .i64 stripe] w (RGetPost w R i s kind slot stripe) := by
  rcases hr : R.readE i s with _ | er
  · rcases hg : Frm.get ((R.dsk i).read s.toNat) with _ | f
    · exact rget_bad h i s kind slot stripe hr hg
    · by_cases h1 : f.kind = kind
      · by_cases h2 : f.slot = slot
        · by_cases h3 : 0 ≤ stripe
          · by_cases h4 : f.stripe = stripe
            · exact rget_yes4 h i s kind slot stripe f hr hg h1 h2 h3 h4
            · exact rget_no3 h i s kind slot stripe f hr hg h1 h2 h3 h4
          · exact rget_yes3 h i s kind slot stripe f hr hg h1 h2 h3
        · exact rget_no2 h i s kind slot stripe f hr hg h1 h2
      · exact rget_no1 h i s kind slot stripe f hr hg h1
  · exact rget_err h i s kind slot stripe er hr
end Go.Proofs.YtkmgdglmlmodmaaDoor
