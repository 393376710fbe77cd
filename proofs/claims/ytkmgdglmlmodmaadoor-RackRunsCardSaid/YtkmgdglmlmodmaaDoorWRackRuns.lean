/- The walk of RackRuns. -/
import Derived.Test.YtkmgdglmlmodmaaDoorRackAt
import Derived.Test.YtkmgdglmlmodmaaDoorFrmEq
import Derived.Test.YtkmgdglmlmodmaaDoorSector
namespace Go.Proofs.YtkmgdglmlmodmaaDoor
set_option linter.unusedVariables false
open Go Go.RowKit
namespace Runs8
def f : Frm := keepFrm 3 0 1 2 3
theorem f_ok : f.Ok := keepFrm_ok _ _ _ _ _
theorem f_right : f.right = true := by decide
theorem f_len : f.bytes.length = 128 := Frm.bytes_len f f_ok
theorem f_get : Frm.get f.bytes = some f := Frm.get_bytes f f_ok f_right
def D0 : Dsk := Dsk.new 3
def R1 : Rck := ⟨[D0, D0], false, 2⟩
def R2 : Rck := ⟨[D0.write 1 f.bytes, D0], false, 1⟩
def R3 : Rck := ⟨[D0.write 1 f.bytes, D0.write 1 (sect 9)], false, 0⟩
def R4 : Rck := ⟨[D0.write 1 f.bytes, D0.write 1 (sect 9)], true, 0⟩
def R5 : Rck := ⟨[(D0.write 1 f.bytes).crash 1, (D0.write 1 (sect 9)).crash 0], false, -1⟩
theorem arm_eq : (Rck.new 2 3).arm 2 = R1 := rfl
theorem write1 : R1.write 0 1 f.bytes = (none, R2) := by
  have hb : R1.badW 1 f.bytes = false := by unfold Rck.badW; rw [f_len]; rfl
  unfold Rck.write
  rw [hb]
  rfl
theorem write2 : R2.write 1 1 (sect 9) = (none, R3) := by
  have hb : R2.badW 1 (sect 9) = false := by unfold Rck.badW sect; rw [List.length_replicate]; rfl
  unfold Rck.write
  rw [hb]
  rfl
theorem flush1 : R3.flush 0 = (some (.fault sRackFlush 0 (.no 5)), R4) := rfl
theorem boot1 : R4.boot [1] = R5 := rfl
theorem zeros_get : Frm.get Dsk.zeros = none := by
  unfold Frm.get
  rw [if_neg]
  intro h
  have h2 := h.2
  have : (Frm.parse Dsk.zeros).right = false := by decide
  unfold Frm.put at h2
  rw [this] at h2
  have := congrArg List.length h2
  simp [Dsk.zeros] at this
theorem get1 : R5.get 0 1 3 0 1 = some f := by
  have h : R5.read 0 1 = some f.bytes := rfl
  unfold Rck.get
  rw [h, Option.bind_some, f_get]
  rfl
theorem get2 : R5.get 1 1 3 0 (-1) = none := by
  have h : R5.read 1 1 = some Dsk.zeros := rfl
  unfold Rck.get
  rw [h, Option.bind_some, zeros_get]
end Runs8
open Runs8 in
set_option maxRecDepth 100000 in
set_option maxHeartbeats 2000000 in
theorem rackRuns_c (w : World) (hg : EtLaid w) : Calls Tryd.prog 3 #[] w fun e w' => e = .returned (.bool true) ∧ Ext w w' := by
  have HG := hid hg
  have hz := zero_frame
  have HZ := hid (Frm.A_size _ zero_ok)
  have HF := hid (Frm.A_size _ f_ok)
  clear hg
  go_enter Tryd.func3, Tryd.ntmps3
  go_wp2_with fail
  refine (at_new 2 3 (by omega) (by omega) (by omega) (by omega) w).mono ?_
  rintro e w1 ⟨r, rfl, h1, x1⟩
  have H1 := hid h1; have X1 := hid x1
  clear h1 x1
  go_wp2_with fail
  refine (kframe_c 3 0 1 2 3 w1).mono ?_
  rintro e w2 ⟨rfl, x2⟩
  have X2 := hid x2
  clear x2
  go_wp2_with fail
  refine (fput_yes f w2 f_ok f_right).mono ?_
  rintro e w3 ⟨b, rfl, hb, hblk, x3⟩
  have HB := hid (hblk.bytes (Frm.bytes_byte f f_ok f_right) f_len (by omega))
  have hbl := lt_of_block (show w3.heap[b]? = _ from hblk)
  have hb1 : w1.heap.size ≤ b := Nat.le_trans X2.out.size hb
  have H3 : Hid (RackAt (fun k => k < w.heap.size ∨ k = b) w3 r (Rck.new 2 3)) := hid (H1.out.more (Ext.trans X2.out x3) fun k hk => by
    have q1 := X1.out.size; have q2 := X2.out.size; have q3 := x3.size
    rcases hk with hk | hk
    · exact ⟨by omega, .inl hk⟩
    · subst hk; exact ⟨hbl, .inr hb1⟩)
  have X3 := hid (Ext.trans X1.out (Ext.trans X2.out x3))
  clear hblk x3 H1 X1 X2
  go_wp2_with fail
  refine (at_arm H3.out 2 (by omega)).mono ?_
  rintro e w4 ⟨rfl, h4, k4⟩
  rw [arm_eq] at h4
  have H4 := hid h4
  have HB4 := hid (HB.out.only k4 fun q _ hq hn => hn (by obtain ⟨p, hp, rfl⟩ := hq; cases hp; exact .inr rfl))
  have X4 := hid (Keeps.ext X3.out k4 fun q hq => .inl hq)
  clear h4 k4 HB H3 X3
  go_wp2_with fail
  refine (at_write H4.out 0 1 _ 128 128 _ HB4.out).mono ?_
  rintro e w5 ⟨rfl, h5, k5⟩
  rw [write1] at h5 ⊢
  have H5 := hid h5
  have X5 := hid (Keeps.ext X4.out k5 fun q hq => .inl hq)
  clear h5 k5 HB4 H4 X4
  simp only [oErr]
  go_wp2_with fail
  refine (sector_c 9 (by omega) w5).mono ?_
  rintro e w6 ⟨b2, rfl, hb2, hby2, x6⟩
  have H6 := hid (H5.out.ext x6)
  have HB6 := hid hby2
  have X6 := hid (Ext.trans X5.out x6)
  clear hby2 x6 H5 X5
  go_wp2_with fail
  refine (at_write H6.out 1 1 _ 128 128 _ HB6.out).mono ?_
  rintro e w7 ⟨rfl, h7, k7⟩
  rw [write2] at h7 ⊢
  have H7 := hid h7
  have X7 := hid (Keeps.ext X6.out k7 fun q hq => .inl hq)
  clear h7 k7 HB6 H6 X6
  simp only [oErr]
  go_wp2_with fail
  refine (at_flush H7.out 0).mono ?_
  rintro e w8 ⟨rfl, h8, k8⟩
  rw [flush1] at h8 ⊢
  have H8 := hid h8
  have X8 := hid (Keeps.ext X7.out k8 fun q hq => .inl hq)
  clear h8 k8 H7 X7
  simp only [oErr]
  obtain ⟨er, her⟩ : ∃ er, Err.fault sRackFlush 0 (.no 5) = er := ⟨_, rfl⟩
  rw [her]
  have HER := hid her
  clear her
  go_wp2_with fail
  refine (at_off H8.out).mono ?_
  rintro e w9 ⟨rfl, rfl⟩
  rw [show R4.off = true from rfl]
  have X9 := hid (X8.out.alloc (.cells #[.int .u64 1] 39))
  have H9 : Hid (RackAt (fun k => (k < w.heap.size ∨ k = b) ∨ k = w8.heap.size) (w8.alloc (.cells #[.int .u64 1] 39)) r R4) := hid (H8.out.more ((Ext.refl w8).alloc _) fun k hk => by
    rcases hk with hk | hk
    · have := H8.out.there k hk; exact ⟨by simp; omega, .inl hk⟩
    · subst hk; exact ⟨by simp, .inr (Nat.le_refl _)⟩)
  have HBT : Hid (BitsAt (w8.alloc (.cells #[.int .u64 1] 39)) (some ⟨w8.heap.size, 0, none⟩) 1 [1]) := hid ⟨rfl, by simp, .inr ⟨_, _, rfl, fun i hi => by
    have : i = 0 := by omega
    subst this; exact cell_at block_alloc⟩⟩
  go_wp2_with fail
  refine (at_boot H9.out _ 1 1 [1] HBT.out fun p hp _ => .inr (by cases hp; rfl)).mono ?_
  rintro e w10 ⟨rfl, h10, k10⟩
  rw [boot1] at h10
  have H10 := hid h10
  have X10 := hid (Keeps.ext X9.out k10 fun q hq => .inl (.inl hq))
  clear h10 k10 HBT H9 X9 H8 X8
  go_wp2_with fail
  refine (at_get H10.out 0 1 3 0 1).mono ?_
  rintro e w11 ⟨rfl, x11⟩
  rw [get1]
  have X11 := hid (Ext.trans X10.out x11)
  have H11 := hid (H10.out.ext x11)
  clear x11 X10 H10
  simp only [gotO, Option.getD_some, Option.isSome_some]
  have hb11 : (w11.alloc (.cells (Frm.A Frm.zero) 31)).heap[w11.heap.size]? = some (.cells (Frm.A Frm.zero) 31 (0, 0)) := block_alloc
  go_wp2_with (first
    | (go_at_call 29; fail)
    | (refine wpList_store_whole rfl 31 _ _ rfl w11.heap.size rfl (Frm.A f) _ rfl 31 ?_ hb11 ?_ ?_ ?_; (rw [HF.out]; exact aggFrame); (rw [HF.out, HZ.out]); exact Frm.A_one _))
  rw [setRow_alloc]
  have H12 := hid (H11.out.ext ((Ext.refl w11).alloc (.cells (Frm.A f) 31)))
  have X12 := hid (X11.out.alloc (.cells (Frm.A f) 31))
  have hc12 : (w11.alloc (.cells (Frm.A f) 31)).heap[w11.heap.size]? = some (.cells (Frm.A f) 31 (0, 0)) := block_alloc
  have HC12 := hid hc12
  clear hb11 H11 X11 hc12
  refine (at_get H12.out 1 1 3 0 (-1)).mono ?_
  rintro e w13 ⟨rfl, x13⟩
  rw [get2]
  have HC13 := hid (x13.at HC12.out)
  have X13 := hid (Ext.trans X12.out x13)
  have H13 := hid (H12.out.ext x13)
  clear x13 X12 H12 HC12
  simp only [gotO, Option.getD_none, Option.isSome_none]
  have hb13 : (w13.alloc (.cells (Frm.A Frm.zero) 31)).heap[w13.heap.size]? = some (.cells (Frm.A Frm.zero) 31 (0, 0)) := block_alloc
  go_wp2_with (refine wpList_store_whole rfl 31 _ _ rfl w13.heap.size rfl (Frm.A Frm.zero) _ rfl 31 ?_ hb13 rfl ?_ ?_; (rw [HZ.out]; exact aggFrame); exact Frm.A_one _)
  rw [setRow_alloc]
  have H14 := hid (H13.out.ext ((Ext.refl w13).alloc (.cells (Frm.A Frm.zero) 31)))
  have X14 := hid (X13.out.alloc (.cells (Frm.A Frm.zero) 31))
  have HC14 := hid (Ext.at ((Ext.refl w13).alloc (.cells (Frm.A Frm.zero) 31)) HC13.out)
  clear hb13 H13 X13 HC13
  generalize w11.heap.size = g8 at *
  generalize w13.alloc (.cells (Frm.A Frm.zero) 31) = w14 at *
  have xd : Ext w14 w14.drew := (Ext.refl w14).drew
  have kc : Hid (∀ x : SW Ext w14.drew, Calls Tryd.prog 30 #[er.val] x.w fun e w'' => e = .returned (.int .i64 5) ∧ Ext x.w w'') := hid fun x => by
    have := kind_err er x.w (HG.out.only (Ext.trans X14.out (Ext.trans xd x.ext)) (fun x => x))
    rw [← HER.out] at this ⊢
    exact this
  have oc : Hid (∀ x : SW Ext w14.drew, Calls Tryd.prog 27 #[.pointer (some ⟨r, 0, none⟩)] x.w fun e w'' => e = .returned (.bool false) ∧ Ext x.w w'') := hid fun x =>
    (at_off (H14.out.ext (Ext.trans xd x.ext))).mono fun e w'' he => ⟨he.1, he.2 ▸ Ext.refl _⟩
  have fc : Hid (∀ x : SW Ext w14.drew, Calls Tryd.prog 22 #[.int .i64 3, .int .i64 0, .int .i64 1, .int .i64 2, .int .i64 3] x.w fun e w'' => e = .returned (.agg (Frm.A f)) ∧ Ext x.w w'') := hid fun x => kframe_c 3 0 1 2 3 x.w
  have lc : Hid (∀ x : SW Ext w14.drew, ∀ j v, (Frm.A f).toList[j]? = some v → x.w.cell? ((⟨g8, 0, none⟩ : Addr).add j) = some v) := hid fun x => agg_cells ((Ext.trans xd x.ext).at HC14.out)
  refine wp_region_rely_all (S := Ext) (.fin [0, 1, 2, 3, 4, 5, 6, 7, 8, 9, 10, 11, 12, 13, 14, 15, 16, 17, 18, 19, 20, 21, 22, 23, 24, 25, 26, 27, 28, 29, 30, 31]) (by kernel_rfl) (by kernel_rfl) (fun _ _ d _ _ h => by cases d <;> exact h) ?_
  rw [wpS]
  simp only [opsAt, List.map_cons, List.map_nil, Array.getD_eq_getD_getElem?, List.getElem?_toArray, List.getElem?_cons_succ, List.getElem?_cons_zero, Option.getD_some]
  iterate 8 ((refine wpSQ_step (fun K hK => ?_); go_simp; first | (refine hK _ ?_; clear hK K) | (apply Exists.intro; refine ⟨fun x => ?_, hK _ ?_⟩; (fail); clear hK K)))
  (refine wpSQ_step (fun K hK => ?_); go_simp; first | (refine hK _ ?_; clear hK K) | (apply Exists.intro; refine ⟨fun x => ?_, hK _ ?_⟩; (exact kc.out x); clear hK K))
  iterate 7 ((refine wpSQ_step (fun K hK => ?_); go_simp; first | (refine hK _ ?_; clear hK K) | (apply Exists.intro; refine ⟨fun x => ?_, hK _ ?_⟩; (fail); clear hK K)))
  (refine wpSQ_step (fun K hK => ?_); go_simp; first | (refine hK _ ?_; clear hK K) | (apply Exists.intro; refine ⟨fun x => ?_, hK _ ?_⟩; (exact oc.out x); clear hK K))
  iterate 6 ((refine wpSQ_step (fun K hK => ?_); go_simp; first | (refine hK _ ?_; clear hK K) | (apply Exists.intro; refine ⟨fun x => ?_, hK _ ?_⟩; (fail); clear hK K)))
  refine wpSQ_load_agg 31 _ rfl ⟨g8, 0, none⟩ rfl (Frm.A f) rfl (by rw [HF.out]; exact aggFrame) lc.out ?_
  (refine wpSQ_step (fun K hK => ?_); go_simp; first | (refine hK _ ?_; clear hK K) | (apply Exists.intro; refine ⟨fun x => ?_, hK _ ?_⟩; (exact fc.out x); clear hK K))
  refine wpSQ_eql .eql 31 _ _ _ rfl (Frm.A f) (Frm.A f) rfl rfl (.bool true) rfl (fun w => frame_guard _ _ _ _ _ w) (fun w => by rw [frame_eql f f f_ok f_ok w, Frm.eqB_self]) ?_
  iterate 6 ((refine wpSQ_step (fun K hK => ?_); go_simp; first | (refine hK _ ?_; clear hK K) | (apply Exists.intro; refine ⟨fun x => ?_, hK _ ?_⟩; (fail); clear hK K)))
  refine wpSQ_nil ?_
  intro W hW
  go_wp2
  go_ret
  exact ⟨rfl, Ext.trans X14.out (Ext.trans xd hW)⟩
end Go.Proofs.YtkmgdglmlmodmaaDoor
