/- The statement RackPlaces, as its tied card: for every input the call of stavelaw8's RackPlaces answers true, and its arguments read behind it as they read before. No condition of our own. -/
/- Texts of one proof, joined: WRackPlaces, LawRackPlaces. -/
import Derived.Test.YtdbjojnejkklhaaDoorPartF
import Derived.Test.YtdbjojnejkklhaaDoorPartG
import Derived.Test.YtdbjojnejkklhaaDoorPartA
import Derived.Test.YtdbjojnejkklhaaDoorCards
import Derived.Test.YtdbjojnejkklhaaDoorTie
import Derived.Test.YtdbjojnejkklhaaDoorPartC
import Derived.WalkKit
import Derived.ProofKit
import Derived.OpenShut
import Derived.ShutString
import Derived.ChangeOld
import Derived.Below
import Derived.SevenTiedAt
set_option linter.unusedVariables false
set_option linter.unusedSimpArgs false
/- The walk of RackPlaces. -/
namespace Go.Proofs.YtdbjojnejkklhaaDoor
set_option linter.unusedVariables false
open Go Go.RowKit
namespace Places
def rck (x y : Nat) (f : Frm) : Rck := (Rck.new 4 4).setD x ((Dsk.new 4).write y f.bytes)
theorem write_eq (x y : Nat) (hx : x < 4) (hy : y < 4) (f : Frm) (hf : f.Ok) : (Rck.new 4 4).write x y f.bytes = (none, rck x y f) := by
  have h := Live.new 4 4 (by omega)
  have e := Live.new_dsk 4 4 x hx
  rw [h.write hx (by rw [e]; rfl) hy (Frm.bytes_len f hf), e]; rfl
theorem get_eq (x y : Nat) (hx : x < 4) (hy : y < 4) (f : Frm) (hf : f.Ok) (hr : f.right = true) (i j : Nat) (hi : i < 4) (hj : j < 4) (kind slot stripe : Int) :
    (rck x y f).get i j kind slot stripe = if i = x ∧ j = y ∧ f.kind = kind ∧ f.slot = slot ∧ (0 ≤ stripe → f.stripe = stripe) then some f else none := by
  obtain ⟨h, hd⟩ := (Live.new 4 4 (by omega)).setD ((Dsk.new 4).write y f.bytes) (by rw [Dsk.write_len, Dsk.new_len]) hx
  have hdead : ((rck x y f).dsk i).dead = false := by
    unfold rck; rw [hd i]; split
    · rfl
    · rw [Live.new_dsk 4 4 i hi]; rfl
  unfold rck at hdead ⊢
  rw [h.get hi hj hdead, hd i]
  by_cases h1 : i = x
  · rw [if_pos h1, Dsk.write_read]
    by_cases h2 : j = y
    · rw [if_pos h2, Frm.get_bytes f hf hr]
      simp only [h1, h2, true_and]
    · rw [if_neg h2, Dsk.new_read 4 j hj, Dsk.zeros_get, if_neg (by simp [h2])]
  · rw [if_neg h1, Live.new_dsk 4 4 i hi, Dsk.new_read 4 j hj, Dsk.zeros_get, if_neg (by simp [h1])]
end Places
theorem get_some1 {f : Frm} (hf : f.Ok) (hz : Frm.zero.Ok) {p q : Prop} [Decidable p] [Decidable q] (h : q ↔ p) : ((if q then some f else none).getD Frm.zero).Ok ∧ (if q then some f else none).isSome = decide p := by
  by_cases hq : q
  · rw [if_pos hq, decide_eq_true (h.1 hq)]; exact ⟨hf, rfl⟩
  · rw [if_neg hq, decide_eq_false (fun hp => hq (h.2 hp))]; exact ⟨hz, rfl⟩
theorem frame_lead (f : Frm) : (Frm.A f)[1]? = some (.int .i64 f.slot) ∧ (Frm.A f)[2]? = some (.int .i64 f.stripe) := by rw [Frm.A_def]; exact ⟨rfl, rfl⟩
open Places in
set_option maxRecDepth 100000 in
set_option maxHeartbeats 4000000 in
theorem rackPlaces_c (kind slot stripe gen n d s : Int) (w : World) (hg : EtLaid w) :
    Calls Tryd.prog 4 #[.int .i64 kind, .int .i64 slot, .int .i64 stripe, .int .i64 gen, .int .i64 n, .int .i64 d, .int .i64 s] w fun e w' => e = .returned (.bool true) ∧ Ext w w' := by
  have HG := hid hg
  have hz := zero_frame
  have HZ := hid (Frm.A_size _ zero_ok)
  clear hg
  go_enter Tryd.func4, Tryd.ntmps4
  go_wp2_with fail
  refine (at_new 4 4 (by omega) (by omega) (by omega) (by omega) w).mono ?_
  rintro e w1 ⟨r, rfl, h1, x1⟩
  have H1 := hid h1; have X1 := hid x1
  clear h1 x1
  go_wp2_with fail
  refine (within_c kind 1 3 w1 (by omega) (by omega) (by omega)).mono ?_
  rintro e w2 ⟨rfl, rfl⟩
  obtain ⟨k0, k1⟩ := within_bd kind 1 3 (by omega)
  generalize within kind 1 3 = k at *
  go_wp2_with fail
  refine (within_c slot 0 3 w1 (by omega) (by omega) (by omega)).mono ?_
  rintro e w2 ⟨rfl, rfl⟩
  obtain ⟨s0, s1⟩ := within_bd slot 0 3 (by omega)
  generalize within slot 0 3 = sl at *
  go_wp2_with fail
  refine (within_c stripe 0 3 w1 (by omega) (by omega) (by omega)).mono ?_
  rintro e w2 ⟨rfl, rfl⟩
  obtain ⟨t0, t1⟩ := within_bd stripe 0 3 (by omega)
  generalize within stripe 0 3 = st at *
  go_wp2_with fail
  refine (within_c gen 0 99 w1 (by omega) (by omega) (by omega)).mono ?_
  rintro e w2 ⟨rfl, rfl⟩
  obtain ⟨g0, g1⟩ := within_bd gen 0 99 (by omega)
  generalize within gen 0 99 = gn at *
  go_wp2_with fail
  refine (kframe_c k sl st gn n w1).mono ?_
  rintro e w2 ⟨rfl, x2⟩
  have HF : Hid ((keepFrm k sl st gn n).Ok ∧ (keepFrm k sl st gn n).right = true) := hid ⟨keepFrm_ok _ _ _ _ _, Frm.right_of k0 k1 s0 (Int.le_trans s1 (by decide)) t0 (Int.le_trans t1 (by decide)) g0 (Int.le_trans g1 (by decide))⟩
  have hk : (keepFrm k sl st gn n).kind = k := rfl
  have hs : (keepFrm k sl st gn n).slot = sl := rfl
  have ht : (keepFrm k sl st gn n).stripe = st := rfl
  generalize keepFrm k sl st gn n = f at *
  have HFA := hid (Frm.A_size f HF.out.1)
  have HS := hid (Frm.A_size f HF.out.1)
  have hbs : (w2.alloc (.cells (Frm.A Frm.zero) 42)).heap[w2.heap.size]? = some (.cells (Frm.A Frm.zero) 42 (0, 0)) := block_alloc
  have X2 := hid x2
  clear x2
  go_wp2_with (refine wpList_store_whole rfl 42 _ _ rfl w2.heap.size rfl (Frm.A f) _ rfl 42 ?_ hbs ?_ ?_ ?_; (rw [HS.out]; exact aggFrame); (rw [HS.out, HZ.out]); exact Frm.A_one _)
  rw [setRow_alloc]
  have X3 := hid (X2.out.alloc (.cells (Frm.A f) 42))
  have HC3 : Hid ((w2.alloc (.cells (Frm.A f) 42)).heap[w2.heap.size]? = some (.cells (Frm.A f) 42 (0, 0))) := hid block_alloc
  have HG3 : Hid (w1.heap.size ≤ w2.heap.size) := hid X2.out.size
  clear hbs
  generalize w2.heap.size = g at *
  generalize w2.alloc (.cells (Frm.A f) 42) = w3 at *
  refine (within_c d 0 3 w3 (by omega) (by omega) (by omega)).mono ?_
  rintro e w' ⟨rfl, rfl⟩
  obtain ⟨d0, d1⟩ := within_bd d 0 3 (by omega)
  generalize within d 0 3 = dn at *
  obtain ⟨x, rfl⟩ := Int.eq_ofNat_of_zero_le d0
  go_wp2_with fail
  refine (within_c s 0 3 w3 (by omega) (by omega) (by omega)).mono ?_
  rintro e w' ⟨rfl, rfl⟩
  obtain ⟨e0, e1⟩ := within_bd s 0 3 (by omega)
  generalize within s 0 3 = sn at *
  obtain ⟨y, rfl⟩ := Int.eq_ofNat_of_zero_le e0
  have hx4 : x < 4 := by omega
  have hy4 : y < 4 := by omega
  go_wp2_with (refine wpList_load_agg rfl 42 _ rfl ⟨g, 0, none⟩ rfl (Frm.A f) ?_ ?_ ?_; (rw [HS.out]; exact aggFrame); exact agg_cells HC3.out)
  refine (fput_yes f w3 HF.out.1 HF.out.2).mono ?_
  rintro e w4 ⟨b, rfl, hb, hblk, x4⟩
  have HB := hid (hblk.bytes (Frm.bytes_byte f HF.out.1 HF.out.2) (Frm.bytes_len f HF.out.1) (by omega))
  have hbl := lt_of_block (show w4.heap[b]? = _ from hblk)
  have X4 := hid (Ext.trans X3.out x4)
  have H4 : Hid (RackAt (fun k => k < w.heap.size ∨ (w1.heap.size ≤ k ∧ k < w4.heap.size)) w4 r (Rck.new 4 4)) := hid (H1.out.more X4.out fun k hk => by
    have q1 := X1.out.size; have q2 := X4.out.size
    rcases hk with hk | hk
    · exact ⟨by omega, .inl hk⟩
    · exact ⟨by omega, .inr hk.1⟩)
  have HC4 := hid (x4.at HC3.out)
  have hbg : w1.heap.size ≤ b := by have := X3.out.size; have := HG3.out; omega
  have X4w := hid (Ext.trans X1.out X4.out)
  clear hblk x4 H1 HC3
  go_wp2_with fail
  refine (at_write H4.out x y _ 128 128 _ HB.out).mono ?_
  rintro e w5 ⟨rfl, h5, k5⟩
  rw [write_eq x y hx4 hy4 f HF.out.1] at h5 ⊢
  simp only [oErr]
  have H5 := hid h5
  have hgl := lt_of_block HC4.out
  have HC5 : Hid (w5.heap[g]? = some (.cells (Frm.A f) 42 (0, 0))) := hid (k5.at HC4.out fun hn => hn (.inr ⟨HG3.out, hgl⟩))
  have X5 := hid (Keeps.ext X4w.out k5 fun q hq => .inl hq)
  clear h5 k5 HB H4 HC4 X4 X3 X2 X1 X4w hbl hb hbg hgl HG3
  have HGET := hid (get_eq x y hx4 hy4 f HF.out.1 HF.out.2)
  have HCL := hid (frame_lead f)
  go_wp2
  go_loopw [21] (fun v wr => ∃ i : Nat, v = .int .i64 i ∧ i ≤ 4 ∧ Ext w5 wr) (fun v _ => 4 - (intOf v).toNat)
  case atStart => exact ⟨0, rfl, by omega, Ext.refl _⟩
  case round =>
    obtain ⟨i, rfl, hi, hx⟩ := hrel
    have HX := hid hx
    clear hx
    by_cases hlt : i < 4
    · have i0 : (0 : Int) ≤ (i : Int) := by omega
      have i1 : (i : Int) < 4 := by omega
      go_wp2
      go_loopw [22] (fun v wr => ∃ j : Nat, v = .int .i64 j ∧ j ≤ 4 ∧ Ext w5 wr) (fun v _ => 4 - (intOf v).toNat)
      case atStart => exact ⟨0, rfl, by omega, HX.out⟩
      case round =>
        obtain ⟨j, rfl, hj, hx⟩ := hrel
        have HXJ := hid hx
        clear hx
        by_cases hlj : j < 4
        · have j0 : (0 : Int) ≤ (j : Int) := by omega
          have j1 : (j : Int) < 4 := by omega
          have c1 : wr.cell? ⟨g, 1, none⟩ = some (.int .i64 sl) := by rw [cell_at (Ext.at HXJ.out HC5.out), HCL.out.1, hs]
          have c2 : wr.cell? ⟨g, 2, none⟩ = some (.int .i64 st) := by rw [cell_at (Ext.at HXJ.out HC5.out), HCL.out.2, ht]
          by_cases hix : i = x
          · by_cases hjy : j = y
            · have HO : Hid ((rck x y f).get i j k sl st = some f) := hid (by rw [HGET.out i j hlt hlj, if_pos ⟨hix, hjy, hk, hs, fun _ => ht⟩])
              subst hix; subst hjy
              go_wp2_with fail
              refine (at_get (H5.out.ext HXJ.out) i j k sl st).mono ?_
              rintro e w6 ⟨rfl, x6⟩
              rw [HO.out]
              simp only [gotO, Option.getD_some, Option.isSome_some]
              have X6 := hid (Ext.trans HXJ.out x6)
              have hbs : (w6.alloc (.cells (Frm.A Frm.zero) 42)).heap[w6.heap.size]? = some (.cells (Frm.A Frm.zero) 42 (0, 0)) := block_alloc
              have HC7 := hid (show (w6.alloc (.cells (Frm.A f) 42)).heap[g]? = _ from Ext.at ((Ext.refl w6).alloc _) (X6.out.at HC5.out))
              have HC8 : Hid ((w6.alloc (.cells (Frm.A f) 42)).heap[w6.heap.size]? = some (.cells (Frm.A f) 42 (0, 0))) := hid block_alloc
              have X7 := hid (X6.out.alloc (.cells (Frm.A f) 42))
              clear x6 c1 c2
              go_wp2_with (first
                | (refine wpList_store_whole rfl 42 _ _ rfl w6.heap.size rfl (Frm.A f) _ rfl 42 ?_ hbs ?_ ?_ ?_; (rw [HS.out]; exact aggFrame); (rw [HS.out, HZ.out]); exact Frm.A_one _)
                | (rw [setRow_alloc]; refine wpListG_load_agg 42 _ rfl ⟨w6.heap.size, 0, none⟩ rfl (Frm.A f) rfl (by rw [HS.out]; exact aggFrame) (agg_cells HC8.out) ?_)
                | (refine wpListG_load_agg 42 _ rfl ⟨g, 0, none⟩ rfl (Frm.A f) rfl (by rw [HS.out]; exact aggFrame) (agg_cells HC7.out) ?_)
                | (refine wpListG_eql .neq 42 _ _ _ rfl (Frm.A f) (Frm.A f) rfl rfl (.bool false) rfl (frame_guard _ _ _ _ _ _) (by rw [frame_neq f f HF.out.1 HF.out.1, Frm.eqB_self]; rfl) ?_))
              go_roundw
              case rel => exact ⟨j + 1, by go_num, by omega, X7.out⟩
              case measure => simp [intOf]; omega
            · have HO : Hid ((rck x y f).get i j k sl st = none) := hid (by rw [HGET.out i j hlt hlj, if_neg (fun h => hjy h.2.1)])
              have n1 : ((j : Int) == (y : Int)) = false := by simp; omega
              subst hix
              go_wp2_with fail
              refine (at_get (H5.out.ext HXJ.out) i j k sl st).mono ?_
              rintro e w6 ⟨rfl, x6⟩
              rw [HO.out]
              simp only [gotO, Option.getD_none, Option.isSome_none]
              have X7 := hid ((Ext.trans HXJ.out x6).alloc (.cells (Frm.A Frm.zero) 42))
              have hbs : (w6.alloc (.cells (Frm.A Frm.zero) 42)).heap[w6.heap.size]? = some (.cells (Frm.A Frm.zero) 42 (0, 0)) := block_alloc
              clear x6 c1 c2
              go_wp2_with (refine wpList_store_whole rfl 42 _ _ rfl w6.heap.size rfl (Frm.A Frm.zero) _ rfl 42 ?_ hbs ?_ ?_ ?_; (rw [HZ.out]; exact aggFrame); (rfl); exact Frm.A_one _)
              rw [setRow_alloc]
              go_roundw
              case rel => exact ⟨j + 1, by go_num, by omega, X7.out⟩
              case measure => simp [intOf]; omega
          · have HO : Hid ((rck x y f).get i j k sl st = none) := hid (by rw [HGET.out i j hlt hlj, if_neg (fun h => hix h.1)])
            have n1 : ((i : Int) == (x : Int)) = false := by simp; omega
            go_wp2_with fail
            refine (at_get (H5.out.ext HXJ.out) i j k sl st).mono ?_
            rintro e w6 ⟨rfl, x6⟩
            rw [HO.out]
            simp only [gotO, Option.getD_none, Option.isSome_none]
            have X7 := hid ((Ext.trans HXJ.out x6).alloc (.cells (Frm.A Frm.zero) 42))
            have hbs : (w6.alloc (.cells (Frm.A Frm.zero) 42)).heap[w6.heap.size]? = some (.cells (Frm.A Frm.zero) 42 (0, 0)) := block_alloc
            clear x6 c1 c2
            go_wp2_with (refine wpList_store_whole rfl 42 _ _ rfl w6.heap.size rfl (Frm.A Frm.zero) _ rfl 42 ?_ hbs ?_ ?_ ?_; (rw [HZ.out]; exact aggFrame); (rfl); exact Frm.A_one _)
            rw [setRow_alloc]
            go_roundw
            case rel => exact ⟨j + 1, by go_num, by omega, X7.out⟩
            case measure => simp [intOf]; omega
        · obtain rfl : j = 4 := by omega
          have c1 : wr.cell? ⟨g, 1, none⟩ = some (.int .i64 sl) := by rw [cell_at (Ext.at HXJ.out HC5.out), HCL.out.1, hs]
          have c2 : wr.cell? ⟨g, 2, none⟩ = some (.int .i64 st) := by rw [cell_at (Ext.at HXJ.out HC5.out), HCL.out.2, ht]
          have q1 : ∃ q, decide (f.slot = (i : Int)) = q := ⟨_, rfl⟩
          have q2 : ∃ q, decide (f.stripe = (i : Int)) = q := ⟨_, rfl⟩
          have q3 : ∃ q, decide (f.kind = (i : Int)) = q := ⟨_, rfl⟩
          obtain ⟨q1, hq1⟩ := q1
          obtain ⟨q2, hq2⟩ := q2
          obtain ⟨q3, hq3⟩ := q3
          have HQ1 := hid hq1; have HQ2 := hid hq2; have HQ3 := hid hq3
          have p1 : ((i : Int) == sl) = q1 := by rw [← hq1, hs, Bool.eq_iff_iff]; simp; exact eq_comm
          have p2 : ((i : Int) == st) = q2 := by rw [← hq2, ht, Bool.eq_iff_iff]; simp; exact eq_comm
          have p3 : ((i : Int) == k) = q3 := by rw [← hq3, hk, Bool.eq_iff_iff]; simp; exact eq_comm
          clear hq1 hq2 hq3
          go_wp2_with fail
          have HO6 : Hid ((((rck x y f).get x y k i st).getD Frm.zero).Ok ∧ ((rck x y f).get x y k i st).isSome = q1) := hid (by
            rw [HGET.out x y hx4 hy4 k i st]
            rw [← HQ1.out]; exact get_some1 HF.out.1 zero_ok (by rw [hk, ht]; simp))
          refine (at_get (H5.out.ext HXJ.out) x y k i st).mono ?_
          rintro e w6 ⟨rfl, x6⟩
          obtain ⟨o6, ho6⟩ : ∃ o, (rck x y f).get x y k i st = o := ⟨_, rfl⟩
          rw [ho6] at HO6 ⊢
          unfold gotO
          rw [HO6.out.2]
          obtain ⟨f6, hf6⟩ : ∃ f, o6.getD Frm.zero = f := ⟨_, rfl⟩
          rw [hf6] at HO6 ⊢
          have HY6 := hid (Frm.A_size f6 HO6.out.1)
          have hbs : (w6.alloc (.cells (Frm.A Frm.zero) 42)).heap[w6.heap.size]? = some (.cells (Frm.A Frm.zero) 42 (0, 0)) := block_alloc
          have X6 := hid ((Ext.trans HXJ.out x6).alloc (.cells (Frm.A f6) 42))
          clear x6 ho6 hf6 c1 c2
          have c1 : ((w6.alloc (.cells (Frm.A Frm.zero) 42)).setRow w6.heap.size (Frm.A f6)).cell? ⟨g, 1, none⟩ = some (.int .i64 sl) := by rw [setRow_alloc, cell_at (Ext.at X6.out HC5.out), HCL.out.1, hs]
          have c2 : ((w6.alloc (.cells (Frm.A Frm.zero) 42)).setRow w6.heap.size (Frm.A f6)).cell? ⟨g, 2, none⟩ = some (.int .i64 st) := by rw [setRow_alloc, cell_at (Ext.at X6.out HC5.out), HCL.out.2, ht]
          go_wp2_with (refine wpList_store_whole rfl 42 _ _ rfl w6.heap.size rfl (Frm.A f6) _ rfl 42 ?_ hbs ?_ ?_ ?_; (rw [HY6.out]; exact aggFrame); (rw [HY6.out, HZ.out]); exact Frm.A_one _)
          rw [setRow_alloc]
          clear hbs c1 c2
          generalize w6.alloc (.cells (Frm.A f6) 42) = v6 at *
          have HO7 : Hid ((((rck x y f).get x y k sl i).getD Frm.zero).Ok ∧ ((rck x y f).get x y k sl i).isSome = q2) := hid (by
            rw [HGET.out x y hx4 hy4 k sl i]
            rw [← HQ2.out]; exact get_some1 HF.out.1 zero_ok (by rw [hk, hs]; simp))
          refine (at_get (H5.out.ext X6.out) x y k sl i).mono ?_
          rintro e w7 ⟨rfl, x7⟩
          obtain ⟨o7, ho7⟩ : ∃ o, (rck x y f).get x y k sl i = o := ⟨_, rfl⟩
          rw [ho7] at HO7 ⊢
          unfold gotO
          rw [HO7.out.2]
          obtain ⟨f7, hf7⟩ : ∃ f, o7.getD Frm.zero = f := ⟨_, rfl⟩
          rw [hf7] at HO7 ⊢
          have HY7 := hid (Frm.A_size f7 HO7.out.1)
          have hbs : (w7.alloc (.cells (Frm.A Frm.zero) 42)).heap[w7.heap.size]? = some (.cells (Frm.A Frm.zero) 42 (0, 0)) := block_alloc
          have X7 := hid ((Ext.trans X6.out x7).alloc (.cells (Frm.A f7) 42))
          clear x7 ho7 hf7
          have c1 : ((w7.alloc (.cells (Frm.A Frm.zero) 42)).setRow w7.heap.size (Frm.A f7)).cell? ⟨g, 1, none⟩ = some (.int .i64 sl) := by rw [setRow_alloc, cell_at (Ext.at X7.out HC5.out), HCL.out.1, hs]
          have c2 : ((w7.alloc (.cells (Frm.A Frm.zero) 42)).setRow w7.heap.size (Frm.A f7)).cell? ⟨g, 2, none⟩ = some (.int .i64 st) := by rw [setRow_alloc, cell_at (Ext.at X7.out HC5.out), HCL.out.2, ht]
          go_wp2_with (refine wpList_store_whole rfl 42 _ _ rfl w7.heap.size rfl (Frm.A f7) _ rfl 42 ?_ hbs ?_ ?_ ?_; (rw [HY7.out]; exact aggFrame); (rw [HY7.out, HZ.out]); exact Frm.A_one _)
          rw [setRow_alloc]
          clear hbs c1 c2
          generalize w7.alloc (.cells (Frm.A f7) 42) = v7 at *
          have HO8 : Hid ((((rck x y f).get x y i sl st).getD Frm.zero).Ok ∧ ((rck x y f).get x y i sl st).isSome = q3) := hid (by
            rw [HGET.out x y hx4 hy4 i sl st]
            rw [← HQ3.out]; exact get_some1 HF.out.1 zero_ok (by rw [hs, ht]; simp))
          refine (at_get (H5.out.ext X7.out) x y i sl st).mono ?_
          rintro e w8 ⟨rfl, x8⟩
          obtain ⟨o8, ho8⟩ : ∃ o, (rck x y f).get x y i sl st = o := ⟨_, rfl⟩
          rw [ho8] at HO8 ⊢
          unfold gotO
          rw [HO8.out.2]
          obtain ⟨f8, hf8⟩ : ∃ f, o8.getD Frm.zero = f := ⟨_, rfl⟩
          rw [hf8] at HO8 ⊢
          have HY8 := hid (Frm.A_size f8 HO8.out.1)
          have hbs : (w8.alloc (.cells (Frm.A Frm.zero) 42)).heap[w8.heap.size]? = some (.cells (Frm.A Frm.zero) 42 (0, 0)) := block_alloc
          have X8 := hid ((Ext.trans X7.out x8).alloc (.cells (Frm.A f8) 42))
          clear x8 ho8 hf8
          have c1 : ((w8.alloc (.cells (Frm.A Frm.zero) 42)).setRow w8.heap.size (Frm.A f8)).cell? ⟨g, 1, none⟩ = some (.int .i64 sl) := by rw [setRow_alloc, cell_at (Ext.at X8.out HC5.out), HCL.out.1, hs]
          have c2 : ((w8.alloc (.cells (Frm.A Frm.zero) 42)).setRow w8.heap.size (Frm.A f8)).cell? ⟨g, 2, none⟩ = some (.int .i64 st) := by rw [setRow_alloc, cell_at (Ext.at X8.out HC5.out), HCL.out.2, ht]
          go_wp2_with (refine wpList_store_whole rfl 42 _ _ rfl w8.heap.size rfl (Frm.A f8) _ rfl 42 ?_ hbs ?_ ?_ ?_; (rw [HY8.out]; exact aggFrame); (rw [HY8.out, HZ.out]); exact Frm.A_one _)
          rw [setRow_alloc]
          clear hbs c1 c2
          generalize w8.alloc (.cells (Frm.A f8) 42) = v8 at *
          go_roundw
          case rel => exact ⟨i + 1, by go_num, by omega, X8.out⟩
          case measure => simp [intOf]; omega
    · obtain rfl : i = 4 := by omega
      have c1 : wr.cell? ⟨g, 1, none⟩ = some (.int .i64 sl) := by rw [cell_at (Ext.at HX.out HC5.out), HCL.out.1, hs]
      have c2 : wr.cell? ⟨g, 2, none⟩ = some (.int .i64 st) := by rw [cell_at (Ext.at HX.out HC5.out), HCL.out.2, ht]
      go_wp2_with fail
      have HO6 : Hid ((((rck x y f).get x y k sl (-1)).getD Frm.zero).Ok ∧ ((rck x y f).get x y k sl (-1)).isSome = true) := hid (by
        rw [HGET.out x y hx4 hy4 k sl (-1)]
        rw [if_pos ⟨rfl, rfl, hk, hs, fun h => by omega⟩]; exact ⟨HF.out.1, rfl⟩)
      refine (at_get (H5.out.ext HX.out) x y k sl (-1)).mono ?_
      rintro e w6 ⟨rfl, x6⟩
      obtain ⟨o6, ho6⟩ : ∃ o, (rck x y f).get x y k sl (-1) = o := ⟨_, rfl⟩
      rw [ho6] at HO6 ⊢
      unfold gotO
      rw [HO6.out.2]
      obtain ⟨f6, hf6⟩ : ∃ f, o6.getD Frm.zero = f := ⟨_, rfl⟩
      rw [hf6] at HO6 ⊢
      have HY6 := hid (Frm.A_size f6 HO6.out.1)
      have hbs : (w6.alloc (.cells (Frm.A Frm.zero) 42)).heap[w6.heap.size]? = some (.cells (Frm.A Frm.zero) 42 (0, 0)) := block_alloc
      have X6 := hid ((Ext.trans HX.out x6).alloc (.cells (Frm.A f6) 42))
      clear x6 ho6 hf6 c1 c2
      have c1 : ((w6.alloc (.cells (Frm.A Frm.zero) 42)).setRow w6.heap.size (Frm.A f6)).cell? ⟨g, 1, none⟩ = some (.int .i64 sl) := by rw [setRow_alloc, cell_at (Ext.at X6.out HC5.out), HCL.out.1, hs]
      have c2 : ((w6.alloc (.cells (Frm.A Frm.zero) 42)).setRow w6.heap.size (Frm.A f6)).cell? ⟨g, 2, none⟩ = some (.int .i64 st) := by rw [setRow_alloc, cell_at (Ext.at X6.out HC5.out), HCL.out.2, ht]
      go_wp2_with (refine wpList_store_whole rfl 42 _ _ rfl w6.heap.size rfl (Frm.A f6) _ rfl 42 ?_ hbs ?_ ?_ ?_; (rw [HY6.out]; exact aggFrame); (rw [HY6.out, HZ.out]); exact Frm.A_one _)
      rw [setRow_alloc]
      clear hbs c1 c2
      generalize w6.alloc (.cells (Frm.A f6) 42) = v6 at *
      refine (rackRuns_c v6 (HG.out.only (Ext.trans X5.out X6.out) (fun x => x))).mono ?_
      rintro e w8 ⟨rfl, x8⟩
      have X8 := hid (Ext.trans (Ext.trans X5.out X6.out) x8)
      clear x8
      go_wp2
      go_ret
      exact ⟨rfl, X8.out⟩
end Go.Proofs.YtdbjojnejkklhaaDoor

/- The statement RackPlaces, as its tied card: for every input the call of stavelaw8's RackPlaces answers true, and its arguments read behind it as they read before. No condition of our own. -/
namespace Go.Proofs.YtdbjojnejkklhaaDoor.rackPlaces
open Go.ChangeShapes Go.WideShapes Go.ChangeAt Go.RowKit
open Go.ChangeMaps (open_string shut_string)
set_option linter.unusedVariables false
theorem laidOut : laidOutB Tryd.prog = true := by kernel_rfl
theorem walk (a0 : Int) (a1 : Int) (a2 : Int) (a3 : Int) (a4 : Int) (a5 : Int) (a6 : Int) (w : World) (hg : EtLaid w) (w0 : (Lit.int .i64 a0).wf = true) (w1 : (Lit.int .i64 a1).wf = true) (w2 : (Lit.int .i64 a2).wf = true) (w3 : (Lit.int .i64 a3).wf = true) (w4 : (Lit.int .i64 a4).wf = true) (w5 : (Lit.int .i64 a5).wf = true) (w6 : (Lit.int .i64 a6).wf = true) :
    Calls Tryd.prog 4 #[.int .i64 a0, .int .i64 a1, .int .i64 a2, .int .i64 a3, .int .i64 a4, .int .i64 a5, .int .i64 a6] w fun e w' => e = .returned (.bool true) ∧ Below w.heap.size w w' :=
  (rackPlaces_c a0 a1 a2 a3 a4 a5 a6 w hg).mono fun _ _ ⟨he, hx⟩ => ⟨he, hx.below⟩
set_option maxRecDepth 100000 in
theorem lifted (os : Os) (started : os.Started) (H : Type) (enc : TypeId × Value → H) :
    ReturnsInHanded {} Tryd.checked os 4 .any (fun w args => (Rows.rackPlacesSpec.pre enc Tryd.prog Tryd.f4 [] false w args ∧ laidMetH Tryd.prog theLaid w) ∧ sizedMet enc Tryd.prog Tryd.f4 (OpenSpec.ofChange Rows.rackPlacesSpec) false w args)
      (Rows.rackPlacesSpec.post enc Tryd.prog Tryd.f4 false true false false) := by
  refine returnsInHanded_of_change_and (C := Tryd.checked) (X := fun w _ => laidMetH Tryd.prog theLaid w) (fun _ _ _ hh h => h.of_heap hh) hOwn started (by kernel_rfl) Tryd.func4
    (ChangeSpec.witness_at (enc := enc) (C := Tryd.checked) (os := os) (X := fun w _ => laidMetH Tryd.prog theLaid w) false (laidWorld os) #[.int .i64 0, .int .i64 0, .int .i64 0, .int .i64 0, .int .i64 0, .int .i64 0, .int .i64 0] 8 rfl (by kernel_rfl) (by kernel_rfl) (by kernel_rfl) (by kernel_rfl) (by kernel_rfl) (laidWorld_met os _)) ?_
  intro W base args ds gs before hval0 hW _ _ hL _
  have hval : ∀ (j : Nat) t v, Tryd.f4.params[j]? = some t → args[j]? = some v → Value.okWide Tryd.prog W .any base t v := hval0
  have hW' := hW
  obtain ⟨p, q, hA0, hV, rfl, hfz, hnd⟩ := hW
  have hA : DataW.TrodAll enc Tryd.prog W 0 (fun _ => true) true Tryd.f4.params.toList args.toList ds p := hA0
  rw [Tryd.params4] at hA hval
  obtain ⟨v0, vs0, d0, ds0, p0, q0, hargs, rfl, rfl, h0, r0⟩ := trodAll_cons hA
  obtain ⟨v1, vs1, d1, ds1, p1, q1, rfl, rfl, rfl, h1, r1⟩ := trodAll_cons r0
  obtain ⟨v2, vs2, d2, ds2, p2, q2, rfl, rfl, rfl, h2, r2⟩ := trodAll_cons r1
  obtain ⟨v3, vs3, d3, ds3, p3, q3, rfl, rfl, rfl, h3, r3⟩ := trodAll_cons r2
  obtain ⟨v4, vs4, d4, ds4, p4, q4, rfl, rfl, rfl, h4, r4⟩ := trodAll_cons r3
  obtain ⟨v5, vs5, d5, ds5, p5, q5, rfl, rfl, rfl, h5, r5⟩ := trodAll_cons r4
  obtain ⟨v6, vs6, d6, ds6, p6, q6, rfl, rfl, rfl, h6, r6⟩ := trodAll_cons r5
  obtain ⟨rfl, rfl, rfl⟩ := trodAll_nil r6
  obtain rfl : args = #[v0, v1, v2, v3, v4, v5, v6] := by cases args; simp_all
  obtain ⟨rfl, rfl⟩ := trodVars_none hV
  obtain ⟨a0, rfl, rfl, rfl, w0⟩ := open_int Tryd.underlying3 (hval 0 3 v0 rfl rfl) h0
  obtain ⟨a1, rfl, rfl, rfl, w1⟩ := open_int Tryd.underlying3 (hval 1 3 v1 rfl rfl) h1
  obtain ⟨a2, rfl, rfl, rfl, w2⟩ := open_int Tryd.underlying3 (hval 2 3 v2 rfl rfl) h2
  obtain ⟨a3, rfl, rfl, rfl, w3⟩ := open_int Tryd.underlying3 (hval 3 3 v3 rfl rfl) h3
  obtain ⟨a4, rfl, rfl, rfl, w4⟩ := open_int Tryd.underlying3 (hval 4 3 v4 rfl rfl) h4
  obtain ⟨a5, rfl, rfl, rfl, w5⟩ := open_int Tryd.underlying3 (hval 5 3 v5 rfl rfl) h5
  obtain ⟨a6, rfl, rfl, rfl, w6⟩ := open_int Tryd.underlying3 (hval 6 3 v6 rfl rfl) h6
  have hg := etLaid_of hL
  clear hA0 hval0
  simp only [List.append_nil] at hW'
  refine (walk a0 a1 a2 a3 a4 a5 a6 W hg w0 w1 w2 w3 w4 w5 w6).mono fun e W' ⟨he, bel⟩ => ?_
  subst he
  exact ⟨_, rfl, _, _, _, [], _, [], hW', trodAll_mk1 (shut_bool Tryd.underlying4 _), (trodAll_cons_mk (shut_int Tryd.underlying3 w0) (trodAll_cons_mk (shut_int Tryd.underlying3 w1) (trodAll_cons_mk (shut_int Tryd.underlying3 w2) (trodAll_cons_mk (shut_int Tryd.underlying3 w3) (trodAll_cons_mk (shut_int Tryd.underlying3 w4) (trodAll_cons_mk (shut_int Tryd.underlying3 w5) (trodAll_cons_mk (shut_int Tryd.underlying3 w6) trodAll_mk0))))))), rfl, bel.frame _, fun h => by cases h⟩
theorem over : Rows.RackPlacesSaid :=
  OpenClaim.holds_of_wide 4 Tryd.f4 rfl rfl rfl rfl rfl rfl rfl ⟨rfl, rfl, rfl, rfl, rfl⟩ rfl rfl rfl rfl rfl (by kernel_rfl) Tryd.func4 (by kernel_rfl)
    (of_decide_eq_true (by kernel_rfl)) (by unfold Func.isWrapper; first | (rw [if_pos (by decide +kernel)]; kernel_rfl) | (rw [if_neg (by decide +kernel)]; exact ⟨rfl, rfl⟩))
    (fun os started H enc _ => lifted os started H enc)
theorem proved : Rows.RackPlacesCardSaid :=
  Claim7.holds_tied_plain_at .later [] [.handle] true (true, "dba68c5c8641de8e0643fe4af85c7b77ef0591640622d3211a00d85201f74fa1") true
    over (fun _ h => by cases h) (by kernel_rfl) (fun _ h => by cases h) rackPlaces_row_tie rfl ⟨rfl, rfl⟩ (by kernel_rfl) rfl
    (fun f fn hf hfn => by
      obtain rfl : f = 4 := Option.some.inj ((show Tryd.prog.funcNamed "stave/stavelaw8.RackPlaces" = some 4 by kernel_rfl).symm.trans hf) |>.symm
      obtain rfl : fn = Tryd.f4 := (Option.some.inj (Tryd.func4.symm.trans hfn)).symm
      exact ⟨by kernel_rfl, fun j t ht => by
        rw [Tryd.params4] at ht
        rcases j with _ | _ | _ | _ | _ | _ | _ | j
        · simp at ht; subst ht; kernel_rfl
        · simp at ht; subst ht; kernel_rfl
        · simp at ht; subst ht; kernel_rfl
        · simp at ht; subst ht; kernel_rfl
        · simp at ht; subst ht; kernel_rfl
        · simp at ht; subst ht; kernel_rfl
        · simp at ht; subst ht; kernel_rfl
        · simp at ht⟩)
    (by kernel_rfl)
#print axioms proved
end Go.Proofs.YtdbjojnejkklhaaDoor.rackPlaces
