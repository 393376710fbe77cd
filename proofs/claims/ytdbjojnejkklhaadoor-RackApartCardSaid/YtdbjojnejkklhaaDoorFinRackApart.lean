/- The statement RackApart, as its tied card: for every input the call of stavelaw8's RackApart answers true, and its arguments read behind it as they read before. No condition of our own. -/
/- Texts of one proof, joined: WRackApart, LawRackApart. -/
import Derived.Test.YtdbjojnejkklhaaDoorPartF
import Derived.Test.YtdbjojnejkklhaaDoorPartG
import Derived.Test.YtdbjojnejkklhaaDoorPartA
import Derived.Test.YtdbjojnejkklhaaDoorCards
import Derived.Test.YtdbjojnejkklhaaDoorTie
import Derived.Test.YtdbjojnejkklhaaDoorPartC
import Derived.WalkKit
import Derived.ProofKit
import Derived.OpenShut
import Derived.ShutString
import Derived.ChangeOld
import Derived.Below
import Derived.SevenTiedAt
set_option linter.unusedVariables false
set_option linter.unusedSimpArgs false
/- The walk of RackApart. -/
namespace Go.Proofs.YtdbjojnejkklhaaDoor
set_option linter.unusedVariables false
open Go Go.RowKit
open Apart
attribute [local irreducible] wpSQ
def ApartOut (w : World) (r d : Nat) (wr : World) : Prop := ∃ R, Filled 4 3 P R d ∧ RackAt (fun b => b < w.heap.size) wr r R ∧ Ext w wr
def ApartIn (w : World) (r d : Nat) (D : Dsk) (wr : World) : Prop := ∃ R, Fill 4 3 P R d D ∧ RackAt (fun b => b < w.heap.size) wr r R ∧ Ext w wr
set_option maxRecDepth 100000 in
set_option maxHeartbeats 2000000 in
theorem rackApart_c (i s k : Int) (gone : Bool) (w : World) (hg : EtLaid w) :
    Calls Tryd.prog 6 #[.int .i64 i, .int .i64 s, .int .i64 k, .bool gone] w fun e w' => e = .returned (.bool true) ∧ Ext w w' := by
  have HG := hid hg
  have hz := zero_frame
  have HZ := hid (Frm.A_size _ zero_ok)
  clear hg
  go_enter Tryd.func6, Tryd.ntmps6
  go_wp2_with fail
  refine (at_new 4 3 (by omega) (by omega) (by omega) (by omega) w).mono ?_
  rintro e w1 ⟨r, rfl, h1, x1⟩
  have HR : Hid (ApartOut w r 0 w1) := hid ⟨_, Filled.start 4 3 P (by omega), h1, x1⟩
  clear h1 x1
  go_wp2
  go_loopw [11] (fun v wr => ∃ d : Nat, v = .int .i64 d ∧ d ≤ 4 ∧ ApartOut w r d wr) (fun v _ => 4 - (intOf v).toNat)
  case atStart => exact ⟨0, rfl, by omega, HR.out⟩
  case round =>
    clear HR
    obtain ⟨d, rfl, hd, hrel⟩ := hrel
    by_cases hlt : d < 4
    · obtain ⟨R, hst, hra, hx⟩ := hrel
      have HI : Hid (ApartIn w r d (W d 0) wr) := hid ⟨R, hst.fill hlt, hra, hx⟩
      have d0 : (0 : Int) ≤ (d : Int) := by omega
      have d1 : (d : Int) < 4 := by omega
      clear hst hra hx
      go_wp2
      go_loopw [12] (fun v wr => ∃ x : Nat, v = .int .i64 x ∧ x ≤ 3 ∧ ApartIn w r d (W d x) wr) (fun v _ => 3 - (intOf v).toNat)
      case atStart => exact ⟨0, rfl, by omega, HI.out⟩
      case round =>
        clear HI
        obtain ⟨x, rfl, hx3, R, hst, hra, hx⟩ := hrel
        have HRA := hid hra; have HX := hid hx
        clear hra hx
        by_cases hlx : x < 3
        · have x0 : (0 : Int) ≤ (x : Int) := by omega
          have x1 : (x : Int) < 3 := by omega
          have HOK := hid (fr_ok d x)
          have HRT := hid (fr_right d x hlt hlx)
          obtain ⟨R', hw, hst'⟩ := hst.write hlt ⟨(W_ok d x).1, (W_ok d x).2.1⟩ hlx (Frm.bytes_len _ (fr_ok d x))
          have HW := hid hw; have HST := hid hst'
          clear hst hw hst'
          go_wp2_with fail
          refine (kframe_c 2 d x 5 (d * 3 + x) wr).mono ?_
          rintro e w3 ⟨rfl, x3⟩
          have HX3 := hid (Ext.trans HX.out x3)
          have HRA3 := hid (HRA.out.ext x3)
          clear x3
          rw [show keepFrm 2 d x 5 (d * 3 + x) = fr d x from rfl]
          go_wp2_with fail
          refine (fput_yes (fr d x) w3 HOK.out HRT.out).mono ?_
          rintro e w4 ⟨b, rfl, hb, hblk, x4⟩
          have HB := hid (hblk.bytes (Frm.bytes_byte _ HOK.out HRT.out) (Frm.bytes_len _ HOK.out) (by omega))
          have HX4 := hid (Ext.trans HX3.out x4)
          have HRA4 := hid (HRA3.out.ext x4)
          clear hb hblk x4
          go_wp2_with fail
          refine (at_write HRA4.out d x _ 128 128 _ HB.out).mono ?_
          rintro e w5 ⟨rfl, h5, k5⟩
          rw [HW.out] at h5 ⊢
          simp only [oErr]
          have HF : Hid (ApartIn w r d (W d (x + 1)) w5) := hid ⟨_, HST.out, h5, Keeps.ext HX4.out k5 fun q hq => hq⟩
          clear h5 k5
          go_wp2
          go_roundw
          case rel => exact ⟨x + 1, by go_num, by omega, HF.out⟩
          case measure => simp [intOf]; omega
        · obtain rfl : x = 3 := by omega
          rw [show ((3 : Nat) : Int) = 3 from rfl]
          obtain ⟨R', hw, hst'⟩ := hst.flush hlt ⟨(W_ok d 3).1, (W_ok d 3).2.1⟩
          have HW := hid hw; have HST := hid hst'
          clear hst hw hst'
          go_wp2_with fail
          refine (at_flush HRA.out d).mono ?_
          rintro e w4 ⟨rfl, h4, k4⟩
          rw [HW.out] at h4 ⊢
          simp only [oErr]
          have HF : Hid (ApartOut w r (d + 1) w4) := hid ⟨_, Fill.filled HST.out, h4, Keeps.ext HX.out k4 fun q hq => hq⟩
          clear h4 k4
          go_wp2
          go_roundw
          case rel => exact ⟨d + 1, by go_num, by omega, HF.out⟩
          case measure => simp [intOf]; omega
    · obtain rfl : d = 4 := by omega
      rw [show ((4 : Nat) : Int) = 4 from rfl]
      obtain ⟨R0, hst, hra, hx⟩ := hrel
      have HST := hid hst; have HRA := hid hra; have HX := hid hx
      clear hst hra hx
      go_wp2_with fail
      refine (within_c i 0 3 wr (by omega) (by omega) (by omega)).mono ?_
      rintro e w2 ⟨rfl, rfl⟩
      obtain ⟨a0, a1⟩ := within_bd i 0 3 (by omega)
      generalize within i 0 3 = an at *
      obtain ⟨a, rfl⟩ := Int.eq_ofNat_of_zero_le a0
      have ha4 : a < 4 := by omega
      go_wp2_with fail
      refine (within_c s 0 2 wr (by omega) (by omega) (by omega)).mono ?_
      rintro e w2 ⟨rfl, rfl⟩
      obtain ⟨b0, b1⟩ := within_bd s 0 2 (by omega)
      generalize within s 0 2 = bn at *
      obtain ⟨b, rfl⟩ := Int.eq_ofNat_of_zero_le b0
      have hb3 : b < 3 := by omega
      rcases gone with _ | _
      · go_wp2_with fail
        refine (within_c k 0 100 wr (by omega) (by omega) (by omega)).mono ?_
        rintro e w2 ⟨rfl, rfl⟩
        obtain ⟨k0, k1⟩ := within_bd k 0 100 (by omega)
        generalize within k 0 100 = kn at *
        obtain ⟨kk, rfl⟩ := Int.eq_ofNat_of_zero_le k0
        obtain ⟨hok, hfin⟩ := fin_rot HST.out a b kk ha4 hb3 (by omega)
        have HOK := hid hok; have FIN0 := hid hfin
        clear hok hfin
        go_wp2_with fail
        refine (at_rot HRA.out a b kk 1 (by omega)).mono ?_
        rintro e w5 ⟨rfl, h5, k5⟩
        rw [HOK.out]
        obtain ⟨R, hR⟩ : ∃ R, R0.rot a b kk 1 = R := ⟨_, rfl⟩
        rw [hR] at h5 FIN0
        have FIN := FIN0; have HRF := hid h5; have X5 := hid (Keeps.ext HX.out k5 fun q hq => hq)
        clear h5 k5 FIN0 HOK hR HST HRA HX k0 k1
        go_wp2
        go_loopw [15] (fun v wr => ∃ d : Nat, v = .int .i64 d ∧ d ≤ 4 ∧ Ext w5 wr) (fun v _ => 4 - (intOf v).toNat)
        case atStart => exact ⟨0, rfl, by omega, Ext.refl _⟩
        case round =>
          obtain ⟨d, rfl, hd, hx⟩ := hrel
          have HXD := hid hx
          clear hx
          by_cases hlt : d < 4
          · have d0 : (0 : Int) ≤ (d : Int) := by omega
            have d1 : (d : Int) < 4 := by omega
            go_wp2
            go_loopw [16] (fun v wr => ∃ x : Nat, v = .int .i64 x ∧ x ≤ 3 ∧ Ext w5 wr) (fun v _ => 3 - (intOf v).toNat)
            case atStart => exact ⟨0, rfl, by omega, HXD.out⟩
            case round =>
              obtain ⟨x, rfl, hx3, hx⟩ := hrel
              have HXX := hid hx
              clear hx
              by_cases hlx : x < 3
              · have x0 : (0 : Int) ≤ (x : Int) := by omega
                have x1 : (x : Int) < 3 := by omega
                have HN1 : Hid (R.get d x 3 d x = none) := hid (by rw [FIN.out.get d x hlt hlx, if_neg (fun q => absurd q.2.1 (by omega))])
                have HN2 : Hid (R.get d x 2 ((d : Int) + 1) x = none) := hid (by rw [FIN.out.get d x hlt hlx, if_neg (fun q => absurd q.2.2.1 (by omega))])
                have HN3 : Hid (R.get d x 2 d ((x : Int) + 1) = none) := hid (by rw [FIN.out.get d x hlt hlx, if_neg (fun q => absurd (q.2.2.2 (by omega)) (by omega))])
                by_cases hda : d = a
                · by_cases hxb : x = b
                  · have hbad : d = a ∧ (false = true ∨ x = b) := ⟨hda, .inr hxb⟩
                    subst hda
                    subst hxb
                    have HO : Hid (R.get d x 2 d x = none) := hid (by rw [FIN.out.get d x hlt hlx, if_neg (fun q => q.1 hbad)])
                    go_wp2_with fail
                    refine (at_get (HRF.out.ext HXX.out) d x 2 d x).mono ?_
                    rintro e w6 ⟨rfl, x6⟩
                    rw [HO.out]
                    simp only [gotO, Option.getD_none, Option.isSome_none]
                    have X7 := hid ((Ext.trans HXX.out x6).alloc (.cells (Frm.A Frm.zero) 42))
                    have hbs : (w6.alloc (.cells (Frm.A Frm.zero) 42)).heap[w6.heap.size]? = some (.cells (Frm.A Frm.zero) 42 (0, 0)) := block_alloc
                    clear x6
                    go_wp2_with (refine wpList_store_whole rfl 42 _ _ rfl w6.heap.size rfl (Frm.A Frm.zero) _ rfl 42 ?_ hbs ?_ ?_ ?_; (rw [HZ.out]; exact aggFrame); (rfl); exact Frm.A_one _)
                    rw [setRow_alloc]
                    clear hbs
                    generalize w6.alloc (.cells (Frm.A Frm.zero) 42) = v7 at *
                    have xd : Ext v7 v7.drew := (Ext.refl v7).drew
                    refine wp_region_rely_all (S := Ext) (.fin [0, 1, 2, 3, 4, 5, 6, 7, 8, 9, 10, 11, 12, 13, 14, 15, 16]) (by kernel_rfl) (by kernel_rfl) (fun _ _ d _ _ h => by cases d <;> exact h) ?_
                    --R27
                    rw [wpS]; simp only [opsAt, List.map_cons, List.map_nil, Array.getD_eq_getD_getElem?, List.getElem?_toArray, List.getElem?_cons_succ, List.getElem?_cons_zero, Option.getD_some]
                    iterate 5 ((refine wpSQ_step (fun K hK => ?_); go_simp; first | (refine hK _ ?_; clear hK K) | (apply Exists.intro; refine ⟨fun x => ?_, hK _ ?_⟩; (fail); clear hK K)))
                    (refine wpSQ_step (fun K hK => ?_); go_simp; first | (refine hK _ ?_; clear hK K) | (apply Exists.intro; refine ⟨fun x => ?_, hK _ ?_⟩; (fail); clear hK K))
                    iterate 9 ((refine wpSQ_pass rfl (fun K hK => ?_); go_simp; refine hK _ ?_; clear hK K))
                    iterate 2 ((refine wpSQ_step (fun K hK => ?_); go_simp; first | (refine hK _ ?_; clear hK K) | (apply Exists.intro; refine ⟨fun x => ?_, hK _ ?_⟩; (fail); clear hK K)))
                    refine wpSQ_nil ?_
                    intro W hW
                    have X7 := hid (Ext.trans X7.out (Ext.trans xd hW))
                    clear hW
                    go_wp2_with fail
                    refine (at_get (HRF.out.ext X7.out) d x 3 d x).mono ?_
                    rintro e w8 ⟨rfl, x8⟩
                    rw [HN1.out]
                    simp only [gotO, Option.getD_none, Option.isSome_none]
                    have X8 := hid ((Ext.trans X7.out x8).alloc (.cells (Frm.A Frm.zero) 42))
                    have hbs : (w8.alloc (.cells (Frm.A Frm.zero) 42)).heap[w8.heap.size]? = some (.cells (Frm.A Frm.zero) 42 (0, 0)) := block_alloc
                    clear x8
                    go_wp2_with (refine wpList_store_whole rfl 42 _ _ rfl w8.heap.size rfl (Frm.A Frm.zero) _ rfl 42 ?_ hbs ?_ ?_ ?_; (rw [HZ.out]; exact aggFrame); (rfl); exact Frm.A_one _)
                    rw [setRow_alloc]
                    clear hbs
                    generalize w8.alloc (.cells (Frm.A Frm.zero) 42) = v8 at *
                    go_wp2_with fail
                    refine (at_get (HRF.out.ext X8.out) d x 2 ((d : Int) + 1) x).mono ?_
                    rintro e w9 ⟨rfl, x9⟩
                    rw [HN2.out]
                    simp only [gotO, Option.getD_none, Option.isSome_none]
                    have X9 := hid ((Ext.trans X8.out x9).alloc (.cells (Frm.A Frm.zero) 42))
                    have hbs : (w9.alloc (.cells (Frm.A Frm.zero) 42)).heap[w9.heap.size]? = some (.cells (Frm.A Frm.zero) 42 (0, 0)) := block_alloc
                    clear x9
                    go_wp2_with (refine wpList_store_whole rfl 42 _ _ rfl w9.heap.size rfl (Frm.A Frm.zero) _ rfl 42 ?_ hbs ?_ ?_ ?_; (rw [HZ.out]; exact aggFrame); (rfl); exact Frm.A_one _)
                    rw [setRow_alloc]
                    clear hbs
                    generalize w9.alloc (.cells (Frm.A Frm.zero) 42) = v9 at *
                    go_wp2_with fail
                    refine (at_get (HRF.out.ext X9.out) d x 2 d ((x : Int) + 1)).mono ?_
                    rintro e w10 ⟨rfl, x10⟩
                    rw [HN3.out]
                    simp only [gotO, Option.getD_none, Option.isSome_none]
                    have X10 := hid ((Ext.trans X9.out x10).alloc (.cells (Frm.A Frm.zero) 42))
                    have hbs : (w10.alloc (.cells (Frm.A Frm.zero) 42)).heap[w10.heap.size]? = some (.cells (Frm.A Frm.zero) 42 (0, 0)) := block_alloc
                    clear x10
                    go_wp2_with (refine wpList_store_whole rfl 42 _ _ rfl w10.heap.size rfl (Frm.A Frm.zero) _ rfl 42 ?_ hbs ?_ ?_ ?_; (rw [HZ.out]; exact aggFrame); (rfl); exact Frm.A_one _)
                    rw [setRow_alloc]
                    clear hbs
                    generalize w10.alloc (.cells (Frm.A Frm.zero) 42) = v10 at *
                    go_wp2
                    go_roundw
                    case rel => exact ⟨x + 1, by go_num, by omega, X10.out⟩
                    case measure => simp [intOf]; omega
                  · have hgood : ¬ (d = a ∧ (false = true ∨ x = b)) := fun q => hxb (q.2.resolve_left (by simp))
                    have n2 : ((x : Int) == (b : Int)) = false := by simp; omega
                    subst hda
                    clear hxb
                    have HO : Hid (R.get d x 2 d x = some (fr d x)) := hid (by rw [FIN.out.get d x hlt hlx, if_pos ⟨hgood, rfl, rfl, fun _ => rfl⟩])
                    go_wp2_with fail
                    refine (at_get (HRF.out.ext HXX.out) d x 2 d x).mono ?_
                    rintro e w6 ⟨rfl, x6⟩
                    rw [HO.out]
                    simp only [gotO, Option.getD_some, Option.isSome_some]
                    have HS := hid (Frm.A_size _ (fr_ok d x))
                    have X7 := hid ((Ext.trans HXX.out x6).alloc (.cells (Frm.A (fr d x)) 42))
                    have hbs : (w6.alloc (.cells (Frm.A Frm.zero) 42)).heap[w6.heap.size]? = some (.cells (Frm.A Frm.zero) 42 (0, 0)) := block_alloc
                    have HC7 : Hid ((w6.alloc (.cells (Frm.A (fr d x)) 42)).heap[w6.heap.size]? = some (.cells (Frm.A (fr d x)) 42 (0, 0))) := hid block_alloc
                    clear x6
                    go_wp2_with (refine wpList_store_whole rfl 42 _ _ rfl w6.heap.size rfl (Frm.A (fr d x)) _ rfl 42 ?_ hbs ?_ ?_ ?_; (rw [HS.out]; exact aggFrame); (rw [HS.out, HZ.out]); exact Frm.A_one _)
                    rw [setRow_alloc]
                    clear hbs
                    have HFE := hid (frame_neq (fr d x) (fr d x) (fr_ok d x) (fr_ok d x))
                    have HEB : Hid ((!Frm.eqB (fr d x) (fr d x)) = false) := hid (by rw [Frm.eqB_self]; rfl)
                    rw [HEB.out] at HFE
                    generalize w6.heap.size = g at *
                    generalize w6.alloc (.cells (Frm.A (fr d x)) 42) = v7 at *
                    have xd : Ext v7 v7.drew := (Ext.refl v7).drew
                    have hwr : IntKind.i64.wrap (IntKind.i64.wrap ((d : Int) * 3) + (x : Int)) = (d : Int) * 3 + x := by rw [IntKind.wrap_i64, IntKind.wrap_i64]; omega
                    have fc : Hid (∀ v : SW Ext v7.drew, Calls Tryd.prog 23 #[.int .i64 2, .int .i64 d, .int .i64 x, .int .i64 5, .int .i64 (IntKind.i64.wrap (IntKind.i64.wrap ((d : Int) * 3) + (x : Int)))] v.w fun e w'' => e = .returned (.agg (Frm.A (fr d x))) ∧ Ext v.w w'') := hid (fun v => by rw [hwr]; exact kframe_c 2 d x 5 (d * 3 + x) v.w)
                    clear hwr
                    have lc : Hid (∀ v : SW Ext v7.drew, ∀ j u, (Frm.A (fr d x)).toList[j]? = some u → v.w.cell? ((⟨g, 0, none⟩ : Addr).add j) = some u) := hid fun v => agg_cells ((Ext.trans xd v.ext).at HC7.out)
                    generalize fr d x = f at *
                    refine wp_region_rely_all (S := Ext) (.fin [0, 1, 2, 3, 4, 5, 6, 7, 8, 9, 10, 11, 12, 13, 14, 15, 16]) (by kernel_rfl) (by kernel_rfl) (fun _ _ d _ _ h => by cases d <;> exact h) ?_
                    --R27
                    rw [wpS]; simp only [opsAt, List.map_cons, List.map_nil, Array.getD_eq_getD_getElem?, List.getElem?_toArray, List.getElem?_cons_succ, List.getElem?_cons_zero, Option.getD_some]
                    iterate 6 ((refine wpSQ_step (fun K hK => ?_); go_simp; first | (refine hK _ ?_; clear hK K) | (apply Exists.intro; refine ⟨fun x => ?_, hK _ ?_⟩; (fail); clear hK K)))
                    refine wpSQ_load_agg 42 _ rfl ⟨g, 0, none⟩ rfl (Frm.A f) rfl (by rw [HS.out]; exact aggFrame) lc.out ?_
                    iterate 6 ((refine wpSQ_step (fun K hK => ?_); go_simp; first | (refine hK _ ?_; clear hK K) | (apply Exists.intro; refine ⟨fun x => ?_, hK _ ?_⟩; (fail); clear hK K)))
                    (refine wpSQ_step (fun K hK => ?_); go_simp; first | (refine hK _ ?_; clear hK K) | (apply Exists.intro; refine ⟨fun x => ?_, hK _ ?_⟩; (exact fc.out x); clear hK K))
                    refine wpSQ_eql .neq 42 _ _ _ rfl (Frm.A f) (Frm.A f) rfl rfl (.bool false) rfl (fun w => frame_guard _ _ _ _ _ w) HFE.out ?_
                    iterate 2 ((refine wpSQ_step (fun K hK => ?_); go_simp; first | (refine hK _ ?_; clear hK K) | (apply Exists.intro; refine ⟨fun x => ?_, hK _ ?_⟩; (fail); clear hK K)))
                    refine wpSQ_nil ?_
                    intro W hW
                    have X7 := hid (Ext.trans X7.out (Ext.trans xd hW))
                    clear hW
                    go_wp2_with fail
                    refine (at_get (HRF.out.ext X7.out) d x 3 d x).mono ?_
                    rintro e w8 ⟨rfl, x8⟩
                    rw [HN1.out]
                    simp only [gotO, Option.getD_none, Option.isSome_none]
                    have X8 := hid ((Ext.trans X7.out x8).alloc (.cells (Frm.A Frm.zero) 42))
                    have hbs : (w8.alloc (.cells (Frm.A Frm.zero) 42)).heap[w8.heap.size]? = some (.cells (Frm.A Frm.zero) 42 (0, 0)) := block_alloc
                    clear x8
                    go_wp2_with (refine wpList_store_whole rfl 42 _ _ rfl w8.heap.size rfl (Frm.A Frm.zero) _ rfl 42 ?_ hbs ?_ ?_ ?_; (rw [HZ.out]; exact aggFrame); (rfl); exact Frm.A_one _)
                    rw [setRow_alloc]
                    clear hbs
                    generalize w8.alloc (.cells (Frm.A Frm.zero) 42) = v8 at *
                    go_wp2_with fail
                    refine (at_get (HRF.out.ext X8.out) d x 2 ((d : Int) + 1) x).mono ?_
                    rintro e w9 ⟨rfl, x9⟩
                    rw [HN2.out]
                    simp only [gotO, Option.getD_none, Option.isSome_none]
                    have X9 := hid ((Ext.trans X8.out x9).alloc (.cells (Frm.A Frm.zero) 42))
                    have hbs : (w9.alloc (.cells (Frm.A Frm.zero) 42)).heap[w9.heap.size]? = some (.cells (Frm.A Frm.zero) 42 (0, 0)) := block_alloc
                    clear x9
                    go_wp2_with (refine wpList_store_whole rfl 42 _ _ rfl w9.heap.size rfl (Frm.A Frm.zero) _ rfl 42 ?_ hbs ?_ ?_ ?_; (rw [HZ.out]; exact aggFrame); (rfl); exact Frm.A_one _)
                    rw [setRow_alloc]
                    clear hbs
                    generalize w9.alloc (.cells (Frm.A Frm.zero) 42) = v9 at *
                    go_wp2_with fail
                    refine (at_get (HRF.out.ext X9.out) d x 2 d ((x : Int) + 1)).mono ?_
                    rintro e w10 ⟨rfl, x10⟩
                    rw [HN3.out]
                    simp only [gotO, Option.getD_none, Option.isSome_none]
                    have X10 := hid ((Ext.trans X9.out x10).alloc (.cells (Frm.A Frm.zero) 42))
                    have hbs : (w10.alloc (.cells (Frm.A Frm.zero) 42)).heap[w10.heap.size]? = some (.cells (Frm.A Frm.zero) 42 (0, 0)) := block_alloc
                    clear x10
                    go_wp2_with (refine wpList_store_whole rfl 42 _ _ rfl w10.heap.size rfl (Frm.A Frm.zero) _ rfl 42 ?_ hbs ?_ ?_ ?_; (rw [HZ.out]; exact aggFrame); (rfl); exact Frm.A_one _)
                    rw [setRow_alloc]
                    clear hbs
                    generalize w10.alloc (.cells (Frm.A Frm.zero) 42) = v10 at *
                    go_wp2
                    go_roundw
                    case rel => exact ⟨x + 1, by go_num, by omega, X10.out⟩
                    case measure => simp [intOf]; omega
                · have hgood : ¬ (d = a ∧ (false = true ∨ x = b)) := fun q => hda q.1
                  have n1 : ((d : Int) == (a : Int)) = false := by simp; omega
                  clear hda
                  have HO : Hid (R.get d x 2 d x = some (fr d x)) := hid (by rw [FIN.out.get d x hlt hlx, if_pos ⟨hgood, rfl, rfl, fun _ => rfl⟩])
                  go_wp2_with fail
                  refine (at_get (HRF.out.ext HXX.out) d x 2 d x).mono ?_
                  rintro e w6 ⟨rfl, x6⟩
                  rw [HO.out]
                  simp only [gotO, Option.getD_some, Option.isSome_some]
                  have HS := hid (Frm.A_size _ (fr_ok d x))
                  have X7 := hid ((Ext.trans HXX.out x6).alloc (.cells (Frm.A (fr d x)) 42))
                  have hbs : (w6.alloc (.cells (Frm.A Frm.zero) 42)).heap[w6.heap.size]? = some (.cells (Frm.A Frm.zero) 42 (0, 0)) := block_alloc
                  have HC7 : Hid ((w6.alloc (.cells (Frm.A (fr d x)) 42)).heap[w6.heap.size]? = some (.cells (Frm.A (fr d x)) 42 (0, 0))) := hid block_alloc
                  clear x6
                  go_wp2_with (refine wpList_store_whole rfl 42 _ _ rfl w6.heap.size rfl (Frm.A (fr d x)) _ rfl 42 ?_ hbs ?_ ?_ ?_; (rw [HS.out]; exact aggFrame); (rw [HS.out, HZ.out]); exact Frm.A_one _)
                  rw [setRow_alloc]
                  clear hbs
                  have HFE := hid (frame_neq (fr d x) (fr d x) (fr_ok d x) (fr_ok d x))
                  have HEB : Hid ((!Frm.eqB (fr d x) (fr d x)) = false) := hid (by rw [Frm.eqB_self]; rfl)
                  rw [HEB.out] at HFE
                  generalize w6.heap.size = g at *
                  generalize w6.alloc (.cells (Frm.A (fr d x)) 42) = v7 at *
                  have xd : Ext v7 v7.drew := (Ext.refl v7).drew
                  have hwr : IntKind.i64.wrap (IntKind.i64.wrap ((d : Int) * 3) + (x : Int)) = (d : Int) * 3 + x := by rw [IntKind.wrap_i64, IntKind.wrap_i64]; omega
                  have fc : Hid (∀ v : SW Ext v7.drew, Calls Tryd.prog 23 #[.int .i64 2, .int .i64 d, .int .i64 x, .int .i64 5, .int .i64 (IntKind.i64.wrap (IntKind.i64.wrap ((d : Int) * 3) + (x : Int)))] v.w fun e w'' => e = .returned (.agg (Frm.A (fr d x))) ∧ Ext v.w w'') := hid (fun v => by rw [hwr]; exact kframe_c 2 d x 5 (d * 3 + x) v.w)
                  clear hwr
                  have lc : Hid (∀ v : SW Ext v7.drew, ∀ j u, (Frm.A (fr d x)).toList[j]? = some u → v.w.cell? ((⟨g, 0, none⟩ : Addr).add j) = some u) := hid fun v => agg_cells ((Ext.trans xd v.ext).at HC7.out)
                  generalize fr d x = f at *
                  refine wp_region_rely_all (S := Ext) (.fin [0, 1, 2, 3, 4, 5, 6, 7, 8, 9, 10, 11, 12, 13, 14, 15, 16]) (by kernel_rfl) (by kernel_rfl) (fun _ _ d _ _ h => by cases d <;> exact h) ?_
                  --R27
                  rw [wpS]; simp only [opsAt, List.map_cons, List.map_nil, Array.getD_eq_getD_getElem?, List.getElem?_toArray, List.getElem?_cons_succ, List.getElem?_cons_zero, Option.getD_some]
                  iterate 6 ((refine wpSQ_step (fun K hK => ?_); go_simp; first | (refine hK _ ?_; clear hK K) | (apply Exists.intro; refine ⟨fun x => ?_, hK _ ?_⟩; (fail); clear hK K)))
                  refine wpSQ_load_agg 42 _ rfl ⟨g, 0, none⟩ rfl (Frm.A f) rfl (by rw [HS.out]; exact aggFrame) lc.out ?_
                  iterate 6 ((refine wpSQ_step (fun K hK => ?_); go_simp; first | (refine hK _ ?_; clear hK K) | (apply Exists.intro; refine ⟨fun x => ?_, hK _ ?_⟩; (fail); clear hK K)))
                  (refine wpSQ_step (fun K hK => ?_); go_simp; first | (refine hK _ ?_; clear hK K) | (apply Exists.intro; refine ⟨fun x => ?_, hK _ ?_⟩; (exact fc.out x); clear hK K))
                  refine wpSQ_eql .neq 42 _ _ _ rfl (Frm.A f) (Frm.A f) rfl rfl (.bool false) rfl (fun w => frame_guard _ _ _ _ _ w) HFE.out ?_
                  iterate 2 ((refine wpSQ_step (fun K hK => ?_); go_simp; first | (refine hK _ ?_; clear hK K) | (apply Exists.intro; refine ⟨fun x => ?_, hK _ ?_⟩; (fail); clear hK K)))
                  refine wpSQ_nil ?_
                  intro W hW
                  have X7 := hid (Ext.trans X7.out (Ext.trans xd hW))
                  clear hW
                  go_wp2_with fail
                  refine (at_get (HRF.out.ext X7.out) d x 3 d x).mono ?_
                  rintro e w8 ⟨rfl, x8⟩
                  rw [HN1.out]
                  simp only [gotO, Option.getD_none, Option.isSome_none]
                  have X8 := hid ((Ext.trans X7.out x8).alloc (.cells (Frm.A Frm.zero) 42))
                  have hbs : (w8.alloc (.cells (Frm.A Frm.zero) 42)).heap[w8.heap.size]? = some (.cells (Frm.A Frm.zero) 42 (0, 0)) := block_alloc
                  clear x8
                  go_wp2_with (refine wpList_store_whole rfl 42 _ _ rfl w8.heap.size rfl (Frm.A Frm.zero) _ rfl 42 ?_ hbs ?_ ?_ ?_; (rw [HZ.out]; exact aggFrame); (rfl); exact Frm.A_one _)
                  rw [setRow_alloc]
                  clear hbs
                  generalize w8.alloc (.cells (Frm.A Frm.zero) 42) = v8 at *
                  go_wp2_with fail
                  refine (at_get (HRF.out.ext X8.out) d x 2 ((d : Int) + 1) x).mono ?_
                  rintro e w9 ⟨rfl, x9⟩
                  rw [HN2.out]
                  simp only [gotO, Option.getD_none, Option.isSome_none]
                  have X9 := hid ((Ext.trans X8.out x9).alloc (.cells (Frm.A Frm.zero) 42))
                  have hbs : (w9.alloc (.cells (Frm.A Frm.zero) 42)).heap[w9.heap.size]? = some (.cells (Frm.A Frm.zero) 42 (0, 0)) := block_alloc
                  clear x9
                  go_wp2_with (refine wpList_store_whole rfl 42 _ _ rfl w9.heap.size rfl (Frm.A Frm.zero) _ rfl 42 ?_ hbs ?_ ?_ ?_; (rw [HZ.out]; exact aggFrame); (rfl); exact Frm.A_one _)
                  rw [setRow_alloc]
                  clear hbs
                  generalize w9.alloc (.cells (Frm.A Frm.zero) 42) = v9 at *
                  go_wp2_with fail
                  refine (at_get (HRF.out.ext X9.out) d x 2 d ((x : Int) + 1)).mono ?_
                  rintro e w10 ⟨rfl, x10⟩
                  rw [HN3.out]
                  simp only [gotO, Option.getD_none, Option.isSome_none]
                  have X10 := hid ((Ext.trans X9.out x10).alloc (.cells (Frm.A Frm.zero) 42))
                  have hbs : (w10.alloc (.cells (Frm.A Frm.zero) 42)).heap[w10.heap.size]? = some (.cells (Frm.A Frm.zero) 42 (0, 0)) := block_alloc
                  clear x10
                  go_wp2_with (refine wpList_store_whole rfl 42 _ _ rfl w10.heap.size rfl (Frm.A Frm.zero) _ rfl 42 ?_ hbs ?_ ?_ ?_; (rw [HZ.out]; exact aggFrame); (rfl); exact Frm.A_one _)
                  rw [setRow_alloc]
                  clear hbs
                  generalize w10.alloc (.cells (Frm.A Frm.zero) 42) = v10 at *
                  go_wp2
                  go_roundw
                  case rel => exact ⟨x + 1, by go_num, by omega, X10.out⟩
                  case measure => simp [intOf]; omega

              · obtain rfl : x = 3 := by omega
                rw [show ((3 : Nat) : Int) = 3 from rfl]
                go_wp2
                go_roundw
                case rel => exact ⟨d + 1, by go_num, by omega, HXX.out⟩
                case measure => simp [intOf]; omega
          · obtain rfl : d = 4 := by omega
            rw [show ((4 : Nat) : Int) = 4 from rfl]
            have HUP : Hid (R.up (a : Int) = true) := hid FIN.out.up
            have HH4 : Hid (R.has 4 = false) := hid (FIN.out.live.hasnt (i := 4) (by omega))
            have HH1 : Hid (R.has (-1) = false) := hid (FIN.out.live.hasnt (i := -1) (by omega))
            have HH9 : Hid (R.has 9 = false) := hid (FIN.out.live.hasnt (i := 9) (by omega))
            have HR9 : Hid (R.rotOk 9 0 0 1 = false) := hid (by unfold Rck.rotOk; rw [HH9.out]; rfl)
            have HD4 : Hid (R.die 4 = R) := hid (by unfold Rck.die; rw [HH4.out]; rfl)
            have HP1 : Hid (R.replace (-1) = R) := hid (by unfold Rck.replace; rw [HH1.out]; rfl)
            have HT9 : Hid (R.rot 9 0 0 1 = R) := hid (by unfold Rck.rot; rw [HR9.out]; rfl)
            go_wp2_with fail
            refine (at_up (HRF.out.ext HXD.out) a).mono ?_
            rintro e w6 ⟨rfl, rfl⟩
            rw [HUP.out]
            go_wp2_with fail
            refine (at_die (HRF.out.ext HXD.out) 4).mono ?_
            rintro e w6 ⟨rfl, h6, k6⟩
            rw [HH4.out]
            rw [HD4.out] at h6
            have H6 := hid h6; have X6 := hid (Keeps.ext (Ext.trans X5.out HXD.out) k6 fun q hq => hq)
            clear h6 k6
            go_wp2_with fail
            refine (at_replace H6.out (-1)).mono ?_
            rintro e w7 ⟨rfl, h7, k7⟩
            rw [HH1.out]
            rw [HP1.out] at h7
            have H7 := hid h7; have X7 := hid (Keeps.ext X6.out k7 fun q hq => hq)
            clear h7 k7
            go_wp2_with fail
            refine (at_rot H7.out 9 0 0 1 (by omega)).mono ?_
            rintro e w8 ⟨rfl, h8, k8⟩
            rw [HR9.out]
            have X8 := hid (Keeps.ext X7.out k8 fun q hq => hq)
            clear h8 k8
            go_wp2_with fail
            refine (rackRuns_c w8 (HG.out.only X8.out (fun x => x))).mono ?_
            rintro e w9 ⟨rfl, x9⟩
            have X9 := hid (Ext.trans X8.out x9)
            clear x9
            go_wp2
            go_ret
            exact ⟨rfl, X9.out⟩
      · go_wp2_with fail
        refine (at_die HRA.out a).mono ?_
        rintro e w5 ⟨rfl, h5, k5⟩
        have FIN := hid (fin_gone HST.out a b ha4)
        obtain ⟨R, hR⟩ : ∃ R, R0.die a = R := ⟨_, rfl⟩
        rw [hR] at h5 FIN
        obtain ⟨hh, hhe⟩ : ∃ h, R0.has a = h := ⟨_, rfl⟩
        rw [hhe]
        have HRF := hid h5; have X5 := hid (Keeps.ext HX.out k5 fun q hq => hq)
        clear h5 k5 hR HST HRA HX hhe
        go_wp2
        go_loopw [15] (fun v wr => ∃ d : Nat, v = .int .i64 d ∧ d ≤ 4 ∧ Ext w5 wr) (fun v _ => 4 - (intOf v).toNat)
        case atStart => exact ⟨0, rfl, by omega, Ext.refl _⟩
        case round =>
          obtain ⟨d, rfl, hd, hx⟩ := hrel
          have HXD := hid hx
          clear hx
          by_cases hlt : d < 4
          · have d0 : (0 : Int) ≤ (d : Int) := by omega
            have d1 : (d : Int) < 4 := by omega
            go_wp2
            go_loopw [16] (fun v wr => ∃ x : Nat, v = .int .i64 x ∧ x ≤ 3 ∧ Ext w5 wr) (fun v _ => 3 - (intOf v).toNat)
            case atStart => exact ⟨0, rfl, by omega, HXD.out⟩
            case round =>
              obtain ⟨x, rfl, hx3, hx⟩ := hrel
              have HXX := hid hx
              clear hx
              by_cases hlx : x < 3
              · have x0 : (0 : Int) ≤ (x : Int) := by omega
                have x1 : (x : Int) < 3 := by omega
                have HN1 : Hid (R.get d x 3 d x = none) := hid (by rw [FIN.out.get d x hlt hlx, if_neg (fun q => absurd q.2.1 (by omega))])
                have HN2 : Hid (R.get d x 2 ((d : Int) + 1) x = none) := hid (by rw [FIN.out.get d x hlt hlx, if_neg (fun q => absurd q.2.2.1 (by omega))])
                have HN3 : Hid (R.get d x 2 d ((x : Int) + 1) = none) := hid (by rw [FIN.out.get d x hlt hlx, if_neg (fun q => absurd (q.2.2.2 (by omega)) (by omega))])
                by_cases hda : d = a
                · have hbad : d = a ∧ (true = true ∨ x = b) := ⟨hda, .inl rfl⟩
                  subst hda
                  have HO : Hid (R.get d x 2 d x = none) := hid (by rw [FIN.out.get d x hlt hlx, if_neg (fun q => q.1 hbad)])
                  go_wp2_with fail
                  refine (at_get (HRF.out.ext HXX.out) d x 2 d x).mono ?_
                  rintro e w6 ⟨rfl, x6⟩
                  rw [HO.out]
                  simp only [gotO, Option.getD_none, Option.isSome_none]
                  have X7 := hid ((Ext.trans HXX.out x6).alloc (.cells (Frm.A Frm.zero) 42))
                  have hbs : (w6.alloc (.cells (Frm.A Frm.zero) 42)).heap[w6.heap.size]? = some (.cells (Frm.A Frm.zero) 42 (0, 0)) := block_alloc
                  clear x6
                  go_wp2_with (refine wpList_store_whole rfl 42 _ _ rfl w6.heap.size rfl (Frm.A Frm.zero) _ rfl 42 ?_ hbs ?_ ?_ ?_; (rw [HZ.out]; exact aggFrame); (rfl); exact Frm.A_one _)
                  rw [setRow_alloc]
                  clear hbs
                  generalize w6.alloc (.cells (Frm.A Frm.zero) 42) = v7 at *
                  have xd : Ext v7 v7.drew := (Ext.refl v7).drew
                  refine wp_region_rely_all (S := Ext) (.fin [0, 1, 2, 3, 4, 5, 6, 7, 8, 9, 10, 11, 12, 13, 14, 15, 16]) (by kernel_rfl) (by kernel_rfl) (fun _ _ d _ _ h => by cases d <;> exact h) ?_
                  --R27
                  rw [wpS]; simp only [opsAt, List.map_cons, List.map_nil, Array.getD_eq_getD_getElem?, List.getElem?_toArray, List.getElem?_cons_succ, List.getElem?_cons_zero, Option.getD_some]
                  iterate 5 ((refine wpSQ_step (fun K hK => ?_); go_simp; first | (refine hK _ ?_; clear hK K) | (apply Exists.intro; refine ⟨fun x => ?_, hK _ ?_⟩; (fail); clear hK K)))
                  (refine wpSQ_step (fun K hK => ?_); go_simp; first | (refine hK _ ?_; clear hK K) | (apply Exists.intro; refine ⟨fun x => ?_, hK _ ?_⟩; (fail); clear hK K))
                  iterate 9 ((refine wpSQ_pass rfl (fun K hK => ?_); go_simp; refine hK _ ?_; clear hK K))
                  iterate 2 ((refine wpSQ_step (fun K hK => ?_); go_simp; first | (refine hK _ ?_; clear hK K) | (apply Exists.intro; refine ⟨fun x => ?_, hK _ ?_⟩; (fail); clear hK K)))
                  refine wpSQ_nil ?_
                  intro W hW
                  have X7 := hid (Ext.trans X7.out (Ext.trans xd hW))
                  clear hW
                  go_wp2_with fail
                  refine (at_get (HRF.out.ext X7.out) d x 3 d x).mono ?_
                  rintro e w8 ⟨rfl, x8⟩
                  rw [HN1.out]
                  simp only [gotO, Option.getD_none, Option.isSome_none]
                  have X8 := hid ((Ext.trans X7.out x8).alloc (.cells (Frm.A Frm.zero) 42))
                  have hbs : (w8.alloc (.cells (Frm.A Frm.zero) 42)).heap[w8.heap.size]? = some (.cells (Frm.A Frm.zero) 42 (0, 0)) := block_alloc
                  clear x8
                  go_wp2_with (refine wpList_store_whole rfl 42 _ _ rfl w8.heap.size rfl (Frm.A Frm.zero) _ rfl 42 ?_ hbs ?_ ?_ ?_; (rw [HZ.out]; exact aggFrame); (rfl); exact Frm.A_one _)
                  rw [setRow_alloc]
                  clear hbs
                  generalize w8.alloc (.cells (Frm.A Frm.zero) 42) = v8 at *
                  go_wp2_with fail
                  refine (at_get (HRF.out.ext X8.out) d x 2 ((d : Int) + 1) x).mono ?_
                  rintro e w9 ⟨rfl, x9⟩
                  rw [HN2.out]
                  simp only [gotO, Option.getD_none, Option.isSome_none]
                  have X9 := hid ((Ext.trans X8.out x9).alloc (.cells (Frm.A Frm.zero) 42))
                  have hbs : (w9.alloc (.cells (Frm.A Frm.zero) 42)).heap[w9.heap.size]? = some (.cells (Frm.A Frm.zero) 42 (0, 0)) := block_alloc
                  clear x9
                  go_wp2_with (refine wpList_store_whole rfl 42 _ _ rfl w9.heap.size rfl (Frm.A Frm.zero) _ rfl 42 ?_ hbs ?_ ?_ ?_; (rw [HZ.out]; exact aggFrame); (rfl); exact Frm.A_one _)
                  rw [setRow_alloc]
                  clear hbs
                  generalize w9.alloc (.cells (Frm.A Frm.zero) 42) = v9 at *
                  go_wp2_with fail
                  refine (at_get (HRF.out.ext X9.out) d x 2 d ((x : Int) + 1)).mono ?_
                  rintro e w10 ⟨rfl, x10⟩
                  rw [HN3.out]
                  simp only [gotO, Option.getD_none, Option.isSome_none]
                  have X10 := hid ((Ext.trans X9.out x10).alloc (.cells (Frm.A Frm.zero) 42))
                  have hbs : (w10.alloc (.cells (Frm.A Frm.zero) 42)).heap[w10.heap.size]? = some (.cells (Frm.A Frm.zero) 42 (0, 0)) := block_alloc
                  clear x10
                  go_wp2_with (refine wpList_store_whole rfl 42 _ _ rfl w10.heap.size rfl (Frm.A Frm.zero) _ rfl 42 ?_ hbs ?_ ?_ ?_; (rw [HZ.out]; exact aggFrame); (rfl); exact Frm.A_one _)
                  rw [setRow_alloc]
                  clear hbs
                  generalize w10.alloc (.cells (Frm.A Frm.zero) 42) = v10 at *
                  go_wp2
                  go_roundw
                  case rel => exact ⟨x + 1, by go_num, by omega, X10.out⟩
                  case measure => simp [intOf]; omega
                · have hgood : ¬ (d = a ∧ (true = true ∨ x = b)) := fun q => hda q.1
                  have n1 : ((d : Int) == (a : Int)) = false := by simp; omega
                  clear hda
                  have HO : Hid (R.get d x 2 d x = some (fr d x)) := hid (by rw [FIN.out.get d x hlt hlx, if_pos ⟨hgood, rfl, rfl, fun _ => rfl⟩])
                  go_wp2_with fail
                  refine (at_get (HRF.out.ext HXX.out) d x 2 d x).mono ?_
                  rintro e w6 ⟨rfl, x6⟩
                  rw [HO.out]
                  simp only [gotO, Option.getD_some, Option.isSome_some]
                  have HS := hid (Frm.A_size _ (fr_ok d x))
                  have X7 := hid ((Ext.trans HXX.out x6).alloc (.cells (Frm.A (fr d x)) 42))
                  have hbs : (w6.alloc (.cells (Frm.A Frm.zero) 42)).heap[w6.heap.size]? = some (.cells (Frm.A Frm.zero) 42 (0, 0)) := block_alloc
                  have HC7 : Hid ((w6.alloc (.cells (Frm.A (fr d x)) 42)).heap[w6.heap.size]? = some (.cells (Frm.A (fr d x)) 42 (0, 0))) := hid block_alloc
                  clear x6
                  go_wp2_with (refine wpList_store_whole rfl 42 _ _ rfl w6.heap.size rfl (Frm.A (fr d x)) _ rfl 42 ?_ hbs ?_ ?_ ?_; (rw [HS.out]; exact aggFrame); (rw [HS.out, HZ.out]); exact Frm.A_one _)
                  rw [setRow_alloc]
                  clear hbs
                  have HFE := hid (frame_neq (fr d x) (fr d x) (fr_ok d x) (fr_ok d x))
                  have HEB : Hid ((!Frm.eqB (fr d x) (fr d x)) = false) := hid (by rw [Frm.eqB_self]; rfl)
                  rw [HEB.out] at HFE
                  generalize w6.heap.size = g at *
                  generalize w6.alloc (.cells (Frm.A (fr d x)) 42) = v7 at *
                  have xd : Ext v7 v7.drew := (Ext.refl v7).drew
                  have hwr : IntKind.i64.wrap (IntKind.i64.wrap ((d : Int) * 3) + (x : Int)) = (d : Int) * 3 + x := by rw [IntKind.wrap_i64, IntKind.wrap_i64]; omega
                  have fc : Hid (∀ v : SW Ext v7.drew, Calls Tryd.prog 23 #[.int .i64 2, .int .i64 d, .int .i64 x, .int .i64 5, .int .i64 (IntKind.i64.wrap (IntKind.i64.wrap ((d : Int) * 3) + (x : Int)))] v.w fun e w'' => e = .returned (.agg (Frm.A (fr d x))) ∧ Ext v.w w'') := hid (fun v => by rw [hwr]; exact kframe_c 2 d x 5 (d * 3 + x) v.w)
                  clear hwr
                  have lc : Hid (∀ v : SW Ext v7.drew, ∀ j u, (Frm.A (fr d x)).toList[j]? = some u → v.w.cell? ((⟨g, 0, none⟩ : Addr).add j) = some u) := hid fun v => agg_cells ((Ext.trans xd v.ext).at HC7.out)
                  generalize fr d x = f at *
                  refine wp_region_rely_all (S := Ext) (.fin [0, 1, 2, 3, 4, 5, 6, 7, 8, 9, 10, 11, 12, 13, 14, 15, 16]) (by kernel_rfl) (by kernel_rfl) (fun _ _ d _ _ h => by cases d <;> exact h) ?_
                  --R27
                  rw [wpS]; simp only [opsAt, List.map_cons, List.map_nil, Array.getD_eq_getD_getElem?, List.getElem?_toArray, List.getElem?_cons_succ, List.getElem?_cons_zero, Option.getD_some]
                  iterate 6 ((refine wpSQ_step (fun K hK => ?_); go_simp; first | (refine hK _ ?_; clear hK K) | (apply Exists.intro; refine ⟨fun x => ?_, hK _ ?_⟩; (fail); clear hK K)))
                  refine wpSQ_load_agg 42 _ rfl ⟨g, 0, none⟩ rfl (Frm.A f) rfl (by rw [HS.out]; exact aggFrame) lc.out ?_
                  iterate 6 ((refine wpSQ_step (fun K hK => ?_); go_simp; first | (refine hK _ ?_; clear hK K) | (apply Exists.intro; refine ⟨fun x => ?_, hK _ ?_⟩; (fail); clear hK K)))
                  (refine wpSQ_step (fun K hK => ?_); go_simp; first | (refine hK _ ?_; clear hK K) | (apply Exists.intro; refine ⟨fun x => ?_, hK _ ?_⟩; (exact fc.out x); clear hK K))
                  refine wpSQ_eql .neq 42 _ _ _ rfl (Frm.A f) (Frm.A f) rfl rfl (.bool false) rfl (fun w => frame_guard _ _ _ _ _ w) HFE.out ?_
                  iterate 2 ((refine wpSQ_step (fun K hK => ?_); go_simp; first | (refine hK _ ?_; clear hK K) | (apply Exists.intro; refine ⟨fun x => ?_, hK _ ?_⟩; (fail); clear hK K)))
                  refine wpSQ_nil ?_
                  intro W hW
                  have X7 := hid (Ext.trans X7.out (Ext.trans xd hW))
                  clear hW
                  go_wp2_with fail
                  refine (at_get (HRF.out.ext X7.out) d x 3 d x).mono ?_
                  rintro e w8 ⟨rfl, x8⟩
                  rw [HN1.out]
                  simp only [gotO, Option.getD_none, Option.isSome_none]
                  have X8 := hid ((Ext.trans X7.out x8).alloc (.cells (Frm.A Frm.zero) 42))
                  have hbs : (w8.alloc (.cells (Frm.A Frm.zero) 42)).heap[w8.heap.size]? = some (.cells (Frm.A Frm.zero) 42 (0, 0)) := block_alloc
                  clear x8
                  go_wp2_with (refine wpList_store_whole rfl 42 _ _ rfl w8.heap.size rfl (Frm.A Frm.zero) _ rfl 42 ?_ hbs ?_ ?_ ?_; (rw [HZ.out]; exact aggFrame); (rfl); exact Frm.A_one _)
                  rw [setRow_alloc]
                  clear hbs
                  generalize w8.alloc (.cells (Frm.A Frm.zero) 42) = v8 at *
                  go_wp2_with fail
                  refine (at_get (HRF.out.ext X8.out) d x 2 ((d : Int) + 1) x).mono ?_
                  rintro e w9 ⟨rfl, x9⟩
                  rw [HN2.out]
                  simp only [gotO, Option.getD_none, Option.isSome_none]
                  have X9 := hid ((Ext.trans X8.out x9).alloc (.cells (Frm.A Frm.zero) 42))
                  have hbs : (w9.alloc (.cells (Frm.A Frm.zero) 42)).heap[w9.heap.size]? = some (.cells (Frm.A Frm.zero) 42 (0, 0)) := block_alloc
                  clear x9
                  go_wp2_with (refine wpList_store_whole rfl 42 _ _ rfl w9.heap.size rfl (Frm.A Frm.zero) _ rfl 42 ?_ hbs ?_ ?_ ?_; (rw [HZ.out]; exact aggFrame); (rfl); exact Frm.A_one _)
                  rw [setRow_alloc]
                  clear hbs
                  generalize w9.alloc (.cells (Frm.A Frm.zero) 42) = v9 at *
                  go_wp2_with fail
                  refine (at_get (HRF.out.ext X9.out) d x 2 d ((x : Int) + 1)).mono ?_
                  rintro e w10 ⟨rfl, x10⟩
                  rw [HN3.out]
                  simp only [gotO, Option.getD_none, Option.isSome_none]
                  have X10 := hid ((Ext.trans X9.out x10).alloc (.cells (Frm.A Frm.zero) 42))
                  have hbs : (w10.alloc (.cells (Frm.A Frm.zero) 42)).heap[w10.heap.size]? = some (.cells (Frm.A Frm.zero) 42 (0, 0)) := block_alloc
                  clear x10
                  go_wp2_with (refine wpList_store_whole rfl 42 _ _ rfl w10.heap.size rfl (Frm.A Frm.zero) _ rfl 42 ?_ hbs ?_ ?_ ?_; (rw [HZ.out]; exact aggFrame); (rfl); exact Frm.A_one _)
                  rw [setRow_alloc]
                  clear hbs
                  generalize w10.alloc (.cells (Frm.A Frm.zero) 42) = v10 at *
                  go_wp2
                  go_roundw
                  case rel => exact ⟨x + 1, by go_num, by omega, X10.out⟩
                  case measure => simp [intOf]; omega

              · obtain rfl : x = 3 := by omega
                rw [show ((3 : Nat) : Int) = 3 from rfl]
                go_wp2
                go_roundw
                case rel => exact ⟨d + 1, by go_num, by omega, HXX.out⟩
                case measure => simp [intOf]; omega
          · obtain rfl : d = 4 := by omega
            rw [show ((4 : Nat) : Int) = 4 from rfl]
            have HUP : Hid (R.up (a : Int) = false) := hid FIN.out.up
            have HH4 : Hid (R.has 4 = false) := hid (FIN.out.live.hasnt (i := 4) (by omega))
            have HH1 : Hid (R.has (-1) = false) := hid (FIN.out.live.hasnt (i := -1) (by omega))
            have HH9 : Hid (R.has 9 = false) := hid (FIN.out.live.hasnt (i := 9) (by omega))
            have HR9 : Hid (R.rotOk 9 0 0 1 = false) := hid (by unfold Rck.rotOk; rw [HH9.out]; rfl)
            have HD4 : Hid (R.die 4 = R) := hid (by unfold Rck.die; rw [HH4.out]; rfl)
            have HP1 : Hid (R.replace (-1) = R) := hid (by unfold Rck.replace; rw [HH1.out]; rfl)
            have HT9 : Hid (R.rot 9 0 0 1 = R) := hid (by unfold Rck.rot; rw [HR9.out]; rfl)
            go_wp2_with fail
            refine (at_up (HRF.out.ext HXD.out) a).mono ?_
            rintro e w6 ⟨rfl, rfl⟩
            rw [HUP.out]
            go_wp2_with fail
            refine (at_die (HRF.out.ext HXD.out) 4).mono ?_
            rintro e w6 ⟨rfl, h6, k6⟩
            rw [HH4.out]
            rw [HD4.out] at h6
            have H6 := hid h6; have X6 := hid (Keeps.ext (Ext.trans X5.out HXD.out) k6 fun q hq => hq)
            clear h6 k6
            go_wp2_with fail
            refine (at_replace H6.out (-1)).mono ?_
            rintro e w7 ⟨rfl, h7, k7⟩
            rw [HH1.out]
            rw [HP1.out] at h7
            have H7 := hid h7; have X7 := hid (Keeps.ext X6.out k7 fun q hq => hq)
            clear h7 k7
            go_wp2_with fail
            refine (at_rot H7.out 9 0 0 1 (by omega)).mono ?_
            rintro e w8 ⟨rfl, h8, k8⟩
            rw [HR9.out]
            have X8 := hid (Keeps.ext X7.out k8 fun q hq => hq)
            clear h8 k8
            go_wp2_with fail
            refine (rackRuns_c w8 (HG.out.only X8.out (fun x => x))).mono ?_
            rintro e w9 ⟨rfl, x9⟩
            have X9 := hid (Ext.trans X8.out x9)
            clear x9
            go_wp2
            go_ret
            exact ⟨rfl, X9.out⟩
end Go.Proofs.YtdbjojnejkklhaaDoor

/- The statement RackApart, as its tied card: for every input the call of stavelaw8's RackApart answers true, and its arguments read behind it as they read before. No condition of our own. -/
namespace Go.Proofs.YtdbjojnejkklhaaDoor.rackApart
open Go.ChangeShapes Go.WideShapes Go.ChangeAt Go.RowKit
open Go.ChangeMaps (open_string shut_string)
set_option linter.unusedVariables false
theorem laidOut : laidOutB Tryd.prog = true := by kernel_rfl
theorem walk (a0 : Int) (a1 : Int) (a2 : Int) (a3 : Bool) (w : World) (hg : EtLaid w) (w0 : (Lit.int .i64 a0).wf = true) (w1 : (Lit.int .i64 a1).wf = true) (w2 : (Lit.int .i64 a2).wf = true) :
    Calls Tryd.prog 6 #[.int .i64 a0, .int .i64 a1, .int .i64 a2, .bool a3] w fun e w' => e = .returned (.bool true) ∧ Below w.heap.size w w' :=
  (rackApart_c a0 a1 a2 a3 w hg).mono fun _ _ ⟨he, hx⟩ => ⟨he, hx.below⟩
set_option maxRecDepth 100000 in
theorem lifted (os : Os) (started : os.Started) (H : Type) (enc : TypeId × Value → H) :
    ReturnsInHanded {} Tryd.checked os 6 .any (fun w args => (Rows.rackApartSpec.pre enc Tryd.prog Tryd.f6 [] false w args ∧ laidMetH Tryd.prog theLaid w) ∧ sizedMet enc Tryd.prog Tryd.f6 (OpenSpec.ofChange Rows.rackApartSpec) false w args)
      (Rows.rackApartSpec.post enc Tryd.prog Tryd.f6 false true false false) := by
  refine returnsInHanded_of_change_and (C := Tryd.checked) (X := fun w _ => laidMetH Tryd.prog theLaid w) (fun _ _ _ hh h => h.of_heap hh) hOwn started (by kernel_rfl) Tryd.func6
    (ChangeSpec.witness_at (enc := enc) (C := Tryd.checked) (os := os) (X := fun w _ => laidMetH Tryd.prog theLaid w) false (laidWorld os) #[.int .i64 0, .int .i64 0, .int .i64 0, .bool false] 8 rfl (by kernel_rfl) (by kernel_rfl) (by kernel_rfl) (by kernel_rfl) (by kernel_rfl) (laidWorld_met os _)) ?_
  intro W base args ds gs before hval0 hW _ _ hL _
  have hval : ∀ (j : Nat) t v, Tryd.f6.params[j]? = some t → args[j]? = some v → Value.okWide Tryd.prog W .any base t v := hval0
  have hW' := hW
  obtain ⟨p, q, hA0, hV, rfl, hfz, hnd⟩ := hW
  have hA : DataW.TrodAll enc Tryd.prog W 0 (fun _ => true) true Tryd.f6.params.toList args.toList ds p := hA0
  rw [Tryd.params6] at hA hval
  obtain ⟨v0, vs0, d0, ds0, p0, q0, hargs, rfl, rfl, h0, r0⟩ := trodAll_cons hA
  obtain ⟨v1, vs1, d1, ds1, p1, q1, rfl, rfl, rfl, h1, r1⟩ := trodAll_cons r0
  obtain ⟨v2, vs2, d2, ds2, p2, q2, rfl, rfl, rfl, h2, r2⟩ := trodAll_cons r1
  obtain ⟨v3, vs3, d3, ds3, p3, q3, rfl, rfl, rfl, h3, r3⟩ := trodAll_cons r2
  obtain ⟨rfl, rfl, rfl⟩ := trodAll_nil r3
  obtain rfl : args = #[v0, v1, v2, v3] := by cases args; simp_all
  obtain ⟨rfl, rfl⟩ := trodVars_none hV
  obtain ⟨a0, rfl, rfl, rfl, w0⟩ := open_int Tryd.underlying3 (hval 0 3 v0 rfl rfl) h0
  obtain ⟨a1, rfl, rfl, rfl, w1⟩ := open_int Tryd.underlying3 (hval 1 3 v1 rfl rfl) h1
  obtain ⟨a2, rfl, rfl, rfl, w2⟩ := open_int Tryd.underlying3 (hval 2 3 v2 rfl rfl) h2
  obtain ⟨a3, rfl, rfl, rfl⟩ := open_bool Tryd.underlying4 (hval 3 4 v3 rfl rfl) h3
  have hg := etLaid_of hL
  clear hA0 hval0
  simp only [List.append_nil] at hW'
  refine (walk a0 a1 a2 a3 W hg w0 w1 w2).mono fun e W' ⟨he, bel⟩ => ?_
  subst he
  exact ⟨_, rfl, _, _, _, [], _, [], hW', trodAll_mk1 (shut_bool Tryd.underlying4 _), (trodAll_cons_mk (shut_int Tryd.underlying3 w0) (trodAll_cons_mk (shut_int Tryd.underlying3 w1) (trodAll_cons_mk (shut_int Tryd.underlying3 w2) (trodAll_cons_mk (shut_bool Tryd.underlying4 _) trodAll_mk0)))), rfl, bel.frame _, fun h => by cases h⟩
theorem over : Rows.RackApartSaid :=
  OpenClaim.holds_of_wide 6 Tryd.f6 rfl rfl rfl rfl rfl rfl rfl ⟨rfl, rfl, rfl, rfl, rfl⟩ rfl rfl rfl rfl rfl (by kernel_rfl) Tryd.func6 (by kernel_rfl)
    (of_decide_eq_true (by kernel_rfl)) (by unfold Func.isWrapper; first | (rw [if_pos (by decide +kernel)]; kernel_rfl) | (rw [if_neg (by decide +kernel)]; exact ⟨rfl, rfl⟩))
    (fun os started H enc _ => lifted os started H enc)
theorem proved : Rows.RackApartCardSaid :=
  Claim7.holds_tied_plain_at .later [] [.handle] true (true, "dba68c5c8641de8e0643fe4af85c7b77ef0591640622d3211a00d85201f74fa1") true
    over (fun _ h => by cases h) (by kernel_rfl) (fun _ h => by cases h) rackApart_row_tie rfl ⟨rfl, rfl⟩ (by kernel_rfl) rfl
    (fun f fn hf hfn => by
      obtain rfl : f = 6 := Option.some.inj ((show Tryd.prog.funcNamed "stave/stavelaw8.RackApart" = some 6 by kernel_rfl).symm.trans hf) |>.symm
      obtain rfl : fn = Tryd.f6 := (Option.some.inj (Tryd.func6.symm.trans hfn)).symm
      exact ⟨by kernel_rfl, fun j t ht => by
        rw [Tryd.params6] at ht
        rcases j with _ | _ | _ | _ | j
        · simp at ht; subst ht; kernel_rfl
        · simp at ht; subst ht; kernel_rfl
        · simp at ht; subst ht; kernel_rfl
        · simp at ht; subst ht; kernel_rfl
        · simp at ht⟩)
    (by kernel_rfl)
#print axioms proved
end Go.Proofs.YtdbjojnejkklhaaDoor.rackApart
