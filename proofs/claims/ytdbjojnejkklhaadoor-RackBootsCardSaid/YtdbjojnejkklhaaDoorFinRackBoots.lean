/- The statement RackBoots, as its tied card: for every input the call of stavelaw8's RackBoots answers true, and its arguments read behind it as they read before. No condition of our own. -/
/- Texts of one proof, joined: WRackBoots, LawRackBoots. -/
import Derived.Test.YtdbjojnejkklhaaDoorPartF
import Derived.Test.YtdbjojnejkklhaaDoorPartG
import Derived.Test.YtdbjojnejkklhaaDoorPartD
import Derived.Test.YtdbjojnejkklhaaDoorPartA
import Derived.Laws.BitsAllLaws
import Derived.Test.YtdbjojnejkklhaaDoorCards
import Derived.Test.YtdbjojnejkklhaaDoorTie
import Derived.Test.YtdbjojnejkklhaaDoorPartC
import Derived.WalkKit
import Derived.ProofKit
import Derived.OpenShut
import Derived.ShutString
import Derived.ChangeOld
import Derived.Below
import Derived.SevenTiedAt
set_option linter.unusedVariables false
set_option linter.unusedSimpArgs false
/- The walk of RackBoots. -/
namespace Go.Proofs.YtdbjojnejkklhaaDoor
set_option linter.unusedVariables false
open Go Go.RowKit
/-- Numbers of 64 bits that came in. -/
theorem IsRow.bits {w : World} {a : Option Addr} {len cap : Nat} {z : List Int} (h : IsRow .u64 w a len cap z) : BitsAt w a len ((z.take len).map Int.toNat) := by
  rcases h with ⟨rfl, rfl, rfl, rfl⟩ | ⟨x, rfl, hlc, hm, hz, hc, hw⟩
  · exact ⟨rfl, by simp, .inl rfl⟩
  · have hb : ∀ i, i < z.length → 0 ≤ z.getD i 0 ∧ z.getD i 0 ≤ 18446744073709551615 := fun i hi => by
      have e : z.getD i 0 = z[i] := by simp [hi]
      rw [e]; exact bounds_u64 (hw _ (List.getElem_mem hi))
    refine ⟨by simp; omega, fun y hy => ?_, ?_⟩
    · obtain ⟨q, hq, rfl⟩ := List.mem_map.1 hy
      have := bounds_u64 (hw q (List.mem_of_mem_take hq)); omega
    · by_cases h0 : len = 0
      · exact .inl h0
      · have h1 := hc 0 (by omega)
        obtain ⟨b, off, sp⟩ := x
        rcases sp with _ | sp
        · refine .inr ⟨b, off, rfl, fun i hi => ?_⟩
          have := hc i (by omega)
          have e : (⟨b, off, none⟩ : Addr).add i = ⟨b, off + i, none⟩ := by unfold Addr.add; split <;> simp_all
          rw [e] at this
          rw [this]
          have h2 := hb i (by omega)
          have e3 : ((z.take len).map Int.toNat).getD i 0 = (z.getD i 0).toNat := by
            have : i < z.length := by omega
            simp [List.getD_eq_getElem?_getD, List.getElem?_take, hi, this]
          rw [e3]
          congr 2; omega
        · exfalso
          unfold World.cell? Addr.add at h1
          split at h1 <;> simp_all
theorem or128 (x : Nat) (hx : x < 256) : Go.bits .or .u8 (x : Int) 128 = ((x ||| 128 : Nat) : Int) := u8_or_nat x 128 hx (by omega)
theorem or128_bd (x : Nat) (hx : x < 256) : x ||| 128 < 256 := Nat.or_lt_two_pow (n := 8) hx (by omega)
theorem bit_at (b s : Nat) (h1 : 1 ≤ s) (h4 : s < 4) (hb : b < 18446744073709551616) (B : Int) (hB : (b : Int) = B) : (Go.bits .and .u64 (B / 2 ^ (s - 1)) 1 == 1) = decide (b >>> (s - 1) % 2 = 1) := by
  have e := bit_walk b (s - 1) hb
  have h64 : (s - 1) % 64 = s - 1 := Nat.mod_eq_of_lt (by omega)
  rw [h64, hB] at e
  rw [e]
  unfold Dsk.bit
  rw [h64]
  rcases Nat.mod_two_eq_zero_or_one (b >>> (s - 1)) with h | h <;> rw [h] <;> rfl
def BootRel (w : World) (r k y d : Nat) (wr : World) : Prop := ∃ R, Boots.Outer R k y d ∧ RackAt (fun b => b < w.heap.size) wr r R ∧ Ext w wr
def BootIn (w : World) (r k y d : Nat) (D : Dsk) (wr : World) : Prop := ∃ R, Boots.Pre R k y d D ∧ RackAt (fun b => b < w.heap.size) wr r R ∧ Ext w wr
set_option maxRecDepth 100000 in
set_option maxHeartbeats 4000000 in
theorem rackBoots_c (n : Int) (a : Option Addr) (len cap : Nat) (z : List Int) (X : Int) (w : World) (hg : EtLaid w) (hl : IsRow .u64 w a len cap z) (hX : (Lit.int .u8 X).wf = true) :
    Calls Tryd.prog 3 #[.int .i64 n, .slice a len cap, .int .u8 X] w fun e w' => e = .returned (.bool true) ∧ Ext w w' := by
  have HG := hid hg
  have HL := hid hl.bits
  obtain ⟨b0, b1⟩ := bounds_u8 hX
  obtain ⟨x, rfl⟩ := Int.eq_ofNat_of_zero_le b0
  generalize (z.take len).map Int.toNat = bits at *
  have hxb : x < 256 := by omega
  have HO := hid (or128 x hxb)
  have hyb := or128_bd x hxb
  generalize x ||| 128 = y at *
  clear hg hl hX b0 b1
  go_enter Tryd.func3, Tryd.ntmps3
  go_wp2_with fail
  refine (within_c n 1 5 w (by omega) (by omega) (by omega)).mono ?_
  rintro e w2 ⟨rfl, rfl⟩
  obtain ⟨k0, k1⟩ := within_bd n 1 5 (by omega)
  generalize within n 1 5 = kk at *
  obtain ⟨k, rfl⟩ := Int.eq_ofNat_of_zero_le (show 0 ≤ kk by omega)
  go_wp2_with fail
  refine (at_new k 4 (by omega) (by omega) (by omega) (by omega) w).mono ?_
  rintro e w1 ⟨r, rfl, h1, x1⟩
  have HR : Hid (BootRel w r k y 0 w1) := hid ⟨_, Boots.Outer.start k y (by omega), h1, x1⟩
  clear h1 x1
  have hk5 : k ≤ 5 := by omega
  have hk1 : 1 ≤ k := by omega
  clear k0 k1
  go_wp2
  go_loopw [10] (fun v wr => ∃ d : Nat, v = .int .i64 d ∧ d ≤ k ∧ BootRel w r k y d wr) (fun v _ => k - (intOf v).toNat)
  case atStart => exact ⟨0, rfl, by omega, HR.out⟩
  case round =>
    clear HR
    obtain ⟨d, rfl, hd, hrel⟩ := hrel
    by_cases hlt : d < k
    · obtain ⟨R, hst, hra, hx⟩ := hrel
      have HI : Hid (BootIn w r k y d (Boots.W1 0) wr) := hid ⟨R, hst.pre hlt, hra, hx⟩
      have i0 : (0 : Int) ≤ (d : Int) := by omega
      have i1 : (d : Int) < (k : Int) := by omega
      clear hst hra hx
      go_wp2
      go_loopw [11] (fun v wr => ∃ s : Nat, v = .int .i64 s ∧ s ≤ 4 ∧ BootIn w r k y d (Boots.W1 s) wr) (fun v _ => 4 - (intOf v).toNat)
      case atStart => exact ⟨0, rfl, by omega, HI.out⟩
      case round =>
        clear HI
        obtain ⟨s, rfl, hs, R, hst, hra, hx⟩ := hrel
        have HRA := hid hra; have HX := hid hx
        clear hra hx
        by_cases hls : s < 4
        · have s0 : (0 : Int) ≤ (s : Int) := by omega
          have s1 : (s : Int) < 4 := by omega
          have s2 : (s : Int) % 256 = (s : Int) := by omega
          obtain ⟨R', hw, hst'⟩ := hst.write hlt (Boots.W1_ok s) hls s
          have HW := hid hw; have HST := hid hst'
          clear hst hw hst'
          go_wp2_with fail
          refine (sector_c s (by omega) wr).mono ?_
          rintro e w3 ⟨b2, rfl, hb2, hby2, x3⟩
          have HRA3 := hid (HRA.out.ext x3)
          have HX3 := hid (Ext.trans HX.out x3)
          have HBY := hid hby2
          clear hby2 x3
          go_wp2_with fail
          refine (at_write HRA3.out d s _ 128 128 _ HBY.out).mono ?_
          rintro e w4 ⟨rfl, h4, k4⟩
          rw [HW.out] at h4 ⊢
          simp only [oErr]
          have HF : Hid (BootIn w r k y d (Boots.W1 (s + 1)) w4) := hid ⟨_, HST.out, h4, Keeps.ext HX3.out k4 fun q hq => hq⟩
          clear h4 k4
          go_wp2
          go_roundw
          case rel => exact ⟨s + 1, by go_num, by omega, HF.out⟩
          case measure => simp [intOf]; omega
        · obtain rfl : s = 4 := by omega
          rw [show ((4 : Nat) : Int) = 4 from rfl]
          obtain ⟨R', hw, hst'⟩ := hst.flush hlt (Boots.W1_ok 4)
          have HW := hid hw; have HST := hid hst'
          clear hst hw hst'
          go_wp2_with fail
          refine (at_flush HRA.out d).mono ?_
          rintro e w4 ⟨rfl, h4, k4⟩
          rw [HW.out] at h4 ⊢
          simp only [oErr]
          have HF : Hid (BootIn w r k y d (Boots.W2 y 0) w4) := hid ⟨_, HST.out, h4, Keeps.ext HX.out k4 fun q hq => hq⟩
          clear h4 k4
          go_wp2
          go_loopw [12] (fun v wr => ∃ s : Nat, v = .int .i64 ((s : Int) + 1) ∧ s ≤ 3 ∧ BootIn w r k y d (Boots.W2 y s) wr) (fun v _ => 4 - (intOf v).toNat)
          case atStart => exact ⟨0, rfl, by omega, HF.out⟩
          case round =>
            clear HF
            obtain ⟨s, rfl, hs, R, hst, hra, hx⟩ := hrel
            have HRA := hid hra; have HX := hid hx
            clear hra hx
            by_cases hls : s < 3
            · have s0 : (0 : Int) ≤ (s : Int) := by omega
              have s1 : (s : Int) + 1 < 4 := by omega
              obtain ⟨R', hw, hst'⟩ := hst.write hlt (Boots.W2_ok y s) (s := s + 1) (by omega) y
              have HW := hid hw; have HST := hid hst'
              have HOO := HO.out
              clear hst hw hst'
              go_wp2_with fail
              refine (sector_c y hyb wr).mono ?_
              rintro e w3 ⟨b2, rfl, hb2, hby2, x3⟩
              have HRA3 := hid (HRA.out.ext x3)
              have HX3 := hid (Ext.trans HX.out x3)
              have HBY := hid hby2
              clear hby2 x3 HOO
              go_wp2_with fail
              refine (at_write HRA3.out d ((s : Int) + 1) _ 128 128 _ HBY.out).mono ?_
              rintro e w4 ⟨rfl, h4, k4⟩
              have hc1 : ((s + 1 : Nat) : Int) = (s : Int) + 1 := by omega
              have HW' := HW.out
              rw [hc1] at HW'
              rw [HW'] at h4 ⊢
              simp only [oErr]
              have HF : Hid (BootIn w r k y d (Boots.W2 y (s + 1)) w4) := hid ⟨_, HST.out, h4, Keeps.ext HX3.out k4 fun q hq => hq⟩
              clear h4 k4 HW'
              go_wp2
              go_roundw
              case rel => exact ⟨s + 1, by go_num, by omega, HF.out⟩
              case measure => simp [intOf]; omega
            · obtain rfl : s = 3 := by omega
              have HF : Hid (BootRel w r k y (d + 1) wr) := hid ⟨R, hst.outer, HRA.out, HX.out⟩
              clear hst
              go_wp2
              go_roundw
              case rel => exact ⟨d + 1, by go_num, by omega, HF.out⟩
              case measure => simp [intOf]; omega
    · obtain rfl : k = d := by omega
      obtain ⟨R, hst, hra, hx⟩ := hrel
      have HRA := hid hra; have HX := hid hx
      have HBI := hid (HL.out.only HX.out (fun p hp _ => fun x => x))
      have HSP : Hid (∀ p, a = some p → 0 < len → p.block < w.heap.size) := hid fun p hp hn => by
        rcases HL.out.cells with h0 | ⟨b, off, h1, h2⟩
        · omega
        · rw [h1] at hp; cases hp
          exact World.block_lt_of_cell? w _ (h2 0 hn)
      obtain ⟨q1, q2⟩ := hst.boot bits
      have HLV := hid q1; have HDS := hid q2
      clear hst hra hx q1 q2
      go_wp2_with fail
      refine (at_boot HRA.out a len cap bits HBI.out HSP.out).mono ?_
      rintro e w4 ⟨rfl, h4, k4⟩
      have HX4 := hid (Keeps.ext HX.out k4 fun q hq => hq)
      have HRA4 := hid h4
      clear h4 k4 HBI HSP
      go_wp2
      go_loopw [13] (fun v wr => ∃ d : Nat, v = .int .i64 d ∧ d ≤ k ∧ Ext w4 wr) (fun v _ => k - (intOf v).toNat)
      case atStart => exact ⟨0, rfl, by omega, Ext.refl _⟩
      case round =>
        obtain ⟨d, rfl, hd, hxd⟩ := hrel
        have HXD := hid hxd
        clear hxd
        by_cases hlt : d < k
        · have i0 : (0 : Int) ≤ (d : Int) := by omega
          have i1 : (d : Int) < (k : Int) := by omega
          have HRD := hid (HRA4.out.ext HXD.out)
          obtain ⟨b, hb⟩ : ∃ b, bits.getD d 0 = b := ⟨_, rfl⟩
          have HB := hid hb
          have hbb : b < 18446744073709551616 := by
            rw [← hb, List.getD_eq_getElem?_getD]
            rcases hq : bits[d]? with _ | y
            · simp
            · simpa using HL.out.bit y (List.mem_of_getElem? hq)
          --GEN
          obtain ⟨B, hB⟩ : ∃ B : Int, (b : Int) = B := ⟨_, rfl⟩
          by_cases hdl : d < len
          · have i2 : (d : Int) < (len : Int) := by omega
            obtain ⟨pb, po, rfl, hc⟩ : ∃ pb po, a = some ⟨pb, po, none⟩ ∧ wr.cell? ⟨pb, po + d, none⟩ = some (.int .u64 B) := by
              rcases HL.out.cells with h0 | ⟨pb, po, h1, h2⟩
              · omega
              · exact ⟨pb, po, h1, by rw [Ext.cell (Ext.trans HX4.out HXD.out) (h2 d hdl), HB.out, hB]⟩
            clear hb
            go_wp2
            go_loopw [15] (fun v wr' => ∃ s : Nat, v = .int .i64 s ∧ s ≤ 4 ∧ Ext wr wr') (fun v _ => 4 - (intOf v).toNat)
            case atStart => exact ⟨0, rfl, by omega, Ext.refl _⟩
            case round =>
              obtain ⟨s, rfl, hs, hxs⟩ := hrel
              have HXS := hid hxs
              clear hxs
              by_cases hls : s < 4
              · have s1 : (s : Int) < 4 := by omega
                have s2 : (s : Int) % 256 = (s : Int) := by omega
                have HE : Hid ((R.boot bits).readE d s = none) := hid (HLV.out.readE hlt (by rw [HDS.out d hlt]; exact Boots.crash_dead y _) hls)
                by_cases hs0 : s = 0
                · subst hs0
                  clear s1 s2
                  rw [show ((0 : Nat) : Int) = 0 from rfl]
                  have HV : Hid (((R.boot bits).dsk (d : Int)).read 0 = sect 0) := hid (by rw [HDS.out d hlt, Boots.crash_read y _ 0 hls, HB.out]; rw [if_neg (by omega)])
                  go_wp2_with fail
                  refine (at_read (HRD.out.ext HXS.out) d 0).mono ?_
                  rintro e w5 (⟨er, q1, _⟩ | ⟨q1, p, rfl, hp, hsec, x5⟩)
                  · exact absurd ((show (R.boot bits).readE d 0 = none from HE.out).symm.trans q1) (by simp)
                  rw [show (0 : Int).toNat = 0 from rfl, HV.out] at hsec
                  have HSEC := hid hsec
                  have X5 := hid (Ext.trans HXS.out x5)
                  clear q1 hp hsec x5
                  go_wp2_with fail
                  refine (sector_c 0 (by omega) w5).mono ?_
                  rintro e w6 ⟨b2, rfl, hb2, hby2, x6⟩
                  have HBY := hid hby2
                  have HSEC6 := hid (HSEC.out.bytes.ext x6)
                  have X6 := hid (Ext.trans X5.out x6)
                  clear hb2 hby2 x6
                  go_wp2_with fail
                  refine (same_c p.cap 128 HSEC6.out HBY.out).mono ?_
                  rintro e w7 ⟨rfl, x7⟩
                  rw [decide_eq_true rfl]
                  have X7 := hid (Ext.trans X6.out x7)
                  clear x7
                  go_wp2
                  go_roundw
                  case rel => exact ⟨1, rfl, by omega, X7.out⟩
                  case measure => simp [intOf]
                · have s0 : 0 < (s : Int) := by omega
                  have hw : (Go.bits .and .u64 (B / 2 ^ (s - 1)) 1 == 1) = decide (b >>> (s - 1) % 2 = 1) :=
                    bit_at b s (by omega) hls hbb B hB
                  by_cases hq : b >>> (s - 1) % 2 = 1
                  · rw [decide_eq_true hq] at hw
                    have HOO := HO.out
                    have HV : Hid (((R.boot bits).dsk (d : Int)).read s = sect y) := hid (by rw [HDS.out d hlt, Boots.crash_read y _ s hls, HB.out]; rw [if_pos ⟨by omega, hq⟩])
                    go_wp2_with fail
                    refine (at_read (HRD.out.ext HXS.out) d s).mono ?_
                    rintro e w5 (⟨er, q1, _⟩ | ⟨q1, p, rfl, hp, hsec, x5⟩)
                    · exact absurd (HE.out.symm.trans q1) (by simp)
                    rw [Int.toNat_natCast, HV.out] at hsec
                    have HSEC := hid hsec
                    have X5 := hid (Ext.trans HXS.out x5)
                    clear q1 hp hsec x5
                    go_wp2_with fail
                    refine (sector_c y (by omega) w5).mono ?_
                    rintro e w6 ⟨b2, rfl, hb2, hby2, x6⟩
                    have HBY := hid hby2
                    have HSEC6 := hid (HSEC.out.bytes.ext x6)
                    have X6 := hid (Ext.trans X5.out x6)
                    clear hb2 hby2 x6
                    go_wp2_with fail
                    refine (same_c p.cap 128 HSEC6.out HBY.out).mono ?_
                    rintro e w7 ⟨rfl, x7⟩
                    rw [decide_eq_true rfl]
                    have X7 := hid (Ext.trans X6.out x7)
                    clear x7
                    go_wp2
                    go_roundw
                    case rel => exact ⟨s + 1, by go_num, by omega, X7.out⟩
                    case measure => simp [intOf]; omega
                  · rw [decide_eq_false hq] at hw
                    have HV : Hid (((R.boot bits).dsk (d : Int)).read s = sect s) := hid (by rw [HDS.out d hlt, Boots.crash_read y _ s hls, HB.out]; rw [if_neg (fun h => hq h.2)])
                    go_wp2_with fail
                    refine (at_read (HRD.out.ext HXS.out) d s).mono ?_
                    rintro e w5 (⟨er, q1, _⟩ | ⟨q1, p, rfl, hp, hsec, x5⟩)
                    · exact absurd (HE.out.symm.trans q1) (by simp)
                    rw [Int.toNat_natCast, HV.out] at hsec
                    have HSEC := hid hsec
                    have X5 := hid (Ext.trans HXS.out x5)
                    clear q1 hp hsec x5
                    go_wp2_with fail
                    refine (sector_c s (by omega) w5).mono ?_
                    rintro e w6 ⟨b2, rfl, hb2, hby2, x6⟩
                    have HBY := hid hby2
                    have HSEC6 := hid (HSEC.out.bytes.ext x6)
                    have X6 := hid (Ext.trans X5.out x6)
                    clear hb2 hby2 x6
                    go_wp2_with fail
                    refine (same_c p.cap 128 HSEC6.out HBY.out).mono ?_
                    rintro e w7 ⟨rfl, x7⟩
                    rw [decide_eq_true rfl]
                    have X7 := hid (Ext.trans X6.out x7)
                    clear x7
                    go_wp2
                    go_roundw
                    case rel => exact ⟨s + 1, by go_num, by omega, X7.out⟩
                    case measure => simp [intOf]; omega
              · obtain rfl : s = 4 := by omega
                rw [show ((4 : Nat) : Int) = 4 from rfl]
                go_wp2
                go_roundw
                case rel => exact ⟨d + 1, by go_num, by omega, Ext.trans HXD.out HXS.out⟩
                case measure => simp [intOf]; omega
          · have i2 : ¬ (d : Int) < (len : Int) := by omega
            have hb0 : b = 0 := by rw [← hb]; have := HL.out.len; simp [List.getD_eq_getElem?_getD]; rw [List.getElem?_eq_none (by omega)]; rfl
            have hBE : (b : Int) = 0 := by omega
            clear hB hb
            go_wp2
            go_loopw [15] (fun v wr' => ∃ s : Nat, v = .int .i64 s ∧ s ≤ 4 ∧ Ext wr wr') (fun v _ => 4 - (intOf v).toNat)
            case atStart => exact ⟨0, rfl, by omega, Ext.refl _⟩
            case round =>
              obtain ⟨s, rfl, hs, hxs⟩ := hrel
              have HXS := hid hxs
              clear hxs
              by_cases hls : s < 4
              · have s1 : (s : Int) < 4 := by omega
                have s2 : (s : Int) % 256 = (s : Int) := by omega
                have HE : Hid ((R.boot bits).readE d s = none) := hid (HLV.out.readE hlt (by rw [HDS.out d hlt]; exact Boots.crash_dead y _) hls)
                by_cases hs0 : s = 0
                · subst hs0
                  clear s1 s2
                  rw [show ((0 : Nat) : Int) = 0 from rfl]
                  have HV : Hid (((R.boot bits).dsk (d : Int)).read 0 = sect 0) := hid (by rw [HDS.out d hlt, Boots.crash_read y _ 0 hls, HB.out]; rw [if_neg (by omega)])
                  go_wp2_with fail
                  refine (at_read (HRD.out.ext HXS.out) d 0).mono ?_
                  rintro e w5 (⟨er, q1, _⟩ | ⟨q1, p, rfl, hp, hsec, x5⟩)
                  · exact absurd ((show (R.boot bits).readE d 0 = none from HE.out).symm.trans q1) (by simp)
                  rw [show (0 : Int).toNat = 0 from rfl, HV.out] at hsec
                  have HSEC := hid hsec
                  have X5 := hid (Ext.trans HXS.out x5)
                  clear q1 hp hsec x5
                  go_wp2_with fail
                  refine (sector_c 0 (by omega) w5).mono ?_
                  rintro e w6 ⟨b2, rfl, hb2, hby2, x6⟩
                  have HBY := hid hby2
                  have HSEC6 := hid (HSEC.out.bytes.ext x6)
                  have X6 := hid (Ext.trans X5.out x6)
                  clear hb2 hby2 x6
                  go_wp2_with fail
                  refine (same_c p.cap 128 HSEC6.out HBY.out).mono ?_
                  rintro e w7 ⟨rfl, x7⟩
                  rw [decide_eq_true rfl]
                  have X7 := hid (Ext.trans X6.out x7)
                  clear x7
                  go_wp2
                  go_roundw
                  case rel => exact ⟨1, rfl, by omega, X7.out⟩
                  case measure => simp [intOf]
                · have s0 : 0 < (s : Int) := by omega
                  have hq : ¬ (b >>> (s - 1) % 2 = 1) := by rw [hb0]; simp
                  have hw : (Go.bits .and .u64 0 1 == 1) = false := rfl
                  have hw2 : (Go.bits .and .u64 (0 / 2 ^ (s - 1)) 1 == 1) = false := by rw [Int.zero_ediv]; rfl
                  have HV : Hid (((R.boot bits).dsk (d : Int)).read s = sect s) := hid (by rw [HDS.out d hlt, Boots.crash_read y _ s hls, HB.out]; rw [if_neg (fun h => hq h.2)])
                  go_wp2_with fail
                  refine (at_read (HRD.out.ext HXS.out) d s).mono ?_
                  rintro e w5 (⟨er, q1, _⟩ | ⟨q1, p, rfl, hp, hsec, x5⟩)
                  · exact absurd (HE.out.symm.trans q1) (by simp)
                  rw [Int.toNat_natCast, HV.out] at hsec
                  have HSEC := hid hsec
                  have X5 := hid (Ext.trans HXS.out x5)
                  clear q1 hp hsec x5
                  go_wp2_with fail
                  refine (sector_c s (by omega) w5).mono ?_
                  rintro e w6 ⟨b2, rfl, hb2, hby2, x6⟩
                  have HBY := hid hby2
                  have HSEC6 := hid (HSEC.out.bytes.ext x6)
                  have X6 := hid (Ext.trans X5.out x6)
                  clear hb2 hby2 x6
                  go_wp2_with fail
                  refine (same_c p.cap 128 HSEC6.out HBY.out).mono ?_
                  rintro e w7 ⟨rfl, x7⟩
                  rw [decide_eq_true rfl]
                  have X7 := hid (Ext.trans X6.out x7)
                  clear x7
                  go_wp2
                  go_roundw
                  case rel => exact ⟨s + 1, by go_num, by omega, X7.out⟩
                  case measure => simp [intOf]; omega
              · obtain rfl : s = 4 := by omega
                rw [show ((4 : Nat) : Int) = 4 from rfl]
                go_wp2
                go_roundw
                case rel => exact ⟨d + 1, by go_num, by omega, Ext.trans HXD.out HXS.out⟩
                case measure => simp [intOf]; omega
        · obtain rfl : k = d := by omega
          have HOFF : Hid ((R.boot bits).off = false) := hid HLV.out.off
          have hwr := HLV.out.write (i := 0) (s := 0) (b := sect x) (by omega) (by rw [HDS.out 0 (by omega)]; exact Boots.crash_dead y _) (by omega) (by simp [sect])
          obtain ⟨R2, hR2⟩ : ∃ R2, (R.boot bits).write 0 0 (sect x) = (none, R2) := ⟨_, hwr⟩
          have HWR := hid hR2
          clear hwr hR2
          go_wp2_with (go_at_call 21; refine (at_off (HRA4.out.ext HXD.out)).mono ?_; rintro e w5 ⟨rfl, rfl⟩; rw [HOFF.out])
          refine (sector_c x (by omega) _).mono ?_
          rintro e w6 ⟨b2, rfl, hb2, hby2, x6⟩
          have HBY := hid hby2
          have X6 := hid (Ext.trans HXD.out x6)
          clear hb2 hby2 x6
          go_wp2_with fail
          refine (at_write (HRA4.out.ext X6.out) 0 0 _ 128 128 _ HBY.out).mono ?_
          rintro e w7 ⟨rfl, h7, k7⟩
          rw [HWR.out]
          simp only [oErr]
          have X7 := hid (Keeps.ext (Ext.trans HX4.out X6.out) k7 fun q hq => hq)
          clear h7 k7
          go_wp2_with fail
          refine (rackRuns_c w7 (HG.out.only X7.out (fun x => x))).mono ?_
          rintro e w8 ⟨rfl, x8⟩
          have X8 := hid (Ext.trans X7.out x8)
          clear x8
          go_wp2
          go_ret
          exact ⟨rfl, X8.out⟩
end Go.Proofs.YtdbjojnejkklhaaDoor

/- The statement RackBoots, as its tied card: for every input the call of stavelaw8's RackBoots answers true, and its arguments read behind it as they read before. No condition of our own. -/
namespace Go.Proofs.YtdbjojnejkklhaaDoor.rackBoots
open Go.ChangeShapes Go.WideShapes Go.ChangeAt Go.RowKit
open Go.ChangeMaps (open_string shut_string)
set_option linter.unusedVariables false
theorem laidOut : laidOutB Tryd.prog = true := by kernel_rfl
theorem walk (a0 : Int) (a1 : Option Addr) (len1 cap1 : Nat) (z1 : List Int) (a2 : Int) (w : World) (hg : EtLaid w) (w0 : (Lit.int .i64 a0).wf = true) (w1 : IsRow .u64 w a1 len1 cap1 z1) (w2 : (Lit.int .u8 a2).wf = true) :
    Calls Tryd.prog 3 #[.int .i64 a0, .slice a1 len1 cap1, .int .u8 a2] w fun e w' => e = .returned (.bool true) ∧ Below w.heap.size w w' :=
  (rackBoots_c a0 a1 len1 cap1 z1 a2 w hg w1 w2).mono fun _ _ ⟨he, hx⟩ => ⟨he, hx.below⟩
set_option maxRecDepth 100000 in
theorem lifted (os : Os) (started : os.Started) (H : Type) (enc : TypeId × Value → H) :
    ReturnsInHanded {} Tryd.checked os 3 .any (fun w args => (Rows.rackBootsSpec.pre enc Tryd.prog Tryd.f3 [] false w args ∧ laidMetH Tryd.prog theLaid w) ∧ sizedMet enc Tryd.prog Tryd.f3 (OpenSpec.ofChange Rows.rackBootsSpec) false w args)
      (Rows.rackBootsSpec.post enc Tryd.prog Tryd.f3 false true false false) := by
  refine returnsInHanded_of_change_and (C := Tryd.checked) (X := fun w _ => laidMetH Tryd.prog theLaid w) (fun _ _ _ hh h => h.of_heap hh) hOwn started (by kernel_rfl) Tryd.func3
    (ChangeSpec.witness_at (enc := enc) (C := Tryd.checked) (os := os) (X := fun w _ => laidMetH Tryd.prog theLaid w) false (laidWorld os) #[.int .i64 0, .slice none 0 0, .int .u8 0] 8 rfl (by kernel_rfl) (by kernel_rfl) (by kernel_rfl) (by kernel_rfl) (by kernel_rfl) (laidWorld_met os _)) ?_
  intro W base args ds gs before hval0 hW _ _ hL _
  have hval : ∀ (j : Nat) t v, Tryd.f3.params[j]? = some t → args[j]? = some v → Value.okWide Tryd.prog W .any base t v := hval0
  have hW' := hW
  obtain ⟨p, q, hA0, hV, rfl, hfz, hnd⟩ := hW
  have hA : DataW.TrodAll enc Tryd.prog W 0 (fun _ => true) true Tryd.f3.params.toList args.toList ds p := hA0
  rw [Tryd.params3] at hA hval
  obtain ⟨v0, vs0, d0, ds0, p0, q0, hargs, rfl, rfl, h0, r0⟩ := trodAll_cons hA
  obtain ⟨v1, vs1, d1, ds1, p1, q1, rfl, rfl, rfl, h1, r1⟩ := trodAll_cons r0
  obtain ⟨v2, vs2, d2, ds2, p2, q2, rfl, rfl, rfl, h2, r2⟩ := trodAll_cons r1
  obtain ⟨rfl, rfl, rfl⟩ := trodAll_nil r2
  obtain rfl : args = #[v0, v1, v2] := by cases args; simp_all
  obtain ⟨rfl, rfl⟩ := trodVars_none hV
  obtain ⟨a0, rfl, rfl, rfl, w0⟩ := open_int Tryd.underlying3 (hval 0 3 v0 rfl rfl) h0
  obtain ⟨a1, len1, cap1, rfl⟩ := okWide_slice Tryd.underlying22 (hval 1 22 v1 rfl rfl)
  have k1 := h1
  have lt1 : ∀ x ∈ p1, x.block < W.heap.size := by obtain ⟨m, hm⟩ := k1; exact DataW.trod_lt m _ _ _ hm
  obtain ⟨z1, w1⟩ : ∃ zs, IsRow .u64 W a1 len1 cap1 zs := by
    obtain ⟨fuel, hf⟩ := h1
    rcases open_ints Tryd.underlying22 Tryd.underlying34 (by kernel_rfl) hf with ⟨hcs, _⟩ | ⟨x, l, c, zs, hcs, _, hl, hm, hz, _, hcell, hwz⟩
    · simp [Value.cells] at hcs
      obtain ⟨rfl, rfl, rfl⟩ := hcs
      exact ⟨[], .inl ⟨rfl, rfl, rfl, rfl⟩⟩
    · simp [Value.cells] at hcs
      obtain ⟨rfl, rfl, rfl⟩ := hcs
      exact ⟨zs, .inr ⟨_, rfl, hl, hm, by simpa using hz, hcell, hwz⟩⟩
  obtain ⟨a2, rfl, rfl, rfl, w2⟩ := open_int Tryd.underlying5 (hval 2 5 v2 rfl rfl) h2
  have hg := etLaid_of hL
  clear hA0 hval0
  simp only [List.append_nil] at hW'
  refine (walk a0 a1 len1 cap1 z1 a2 W hg w0 w1 w2).mono fun e W' ⟨he, bel⟩ => ?_
  subst he
  exact ⟨_, rfl, _, _, _, [], _, [], hW', trodAll_mk1 (shut_bool Tryd.underlying4 _), (trodAll_cons_mk (shut_int Tryd.underlying3 w0) (trodAll_cons_mk (Below.trod laidOut (by kernel_rfl) (of_decide_eq_true (by kernel_rfl)) k1 bel lt1) (trodAll_cons_mk (shut_int Tryd.underlying5 w2) trodAll_mk0))), rfl, bel.frame _, fun h => by cases h⟩
theorem over : Rows.RackBootsSaid :=
  OpenClaim.holds_of_wide 3 Tryd.f3 rfl rfl rfl rfl rfl rfl rfl ⟨rfl, rfl, rfl, rfl, rfl⟩ rfl rfl rfl rfl rfl (by kernel_rfl) Tryd.func3 (by kernel_rfl)
    (of_decide_eq_true (by kernel_rfl)) (by unfold Func.isWrapper; first | (rw [if_pos (by decide +kernel)]; kernel_rfl) | (rw [if_neg (by decide +kernel)]; exact ⟨rfl, rfl⟩))
    (fun os started H enc _ => lifted os started H enc)
theorem proved : Rows.RackBootsCardSaid :=
  Claim7.holds_tied_plain_at .later [] [.handle] true (true, "dba68c5c8641de8e0643fe4af85c7b77ef0591640622d3211a00d85201f74fa1") true
    over (fun _ h => by cases h) (by kernel_rfl) (fun _ h => by cases h) rackBoots_row_tie rfl ⟨rfl, rfl⟩ (by kernel_rfl) rfl
    (fun f fn hf hfn => by
      obtain rfl : f = 3 := Option.some.inj ((show Tryd.prog.funcNamed "stave/stavelaw8.RackBoots" = some 3 by kernel_rfl).symm.trans hf) |>.symm
      obtain rfl : fn = Tryd.f3 := (Option.some.inj (Tryd.func3.symm.trans hfn)).symm
      exact ⟨by kernel_rfl, fun j t ht => by
        rw [Tryd.params3] at ht
        rcases j with _ | _ | _ | j
        · simp at ht; subst ht; kernel_rfl
        · simp at ht; subst ht; kernel_rfl
        · simp at ht; subst ht; kernel_rfl
        · simp at ht⟩)
    (by kernel_rfl)
#print axioms proved
end Go.Proofs.YtdbjojnejkklhaaDoor.rackBoots
