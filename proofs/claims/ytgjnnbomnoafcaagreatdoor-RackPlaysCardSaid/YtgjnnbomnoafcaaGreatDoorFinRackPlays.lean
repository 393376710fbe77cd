/- The statement RackPlays, as its tied card: for every input the call of stavelaw8's RackPlays answers true, and its arguments read behind it as they read before. No condition of our own. -/
/- Texts of one proof, joined: WRackPlays, LawRackPlays. -/
import Derived.Test.YtgjnnbomnoafcaaGreatDoorRF
import Derived.Test.YtgjnnbomnoafcaaGreatDoorRJ
import Derived.Test.YtgjnnbomnoafcaaGreatDoorRM
import Derived.Test.YtgjnnbomnoafcaaGreatDoorRA
import Derived.Test.YtgjnnbomnoafcaaGreatDoorRI
import Derived.Test.YtgjnnbomnoafcaaGreatDoorRB
import Derived.Test.YtgjnnbomnoafcaaGreatDoorRC
import Derived.Deep.DeepCutAuto
import Derived.Deep.CutBlock
import Derived.Test.YtgjnnbomnoafcaaGreatDoorCards
import Derived.Test.YtgjnnbomnoafcaaGreatDoorTie
import Derived.WalkKit
import Derived.ProofKit
import Derived.OpenShut
import Derived.ShutString
import Derived.ChangeOld
import Derived.Below
import Derived.SevenTiedAt
set_option linter.unusedVariables false
set_option linter.unusedSimpArgs false
/- The walk of RackPlays. -/
namespace Go.Proofs.YtgjnnbomnoafcaaGreatDoor
set_option linter.unusedVariables false
open Go Go.RowKit
attribute [local irreducible] wpSQ
theorem okind_c8 (o : Option Err) (w : World) (hg : EtLaid w) : Calls Tryz.prog 11 #[oErr o] w fun e w' => e = .returned (.int .i64 (okind o)) ∧ Ext w w' := by
  rcases o with _ | er
  · exact kind_nil w
  · exact kind_err er w hg
theorem TwoAt.less {S T : Nat → Prop} {w : World} {r q : Nat} {R R' : Rck} (h : TwoAt S w r q R R') (hT : ∀ b, T b → S b) : TwoAt T w r q R R' := by
  obtain ⟨h0, K, K', e1, e2, h1, h2, h3, h4⟩ := h
  exact ⟨fun b hb => h0 b (hT b hb), K, K', e1, e2, h1, h2, fun b hb => ⟨fun q => (h3 b hb).1 (hT b q), (h3 b hb).2⟩, fun b hb q => h4 b hb (hT b q)⟩
theorem rnew_badm (n : Nat) (m : Int) (h1 : 1 ≤ n) (h8 : n ≤ 8) (h : m < 1 ∨ 128 < m) (w : World) : Calls Tryz.prog 9 #[.int .i64 n, .int .i64 m] w fun e w' => e = .returned (.tuple #[.pointer none, (Err.fault sRackNew n (.fault sDiskNew m (.no 1))).val]) ∧ Ext w w' := by
  have i1 : ¬ (n : Int) < 1 := by omega
  have i2 : ¬ (8 : Int) < (n : Int) := by omega
  have i3 : (0 : Int) < (n : Int) := by omega
  obtain ⟨er, her⟩ : ∃ er, Err.fault sDiskNew m (.no 1) = er := ⟨_, rfl⟩
  rw [her]
  have HER := hid her
  clear her
  obtain ⟨t2, v2, hq⟩ : ∃ t v, er.val = .iface t v := by cases er <;> exact ⟨_, _, rfl⟩
  have HQ := hid hq
  clear hq
  go_enter Tryz.func9, Tryz.ntmps9
  go_wp2
  go_loopw [21] (fun i wr => i = .int .i64 0 ∧ Ext w wr) (fun i _ => 0)
  case atStart => exact ⟨rfl, (Ext.refl w).alloc _⟩
  case round =>
    obtain ⟨rfl, hx⟩ := hrel
    have HX := hid hx
    clear hx
    go_wp2_with (go_at_call 98; fail)
    refine (dnew_bad m h wr).mono ?_
    rintro e w2 ⟨rfl, rfl⟩
    rw [HER.out, HQ.out]
    go_wp2_with (go_at_call 97; fail)
    rw [← HQ.out]
    refine (wrap_err sRackNew n er _).mono ?_
    rintro e w3 ⟨rfl, rfl⟩
    go_wp2
    go_ret2
    exact ⟨rfl, HX.out⟩
theorem tail_fn {tail : List Value} {N : Nat} (h : tail.length = N) : ∃ f : Nat → Value, tail = (List.range N).map f := ⟨fun k => tail.getD k undef, by
  apply List.ext_getElem
  · simp [h]
  · intro k h1 h2; simp [List.getD_eq_getElem?_getD, h1]⟩
theorem keep_right8 (sl : Nat) (h : sl ≤ 3) (n : Int) : (keepFrm 3 sl 1 2 n).right = true := by
  have h1 : (keepFrm 3 sl 1 2 n).kind = 3 := rfl
  have h2 : (keepFrm 3 sl 1 2 n).slot = sl := rfl
  have h3 : (keepFrm 3 sl 1 2 n).stripe = 1 := rfl
  have h4 : (keepFrm 3 sl 1 2 n).gen = 2 := rfl
  unfold Frm.right Frm.isIn
  rw [h1, h2, h3, h4]
  simp
  omega
/-- A loop whose frame is forgotten behind its counter. -/
theorem loop_tail {P : Program} {c : Code} {Q : Exit → Act → World → Prop} {a : Act} {w : World} (pre : List Value) (N : Nat) (rel : Value → World → Prop) (mu : Value → Nat) (t0 : Value) (tail0 : List Value) (ha : a = ⟨((pre ++ [t0]) ++ tail0).toArray, []⟩) (hl : tail0.length = N) (h0 : rel t0 w)
    (hround : ∀ t (f : Nat → Value) wr, rel t wr → c.wp P (Exit.then (fun a' w' => ∃ t' tail', a' = ⟨((pre ++ [t']) ++ tail').toArray, []⟩ ∧ tail'.length = N ∧ rel t' w' ∧ mu t' < mu t) Q) ⟨((pre ++ [t]) ++ (List.range N).map f).toArray, []⟩ wr) : (Code.loop c).wp P Q a w := by
  refine wp_loop (fun a' w' => ∃ t tail, a' = ⟨((pre ++ [t]) ++ tail).toArray, []⟩ ∧ tail.length = N ∧ rel t w') (fun a' _ => mu (a'.tmps.getD pre.length undef)) ⟨t0, tail0, ha, hl, h0⟩ ?_
  rintro a' wr ⟨t, tail, rfl, hN, hr⟩
  have hg : ∀ (t : Value) (tail : List Value), (((pre ++ [t]) ++ tail).toArray).getD pre.length undef = t := fun t tail => by simp
  have e : tail = (List.range N).map (fun k => tail.getD k undef) := by
    apply List.ext_getElem
    · simp [hN]
    · intro k h1 h2; simp [List.getD_eq_getElem?_getD, h1]
  have h := hround t (fun k => tail.getD k undef) wr hr
  rw [← e] at h
  refine Code.wp_mono (fun x a w q => ?_) h
  cases x with
  | normal =>
    obtain ⟨t', tail', rfl, q1, q2, q3⟩ := q
    refine ⟨⟨t', tail', rfl, q1, q2⟩, ?_⟩
    show mu ((((pre ++ [t']) ++ tail').toArray).getD pre.length undef) < mu ((((pre ++ [t]) ++ tail).toArray).getD pre.length undef)
    rw [hg, hg]; exact q3
  | _ => exact q
set_option maxRecDepth 100000 in
set_option maxHeartbeats 100000000 in
theorem rackPlays_c (n sectors : Int) (a : Option Addr) (len cap : Nat) (w : World) (hg : EtLaid w) (ha : AsksAt w a len) : Calls Tryz.prog 3 #[.int .i64 n, .int .i64 sectors, .slice a len cap] w fun e w' => e = .returned (.bool true) ∧ Ext w w' := by
  have HG := hid hg; have HA := hid ha
  have hz := zero_frame
  have hzk := zero_ak
  clear hg ha
  go_enter Tryz.func3, Tryz.ntmps3
  go_upto_if 37 with fail
  go_cut [7] from 36 to 37 (fun t wq => (∃ m : Int, t = .int .i64 m ∧ m ≤ 6) ∧ w = wq)
  case first =>
    by_cases h6 : 6 < sectors
    · go_wp2
      go_meet
      case rel => exact ⟨⟨6, rfl, by omega⟩, rfl⟩
    · go_wp2
      go_meet
      case rel => exact ⟨⟨sectors, rfl, by omega⟩, rfl⟩
  case rest =>
    obtain ⟨⟨m, rfl, hm6⟩, rfl⟩ := hcut
    by_cases hn : n < 1 ∨ 8 < n
    · as_aux_lemma =>
        go_wp2_with fail
        refine (rnew_bad n m hn w).mono ?_
        rintro e w1 ⟨rfl, rfl⟩
        obtain ⟨er, her⟩ : ∃ er, Err.fault sRackNew n (.no 1) = er := ⟨_, rfl⟩
        rw [her]
        have HER := hid (show er.kind = 1 by rw [← her]; rfl)
        have HX1 := hid (Ext.refl w)
        clear her
        go_wp2_with fail
        refine (frnew_badn n m hn w).mono ?_
        rintro e w2 ⟨rfl, x2⟩
        have HX2 := hid (Ext.trans HX1.out x2)
        clear x2
        go_wp2_with fail
        refine (kind_err er w2 (HG.out.only HX2.out (fun q => q))).mono ?_
        rintro e w3 ⟨rfl, x3⟩
        rw [HER.out]
        have HX3 := hid (Ext.trans HX2.out x3)
        clear x3
        go_wp2_with fail
        refine wp_loop_once ?_
        by_cases h0 : 0 < len
        · have t0 : (0 : Int) < (len : Int) := by omega
          go_wp2_with fail
          refine (rackRuns_c _ (HG.out.only HX3.out (fun q => q))).mono ?_
          rintro e w5 ⟨rfl, x5⟩
          have HX5 := hid (Ext.trans HX3.out x5)
          clear x5
          go_wp2
          go_ret
          exact ⟨rfl, HX5.out⟩
        · have t0 : ¬ (0 : Int) < (len : Int) := by omega
          go_wp2_with fail
          refine (rackRuns_c _ (HG.out.only HX3.out (fun q => q))).mono ?_
          rintro e w5 ⟨rfl, x5⟩
          have HX5 := hid (Ext.trans HX3.out x5)
          clear x5
          go_wp2
          go_ret
          exact ⟨rfl, HX5.out⟩
    · obtain ⟨nn, rfl⟩ : ∃ nn : Nat, n = nn := ⟨n.toNat, by omega⟩
      have hn1 : 1 ≤ nn := by omega
      have hn8 : nn ≤ 8 := by omega
      clear hn
      by_cases hm : m < 1
      · as_aux_lemma =>
          go_wp2_with fail
          refine (rnew_badm nn m hn1 hn8 (.inl hm) w).mono ?_
          rintro e w1 ⟨rfl, x1⟩
          obtain ⟨er, her⟩ : ∃ er, Err.fault sRackNew nn (.fault sDiskNew m (.no 1)) = er := ⟨_, rfl⟩
          rw [her]
          have HER := hid (show er.kind = 1 by rw [← her]; rfl)
          have HX1 := hid (x1)
          clear her
          go_wp2_with fail
          refine (frnew_badm nn m hn1 hn8 (.inl hm) w1).mono ?_
          rintro e w2 ⟨rfl, x2⟩
          have HX2 := hid (Ext.trans HX1.out x2)
          clear x2
          go_wp2_with fail
          refine (kind_err er w2 (HG.out.only HX2.out (fun q => q))).mono ?_
          rintro e w3 ⟨rfl, x3⟩
          rw [HER.out]
          have HX3 := hid (Ext.trans HX2.out x3)
          clear x3
          go_wp2_with fail
          refine wp_loop_once ?_
          by_cases h0 : 0 < len
          · have t0 : (0 : Int) < (len : Int) := by omega
            go_wp2_with fail
            refine (rackRuns_c _ (HG.out.only HX3.out (fun q => q))).mono ?_
            rintro e w5 ⟨rfl, x5⟩
            have HX5 := hid (Ext.trans HX3.out x5)
            clear x5
            go_wp2
            go_ret
            exact ⟨rfl, HX5.out⟩
          · have t0 : ¬ (0 : Int) < (len : Int) := by omega
            go_wp2_with fail
            refine (rackRuns_c _ (HG.out.only HX3.out (fun q => q))).mono ?_
            rintro e w5 ⟨rfl, x5⟩
            have HX5 := hid (Ext.trans HX3.out x5)
            clear x5
            go_wp2
            go_ret
            exact ⟨rfl, HX5.out⟩
      · obtain ⟨mm, rfl⟩ : ∃ mm : Nat, m = mm := ⟨m.toNat, by omega⟩
        have hm1 : 1 ≤ mm := by omega
        have hm8 : mm ≤ 6 := by omega
        clear hm
        go_wp2_with fail
        refine (at_new nn mm hn1 hn8 hm1 (by omega) w).mono ?_
        rintro e w1 ⟨r, rfl, h1, x1⟩
        have HA1 := hid h1; have HX1 := hid x1
        clear h1 x1
        go_wp2_with fail
        refine (frnew_c nn mm hn1 hn8 hm1 (by omega) w1).mono ?_
        rintro e w2 ⟨q, rfl, h2, x2⟩
        have H2 := hid (TwoAt.made HA1.out h2 x2 (fun b hb => hb) (fun b hb => Nat.lt_of_lt_of_le hb HX1.out.size))
        have HX2 := hid (Ext.trans HX1.out x2)
        clear h2 x2 HA1 HX1
        go_wp2_with fail
        refine (kind_nil w2).mono ?_
        rintro e w3 ⟨rfl, x3⟩
        have H3 := hid (H2.out.ext x3)
        have HX3 := hid (Ext.trans HX2.out x3)
        have HD3 := hid (Rck.Dim.new nn mm)
        have HN := hid (And.intro hn1 (And.intro hn8 (And.intro hm1 hm8)))
        clear x3 H2 HX2
        go_wp2_with fail
        refine loop_tail [.int .i64 nn, .int .i64 sectors, .slice a len cap, undef, undef, undef, .bool false, .int .i64 mm, .pointer (some ⟨r, 0, none⟩), .nilIface, .pointer (some ⟨q, 0, none⟩), .int .i64 0] 388 (fun t wq => ∃ i : Nat, t = .int .i64 i ∧ i ≤ len ∧ i ≤ 40 ∧ ∃ R, TwoAt (fun b => b < w.heap.size) wq r q R R ∧ R.Dim nn mm ∧ Ext w wq) (fun t => 40 - (intOf t).toNat) (.int .i64 0) _ rfl rfl ⟨0, rfl, by omega, by omega, _, H3.out, HD3.out, HX3.out⟩ ?_
        · clear H3 HD3 HX3
          intro t f wr hrel
          obtain ⟨i, rfl, hi, hi40, R, ht, hd, hx⟩ := hrel
          change Code.wp _ _ _ ⟨([.int .i64 nn, .int .i64 sectors, .slice a len cap, undef, undef, undef, .bool false, .int .i64 mm, .pointer (some ⟨r, 0, none⟩), .nilIface, .pointer (some ⟨q, 0, none⟩), .int .i64 0, .int .i64 i, f 0, f 1, f 2, f 3, f 4, f 5, f 6, f 7, f 8, f 9, f 10, f 11, f 12, f 13, f 14, f 15, f 16, f 17, f 18, f 19, f 20, f 21, f 22, f 23, f 24, f 25, f 26, f 27, f 28, f 29, f 30, f 31, f 32, f 33, f 34, f 35, f 36, f 37, f 38, f 39, f 40, f 41, f 42, f 43, f 44, f 45, f 46, f 47, f 48, f 49, f 50, f 51, f 52, f 53, f 54, f 55, f 56, f 57, f 58, f 59, f 60, f 61, f 62, f 63, f 64, f 65, f 66, f 67, f 68, f 69, f 70, f 71, f 72, f 73, f 74, f 75, f 76, f 77, f 78, f 79, f 80, f 81, f 82, f 83, f 84, f 85, f 86, f 87, f 88, f 89, f 90, f 91, f 92, f 93, f 94, f 95, f 96, f 97, f 98, f 99, f 100, f 101, f 102, f 103, f 104, f 105, f 106, f 107, f 108, f 109, f 110, f 111, f 112, f 113, f 114, f 115, f 116, f 117, f 118, f 119, f 120, f 121, f 122, f 123, f 124, f 125, f 126, f 127, f 128, f 129, f 130, f 131, f 132, f 133, f 134, f 135, f 136, f 137, f 138, f 139, f 140, f 141, f 142, f 143, f 144, f 145, f 146, f 147, f 148, f 149, f 150, f 151, f 152, f 153, f 154, f 155, f 156, f 157, f 158, f 159, f 160, f 161, f 162, f 163, f 164, f 165, f 166, f 167, f 168, f 169, f 170, f 171, f 172, f 173, f 174, f 175, f 176, f 177, f 178, f 179, f 180, f 181, f 182, f 183, f 184, f 185, f 186, f 187, f 188, f 189, f 190, f 191, f 192, f 193, f 194, f 195, f 196, f 197, f 198, f 199, f 200, f 201, f 202, f 203, f 204, f 205, f 206, f 207, f 208, f 209, f 210, f 211, f 212, f 213, f 214, f 215, f 216, f 217, f 218, f 219, f 220, f 221, f 222, f 223, f 224, f 225, f 226, f 227, f 228, f 229, f 230, f 231, f 232, f 233, f 234, f 235, f 236, f 237, f 238, f 239, f 240, f 241, f 242, f 243, f 244, f 245, f 246, f 247, f 248, f 249, f 250, f 251, f 252, f 253, f 254, f 255, f 256, f 257, f 258, f 259, f 260, f 261, f 262, f 263, f 264, f 265, f 266, f 267, f 268, f 269, f 270, f 271, f 272, f 273, f 274, f 275, f 276, f 277, f 278, f 279, f 280, f 281, f 282, f 283, f 284, f 285, f 286, f 287, f 288, f 289, f 290, f 291, f 292, f 293, f 294, f 295, f 296, f 297, f 298, f 299, f 300, f 301, f 302, f 303, f 304, f 305, f 306, f 307, f 308, f 309, f 310, f 311, f 312, f 313, f 314, f 315, f 316, f 317, f 318, f 319, f 320, f 321, f 322, f 323, f 324, f 325, f 326, f 327, f 328, f 329, f 330, f 331, f 332, f 333, f 334, f 335, f 336, f 337, f 338, f 339, f 340, f 341, f 342, f 343, f 344, f 345, f 346, f 347, f 348, f 349, f 350, f 351, f 352, f 353, f 354, f 355, f 356, f 357, f 358, f 359, f 360, f 361, f 362, f 363, f 364, f 365, f 366, f 367, f 368, f 369, f 370, f 371, f 372, f 373, f 374, f 375, f 376, f 377, f 378, f 379, f 380, f 381, f 382, f 383, f 384, f 385, f 386, f 387] : List Value).toArray, []⟩ wr
          have HT := hid ht; have HDM := hid hd; have HX := hid hx
          clear ht hd hx
          by_cases hio : i < len ∧ i < 40
          · obtain ⟨b, off, kd, d, s, nq, x, ba, bl, bc, od, bits, rfl, hbl, hq1, hx0, hx1, hbits, hcl⟩ := HA.out i hio.1
            have i0 : (0 : Int) ≤ (i : Int) := by omega
            have i1 : (i : Int) < (len : Int) := by omega
            have i2 : (i : Int) < 40 := by omega
            obtain ⟨xx, rfl⟩ := Int.eq_ofNat_of_zero_le hx0
            have HXX := hid (show xx < 4294967296 by omega)
            have HQ1 := hid hq1
            have HCL := hid (show ∀ y v, (AkA kd d s nq xx ba bl bc od).toList[y]? = some v → wr.cell? ((⟨b, off + i * 7, none⟩ : Addr).add y) = some v from fun y v hv => by
              rw [addr_plain]
              exact Ext.cell HX.out (hcl y v hv))
            obtain ⟨W1, hW1⟩ : ∃ W, wr.alloc (.cells (AkA kd d s nq xx ba bl bc od) 36) = W := ⟨_, rfl⟩
            have x1' : Ext wr W1 := hW1 ▸ (Ext.refl wr).alloc _
            obtain ⟨gq, hgq⟩ : ∃ g, wr.heap.size = g := ⟨_, rfl⟩
            have HGQ := hid hgq
            have HCB := hid (show W1.heap[gq]? = some (.cells (AkA kd d s nq xx ba bl bc od) 36 (0, 0)) from hgq ▸ hW1 ▸ heap_alloc_new _ _)
            have hbs : (wr.alloc (.cells (AkA 0 0 0 0 0 none 0 0 false) 36)).heap[wr.heap.size]? = some (.cells (AkA 0 0 0 0 0 none 0 0 false) 36 (0, 0)) := block_alloc
            have HW1 := hid hW1
            have HX1 := hid (Ext.trans HX.out x1')
            have HSZ1 := hid (show wr.heap.size < W1.heap.size from hgq ▸ lt_of_block HCB.out)
            have HT1 := hid (HT.out.more (T := fun b => b < w.heap.size ∨ (wr.heap.size ≤ b ∧ b < W1.heap.size)) x1' (fun b hb => by
              have := HX1.out.size
              rcases hb with hb | hb
              · exact ⟨by omega, .inl hb⟩
              · exact ⟨hb.2, .inr hb.1⟩))
            have HBI := hid (show BitsIn W1 ba bl bits from hbits.only HX1.out (fun _ _ q => q))
            have HBW := hid (show BitsAt w ba bl bits from hbits.1)
            have HBS := hid (show ∀ p, ba = some p → 0 < bl → p.block < w.heap.size from hbits.2)
            have hq3 : W1.cell? ⟨gq, 3, none⟩ = some (.int .i64 nq) := (cell_at HCB.out).trans rfl
            have hq0 : W1.cell? ⟨gq, 0, none⟩ = some (.int .i64 kd) := (cell_at HCB.out).trans rfl
            have HQ3 := hid hq3
            clear hcl hW1 x1' hbl hbits hx0 hx1 hq1 HT hgq
            go_wp2_with (first
              | (guard_target = wpList _ _ _ ({ dst := some _, op := Op.load _ _, type := _, pos := _, after := _, guard := none } :: _) _ _; refine wpList_load_agg rfl 36 _ rfl ⟨b, off + i * 7, none⟩ rfl (AkA kd d s nq xx ba bl bc od) aggAk HCL.out ?_)
              | (guard_target = wpList _ _ _ ({ dst := none, op := Op.store _ _ _, type := _, pos := _, after := _, guard := none } :: _) _ _; have hb0 := hbs; clear hbs; refine wpList_store_whole rfl 36 _ _ rfl wr.heap.size rfl (AkA kd d s nq xx ba bl bc od) _ rfl 36 aggAk hb0 rfl (AkA_one _ _ _ _ _ _ _ _ _) ?_; rw [setRow_alloc, HW1.out, HGQ.out]))
            have hT0 := HT1.out
            obtain ⟨T, hT⟩ : ∃ T : Nat → Prop, (fun b => b < w.heap.size ∨ (wr.heap.size ≤ b ∧ b < W1.heap.size)) = T := ⟨_, rfl⟩
            rw [hT] at hT0
            have HTS := hid (show ∀ b, b < w.heap.size → T b from fun b hb => hT ▸ Or.inl hb)
            have HTG := hid (show T gq from hT ▸ Or.inr ⟨by rw [HGQ.out]; exact Nat.le_refl _, lt_of_block HCB.out⟩)
            have HT2 := hid hT0
            clear hT0 hT HT1
            go_wp2_with fail
            refine (within_c nq 0 3 W1 (by omega) (by omega) (by omega)).mono ?_
            rintro e _ ⟨rfl, rfl⟩
            obtain ⟨z0, z1⟩ := within_bd nq 0 3 (by omega)
            obtain ⟨sl, hsl⟩ := Int.eq_ofNat_of_zero_le z0
            have HSL := hid (show sl ≤ 3 by omega)
            rw [hsl]
            clear hsl z0 z1 hq3
            go_upto_block 2 with fail
            refine wp_cut (fun a' wq => ∃ tail : List Value, a' = ⟨(([.int .i64 nn, .int .i64 sectors, .slice (some ⟨b, off, none⟩) len cap, undef, undef, undef, .bool false, .int .i64 mm, .pointer (some ⟨r, 0, none⟩), .nilIface, .pointer (some ⟨q, 0, none⟩), .int .i64 0, .int .i64 i, .pointer (some ⟨gq, 0, none⟩), .bool true, .int .i64 sl] : List Value) ++ tail).toArray, []⟩ ∧ tail.length = 385 ∧ ∃ R', TwoAt T wq r q R' R' ∧ R'.Dim nn mm ∧ Ext w wq ∧ wq.heap[gq]? = some (.cells (AkA kd d s nq xx ba bl bc od) 36 (0, 0))) ?_ ?_
            · rintro _ wc ⟨tail, rfl, hN, R', ht', hd', hx', hc'⟩
              obtain ⟨f2, rfl⟩ := tail_fn hN
              have hch : ∀ K : Act → World → Prop, K ⟨(([.int .i64 nn, .int .i64 sectors, .slice (some ⟨b, off, none⟩) len cap, undef, undef, undef, .bool false, .int .i64 mm, .pointer (some ⟨r, 0, none⟩), .nilIface, .pointer (some ⟨q, 0, none⟩), .int .i64 0, .int .i64 i, .pointer (some ⟨gq, 0, none⟩), .bool true, .int .i64 sl, f2 0, f2 1, f2 2, f2 3, f2 4, f2 5, f2 6, f2 7, f2 8, f2 9, f2 10, f2 11, f2 12, f2 13, f2 14, f2 15, f2 16, f2 17, f2 18, f2 19, f2 20, f2 21, f2 22, f2 23, f2 24, f2 25, f2 26, f2 27, f2 28, f2 29, f2 30, f2 31, f2 32, f2 33, f2 34, f2 35, f2 36, f2 37, f2 38, f2 39, f2 40, f2 41, f2 42, f2 43, f2 44, f2 45, f2 46, f2 47, f2 48, f2 49, f2 50, f2 51, f2 52, f2 53, f2 54, f2 55, f2 56, f2 57, f2 58, f2 59, f2 60, f2 61, f2 62, f2 63, f2 64, f2 65, f2 66, f2 67, f2 68, f2 69, f2 70, f2 71, f2 72, f2 73, f2 74, f2 75, f2 76, f2 77, f2 78, f2 79, f2 80, f2 81, f2 82, f2 83, f2 84, f2 85, f2 86, f2 87, f2 88, f2 89, f2 90, f2 91, f2 92, f2 93, f2 94, f2 95, f2 96, f2 97, f2 98, f2 99, f2 100, f2 101, f2 102, f2 103, f2 104, f2 105, f2 106, f2 107, f2 108, f2 109, f2 110, f2 111, f2 112, f2 113, f2 114, f2 115, f2 116, f2 117, f2 118, f2 119, f2 120, f2 121, f2 122, f2 123, f2 124, f2 125, f2 126, f2 127, f2 128, f2 129, f2 130, f2 131, f2 132, f2 133, f2 134, f2 135, f2 136, f2 137, f2 138, f2 139, f2 140, f2 141, f2 142, f2 143, f2 144, f2 145, f2 146, f2 147, f2 148, f2 149, f2 150, f2 151, f2 152, f2 153, f2 154, f2 155, f2 156, f2 157, f2 158, f2 159, f2 160, f2 161, f2 162, f2 163, f2 164, f2 165, f2 166, f2 167, f2 168, f2 169, f2 170, f2 171, f2 172, f2 173, f2 174, f2 175, f2 176, f2 177, f2 178, f2 179, f2 180, f2 181, f2 182, f2 183, f2 184, f2 185, f2 186, f2 187, f2 188, f2 189, f2 190, f2 191, f2 192, f2 193, f2 194, f2 195, f2 196, f2 197, f2 198, f2 199, f2 200, f2 201, f2 202, f2 203, f2 204, f2 205, f2 206, f2 207, f2 208, f2 209, f2 210, f2 211, f2 212, f2 213, f2 214, f2 215, f2 216, f2 217, f2 218, f2 219, f2 220, f2 221, f2 222, f2 223, f2 224, f2 225, f2 226, f2 227, f2 228, f2 229, f2 230, f2 231, f2 232, f2 233, f2 234, f2 235, f2 236, f2 237, f2 238, f2 239, f2 240, f2 241, f2 242, f2 243, f2 244, f2 245, f2 246, f2 247, f2 248, f2 249, f2 250, f2 251, f2 252, f2 253, f2 254, f2 255, f2 256, f2 257, f2 258, f2 259, f2 260, f2 261, f2 262, f2 263, f2 264, f2 265, f2 266, f2 267, f2 268, f2 269, f2 270, f2 271, f2 272, f2 273, f2 274, f2 275, f2 276, f2 277, f2 278, f2 279, f2 280, f2 281, f2 282, f2 283, f2 284, f2 285, f2 286, f2 287, f2 288, f2 289, f2 290, f2 291, f2 292, f2 293, f2 294, f2 295, f2 296, f2 297, f2 298, f2 299, f2 300, f2 301, f2 302, f2 303, f2 304, f2 305, f2 306, f2 307, f2 308, f2 309, f2 310, f2 311, f2 312, f2 313, f2 314, f2 315, f2 316, f2 317, f2 318, f2 319, f2 320, f2 321, f2 322, f2 323, f2 324, f2 325, f2 326, f2 327, f2 328, f2 329, f2 330, f2 331, f2 332, f2 333, f2 334, f2 335, f2 336, f2 337, f2 338, f2 339, f2 340, f2 341, f2 342, f2 343, f2 344, f2 345, f2 346, f2 347, f2 348, f2 349, f2 350, f2 351, f2 352, f2 353, f2 354, f2 355, f2 356, f2 357, f2 358, f2 359, f2 360, f2 361, f2 362, f2 363, f2 364, f2 365, f2 366, f2 367, f2 368, f2 369, f2 370, f2 371, f2 372, f2 373, f2 374, f2 375, f2 376, f2 377, f2 378, f2 379, f2 380, f2 381, f2 382, f2 383, f2 384] : List Value)).toArray, []⟩ wc → K ⟨(([.int .i64 nn, .int .i64 sectors, .slice (some ⟨b, off, none⟩) len cap, undef, undef, undef, .bool false, .int .i64 mm, .pointer (some ⟨r, 0, none⟩), .nilIface, .pointer (some ⟨q, 0, none⟩), .int .i64 0, .int .i64 i, .pointer (some ⟨gq, 0, none⟩), .bool true, .int .i64 sl] : List Value) ++ (List.range 385).map f2).toArray, []⟩ wc := fun K h => h
              refine hch _ ?_
              clear hch
              have HT3 := hid ht'; have HD3 := hid hd'; have HX3 := hid hx'; have HC3 := hid hc'
              clear ht' hd' hx' hc' hN
              obtain ⟨gl, cl, hnl⟩ := fat_n HT3.out.fact
              rw [HD3.out.len] at hnl
              have HNL := hid hnl
              have HSZ := hid (Frm.A_size _ zero_ok)
              have HONL := hid (show (List.range nn).filter (fun (i : Nat) => R'.up i) = R'.online by unfold Rck.online; rw [HD3.out.len])
              go_wp2_with fail
              clear hnl
              go_loopw [20, 14, 258] (fun v o t wq => ∃ dd : Nat, t = .int .i64 dd ∧ o = .bool true ∧ dd ≤ nn ∧ OwnInts wq wc.heap.size v ((List.range dd).filter (fun (i : Nat) => R'.up i)) ∧ Ext wc wq) (fun _ _ t _ => nn - (intOf t).toNat)
              case atStart => exact ⟨0, rfl, rfl, by omega, OwnInts.nil _ _, Ext.refl _⟩
              case round =>
                obtain ⟨dd, rfl, rfl, hdd, hown, hxr⟩ := hrel
                have HOW := hid hown; have HXR := hid hxr
                clear hown hxr
                by_cases hlt : dd < nn
                · have e0 : (0 : Int) ≤ (dd : Int) := by omega
                  have e1 : (dd : Int) < (nn : Int) := by omega
                  have HTR := hid (HT3.out.ext HXR.out)
                  have hfl : (List.range (dd + 1)).filter (fun (i : Nat) => R'.up i) = (List.range dd).filter (fun (i : Nat) => R'.up i) ++ if R'.up dd then [dd] else [] := by
                    rw [List.range_succ, List.filter_append]
                    congr 1
                    by_cases h : R'.up dd = true <;> simp [h]
                  go_wp2_with fail
                  refine (fat_up HTR.out.fact dd).mono ?_
                  rintro e _ ⟨rfl, rfl⟩
                  rcases hu : R'.up (dd : Int) with _ | _
                  · as_aux_lemma =>
                      rw [hu, if_neg (by simp), List.append_nil] at hfl
                      have HOW2 := hid (show OwnInts wr wc.heap.size _ ((List.range (dd + 1)).filter (fun (i : Nat) => R'.up i)) from hfl ▸ HOW.out)
                      have HU := hid hu
                      clear hu hfl
                      go_wp2_with fail
                      refine (at_up HTR.out.ract dd).mono ?_
                      rintro e _ ⟨rfl, rfl⟩
                      rw [HU.out]
                      go_wp2_with fail
                      refine (fat_up HTR.out.fact dd).mono ?_
                      rintro e _ ⟨rfl, rfl⟩
                      rw [HU.out]
                      have HTW := hid (HT3.out.ext HXR.out)
                      have HXW := hid (Ext.trans HX3.out HXR.out)
                      go_wp2_with fail
                      go_loopw [14, 22] (fun o t wq => ∃ ss : Nat, t = .int .i64 ss ∧ o = .bool true ∧ ss ≤ mm ∧ Ext wr wq) (fun _ t _ => mm - (intOf t).toNat)
                      case atStart => exact ⟨0, rfl, rfl, by omega, Ext.refl _⟩
                      case round =>
                        obtain ⟨ss, rfl, rfl, hss, hxi⟩ := hrel
                        have HI0 := hid hxi
                        clear hxi
                        by_cases hsl : ss < mm
                        · have s0 : (0 : Int) ≤ (ss : Int) := by omega
                          have s1 : (ss : Int) < (mm : Int) := by omega
                          have HPI := hid (HTW.out.ext HI0.out)
                          go_wp2_with fail
                          refine (at_get HPI.out.ract (dd : Int) (ss : Int) 3 (sl : Int) (-1)).mono ?_
                          rintro e gI ⟨rfl, hxI⟩
                          have hokI : ((R'.get (dd : Int) (ss : Int) 3 (sl : Int) (-1)).getD Frm.zero).Ok := by
                            rcases hq : R'.get (dd : Int) (ss : Int) 3 (sl : Int) (-1) with _ | f
                            · exact zero_ok
                            · exact HPI.out.ract.got_ok hq
                          unfold gotO
                          obtain ⟨FI, hFI⟩ : ∃ F, (R'.get (dd : Int) (ss : Int) 3 (sl : Int) (-1)).getD Frm.zero = F := ⟨_, rfl⟩
                          obtain ⟨zI, hzI⟩ : ∃ b, (R'.get (dd : Int) (ss : Int) 3 (sl : Int) (-1)).isSome = b := ⟨_, rfl⟩
                          rw [hFI] at hokI
                          rw [hFI, hzI]
                          have HFI := hid hFI; have HZI := hid hzI; have HOKI := hid hokI
                          have HSF := hid (Frm.A_size _ hokI)
                          have HEAI := hid (Ext.trans HI0.out hxI)
                          clear hFI hzI hokI hxI
                          obtain ⟨WAI, hWAI⟩ : ∃ W, gI.alloc (.cells (Frm.A FI) 42) = W := ⟨_, rfl⟩
                          have HBWAI := hid (show WAI.heap[gI.heap.size]? = some (.cells (Frm.A FI) 42 (0, 0)) from hWAI ▸ heap_alloc_new _ _)
                          have HXXWAI := hid (show Ext gI WAI from hWAI ▸ (Ext.refl gI).alloc _)
                          have hbaI : (gI.alloc (.cells (Frm.A Frm.zero) 42)).heap[gI.heap.size]? = some (.cells (Frm.A Frm.zero) 42 (0, 0)) := block_alloc
                          have HWWAI := hid hWAI
                          obtain ⟨paI, hpaI⟩ : ∃ g, gI.heap.size = g := ⟨_, rfl⟩
                          have HGpaI := hid hpaI
                          rw [hpaI] at HBWAI
                          clear hWAI hpaI
                          have HEBI := hid (Ext.trans HEAI.out HXXWAI.out)
                          have HQI := hid (HTW.out.ext HEBI.out)
                          go_wp2_with (guard_target = wpList _ _ _ ({ dst := none, op := Op.store _ _ _, type := _, pos := _, after := _, guard := none } :: _) _ _; have hb0 := hbaI; clear hbaI; refine wpList_store_whole rfl 42 _ _ rfl gI.heap.size rfl (Frm.A FI) _ rfl 42 (by rw [HSF.out]; exact aggFrame) hb0 (by rw [HSF.out, HSZ.out]) (Frm.A_one _) ?_; rw [setRow_alloc, HWWAI.out, HGpaI.out])
                          refine (fat_get HQI.out.fact (dd : Int) (ss : Int) 3 (sl : Int) (-1)).mono ?_
                          rintro e kI ⟨rfl, hxI⟩
                          unfold gotO
                          rw [HFI.out, HZI.out]
                          have HECI := hid (Ext.trans HEBI.out hxI)
                          have HBAI := hid (hxI.at HBWAI.out)
                          clear hxI
                          obtain ⟨WBI, hWBI⟩ : ∃ W, kI.alloc (.cells (Frm.A FI) 42) = W := ⟨_, rfl⟩
                          have HBWBI := hid (show WBI.heap[kI.heap.size]? = some (.cells (Frm.A FI) 42 (0, 0)) from hWBI ▸ heap_alloc_new _ _)
                          have HXXWBI := hid (show Ext kI WBI from hWBI ▸ (Ext.refl kI).alloc _)
                          have hbbI : (kI.alloc (.cells (Frm.A Frm.zero) 42)).heap[kI.heap.size]? = some (.cells (Frm.A Frm.zero) 42 (0, 0)) := block_alloc
                          have HWWBI := hid hWBI
                          obtain ⟨pbI, hpbI⟩ : ∃ g, kI.heap.size = g := ⟨_, rfl⟩
                          have HGpbI := hid hpbI
                          rw [hpbI] at HBWBI
                          clear hWBI hpbI
                          have HEDI := hid (Ext.trans HECI.out HXXWBI.out)
                          have HBBI := hid (HXXWBI.out.at HBAI.out)
                          have HSI := hid (HTW.out.ext HEDI.out)
                          go_wp2_with (guard_target = wpList _ _ _ ({ dst := none, op := Op.store _ _ _, type := _, pos := _, after := _, guard := none } :: _) _ _; have hb0 := hbbI; clear hbbI; refine wpList_store_whole rfl 42 _ _ rfl kI.heap.size rfl (Frm.A FI) _ rfl 42 (by rw [HSF.out]; exact aggFrame) hb0 (by rw [HSF.out, HSZ.out]) (Frm.A_one _) ?_; rw [setRow_alloc, HWWBI.out, HGpbI.out])
                          refine (at_read HSI.out.ract dd ss).mono ?_
                          rintro e w5 (⟨er, h1, rfl, x5⟩ | ⟨h1, p5, rfl, hp5, hs5, x5⟩)
                          · have HT5 := hid (HTW.out.ext (Ext.trans HEDI.out x5))
                            have H1 := hid h1
                            have X5 := hid x5
                            clear h1 x5
                            go_wp2_with fail
                            refine (fat_read HT5.out.fact dd ss).mono ?_
                            rintro e w6 (⟨h2, rfl, x6⟩ | ⟨h2, p6, rfl, hp6, hs6, x6⟩)
                            · rw [H1.out]
                              have HA6 := hid (Ext.at (Ext.trans X5.out x6) HBBI.out)
                              have HB6 := hid (Ext.at (Ext.trans X5.out x6) HBWBI.out)
                              have HE6 := hid (Ext.trans HEDI.out (Ext.trans X5.out x6))
                              obtain ⟨ek, hek⟩ : ∃ z, okind (some er) = z := ⟨_, rfl⟩
                              rw [hek]
                              have HEK := hid (show er.kind = ek from hek)
                              have hee : (ek == ek) = true := by simp
                              clear h2 x6 hek
                              go_wp2_with (first
                                | (guard_target = wpList _ _ _ ({ dst := some _, op := Op.load _ _, type := _, pos := _, after := _, guard := some _ } :: _) _ _; refine wpListG_load_agg 42 _ rfl ⟨paI, 0, none⟩ rfl (Frm.A FI) rfl (by rw [HSF.out]; exact aggFrame) (agg_cells HA6.out) ?_)
                                | (guard_target = wpList _ _ _ ({ dst := some _, op := Op.load _ _, type := _, pos := _, after := _, guard := some _ } :: _) _ _; refine wpListG_load_agg 42 _ rfl ⟨pbI, 0, none⟩ rfl (Frm.A FI) rfl (by rw [HSF.out]; exact aggFrame) (agg_cells HB6.out) ?_)
                                | (guard_target = wpList _ _ _ ({ dst := some _, op := Op.binOp _ _ _ _ _, type := _, pos := _, after := _, guard := some _ } :: _) _ _; refine wpListG_eql .eql 42 _ _ _ rfl (Frm.A FI) (Frm.A FI) rfl rfl (.bool true) rfl (frame_guard _ _ _ _ _ _) (by rw [frame_eql _ _ HOKI.out HOKI.out, Frm.eqB_self]) ?_))
                              refine (same_none none 0 none 0 w6).mono ?_
                              rintro e w7 ⟨rfl, x7⟩
                              have HE7 := hid (Ext.trans HE6.out x7)
                              clear x7
                              go_wp2_with fail
                              refine (kind_err er w7 (HG.out.only (Ext.trans HXW.out HE7.out) (fun z => z))).mono ?_
                              rintro e w8 ⟨rfl, x8⟩
                              rw [HEK.out]
                              have HE8 := hid (Ext.trans HE7.out x8)
                              clear x8
                              go_wp2
                              go_roundw
                              case rel => exact ⟨ss + 1, by go_num, rfl, by omega, HE8.out⟩
                              case measure => simp [intOf]; omega
                            · exact absurd (h2.symm.trans H1.out) (by simp)
                          · have HT5 := hid (HTW.out.ext (Ext.trans HEDI.out x5))
                            have H1 := hid h1
                            have X5 := hid x5
                            have HS5 := hid hs5
                            clear h1 x5 hs5 hp5
                            go_wp2_with fail
                            refine (fat_read HT5.out.fact dd ss).mono ?_
                            rintro e w6 (⟨h2, rfl, x6⟩ | ⟨h2, p6, rfl, hp6, hs6, x6⟩)
                            · exact absurd H1.out h2
                            · have HA6 := hid (Ext.at (Ext.trans X5.out x6) HBBI.out)
                              have HB6 := hid (Ext.at (Ext.trans X5.out x6) HBWBI.out)
                              have HE6 := hid (Ext.trans HEDI.out (Ext.trans X5.out x6))
                              have HS6 := hid hs6
                              have HS56 := hid (HS5.out.bytes.ext x6)
                              clear h2 x6 hs6 hp6
                              go_wp2_with (first
                                | (guard_target = wpList _ _ _ ({ dst := some _, op := Op.load _ _, type := _, pos := _, after := _, guard := some _ } :: _) _ _; refine wpListG_load_agg 42 _ rfl ⟨paI, 0, none⟩ rfl (Frm.A FI) rfl (by rw [HSF.out]; exact aggFrame) (agg_cells HA6.out) ?_)
                                | (guard_target = wpList _ _ _ ({ dst := some _, op := Op.load _ _, type := _, pos := _, after := _, guard := some _ } :: _) _ _; refine wpListG_load_agg 42 _ rfl ⟨pbI, 0, none⟩ rfl (Frm.A FI) rfl (by rw [HSF.out]; exact aggFrame) (agg_cells HB6.out) ?_)
                                | (guard_target = wpList _ _ _ ({ dst := some _, op := Op.binOp _ _ _ _ _, type := _, pos := _, after := _, guard := some _ } :: _) _ _; refine wpListG_eql .eql 42 _ _ _ rfl (Frm.A FI) (Frm.A FI) rfl rfl (.bool true) rfl (frame_guard _ _ _ _ _ _) (by rw [frame_eql _ _ HOKI.out HOKI.out, Frm.eqB_self]) ?_))
                              refine (same_c _ _ HS56.out HS6.out.bytes).mono ?_
                              rintro e w7 ⟨rfl, x7⟩
                              rw [decide_eq_true rfl]
                              have HE7 := hid (Ext.trans HE6.out x7)
                              clear x7
                              go_wp2_with fail
                              refine (kind_nil w7).mono ?_
                              rintro e w8 ⟨rfl, x8⟩
                              have HE8 := hid (Ext.trans HE7.out x8)
                              clear x8
                              go_wp2
                              go_roundw
                              case rel => exact ⟨ss + 1, by go_num, rfl, by omega, HE8.out⟩
                              case measure => simp [intOf]; omega
                        · obtain rfl : mm = ss := by omega
                          have HIF := HI0
                          go_wp2
                          go_roundw
                          case rel => exact ⟨dd + 1, by go_num, rfl, by omega, HOW2.out.ext HIF.out, Ext.trans HXR.out HIF.out⟩
                          case measure => simp [intOf]; omega
                  · as_aux_lemma =>
                      rw [hu, if_pos rfl] at hfl
                      obtain ⟨v', W4, hap, hown2, _, hx2⟩ := HOW.out.push dd (by have := List.length_filter_le (fun (i : Nat) => R'.up i) (List.range dd); simp at this; omega) HXR.out.size
                      have HAP := hid hap
                      have HOW2 := hid (show OwnInts W4 wc.heap.size v' ((List.range (dd + 1)).filter (fun (i : Nat) => R'.up i)) from hfl ▸ hown2)
                      have HX4 := hid (hx2 wc (Nat.le_refl _) HXR.out)
                      have HU := hid hu
                      have HT4 := hid (HT3.out.ext HX4.out)
                      clear hap hown2 hx2 hu hfl
                      go_wp2_with (at_builtin; refine wpList_append_run rfl _ _ _ rfl _ _ _ _ rfl rfl HAP.out ?_)
                      refine (at_up HT4.out.ract dd).mono ?_
                      rintro e _ ⟨rfl, rfl⟩
                      rw [HU.out]
                      go_wp2_with fail
                      refine (fat_up HT4.out.fact dd).mono ?_
                      rintro e _ ⟨rfl, rfl⟩
                      rw [HU.out]
                      have HTW := hid (HT3.out.ext HX4.out)
                      have HXW := hid (Ext.trans HX3.out HX4.out)
                      go_wp2_with fail
                      go_loopw [14, 22] (fun o t wq => ∃ ss : Nat, t = .int .i64 ss ∧ o = .bool true ∧ ss ≤ mm ∧ Ext W4 wq) (fun _ t _ => mm - (intOf t).toNat)
                      case atStart => exact ⟨0, rfl, rfl, by omega, Ext.refl _⟩
                      case round =>
                        obtain ⟨ss, rfl, rfl, hss, hxi⟩ := hrel
                        have HI0 := hid hxi
                        clear hxi
                        by_cases hsl : ss < mm
                        · have s0 : (0 : Int) ≤ (ss : Int) := by omega
                          have s1 : (ss : Int) < (mm : Int) := by omega
                          have HPI := hid (HTW.out.ext HI0.out)
                          go_wp2_with fail
                          refine (at_get HPI.out.ract (dd : Int) (ss : Int) 3 (sl : Int) (-1)).mono ?_
                          rintro e gI ⟨rfl, hxI⟩
                          have hokI : ((R'.get (dd : Int) (ss : Int) 3 (sl : Int) (-1)).getD Frm.zero).Ok := by
                            rcases hq : R'.get (dd : Int) (ss : Int) 3 (sl : Int) (-1) with _ | f
                            · exact zero_ok
                            · exact HPI.out.ract.got_ok hq
                          unfold gotO
                          obtain ⟨FI, hFI⟩ : ∃ F, (R'.get (dd : Int) (ss : Int) 3 (sl : Int) (-1)).getD Frm.zero = F := ⟨_, rfl⟩
                          obtain ⟨zI, hzI⟩ : ∃ b, (R'.get (dd : Int) (ss : Int) 3 (sl : Int) (-1)).isSome = b := ⟨_, rfl⟩
                          rw [hFI] at hokI
                          rw [hFI, hzI]
                          have HFI := hid hFI; have HZI := hid hzI; have HOKI := hid hokI
                          have HSF := hid (Frm.A_size _ hokI)
                          have HEAI := hid (Ext.trans HI0.out hxI)
                          clear hFI hzI hokI hxI
                          obtain ⟨WAI, hWAI⟩ : ∃ W, gI.alloc (.cells (Frm.A FI) 42) = W := ⟨_, rfl⟩
                          have HBWAI := hid (show WAI.heap[gI.heap.size]? = some (.cells (Frm.A FI) 42 (0, 0)) from hWAI ▸ heap_alloc_new _ _)
                          have HXXWAI := hid (show Ext gI WAI from hWAI ▸ (Ext.refl gI).alloc _)
                          have hbaI : (gI.alloc (.cells (Frm.A Frm.zero) 42)).heap[gI.heap.size]? = some (.cells (Frm.A Frm.zero) 42 (0, 0)) := block_alloc
                          have HWWAI := hid hWAI
                          obtain ⟨paI, hpaI⟩ : ∃ g, gI.heap.size = g := ⟨_, rfl⟩
                          have HGpaI := hid hpaI
                          rw [hpaI] at HBWAI
                          clear hWAI hpaI
                          have HEBI := hid (Ext.trans HEAI.out HXXWAI.out)
                          have HQI := hid (HTW.out.ext HEBI.out)
                          go_wp2_with (guard_target = wpList _ _ _ ({ dst := none, op := Op.store _ _ _, type := _, pos := _, after := _, guard := none } :: _) _ _; have hb0 := hbaI; clear hbaI; refine wpList_store_whole rfl 42 _ _ rfl gI.heap.size rfl (Frm.A FI) _ rfl 42 (by rw [HSF.out]; exact aggFrame) hb0 (by rw [HSF.out, HSZ.out]) (Frm.A_one _) ?_; rw [setRow_alloc, HWWAI.out, HGpaI.out])
                          refine (fat_get HQI.out.fact (dd : Int) (ss : Int) 3 (sl : Int) (-1)).mono ?_
                          rintro e kI ⟨rfl, hxI⟩
                          unfold gotO
                          rw [HFI.out, HZI.out]
                          have HECI := hid (Ext.trans HEBI.out hxI)
                          have HBAI := hid (hxI.at HBWAI.out)
                          clear hxI
                          obtain ⟨WBI, hWBI⟩ : ∃ W, kI.alloc (.cells (Frm.A FI) 42) = W := ⟨_, rfl⟩
                          have HBWBI := hid (show WBI.heap[kI.heap.size]? = some (.cells (Frm.A FI) 42 (0, 0)) from hWBI ▸ heap_alloc_new _ _)
                          have HXXWBI := hid (show Ext kI WBI from hWBI ▸ (Ext.refl kI).alloc _)
                          have hbbI : (kI.alloc (.cells (Frm.A Frm.zero) 42)).heap[kI.heap.size]? = some (.cells (Frm.A Frm.zero) 42 (0, 0)) := block_alloc
                          have HWWBI := hid hWBI
                          obtain ⟨pbI, hpbI⟩ : ∃ g, kI.heap.size = g := ⟨_, rfl⟩
                          have HGpbI := hid hpbI
                          rw [hpbI] at HBWBI
                          clear hWBI hpbI
                          have HEDI := hid (Ext.trans HECI.out HXXWBI.out)
                          have HBBI := hid (HXXWBI.out.at HBAI.out)
                          have HSI := hid (HTW.out.ext HEDI.out)
                          go_wp2_with (guard_target = wpList _ _ _ ({ dst := none, op := Op.store _ _ _, type := _, pos := _, after := _, guard := none } :: _) _ _; have hb0 := hbbI; clear hbbI; refine wpList_store_whole rfl 42 _ _ rfl kI.heap.size rfl (Frm.A FI) _ rfl 42 (by rw [HSF.out]; exact aggFrame) hb0 (by rw [HSF.out, HSZ.out]) (Frm.A_one _) ?_; rw [setRow_alloc, HWWBI.out, HGpbI.out])
                          refine (at_read HSI.out.ract dd ss).mono ?_
                          rintro e w5 (⟨er, h1, rfl, x5⟩ | ⟨h1, p5, rfl, hp5, hs5, x5⟩)
                          · have HT5 := hid (HTW.out.ext (Ext.trans HEDI.out x5))
                            have H1 := hid h1
                            have X5 := hid x5
                            clear h1 x5
                            go_wp2_with fail
                            refine (fat_read HT5.out.fact dd ss).mono ?_
                            rintro e w6 (⟨h2, rfl, x6⟩ | ⟨h2, p6, rfl, hp6, hs6, x6⟩)
                            · rw [H1.out]
                              have HA6 := hid (Ext.at (Ext.trans X5.out x6) HBBI.out)
                              have HB6 := hid (Ext.at (Ext.trans X5.out x6) HBWBI.out)
                              have HE6 := hid (Ext.trans HEDI.out (Ext.trans X5.out x6))
                              obtain ⟨ek, hek⟩ : ∃ z, okind (some er) = z := ⟨_, rfl⟩
                              rw [hek]
                              have HEK := hid (show er.kind = ek from hek)
                              have hee : (ek == ek) = true := by simp
                              clear h2 x6 hek
                              go_wp2_with (first
                                | (guard_target = wpList _ _ _ ({ dst := some _, op := Op.load _ _, type := _, pos := _, after := _, guard := some _ } :: _) _ _; refine wpListG_load_agg 42 _ rfl ⟨paI, 0, none⟩ rfl (Frm.A FI) rfl (by rw [HSF.out]; exact aggFrame) (agg_cells HA6.out) ?_)
                                | (guard_target = wpList _ _ _ ({ dst := some _, op := Op.load _ _, type := _, pos := _, after := _, guard := some _ } :: _) _ _; refine wpListG_load_agg 42 _ rfl ⟨pbI, 0, none⟩ rfl (Frm.A FI) rfl (by rw [HSF.out]; exact aggFrame) (agg_cells HB6.out) ?_)
                                | (guard_target = wpList _ _ _ ({ dst := some _, op := Op.binOp _ _ _ _ _, type := _, pos := _, after := _, guard := some _ } :: _) _ _; refine wpListG_eql .eql 42 _ _ _ rfl (Frm.A FI) (Frm.A FI) rfl rfl (.bool true) rfl (frame_guard _ _ _ _ _ _) (by rw [frame_eql _ _ HOKI.out HOKI.out, Frm.eqB_self]) ?_))
                              refine (same_none none 0 none 0 w6).mono ?_
                              rintro e w7 ⟨rfl, x7⟩
                              have HE7 := hid (Ext.trans HE6.out x7)
                              clear x7
                              go_wp2_with fail
                              refine (kind_err er w7 (HG.out.only (Ext.trans HXW.out HE7.out) (fun z => z))).mono ?_
                              rintro e w8 ⟨rfl, x8⟩
                              rw [HEK.out]
                              have HE8 := hid (Ext.trans HE7.out x8)
                              clear x8
                              go_wp2
                              go_roundw
                              case rel => exact ⟨ss + 1, by go_num, rfl, by omega, HE8.out⟩
                              case measure => simp [intOf]; omega
                            · exact absurd (h2.symm.trans H1.out) (by simp)
                          · have HT5 := hid (HTW.out.ext (Ext.trans HEDI.out x5))
                            have H1 := hid h1
                            have X5 := hid x5
                            have HS5 := hid hs5
                            clear h1 x5 hs5 hp5
                            go_wp2_with fail
                            refine (fat_read HT5.out.fact dd ss).mono ?_
                            rintro e w6 (⟨h2, rfl, x6⟩ | ⟨h2, p6, rfl, hp6, hs6, x6⟩)
                            · exact absurd H1.out h2
                            · have HA6 := hid (Ext.at (Ext.trans X5.out x6) HBBI.out)
                              have HB6 := hid (Ext.at (Ext.trans X5.out x6) HBWBI.out)
                              have HE6 := hid (Ext.trans HEDI.out (Ext.trans X5.out x6))
                              have HS6 := hid hs6
                              have HS56 := hid (HS5.out.bytes.ext x6)
                              clear h2 x6 hs6 hp6
                              go_wp2_with (first
                                | (guard_target = wpList _ _ _ ({ dst := some _, op := Op.load _ _, type := _, pos := _, after := _, guard := some _ } :: _) _ _; refine wpListG_load_agg 42 _ rfl ⟨paI, 0, none⟩ rfl (Frm.A FI) rfl (by rw [HSF.out]; exact aggFrame) (agg_cells HA6.out) ?_)
                                | (guard_target = wpList _ _ _ ({ dst := some _, op := Op.load _ _, type := _, pos := _, after := _, guard := some _ } :: _) _ _; refine wpListG_load_agg 42 _ rfl ⟨pbI, 0, none⟩ rfl (Frm.A FI) rfl (by rw [HSF.out]; exact aggFrame) (agg_cells HB6.out) ?_)
                                | (guard_target = wpList _ _ _ ({ dst := some _, op := Op.binOp _ _ _ _ _, type := _, pos := _, after := _, guard := some _ } :: _) _ _; refine wpListG_eql .eql 42 _ _ _ rfl (Frm.A FI) (Frm.A FI) rfl rfl (.bool true) rfl (frame_guard _ _ _ _ _ _) (by rw [frame_eql _ _ HOKI.out HOKI.out, Frm.eqB_self]) ?_))
                              refine (same_c _ _ HS56.out HS6.out.bytes).mono ?_
                              rintro e w7 ⟨rfl, x7⟩
                              rw [decide_eq_true rfl]
                              have HE7 := hid (Ext.trans HE6.out x7)
                              clear x7
                              go_wp2_with fail
                              refine (kind_nil w7).mono ?_
                              rintro e w8 ⟨rfl, x8⟩
                              have HE8 := hid (Ext.trans HE7.out x8)
                              clear x8
                              go_wp2
                              go_roundw
                              case rel => exact ⟨ss + 1, by go_num, rfl, by omega, HE8.out⟩
                              case measure => simp [intOf]; omega
                        · obtain rfl : mm = ss := by omega
                          have HIF := HI0
                          go_wp2
                          go_roundw
                          case rel => exact ⟨dd + 1, by go_num, rfl, by omega, HOW2.out.ext HIF.out, Ext.trans HX4.out HIF.out⟩
                          case measure => simp [intOf]; omega
                · as_aux_lemma =>
                    obtain rfl : nn = dd := by omega
                    rw [HONL.out] at HOW
                    obtain ⟨ua, uc, rfl, _, huat, _⟩ := HOW.out.at
                    have HUA := hid huat
                    have HTW := hid (HT3.out.ext HXR.out)
                    have HXW := hid (Ext.trans HX3.out HXR.out)
                    have HCW := hid (HXR.out.at HC3.out)
                    have q1 : wr.cell? ⟨gq, 1, none⟩ = some (.int .i64 d) := (cell_at HCW.out).trans rfl
                    have q2 : wr.cell? ⟨gq, 2, none⟩ = some (.int .i64 s) := (cell_at HCW.out).trans rfl
                    clear huat
                    have HER0 := hid (Ext.refl wr)
                    have HPJ := hid (HTW.out.ext HER0.out)
                    go_wp2_with fail
                    refine (at_get HPJ.out.ract d s 3 (sl : Int) 1).mono ?_
                    rintro e gJ ⟨rfl, hxJ⟩
                    have hokJ : ((R'.get d s 3 (sl : Int) 1).getD Frm.zero).Ok := by
                      rcases hq : R'.get d s 3 (sl : Int) 1 with _ | f
                      · exact zero_ok
                      · exact HPJ.out.ract.got_ok hq
                    unfold gotO
                    obtain ⟨FJ, hFJ⟩ : ∃ F, (R'.get d s 3 (sl : Int) 1).getD Frm.zero = F := ⟨_, rfl⟩
                    obtain ⟨zJ, hzJ⟩ : ∃ b, (R'.get d s 3 (sl : Int) 1).isSome = b := ⟨_, rfl⟩
                    rw [hFJ] at hokJ
                    rw [hFJ, hzJ]
                    have HFJ := hid hFJ; have HZJ := hid hzJ; have HOKJ := hid hokJ
                    have HSF := hid (Frm.A_size _ hokJ)
                    have HEAJ := hid (Ext.trans HER0.out hxJ)
                    clear hFJ hzJ hokJ hxJ
                    obtain ⟨WAJ, hWAJ⟩ : ∃ W, gJ.alloc (.cells (Frm.A FJ) 42) = W := ⟨_, rfl⟩
                    have HBWAJ := hid (show WAJ.heap[gJ.heap.size]? = some (.cells (Frm.A FJ) 42 (0, 0)) from hWAJ ▸ heap_alloc_new _ _)
                    have HXXWAJ := hid (show Ext gJ WAJ from hWAJ ▸ (Ext.refl gJ).alloc _)
                    have hbaJ : (gJ.alloc (.cells (Frm.A Frm.zero) 42)).heap[gJ.heap.size]? = some (.cells (Frm.A Frm.zero) 42 (0, 0)) := block_alloc
                    have HWWAJ := hid hWAJ
                    obtain ⟨paJ, hpaJ⟩ : ∃ g, gJ.heap.size = g := ⟨_, rfl⟩
                    have HGpaJ := hid hpaJ
                    rw [hpaJ] at HBWAJ
                    clear hWAJ hpaJ
                    have HEBJ := hid (Ext.trans HEAJ.out HXXWAJ.out)
                    have HQJ := hid (HTW.out.ext HEBJ.out)
                    have q1' : WAJ.cell? ⟨gq, 1, none⟩ = some (.int .i64 d) := Ext.cell HEBJ.out q1
                    have q2' : WAJ.cell? ⟨gq, 2, none⟩ = some (.int .i64 s) := Ext.cell HEBJ.out q2
                    go_wp2_with (guard_target = wpList _ _ _ ({ dst := none, op := Op.store _ _ _, type := _, pos := _, after := _, guard := none } :: _) _ _; have hb0 := hbaJ; clear hbaJ; refine wpList_store_whole rfl 42 _ _ rfl gJ.heap.size rfl (Frm.A FJ) _ rfl 42 (by rw [HSF.out]; exact aggFrame) hb0 (by rw [HSF.out, HSZ.out]) (Frm.A_one _) ?_; rw [setRow_alloc, HWWAJ.out, HGpaJ.out])
                    refine (fat_get HQJ.out.fact d s 3 (sl : Int) 1).mono ?_
                    rintro e kJ ⟨rfl, hxJ⟩
                    unfold gotO
                    rw [HFJ.out, HZJ.out]
                    have HECJ := hid (Ext.trans HEBJ.out hxJ)
                    have HBAJ := hid (hxJ.at HBWAJ.out)
                    clear hxJ
                    obtain ⟨WBJ, hWBJ⟩ : ∃ W, kJ.alloc (.cells (Frm.A FJ) 42) = W := ⟨_, rfl⟩
                    have HBWBJ := hid (show WBJ.heap[kJ.heap.size]? = some (.cells (Frm.A FJ) 42 (0, 0)) from hWBJ ▸ heap_alloc_new _ _)
                    have HXXWBJ := hid (show Ext kJ WBJ from hWBJ ▸ (Ext.refl kJ).alloc _)
                    have hbbJ : (kJ.alloc (.cells (Frm.A Frm.zero) 42)).heap[kJ.heap.size]? = some (.cells (Frm.A Frm.zero) 42 (0, 0)) := block_alloc
                    have HWWBJ := hid hWBJ
                    obtain ⟨pbJ, hpbJ⟩ : ∃ g, kJ.heap.size = g := ⟨_, rfl⟩
                    have HGpbJ := hid hpbJ
                    rw [hpbJ] at HBWBJ
                    clear hWBJ hpbJ
                    have HEDJ := hid (Ext.trans HECJ.out HXXWBJ.out)
                    have HBBJ := hid (HXXWBJ.out.at HBAJ.out)
                    have HSJ := hid (HTW.out.ext HEDJ.out)
                    go_wp2_with (guard_target = wpList _ _ _ ({ dst := none, op := Op.store _ _ _, type := _, pos := _, after := _, guard := none } :: _) _ _; have hb0 := hbbJ; clear hbbJ; refine wpList_store_whole rfl 42 _ _ rfl kJ.heap.size rfl (Frm.A FJ) _ rfl 42 (by rw [HSF.out]; exact aggFrame) hb0 (by rw [HSF.out, HSZ.out]) (Frm.A_one _) ?_; rw [setRow_alloc, HWWBJ.out, HGpbJ.out])
                    have HXE := hid (show Ext WBJ WBJ.drew from (Ext.refl WBJ).drew)
                    have HTE := hid (show ∀ x : SW Ext WBJ.drew, TwoAt T x.w r q R' R' from fun x => HSJ.out.ext (Ext.trans HXE.out x.ext))
                    obtain ⟨gn, cn, hnn⟩ := fat_n HSJ.out.fact
                    rw [HD3.out.len] at hnn
                    have b0 : ∀ x : SW Ext WBJ.drew, x.w.cell? ⟨q, 0, none⟩ = some (.slice (some ⟨gn, 0, none⟩) nn cn) := fun x => Ext.cell (Ext.trans HXE.out x.ext) hnn
                    have b1 : ∀ x : SW Ext WBJ.drew, x.w.cell? ⟨q, 2, none⟩ = some (.bool R'.off) := fun x => fat_off (HTE.out x).fact
                    have lA : Hid (∀ y : SW Ext WBJ.drew, ∀ j u, (Frm.A FJ).toList[j]? = some u → y.w.cell? ((⟨paJ, 0, none⟩ : Addr).add j) = some u) := hid fun y => agg_cells ((Ext.trans HXE.out y.ext).at HBBJ.out)
                    have lB : Hid (∀ y : SW Ext WBJ.drew, ∀ j u, (Frm.A FJ).toList[j]? = some u → y.w.cell? ((⟨pbJ, 0, none⟩ : Addr).add j) = some u) := hid fun y => agg_cells ((Ext.trans HXE.out y.ext).at HBWBJ.out)
                    have cO : Hid (∀ y : SW Ext WBJ.drew, Calls Tryz.prog 37 #[.pointer (some ⟨r, 0, none⟩)] y.w fun e w'' => e = .returned (.bool R'.off) ∧ Ext y.w w'') := hid fun y => (at_off (HTE.out y).ract).mono fun e w'' z => ⟨z.1, z.2 ▸ Ext.refl _⟩
                    obtain ⟨po, hpo⟩ : ∃ o, R'.off = o := ⟨_, rfl⟩
                    rw [hpo] at cO b1
                    clear hpo hnn q1 q2 q1' q2'
                    go_wp2_with fail
                    refine wp_region_calm_all (E := Ext) (S := Ext) (.one [0, 1, 2, 3, 4, 5, 6, 7, 8, 9, 10, 11, 12, 13, 14, 15, 16, 17, 18, 19, 20, 21, 22, 24] 23 (.fin [25, 26, 27, 28, 29, 30, 31, 32, 33, 34, 35, 36, 37, 38, 39, 40, 41, 42, 43])) (by kernel_rfl) (by kernel_rfl) (fun _ _ d _ _ h => by cases d <;> exact h) ?_
                    rw [wpS]
                    simp only [opsAt, List.map_cons, List.map_nil, Array.getD_eq_getD_getElem?, List.getElem?_toArray, List.getElem?_cons_succ, List.getElem?_cons_zero, Option.getD_some]
                    iterate 3 ((refine wpSQ_step (fun K hK => ?_); go_simp; first | (refine hK _ ?_; clear hK K) | (apply Exists.intro; refine ⟨fun x => ?_, hK _ ?_⟩; (fail); clear hK K)))
                    refine wpSQ_load_agg 42 _ rfl ⟨paJ, 0, none⟩ rfl (Frm.A FJ) rfl (by rw [HSF.out]; exact aggFrame) lA.out ?_
                    refine wpSQ_load_agg 42 _ rfl ⟨pbJ, 0, none⟩ rfl (Frm.A FJ) rfl (by rw [HSF.out]; exact aggFrame) lB.out ?_
                    refine wpSQ_eql .neq 42 _ _ _ rfl (Frm.A FJ) (Frm.A FJ) rfl rfl (.bool false) rfl (fun w => frame_guard _ _ _ _ _ w) (fun w => by rw [frame_neq _ _ HOKJ.out HOKJ.out, Frm.eqB_self]; rfl) ?_
                    iterate 8 ((refine wpSQ_step (fun K hK => ?_); go_simp; first | (refine hK _ ?_; clear hK K) | (apply Exists.intro; refine ⟨fun x => ?_, hK _ ?_⟩; (fail); clear hK K)))
                    (refine wpSQ_step (fun K hK => ?_); go_simp; first | (refine hK _ ?_; clear hK K) | (apply Exists.intro; refine ⟨fun x => ?_, hK _ ?_⟩; (exact cO.out x); clear hK K))
                    iterate 9 ((refine wpSQ_step (fun K hK => ?_); go_simp; first | (refine hK _ ?_; clear hK K) | (apply Exists.intro; refine ⟨fun x => ?_, hK _ ?_⟩; (fail); clear hK K)))
                    refine wpSQ_nil ?_
                    intro V1 hV1
                    have HV1 := hid (Ext.trans HXE.out hV1)
                    clear hV1 b0 b1 lA lB cO HTE HXE
                    refine wpS_loud fun Q1 hQ1 => ?_
                    go_wp2_with fail
                    refine (at_online (HSJ.out.ext HV1.out).ract).mono ?_
                    rintro e V2 ⟨v2, rfl, ho2, x2⟩
                    obtain ⟨oa, oc, rfl, _, hoat, _⟩ := ho2.at
                    have HV2 := hid (Ext.trans HV1.out x2)
                    have HOA := hid hoat
                    have HUA2 := hid (HUA.out.ext (Ext.trans HEDJ.out HV2.out))
                    have HOL := hid (show R'.online.length ≤ 1000 by have := List.length_filter_le (fun (i : Nat) => R'.up i) (List.range R'.l.length); unfold Rck.online; rw [HD3.out.len] at this ⊢; simp at this ⊢; omega)
                    have H2T := hid (HSJ.out.ext HV2.out)
                    have sm : Hid (∀ y : SW Ext V2, Calls Tryz.prog 38 #[.slice oa R'.online.length oc, .slice ua R'.online.length uc] y.w fun e w'' => e = .returned (.bool true) ∧ Ext y.w w'') := hid fun y => sameint_c R'.online HOL.out oa ua oc uc y.w (HOA.out.ext y.ext) (HUA2.out.ext y.ext)
                    have cN : Hid (∀ y : SW Ext V2, Calls Tryz.prog 40 #[.pointer (some ⟨r, 0, none⟩)] y.w fun e w'' => e = .returned (.int .i64 (nn : Int)) ∧ Ext y.w w'') := hid fun y => (at_n (H2T.out.ext y.ext).ract).mono fun e w'' z => ⟨by rw [z.1, HD3.out.len], z.2 ▸ Ext.refl _⟩
                    have cS : Hid (∀ y : SW Ext V2, Calls Tryz.prog 41 #[.pointer (some ⟨r, 0, none⟩)] y.w fun e w'' => e = .returned (.int .i64 (mm : Int)) ∧ Ext y.w w'') := hid fun y => (at_sectors (H2T.out.ext y.ext).ract).mono fun e w'' z => ⟨by rw [z.1, HD3.out.sectors HN.out.1], z.2 ▸ Ext.refl _⟩
                    obtain ⟨gn2, cn2, hnn⟩ := fat_n H2T.out.fact
                    rw [HD3.out.len] at hnn
                    have b0 : ∀ x : SW Ext V2, x.w.cell? ⟨q, 0, none⟩ = some (.slice (some ⟨gn2, 0, none⟩) nn cn2) := fun x => Ext.cell x.ext hnn
                    clear hnn hoat ho2
                    go_wp2
                    refine hQ1 _ _ x2 ?_
                    clear hQ1 Q1 x2
                    rw [wpS]
                    simp only [opsAt, List.map_cons, List.map_nil, Array.getD_eq_getD_getElem?, List.getElem?_toArray, List.getElem?_cons_succ, List.getElem?_cons_zero, Option.getD_some]
                    (refine wpSQ_step (fun K hK => ?_); go_simp; first | (refine hK _ ?_; clear hK K) | (apply Exists.intro; refine ⟨fun x => ?_, hK _ ?_⟩; (exact sm.out x); clear hK K))
                    iterate 4 ((refine wpSQ_step (fun K hK => ?_); go_simp; first | (refine hK _ ?_; clear hK K) | (apply Exists.intro; refine ⟨fun x => ?_, hK _ ?_⟩; (fail); clear hK K)))
                    (refine wpSQ_step (fun K hK => ?_); go_simp; first | (refine hK _ ?_; clear hK K) | (apply Exists.intro; refine ⟨fun x => ?_, hK _ ?_⟩; (exact cN.out x); clear hK K))
                    iterate 9 ((refine wpSQ_step (fun K hK => ?_); go_simp; first | (refine hK _ ?_; clear hK K) | (apply Exists.intro; refine ⟨fun x => ?_, hK _ ?_⟩; (fail); clear hK K)))
                    (refine wpSQ_step (fun K hK => ?_); go_simp; first | (refine hK _ ?_; clear hK K) | (apply Exists.intro; refine ⟨fun x => ?_, hK _ ?_⟩; (exact cS.out x); clear hK K))
                    iterate 3 ((refine wpSQ_step (fun K hK => ?_); go_simp; first | (refine hK _ ?_; clear hK K) | (apply Exists.intro; refine ⟨fun x => ?_, hK _ ?_⟩; (fail); clear hK K)))
                    refine wpSQ_nil ?_
                    intro V3 hV3
                    have HE3 := hid (Ext.trans HEDJ.out (Ext.trans HV2.out hV3))
                    have HF3 := hid ((HTW.out.ext HE3.out).less HTS.out)
                    have HX9 := hid (Ext.trans HXW.out HE3.out)
                    clear hV3 sm cN cS b0
                    go_wp2
                    exact ⟨_, _, rfl, rfl, ⟨i + 1, by go_num, by omega, by omega, R', HF3.out, HD3.out, HX9.out⟩, by simp [intOf]; omega⟩
            · intro J K2 hJ hK2
              rcases hk1 : (kd == (1 : Int)) with _ | _
              · rcases hk2 : (kd == (2 : Int)) with _ | _
                · rcases hk3 : (kd == (3 : Int)) with _ | _
                  · rcases hk4 : (kd == (4 : Int)) with _ | _
                    · rcases hk5 : (kd == (5 : Int)) with _ | _
                      · rcases hk6 : (kd == (6 : Int)) with _ | _
                        · rcases hk7 : (kd == (7 : Int)) with _ | _
                          · as_aux_lemma =>
                              go_wp2
                              refine Met.intro ?_
                              go_step
                              exact ⟨_, rfl, rfl, ⟨_, HT2.out, HDM.out, HX1.out, HCB.out⟩⟩
                          · as_aux_lemma =>
                              obtain ⟨y0, y1⟩ := within_bd nq 0 124 (by omega)
                              obtain ⟨ax, hax⟩ := Int.eq_ofNat_of_zero_le y0
                              have HAX := hid (show ax ≤ 124 by omega)
                              have HAXE := hid hax
                              clear y0 y1 hax
                              have HXD := hid (show Ext W1 W1.drew from (Ext.refl W1).drew)
                              have d1 : ∀ x : SW Ext W1.drew, x.w.cell? ⟨gq, 1, none⟩ = some (.int .i64 d) := fun x => ((Ext.trans HXD.out x.ext).at HCB.out) |> fun h => (cell_at h).trans rfl
                              obtain ⟨gl, cl, hnl⟩ := fat_n HT2.out.fact
                              rw [HDM.out.len] at hnl
                              have d0 : ∀ x : SW Ext W1.drew, x.w.cell? ⟨q, 0, none⟩ = some (.slice (some ⟨gl, 0, none⟩) nn cl) := fun x => Ext.cell (Ext.trans HXD.out x.ext) hnl
                              clear hnl
                              by_cases e0 : 0 ≤ d
                              · by_cases e1 : d < (nn : Int)
                                · clear d0 d1 HXD
                                  obtain ⟨dj, rfl⟩ : ∃ j : Nat, d = j := ⟨d.toNat, by omega⟩
                                  have hdj : dj < nn := by omega
                                  have HHAS := hid (show R.has dj = true by unfold Rck.has; rw [HDM.out.len]; simp; omega)
                                  obtain ⟨TR, hsub, hR, back⟩ := HT2.out.right
                                  have HBK := hid back
                                  obtain ⟨fg, fn, fc, fp, fk, g0, g1, g2, g3, g4, g6, g5⟩ := fat_disk hR (j := dj) (by rw [HDM.out.len]; exact hdj)
                                  have HG5 := hid g5; have HG3 := hid g4
                                  rw [HDM.out.len] at g1
                                  rw [g1] at g0
                                  have nq1 : ¬ fk.foot q := fun z => (g6 _ z).1 rfl
                                  have nq2 : ¬ fk.foot fg := fun z => (g6 _ z).2.1 rfl
                                  have nq3 : ¬ fk.foot gq := fun z => (g6 _ z).2.2 (hsub gq HTG.out)
                                  have HXE := hid (show Ext W1 W1.drew from (Ext.refl W1).drew)
                                  have HCD := hid (HXE.out.at HCB.out)
                                  have b1 : ∀ x : SW (Only fk.foot) W1.drew, x.w.heap[gq]? = some (.cells (AkA kd dj s nq xx ba bl bc od) 36 (0, 0)) := fun x => x.ext.at HCD.out nq3
                                  have b2 : ∀ x : SW (Only fk.foot) W1.drew, x.w.cell? ⟨q, 0, none⟩ = some (.slice (some ⟨fg, 0, none⟩) nn fc) := fun x => x.ext.cell (Ext.cell HXE.out g0) nq1
                                  have b3 : ∀ x : SW (Only fk.foot) W1.drew, x.w.cell? ⟨fg, dj, none⟩ = some (.pointer (some ⟨fp, 0, none⟩)) := fun x => x.ext.cell (Ext.cell HXE.out g2) nq2
                                  have HB1 := hid b1
                                  have j0 : (0 : Int) ≤ (dj : Int) := by omega
                                  have j1 : (dj : Int) < (nn : Int) := by omega
                                  have b1 : ∀ x : SW (Only fk.foot) W1.drew, x.w.cell? ⟨gq, 1, none⟩ = some (.int .i64 dj) := fun x => (cell_at (HB1.out x)).trans rfl
                                  clear hsub hR back g0 g2 g4 g6 g5 nq1 nq2 nq3 g1
                                  have b4 : ∀ x : SW (Only fk.foot) W1.drew, x.w.cell? ⟨gq, 2, none⟩ = some (.int .i64 s) := fun x => (cell_at (HB1.out x)).trans rfl
                                  have b5 : ∀ x : SW (Only fk.foot) W1.drew, x.w.cell? ⟨gq, 3, none⟩ = some (.int .i64 nq) := fun x => (cell_at (HB1.out x)).trans rfl
                                  have b6 : ∀ x : SW (Only fk.foot) W1.drew, x.w.cell? ⟨gq, 4, none⟩ = some (.int .u32 xx) := fun x => (cell_at (HB1.out x)).trans rfl
                                  have wi : Hid (∀ y : SW (Only fk.foot) W1.drew, Calls Tryz.prog 12 #[.int .i64 nq, .int .i64 0, .int .i64 124] y.w fun e w'' => e = .returned (.int .i64 (ax : Int)) ∧ Ext y.w w'') := hid fun y => (within_c nq 0 124 y.w (by omega) (by omega) (by omega)).mono fun e w'' q => ⟨by rw [q.1, HAXE.out], q.2 ▸ Ext.refl _⟩
                                  go_wp2_with fail
                                  refine wp_region_calm_all (E := Ext) (S := Only fk.foot) (.one [0, 1, 2, 3, 4, 5, 6, 7, 8, 9, 10, 11, 12, 13, 14, 15, 16, 17, 18, 19, 20, 21, 22, 23, 24, 25, 26, 27, 28] 29 (.fin [30, 31])) (by kernel_rfl) (by kernel_rfl) (fun _ _ d _ _ h => by cases d <;> exact h) ?_
                                  rw [wpS]
                                  simp only [opsAt, List.map_cons, List.map_nil, Array.getD_eq_getD_getElem?, List.getElem?_toArray, List.getElem?_cons_succ, List.getElem?_cons_zero, Option.getD_some]
                                  iterate 26 ((refine wpSQ_step (fun K hK => ?_); go_simp; first | (refine hK _ ?_; clear hK K) | (apply Exists.intro; refine ⟨fun x => ?_, hK _ ?_⟩; (fail); clear hK K)))
                                  (refine wpSQ_step (fun K hK => ?_); go_simp; first | (refine hK _ ?_; clear hK K) | (apply Exists.intro; refine ⟨fun x => ?_, hK _ ?_⟩; (exact wi.out x); clear hK K))
                                  iterate 2 ((refine wpSQ_step (fun K hK => ?_); go_simp; first | (refine hK _ ?_; clear hK K) | (apply Exists.intro; refine ⟨fun x => ?_, hK _ ?_⟩; (fail); clear hK K)))
                                  refine wpSQ_nil ?_
                                  intro V2 hV2
                                  have hv2 := Ext.trans HXE.out hV2
                                  have HV2 := hid hv2
                                  have HFR2 := hid (HG3.out.ext hv2)
                                  have HKP := hid g3
                                  clear b1 b2 b3 b4 b5 b6 wi hV2 hv2 HXE
                                  refine wpS_loud fun Q1 hQ1 => ?_
                                  go_wp2_with fail
                                  rw [← HKP.out]
                                  refine (frot_c HFR2.out s ax xx HXX.out).mono ?_
                                  rintro e V3 ⟨rfl, k', ht⟩
                                  obtain ⟨bb, hbb⟩ : ∃ bb, (R.dsk (dj : Int)).rotOk s ax xx = bb := ⟨_, rfl⟩
                                  rw [hbb] at ht ⊢
                                  have HOK := hid (show R.rotOk dj s ax xx = bb by unfold Rck.rotOk; rw [HHAS.out, Bool.true_and]; exact hbb)
                                  have HT3 := hid ((FTo.ext HG3.out HV2.out).then ht)
                                  have HO3 := hid ht.only
                                  clear ht g3 hbb
                                  go_wp2
                                  refine hQ1 _ _ HO3.out ?_
                                  clear hQ1 Q1
                                  rw [wpS]
                                  simp only [opsAt, List.map_cons, List.map_nil, Array.getD_eq_getD_getElem?, List.getElem?_toArray, List.getElem?_cons_succ, List.getElem?_cons_zero, Option.getD_some]
                                  iterate 2 ((refine wpSQ_step (fun K hK => ?_); go_simp; first | (refine hK _ ?_; clear hK K) | (apply Exists.intro; refine ⟨fun x => ?_, hK _ ?_⟩; (fail); clear hK K)))
                                  refine wpSQ_nil ?_
                                  intro V4 hV4
                                  obtain ⟨h4, k4⟩ := HG5.out _ _ _ (HT3.out.then (FTo.ext HT3.out.rep hV4))
                                  obtain ⟨h5, k5⟩ := HBK.out _ _ h4 k4
                                  have HROT := hid (show R.setD (dj : Int) (if bb then (R.dsk (dj : Int)).rotted s.toNat (ax : Int).toNat xx else R.dsk (dj : Int)) = R.rot dj s ax xx by
                                    unfold Rck.rot
                                    rw [HOK.out]
                                    cases bb
                                    · show R.setD (dj : Int) (R.dsk (dj : Int)) = R
                                      unfold Rck.setD Rck.dsk
                                      rw [Int.toNat_natCast]
                                      have hl : dj < R.l.length := by rw [HDM.out.len]; exact hdj
                                      have : R.l.set dj (R.l.getD dj default) = R.l := by
                                        apply List.ext_getElem
                                        · simp
                                        · intro k h1 h2
                                          rw [List.getElem_set]
                                          split
                                          · rename_i e; subst e; simp [List.getD_eq_getElem?_getD, hl]
                                          · rfl
                                      rw [this]
                                    · rfl)
                                  rw [HROT.out] at h5
                                  have H5 := hid h5
                                  have HE5 := hid (Keeps.ext HX1.out k5 fun c hc => HTS.out c hc)
                                  have HC5 := hid (k5.at HCB.out (fun hn => hn HTG.out))
                                  clear h4 k4 h5 k5 hV4
                                  have HXD := hid (show Ext V4 V4.drew from (Ext.refl V4).drew)
                                  have HCD := hid (HXD.out.at HC5.out)
                                  have HB0 := hid (show ∀ x : SW (Only fun b => ¬ T b) V4.drew, x.w.heap[gq]? = some (.cells (AkA kd dj s nq xx ba bl bc od) 36 (0, 0)) from fun x => x.ext.at HCD.out (fun hn => hn HTG.out))
                                  have b1 : ∀ x : SW (Only fun b => ¬ T b) V4.drew, x.w.cell? ⟨gq, 1, none⟩ = some (.int .i64 dj) := fun x => (cell_at (HB0.out x)).trans rfl
                                  have b2 : ∀ x : SW (Only fun b => ¬ T b) V4.drew, x.w.cell? ⟨gq, 2, none⟩ = some (.int .i64 s) := fun x => (cell_at (HB0.out x)).trans rfl
                                  have b3 : ∀ x : SW (Only fun b => ¬ T b) V4.drew, x.w.cell? ⟨gq, 3, none⟩ = some (.int .i64 nq) := fun x => (cell_at (HB0.out x)).trans rfl
                                  have b4 : ∀ x : SW (Only fun b => ¬ T b) V4.drew, x.w.cell? ⟨gq, 4, none⟩ = some (.int .u32 xx) := fun x => (cell_at (HB0.out x)).trans rfl
                                  have wi : Hid (∀ y : SW (Only fun b => ¬ T b) V4.drew, Calls Tryz.prog 12 #[.int .i64 nq, .int .i64 0, .int .i64 124] y.w fun e w'' => e = .returned (.int .i64 (ax : Int)) ∧ Ext y.w w'') := hid fun y => (within_c nq 0 124 y.w (by omega) (by omega) (by omega)).mono fun e w'' q => ⟨by rw [q.1, HAXE.out], q.2 ▸ Ext.refl _⟩
                                  go_wp2_with fail
                                  refine wp_region_calm_all (E := Ext) (S := Only fun b => ¬ T b) (.one [0, 1, 2, 3, 4, 5, 6, 7, 8, 9, 11] 10 (.fin [12, 13])) (by kernel_rfl) (by kernel_rfl) (fun _ _ d _ _ h => by cases d <;> exact h) ?_
                                  rw [wpS]
                                  simp only [opsAt, List.map_cons, List.map_nil, Array.getD_eq_getD_getElem?, List.getElem?_toArray, List.getElem?_cons_succ, List.getElem?_cons_zero, Option.getD_some]
                                  iterate 7 ((refine wpSQ_step (fun K hK => ?_); go_simp; first | (refine hK _ ?_; clear hK K) | (apply Exists.intro; refine ⟨fun x => ?_, hK _ ?_⟩; (fail); clear hK K)))
                                  (refine wpSQ_step (fun K hK => ?_); go_simp; first | (refine hK _ ?_; clear hK K) | (apply Exists.intro; refine ⟨fun x => ?_, hK _ ?_⟩; (exact wi.out x); clear hK K))
                                  iterate 3 ((refine wpSQ_step (fun K hK => ?_); go_simp; first | (refine hK _ ?_; clear hK K) | (apply Exists.intro; refine ⟨fun x => ?_, hK _ ?_⟩; (fail); clear hK K)))
                                  refine wpSQ_nil ?_
                                  intro V6 hV6
                                  have hv6 := Ext.trans HXD.out hV6
                                  have HC6 := hid (hv6.at HC5.out)
                                  have HE6 := hid (Ext.trans HE5.out hv6)
                                  obtain ⟨TL, hsub, hR, back⟩ := (H5.out.ext hv6).left
                                  have HR := hid hR; have HBA := hid back
                                  clear hV6 hv6 b1 b2 b3 b4 wi hsub hR back HXD
                                  refine wpS_loud fun Q1 hQ1 => ?_
                                  go_wp2_with fail
                                  refine (at_rot HR.out dj s ax xx HXX.out).mono ?_
                                  rintro e V8 ⟨rfl, h', k'⟩
                                  rw [HOK.out]
                                  obtain ⟨h3, k3⟩ := HBA.out _ _ h' k'
                                  skip
                                  have H8 := hid h3
                                  have HE8 := hid (Keeps.ext HE6.out k3 fun c hc => HTS.out c hc)
                                  have HC8 := hid (k3.at HC6.out (fun hn => hn HTG.out))
                                  clear h' k' h3 HR HBA HE6 HC6
                                  go_wp2
                                  refine hQ1 _ _ k3 ?_
                                  clear hQ1 Q1 k3
                                  rw [wpS]
                                  simp only [opsAt, List.map_cons, List.map_nil, Array.getD_eq_getD_getElem?, List.getElem?_toArray, List.getElem?_cons_succ, List.getElem?_cons_zero, Option.getD_some]
                                  iterate 2 ((refine wpSQ_step (fun K hK => ?_); go_simp; first | (refine hK _ ?_; clear hK K) | (apply Exists.intro; refine ⟨fun x => ?_, hK _ ?_⟩; (fail); clear hK K)))
                                  refine wpSQ_nil ?_
                                  intro V9 hV9
                                  have H9 := hid (H8.out.ext hV9)
                                  have HE9 := hid (Ext.trans HE8.out hV9)
                                  have HC9 := hid (hV9.at HC8.out)
                                  clear hV9
                                  go_wp2
                                  refine Met.intro ?_
                                  go_step
                                  exact ⟨_, rfl, rfl, ⟨_, H9.out, HDM.out.rot dj s ax xx, HE9.out, HC9.out⟩⟩
                                · have t0 : (d < (nn : Int)) = False := eq_false e1
                                  go_wp2_with fail
                                  refine wp_region_rely_all (S := Ext) (.fin [0, 1, 2, 3, 4, 5, 6, 7, 8, 9, 10, 11, 12, 13, 14, 15, 16, 17, 18, 19, 20, 21, 22, 23, 24, 25, 26, 27, 28, 29, 30, 31]) (by kernel_rfl) (by kernel_rfl) (fun _ _ d _ _ h => by cases d <;> exact h) ?_
                                  rw [wpS]
                                  simp only [opsAt, List.map_cons, List.map_nil, Array.getD_eq_getD_getElem?, List.getElem?_toArray, List.getElem?_cons_succ, List.getElem?_cons_zero, Option.getD_some]
                                  iterate 14 ((refine wpSQ_step (fun K hK => ?_); go_simp; first | (refine hK _ ?_; clear hK K) | (apply Exists.intro; refine ⟨fun x => ?_, hK _ ?_⟩; (fail); clear hK K)))
                                  iterate 16 ((refine wpSQ_pass rfl (fun K hK => ?_); go_simp; refine hK _ ?_; clear hK K))
                                  iterate 2 ((refine wpSQ_step (fun K hK => ?_); go_simp; first | (refine hK _ ?_; clear hK K) | (apply Exists.intro; refine ⟨fun x => ?_, hK _ ?_⟩; (fail); clear hK K)))
                                  refine wpSQ_nil ?_
                                  intro V1 hV1
                                  have hv1 := Ext.trans HXD.out hV1
                                  have HC1 := hid (hv1.at HCB.out)
                                  have HE1 := hid (Ext.trans HX1.out hv1)
                                  have H1 := hid (HT2.out.ext hv1)
                                  clear hV1 hv1 d0 d1 HXD
                                  have HOK := hid (show R.rotOk d s ax xx = false by unfold Rck.rotOk Rck.has; rw [HDM.out.len]; clear t0; simp; omega)
                                  have HSAME := hid (show R.rot d s ax xx = R by unfold Rck.rot; rw [HOK.out]; rfl)
                                  have HXD := hid (show Ext V1 V1.drew from (Ext.refl V1).drew)
                                  have HCD := hid (HXD.out.at HC1.out)
                                  have HB0 := hid (show ∀ x : SW (Only fun b => ¬ T b) V1.drew, x.w.heap[gq]? = some (.cells (AkA kd d s nq xx ba bl bc od) 36 (0, 0)) from fun x => x.ext.at HCD.out (fun hn => hn HTG.out))
                                  have b1 : ∀ x : SW (Only fun b => ¬ T b) V1.drew, x.w.cell? ⟨gq, 1, none⟩ = some (.int .i64 d) := fun x => (cell_at (HB0.out x)).trans rfl
                                  have b2 : ∀ x : SW (Only fun b => ¬ T b) V1.drew, x.w.cell? ⟨gq, 2, none⟩ = some (.int .i64 s) := fun x => (cell_at (HB0.out x)).trans rfl
                                  have b3 : ∀ x : SW (Only fun b => ¬ T b) V1.drew, x.w.cell? ⟨gq, 3, none⟩ = some (.int .i64 nq) := fun x => (cell_at (HB0.out x)).trans rfl
                                  have b4 : ∀ x : SW (Only fun b => ¬ T b) V1.drew, x.w.cell? ⟨gq, 4, none⟩ = some (.int .u32 xx) := fun x => (cell_at (HB0.out x)).trans rfl
                                  have wi : Hid (∀ y : SW (Only fun b => ¬ T b) V1.drew, Calls Tryz.prog 12 #[.int .i64 nq, .int .i64 0, .int .i64 124] y.w fun e w'' => e = .returned (.int .i64 (ax : Int)) ∧ Ext y.w w'') := hid fun y => (within_c nq 0 124 y.w (by omega) (by omega) (by omega)).mono fun e w'' q => ⟨by rw [q.1, HAXE.out], q.2 ▸ Ext.refl _⟩
                                  go_wp2_with fail
                                  refine wp_region_calm_all (E := Ext) (S := Only fun b => ¬ T b) (.one [0, 1, 2, 3, 4, 5, 6, 7, 8, 9, 11] 10 (.fin [12, 13])) (by kernel_rfl) (by kernel_rfl) (fun _ _ d _ _ h => by cases d <;> exact h) ?_
                                  rw [wpS]
                                  simp only [opsAt, List.map_cons, List.map_nil, Array.getD_eq_getD_getElem?, List.getElem?_toArray, List.getElem?_cons_succ, List.getElem?_cons_zero, Option.getD_some]
                                  iterate 7 ((refine wpSQ_step (fun K hK => ?_); go_simp; first | (refine hK _ ?_; clear hK K) | (apply Exists.intro; refine ⟨fun x => ?_, hK _ ?_⟩; (fail); clear hK K)))
                                  (refine wpSQ_step (fun K hK => ?_); go_simp; first | (refine hK _ ?_; clear hK K) | (apply Exists.intro; refine ⟨fun x => ?_, hK _ ?_⟩; (exact wi.out x); clear hK K))
                                  iterate 3 ((refine wpSQ_step (fun K hK => ?_); go_simp; first | (refine hK _ ?_; clear hK K) | (apply Exists.intro; refine ⟨fun x => ?_, hK _ ?_⟩; (fail); clear hK K)))
                                  refine wpSQ_nil ?_
                                  intro V6 hV6
                                  have hv6 := Ext.trans HXD.out hV6
                                  have HC6 := hid (hv6.at HC1.out)
                                  have HE6 := hid (Ext.trans HE1.out hv6)
                                  obtain ⟨TL, hsub, hR, back⟩ := (H1.out.ext hv6).left
                                  have HR := hid hR; have HBA := hid back
                                  clear hV6 hv6 b1 b2 b3 b4 wi hsub hR back HXD
                                  refine wpS_loud fun Q1 hQ1 => ?_
                                  go_wp2_with fail
                                  refine (at_rot HR.out d s ax xx HXX.out).mono ?_
                                  rintro e V8 ⟨rfl, h', k'⟩
                                  rw [HOK.out]
                                  obtain ⟨h3, k3⟩ := HBA.out _ _ h' k'
                                  rw [HSAME.out] at h3
                                  have H8 := hid h3
                                  have HE8 := hid (Keeps.ext HE6.out k3 fun c hc => HTS.out c hc)
                                  have HC8 := hid (k3.at HC6.out (fun hn => hn HTG.out))
                                  clear h' k' h3 HR HBA HE6 HC6
                                  go_wp2
                                  refine hQ1 _ _ k3 ?_
                                  clear hQ1 Q1 k3
                                  rw [wpS]
                                  simp only [opsAt, List.map_cons, List.map_nil, Array.getD_eq_getD_getElem?, List.getElem?_toArray, List.getElem?_cons_succ, List.getElem?_cons_zero, Option.getD_some]
                                  iterate 2 ((refine wpSQ_step (fun K hK => ?_); go_simp; first | (refine hK _ ?_; clear hK K) | (apply Exists.intro; refine ⟨fun x => ?_, hK _ ?_⟩; (fail); clear hK K)))
                                  refine wpSQ_nil ?_
                                  intro V9 hV9
                                  have H9 := hid (H8.out.ext hV9)
                                  have HE9 := hid (Ext.trans HE8.out hV9)
                                  have HC9 := hid (hV9.at HC8.out)
                                  clear hV9
                                  go_wp2
                                  refine Met.intro ?_
                                  go_step
                                  exact ⟨_, rfl, rfl, ⟨R, H9.out, HDM.out, HE9.out, HC9.out⟩⟩
                              · have t0 : (0 ≤ d) = False := eq_false e0
                                go_wp2_with fail
                                refine wp_region_rely_all (S := Ext) (.fin [0, 1, 2, 3, 4, 5, 6, 7, 8, 9, 10, 11, 12, 13, 14, 15, 16, 17, 18, 19, 20, 21, 22, 23, 24, 25, 26, 27, 28, 29, 30, 31]) (by kernel_rfl) (by kernel_rfl) (fun _ _ d _ _ h => by cases d <;> exact h) ?_
                                rw [wpS]
                                simp only [opsAt, List.map_cons, List.map_nil, Array.getD_eq_getD_getElem?, List.getElem?_toArray, List.getElem?_cons_succ, List.getElem?_cons_zero, Option.getD_some]
                                iterate 4 ((refine wpSQ_step (fun K hK => ?_); go_simp; first | (refine hK _ ?_; clear hK K) | (apply Exists.intro; refine ⟨fun x => ?_, hK _ ?_⟩; (fail); clear hK K)))
                                iterate 8 ((refine wpSQ_pass rfl (fun K hK => ?_); go_simp; refine hK _ ?_; clear hK K))
                                iterate 2 ((refine wpSQ_step (fun K hK => ?_); go_simp; first | (refine hK _ ?_; clear hK K) | (apply Exists.intro; refine ⟨fun x => ?_, hK _ ?_⟩; (fail); clear hK K)))
                                iterate 16 ((refine wpSQ_pass rfl (fun K hK => ?_); go_simp; refine hK _ ?_; clear hK K))
                                iterate 2 ((refine wpSQ_step (fun K hK => ?_); go_simp; first | (refine hK _ ?_; clear hK K) | (apply Exists.intro; refine ⟨fun x => ?_, hK _ ?_⟩; (fail); clear hK K)))
                                refine wpSQ_nil ?_
                                intro V1 hV1
                                have hv1 := Ext.trans HXD.out hV1
                                have HC1 := hid (hv1.at HCB.out)
                                have HE1 := hid (Ext.trans HX1.out hv1)
                                have H1 := hid (HT2.out.ext hv1)
                                clear hV1 hv1 d0 d1 HXD
                                have HOK := hid (show R.rotOk d s ax xx = false by unfold Rck.rotOk Rck.has; rw [HDM.out.len]; clear t0; simp; omega)
                                have HSAME := hid (show R.rot d s ax xx = R by unfold Rck.rot; rw [HOK.out]; rfl)
                                have HXD := hid (show Ext V1 V1.drew from (Ext.refl V1).drew)
                                have HCD := hid (HXD.out.at HC1.out)
                                have HB0 := hid (show ∀ x : SW (Only fun b => ¬ T b) V1.drew, x.w.heap[gq]? = some (.cells (AkA kd d s nq xx ba bl bc od) 36 (0, 0)) from fun x => x.ext.at HCD.out (fun hn => hn HTG.out))
                                have b1 : ∀ x : SW (Only fun b => ¬ T b) V1.drew, x.w.cell? ⟨gq, 1, none⟩ = some (.int .i64 d) := fun x => (cell_at (HB0.out x)).trans rfl
                                have b2 : ∀ x : SW (Only fun b => ¬ T b) V1.drew, x.w.cell? ⟨gq, 2, none⟩ = some (.int .i64 s) := fun x => (cell_at (HB0.out x)).trans rfl
                                have b3 : ∀ x : SW (Only fun b => ¬ T b) V1.drew, x.w.cell? ⟨gq, 3, none⟩ = some (.int .i64 nq) := fun x => (cell_at (HB0.out x)).trans rfl
                                have b4 : ∀ x : SW (Only fun b => ¬ T b) V1.drew, x.w.cell? ⟨gq, 4, none⟩ = some (.int .u32 xx) := fun x => (cell_at (HB0.out x)).trans rfl
                                have wi : Hid (∀ y : SW (Only fun b => ¬ T b) V1.drew, Calls Tryz.prog 12 #[.int .i64 nq, .int .i64 0, .int .i64 124] y.w fun e w'' => e = .returned (.int .i64 (ax : Int)) ∧ Ext y.w w'') := hid fun y => (within_c nq 0 124 y.w (by omega) (by omega) (by omega)).mono fun e w'' q => ⟨by rw [q.1, HAXE.out], q.2 ▸ Ext.refl _⟩
                                go_wp2_with fail
                                refine wp_region_calm_all (E := Ext) (S := Only fun b => ¬ T b) (.one [0, 1, 2, 3, 4, 5, 6, 7, 8, 9, 11] 10 (.fin [12, 13])) (by kernel_rfl) (by kernel_rfl) (fun _ _ d _ _ h => by cases d <;> exact h) ?_
                                rw [wpS]
                                simp only [opsAt, List.map_cons, List.map_nil, Array.getD_eq_getD_getElem?, List.getElem?_toArray, List.getElem?_cons_succ, List.getElem?_cons_zero, Option.getD_some]
                                iterate 7 ((refine wpSQ_step (fun K hK => ?_); go_simp; first | (refine hK _ ?_; clear hK K) | (apply Exists.intro; refine ⟨fun x => ?_, hK _ ?_⟩; (fail); clear hK K)))
                                (refine wpSQ_step (fun K hK => ?_); go_simp; first | (refine hK _ ?_; clear hK K) | (apply Exists.intro; refine ⟨fun x => ?_, hK _ ?_⟩; (exact wi.out x); clear hK K))
                                iterate 3 ((refine wpSQ_step (fun K hK => ?_); go_simp; first | (refine hK _ ?_; clear hK K) | (apply Exists.intro; refine ⟨fun x => ?_, hK _ ?_⟩; (fail); clear hK K)))
                                refine wpSQ_nil ?_
                                intro V6 hV6
                                have hv6 := Ext.trans HXD.out hV6
                                have HC6 := hid (hv6.at HC1.out)
                                have HE6 := hid (Ext.trans HE1.out hv6)
                                obtain ⟨TL, hsub, hR, back⟩ := (H1.out.ext hv6).left
                                have HR := hid hR; have HBA := hid back
                                clear hV6 hv6 b1 b2 b3 b4 wi hsub hR back HXD
                                refine wpS_loud fun Q1 hQ1 => ?_
                                go_wp2_with fail
                                refine (at_rot HR.out d s ax xx HXX.out).mono ?_
                                rintro e V8 ⟨rfl, h', k'⟩
                                rw [HOK.out]
                                obtain ⟨h3, k3⟩ := HBA.out _ _ h' k'
                                rw [HSAME.out] at h3
                                have H8 := hid h3
                                have HE8 := hid (Keeps.ext HE6.out k3 fun c hc => HTS.out c hc)
                                have HC8 := hid (k3.at HC6.out (fun hn => hn HTG.out))
                                clear h' k' h3 HR HBA HE6 HC6
                                go_wp2
                                refine hQ1 _ _ k3 ?_
                                clear hQ1 Q1 k3
                                rw [wpS]
                                simp only [opsAt, List.map_cons, List.map_nil, Array.getD_eq_getD_getElem?, List.getElem?_toArray, List.getElem?_cons_succ, List.getElem?_cons_zero, Option.getD_some]
                                iterate 2 ((refine wpSQ_step (fun K hK => ?_); go_simp; first | (refine hK _ ?_; clear hK K) | (apply Exists.intro; refine ⟨fun x => ?_, hK _ ?_⟩; (fail); clear hK K)))
                                refine wpSQ_nil ?_
                                intro V9 hV9
                                have H9 := hid (H8.out.ext hV9)
                                have HE9 := hid (Ext.trans HE8.out hV9)
                                have HC9 := hid (hV9.at HC8.out)
                                clear hV9
                                go_wp2
                                refine Met.intro ?_
                                go_step
                                exact ⟨_, rfl, rfl, ⟨R, H9.out, HDM.out, HE9.out, HC9.out⟩⟩
                        · as_aux_lemma =>
                            have HXD := hid (show Ext W1 W1.drew from (Ext.refl W1).drew)
                            have d1 : ∀ x : SW Ext W1.drew, x.w.cell? ⟨gq, 1, none⟩ = some (.int .i64 d) := fun x => ((Ext.trans HXD.out x.ext).at HCB.out) |> fun h => (cell_at h).trans rfl
                            obtain ⟨gl, cl, hnl⟩ := fat_n HT2.out.fact
                            rw [HDM.out.len] at hnl
                            have d0 : ∀ x : SW Ext W1.drew, x.w.cell? ⟨q, 0, none⟩ = some (.slice (some ⟨gl, 0, none⟩) nn cl) := fun x => Ext.cell (Ext.trans HXD.out x.ext) hnl
                            clear hnl
                            by_cases e0 : 0 ≤ d
                            · by_cases e1 : d < (nn : Int)
                              · go_wp2_with fail
                                refine wp_region_rely_all (S := Ext) (.fin [0, 1, 2, 3, 4, 5, 6, 7, 8, 9, 10, 11, 12, 13]) (by kernel_rfl) (by kernel_rfl) (fun _ _ d _ _ h => by cases d <;> exact h) ?_
                                rw [wpS]
                                simp only [opsAt, List.map_cons, List.map_nil, Array.getD_eq_getD_getElem?, List.getElem?_toArray, List.getElem?_cons_succ, List.getElem?_cons_zero, Option.getD_some]
                                iterate 14 ((refine wpSQ_step (fun K hK => ?_); go_simp; first | (refine hK _ ?_; clear hK K) | (apply Exists.intro; refine ⟨fun x => ?_, hK _ ?_⟩; (fail); clear hK K)))
                                refine wpSQ_nil ?_
                                intro V1 hV1
                                have hv1 := Ext.trans HXD.out hV1
                                have HC1 := hid (hv1.at HCB.out)
                                have HE1 := hid (Ext.trans HX1.out hv1)
                                have H1 := hid (HT2.out.ext hv1)
                                clear hV1 hv1 d0 d1 HXD
                                obtain ⟨dj, rfl⟩ : ∃ j : Nat, d = j := ⟨d.toNat, by omega⟩
                                have hdj : dj < nn := by omega
                                have HHAS := hid (show R.has dj = true by unfold Rck.has; rw [HDM.out.len]; simp; omega)
                                obtain ⟨TR, hsub, hR, back⟩ := H1.out.right
                                have HBK := hid back
                                obtain ⟨fg, fn, fc, fp, fk, g0, g1, g2, g3, g4, g6, g5⟩ := fat_disk hR (j := dj) (by rw [HDM.out.len]; exact hdj)
                                have HG5 := hid g5; have HG3 := hid g4
                                rw [HDM.out.len] at g1
                                rw [g1] at g0
                                have nq1 : ¬ fk.foot q := fun z => (g6 _ z).1 rfl
                                have nq2 : ¬ fk.foot fg := fun z => (g6 _ z).2.1 rfl
                                have nq3 : ¬ fk.foot gq := fun z => (g6 _ z).2.2 (hsub gq HTG.out)
                                have HXE := hid (show Ext V1 V1.drew from (Ext.refl V1).drew)
                                have HCD := hid (HXE.out.at HC1.out)
                                have b1 : ∀ x : SW (Only fk.foot) V1.drew, x.w.heap[gq]? = some (.cells (AkA kd dj s nq xx ba bl bc od) 36 (0, 0)) := fun x => x.ext.at HCD.out nq3
                                have b2 : ∀ x : SW (Only fk.foot) V1.drew, x.w.cell? ⟨q, 0, none⟩ = some (.slice (some ⟨fg, 0, none⟩) nn fc) := fun x => x.ext.cell (Ext.cell HXE.out g0) nq1
                                have b3 : ∀ x : SW (Only fk.foot) V1.drew, x.w.cell? ⟨fg, dj, none⟩ = some (.pointer (some ⟨fp, 0, none⟩)) := fun x => x.ext.cell (Ext.cell HXE.out g2) nq2
                                have HB1 := hid b1
                                have j0 : (0 : Int) ≤ (dj : Int) := by omega
                                have j1 : (dj : Int) < (nn : Int) := by omega
                                have b1 : ∀ x : SW (Only fk.foot) V1.drew, x.w.cell? ⟨gq, 1, none⟩ = some (.int .i64 dj) := fun x => (cell_at (HB1.out x)).trans rfl
                                clear hsub hR back g0 g2 g4 g6 g5 nq1 nq2 nq3 g1
                                go_wp2_with fail
                                refine wp_region_calm_all (E := Ext) (S := Only fk.foot) (.one [0, 1, 2, 3, 4, 5, 6, 7] 8 (.fin [])) (by kernel_rfl) (by kernel_rfl) (fun _ _ d _ _ h => by cases d <;> exact h) ?_
                                rw [wpS]
                                simp only [opsAt, List.map_cons, List.map_nil, Array.getD_eq_getD_getElem?, List.getElem?_toArray, List.getElem?_cons_succ, List.getElem?_cons_zero, Option.getD_some]
                                iterate 8 ((refine wpSQ_step (fun K hK => ?_); go_simp; first | (refine hK _ ?_; clear hK K) | (apply Exists.intro; refine ⟨fun x => ?_, hK _ ?_⟩; (fail); clear hK K)))
                                refine wpSQ_nil ?_
                                intro V2 hV2
                                have hv2 := Ext.trans HXE.out hV2
                                have HV2 := hid hv2
                                have HFR2 := hid (HG3.out.ext hv2)
                                have HKP := hid g3
                                clear b1 b2 b3 hV2 hv2 HXE
                                refine wpS_loud fun Q1 hQ1 => ?_
                                go_wp2_with fail
                                rw [← HKP.out]
                                refine (freplace_c HFR2.out).mono ?_
                                rintro e V3 ⟨rfl, k', ht⟩
                                have HT3 := hid ((FTo.ext HG3.out HV2.out).then ht)
                                have HO3 := hid ht.only
                                clear ht g3
                                go_wp2
                                refine hQ1 _ _ HO3.out ?_
                                clear hQ1 Q1
                                rw [wpS]
                                simp only [opsAt, List.map_cons, List.map_nil, Array.getD_eq_getD_getElem?, List.getElem?_toArray, List.getElem?_cons_succ, List.getElem?_cons_zero, Option.getD_some]
                                refine wpSQ_nil ?_
                                intro V4 hV4
                                obtain ⟨h4, k4⟩ := HG5.out _ _ _ (HT3.out.then (FTo.ext HT3.out.rep hV4))
                                obtain ⟨h5, k5⟩ := HBK.out _ _ h4 k4
                                rw [show R.setD (dj : Int) ((R.dsk (dj : Int)).replace) = R.replace (dj : Int) by unfold Rck.replace; rw [HHAS.out]; rfl] at h5
                                have H5 := hid h5
                                have HE5 := hid (Keeps.ext HE1.out k5 fun c hc => HTS.out c hc)
                                have HC5 := hid (k5.at HC1.out (fun hn => hn HTG.out))
                                clear h4 k4 h5 k5 hV4
                                have q1 : V4.cell? ⟨gq, 1, none⟩ = some (.int .i64 dj) := (cell_at HC5.out).trans rfl
                                go_wp2_with fail
                                obtain ⟨TL, hsub, hR, back⟩ := H5.out.left
                                have HSB := hid hsub
                                refine (at_replace hR dj).mono ?_
                                rintro e V8 ⟨rfl, h', k'⟩
                                obtain ⟨h3, k3⟩ := back _ _ h' k'
                                have H8 := hid h3
                                have HE8 := hid (Keeps.ext HE5.out k3 fun c hc => HTS.out c hc)
                                have HC8 := hid (k3.at HC5.out (fun hn => hn HTG.out))
                                clear hR back h' k' h3 k3 hsub HSB
                                rw [HHAS.out]
                                clear q1
                                go_wp2
                                refine Met.intro ?_
                                go_step
                                exact ⟨_, rfl, rfl, ⟨_, H8.out, HDM.out.replace dj, HE8.out, HC8.out⟩⟩
                              · have t0 : (d < (nn : Int)) = False := eq_false e1
                                go_wp2_with fail
                                refine wp_region_rely_all (S := Ext) (.fin [0, 1, 2, 3, 4, 5, 6, 7, 8, 9, 10, 11, 12, 13]) (by kernel_rfl) (by kernel_rfl) (fun _ _ d _ _ h => by cases d <;> exact h) ?_
                                rw [wpS]
                                simp only [opsAt, List.map_cons, List.map_nil, Array.getD_eq_getD_getElem?, List.getElem?_toArray, List.getElem?_cons_succ, List.getElem?_cons_zero, Option.getD_some]
                                iterate 14 ((refine wpSQ_step (fun K hK => ?_); go_simp; first | (refine hK _ ?_; clear hK K) | (apply Exists.intro; refine ⟨fun x => ?_, hK _ ?_⟩; (fail); clear hK K)))
                                refine wpSQ_nil ?_
                                intro V1 hV1
                                have hv1 := Ext.trans HXD.out hV1
                                have HC1 := hid (hv1.at HCB.out)
                                have HE1 := hid (Ext.trans HX1.out hv1)
                                have H1 := hid (HT2.out.ext hv1)
                                clear hV1 hv1 d0 d1 HXD
                                have HHAS := hid (show R.has d = false by unfold Rck.has; rw [HDM.out.len]; clear t0; simp; omega)
                                have HSAME := hid (show R.replace d = R by unfold Rck.replace; rw [HHAS.out]; rfl)
                                have q1 : V1.cell? ⟨gq, 1, none⟩ = some (.int .i64 d) := (cell_at HC1.out).trans rfl
                                go_wp2_with fail
                                obtain ⟨TL, hsub, hR, back⟩ := H1.out.left
                                have HSB := hid hsub
                                refine (at_replace hR d).mono ?_
                                rintro e V8 ⟨rfl, h', k'⟩
                                obtain ⟨h3, k3⟩ := back _ _ h' k'
                                have H8 := hid h3
                                have HE8 := hid (Keeps.ext HE1.out k3 fun c hc => HTS.out c hc)
                                have HC8 := hid (k3.at HC1.out (fun hn => hn HTG.out))
                                clear hR back h' k' h3 k3 hsub HSB
                                rw [HHAS.out]
                                have h9 := H8.out
                                rw [HSAME.out] at h9
                                have H9 := hid h9
                                clear q1 h9
                                go_wp2
                                refine Met.intro ?_
                                go_step
                                exact ⟨_, rfl, rfl, ⟨R, H9.out, HDM.out, HE8.out, HC8.out⟩⟩
                            · have t0 : (0 ≤ d) = False := eq_false e0
                              go_wp2_with fail
                              refine wp_region_rely_all (S := Ext) (.fin [0, 1, 2, 3, 4, 5, 6, 7, 8, 9, 10, 11, 12, 13]) (by kernel_rfl) (by kernel_rfl) (fun _ _ d _ _ h => by cases d <;> exact h) ?_
                              rw [wpS]
                              simp only [opsAt, List.map_cons, List.map_nil, Array.getD_eq_getD_getElem?, List.getElem?_toArray, List.getElem?_cons_succ, List.getElem?_cons_zero, Option.getD_some]
                              iterate 4 ((refine wpSQ_step (fun K hK => ?_); go_simp; first | (refine hK _ ?_; clear hK K) | (apply Exists.intro; refine ⟨fun x => ?_, hK _ ?_⟩; (fail); clear hK K)))
                              iterate 8 ((refine wpSQ_pass rfl (fun K hK => ?_); go_simp; refine hK _ ?_; clear hK K))
                              iterate 2 ((refine wpSQ_step (fun K hK => ?_); go_simp; first | (refine hK _ ?_; clear hK K) | (apply Exists.intro; refine ⟨fun x => ?_, hK _ ?_⟩; (fail); clear hK K)))
                              refine wpSQ_nil ?_
                              intro V1 hV1
                              have hv1 := Ext.trans HXD.out hV1
                              have HC1 := hid (hv1.at HCB.out)
                              have HE1 := hid (Ext.trans HX1.out hv1)
                              have H1 := hid (HT2.out.ext hv1)
                              clear hV1 hv1 d0 d1 HXD
                              have HHAS := hid (show R.has d = false by unfold Rck.has; rw [HDM.out.len]; clear t0; simp; omega)
                              have HSAME := hid (show R.replace d = R by unfold Rck.replace; rw [HHAS.out]; rfl)
                              have q1 : V1.cell? ⟨gq, 1, none⟩ = some (.int .i64 d) := (cell_at HC1.out).trans rfl
                              go_wp2_with fail
                              obtain ⟨TL, hsub, hR, back⟩ := H1.out.left
                              have HSB := hid hsub
                              refine (at_replace hR d).mono ?_
                              rintro e V8 ⟨rfl, h', k'⟩
                              obtain ⟨h3, k3⟩ := back _ _ h' k'
                              have H8 := hid h3
                              have HE8 := hid (Keeps.ext HE1.out k3 fun c hc => HTS.out c hc)
                              have HC8 := hid (k3.at HC1.out (fun hn => hn HTG.out))
                              clear hR back h' k' h3 k3 hsub HSB
                              rw [HHAS.out]
                              have h9 := H8.out
                              rw [HSAME.out] at h9
                              have H9 := hid h9
                              clear q1 h9
                              go_wp2
                              refine Met.intro ?_
                              go_step
                              exact ⟨_, rfl, rfl, ⟨R, H9.out, HDM.out, HE8.out, HC8.out⟩⟩
                      · as_aux_lemma =>
                          have HXD := hid (show Ext W1 W1.drew from (Ext.refl W1).drew)
                          have d1 : ∀ x : SW Ext W1.drew, x.w.cell? ⟨gq, 1, none⟩ = some (.int .i64 d) := fun x => ((Ext.trans HXD.out x.ext).at HCB.out) |> fun h => (cell_at h).trans rfl
                          obtain ⟨gl, cl, hnl⟩ := fat_n HT2.out.fact
                          rw [HDM.out.len] at hnl
                          have d0 : ∀ x : SW Ext W1.drew, x.w.cell? ⟨q, 0, none⟩ = some (.slice (some ⟨gl, 0, none⟩) nn cl) := fun x => Ext.cell (Ext.trans HXD.out x.ext) hnl
                          clear hnl
                          by_cases e0 : 0 ≤ d
                          · by_cases e1 : d < (nn : Int)
                            · as_aux_lemma =>
                                go_wp2_with fail
                                refine wp_region_rely_all (S := Ext) (.fin [0, 1, 2, 3, 4, 5, 6, 7, 8, 9, 10, 11, 12, 13]) (by kernel_rfl) (by kernel_rfl) (fun _ _ d _ _ h => by cases d <;> exact h) ?_
                                rw [wpS]
                                simp only [opsAt, List.map_cons, List.map_nil, Array.getD_eq_getD_getElem?, List.getElem?_toArray, List.getElem?_cons_succ, List.getElem?_cons_zero, Option.getD_some]
                                iterate 14 ((refine wpSQ_step (fun K hK => ?_); go_simp; first | (refine hK _ ?_; clear hK K) | (apply Exists.intro; refine ⟨fun x => ?_, hK _ ?_⟩; (fail); clear hK K)))
                                refine wpSQ_nil ?_
                                intro V1 hV1
                                have hv1 := Ext.trans HXD.out hV1
                                have HC1 := hid (hv1.at HCB.out)
                                have HE1 := hid (Ext.trans HX1.out hv1)
                                have H1 := hid (HT2.out.ext hv1)
                                clear hV1 hv1 d0 d1 HXD
                                obtain ⟨dj, rfl⟩ : ∃ j : Nat, d = j := ⟨d.toNat, by omega⟩
                                have hdj : dj < nn := by omega
                                have HHAS := hid (show R.has dj = true by unfold Rck.has; rw [HDM.out.len]; simp; omega)
                                obtain ⟨TR, hsub, hR, back⟩ := H1.out.right
                                have HBK := hid back
                                obtain ⟨fg, fn, fc, fp, fk, g0, g1, g2, g3, g4, g6, g5⟩ := fat_disk hR (j := dj) (by rw [HDM.out.len]; exact hdj)
                                have HG5 := hid g5; have HG3 := hid g4
                                rw [HDM.out.len] at g1
                                rw [g1] at g0
                                have nq1 : ¬ fk.foot q := fun z => (g6 _ z).1 rfl
                                have nq2 : ¬ fk.foot fg := fun z => (g6 _ z).2.1 rfl
                                have nq3 : ¬ fk.foot gq := fun z => (g6 _ z).2.2 (hsub gq HTG.out)
                                have HXE := hid (show Ext V1 V1.drew from (Ext.refl V1).drew)
                                have HCD := hid (HXE.out.at HC1.out)
                                have b1 : ∀ x : SW (Only fk.foot) V1.drew, x.w.heap[gq]? = some (.cells (AkA kd dj s nq xx ba bl bc od) 36 (0, 0)) := fun x => x.ext.at HCD.out nq3
                                have b2 : ∀ x : SW (Only fk.foot) V1.drew, x.w.cell? ⟨q, 0, none⟩ = some (.slice (some ⟨fg, 0, none⟩) nn fc) := fun x => x.ext.cell (Ext.cell HXE.out g0) nq1
                                have b3 : ∀ x : SW (Only fk.foot) V1.drew, x.w.cell? ⟨fg, dj, none⟩ = some (.pointer (some ⟨fp, 0, none⟩)) := fun x => x.ext.cell (Ext.cell HXE.out g2) nq2
                                have HB1 := hid b1
                                have j0 : (0 : Int) ≤ (dj : Int) := by omega
                                have j1 : (dj : Int) < (nn : Int) := by omega
                                have b1 : ∀ x : SW (Only fk.foot) V1.drew, x.w.cell? ⟨gq, 1, none⟩ = some (.int .i64 dj) := fun x => (cell_at (HB1.out x)).trans rfl
                                clear hsub hR back g0 g2 g4 g6 g5 nq1 nq2 nq3 g1
                                go_wp2_with fail
                                refine wp_region_calm_all (E := Ext) (S := Only fk.foot) (.one [0, 1, 2, 3, 4, 5, 6, 7] 8 (.fin [])) (by kernel_rfl) (by kernel_rfl) (fun _ _ d _ _ h => by cases d <;> exact h) ?_
                                rw [wpS]
                                simp only [opsAt, List.map_cons, List.map_nil, Array.getD_eq_getD_getElem?, List.getElem?_toArray, List.getElem?_cons_succ, List.getElem?_cons_zero, Option.getD_some]
                                iterate 8 ((refine wpSQ_step (fun K hK => ?_); go_simp; first | (refine hK _ ?_; clear hK K) | (apply Exists.intro; refine ⟨fun x => ?_, hK _ ?_⟩; (fail); clear hK K)))
                                refine wpSQ_nil ?_
                                intro V2 hV2
                                have hv2 := Ext.trans HXE.out hV2
                                have HV2 := hid hv2
                                have HFR2 := hid (HG3.out.ext hv2)
                                have HKP := hid g3
                                clear b1 b2 b3 hV2 hv2 HXE
                                refine wpS_loud fun Q1 hQ1 => ?_
                                go_wp2_with fail
                                rw [← HKP.out]
                                refine (fdie_c HFR2.out).mono ?_
                                rintro e V3 ⟨rfl, k', ht⟩
                                have HT3 := hid ((FTo.ext HG3.out HV2.out).then ht)
                                have HO3 := hid ht.only
                                clear ht g3
                                go_wp2
                                refine hQ1 _ _ HO3.out ?_
                                clear hQ1 Q1
                                rw [wpS]
                                simp only [opsAt, List.map_cons, List.map_nil, Array.getD_eq_getD_getElem?, List.getElem?_toArray, List.getElem?_cons_succ, List.getElem?_cons_zero, Option.getD_some]
                                refine wpSQ_nil ?_
                                intro V4 hV4
                                obtain ⟨h4, k4⟩ := HG5.out _ _ _ (HT3.out.then (FTo.ext HT3.out.rep hV4))
                                obtain ⟨h5, k5⟩ := HBK.out _ _ h4 k4
                                rw [show R.setD (dj : Int) ((R.dsk (dj : Int)).die) = R.die (dj : Int) by unfold Rck.die; rw [HHAS.out]; rfl] at h5
                                have H5 := hid h5
                                have HE5 := hid (Keeps.ext HE1.out k5 fun c hc => HTS.out c hc)
                                have HC5 := hid (k5.at HC1.out (fun hn => hn HTG.out))
                                clear h4 k4 h5 k5 hV4
                                have q1 : V4.cell? ⟨gq, 1, none⟩ = some (.int .i64 dj) := (cell_at HC5.out).trans rfl
                                go_wp2_with fail
                                obtain ⟨TL, hsub, hR, back⟩ := H5.out.left
                                have HSB := hid hsub
                                refine (at_die hR dj).mono ?_
                                rintro e V8 ⟨rfl, h', k'⟩
                                obtain ⟨h3, k3⟩ := back _ _ h' k'
                                have H8 := hid h3
                                have HE8 := hid (Keeps.ext HE5.out k3 fun c hc => HTS.out c hc)
                                have HC8 := hid (k3.at HC5.out (fun hn => hn HTG.out))
                                clear hR back h' k' h3 k3 hsub HSB
                                rw [HHAS.out]
                                clear q1
                                go_wp2
                                refine Met.intro ?_
                                go_step
                                exact ⟨_, rfl, rfl, ⟨_, H8.out, HDM.out.die dj, HE8.out, HC8.out⟩⟩
                            · have t0 : (d < (nn : Int)) = False := eq_false e1
                              go_wp2_with fail
                              refine wp_region_rely_all (S := Ext) (.fin [0, 1, 2, 3, 4, 5, 6, 7, 8, 9, 10, 11, 12, 13]) (by kernel_rfl) (by kernel_rfl) (fun _ _ d _ _ h => by cases d <;> exact h) ?_
                              rw [wpS]
                              simp only [opsAt, List.map_cons, List.map_nil, Array.getD_eq_getD_getElem?, List.getElem?_toArray, List.getElem?_cons_succ, List.getElem?_cons_zero, Option.getD_some]
                              iterate 14 ((refine wpSQ_step (fun K hK => ?_); go_simp; first | (refine hK _ ?_; clear hK K) | (apply Exists.intro; refine ⟨fun x => ?_, hK _ ?_⟩; (fail); clear hK K)))
                              refine wpSQ_nil ?_
                              intro V1 hV1
                              have hv1 := Ext.trans HXD.out hV1
                              have HC1 := hid (hv1.at HCB.out)
                              have HE1 := hid (Ext.trans HX1.out hv1)
                              have H1 := hid (HT2.out.ext hv1)
                              clear hV1 hv1 d0 d1 HXD
                              have HHAS := hid (show R.has d = false by unfold Rck.has; rw [HDM.out.len]; clear t0; simp; omega)
                              have HSAME := hid (show R.die d = R by unfold Rck.die; rw [HHAS.out]; rfl)
                              have q1 : V1.cell? ⟨gq, 1, none⟩ = some (.int .i64 d) := (cell_at HC1.out).trans rfl
                              go_wp2_with fail
                              obtain ⟨TL, hsub, hR, back⟩ := H1.out.left
                              have HSB := hid hsub
                              refine (at_die hR d).mono ?_
                              rintro e V8 ⟨rfl, h', k'⟩
                              obtain ⟨h3, k3⟩ := back _ _ h' k'
                              have H8 := hid h3
                              have HE8 := hid (Keeps.ext HE1.out k3 fun c hc => HTS.out c hc)
                              have HC8 := hid (k3.at HC1.out (fun hn => hn HTG.out))
                              clear hR back h' k' h3 k3 hsub HSB
                              rw [HHAS.out]
                              have h9 := H8.out
                              rw [HSAME.out] at h9
                              have H9 := hid h9
                              clear q1 h9
                              go_wp2
                              refine Met.intro ?_
                              go_step
                              exact ⟨_, rfl, rfl, ⟨R, H9.out, HDM.out, HE8.out, HC8.out⟩⟩
                          · have t0 : (0 ≤ d) = False := eq_false e0
                            go_wp2_with fail
                            refine wp_region_rely_all (S := Ext) (.fin [0, 1, 2, 3, 4, 5, 6, 7, 8, 9, 10, 11, 12, 13]) (by kernel_rfl) (by kernel_rfl) (fun _ _ d _ _ h => by cases d <;> exact h) ?_
                            rw [wpS]
                            simp only [opsAt, List.map_cons, List.map_nil, Array.getD_eq_getD_getElem?, List.getElem?_toArray, List.getElem?_cons_succ, List.getElem?_cons_zero, Option.getD_some]
                            iterate 4 ((refine wpSQ_step (fun K hK => ?_); go_simp; first | (refine hK _ ?_; clear hK K) | (apply Exists.intro; refine ⟨fun x => ?_, hK _ ?_⟩; (fail); clear hK K)))
                            iterate 8 ((refine wpSQ_pass rfl (fun K hK => ?_); go_simp; refine hK _ ?_; clear hK K))
                            iterate 2 ((refine wpSQ_step (fun K hK => ?_); go_simp; first | (refine hK _ ?_; clear hK K) | (apply Exists.intro; refine ⟨fun x => ?_, hK _ ?_⟩; (fail); clear hK K)))
                            refine wpSQ_nil ?_
                            intro V1 hV1
                            have hv1 := Ext.trans HXD.out hV1
                            have HC1 := hid (hv1.at HCB.out)
                            have HE1 := hid (Ext.trans HX1.out hv1)
                            have H1 := hid (HT2.out.ext hv1)
                            clear hV1 hv1 d0 d1 HXD
                            have HHAS := hid (show R.has d = false by unfold Rck.has; rw [HDM.out.len]; clear t0; simp; omega)
                            have HSAME := hid (show R.die d = R by unfold Rck.die; rw [HHAS.out]; rfl)
                            have q1 : V1.cell? ⟨gq, 1, none⟩ = some (.int .i64 d) := (cell_at HC1.out).trans rfl
                            go_wp2_with fail
                            obtain ⟨TL, hsub, hR, back⟩ := H1.out.left
                            have HSB := hid hsub
                            refine (at_die hR d).mono ?_
                            rintro e V8 ⟨rfl, h', k'⟩
                            obtain ⟨h3, k3⟩ := back _ _ h' k'
                            have H8 := hid h3
                            have HE8 := hid (Keeps.ext HE1.out k3 fun c hc => HTS.out c hc)
                            have HC8 := hid (k3.at HC1.out (fun hn => hn HTG.out))
                            clear hR back h' k' h3 k3 hsub HSB
                            rw [HHAS.out]
                            have h9 := H8.out
                            rw [HSAME.out] at h9
                            have H9 := hid h9
                            clear q1 h9
                            go_wp2
                            refine Met.intro ?_
                            go_step
                            exact ⟨_, rfl, rfl, ⟨R, H9.out, HDM.out, HE8.out, HC8.out⟩⟩
                    · as_aux_lemma =>
                        have q5 : W1.cell? ⟨gq, 5, none⟩ = some (.slice ba bl bc) := (cell_at HCB.out).trans rfl
                        go_wp2_with fail
                        have HBI2 := hid (show ∀ W', Ext w W' → True from fun _ _ => trivial)

                        obtain ⟨TL, hsub, hR, back⟩ := HT2.out.left
                        have HSB := hid hsub
                        refine (at_boot hR ba bl bc bits HBI.out.1 (fun p hp h0 => hsub _ (HTS.out _ (HBS.out p hp h0)))).mono ?_
                        rintro e V2 ⟨rfl, h', k'⟩
                        obtain ⟨h3, k3⟩ := back _ _ h' k'
                        have H3 := hid h3
                        have HE3 := hid (Keeps.ext HX1.out k3 fun c hc => HTS.out c hc)
                        have HC3 := hid (k3.at HCB.out (fun hn => hn HTG.out))
                        clear hR back h' k' h3 k3 hsub HSB
                        have q5' : V2.cell? ⟨gq, 5, none⟩ = some (.slice ba bl bc) := (cell_at HC3.out).trans rfl
                        clear q5 HBI2
                        go_wp2_with fail
                        obtain ⟨TL, hsub, hR, back⟩ := H3.out.right
                        have HSB := hid hsub
                        refine (fat_boot hR ba bl bc bits (HBW.out.only HE3.out (fun p hp h0 z => z)) (fun p hp h0 => hsub _ (HTS.out _ (HBS.out p hp h0)))).mono ?_
                        rintro e V3 ⟨rfl, h', k'⟩
                        obtain ⟨h3, k3⟩ := back _ _ h' k'
                        have H4 := hid h3
                        have HE4 := hid (Keeps.ext HE3.out k3 fun c hc => HTS.out c hc)
                        have HC4 := hid (k3.at HC3.out (fun hn => hn HTG.out))
                        clear hR back h' k' h3 k3 hsub HSB
                        clear q5'
                        go_wp2
                        refine Met.intro ?_
                        go_step
                        exact ⟨_, rfl, rfl, ⟨_, H4.out, HDM.out.boot bits, HE4.out, HC4.out⟩⟩
                  · as_aux_lemma =>
                      have q3 : W1.cell? ⟨gq, 3, none⟩ = some (.int .i64 nq) := (cell_at HCB.out).trans rfl
                      go_wp2_with fail
                      obtain ⟨TL, hsub, hR, back⟩ := HT2.out.left
                      have HSB := hid hsub
                      refine (at_arm hR nq HQ1.out).mono ?_
                      rintro e V2 ⟨rfl, h', k'⟩
                      obtain ⟨h3, k3⟩ := back _ _ h' k'
                      have H3 := hid h3
                      have HE3 := hid (Keeps.ext HX1.out k3 fun c hc => HTS.out c hc)
                      have HC3 := hid (k3.at HCB.out (fun hn => hn HTG.out))
                      clear hR back h' k' h3 k3 hsub HSB
                      have q3' : V2.cell? ⟨gq, 3, none⟩ = some (.int .i64 nq) := (cell_at HC3.out).trans rfl
                      clear q3
                      go_wp2_with fail
                      obtain ⟨TL, hsub, hR, back⟩ := H3.out.right
                      have HSB := hid hsub
                      refine (fat_arm hR nq HQ1.out).mono ?_
                      rintro e V3 ⟨rfl, h', k'⟩
                      obtain ⟨h3, k3⟩ := back _ _ h' k'
                      have H4 := hid h3
                      have HE4 := hid (Keeps.ext HE3.out k3 fun c hc => HTS.out c hc)
                      have HC4 := hid (k3.at HC3.out (fun hn => hn HTG.out))
                      clear hR back h' k' h3 k3 hsub HSB
                      clear q3'
                      go_wp2
                      refine Met.intro ?_
                      go_step
                      exact ⟨_, rfl, rfl, ⟨_, H4.out, HDM.out.arm nq, HE4.out, HC4.out⟩⟩
                · as_aux_lemma =>
                    have HXD := hid (show Ext W1 W1.drew from (Ext.refl W1).drew)
                    have d1 : ∀ x : SW (Only fun b => ¬ T b) W1.drew, x.w.cell? ⟨gq, 1, none⟩ = some (.int .i64 d) := fun x => (x.ext.at (HXD.out.at HCB.out) (fun hn => hn HTG.out)) |> fun h => (cell_at h).trans rfl
                    go_wp2_with fail
                    refine wp_region_calm_all (E := Ext) (S := Only fun b => ¬ T b) (.one [0, 1, 2, 5, 6, 7] 3 (.one [] 4 (.one [] 8 (.fin [9, 10])))) (by kernel_rfl) (by kernel_rfl) (fun _ _ d _ _ h => by cases d <;> exact h) ?_
                    rw [wpS]
                    simp only [opsAt, List.map_cons, List.map_nil, Array.getD_eq_getD_getElem?, List.getElem?_toArray, List.getElem?_cons_succ, List.getElem?_cons_zero, Option.getD_some]
                    iterate 6 ((refine wpSQ_step (fun K hK => ?_); go_simp; first | (refine hK _ ?_; clear hK K) | (apply Exists.intro; refine ⟨fun x => ?_, hK _ ?_⟩; (fail); clear hK K)))
                    refine wpSQ_nil ?_
                    intro V1 hV1
                    have hv1 := Ext.trans HXD.out hV1
                    have HC1 := hid (hv1.at HCB.out)
                    have HE1 := hid (Ext.trans HX1.out hv1)
                    obtain ⟨TL, hsub, hR, back⟩ := (HT2.out.ext hv1).left
                    have HR := hid hR; have HBA := hid back
                    clear hV1 hv1 d1 hsub hR back HXD
                    refine wpS_loud fun Q1 hQ1 => ?_
                    go_wp2_with fail
                    refine (at_flush HR.out d).mono ?_
                    rintro e V2 ⟨rfl, h', k'⟩
                    obtain ⟨h3, k3⟩ := HBA.out _ _ h' k'
                    have HDW := hid (HDM.out.flush d)
                    rcases hq : R.flush d with ⟨ov, R1⟩
                    rw [hq] at h3 HDW
                    simp only at h3 HDW ⊢
                    have HQ := hid hq
                    obtain ⟨vv, hvv⟩ : ∃ vv, oErr ov = vv := ⟨_, rfl⟩
                    rw [hvv]
                    have H3 := hid h3
                    have HC2 := hid (k3.at HC1.out (fun hn => hn HTG.out))
                    have HE2 := hid (Keeps.ext HE1.out k3 fun c hc => HTS.out c hc)
                    have HVV := hid hvv
                    clear h' k' h3 hq hvv HR HBA HE1 HC1
                    go_wp2
                    refine hQ1 _ _ k3 ?_
                    clear hQ1 Q1 k3
                    rw [wpS]
                    simp only [opsAt, List.map_cons, List.map_nil, Array.getD_eq_getD_getElem?, List.getElem?_toArray, List.getElem?_cons_succ, List.getElem?_cons_zero, Option.getD_some]
                    refine wpSQ_nil ?_
                    intro V3 hV3
                    have H3' := hid (H3.out.ext hV3)
                    have HC3 := hid (hV3.at HC2.out)
                    have HE3 := hid (Ext.trans HE2.out hV3)
                    clear hV3 HE2
                    refine wpS_loud fun Q1 hQ1 => ?_
                    go_wp2_with fail
                    rw [← HVV.out]
                    refine (okind_c8 ov V3 (HG.out.only HE3.out (fun z => z))).mono ?_
                    rintro e V4 ⟨rfl, x4'⟩
                    obtain ⟨ck, hck⟩ : ∃ ck, okind ov = ck := ⟨_, rfl⟩
                    rw [hck, HVV.out]
                    have HCK := hid hck
                    have H4 := hid (H3'.out.ext x4')
                    have HC4 := hid (x4'.at HC3.out)
                    have HE4 := hid (Ext.trans HE3.out x4')
                    clear hck HC3 HE3
                    go_wp2
                    refine hQ1 _ _ (Ext.only x4') ?_
                    clear hQ1 Q1 x4'
                    rw [wpS]
                    simp only [opsAt, List.map_cons, List.map_nil, Array.getD_eq_getD_getElem?, List.getElem?_toArray, List.getElem?_cons_succ, List.getElem?_cons_zero, Option.getD_some]
                    refine wpSQ_nil ?_
                    intro V5 hV5
                    have HC5 := hid (hV5.at HC4.out)
                    have HE5 := hid (Ext.trans HE4.out hV5)
                    obtain ⟨TR, _, hR, back⟩ := (H4.out.ext hV5).right
                    have HR := hid hR; have HBA := hid back
                    clear hV5 hR back HE4 HC4
                    refine wpS_loud fun Q1 hQ1 => ?_
                    go_wp2_with fail
                    refine (fat_flush HR.out d).mono ?_
                    rintro e V6 ⟨rfl, h', k'⟩
                    rw [HQ.out] at h' ⊢
                    simp only at h' ⊢
                    rw [HCK.out]
                    obtain ⟨h6, k6⟩ := HBA.out _ _ h' k'
                    have H7 := hid h6
                    have HC6 := hid (k6.at HC5.out (fun hn => hn HTG.out))
                    have HE6 := hid (Keeps.ext HE5.out k6 fun c hc => HTS.out c hc)
                    clear h' k' h6 HR HBA HC5 HE5
                    go_wp2
                    refine hQ1 _ _ k6 ?_
                    clear hQ1 Q1 k6
                    rw [wpS]
                    simp only [opsAt, List.map_cons, List.map_nil, Array.getD_eq_getD_getElem?, List.getElem?_toArray, List.getElem?_cons_succ, List.getElem?_cons_zero, Option.getD_some]
                    iterate 2 ((refine wpSQ_step (fun K hK => ?_); go_simp; first | (refine hK _ ?_; clear hK K) | (apply Exists.intro; refine ⟨fun x => ?_, hK _ ?_⟩; (fail); clear hK K)))
                    refine wpSQ_nil ?_
                    intro V7 hV7
                    have HF := hid (show ∃ R', TwoAt T V7 r q R' R' ∧ R'.Dim nn mm ∧ Ext w V7 ∧ V7.heap[gq]? = some (.cells (AkA kd d s nq xx ba bl bc od) 36 (0, 0)) from ⟨R1, H7.out.ext hV7, HDW.out, Ext.trans HE6.out hV7, hV7.at HC6.out⟩)
                    clear hV7
                    go_wp2
                    refine Met.intro ?_
                    go_step
                    exact ⟨_, rfl, rfl, HF.out⟩
              · as_aux_lemma =>
                  have q3 : W1.cell? ⟨gq, 3, none⟩ = some (.int .i64 nq) := (cell_at HCB.out).trans rfl
                  go_wp2_with fail
                  refine (kframe_c 3 sl 1 2 nq W1).mono ?_
                  rintro e w4 ⟨rfl, x4⟩
                  have HX4 := hid x4
                  clear x4 q3
                  go_wp2_with fail
                  refine (fput_yes (keepFrm 3 sl 1 2 nq) w4 (keepFrm_ok _ _ _ _ _) (keep_right8 sl HSL.out nq)).mono ?_
                  rintro e w5 ⟨pb, rfl, hpb, hblk, x5⟩
                  have HB5 := hid (hblk.bytes (Frm.bytes_byte _ (keepFrm_ok _ _ _ _ _) (keep_right8 sl HSL.out nq)) (Frm.bytes_len _ (keepFrm_ok _ _ _ _ _)) (by omega))
                  have HPB := hid (show W1.heap.size ≤ pb ∧ pb < w5.heap.size from ⟨Nat.le_trans HX4.out.size hpb, lt_of_block (show w5.heap[pb]? = _ from hblk)⟩)
                  have HX5 := hid (Ext.trans HX4.out x5)
                  obtain ⟨L, hL⟩ : ∃ L, (keepFrm 3 sl 1 2 nq).bytes = L := ⟨_, rfl⟩
                  rw [hL] at HB5
                  have q6 : w5.cell? ⟨gq, 6, none⟩ = some (.bool od) := Ext.cell HX5.out ((cell_at HCB.out).trans rfl)
                  have q3 : w5.cell? ⟨gq, 3, none⟩ = some (.int .i64 nq) := Ext.cell HX5.out ((cell_at HCB.out).trans rfl)
                  clear hpb hblk x5 hL
                  rcases od with _ | _
                  · clear q3
                    obtain ⟨T2, hT2⟩ : ∃ T2 : Nat → Prop, (fun b => T b ∨ (W1.heap.size ≤ b ∧ b < w5.heap.size)) = T2 := ⟨_, rfl⟩
                    have HTA := hid (show ∀ b, T b → T2 b from fun b hb => hT2 ▸ Or.inl hb)
                    have HTB := hid (show T2 pb from hT2 ▸ Or.inr HPB.out)
                    have H6 := hid (show TwoAt T2 w5 r q R R from hT2 ▸ HT2.out.more (T := fun b => T b ∨ (W1.heap.size ≤ b ∧ b < w5.heap.size)) HX5.out (fun b hb => by
                      have := HX5.out.size
                      rcases hb with hb | hb
                      · exact ⟨Nat.lt_of_lt_of_le (HT2.out.there b hb) this, .inl hb⟩
                      · exact ⟨hb.2, .inr hb.1⟩))
                    have HXD := hid (show Ext w5 w5.drew from (Ext.refl w5).drew)
                    have HCW := hid (HX5.out.at HCB.out)
                    have HEW := hid (Ext.trans HX1.out HX5.out)
                    have d1 : ∀ x : SW (Only fun b => ¬ T2 b) w5.drew, x.w.cell? ⟨gq, 1, none⟩ = some (.int .i64 d) := fun x => (x.ext.at (HXD.out.at HCW.out) (fun hn => hn (HTA.out gq HTG.out))) |> fun h => (cell_at h).trans rfl
                    have d2 : ∀ x : SW (Only fun b => ¬ T2 b) w5.drew, x.w.cell? ⟨gq, 2, none⟩ = some (.int .i64 s) := fun x => (x.ext.at (HXD.out.at HCW.out) (fun hn => hn (HTA.out gq HTG.out))) |> fun h => (cell_at h).trans rfl
                    clear hT2
                    go_wp2_with fail
                    refine wp_region_calm_all (E := Ext) (S := Only fun b => ¬ T2 b) (.one [0, 1, 2, 3, 4, 5, 8, 9, 10, 11, 12, 13] 6 (.one [] 7 (.one [] 14 (.fin [15, 16])))) (by kernel_rfl) (by kernel_rfl) (fun _ _ d _ _ h => by cases d <;> exact h) ?_
                    rw [wpS]
                    simp only [opsAt, List.map_cons, List.map_nil, Array.getD_eq_getD_getElem?, List.getElem?_toArray, List.getElem?_cons_succ, List.getElem?_cons_zero, Option.getD_some]
                    iterate 12 ((refine wpSQ_step (fun K hK => ?_); go_simp; first | (refine hK _ ?_; clear hK K) | (apply Exists.intro; refine ⟨fun x => ?_, hK _ ?_⟩; (fail); clear hK K)))
                    refine wpSQ_nil ?_
                    intro V1 hV1
                    have hv1 := Ext.trans HXD.out hV1
                    have HB1 := hid (HB5.out.ext hv1)
                    have HC1 := hid (hv1.at HCW.out)
                    have HE1 := hid (Ext.trans HEW.out hv1)
                    obtain ⟨TL, hsub, hR, back⟩ := (H6.out.ext hv1).left
                    have HR := hid hR; have HBA := hid back
                    clear hV1 hv1 d1 d2 hsub hR back HXD
                    refine wpS_loud fun Q1 hQ1 => ?_
                    go_wp2_with fail
                    refine (at_write HR.out d s (some ⟨pb, 0, none⟩) 128 128 L HB1.out).mono ?_
                    rintro e V2 ⟨rfl, h', k'⟩
                    obtain ⟨h3, k3⟩ := HBA.out _ _ h' k'
                    have HDW := hid (HDM.out.write d s L)
                    rcases hq : R.write d s L with ⟨ov, R1⟩
                    rw [hq] at h3 HDW
                    simp only at h3 HDW ⊢
                    have HQ := hid hq
                    obtain ⟨vv, hvv⟩ : ∃ vv, oErr ov = vv := ⟨_, rfl⟩
                    rw [hvv]
                    have H3 := hid h3
                    have HB2 := hid (HB1.out.only k3 fun p _ hp hn => hn (by obtain ⟨c, hc, rfl⟩ := hp; cases hc; exact HTB.out))
                    have HC2 := hid (k3.at HC1.out (fun hn => hn (HTA.out gq HTG.out)))
                    have HE2 := hid (Keeps.ext HE1.out k3 fun c hc => HTA.out c (HTS.out c hc))
                    have HVV := hid hvv
                    clear h' k' h3 hq hvv HR HBA HE1 HB1 HC1
                    go_wp2
                    refine hQ1 _ _ k3 ?_
                    clear hQ1 Q1 k3
                    rw [wpS]
                    simp only [opsAt, List.map_cons, List.map_nil, Array.getD_eq_getD_getElem?, List.getElem?_toArray, List.getElem?_cons_succ, List.getElem?_cons_zero, Option.getD_some]
                    refine wpSQ_nil ?_
                    intro V3 hV3
                    have H3' := hid (H3.out.ext hV3)
                    have HB3 := hid (HB2.out.ext hV3)
                    have HC3 := hid (hV3.at HC2.out)
                    have HE3 := hid (Ext.trans HE2.out hV3)
                    clear hV3 HE2
                    refine wpS_loud fun Q1 hQ1 => ?_
                    go_wp2_with fail
                    rw [← HVV.out]
                    refine (okind_c8 ov V3 (HG.out.only HE3.out (fun z => z))).mono ?_
                    rintro e V4 ⟨rfl, x4'⟩
                    obtain ⟨ck, hck⟩ : ∃ ck, okind ov = ck := ⟨_, rfl⟩
                    rw [hck, HVV.out]
                    have HCK := hid hck
                    have H4 := hid (H3'.out.ext x4')
                    have HB4 := hid (HB3.out.ext x4')
                    have HC4 := hid (x4'.at HC3.out)
                    have HE4 := hid (Ext.trans HE3.out x4')
                    clear hck HB3 HC3 HE3
                    go_wp2
                    refine hQ1 _ _ (Ext.only x4') ?_
                    clear hQ1 Q1 x4'
                    rw [wpS]
                    simp only [opsAt, List.map_cons, List.map_nil, Array.getD_eq_getD_getElem?, List.getElem?_toArray, List.getElem?_cons_succ, List.getElem?_cons_zero, Option.getD_some]
                    refine wpSQ_nil ?_
                    intro V5 hV5
                    have HB5' := hid (HB4.out.ext hV5)
                    have HC5 := hid (hV5.at HC4.out)
                    have HE5 := hid (Ext.trans HE4.out hV5)
                    obtain ⟨TR, _, hR, back⟩ := (H4.out.ext hV5).right
                    have HR := hid hR; have HBA := hid back
                    clear hV5 hR back HE4 HC4 HB4
                    refine wpS_loud fun Q1 hQ1 => ?_
                    go_wp2_with fail
                    refine (fat_write HR.out d s (some ⟨pb, 0, none⟩) 128 128 L HB5'.out).mono ?_
                    rintro e V6 ⟨rfl, h', k'⟩
                    rw [HQ.out] at h' ⊢
                    simp only at h' ⊢
                    rw [HCK.out]
                    obtain ⟨h6, k6⟩ := HBA.out _ _ h' k'
                    have H7 := hid h6
                    have HC6 := hid (k6.at HC5.out (fun hn => hn (HTA.out gq HTG.out)))
                    have HE6 := hid (Keeps.ext HE5.out k6 fun c hc => HTA.out c (HTS.out c hc))
                    clear h' k' h6 HR HBA HC5 HE5
                    go_wp2
                    refine hQ1 _ _ k6 ?_
                    clear hQ1 Q1 k6
                    rw [wpS]
                    simp only [opsAt, List.map_cons, List.map_nil, Array.getD_eq_getD_getElem?, List.getElem?_toArray, List.getElem?_cons_succ, List.getElem?_cons_zero, Option.getD_some]
                    iterate 2 ((refine wpSQ_step (fun K hK => ?_); go_simp; first | (refine hK _ ?_; clear hK K) | (apply Exists.intro; refine ⟨fun x => ?_, hK _ ?_⟩; (fail); clear hK K)))
                    refine wpSQ_nil ?_
                    intro V7 hV7
                    have HF := hid (show ∃ R', TwoAt T V7 r q R' R' ∧ R'.Dim nn mm ∧ Ext w V7 ∧ V7.heap[gq]? = some (.cells (AkA kd d s nq xx ba bl bc false) 36 (0, 0)) from ⟨R1, (H7.out.ext hV7).less HTA.out, HDW.out, Ext.trans HE6.out hV7, hV7.at HC6.out⟩)
                    clear hV7
                    go_wp2
                    refine Met.intro ?_
                    go_step
                    exact ⟨_, rfl, rfl, HF.out⟩
                  · obtain ⟨z8, hz8, hz9⟩ : ∃ z : Nat, IntKind.u8.wrap nq = (z : Int) ∧ z < 256 := ⟨(IntKind.u8.wrap nq).toNat, by rw [IntKind.wrap_u8]; omega, by rw [IntKind.wrap_u8]; omega⟩
                    go_wp2_with fail
                    refine (sector_c z8 hz9 w5).mono ?_
                    rintro e w6 ⟨pc, rfl, hpc, hby, x6⟩
                    have HB6 := hid hby
                    have HX6 := hid (Ext.trans HX5.out x6)
                    have HPC := hid (show W1.heap.size ≤ pc ∧ pc < w6.heap.size from ⟨Nat.le_trans HX5.out.size hpc, World.block_lt_of_cell? w6 _ (hby.get 0 (by omega))⟩)
                    clear hpc hby x6 hz8 q3
                    obtain ⟨T2, hT2⟩ : ∃ T2 : Nat → Prop, (fun b => T b ∨ (W1.heap.size ≤ b ∧ b < w6.heap.size)) = T2 := ⟨_, rfl⟩
                    have HTA := hid (show ∀ b, T b → T2 b from fun b hb => hT2 ▸ Or.inl hb)
                    have HTB := hid (show T2 pc from hT2 ▸ Or.inr HPC.out)
                    have H6 := hid (show TwoAt T2 w6 r q R R from hT2 ▸ HT2.out.more (T := fun b => T b ∨ (W1.heap.size ≤ b ∧ b < w6.heap.size)) HX6.out (fun b hb => by
                      have := HX6.out.size
                      rcases hb with hb | hb
                      · exact ⟨Nat.lt_of_lt_of_le (HT2.out.there b hb) this, .inl hb⟩
                      · exact ⟨hb.2, .inr hb.1⟩))
                    have HXD := hid (show Ext w6 w6.drew from (Ext.refl w6).drew)
                    have HCW := hid (HX6.out.at HCB.out)
                    have HEW := hid (Ext.trans HX1.out HX6.out)
                    have d1 : ∀ x : SW (Only fun b => ¬ T2 b) w6.drew, x.w.cell? ⟨gq, 1, none⟩ = some (.int .i64 d) := fun x => (x.ext.at (HXD.out.at HCW.out) (fun hn => hn (HTA.out gq HTG.out))) |> fun h => (cell_at h).trans rfl
                    have d2 : ∀ x : SW (Only fun b => ¬ T2 b) w6.drew, x.w.cell? ⟨gq, 2, none⟩ = some (.int .i64 s) := fun x => (x.ext.at (HXD.out.at HCW.out) (fun hn => hn (HTA.out gq HTG.out))) |> fun h => (cell_at h).trans rfl
                    clear hT2
                    go_wp2_with fail
                    refine wp_region_calm_all (E := Ext) (S := Only fun b => ¬ T2 b) (.one [0, 1, 2, 3, 4, 5, 8, 9, 10, 11, 12, 13] 6 (.one [] 7 (.one [] 14 (.fin [15, 16])))) (by kernel_rfl) (by kernel_rfl) (fun _ _ d _ _ h => by cases d <;> exact h) ?_
                    rw [wpS]
                    simp only [opsAt, List.map_cons, List.map_nil, Array.getD_eq_getD_getElem?, List.getElem?_toArray, List.getElem?_cons_succ, List.getElem?_cons_zero, Option.getD_some]
                    iterate 12 ((refine wpSQ_step (fun K hK => ?_); go_simp; first | (refine hK _ ?_; clear hK K) | (apply Exists.intro; refine ⟨fun x => ?_, hK _ ?_⟩; (fail); clear hK K)))
                    refine wpSQ_nil ?_
                    intro V1 hV1
                    have hv1 := Ext.trans HXD.out hV1
                    have HB1 := hid (HB6.out.ext hv1)
                    have HC1 := hid (hv1.at HCW.out)
                    have HE1 := hid (Ext.trans HEW.out hv1)
                    obtain ⟨TL, hsub, hR, back⟩ := (H6.out.ext hv1).left
                    have HR := hid hR; have HBA := hid back
                    clear hV1 hv1 d1 d2 hsub hR back HXD
                    refine wpS_loud fun Q1 hQ1 => ?_
                    go_wp2_with fail
                    refine (at_write HR.out d s (some ⟨pc, 0, none⟩) 128 128 (sect z8) HB1.out).mono ?_
                    rintro e V2 ⟨rfl, h', k'⟩
                    obtain ⟨h3, k3⟩ := HBA.out _ _ h' k'
                    have HDW := hid (HDM.out.write d s (sect z8))
                    rcases hq : R.write d s (sect z8) with ⟨ov, R1⟩
                    rw [hq] at h3 HDW
                    simp only at h3 HDW ⊢
                    have HQ := hid hq
                    obtain ⟨vv, hvv⟩ : ∃ vv, oErr ov = vv := ⟨_, rfl⟩
                    rw [hvv]
                    have H3 := hid h3
                    have HB2 := hid (HB1.out.only k3 fun p _ hp hn => hn (by obtain ⟨c, hc, rfl⟩ := hp; cases hc; exact HTB.out))
                    have HC2 := hid (k3.at HC1.out (fun hn => hn (HTA.out gq HTG.out)))
                    have HE2 := hid (Keeps.ext HE1.out k3 fun c hc => HTA.out c (HTS.out c hc))
                    have HVV := hid hvv
                    clear h' k' h3 hq hvv HR HBA HE1 HB1 HC1
                    go_wp2
                    refine hQ1 _ _ k3 ?_
                    clear hQ1 Q1 k3
                    rw [wpS]
                    simp only [opsAt, List.map_cons, List.map_nil, Array.getD_eq_getD_getElem?, List.getElem?_toArray, List.getElem?_cons_succ, List.getElem?_cons_zero, Option.getD_some]
                    refine wpSQ_nil ?_
                    intro V3 hV3
                    have H3' := hid (H3.out.ext hV3)
                    have HB3 := hid (HB2.out.ext hV3)
                    have HC3 := hid (hV3.at HC2.out)
                    have HE3 := hid (Ext.trans HE2.out hV3)
                    clear hV3 HE2
                    refine wpS_loud fun Q1 hQ1 => ?_
                    go_wp2_with fail
                    rw [← HVV.out]
                    refine (okind_c8 ov V3 (HG.out.only HE3.out (fun z => z))).mono ?_
                    rintro e V4 ⟨rfl, x4'⟩
                    obtain ⟨ck, hck⟩ : ∃ ck, okind ov = ck := ⟨_, rfl⟩
                    rw [hck, HVV.out]
                    have HCK := hid hck
                    have H4 := hid (H3'.out.ext x4')
                    have HB4 := hid (HB3.out.ext x4')
                    have HC4 := hid (x4'.at HC3.out)
                    have HE4 := hid (Ext.trans HE3.out x4')
                    clear hck HB3 HC3 HE3
                    go_wp2
                    refine hQ1 _ _ (Ext.only x4') ?_
                    clear hQ1 Q1 x4'
                    rw [wpS]
                    simp only [opsAt, List.map_cons, List.map_nil, Array.getD_eq_getD_getElem?, List.getElem?_toArray, List.getElem?_cons_succ, List.getElem?_cons_zero, Option.getD_some]
                    refine wpSQ_nil ?_
                    intro V5 hV5
                    have HB5' := hid (HB4.out.ext hV5)
                    have HC5 := hid (hV5.at HC4.out)
                    have HE5 := hid (Ext.trans HE4.out hV5)
                    obtain ⟨TR, _, hR, back⟩ := (H4.out.ext hV5).right
                    have HR := hid hR; have HBA := hid back
                    clear hV5 hR back HE4 HC4 HB4
                    refine wpS_loud fun Q1 hQ1 => ?_
                    go_wp2_with fail
                    refine (fat_write HR.out d s (some ⟨pc, 0, none⟩) 128 128 (sect z8) HB5'.out).mono ?_
                    rintro e V6 ⟨rfl, h', k'⟩
                    rw [HQ.out] at h' ⊢
                    simp only at h' ⊢
                    rw [HCK.out]
                    obtain ⟨h6, k6⟩ := HBA.out _ _ h' k'
                    have H7 := hid h6
                    have HC6 := hid (k6.at HC5.out (fun hn => hn (HTA.out gq HTG.out)))
                    have HE6 := hid (Keeps.ext HE5.out k6 fun c hc => HTA.out c (HTS.out c hc))
                    clear h' k' h6 HR HBA HC5 HE5
                    go_wp2
                    refine hQ1 _ _ k6 ?_
                    clear hQ1 Q1 k6
                    rw [wpS]
                    simp only [opsAt, List.map_cons, List.map_nil, Array.getD_eq_getD_getElem?, List.getElem?_toArray, List.getElem?_cons_succ, List.getElem?_cons_zero, Option.getD_some]
                    iterate 2 ((refine wpSQ_step (fun K hK => ?_); go_simp; first | (refine hK _ ?_; clear hK K) | (apply Exists.intro; refine ⟨fun x => ?_, hK _ ?_⟩; (fail); clear hK K)))
                    refine wpSQ_nil ?_
                    intro V7 hV7
                    have HF := hid (show ∃ R', TwoAt T V7 r q R' R' ∧ R'.Dim nn mm ∧ Ext w V7 ∧ V7.heap[gq]? = some (.cells (AkA kd d s nq xx ba bl bc true) 36 (0, 0)) from ⟨R1, (H7.out.ext hV7).less HTA.out, HDW.out, Ext.trans HE6.out hV7, hV7.at HC6.out⟩)
                    clear hV7
                    go_wp2
                    refine Met.intro ?_
                    go_step
                    exact ⟨_, rfl, rfl, HF.out⟩
          · as_aux_lemma =>
              by_cases h1 : i < len
              · have i1 : (i : Int) < (len : Int) := by omega
                have i2 : ((i : Int) < 40) = False := eq_false (by omega)
                go_wp2_with fail
                refine (rackRuns_c wr (HG.out.only HX.out (fun q => q))).mono ?_
                rintro e w5 ⟨rfl, x5⟩
                have HX5 := hid (Ext.trans HX.out x5)
                clear x5
                go_wp2
                go_ret
                exact ⟨rfl, HX5.out⟩
              · have i1 : ((i : Int) < (len : Int)) = False := eq_false (by omega)
                go_wp2_with fail
                refine (rackRuns_c wr (HG.out.only HX.out (fun q => q))).mono ?_
                rintro e w5 ⟨rfl, x5⟩
                have HX5 := hid (Ext.trans HX.out x5)
                clear x5
                go_wp2
                go_ret
                exact ⟨rfl, HX5.out⟩
end Go.Proofs.YtgjnnbomnoafcaaGreatDoor

/- The statement RackPlays, as its tied card: for every input the call of stavelaw8's RackPlays answers true, and its arguments read behind it as they read before. No condition of our own. -/
namespace Go.Proofs.YtgjnnbomnoafcaaGreatDoor.rackPlays
open Go.ChangeShapes Go.WideShapes Go.ChangeAt Go.RowKit
open Go.ChangeMaps (open_string shut_string)
set_option linter.unusedVariables false
theorem laidOut : laidOutB Tryz.prog = true := by kernel_rfl
theorem walk (a0 : Int) (a1 : Int) (a2 : Option Addr) (len2 cap2 : Nat) (w : World) (hg : EtLaid w) (w2 : AsksAt w a2 len2) :
    Calls Tryz.prog 3 #[.int .i64 a0, .int .i64 a1, .slice a2 len2 cap2] w fun e w' => e = .returned (.bool true) ∧ Below w.heap.size w w' :=
  (rackPlays_c a0 a1 a2 len2 cap2 w hg w2).mono fun _ _ ⟨he, hx⟩ => ⟨he, hx.below⟩
set_option maxRecDepth 100000 in
theorem lifted (os : Os) (started : os.Started) (H : Type) (enc : TypeId × Value → H) :
    ReturnsInHanded {} Tryz.checked os 3 .any (fun w args => (Rows.rackPlaysSpec.pre enc Tryz.prog Tryz.f3 [] false w args ∧ laidMetH Tryz.prog theLaid w) ∧ sizedMet enc Tryz.prog Tryz.f3 (OpenSpec.ofChange Rows.rackPlaysSpec) false w args)
      (Rows.rackPlaysSpec.post enc Tryz.prog Tryz.f3 false true false false) := by
  refine returnsInHanded_of_change_and (C := Tryz.checked) (X := fun w _ => laidMetH Tryz.prog theLaid w) (fun _ _ _ hh h => h.of_heap hh) hOwn started (by kernel_rfl) Tryz.func3
    (ChangeSpec.witness_at (enc := enc) (C := Tryz.checked) (os := os) (X := fun w _ => laidMetH Tryz.prog theLaid w) false (laidWorld os) #[.int .i64 0, .int .i64 0, .slice none 0 0] 8 rfl (by kernel_rfl) (by kernel_rfl) (by kernel_rfl) (by kernel_rfl) (by kernel_rfl) (laidWorld_met os _)) ?_
  intro W base args ds gs before hval0 hW _ _ hL _
  have hval : ∀ (j : Nat) t v, Tryz.f3.params[j]? = some t → args[j]? = some v → Value.okWide Tryz.prog W .any base t v := hval0
  have hW' := hW
  obtain ⟨p, q, hA0, hV, rfl, hfz, hnd⟩ := hW
  have hA : DataW.TrodAll enc Tryz.prog W 0 (fun _ => true) true Tryz.f3.params.toList args.toList ds p := hA0
  rw [Tryz.params3] at hA hval
  obtain ⟨v0, vs0, d0, ds0, p0, q0, hargs, rfl, rfl, h0, r0⟩ := trodAll_cons hA
  obtain ⟨v1, vs1, d1, ds1, p1, q1, rfl, rfl, rfl, h1, r1⟩ := trodAll_cons r0
  obtain ⟨v2, vs2, d2, ds2, p2, q2, rfl, rfl, rfl, h2, r2⟩ := trodAll_cons r1
  obtain ⟨rfl, rfl, rfl⟩ := trodAll_nil r2
  obtain rfl : args = #[v0, v1, v2] := by cases args; simp_all
  obtain ⟨rfl, rfl⟩ := trodVars_none hV
  obtain ⟨a0, rfl, rfl, rfl, w0⟩ := open_int Tryz.underlying3 (hval 0 3 v0 rfl rfl) h0
  obtain ⟨a1, rfl, rfl, rfl, w1⟩ := open_int Tryz.underlying3 (hval 1 3 v1 rfl rfl) h1
  obtain ⟨a2, len2, cap2, rfl⟩ := okWide_slice Tryz.underlying22 (hval 2 22 v2 rfl rfl)
  have k2 := h2
  have lt2 : ∀ x ∈ p2, x.block < W.heap.size := by obtain ⟨m, hm⟩ := k2; exact DataW.trod_lt m _ _ _ hm
  have w2 : AsksAt W a2 len2 := by
    obtain ⟨fuel, hf⟩ := h2
    exact open_asks hf
  have hg := etLaid_of hL
  clear hA0 hval0
  simp only [List.append_nil] at hW'
  refine (walk a0 a1 a2 len2 cap2 W hg w2).mono fun e W' ⟨he, bel⟩ => ?_
  subst he
  exact ⟨_, rfl, _, _, _, [], _, [], hW', trodAll_mk1 (shut_bool Tryz.underlying4 _), (trodAll_cons_mk (shut_int Tryz.underlying3 w0) (trodAll_cons_mk (shut_int Tryz.underlying3 w1) (trodAll_cons_mk (Below.trod laidOut (by kernel_rfl) (of_decide_eq_true (by kernel_rfl)) k2 bel lt2) trodAll_mk0))), rfl, bel.frame _, fun h => by cases h⟩
theorem over : Rows.RackPlaysSaid :=
  OpenClaim.holds_of_wide 3 Tryz.f3 rfl rfl rfl rfl rfl rfl rfl ⟨rfl, rfl, rfl, rfl, rfl⟩ rfl rfl rfl rfl rfl (by kernel_rfl) Tryz.func3 (by kernel_rfl)
    (of_decide_eq_true (by kernel_rfl)) (by unfold Func.isWrapper; first | (rw [if_pos (by decide +kernel)]; kernel_rfl) | (rw [if_neg (by decide +kernel)]; exact ⟨rfl, rfl⟩))
    (fun os started H enc _ => lifted os started H enc)
theorem proved : Rows.RackPlaysCardSaid :=
  Claim7.holds_tied_plain_at .later [] [.handle] true (true, "faf3cd5ff00875a54f6a608788494961345aefece9ca848031828fc03b572bca") true
    over (fun _ h => by cases h) (by kernel_rfl) (fun _ h => by cases h) rackPlays_row_tie rfl ⟨rfl, rfl⟩ (by kernel_rfl) rfl
    (fun f fn hf hfn => by
      obtain rfl : f = 3 := Option.some.inj ((show Tryz.prog.funcNamed "stave/stavelaw8.RackPlays" = some 3 by kernel_rfl).symm.trans hf) |>.symm
      obtain rfl : fn = Tryz.f3 := (Option.some.inj (Tryz.func3.symm.trans hfn)).symm
      exact ⟨by kernel_rfl, fun j t ht => by
        rw [Tryz.params3] at ht
        rcases j with _ | _ | _ | j
        · simp at ht; subst ht; kernel_rfl
        · simp at ht; subst ht; kernel_rfl
        · simp at ht; subst ht; kernel_rfl
        · simp at ht⟩)
    (by kernel_rfl)
#print axioms proved
end Go.Proofs.YtgjnnbomnoafcaaGreatDoor.rackPlays
