/- The statement TapeBack: for every input the call of stavelaw's TapeBack answers true, and its arguments read behind it as they read before. No condition. -/
/- Texts of one proof, joined: WTapeBack, LawTapeBack. -/
import Derived.Test.YtbdfjiedceaoiaaGreatPBD
import Derived.Test.YtbdfjiedceaoiaaGreatPBF
import Derived.Test.YtbdfjiedceaoiaaGreatPX
import Derived.Test.YtbdfjiedceaoiaaGreatRows
import Derived.WalkKit
import Derived.ProofKit
import Derived.OpenShut
import Derived.ShutString
import Derived.Carry
set_option linter.unusedVariables false
set_option linter.unusedSimpArgs false
namespace Go.Proofs.YtbdfjiedceaoiaaGreat
set_option linter.unusedVariables false
open Go Go.RowKit
def fitB (kk : Nat) (es : List (List Nat)) (i : Nat) : Bool := decide (es ≠ [] ∧ ∀ x ∈ es.take i, Tp.okE kk x)
theorem fitB_zero (kk : Nat) (es : List (List Nat)) : fitB kk es 0 = decide (0 < es.length) := by
 unfold fitB
 cases es with
 | nil => rfl
 | cons x l =>
  rw [decide_eq_true (show (x :: l) ≠ [] ∧ ∀ y ∈ (x :: l).take 0, Tp.okE kk y from ⟨List.cons_ne_nil _ _, fun y hy => by simp at hy⟩), decide_eq_true (by simp)]
theorem fitB_succ {kk : Nat} {es : List (List Nat)} {i : Nat} {x : List Nat} (h : es[i]? = some x) : fitB kk es (i + 1) = (fitB kk es i && decide (Tp.okE kk x)) := by
 unfold fitB
 rw [Bool.eq_iff_iff]
 simp only [Bool.and_eq_true, decide_eq_true_eq]
 rw [List.take_add_one, h]
 constructor
 ·
  rintro ⟨h1, h2⟩
  exact ⟨⟨h1, fun y hy => h2 y (List.mem_append_left _ hy)⟩, h2 x (List.mem_append_right _ (by simp))⟩
 ·
  rintro ⟨⟨h1, h2⟩, h3⟩
  refine ⟨h1, fun y hy => ?_⟩
  rcases List.mem_append.1 hy with q | q
  ·
   exact h2 y q
  ·
   have : y = x := by simpa using q
   rw [this]; exact h3
theorem fitB_fits {kk : Nat} {es : List (List Nat)} : Tp.fits kk es ↔ fitB kk es es.length = true ∧ (Tp.pack es).length ≤ kk * 108 := by
 unfold fitB Tp.fits
 rw [decide_eq_true_eq, List.take_length]
 constructor
 ·
  rintro ⟨h1, h2, h3⟩; exact ⟨⟨h2, h1⟩, h3⟩
 ·
  rintro ⟨⟨h1, h2⟩, h3⟩; exact ⟨h2, h1, h3⟩
theorem w64 {z : Int} (h0 : -100000 ≤ z) (h1 : z ≤ 100000) : wrap64 z = z := by unfold wrap64; omega
theorem i64w {z : Int} (h0 : -100000 ≤ z) (h1 : z ≤ 100000) : IntKind.i64.wrap z = z := by rw [IntKind.wrap_i64]; omega
set_option maxRecDepth 100000 in
set_option maxHeartbeats 800000 in
theorem tapeBack_c (k n : Int) (a : Option Addr) (len cap : Nat) (Z : Nat → List Nat) (w : World) (hl : NestAt w a len Z) :
  Calls Tryz.prog 4 #[.int .i64 k, .int .i64 n, .slice a len cap] w fun e w' => e = .returned (.bool true) ∧ Ext w w' := by
 have HL := hid hl
 have hzc := zero_cfg
 have HCS := hid Cfg.A_size
 clear hl
 go_enter Tryz.func4, Tryz.ntmps4
 go_wp2_with fail
 refine (kfixed_c k n 2 1 _).mono ?_
 rintro e w1 ⟨rfl, x1⟩
 have HGD := hid (show (keepFixed k n 2 1).Good from keepFixed_good k n 2 1 (by omega) (by omega) (by omega) (by omega))
 have HK4 := hid (keepFixed_k4 k n 2 1)
 generalize keepFixed k n 2 1 = c at *
 obtain ⟨W1, hW1⟩ : ∃ W, w1.alloc (.cells (Cfg.A c) 23) = W := ⟨_, rfl⟩
 have X1 := hid (show Ext w W1 from hW1 ▸ x1.alloc _)
 have HC := hid (show W1.heap[w1.heap.size]? = some (.cells (Cfg.A c) 23 (0, 0)) from hW1 ▸ heap_alloc_new _ _)
 have hbs : (w1.alloc (.cells (Cfg.A Cfg.zero) 23)).heap[w1.heap.size]? = some (.cells (Cfg.A Cfg.zero) 23 (0, 0)) := Zad
 have HW1 := hid hW1
 clear x1 hW1
 go_wp2_with (guard_target = wpList _ _ _ (⟨none, Op.store _ _ _, _, _, _, none⟩ :: _) _ _; refine Zaa rfl 23 _ _ rfl w1.heap.size rfl (Cfg.A c) _ rfl 23 ?_ hbs ?_ ?_ ?_; (rw [HCS.out]; exact aggCfg); (rw [HCS.out, HCS.out]); exact Cfg.A_one _; rw [Zaj, HW1.out])
 clear hbs
 generalize w1.heap.size = g at *
 obtain ⟨kk, hk⟩ : ∃ kk : Nat, c.k = kk := ⟨c.k.toNat, by have := HGD.out.k0; omega⟩
 have HKT := hid (show c.k.toNat = kk by omega)
 have k1 : 1 ≤ kk := by have := HGD.out.k0; omega
 have k4 : kk ≤ 4 := by have := HK4.out; omega
 have HK := hid hk
 clear hk
 refine (some_c cap 200 (by omega) W1 (HL.out.ext X1.out)).mono ?_
 rintro e w2 ⟨v, bk, cp, rfl, heo, x2⟩
 obtain ⟨ao, co, rfl, hin, _⟩ := heo.slice
 have HX2 := hid (Ext.trans X1.out x2)
 have HC2 := hid (x2.at HC.out)
 have HE2 := hid hin.ents
 have HEN := hid (show (someL Z 200 (min len 6)).length ≤ 6 by rw [someL_len]; omega)
 have HEX := hid (show ∀ x ∈ someL Z 200 (min len 6), x.length ≤ 200 from fun x hx => by
  unfold someL at hx
  obtain ⟨r, _, rfl⟩ := List.mem_map.1 hx
  rw [List.length_take]; omega)
 obtain ⟨es, hes⟩ : ∃ es, someL Z 200 (min len 6) = es := ⟨_, rfl⟩
 rw [hes] at HE2 HEN HEX ⊢
 have HPB := hid (show ∀ i, (Tp.pack (es.take i)).length ≤ 202 * i from fun i => by
  induction i with
  | zero => simp [Tp.pack]
  | succ i ih =>
   rcases e : es[i]? with _ | x
   ·
    rw [List.take_add_one, e]; simp; omega
   ·
    rw [Tp.take_succ_pack es i x e, List.length_append, Tp.ent_len]
    have := HEX.out x (List.mem_of_getElem? e); omega)
 clear x2 heo hin hes HC
 have hn6 : es.length ≤ 6 := HEN.out
 have HF0 := hid (fitB_zero kk es)
 go_wp2_with fail
 go_loopw [24, 9, 10] (fun t sz ft wr => ∃ i : Nat, t = .int .i64 i ∧ i ≤ es.length ∧ sz = .int .i64 ((Tp.pack (es.take i)).length : Nat) ∧ ft = .bool (fitB kk es i) ∧ Ext w2 wr) (fun t _ _ _ => es.length - (intOf t).toNat)
 case atStart => exact ⟨0, rfl, by omega, rfl, by rw [HF0.out], Ext.refl _⟩
 case round =>
  obtain ⟨i, rfl, hi, rfl, rfl, hx⟩ := hrel
  have HX := hid hx
  clear hx
  have hpb := HPB.out i
  by_cases hlt : i < es.length
  ·
   obtain ⟨x, hxi⟩ : ∃ x, es[i]? = some x := ⟨_, List.getElem?_eq_getElem hlt⟩
   obtain ⟨g0, off, p, cpx, rfl, hcell, hbx⟩ := (HE2.out.ext HX.out) i x hxi
   have hx2 := HEX.out x (List.mem_of_getElem? hxi)
   have HFS := hid (fitB_succ (kk := kk) hxi)
   have HPS := hid (Tp.take_succ_pack es i x hxi)
   have HPL := hid (show ((Tp.pack (es.take (i + 1))).length : Int) = ((Tp.pack (es.take i)).length : Nat) + 2 + (x.length : Int) by rw [HPS.out, List.length_append, Tp.ent_len]; omega)
   have ck : wr.cell? ⟨g, 1, none⟩ = some (.int .i64 kk) := (Zag (HX.out.at HC2.out)).trans ((Cfg.A1 c).trans (by rw [HK.out]))
   have i0 : (0 : Int) ≤ (i : Int) := by omega
   have i1 : (i : Int) < (es.length : Int) := by omega
   clear hxi hbx
   generalize (Tp.pack (es.take i)).length = P at *
   have HW1 := hid (w64 (z := (P : Int) + 2) (by omega) (by omega))
   have HW2 := hid (w64 (z := (P : Int) + 2 + (x.length : Int)) (by omega) (by omega))
   have HW3 := hid (w64 (z := (kk : Int) * 108) (by omega) (by omega))
   have HW4 := hid (w64 (z := (kk : Int) * 108 - 2) (by omega) (by omega))
   have HV2 := hid (i64w (z := (P : Int) + 2 + (x.length : Int)) (by omega) (by omega))
   rcases hfb : fitB kk es i with _ | _
   ·
    have HR := hid (show fitB kk es (i + 1) = false by rw [HFS.out, hfb]; rfl)
    have hw1 := HW1.out; have hw2 := HW2.out; have hv2 := HV2.out
    clear hfb
    go_wp2_with fail
    go_roundw
    case rel => exact ⟨i + 1, by go_num, by omega, by rw [HPL.out] <;> (congr 1; omega), by rw [HR.out], HX.out⟩
    case measure => simp [intOf]; omega
   ·
    by_cases h0 : x.length = 0
    ·
     have HR := hid (show fitB kk es (i + 1) = false by rw [HFS.out, decide_eq_false (fun q => by have := q.1; omega), Bool.and_false])
     have t0 : ¬ (0 : Int) < (x.length : Int) := by omega
     have hw1 := HW1.out; have hw2 := HW2.out; have hv2 := HV2.out
     clear hfb
     go_wp2_with fail
     go_roundw
     case rel => exact ⟨i + 1, by go_num, by omega, by rw [HPL.out] <;> (congr 1; omega), by rw [HR.out], HX.out⟩
     case measure => simp [intOf]; omega
    ·
     have t0 : (0 : Int) < (x.length : Int) := by omega
     by_cases h1 : x.length + 2 ≤ kk * 108
     ·
      have HR := hid (show fitB kk es (i + 1) = true by rw [HFS.out, hfb, decide_eq_true ⟨by omega, h1⟩]; rfl)
      have t1 : (x.length : Int) ≤ (kk : Int) * 108 - 2 := by omega
      have hw1 := HW1.out; have hw2 := HW2.out; have hw3 := HW3.out; have hw4 := HW4.out; have hv2 := HV2.out
      clear hfb
      go_wp2_with fail
      go_roundw
      case rel => exact ⟨i + 1, by go_num, by omega, by rw [HPL.out] <;> (congr 1; omega), by rw [HR.out], HX.out⟩
      case measure => simp [intOf]; omega
     ·
      have HR := hid (show fitB kk es (i + 1) = false by rw [HFS.out, decide_eq_false (fun q => h1 q.2), Bool.and_false])
      have t1 : ¬ (x.length : Int) ≤ (kk : Int) * 108 - 2 := by omega
      have hw1 := HW1.out; have hw2 := HW2.out; have hw3 := HW3.out; have hw4 := HW4.out; have hv2 := HV2.out
      clear hfb
      go_wp2_with fail
      go_roundw
      case rel => exact ⟨i + 1, by go_num, by omega, by rw [HPL.out] <;> (congr 1; omega), by rw [HR.out], HX.out⟩
      case measure => simp [intOf]; omega
  ·
   have i1 : ¬ (i : Int) < (es.length : Int) := by omega
   obtain rfl : i = es.length := by omega
   rw [List.take_length] at hpb ⊢
   have HFF := hid (fitB_fits (kk := kk) (es := es))
   have tf := hid (tfill_c c HGD.out es (by omega) ao co wr (HE2.out.ext HX.out))
   rw [HKT.out] at tf
   have HCR := hid (HX.out.at HC2.out)
   go_wp2_with (guard_target = wpList _ _ _ (⟨some _, Op.load _ _, _, _, _, none⟩ :: _) _ _; refine Zac rfl 23 _ rfl ⟨g, 0, none⟩ rfl (Cfg.A c) (Zat c) (Zah HCR.out) ?_)
   refine tf.out.mono ?_
   rintro e w3 ⟨x3, hf⟩
   have HX3 := hid (Ext.trans HX.out x3)
   have ck : w3.cell? ⟨g, 1, none⟩ = some (.int .i64 kk) := (Zag (HX3.out.at HC2.out)).trans ((Cfg.A1 c).trans (by rw [HK.out]))
   have HW3 := hid (w64 (z := (kk : Int) * 108) (by omega) (by omega))
   clear tf x3
   rcases hf with ⟨hnf, rfl⟩ | ⟨hft, gb, rfl, hgb, hbk⟩
   ·
    rcases hfb : fitB kk es es.length with _ | _
    ·
     clear hfb
     go_wp2_with fail
     refine (tapeRuns_c _).mono ?_
     rintro e w4 ⟨rfl, x4⟩
     have HX4 := hid (Ext.trans (Ext.trans HX2.out HX3.out) x4)
     clear x4
     go_wp2
     go_ret
     exact ⟨rfl, HX4.out⟩
    ·
     have t1 : (kk : Int) * 108 < ((Tp.pack es).length : Int) := by
      have : ¬ (Tp.pack es).length ≤ kk * 108 := fun q => hnf (HFF.out.2 ⟨hfb, q⟩)
      omega
     have hw3 := HW3.out
     clear hfb
     go_wp2_with fail
     refine (tapeRuns_c _).mono ?_
     rintro e w4 ⟨rfl, x4⟩
     have HX4 := hid (Ext.trans (Ext.trans HX2.out HX3.out) x4)
     clear x4
     go_wp2
     go_ret
     exact ⟨rfl, HX4.out⟩
   ·
    obtain ⟨f1, f2⟩ := HFF.out.1 hft
    rw [f1]
    have t1 : ¬ (kk : Int) * 108 < ((Tp.pack es).length : Int) := by omega
    have hw3 := HW3.out
    have HB3 := hid hbk
    have HE3 := hid (HE2.out.ext HX3.out)
    have HBY := hid (show ∀ x ∈ es, ∀ y ∈ x, y < 256 from HE3.out.byte)
    have te := hid (tempty_c (Tp.chunks kk (Tp.pack es)) (Tp.chunks_108 kk _) (Tp.chunks_byte (Tp.pack_byte HBY.out)) (fun q => by have := congrArg List.length q; rw [Tp.chunks_len] at this; simp at this; omega) (by rw [Tp.chunks_len]; omega) (some ⟨gb, 0, none⟩) kk w3 HB3.out)
    rw [Tp.chunks_len, Tp.empty_fill (by omega) hft] at te
    clear f1 f2 hbk hgb hft
    go_wp2_with fail
    refine te.out.mono ?_
    rintro e w4 ⟨u, bk4, cp4, rfl, heo, x4⟩
    obtain ⟨a4, c4, rfl, hin, _⟩ := heo.slice
    have HI4 := hid hin.ents
    have HE4 := hid (HE3.out.ext x4)
    have HX4 := hid (Ext.trans HX3.out x4)
    have tr := hid (trows_c c4 co HI4.out HE4.out (by omega))
    rw [decide_eq_true rfl] at tr
    clear te heo hin x4 ck hw3
    go_wp2_with fail
    refine tr.out.mono ?_
    rintro e w5 ⟨rfl, x5⟩
    have HX5 := hid (Ext.trans HX4.out x5)
    clear tr x5
    go_wp2_with fail
    refine (tapeRuns_c _).mono ?_
    rintro e w6 ⟨rfl, x6⟩
    have HX6 := hid (Ext.trans (Ext.trans HX2.out HX5.out) x6)
    clear x6
    go_wp2
    go_ret
    exact ⟨rfl, HX6.out⟩
end Go.Proofs.YtbdfjiedceaoiaaGreat
namespace Go.Proofs.YtbdfjiedceaoiaaGreat.tapeBack
open Go.ChangeShapes Go.WideShapes Go.ChangeAt Go.RowKit
open Go.ChangeMaps (open_string shut_string)
set_option linter.unusedVariables false
theorem own : ownKnob Tryz.prog.godebug = none := by kernel_rfl
theorem laidOut : laidOutB Tryz.prog = true := by kernel_rfl
theorem walk (a0 : Int) (a1 : Int) (a2 : Option Addr) (len2 cap2 : Nat) (z2 : Nat → List Nat) (w : World) (w2 : NestAt w a2 len2 z2) :
  Calls Tryz.prog 4 #[.int .i64 a0, .int .i64 a1, .slice a2 len2 cap2] w fun e w' => e = .returned (.bool true) ∧ Below w.heap.size w w' :=
 (tapeBack_c a0 a1 a2 len2 cap2 z2 w w2).mono fun _ _ ⟨he, hx⟩ => ⟨he, hx.below⟩
set_option maxRecDepth 100000 in
theorem lifted (os : Os) (started : os.Started) (H : Type) (enc : TypeId × Value → H) :
  ReturnsInHanded {} Tryz.checked os 4 .any (Rows.tapeBackSpec.pre6 enc Tryz.prog Tryz.f4 Rows.tapeBackRow.domain false) (Rows.tapeBackSpec.post enc Tryz.prog Tryz.f4 false true false false) := by
 refine returnsInHanded_of_change (C := Tryz.checked) own started (by kernel_rfl) Tryz.func4
  (ChangeSpec.witness6 (enc := enc) (C := Tryz.checked) false ⟨#[], #[.int .i64 0, .int .i64 0, .slice none 0 0], []⟩ 8 (by kernel_rfl) (by kernel_rfl) (by kernel_rfl) (by kernel_rfl)) ?_
 intro W base args ds gs before hval0 hW hcnd _
 have hval : ∀ (j : Nat) t v, Tryz.f4.params[j]? = some t → args[j]? = some v → Value.okWide Tryz.prog W .any base t v := hval0
 have hW' := hW
 obtain ⟨p, q, hA0, hV, rfl, hfz, hnd⟩ := hW
 have hA : DataW.TrodAll enc Tryz.prog W 0 (fun _ => true) true Tryz.f4.params.toList args.toList ds p := hA0
 rw [Tryz.params4] at hA hval
 obtain ⟨v0, vs0, d0, ds0, p0, q0, hargs, rfl, rfl, h0, r0⟩ := trodAll_cons hA
 obtain ⟨v1, vs1, d1, ds1, p1, q1, rfl, rfl, rfl, h1, r1⟩ := trodAll_cons r0
 obtain ⟨v2, vs2, d2, ds2, p2, q2, rfl, rfl, rfl, h2, r2⟩ := trodAll_cons r1
 obtain ⟨rfl, rfl, rfl⟩ := trodAll_nil r2
 obtain rfl : args = #[v0, v1, v2] := by cases args; simp_all
 obtain ⟨rfl, rfl⟩ := trodVars_none hV
 obtain ⟨a0, rfl, rfl, rfl, w0⟩ := open_int Tryz.underlying3 (hval 0 3 v0 rfl rfl) h0
 obtain ⟨a1, rfl, rfl, rfl, w1⟩ := open_int Tryz.underlying3 (hval 1 3 v1 rfl rfl) h1
 obtain ⟨a2, len2, cap2, rfl⟩ := okWide_slice Tryz.underlying25 (hval 2 25 v2 rfl rfl)
 have k2 := h2
 have lt2 : ∀ x ∈ p2, x.block < W.heap.size := by obtain ⟨m, hm⟩ := k2; exact DataW.trod_lt m _ _ _ hm
 obtain ⟨z2, w2⟩ : ∃ z, NestAt W a2 len2 z := by
  obtain ⟨fuel, hf⟩ := h2
  rcases Go.Deep.open_int_rows Tryz.underlying25 Tryz.underlying24 Tryz.underlying5 (by kernel_rfl) (by kernel_rfl) hf with ⟨hcs, _⟩ | ⟨x, l, c, A', L', C', Z', hcs, _, hl, _, _, hrows⟩
  ·
   simp [Value.cells] at hcs
   obtain ⟨rfl, rfl, rfl⟩ := hcs
   exact ⟨fun _ => [], NestAt.nil _ _ _⟩
  ·
   simp [Value.cells] at hcs
   obtain ⟨rfl, rfl, rfl⟩ := hcs
   exact ⟨_, nest_of hl hrows⟩
 clear hA0 hval0
 refine (walk a0 a1 a2 len2 cap2 z2 W w2).mono fun e W' ⟨he, bel⟩ => ?_
 subst he
 exact ⟨_, rfl, _, _, _, [], _, [], hW', trodAll_mk1 (shut_bool Tryz.underlying4 _), (trodAll_cons_mk (shut_int Tryz.underlying3 w0) (trodAll_cons_mk (shut_int Tryz.underlying3 w1) (trodAll_cons_mk (Below.trod laidOut (by kernel_rfl) (of_decide_eq_true (by kernel_rfl)) k2 bel lt2) trodAll_mk0))), rfl, bel.frame _, fun h => by cases h⟩
theorem over : Rows.tapeBackRow.holds Tryz.pinned (OpenSpec.ofChange Rows.tapeBackSpec) :=
 OpenClaim.holds_of_wide 4 Tryz.f4 rfl rfl rfl rfl rfl rfl rfl ⟨rfl, rfl, rfl, rfl, rfl⟩ rfl rfl rfl rfl rfl (by kernel_rfl) Tryz.func4 (by kernel_rfl)
  (of_decide_eq_true (by kernel_rfl)) (by unfold Func.isWrapper; first | (rw [if_pos (by decide +kernel)]; kernel_rfl) | (rw [if_neg (by decide +kernel)]; exact ⟨rfl, rfl⟩))
  (fun os started H enc _ => lifted os started H enc)
theorem proved : Rows.TapeBackSaid := over
#print axioms proved
end Go.Proofs.YtbdfjiedceaoiaaGreat.tapeBack
