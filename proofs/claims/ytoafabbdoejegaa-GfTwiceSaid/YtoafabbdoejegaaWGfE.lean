/- The walk of GfAdds. -/
import Derived.Test.YtoafabbdoejegaaRoomy
import Derived.Test.YtoafabbdoejegaaAppend
import Derived.Test.YtoafabbdoejegaaWGfA
import Derived.Test.YtoafabbdoejegaaRunLaws
import Derived.Test.YtoafabbdoejegaaMix
namespace Go.Proofs.Ytoafabbdoejegaa
set_option linter.unusedVariables false
open Go.RowKit Gf
theorem IsRow.le {k : IntKind} {w : World} {a : Option Addr} {len cap : Nat} {zs : List Int} (h : IsRow k w a len cap zs) : len ≤ cap := by
  rcases h with ⟨_, rfl, rfl, _⟩ | ⟨_, _, h, _⟩
  · exact Nat.le_refl _
  · exact h

set_option maxRecDepth 100000 in
set_option maxHeartbeats 4000000 in
theorem gfAdds_00 (a0 : Option Addr) (len0 cap0 : Nat) (z0 : List Int) (b1 o1 : Nat) (len1 cap1 : Nat) (z1 : List Int) (X : Int) (w : World) (w0 : IsRow .u8 w a0 len0 cap0 z0) (w1 : IsRow .u8 w (some ⟨b1, o1, none⟩) len1 cap1 z1) (w2 : (Lit.int .u8 X).wf = true) (hA : len0 ≤ 40) (hB : len1 ≤ 40) :
    Calls Try.prog 8 #[.slice a0 len0 cap0, .slice (some ⟨b1, o1, none⟩) len1 cap1, .int .u8 X] w fun e w' => e = .returned (.bool true) ∧ Ext w w' := by
  have B0 := hid (w0.bytes len0 (by omega) (by omega))
  have B1 := hid (w1.bytes len1 (by omega) (by omega))
  have hc0 : len0 ≤ cap0 := w0.le
  have hc1 : len1 ≤ cap1 := w1.le
  have bX := bounds_u8 w2
  obtain ⟨x, rfl⟩ := Int.eq_ofNat_of_zero_le bX.1
  have bX := bX.2
  clear w0 w1 w2
  obtain ⟨la, hla⟩ : ∃ l, rowB z0 len0 = l := ⟨_, rfl⟩
  obtain ⟨lb, hlb⟩ : ∃ l, rowB z1 len1 = l := ⟨_, rfl⟩
  rw [hla] at B0; rw [hlb] at B1
  clear hla hlb
  have LA : Hid (la.length = len0) := hid B0.out.len
  have LB : Hid (lb.length = len1) := hid B1.out.len
  have hA' : (if (40 : Int) < (len0 : Int) then (40 : Int) else (len0 : Int)) = (len0 : Int) := by split <;> omega
  have hB' : (if (40 : Int) < (len1 : Int) then (40 : Int) else (len1 : Int)) = (len1 : Int) := by split <;> omega
  have hD0 : len0 ≤ cap0 := by omega
  have hD1 : len1 ≤ cap1 := by omega
  have hE0 : ((len0 : Int)) ≤ (cap0 : Int) := by omega
  have hE1 : ((len1 : Int)) ≤ (cap1 : Int) := by omega
  go_enter Try.func8, Try.ntmps8
  go_wp2_with fail
  refine (make_c w).mono ?_
  rintro e v1 ⟨fb, rfl, hfb, hf, h0⟩
  have hfl : fb < v1.heap.size := lt_of_block hf
  have e1 : Ext w ((v1.alloc (.cells #[] 5)).drew) := (h0.alloc _).drew
  obtain ⟨p, pc, v2, hap, hown, hon, hgp⟩ := append_fresh ((v1.alloc (.cells #[] 5)).drew) v1.heap.size block_alloc a0 len0 cap0 la (B0.out.ext e1)
  have h2 : Ext w v2 := Ext.then e1 hon (fun i hi e => by have := h0.size; omega)
  have hf2 : FieldAt v2 fb := hon.at (hf.ext (((Ext.refl v1).alloc _).drew)) (by omega)
  have hpl := owns_lt hown
  have hfp : fb ≠ p := by omega
  have hwp : w.heap.size ≤ p := by have := h0.size; omega
  have HAP := hid hown
  clear hf hown hon hfb
  go_wp2
  refine wp_region_mix [([1,2,3,4,5,7,8,9,10,11],0),([],6)] [12,13] (by kernel_rfl) (by kernel_rfl) (fun _ _ d _ _ h => by cases d <;> exact h) ?_
  simp only [opsAt, List.map_cons, List.map_nil, Array.getD_eq_getD_getElem?, List.getElem?_toArray, List.getElem?_cons_succ, List.getElem?_cons_zero, Option.getD_some]
  rw [wpMix]
  repeat (refine wpPure_step (fun K hK => ?_); go_simp; refine hK _ ?_; clear hK K)
  refine wpPure_nil ?_
  refine wpMix_loud fun K hK => ?_
  go_wp2
  rw [wpMix]
  refine wpPure_nil ?_
  refine wpMix_loud fun K hK => ?_
  go_wp2_with (refine wpList_append_run rfl _ _ _ rfl _ _ _ _ rfl rfl hap ?_)
  rw [wpMix]
  repeat (refine wpPure_step (fun K hK => ?_); go_simp; refine hK _ ?_; clear hK K)
  refine wpPure_nil ?_
  clear hA' hB'
  obtain ⟨q, qc, v3, hap2, hown2, hon2, hgq⟩ := append_fresh (v2.alloc (.cells #[] 5)) v2.heap.size block_alloc (some ⟨p, 0, none⟩) len0 pc la ((owns_bytes HAP.out B0.out.byte (by omega)).ext ((Ext.refl v2).alloc _))
  have h3 : Ext w v3 := Ext.then (h2.alloc _) hon2 (fun i hi e => by have := h2.size; omega)
  have hf3 : FieldAt v3 fb := hon2.at (hf2.ext ((Ext.refl v2).alloc _)) (by have := lt_of_block hf2; omega)
  have hp3 := owns_only (owns_only HAP.out ((Ext.refl v2).alloc _) (fun x => x)) hon2 (by omega)
  have hql := owns_lt hown2
  have HP3 := hid hp3; have HQ3 := hid hown2
  clear hap hown2 hon2 hp3 hf2 HAP h2 e1
  go_wp2_with (at_builtin; refine wpList_append_run rfl _ _ _ rfl _ _ _ _ rfl rfl hap2 ?_)
  clear hap2
  refine (roomy_c (some ⟨b1, o1, none⟩) len1 cap1 lb 7 v3 (B1.out.ext h3) (by omega) (by omega)).mono ?_
  rintro e v4 ⟨r, rfl, hr, hB, x4⟩
  have h4 : Ext w v4 := h3.trans x4
  have hf4 : FieldAt v4 fb := hf3.ext x4
  have HP4 := hid (owns_only HP3.out x4 (fun x => x))
  have HQ4 := hid (owns_only HQ3.out x4 (fun x => x))
  have HB4 := hid hB
  have hrl := lt_of_block hB
  clear HP3 HQ3 x4 hB h3 hf3
  go_wp2_with fail
  refine (add_c fb p len0 pc r 0 len1 (len1 + 80) la lb x v4 hf4 HP4.out B0.out.byte (by omega) (HB4.out.pre B1.out.byte LB.out (by omega)) (by omega) (by omega) (by omega)).mono ?_
  rintro e v5 ⟨rfl, ho5, on5⟩
  rw [Int.toNat_natCast] at ho5
  have h5 : Ext w v5 := Ext.then h4 on5 (fun i hi e => by omega)
  have hf5 : FieldAt v5 fb := on5.at hf4 (by omega)
  have HP5 := hid ho5
  have HQ5 := hid (owns_only HQ4.out on5 (by omega))
  have HB5 : Hid (Blk v5 r (lb ++ List.replicate 80 7)) := hid (on5.at HB4.out (by omega))
  clear HP4 HQ4 HB4 ho5 on5 h4 hf4
  have CQ : Hid (∀ k, k < len0 → v5.cell? ⟨q, k, none⟩ = some (.int .u8 (nth la k))) := hid (fun k hk => by
    have := (owns_bytes HQ5.out B0.out.byte (by omega)).get k hk; rwa [Nat.zero_add] at this)
  have CP : Hid (∀ k, k < len0 → v5.cell? ⟨p, k, none⟩ = some (.int .u8 (nth (Gf.addB la lb x) k))) := hid (fun k hk => by
    have := (owns_bytes HP5.out (Gf.addB_byte la lb x (by omega) B0.out.byte) (by omega)).get k hk; rwa [Nat.zero_add] at this)
  have AN : Hid (∀ k, k < len0 → nth (Gf.addB la lb x) k = if k < len1 then nth la k ^^^ Gf.mul x (nth lb k) else nth la k) := hid (fun k hk => by
    rw [Gf.addB_nth _ _ _ _ (by rw [LA.out]; exact hk), LB.out])
  have BA : Hid (∀ i, nth la i < 256) := hid (nth_lt B0.out.byte)
  have BB : Hid (∀ i, nth lb i < 256) := hid (nth_lt B1.out.byte)
  go_wp2
  go_loopw [44] (fun i wr => ∃ k : Nat, k ≤ len0 ∧ i = .int .i64 k ∧ FieldAt wr fb ∧ Ext v5 wr) (fun i _ => len0 - (intOf i).toNat)
  case atStart => exact ⟨0, by omega, rfl, hf5, Ext.refl _⟩
  case round =>
    obtain ⟨k, hk, rfl, hfr, hxr⟩ := hrel
    by_cases hlt : k < len0
    · have c1 := hxr.cell (CQ.out k hlt)
      have c2 := hxr.cell (CP.out k hlt)
      have an := AN.out k hlt
      have ba := BA.out k
      by_cases hl1 : k < len1
      · have bb := BB.out k
        have c3 := (h5.trans hxr).cell (B1.out.get k hl1)
        rw [if_pos hl1] at an
        have hm := Gf.mul_bd x (nth lb k)
        have hxx := u8_xor_nat _ _ ba hm
        rw [← an] at hxx
        have hc : bits .xor .u8 (nth la k : Int) (Gf.mul x (nth lb k) : Int) = (nth (Gf.addB la lb x) k : Int) := hxx
        have hFR := hid hfr; have hXR := hid hxr
        clear hxr hfr an hxx
        generalize nth la k = y1 at *
        generalize nth (Gf.addB la lb x) k = y2 at *
        generalize nth lb k = y3 at *
        go_wp2_with fail
        refine (mul_c fb _ _ _ hFR.out (by omega) (by omega)).mono ?_
        rintro e w' ⟨rfl, hx⟩
        simp only [Int.toNat_natCast]
        have c2' := hx.cell c2
        have hFR2 := hid (hFR.out.ext hx); have hXR2 := hid (hXR.out.trans hx)
        clear c1 c2 c3 hx
        go_wp2
        go_roundw
        case rel => exact ⟨k + 1, by omega, by go_num, hFR2.out, hXR2.out⟩
        case measure => simp [intOf]; omega
      · rw [if_neg hl1] at an
        rw [an] at c2
        have hFR := hid hfr; have hXR := hid hxr
        clear hxr hfr an
        generalize nth la k = y1 at *
        go_wp2
        go_roundw
        case rel => exact ⟨k + 1, by omega, by go_num, hFR.out, hXR.out⟩
        case measure => simp [intOf]; omega
    · obtain rfl : len0 = k := by omega
      have h6 := h5.trans hxr
      have HP6 := hid (owns_only HP5.out hxr (fun x => x))
      have HQ6 := hid (owns_only HQ5.out hxr (fun x => x))
      have HB6 : Hid (Blk wr r (lb ++ List.replicate 80 7)) := hid (HB5.out.ext hxr)
      clear hxr
      go_wp2_with fail
      refine (add_c fb p len0 pc r 0 len1 (len1 + 80) (Gf.addB la lb x) lb x wr hfr HP6.out (Gf.addB_byte la lb x (by omega) B0.out.byte) (by omega) (HB6.out.pre B1.out.byte LB.out (by omega)) (by omega) (by omega) (by omega)).mono ?_
      rintro e v7 ⟨rfl, ho7, on7⟩
      rw [Int.toNat_natCast, Gf.addB_twice] at ho7
      have h7 : Ext w v7 := Ext.then h6 on7 (fun i hi e => by omega)
      have HP7 := hid (owns_bytes ho7 B0.out.byte (by omega))
      have HQ7 := hid (owns_bytes (owns_only HQ6.out on7 (by omega)) B0.out.byte (by omega))
      have HB7 : Hid (Blk v7 r (lb ++ List.replicate 80 7)) := hid (on7.at HB6.out (by omega))
      clear HP6 HQ6 HB6 ho7 on7 h6 hfr
      go_wp2_with fail
      refine (same_c pc qc HP7.out HQ7.out).mono ?_
      rintro e v8 ⟨rfl, x8⟩
      rw [show decide (la = la) = true by simp]
      have h8 := h7.trans x8
      go_wp2_with fail
      refine (intact_c (some ⟨b1, o1, none⟩) len1 cap1 lb 7 r v8 (B1.out.ext h8) (by omega) (by omega) (HB7.out.ext x8)).mono ?_
      rintro e v9 ⟨rfl, x9⟩
      go_wp2_with fail
      refine (gfRuns_c v9).mono ?_
      rintro e v10 ⟨rfl, x10⟩
      have h10 := (h8.trans x9).trans x10
      go_wp2
      go_ret
      exact ⟨rfl, h10⟩

set_option maxRecDepth 100000 in
set_option maxHeartbeats 4000000 in
theorem gfAdds_01 (a0 : Option Addr) (len0 cap0 : Nat) (z0 : List Int) (b1 o1 : Nat) (len1 cap1 : Nat) (z1 : List Int) (X : Int) (w : World) (w0 : IsRow .u8 w a0 len0 cap0 z0) (w1 : IsRow .u8 w (some ⟨b1, o1, none⟩) len1 cap1 z1) (w2 : (Lit.int .u8 X).wf = true) (hA : len0 ≤ 40) (hB : 40 < len1) :
    Calls Try.prog 8 #[.slice a0 len0 cap0, .slice (some ⟨b1, o1, none⟩) len1 cap1, .int .u8 X] w fun e w' => e = .returned (.bool true) ∧ Ext w w' := by
  have B0 := hid (w0.bytes len0 (by omega) (by omega))
  have B1 := hid (w1.bytes 40 (by omega) (by omega))
  have hc0 : len0 ≤ cap0 := w0.le
  have hc1 : len1 ≤ cap1 := w1.le
  have bX := bounds_u8 w2
  obtain ⟨x, rfl⟩ := Int.eq_ofNat_of_zero_le bX.1
  have bX := bX.2
  clear w0 w1 w2
  obtain ⟨la, hla⟩ : ∃ l, rowB z0 len0 = l := ⟨_, rfl⟩
  obtain ⟨lb, hlb⟩ : ∃ l, rowB z1 40 = l := ⟨_, rfl⟩
  rw [hla] at B0; rw [hlb] at B1
  clear hla hlb
  have LA : Hid (la.length = len0) := hid B0.out.len
  have LB : Hid (lb.length = 40) := hid B1.out.len
  have hA' : (if (40 : Int) < (len0 : Int) then (40 : Int) else (len0 : Int)) = (len0 : Int) := by split <;> omega
  have hB' : (if (40 : Int) < (len1 : Int) then (40 : Int) else (len1 : Int)) = 40 := by split <;> omega
  have hD0 : len0 ≤ cap0 := by omega
  have hD1 : 40 ≤ cap1 := by omega
  have hE0 : ((len0 : Int)) ≤ (cap0 : Int) := by omega
  have hE1 : ((40 : Int)) ≤ (cap1 : Int) := by omega
  go_enter Try.func8, Try.ntmps8
  go_wp2_with fail
  refine (make_c w).mono ?_
  rintro e v1 ⟨fb, rfl, hfb, hf, h0⟩
  have hfl : fb < v1.heap.size := lt_of_block hf
  have e1 : Ext w ((v1.alloc (.cells #[] 5)).drew) := (h0.alloc _).drew
  obtain ⟨p, pc, v2, hap, hown, hon, hgp⟩ := append_fresh ((v1.alloc (.cells #[] 5)).drew) v1.heap.size block_alloc a0 len0 cap0 la (B0.out.ext e1)
  have h2 : Ext w v2 := Ext.then e1 hon (fun i hi e => by have := h0.size; omega)
  have hf2 : FieldAt v2 fb := hon.at (hf.ext (((Ext.refl v1).alloc _).drew)) (by omega)
  have hpl := owns_lt hown
  have hfp : fb ≠ p := by omega
  have hwp : w.heap.size ≤ p := by have := h0.size; omega
  have HAP := hid hown
  clear hf hown hon hfb
  go_wp2
  refine wp_region_mix [([1,2,3,4,5,7,8,9,10,11],0),([],6)] [12,13] (by kernel_rfl) (by kernel_rfl) (fun _ _ d _ _ h => by cases d <;> exact h) ?_
  simp only [opsAt, List.map_cons, List.map_nil, Array.getD_eq_getD_getElem?, List.getElem?_toArray, List.getElem?_cons_succ, List.getElem?_cons_zero, Option.getD_some]
  rw [wpMix]
  repeat (refine wpPure_step (fun K hK => ?_); go_simp; refine hK _ ?_; clear hK K)
  refine wpPure_nil ?_
  refine wpMix_loud fun K hK => ?_
  go_wp2
  rw [wpMix]
  refine wpPure_nil ?_
  refine wpMix_loud fun K hK => ?_
  go_wp2_with (refine wpList_append_run rfl _ _ _ rfl _ _ _ _ rfl rfl hap ?_)
  rw [wpMix]
  repeat (refine wpPure_step (fun K hK => ?_); go_simp; refine hK _ ?_; clear hK K)
  refine wpPure_nil ?_
  clear hA' hB'
  obtain ⟨q, qc, v3, hap2, hown2, hon2, hgq⟩ := append_fresh (v2.alloc (.cells #[] 5)) v2.heap.size block_alloc (some ⟨p, 0, none⟩) len0 pc la ((owns_bytes HAP.out B0.out.byte (by omega)).ext ((Ext.refl v2).alloc _))
  have h3 : Ext w v3 := Ext.then (h2.alloc _) hon2 (fun i hi e => by have := h2.size; omega)
  have hf3 : FieldAt v3 fb := hon2.at (hf2.ext ((Ext.refl v2).alloc _)) (by have := lt_of_block hf2; omega)
  have hp3 := owns_only (owns_only HAP.out ((Ext.refl v2).alloc _) (fun x => x)) hon2 (by omega)
  have hql := owns_lt hown2
  have HP3 := hid hp3; have HQ3 := hid hown2
  clear hap hown2 hon2 hp3 hf2 HAP h2 e1
  go_wp2_with (at_builtin; refine wpList_append_run rfl _ _ _ rfl _ _ _ _ rfl rfl hap2 ?_)
  clear hap2
  refine (roomy_c (some ⟨b1, o1, none⟩) 40 cap1 lb 7 v3 (B1.out.ext h3) (by omega) (by omega)).mono ?_
  rintro e v4 ⟨r, rfl, hr, hB, x4⟩
  have h4 : Ext w v4 := h3.trans x4
  have hf4 : FieldAt v4 fb := hf3.ext x4
  have HP4 := hid (owns_only HP3.out x4 (fun x => x))
  have HQ4 := hid (owns_only HQ3.out x4 (fun x => x))
  have HB4 := hid hB
  have hrl := lt_of_block hB
  clear HP3 HQ3 x4 hB h3 hf3
  go_wp2_with fail
  refine (add_c fb p len0 pc r 0 40 (40 + 80) la lb x v4 hf4 HP4.out B0.out.byte (by omega) (HB4.out.pre B1.out.byte LB.out (by omega)) (by omega) (by omega) (by omega)).mono ?_
  rintro e v5 ⟨rfl, ho5, on5⟩
  rw [Int.toNat_natCast] at ho5
  have h5 : Ext w v5 := Ext.then h4 on5 (fun i hi e => by omega)
  have hf5 : FieldAt v5 fb := on5.at hf4 (by omega)
  have HP5 := hid ho5
  have HQ5 := hid (owns_only HQ4.out on5 (by omega))
  have HB5 : Hid (Blk v5 r (lb ++ List.replicate 80 7)) := hid (on5.at HB4.out (by omega))
  clear HP4 HQ4 HB4 ho5 on5 h4 hf4
  have CQ : Hid (∀ k, k < len0 → v5.cell? ⟨q, k, none⟩ = some (.int .u8 (nth la k))) := hid (fun k hk => by
    have := (owns_bytes HQ5.out B0.out.byte (by omega)).get k hk; rwa [Nat.zero_add] at this)
  have CP : Hid (∀ k, k < len0 → v5.cell? ⟨p, k, none⟩ = some (.int .u8 (nth (Gf.addB la lb x) k))) := hid (fun k hk => by
    have := (owns_bytes HP5.out (Gf.addB_byte la lb x (by omega) B0.out.byte) (by omega)).get k hk; rwa [Nat.zero_add] at this)
  have AN : Hid (∀ k, k < len0 → nth (Gf.addB la lb x) k = if k < 40 then nth la k ^^^ Gf.mul x (nth lb k) else nth la k) := hid (fun k hk => by
    rw [Gf.addB_nth _ _ _ _ (by rw [LA.out]; exact hk), LB.out])
  have BA : Hid (∀ i, nth la i < 256) := hid (nth_lt B0.out.byte)
  have BB : Hid (∀ i, nth lb i < 256) := hid (nth_lt B1.out.byte)
  go_wp2
  go_loopw [44] (fun i wr => ∃ k : Nat, k ≤ len0 ∧ i = .int .i64 k ∧ FieldAt wr fb ∧ Ext v5 wr) (fun i _ => len0 - (intOf i).toNat)
  case atStart => exact ⟨0, by omega, rfl, hf5, Ext.refl _⟩
  case round =>
    obtain ⟨k, hk, rfl, hfr, hxr⟩ := hrel
    by_cases hlt : k < len0
    · have c1 := hxr.cell (CQ.out k hlt)
      have c2 := hxr.cell (CP.out k hlt)
      have an := AN.out k hlt
      have ba := BA.out k
      by_cases hl1 : k < 40
      · have bb := BB.out k
        have c3 := (h5.trans hxr).cell (B1.out.get k hl1)
        rw [if_pos hl1] at an
        have hm := Gf.mul_bd x (nth lb k)
        have hxx := u8_xor_nat _ _ ba hm
        rw [← an] at hxx
        have hc : bits .xor .u8 (nth la k : Int) (Gf.mul x (nth lb k) : Int) = (nth (Gf.addB la lb x) k : Int) := hxx
        have hFR := hid hfr; have hXR := hid hxr
        clear hxr hfr an hxx
        generalize nth la k = y1 at *
        generalize nth (Gf.addB la lb x) k = y2 at *
        generalize nth lb k = y3 at *
        go_wp2_with fail
        refine (mul_c fb _ _ _ hFR.out (by omega) (by omega)).mono ?_
        rintro e w' ⟨rfl, hx⟩
        simp only [Int.toNat_natCast]
        have c2' := hx.cell c2
        have hFR2 := hid (hFR.out.ext hx); have hXR2 := hid (hXR.out.trans hx)
        clear c1 c2 c3 hx
        go_wp2
        go_roundw
        case rel => exact ⟨k + 1, by omega, by go_num, hFR2.out, hXR2.out⟩
        case measure => simp [intOf]; omega
      · omega
    · obtain rfl : len0 = k := by omega
      have h6 := h5.trans hxr
      have HP6 := hid (owns_only HP5.out hxr (fun x => x))
      have HQ6 := hid (owns_only HQ5.out hxr (fun x => x))
      have HB6 : Hid (Blk wr r (lb ++ List.replicate 80 7)) := hid (HB5.out.ext hxr)
      clear hxr
      go_wp2_with fail
      refine (add_c fb p len0 pc r 0 40 (40 + 80) (Gf.addB la lb x) lb x wr hfr HP6.out (Gf.addB_byte la lb x (by omega) B0.out.byte) (by omega) (HB6.out.pre B1.out.byte LB.out (by omega)) (by omega) (by omega) (by omega)).mono ?_
      rintro e v7 ⟨rfl, ho7, on7⟩
      rw [Int.toNat_natCast, Gf.addB_twice] at ho7
      have h7 : Ext w v7 := Ext.then h6 on7 (fun i hi e => by omega)
      have HP7 := hid (owns_bytes ho7 B0.out.byte (by omega))
      have HQ7 := hid (owns_bytes (owns_only HQ6.out on7 (by omega)) B0.out.byte (by omega))
      have HB7 : Hid (Blk v7 r (lb ++ List.replicate 80 7)) := hid (on7.at HB6.out (by omega))
      clear HP6 HQ6 HB6 ho7 on7 h6 hfr
      go_wp2_with fail
      refine (same_c pc qc HP7.out HQ7.out).mono ?_
      rintro e v8 ⟨rfl, x8⟩
      rw [show decide (la = la) = true by simp]
      have h8 := h7.trans x8
      go_wp2_with fail
      refine (intact_c (some ⟨b1, o1, none⟩) 40 cap1 lb 7 r v8 (B1.out.ext h8) (by omega) (by omega) (HB7.out.ext x8)).mono ?_
      rintro e v9 ⟨rfl, x9⟩
      go_wp2_with fail
      refine (gfRuns_c v9).mono ?_
      rintro e v10 ⟨rfl, x10⟩
      have h10 := (h8.trans x9).trans x10
      go_wp2
      go_ret
      exact ⟨rfl, h10⟩

set_option maxRecDepth 100000 in
set_option maxHeartbeats 4000000 in
theorem gfAdds_02 (a0 : Option Addr) (len0 cap0 : Nat) (z0 : List Int) (a1 : Option Addr) (len1 cap1 : Nat) (z1 : List Int) (X : Int) (w : World) (w0 : IsRow .u8 w a0 len0 cap0 z0) (w1 : IsRow .u8 w a1 len1 cap1 z1) (w2 : (Lit.int .u8 X).wf = true) (hA : len0 ≤ 40) (hB : len1 = 0) :
    Calls Try.prog 8 #[.slice a0 len0 cap0, .slice a1 len1 cap1, .int .u8 X] w fun e w' => e = .returned (.bool true) ∧ Ext w w' := by
  subst hB
  have B0 := hid (w0.bytes len0 (by omega) (by omega))
  have B1 := hid (w1.bytes 0 (by omega) (by omega))
  have hc0 : len0 ≤ cap0 := w0.le
  have hc1 : 0 ≤ cap1 := w1.le
  have bX := bounds_u8 w2
  obtain ⟨x, rfl⟩ := Int.eq_ofNat_of_zero_le bX.1
  have bX := bX.2
  clear w0 w1 w2
  obtain ⟨la, hla⟩ : ∃ l, rowB z0 len0 = l := ⟨_, rfl⟩
  obtain ⟨lb, hlb⟩ : ∃ l, rowB z1 0 = l := ⟨_, rfl⟩
  rw [hla] at B0; rw [hlb] at B1
  clear hla hlb
  have LA : Hid (la.length = len0) := hid B0.out.len
  have LB : Hid (lb.length = 0) := hid B1.out.len
  have hA' : (if (40 : Int) < (len0 : Int) then (40 : Int) else (len0 : Int)) = (len0 : Int) := by split <;> omega
  have hB' : (if (40 : Int) < (0 : Int) then (40 : Int) else (0 : Int)) = 0 := by rfl
  have hD0 : len0 ≤ cap0 := by omega
  have hD1 : 0 ≤ cap1 := by omega
  have hE0 : ((len0 : Int)) ≤ (cap0 : Int) := by omega
  have hE1 : ((0 : Int)) ≤ (cap1 : Int) := by omega
  go_enter Try.func8, Try.ntmps8
  go_wp2_with fail
  refine (make_c w).mono ?_
  rintro e v1 ⟨fb, rfl, hfb, hf, h0⟩
  have hfl : fb < v1.heap.size := lt_of_block hf
  have e1 : Ext w ((v1.alloc (.cells #[] 5)).drew) := (h0.alloc _).drew
  obtain ⟨p, pc, v2, hap, hown, hon, hgp⟩ := append_fresh ((v1.alloc (.cells #[] 5)).drew) v1.heap.size block_alloc a0 len0 cap0 la (B0.out.ext e1)
  have h2 : Ext w v2 := Ext.then e1 hon (fun i hi e => by have := h0.size; omega)
  have hf2 : FieldAt v2 fb := hon.at (hf.ext (((Ext.refl v1).alloc _).drew)) (by omega)
  have hpl := owns_lt hown
  have hfp : fb ≠ p := by omega
  have hwp : w.heap.size ≤ p := by have := h0.size; omega
  have HAP := hid hown
  clear hf hown hon hfb
  go_wp2
  refine wp_region_mix [([1,2,3,4,5,7,8,9,10,11],0),([],6)] [12,13] (by kernel_rfl) (by kernel_rfl) (fun _ _ d _ _ h => by cases d <;> exact h) ?_
  simp only [opsAt, List.map_cons, List.map_nil, Array.getD_eq_getD_getElem?, List.getElem?_toArray, List.getElem?_cons_succ, List.getElem?_cons_zero, Option.getD_some]
  rw [wpMix]
  repeat (refine wpPure_step (fun K hK => ?_); go_simp; refine hK _ ?_; clear hK K)
  refine wpPure_nil ?_
  refine wpMix_loud fun K hK => ?_
  go_wp2
  rw [wpMix]
  refine wpPure_nil ?_
  refine wpMix_loud fun K hK => ?_
  go_wp2_with (refine wpList_append_run rfl _ _ _ rfl _ _ _ _ rfl rfl hap ?_)
  rw [wpMix]
  repeat (refine wpPure_step (fun K hK => ?_); go_simp; refine hK _ ?_; clear hK K)
  refine wpPure_nil ?_
  clear hA' hB'
  obtain ⟨q, qc, v3, hap2, hown2, hon2, hgq⟩ := append_fresh (v2.alloc (.cells #[] 5)) v2.heap.size block_alloc (some ⟨p, 0, none⟩) len0 pc la ((owns_bytes HAP.out B0.out.byte (by omega)).ext ((Ext.refl v2).alloc _))
  have h3 : Ext w v3 := Ext.then (h2.alloc _) hon2 (fun i hi e => by have := h2.size; omega)
  have hf3 : FieldAt v3 fb := hon2.at (hf2.ext ((Ext.refl v2).alloc _)) (by have := lt_of_block hf2; omega)
  have hp3 := owns_only (owns_only HAP.out ((Ext.refl v2).alloc _) (fun x => x)) hon2 (by omega)
  have hql := owns_lt hown2
  have HP3 := hid hp3; have HQ3 := hid hown2
  clear hap hown2 hon2 hp3 hf2 HAP h2 e1
  go_wp2_with (at_builtin; refine wpList_append_run rfl _ _ _ rfl _ _ _ _ rfl rfl hap2 ?_)
  clear hap2
  refine (roomy_c a1 0 cap1 lb 7 v3 (B1.out.ext h3) (by omega) (by omega)).mono ?_
  rintro e v4 ⟨r, rfl, hr, hB, x4⟩
  have h4 : Ext w v4 := h3.trans x4
  have hf4 : FieldAt v4 fb := hf3.ext x4
  have HP4 := hid (owns_only HP3.out x4 (fun x => x))
  have HQ4 := hid (owns_only HQ3.out x4 (fun x => x))
  have HB4 := hid hB
  have hrl := lt_of_block hB
  clear HP3 HQ3 x4 hB h3 hf3
  go_wp2_with fail
  refine (add_c fb p len0 pc r 0 0 (0 + 80) la lb x v4 hf4 HP4.out B0.out.byte (by omega) (HB4.out.pre B1.out.byte LB.out (by omega)) (by omega) (by omega) (by omega)).mono ?_
  rintro e v5 ⟨rfl, ho5, on5⟩
  rw [Int.toNat_natCast] at ho5
  have h5 : Ext w v5 := Ext.then h4 on5 (fun i hi e => by omega)
  have hf5 : FieldAt v5 fb := on5.at hf4 (by omega)
  have HP5 := hid ho5
  have HQ5 := hid (owns_only HQ4.out on5 (by omega))
  have HB5 : Hid (Blk v5 r (lb ++ List.replicate 80 7)) := hid (on5.at HB4.out (by omega))
  clear HP4 HQ4 HB4 ho5 on5 h4 hf4
  have CQ : Hid (∀ k, k < len0 → v5.cell? ⟨q, k, none⟩ = some (.int .u8 (nth la k))) := hid (fun k hk => by
    have := (owns_bytes HQ5.out B0.out.byte (by omega)).get k hk; rwa [Nat.zero_add] at this)
  have CP : Hid (∀ k, k < len0 → v5.cell? ⟨p, k, none⟩ = some (.int .u8 (nth (Gf.addB la lb x) k))) := hid (fun k hk => by
    have := (owns_bytes HP5.out (Gf.addB_byte la lb x (by omega) B0.out.byte) (by omega)).get k hk; rwa [Nat.zero_add] at this)
  have AN : Hid (∀ k, k < len0 → nth (Gf.addB la lb x) k = if k < 0 then nth la k ^^^ Gf.mul x (nth lb k) else nth la k) := hid (fun k hk => by
    rw [Gf.addB_nth _ _ _ _ (by rw [LA.out]; exact hk), LB.out])
  have BA : Hid (∀ i, nth la i < 256) := hid (nth_lt B0.out.byte)
  have BB : Hid (∀ i, nth lb i < 256) := hid (nth_lt B1.out.byte)
  go_wp2
  go_loopw [44] (fun i wr => ∃ k : Nat, k ≤ len0 ∧ i = .int .i64 k ∧ FieldAt wr fb ∧ Ext v5 wr) (fun i _ => len0 - (intOf i).toNat)
  case atStart => exact ⟨0, by omega, rfl, hf5, Ext.refl _⟩
  case round =>
    obtain ⟨k, hk, rfl, hfr, hxr⟩ := hrel
    by_cases hlt : k < len0
    · have c1 := hxr.cell (CQ.out k hlt)
      have c2 := hxr.cell (CP.out k hlt)
      have an := AN.out k hlt
      have ba := BA.out k
      by_cases hl1 : k < 0
      · omega
      · rw [if_neg hl1] at an
        rw [an] at c2
        have hFR := hid hfr; have hXR := hid hxr
        clear hxr hfr an
        generalize nth la k = y1 at *
        go_wp2
        go_roundw
        case rel => exact ⟨k + 1, by omega, by go_num, hFR.out, hXR.out⟩
        case measure => simp [intOf]; omega
    · obtain rfl : len0 = k := by omega
      have h6 := h5.trans hxr
      have HP6 := hid (owns_only HP5.out hxr (fun x => x))
      have HQ6 := hid (owns_only HQ5.out hxr (fun x => x))
      have HB6 : Hid (Blk wr r (lb ++ List.replicate 80 7)) := hid (HB5.out.ext hxr)
      clear hxr
      go_wp2_with fail
      refine (add_c fb p len0 pc r 0 0 (0 + 80) (Gf.addB la lb x) lb x wr hfr HP6.out (Gf.addB_byte la lb x (by omega) B0.out.byte) (by omega) (HB6.out.pre B1.out.byte LB.out (by omega)) (by omega) (by omega) (by omega)).mono ?_
      rintro e v7 ⟨rfl, ho7, on7⟩
      rw [Int.toNat_natCast, Gf.addB_twice] at ho7
      have h7 : Ext w v7 := Ext.then h6 on7 (fun i hi e => by omega)
      have HP7 := hid (owns_bytes ho7 B0.out.byte (by omega))
      have HQ7 := hid (owns_bytes (owns_only HQ6.out on7 (by omega)) B0.out.byte (by omega))
      have HB7 : Hid (Blk v7 r (lb ++ List.replicate 80 7)) := hid (on7.at HB6.out (by omega))
      clear HP6 HQ6 HB6 ho7 on7 h6 hfr
      go_wp2_with fail
      refine (same_c pc qc HP7.out HQ7.out).mono ?_
      rintro e v8 ⟨rfl, x8⟩
      rw [show decide (la = la) = true by simp]
      have h8 := h7.trans x8
      go_wp2_with fail
      refine (intact_c a1 0 cap1 lb 7 r v8 (B1.out.ext h8) (by omega) (by omega) (HB7.out.ext x8)).mono ?_
      rintro e v9 ⟨rfl, x9⟩
      go_wp2_with fail
      refine (gfRuns_c v9).mono ?_
      rintro e v10 ⟨rfl, x10⟩
      have h10 := (h8.trans x9).trans x10
      go_wp2
      go_ret
      exact ⟨rfl, h10⟩

set_option maxRecDepth 100000 in
set_option maxHeartbeats 4000000 in
theorem gfAdds_10 (a0 : Option Addr) (len0 cap0 : Nat) (z0 : List Int) (b1 o1 : Nat) (len1 cap1 : Nat) (z1 : List Int) (X : Int) (w : World) (w0 : IsRow .u8 w a0 len0 cap0 z0) (w1 : IsRow .u8 w (some ⟨b1, o1, none⟩) len1 cap1 z1) (w2 : (Lit.int .u8 X).wf = true) (hA : 40 < len0) (hB : len1 ≤ 40) :
    Calls Try.prog 8 #[.slice a0 len0 cap0, .slice (some ⟨b1, o1, none⟩) len1 cap1, .int .u8 X] w fun e w' => e = .returned (.bool true) ∧ Ext w w' := by
  have B0 := hid (w0.bytes 40 (by omega) (by omega))
  have B1 := hid (w1.bytes len1 (by omega) (by omega))
  have hc0 : len0 ≤ cap0 := w0.le
  have hc1 : len1 ≤ cap1 := w1.le
  have bX := bounds_u8 w2
  obtain ⟨x, rfl⟩ := Int.eq_ofNat_of_zero_le bX.1
  have bX := bX.2
  clear w0 w1 w2
  obtain ⟨la, hla⟩ : ∃ l, rowB z0 40 = l := ⟨_, rfl⟩
  obtain ⟨lb, hlb⟩ : ∃ l, rowB z1 len1 = l := ⟨_, rfl⟩
  rw [hla] at B0; rw [hlb] at B1
  clear hla hlb
  have LA : Hid (la.length = 40) := hid B0.out.len
  have LB : Hid (lb.length = len1) := hid B1.out.len
  have hA' : (if (40 : Int) < (len0 : Int) then (40 : Int) else (len0 : Int)) = 40 := by split <;> omega
  have hB' : (if (40 : Int) < (len1 : Int) then (40 : Int) else (len1 : Int)) = (len1 : Int) := by split <;> omega
  have hD0 : 40 ≤ cap0 := by omega
  have hD1 : len1 ≤ cap1 := by omega
  have hE0 : ((40 : Int)) ≤ (cap0 : Int) := by omega
  have hE1 : ((len1 : Int)) ≤ (cap1 : Int) := by omega
  go_enter Try.func8, Try.ntmps8
  go_wp2_with fail
  refine (make_c w).mono ?_
  rintro e v1 ⟨fb, rfl, hfb, hf, h0⟩
  have hfl : fb < v1.heap.size := lt_of_block hf
  have e1 : Ext w ((v1.alloc (.cells #[] 5)).drew) := (h0.alloc _).drew
  obtain ⟨p, pc, v2, hap, hown, hon, hgp⟩ := append_fresh ((v1.alloc (.cells #[] 5)).drew) v1.heap.size block_alloc a0 40 cap0 la (B0.out.ext e1)
  have h2 : Ext w v2 := Ext.then e1 hon (fun i hi e => by have := h0.size; omega)
  have hf2 : FieldAt v2 fb := hon.at (hf.ext (((Ext.refl v1).alloc _).drew)) (by omega)
  have hpl := owns_lt hown
  have hfp : fb ≠ p := by omega
  have hwp : w.heap.size ≤ p := by have := h0.size; omega
  have HAP := hid hown
  clear hf hown hon hfb
  go_wp2
  refine wp_region_mix [([1,2,3,4,5,7,8,9,10,11],0),([],6)] [12,13] (by kernel_rfl) (by kernel_rfl) (fun _ _ d _ _ h => by cases d <;> exact h) ?_
  simp only [opsAt, List.map_cons, List.map_nil, Array.getD_eq_getD_getElem?, List.getElem?_toArray, List.getElem?_cons_succ, List.getElem?_cons_zero, Option.getD_some]
  rw [wpMix]
  repeat (refine wpPure_step (fun K hK => ?_); go_simp; refine hK _ ?_; clear hK K)
  refine wpPure_nil ?_
  refine wpMix_loud fun K hK => ?_
  go_wp2
  rw [wpMix]
  refine wpPure_nil ?_
  refine wpMix_loud fun K hK => ?_
  go_wp2_with (refine wpList_append_run rfl _ _ _ rfl _ _ _ _ rfl rfl hap ?_)
  rw [wpMix]
  repeat (refine wpPure_step (fun K hK => ?_); go_simp; refine hK _ ?_; clear hK K)
  refine wpPure_nil ?_
  clear hA' hB'
  obtain ⟨q, qc, v3, hap2, hown2, hon2, hgq⟩ := append_fresh (v2.alloc (.cells #[] 5)) v2.heap.size block_alloc (some ⟨p, 0, none⟩) 40 pc la ((owns_bytes HAP.out B0.out.byte (by omega)).ext ((Ext.refl v2).alloc _))
  have h3 : Ext w v3 := Ext.then (h2.alloc _) hon2 (fun i hi e => by have := h2.size; omega)
  have hf3 : FieldAt v3 fb := hon2.at (hf2.ext ((Ext.refl v2).alloc _)) (by have := lt_of_block hf2; omega)
  have hp3 := owns_only (owns_only HAP.out ((Ext.refl v2).alloc _) (fun x => x)) hon2 (by omega)
  have hql := owns_lt hown2
  have HP3 := hid hp3; have HQ3 := hid hown2
  clear hap hown2 hon2 hp3 hf2 HAP h2 e1
  go_wp2_with (at_builtin; refine wpList_append_run rfl _ _ _ rfl _ _ _ _ rfl rfl hap2 ?_)
  clear hap2
  refine (roomy_c (some ⟨b1, o1, none⟩) len1 cap1 lb 7 v3 (B1.out.ext h3) (by omega) (by omega)).mono ?_
  rintro e v4 ⟨r, rfl, hr, hB, x4⟩
  have h4 : Ext w v4 := h3.trans x4
  have hf4 : FieldAt v4 fb := hf3.ext x4
  have HP4 := hid (owns_only HP3.out x4 (fun x => x))
  have HQ4 := hid (owns_only HQ3.out x4 (fun x => x))
  have HB4 := hid hB
  have hrl := lt_of_block hB
  clear HP3 HQ3 x4 hB h3 hf3
  go_wp2_with fail
  refine (add_c fb p 40 pc r 0 len1 (len1 + 80) la lb x v4 hf4 HP4.out B0.out.byte (by omega) (HB4.out.pre B1.out.byte LB.out (by omega)) (by omega) (by omega) (by omega)).mono ?_
  rintro e v5 ⟨rfl, ho5, on5⟩
  rw [Int.toNat_natCast] at ho5
  have h5 : Ext w v5 := Ext.then h4 on5 (fun i hi e => by omega)
  have hf5 : FieldAt v5 fb := on5.at hf4 (by omega)
  have HP5 := hid ho5
  have HQ5 := hid (owns_only HQ4.out on5 (by omega))
  have HB5 : Hid (Blk v5 r (lb ++ List.replicate 80 7)) := hid (on5.at HB4.out (by omega))
  clear HP4 HQ4 HB4 ho5 on5 h4 hf4
  have CQ : Hid (∀ k, k < 40 → v5.cell? ⟨q, k, none⟩ = some (.int .u8 (nth la k))) := hid (fun k hk => by
    have := (owns_bytes HQ5.out B0.out.byte (by omega)).get k hk; rwa [Nat.zero_add] at this)
  have CP : Hid (∀ k, k < 40 → v5.cell? ⟨p, k, none⟩ = some (.int .u8 (nth (Gf.addB la lb x) k))) := hid (fun k hk => by
    have := (owns_bytes HP5.out (Gf.addB_byte la lb x (by omega) B0.out.byte) (by omega)).get k hk; rwa [Nat.zero_add] at this)
  have AN : Hid (∀ k, k < 40 → nth (Gf.addB la lb x) k = if k < len1 then nth la k ^^^ Gf.mul x (nth lb k) else nth la k) := hid (fun k hk => by
    rw [Gf.addB_nth _ _ _ _ (by rw [LA.out]; exact hk), LB.out])
  have BA : Hid (∀ i, nth la i < 256) := hid (nth_lt B0.out.byte)
  have BB : Hid (∀ i, nth lb i < 256) := hid (nth_lt B1.out.byte)
  go_wp2
  go_loopw [44] (fun i wr => ∃ k : Nat, k ≤ 40 ∧ i = .int .i64 k ∧ FieldAt wr fb ∧ Ext v5 wr) (fun i _ => 40 - (intOf i).toNat)
  case atStart => exact ⟨0, by omega, rfl, hf5, Ext.refl _⟩
  case round =>
    obtain ⟨k, hk, rfl, hfr, hxr⟩ := hrel
    by_cases hlt : k < 40
    · have c1 := hxr.cell (CQ.out k hlt)
      have c2 := hxr.cell (CP.out k hlt)
      have an := AN.out k hlt
      have ba := BA.out k
      by_cases hl1 : k < len1
      · have bb := BB.out k
        have c3 := (h5.trans hxr).cell (B1.out.get k hl1)
        rw [if_pos hl1] at an
        have hm := Gf.mul_bd x (nth lb k)
        have hxx := u8_xor_nat _ _ ba hm
        rw [← an] at hxx
        have hc : bits .xor .u8 (nth la k : Int) (Gf.mul x (nth lb k) : Int) = (nth (Gf.addB la lb x) k : Int) := hxx
        have hFR := hid hfr; have hXR := hid hxr
        clear hxr hfr an hxx
        generalize nth la k = y1 at *
        generalize nth (Gf.addB la lb x) k = y2 at *
        generalize nth lb k = y3 at *
        go_wp2_with fail
        refine (mul_c fb _ _ _ hFR.out (by omega) (by omega)).mono ?_
        rintro e w' ⟨rfl, hx⟩
        simp only [Int.toNat_natCast]
        have c2' := hx.cell c2
        have hFR2 := hid (hFR.out.ext hx); have hXR2 := hid (hXR.out.trans hx)
        clear c1 c2 c3 hx
        go_wp2
        go_roundw
        case rel => exact ⟨k + 1, by omega, by go_num, hFR2.out, hXR2.out⟩
        case measure => simp [intOf]; omega
      · rw [if_neg hl1] at an
        rw [an] at c2
        have hFR := hid hfr; have hXR := hid hxr
        clear hxr hfr an
        generalize nth la k = y1 at *
        go_wp2
        go_roundw
        case rel => exact ⟨k + 1, by omega, by go_num, hFR.out, hXR.out⟩
        case measure => simp [intOf]; omega
    · obtain rfl : 40 = k := by omega
      have h6 := h5.trans hxr
      have HP6 := hid (owns_only HP5.out hxr (fun x => x))
      have HQ6 := hid (owns_only HQ5.out hxr (fun x => x))
      have HB6 : Hid (Blk wr r (lb ++ List.replicate 80 7)) := hid (HB5.out.ext hxr)
      clear hxr
      go_wp2_with fail
      refine (add_c fb p 40 pc r 0 len1 (len1 + 80) (Gf.addB la lb x) lb x wr hfr HP6.out (Gf.addB_byte la lb x (by omega) B0.out.byte) (by omega) (HB6.out.pre B1.out.byte LB.out (by omega)) (by omega) (by omega) (by omega)).mono ?_
      rintro e v7 ⟨rfl, ho7, on7⟩
      rw [Int.toNat_natCast, Gf.addB_twice] at ho7
      have h7 : Ext w v7 := Ext.then h6 on7 (fun i hi e => by omega)
      have HP7 := hid (owns_bytes ho7 B0.out.byte (by omega))
      have HQ7 := hid (owns_bytes (owns_only HQ6.out on7 (by omega)) B0.out.byte (by omega))
      have HB7 : Hid (Blk v7 r (lb ++ List.replicate 80 7)) := hid (on7.at HB6.out (by omega))
      clear HP6 HQ6 HB6 ho7 on7 h6 hfr
      go_wp2_with fail
      refine (same_c pc qc HP7.out HQ7.out).mono ?_
      rintro e v8 ⟨rfl, x8⟩
      rw [show decide (la = la) = true by simp]
      have h8 := h7.trans x8
      go_wp2_with fail
      refine (intact_c (some ⟨b1, o1, none⟩) len1 cap1 lb 7 r v8 (B1.out.ext h8) (by omega) (by omega) (HB7.out.ext x8)).mono ?_
      rintro e v9 ⟨rfl, x9⟩
      go_wp2_with fail
      refine (gfRuns_c v9).mono ?_
      rintro e v10 ⟨rfl, x10⟩
      have h10 := (h8.trans x9).trans x10
      go_wp2
      go_ret
      exact ⟨rfl, h10⟩

set_option maxRecDepth 100000 in
set_option maxHeartbeats 4000000 in
theorem gfAdds_11 (a0 : Option Addr) (len0 cap0 : Nat) (z0 : List Int) (b1 o1 : Nat) (len1 cap1 : Nat) (z1 : List Int) (X : Int) (w : World) (w0 : IsRow .u8 w a0 len0 cap0 z0) (w1 : IsRow .u8 w (some ⟨b1, o1, none⟩) len1 cap1 z1) (w2 : (Lit.int .u8 X).wf = true) (hA : 40 < len0) (hB : 40 < len1) :
    Calls Try.prog 8 #[.slice a0 len0 cap0, .slice (some ⟨b1, o1, none⟩) len1 cap1, .int .u8 X] w fun e w' => e = .returned (.bool true) ∧ Ext w w' := by
  have B0 := hid (w0.bytes 40 (by omega) (by omega))
  have B1 := hid (w1.bytes 40 (by omega) (by omega))
  have hc0 : len0 ≤ cap0 := w0.le
  have hc1 : len1 ≤ cap1 := w1.le
  have bX := bounds_u8 w2
  obtain ⟨x, rfl⟩ := Int.eq_ofNat_of_zero_le bX.1
  have bX := bX.2
  clear w0 w1 w2
  obtain ⟨la, hla⟩ : ∃ l, rowB z0 40 = l := ⟨_, rfl⟩
  obtain ⟨lb, hlb⟩ : ∃ l, rowB z1 40 = l := ⟨_, rfl⟩
  rw [hla] at B0; rw [hlb] at B1
  clear hla hlb
  have LA : Hid (la.length = 40) := hid B0.out.len
  have LB : Hid (lb.length = 40) := hid B1.out.len
  have hA' : (if (40 : Int) < (len0 : Int) then (40 : Int) else (len0 : Int)) = 40 := by split <;> omega
  have hB' : (if (40 : Int) < (len1 : Int) then (40 : Int) else (len1 : Int)) = 40 := by split <;> omega
  have hD0 : 40 ≤ cap0 := by omega
  have hD1 : 40 ≤ cap1 := by omega
  have hE0 : ((40 : Int)) ≤ (cap0 : Int) := by omega
  have hE1 : ((40 : Int)) ≤ (cap1 : Int) := by omega
  go_enter Try.func8, Try.ntmps8
  go_wp2_with fail
  refine (make_c w).mono ?_
  rintro e v1 ⟨fb, rfl, hfb, hf, h0⟩
  have hfl : fb < v1.heap.size := lt_of_block hf
  have e1 : Ext w ((v1.alloc (.cells #[] 5)).drew) := (h0.alloc _).drew
  obtain ⟨p, pc, v2, hap, hown, hon, hgp⟩ := append_fresh ((v1.alloc (.cells #[] 5)).drew) v1.heap.size block_alloc a0 40 cap0 la (B0.out.ext e1)
  have h2 : Ext w v2 := Ext.then e1 hon (fun i hi e => by have := h0.size; omega)
  have hf2 : FieldAt v2 fb := hon.at (hf.ext (((Ext.refl v1).alloc _).drew)) (by omega)
  have hpl := owns_lt hown
  have hfp : fb ≠ p := by omega
  have hwp : w.heap.size ≤ p := by have := h0.size; omega
  have HAP := hid hown
  clear hf hown hon hfb
  go_wp2
  refine wp_region_mix [([1,2,3,4,5,7,8,9,10,11],0),([],6)] [12,13] (by kernel_rfl) (by kernel_rfl) (fun _ _ d _ _ h => by cases d <;> exact h) ?_
  simp only [opsAt, List.map_cons, List.map_nil, Array.getD_eq_getD_getElem?, List.getElem?_toArray, List.getElem?_cons_succ, List.getElem?_cons_zero, Option.getD_some]
  rw [wpMix]
  repeat (refine wpPure_step (fun K hK => ?_); go_simp; refine hK _ ?_; clear hK K)
  refine wpPure_nil ?_
  refine wpMix_loud fun K hK => ?_
  go_wp2
  rw [wpMix]
  refine wpPure_nil ?_
  refine wpMix_loud fun K hK => ?_
  go_wp2_with (refine wpList_append_run rfl _ _ _ rfl _ _ _ _ rfl rfl hap ?_)
  rw [wpMix]
  repeat (refine wpPure_step (fun K hK => ?_); go_simp; refine hK _ ?_; clear hK K)
  refine wpPure_nil ?_
  clear hA' hB'
  obtain ⟨q, qc, v3, hap2, hown2, hon2, hgq⟩ := append_fresh (v2.alloc (.cells #[] 5)) v2.heap.size block_alloc (some ⟨p, 0, none⟩) 40 pc la ((owns_bytes HAP.out B0.out.byte (by omega)).ext ((Ext.refl v2).alloc _))
  have h3 : Ext w v3 := Ext.then (h2.alloc _) hon2 (fun i hi e => by have := h2.size; omega)
  have hf3 : FieldAt v3 fb := hon2.at (hf2.ext ((Ext.refl v2).alloc _)) (by have := lt_of_block hf2; omega)
  have hp3 := owns_only (owns_only HAP.out ((Ext.refl v2).alloc _) (fun x => x)) hon2 (by omega)
  have hql := owns_lt hown2
  have HP3 := hid hp3; have HQ3 := hid hown2
  clear hap hown2 hon2 hp3 hf2 HAP h2 e1
  go_wp2_with (at_builtin; refine wpList_append_run rfl _ _ _ rfl _ _ _ _ rfl rfl hap2 ?_)
  clear hap2
  refine (roomy_c (some ⟨b1, o1, none⟩) 40 cap1 lb 7 v3 (B1.out.ext h3) (by omega) (by omega)).mono ?_
  rintro e v4 ⟨r, rfl, hr, hB, x4⟩
  have h4 : Ext w v4 := h3.trans x4
  have hf4 : FieldAt v4 fb := hf3.ext x4
  have HP4 := hid (owns_only HP3.out x4 (fun x => x))
  have HQ4 := hid (owns_only HQ3.out x4 (fun x => x))
  have HB4 := hid hB
  have hrl := lt_of_block hB
  clear HP3 HQ3 x4 hB h3 hf3
  go_wp2_with fail
  refine (add_c fb p 40 pc r 0 40 (40 + 80) la lb x v4 hf4 HP4.out B0.out.byte (by omega) (HB4.out.pre B1.out.byte LB.out (by omega)) (by omega) (by omega) (by omega)).mono ?_
  rintro e v5 ⟨rfl, ho5, on5⟩
  rw [Int.toNat_natCast] at ho5
  have h5 : Ext w v5 := Ext.then h4 on5 (fun i hi e => by omega)
  have hf5 : FieldAt v5 fb := on5.at hf4 (by omega)
  have HP5 := hid ho5
  have HQ5 := hid (owns_only HQ4.out on5 (by omega))
  have HB5 : Hid (Blk v5 r (lb ++ List.replicate 80 7)) := hid (on5.at HB4.out (by omega))
  clear HP4 HQ4 HB4 ho5 on5 h4 hf4
  have CQ : Hid (∀ k, k < 40 → v5.cell? ⟨q, k, none⟩ = some (.int .u8 (nth la k))) := hid (fun k hk => by
    have := (owns_bytes HQ5.out B0.out.byte (by omega)).get k hk; rwa [Nat.zero_add] at this)
  have CP : Hid (∀ k, k < 40 → v5.cell? ⟨p, k, none⟩ = some (.int .u8 (nth (Gf.addB la lb x) k))) := hid (fun k hk => by
    have := (owns_bytes HP5.out (Gf.addB_byte la lb x (by omega) B0.out.byte) (by omega)).get k hk; rwa [Nat.zero_add] at this)
  have AN : Hid (∀ k, k < 40 → nth (Gf.addB la lb x) k = if k < 40 then nth la k ^^^ Gf.mul x (nth lb k) else nth la k) := hid (fun k hk => by
    rw [Gf.addB_nth _ _ _ _ (by rw [LA.out]; exact hk), LB.out])
  have BA : Hid (∀ i, nth la i < 256) := hid (nth_lt B0.out.byte)
  have BB : Hid (∀ i, nth lb i < 256) := hid (nth_lt B1.out.byte)
  go_wp2
  go_loopw [44] (fun i wr => ∃ k : Nat, k ≤ 40 ∧ i = .int .i64 k ∧ FieldAt wr fb ∧ Ext v5 wr) (fun i _ => 40 - (intOf i).toNat)
  case atStart => exact ⟨0, by omega, rfl, hf5, Ext.refl _⟩
  case round =>
    obtain ⟨k, hk, rfl, hfr, hxr⟩ := hrel
    by_cases hlt : k < 40
    · have c1 := hxr.cell (CQ.out k hlt)
      have c2 := hxr.cell (CP.out k hlt)
      have an := AN.out k hlt
      have ba := BA.out k
      by_cases hl1 : k < 40
      · have bb := BB.out k
        have c3 := (h5.trans hxr).cell (B1.out.get k hl1)
        rw [if_pos hl1] at an
        have hm := Gf.mul_bd x (nth lb k)
        have hxx := u8_xor_nat _ _ ba hm
        rw [← an] at hxx
        have hc : bits .xor .u8 (nth la k : Int) (Gf.mul x (nth lb k) : Int) = (nth (Gf.addB la lb x) k : Int) := hxx
        have hFR := hid hfr; have hXR := hid hxr
        clear hxr hfr an hxx
        generalize nth la k = y1 at *
        generalize nth (Gf.addB la lb x) k = y2 at *
        generalize nth lb k = y3 at *
        go_wp2_with fail
        refine (mul_c fb _ _ _ hFR.out (by omega) (by omega)).mono ?_
        rintro e w' ⟨rfl, hx⟩
        simp only [Int.toNat_natCast]
        have c2' := hx.cell c2
        have hFR2 := hid (hFR.out.ext hx); have hXR2 := hid (hXR.out.trans hx)
        clear c1 c2 c3 hx
        go_wp2
        go_roundw
        case rel => exact ⟨k + 1, by omega, by go_num, hFR2.out, hXR2.out⟩
        case measure => simp [intOf]; omega
      · omega
    · obtain rfl : 40 = k := by omega
      have h6 := h5.trans hxr
      have HP6 := hid (owns_only HP5.out hxr (fun x => x))
      have HQ6 := hid (owns_only HQ5.out hxr (fun x => x))
      have HB6 : Hid (Blk wr r (lb ++ List.replicate 80 7)) := hid (HB5.out.ext hxr)
      clear hxr
      go_wp2_with fail
      refine (add_c fb p 40 pc r 0 40 (40 + 80) (Gf.addB la lb x) lb x wr hfr HP6.out (Gf.addB_byte la lb x (by omega) B0.out.byte) (by omega) (HB6.out.pre B1.out.byte LB.out (by omega)) (by omega) (by omega) (by omega)).mono ?_
      rintro e v7 ⟨rfl, ho7, on7⟩
      rw [Int.toNat_natCast, Gf.addB_twice] at ho7
      have h7 : Ext w v7 := Ext.then h6 on7 (fun i hi e => by omega)
      have HP7 := hid (owns_bytes ho7 B0.out.byte (by omega))
      have HQ7 := hid (owns_bytes (owns_only HQ6.out on7 (by omega)) B0.out.byte (by omega))
      have HB7 : Hid (Blk v7 r (lb ++ List.replicate 80 7)) := hid (on7.at HB6.out (by omega))
      clear HP6 HQ6 HB6 ho7 on7 h6 hfr
      go_wp2_with fail
      refine (same_c pc qc HP7.out HQ7.out).mono ?_
      rintro e v8 ⟨rfl, x8⟩
      rw [show decide (la = la) = true by simp]
      have h8 := h7.trans x8
      go_wp2_with fail
      refine (intact_c (some ⟨b1, o1, none⟩) 40 cap1 lb 7 r v8 (B1.out.ext h8) (by omega) (by omega) (HB7.out.ext x8)).mono ?_
      rintro e v9 ⟨rfl, x9⟩
      go_wp2_with fail
      refine (gfRuns_c v9).mono ?_
      rintro e v10 ⟨rfl, x10⟩
      have h10 := (h8.trans x9).trans x10
      go_wp2
      go_ret
      exact ⟨rfl, h10⟩

set_option maxRecDepth 100000 in
set_option maxHeartbeats 4000000 in
theorem gfAdds_12 (a0 : Option Addr) (len0 cap0 : Nat) (z0 : List Int) (a1 : Option Addr) (len1 cap1 : Nat) (z1 : List Int) (X : Int) (w : World) (w0 : IsRow .u8 w a0 len0 cap0 z0) (w1 : IsRow .u8 w a1 len1 cap1 z1) (w2 : (Lit.int .u8 X).wf = true) (hA : 40 < len0) (hB : len1 = 0) :
    Calls Try.prog 8 #[.slice a0 len0 cap0, .slice a1 len1 cap1, .int .u8 X] w fun e w' => e = .returned (.bool true) ∧ Ext w w' := by
  subst hB
  have B0 := hid (w0.bytes 40 (by omega) (by omega))
  have B1 := hid (w1.bytes 0 (by omega) (by omega))
  have hc0 : len0 ≤ cap0 := w0.le
  have hc1 : 0 ≤ cap1 := w1.le
  have bX := bounds_u8 w2
  obtain ⟨x, rfl⟩ := Int.eq_ofNat_of_zero_le bX.1
  have bX := bX.2
  clear w0 w1 w2
  obtain ⟨la, hla⟩ : ∃ l, rowB z0 40 = l := ⟨_, rfl⟩
  obtain ⟨lb, hlb⟩ : ∃ l, rowB z1 0 = l := ⟨_, rfl⟩
  rw [hla] at B0; rw [hlb] at B1
  clear hla hlb
  have LA : Hid (la.length = 40) := hid B0.out.len
  have LB : Hid (lb.length = 0) := hid B1.out.len
  have hA' : (if (40 : Int) < (len0 : Int) then (40 : Int) else (len0 : Int)) = 40 := by split <;> omega
  have hB' : (if (40 : Int) < (0 : Int) then (40 : Int) else (0 : Int)) = 0 := by rfl
  have hD0 : 40 ≤ cap0 := by omega
  have hD1 : 0 ≤ cap1 := by omega
  have hE0 : ((40 : Int)) ≤ (cap0 : Int) := by omega
  have hE1 : ((0 : Int)) ≤ (cap1 : Int) := by omega
  go_enter Try.func8, Try.ntmps8
  go_wp2_with fail
  refine (make_c w).mono ?_
  rintro e v1 ⟨fb, rfl, hfb, hf, h0⟩
  have hfl : fb < v1.heap.size := lt_of_block hf
  have e1 : Ext w ((v1.alloc (.cells #[] 5)).drew) := (h0.alloc _).drew
  obtain ⟨p, pc, v2, hap, hown, hon, hgp⟩ := append_fresh ((v1.alloc (.cells #[] 5)).drew) v1.heap.size block_alloc a0 40 cap0 la (B0.out.ext e1)
  have h2 : Ext w v2 := Ext.then e1 hon (fun i hi e => by have := h0.size; omega)
  have hf2 : FieldAt v2 fb := hon.at (hf.ext (((Ext.refl v1).alloc _).drew)) (by omega)
  have hpl := owns_lt hown
  have hfp : fb ≠ p := by omega
  have hwp : w.heap.size ≤ p := by have := h0.size; omega
  have HAP := hid hown
  clear hf hown hon hfb
  go_wp2
  refine wp_region_mix [([1,2,3,4,5,7,8,9,10,11],0),([],6)] [12,13] (by kernel_rfl) (by kernel_rfl) (fun _ _ d _ _ h => by cases d <;> exact h) ?_
  simp only [opsAt, List.map_cons, List.map_nil, Array.getD_eq_getD_getElem?, List.getElem?_toArray, List.getElem?_cons_succ, List.getElem?_cons_zero, Option.getD_some]
  rw [wpMix]
  repeat (refine wpPure_step (fun K hK => ?_); go_simp; refine hK _ ?_; clear hK K)
  refine wpPure_nil ?_
  refine wpMix_loud fun K hK => ?_
  go_wp2
  rw [wpMix]
  refine wpPure_nil ?_
  refine wpMix_loud fun K hK => ?_
  go_wp2_with (refine wpList_append_run rfl _ _ _ rfl _ _ _ _ rfl rfl hap ?_)
  rw [wpMix]
  repeat (refine wpPure_step (fun K hK => ?_); go_simp; refine hK _ ?_; clear hK K)
  refine wpPure_nil ?_
  clear hA' hB'
  obtain ⟨q, qc, v3, hap2, hown2, hon2, hgq⟩ := append_fresh (v2.alloc (.cells #[] 5)) v2.heap.size block_alloc (some ⟨p, 0, none⟩) 40 pc la ((owns_bytes HAP.out B0.out.byte (by omega)).ext ((Ext.refl v2).alloc _))
  have h3 : Ext w v3 := Ext.then (h2.alloc _) hon2 (fun i hi e => by have := h2.size; omega)
  have hf3 : FieldAt v3 fb := hon2.at (hf2.ext ((Ext.refl v2).alloc _)) (by have := lt_of_block hf2; omega)
  have hp3 := owns_only (owns_only HAP.out ((Ext.refl v2).alloc _) (fun x => x)) hon2 (by omega)
  have hql := owns_lt hown2
  have HP3 := hid hp3; have HQ3 := hid hown2
  clear hap hown2 hon2 hp3 hf2 HAP h2 e1
  go_wp2_with (at_builtin; refine wpList_append_run rfl _ _ _ rfl _ _ _ _ rfl rfl hap2 ?_)
  clear hap2
  refine (roomy_c a1 0 cap1 lb 7 v3 (B1.out.ext h3) (by omega) (by omega)).mono ?_
  rintro e v4 ⟨r, rfl, hr, hB, x4⟩
  have h4 : Ext w v4 := h3.trans x4
  have hf4 : FieldAt v4 fb := hf3.ext x4
  have HP4 := hid (owns_only HP3.out x4 (fun x => x))
  have HQ4 := hid (owns_only HQ3.out x4 (fun x => x))
  have HB4 := hid hB
  have hrl := lt_of_block hB
  clear HP3 HQ3 x4 hB h3 hf3
  go_wp2_with fail
  refine (add_c fb p 40 pc r 0 0 (0 + 80) la lb x v4 hf4 HP4.out B0.out.byte (by omega) (HB4.out.pre B1.out.byte LB.out (by omega)) (by omega) (by omega) (by omega)).mono ?_
  rintro e v5 ⟨rfl, ho5, on5⟩
  rw [Int.toNat_natCast] at ho5
  have h5 : Ext w v5 := Ext.then h4 on5 (fun i hi e => by omega)
  have hf5 : FieldAt v5 fb := on5.at hf4 (by omega)
  have HP5 := hid ho5
  have HQ5 := hid (owns_only HQ4.out on5 (by omega))
  have HB5 : Hid (Blk v5 r (lb ++ List.replicate 80 7)) := hid (on5.at HB4.out (by omega))
  clear HP4 HQ4 HB4 ho5 on5 h4 hf4
  have CQ : Hid (∀ k, k < 40 → v5.cell? ⟨q, k, none⟩ = some (.int .u8 (nth la k))) := hid (fun k hk => by
    have := (owns_bytes HQ5.out B0.out.byte (by omega)).get k hk; rwa [Nat.zero_add] at this)
  have CP : Hid (∀ k, k < 40 → v5.cell? ⟨p, k, none⟩ = some (.int .u8 (nth (Gf.addB la lb x) k))) := hid (fun k hk => by
    have := (owns_bytes HP5.out (Gf.addB_byte la lb x (by omega) B0.out.byte) (by omega)).get k hk; rwa [Nat.zero_add] at this)
  have AN : Hid (∀ k, k < 40 → nth (Gf.addB la lb x) k = if k < 0 then nth la k ^^^ Gf.mul x (nth lb k) else nth la k) := hid (fun k hk => by
    rw [Gf.addB_nth _ _ _ _ (by rw [LA.out]; exact hk), LB.out])
  have BA : Hid (∀ i, nth la i < 256) := hid (nth_lt B0.out.byte)
  have BB : Hid (∀ i, nth lb i < 256) := hid (nth_lt B1.out.byte)
  go_wp2
  go_loopw [44] (fun i wr => ∃ k : Nat, k ≤ 40 ∧ i = .int .i64 k ∧ FieldAt wr fb ∧ Ext v5 wr) (fun i _ => 40 - (intOf i).toNat)
  case atStart => exact ⟨0, by omega, rfl, hf5, Ext.refl _⟩
  case round =>
    obtain ⟨k, hk, rfl, hfr, hxr⟩ := hrel
    by_cases hlt : k < 40
    · have c1 := hxr.cell (CQ.out k hlt)
      have c2 := hxr.cell (CP.out k hlt)
      have an := AN.out k hlt
      have ba := BA.out k
      by_cases hl1 : k < 0
      · omega
      · rw [if_neg hl1] at an
        rw [an] at c2
        have hFR := hid hfr; have hXR := hid hxr
        clear hxr hfr an
        generalize nth la k = y1 at *
        go_wp2
        go_roundw
        case rel => exact ⟨k + 1, by omega, by go_num, hFR.out, hXR.out⟩
        case measure => simp [intOf]; omega
    · obtain rfl : 40 = k := by omega
      have h6 := h5.trans hxr
      have HP6 := hid (owns_only HP5.out hxr (fun x => x))
      have HQ6 := hid (owns_only HQ5.out hxr (fun x => x))
      have HB6 : Hid (Blk wr r (lb ++ List.replicate 80 7)) := hid (HB5.out.ext hxr)
      clear hxr
      go_wp2_with fail
      refine (add_c fb p 40 pc r 0 0 (0 + 80) (Gf.addB la lb x) lb x wr hfr HP6.out (Gf.addB_byte la lb x (by omega) B0.out.byte) (by omega) (HB6.out.pre B1.out.byte LB.out (by omega)) (by omega) (by omega) (by omega)).mono ?_
      rintro e v7 ⟨rfl, ho7, on7⟩
      rw [Int.toNat_natCast, Gf.addB_twice] at ho7
      have h7 : Ext w v7 := Ext.then h6 on7 (fun i hi e => by omega)
      have HP7 := hid (owns_bytes ho7 B0.out.byte (by omega))
      have HQ7 := hid (owns_bytes (owns_only HQ6.out on7 (by omega)) B0.out.byte (by omega))
      have HB7 : Hid (Blk v7 r (lb ++ List.replicate 80 7)) := hid (on7.at HB6.out (by omega))
      clear HP6 HQ6 HB6 ho7 on7 h6 hfr
      go_wp2_with fail
      refine (same_c pc qc HP7.out HQ7.out).mono ?_
      rintro e v8 ⟨rfl, x8⟩
      rw [show decide (la = la) = true by simp]
      have h8 := h7.trans x8
      go_wp2_with fail
      refine (intact_c a1 0 cap1 lb 7 r v8 (B1.out.ext h8) (by omega) (by omega) (HB7.out.ext x8)).mono ?_
      rintro e v9 ⟨rfl, x9⟩
      go_wp2_with fail
      refine (gfRuns_c v9).mono ?_
      rintro e v10 ⟨rfl, x10⟩
      have h10 := (h8.trans x9).trans x10
      go_wp2
      go_ret
      exact ⟨rfl, h10⟩

theorem gfAdds_c (a0 : Option Addr) (len0 cap0 : Nat) (z0 : List Int) (a1 : Option Addr) (len1 cap1 : Nat) (z1 : List Int) (X : Int) (w : World) (h0 : IsRow .u8 w a0 len0 cap0 z0) (h1 : IsRow .u8 w a1 len1 cap1 z1) (h2 : (Lit.int .u8 X).wf = true) :
    Calls Try.prog 8 #[.slice a0 len0 cap0, .slice a1 len1 cap1, .int .u8 X] w fun e w' => e = .returned (.bool true) ∧ Ext w w' := by
  by_cases hz : len1 = 0
  · by_cases hA : len0 ≤ 40
    · exact gfAdds_02 a0 len0 cap0 z0 a1 len1 cap1 z1 X w h0 h1 h2 hA hz
    · exact gfAdds_12 a0 len0 cap0 z0 a1 len1 cap1 z1 X w h0 h1 h2 (by omega) hz
  · have hb := h1.bytes 1 (by omega) (by omega)
    rcases hb.cells with h | ⟨b1, o1, rfl, _⟩
    · omega
    · by_cases hA : len0 ≤ 40
      · by_cases hB : len1 ≤ 40
        · exact gfAdds_00 a0 len0 cap0 z0 b1 o1 len1 cap1 z1 X w h0 h1 h2 hA hB
        · exact gfAdds_01 a0 len0 cap0 z0 b1 o1 len1 cap1 z1 X w h0 h1 h2 hA (by omega)
      · by_cases hB : len1 ≤ 40
        · exact gfAdds_10 a0 len0 cap0 z0 b1 o1 len1 cap1 z1 X w h0 h1 h2 (by omega) hB
        · exact gfAdds_11 a0 len0 cap0 z0 b1 o1 len1 cap1 z1 X w h0 h1 h2 (by omega) (by omega)
end Go.Proofs.Ytoafabbdoejegaa
