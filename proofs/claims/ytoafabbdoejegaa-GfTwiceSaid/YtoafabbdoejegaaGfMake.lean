/- gf.Make: the field that it makes has the powers of 2 and the logarithms. -/
import Derived.Test.YtoafabbdoejegaaProg
import Derived.Test.YtoafabbdoejegaaBase
import Derived.Test.YtoafabbdoejegaaGfPure
import Derived.BigQuiet
import Derived.Deep.QuietTactic
import Derived.WalkLawsBesides
import Derived.WalkSpells
namespace Go.Proofs.Ytoafabbdoejegaa
set_option linter.unusedVariables false
open Go.RowKit Go
namespace Gf
/-- What a field holds at a place, when so many powers have been laid. -/
def cellAt (i j : Nat) : Value :=
  if j < 510 then .int .u8 (if j % 255 < i then ((xs (j % 255) : Nat) : Int) else 0)
  else if j = 510 then .int .i64 (-1) else .int .i64 (if lgN (j - 510) < i then (lgN (j-510) : Int) else 0)
@[irreducible] def tb (i : Nat) : Array Value := (Array.range 766).map (cellAt i)
@[irreducible] def zc : Array Value := (List.replicate 510 (Value.int .u8 0) ++ List.replicate 256 (Value.int .i64 0)).toArray
theorem zero (w : World) : Sem.run Try.prog (zeroValue 43) w = .ok (.agg zc) w := by kernel_rfl
theorem zc_get (j : Nat) : zc[j]? = if j < 510 then some (.int .u8 0) else if j < 766 then some (.int .i64 0) else none := by
  simp only [zc, List.getElem?_toArray, List.getElem?_append, List.length_replicate, List.getElem?_replicate]
  by_cases h : j < 510
  · simp [h]
  · simp only [h, if_false]
    by_cases h2 : j < 766
    · rw [if_pos (by omega), if_pos h2]
    · rw [if_neg (by omega), if_neg h2]
theorem tb_get (i j : Nat) (h : j < 766) : (tb i)[j]? = some (cellAt i j) := by
  simp [tb, h]
theorem tb_none (i j : Nat) (h : ¬ j < 766) : (tb i)[j]? = none := by
  simp [tb]; omega
theorem tb_size (i : Nat) : (tb i).size = 766 := by simp [tb]
theorem zc_size : zc.size = 766 := by simp only [zc, List.size_toArray, List.length_append, List.length_replicate]
theorem zc_tb : zc.setIfInBounds 510 (.int .i64 (-1)) = tb 0 := by
  apply Array.ext_getElem?
  intro j
  rw [Array.getElem?_setIfInBounds, zc_get, zc_size]
  by_cases h : j < 766
  · rw [tb_get 0 j h]
    simp only [cellAt]
    by_cases h1 : j < 510
    · rw [if_neg (by omega)]; simp [h1]
    · by_cases h2 : j = 510
      · subst h2; simp
      · rw [if_neg (by omega)]; simp [h, h1, h2]
  · rw [tb_none 0 j h, if_neg (by omega), if_neg (by omega), if_neg h]
theorem tb_step (k : Nat) (hk : k < 255) :
    (((tb k).setIfInBounds k (.int .u8 (xs k))).setIfInBounds (k + 255) (.int .u8 (xs k))).setIfInBounds (510 + xs k) (.int .i64 k) = tb (k + 1) := by
  have hx := xs_bd k
  apply Array.ext_getElem?
  intro j
  simp only [Array.getElem?_setIfInBounds, Array.size_setIfInBounds, tb_size]
  by_cases h : j < 766
  · rw [tb_get k j h, tb_get (k+1) j h]
    simp only [cellAt]
    by_cases h3 : 510 + xs k = j
    · subst h3
      rw [if_pos rfl, if_pos (by omega), if_neg (by omega), if_neg (by omega), Nat.add_sub_cancel_left, lgN_xs, Nat.mod_eq_of_lt hk, if_pos (by omega)]
    · rw [if_neg h3]
      by_cases h2 : k + 255 = j
      · subst h2
        rw [if_pos rfl, if_pos (by omega), if_pos (by omega), Nat.add_mod_right, Nat.mod_eq_of_lt hk, if_pos (by omega)]
      · rw [if_neg h2]
        by_cases h1 : k = j
        · subst h1
          rw [if_pos rfl, if_pos (by omega), if_pos (by omega), Nat.mod_eq_of_lt hk, if_pos (by omega)]
        · rw [if_neg h1]
          by_cases h5 : j < 510
          · rw [if_pos h5, if_pos h5]
            by_cases h6 : j % 255 < k
            · rw [if_pos h6, if_pos (by omega)]
            · rw [if_neg h6, if_neg (by omega)]
          · rw [if_neg h5, if_neg h5]
            by_cases h7 : j = 510
            · rw [if_pos h7, if_pos h7]
            · rw [if_neg h7, if_neg h7]
              have hne : lgN (j - 510) ≠ k := by
                intro e
                have := xs_lgN (j - 510) (by omega) (by omega)
                rw [e] at this; omega
              by_cases h6 : lgN (j - 510) < k
              · rw [if_pos h6, if_pos (by omega)]
              · rw [if_neg h6, if_neg (by omega)]
  · rw [tb_none k j h, tb_none (k+1) j h, if_neg (by omega), if_neg (by omega), if_neg (by omega)]
theorem set_alloc (w : World) (c : Array Value) (E : TypeId) (n off : Nat) (v : Value) :
    ((w.alloc (.cells c E)).drewN n).setCell ⟨w.heap.size, off, none⟩ v = (w.alloc (.cells (c.setIfInBounds off v) E)).drewN n := by
  rw [← World.setCell_alloc_new]; rfl

/-- A field stands in a block. -/
def FieldAt (w : World) (b : Nat) : Prop := w.heap[b]? = some (.cells (tb 255) 43 (0, 0))
def MakePost (w : World) (e : Ending) (w' : World) : Prop := ∃ b, e = .returned (.pointer (some ⟨b, 0, none⟩)) ∧ w.heap.size ≤ b ∧ FieldAt w' b ∧ Ext w w'
theorem step_val (k : Nat) : xs (k + 1) = if 256 ≤ 2 * xs k then (2 * xs k) ^^^ 285 else 2 * xs k := rfl
end Gf
open Gf
set_option maxRecDepth 100000 in
set_option maxHeartbeats 400000 in
theorem make_c (w : World) : Calls Try.prog 10 #[] w (MakePost w) := by
  have hb := Gf.zero
  have h510 : zc[510]? = some (.int .i64 0) := by rw [zc_get]; rfl
  go_enter Try.func10, Try.ntmps10
  go_wp2
  go_loopw [2, 10] (fun x i wr => ∃ k n : Nat, k ≤ 255 ∧ i = .int .i64 k ∧ x = .int .i64 (xs k) ∧ wr = (w.alloc (.cells (tb k) 43)).drewN n) (fun _ i _ => 255 - (intOf i).toNat)
  case atStart => exact ⟨0, 0, by omega, rfl, rfl, by rw [zc_tb]; rfl⟩
  case round =>
    obtain ⟨k, n, hk, rfl, rfl, rfl⟩ := hrel
    clear hb h510
    by_cases hlt : k < 255
    · have hx := xs_bd k
      have hs := hid (step_val k)
      have ht := hid (tb_step k hlt)
      have t1 := tb_get k k (by omega)
      have t2 := tb_get k (k + 255) (by omega)
      have t3 := tb_get k (510 + xs k) (by omega)
      generalize xs k = x at *
      generalize tb k = T at *
      go_wp2
      go_region
      go_wp2
      · go_roundw
        case rel =>
          refine ⟨k + 1, n + 1, by omega, by go_num, ?_, ?_⟩
          · rw [hs.out, if_pos (by omega), show ((x : Int) * 2) = ((2 * x : Nat) : Int) by omega]
            exact congrArg _ (i64_xor_nat (2 * x) 285 (by omega) (by omega))
          · rw [set_alloc, set_alloc, set_alloc, ht.out]
        case measure => simp [intOf]; omega
      · go_roundw
        case rel =>
          refine ⟨k + 1, n + 1, by omega, by go_num, ?_, ?_⟩
          · rw [hs.out, if_neg (by omega)]; go_num
          · rw [set_alloc, set_alloc, set_alloc, ht.out]
        case measure => simp [intOf]; omega
    · obtain rfl : k = 255 := by omega
      go_wp2
      go_ret
      exact ⟨w.heap.size, rfl, Nat.le_refl _, by rw [FieldAt, heap_drewN, block_alloc], ((Only.refl _ w).alloc _).drewN n⟩
end Go.Proofs.Ytoafabbdoejegaa
