/- crc.Make, On and Sum: the sums of bytes. -/
import Derived.Test.YtkmgdglmlmodmaaDoorProg
import Derived.Test.YtkmgdglmlmodmaaDoorBase
import Derived.Test.YtkmgdglmlmodmaaDoorCrcPure
import Derived.Test.YtkmgdglmlmodmaaDoorBytes
import Derived.BigQuiet
import Derived.Deep.QuietTactic
import Derived.WalkLawsBesides
import Derived.WalkSpells
namespace Go.Proofs.YtkmgdglmlmodmaaDoor
set_option linter.unusedVariables false
open Go.RowKit Go
namespace Crc
@[irreducible] def tb (k : Nat) : Array Value := (Array.range 256).map fun i => .int .u32 (if i < k then (T i : Int) else 0)
@[irreducible] def zc : Array Value := (List.replicate 256 (Value.int .u32 0)).toArray
theorem zero (w : World) : Sem.run Tryd.prog (zeroValue 154) w = .ok (.agg zc) w := by kernel_rfl
theorem tb_get (k i : Nat) (h : i < 256) : (tb k)[i]? = some (.int .u32 (if i < k then (T i : Int) else 0)) := by simp [tb, h]
theorem tb_none (k i : Nat) (h : ¬ i < 256) : (tb k)[i]? = none := by simp [tb]; omega
theorem tb_size (k : Nat) : (tb k).size = 256 := by simp [tb]
theorem zc_tb : zc = tb 0 := by
  apply Array.ext_getElem?
  intro i
  by_cases h : i < 256
  · rw [tb_get 0 i h]; simp only [zc, List.getElem?_toArray, List.getElem?_replicate]; rw [if_pos h, if_neg (by omega)]
  · rw [tb_none 0 i h]; simp only [zc, List.getElem?_toArray, List.getElem?_replicate]; rw [if_neg h]
theorem tb_step (k : Nat) (hk : k < 256) : (tb k).setIfInBounds k (.int .u32 (T k)) = tb (k + 1) := by
  apply Array.ext_getElem?
  intro i
  rw [Array.getElem?_setIfInBounds, tb_size]
  by_cases h : i < 256
  · rw [tb_get k i h, tb_get (k + 1) i h]
    by_cases e : k = i
    · subst e; rw [if_pos rfl, if_pos hk, if_pos (by omega)]
    · rw [if_neg e]
      by_cases h2 : i < k
      · rw [if_pos h2, if_pos (by omega)]
      · rw [if_neg h2, if_neg (by omega)]
  · rw [tb_none k i h, tb_none (k + 1) i h, if_neg (by omega)]
def TableAt (w : World) (b : Nat) : Prop := w.heap[b]? = some (.cells (tb 256) 154 (0, 0))
def MakePost (w : World) (e : Ending) (w' : World) : Prop := ∃ b, e = .returned (.pointer (some ⟨b, 0, none⟩)) ∧ w.heap.size ≤ b ∧ TableAt w' b ∧ Ext w w'
theorem TableAt.ext {w w' : World} {b : Nat} (h : TableAt w b) (e : Ext w w') : TableAt w' b := e.at h
theorem TableAt.cell {w : World} {b : Nat} (h : TableAt w b) (i : Nat) (hi : i < 256) : w.cell? ⟨b, i, none⟩ = some (.int .u32 (T i)) := by
  rw [cell_at h, tb_get 256 i hi, if_pos hi]
end Crc
theorem u32_and1 (c : Nat) (h : c < 4294967296) : bits .and .u32 (c : Int) 1 = ((c % 2 : Nat) : Int) := by
  have := u32_and_nat c 1 h (by omega)
  rw [show (1 : Int) = ((1 : Nat) : Int) by rfl, this, Nat.and_one_is_mod]

set_option maxRecDepth 100000 in
set_option maxHeartbeats 1000000 in
theorem crcMake_c (w : World) : Calls Tryd.prog 65 #[] w (Crc.MakePost w) := by
  have hb := Crc.zero
  go_enter Tryd.func65, Tryd.ntmps65
  go_wp2
  go_loopw [7] (fun i wr => ∃ k : Nat, k ≤ 256 ∧ i = .int .i64 k ∧ wr = w.alloc (.cells (Crc.tb k) 154)) (fun i _ => 256 - (intOf i).toNat)
  case atStart => exact ⟨0, by omega, rfl, by rw [Crc.zc_tb]⟩
  case round =>
    obtain ⟨k, hk, rfl, rfl⟩ := hrel
    clear hb
    by_cases hlt : k < 256
    · have hs := hid (Crc.tb_step k hlt)
      have t1 := Crc.tb_get k k hlt
      rw [if_neg (by omega)] at t1
      obtain ⟨Z, hZ⟩ : ∃ Z, Crc.tb k = Z := ⟨_, rfl⟩
      rw [hZ] at hs t1
      rw [hZ]
      clear hZ
      go_wp2
      go_loop [3, 12] (fun c i => ∃ j : Nat, j ≤ 8 ∧ i = .int .i64 j ∧ c = .int .u32 (Crc.cstn j k : Nat)) (fun _ i => 8 - (intOf i).toNat)
      case atStart => exact ⟨0, by omega, rfl, rfl⟩
      case round =>
        obtain ⟨j, hj, rfl, rfl⟩ := hrel
        by_cases hj8 : j < 8
        · have hcb := Crc.cstn_bd j k (by omega)
          have hS : Hid (Crc.cstn (j + 1) k = Crc.cstep (Crc.cstn j k)) := hid rfl
          obtain ⟨c, hc⟩ : ∃ c, Crc.cstn j k = c := ⟨_, rfl⟩
          rw [hc] at hcb hS
          rw [hc]
          have hand := u32_and1 c hcb
          rcases Nat.mod_two_eq_zero_or_one c with h2 | h2
          · rw [h2] at hand
            have hand : bits .and .u32 (c : Int) 1 = 0 := hand
            have HC : Hid (Crc.cstep c = c / 2) := hid (by unfold Crc.cstep; rw [if_neg (by omega)])
            clear h2 hc
            go_wp2
            go_round
            case rel => exact ⟨j + 1, by omega, by go_num, by rw [hS.out, HC.out]; go_num⟩
            case measure => simp [intOf]; omega
          · rw [h2] at hand
            have hand : bits .and .u32 (c : Int) 1 = 1 := hand
            have HC : Hid (Crc.cstep c = (c / 2) ^^^ 2197175160) := hid (by unfold Crc.cstep Crc.poly; rw [if_pos h2])
            have hxr : Hid (bits .xor .u32 ((c / 2 : Nat) : Int) ((2197175160 : Nat) : Int) = (((c / 2) ^^^ 2197175160 : Nat) : Int)) := hid (u32_xor_nat (c / 2) 2197175160 (by omega) (by omega))
            clear h2 hc
            go_wp2
            go_round
            case rel => 
              refine ⟨j + 1, by omega, by go_num, ?_⟩
              rw [hS.out, HC.out, show ((c : Int) / 2) = ((c / 2 : Nat) : Int) by omega]; exact congrArg _ hxr.out
            case measure => simp [intOf]; omega
        · obtain rfl : 8 = j := by omega
          have hT : Hid ((Crc.cstn 8 k : Nat) = Crc.T k) := hid rfl
          go_wp2
          go_roundw
          case rel => exact ⟨k + 1, by omega, by go_num, by rw [hT.out, hs.out]⟩
          case measure => simp [intOf]; omega
    · obtain rfl : 256 = k := by omega
      go_wp2
      go_ret
      exact ⟨w.heap.size, rfl, Nat.le_refl _, by rw [Crc.TableAt, block_alloc], (Ext.refl w).alloc _⟩

theorem ret_int' {k : IntKind} {a b : Int} (h : a = b) : Ending.returned (.int k a) = .returned (.int k b) := by rw [h]
theorem neg_xor (C : Nat) (h : C < 4294967296) : 4294967295 ^^^ C = Crc.neg C := by
  apply Nat.eq_of_testBit_eq; intro i
  unfold Crc.neg
  rw [Nat.testBit_xor, show (4294967295 : Nat) = 2 ^ 32 - 1 by rfl, Nat.testBit_two_pow_sub_one, show (2 ^ 32 - 1 - C : Nat) = 2 ^ 32 - (C + 1) by omega, Nat.testBit_two_pow_sub_succ (by omega)]
  by_cases h1 : i < 32
  · simp [h1]
  · have h32 : 2 ^ 32 ≤ 2 ^ i := Nat.pow_le_pow_right (by decide) (Nat.not_lt.1 h1)
    have : C.testBit i = false := Nat.testBit_lt_two_pow (Nat.lt_of_lt_of_le (show C < 2 ^ 32 from h) h32)
    simp [h1, this]
theorem u32_neg (C : Nat) (h : C < 4294967296) : bits .xor .u32 IntKind.u32.max (C : Int) = (Crc.neg C : Nat) := by
  rw [← neg_xor C h]; exact u32_xor_nat 4294967295 C (by omega) h
theorem Crc.neg_bd (C : Nat) : Crc.neg C < 4294967296 := by unfold Crc.neg; omega
theorem Crc.onL_snoc (c : Nat) (l : List Nat) (x : Nat) : Crc.onL c (l ++ [x]) = Crc.upd (Crc.onL c l) x := by
  unfold Crc.onL; rw [List.foldl_append]; rfl
theorem take_snoc_nth (l : List Nat) (k : Nat) (h : k < l.length) : l.take (k + 1) = l.take k ++ [nth l k] := by
  rw [nth_eq h, List.take_succ_eq_append_getElem h]

set_option maxRecDepth 100000 in
set_option maxHeartbeats 1000000 in
theorem crcOn_some (b n c b' off' : Nat) (C : Nat) (l : List Nat) (w : World) (ht : Crc.TableAt w b) (hC : C < 4294967296) (hl : l.length = n) (hn : n ≤ 140737488355328) (hb : ∀ x ∈ l, x < 256)
    (hc : ∀ i, i < n → w.cell? ⟨b', off' + i, none⟩ = some (.int .u8 (nth l i))) :
    Calls Tryd.prog 94 #[.pointer (some ⟨b, 0, none⟩), .int .u32 C, .slice (some ⟨b', off', none⟩) n c] w fun e w' => e = .returned (.int .u32 (Crc.neg (Crc.onL (Crc.neg C) l) : Nat)) ∧ w = w' := by
  have HT := hid ht; have HC := hid hc; have HB := hid hb; have HL := hid hl
  clear ht hc hb hl
  go_enter Tryd.func94, Tryd.ntmps94
  go_wp2
  go_loop [1, 13] (fun c i => ∃ k : Nat, k ≤ n ∧ i = .int .i64 k ∧ c = .int .u32 (Crc.onL (Crc.neg C) (l.take k) : Nat)) (fun _ i => n - (intOf i).toNat)
  case atStart =>
    exact ⟨0, by omega, rfl, by rw [u32_neg C hC]; rfl⟩
  case round =>
    obtain ⟨k, hk, rfl, rfl⟩ := hrel
    by_cases hlt : k < n
    · have c1 := HC.out k hlt
      have xb := nth_lt HB.out k
      have cb := Crc.onL_bd (Crc.neg C) (l.take k) (by unfold Crc.neg; omega) (fun y hy => HB.out y (List.mem_of_mem_take hy))
      have HS : Hid (Crc.onL (Crc.neg C) (l.take (k + 1)) = Crc.upd (Crc.onL (Crc.neg C) (l.take k)) (nth l k)) := hid (by rw [take_snoc_nth l k (by rw [HL.out]; exact hlt), Crc.onL_snoc])
      obtain ⟨q, hq⟩ : ∃ q, Crc.onL (Crc.neg C) (l.take k) = q := ⟨_, rfl⟩
      obtain ⟨x, hx⟩ : ∃ x, nth l k = x := ⟨_, rfl⟩
      rw [hq] at cb HS
      rw [hx] at c1 xb HS
      rw [hq]
      clear hq hx
      have hz := Crc.xor8 (q % 256) x (Nat.mod_lt _ (by omega)) xb
      have h1 : bits .xor .u8 ((q : Int) % 256) (x : Int) = (((q % 256) ^^^ x : Nat) : Int) := by
        rw [show ((q : Int) % 256) = ((q % 256 : Nat) : Int) by omega]; exact u8_xor_nat _ _ (Nat.mod_lt _ (by omega)) xb
      obtain ⟨z, hze⟩ : ∃ z, (q % 256) ^^^ x = z := ⟨_, rfl⟩
      rw [hze] at hz h1
      have c2 := HT.out.cell z hz
      have tb := Crc.T_bd z hz
      obtain ⟨t, hte⟩ : ∃ t, Crc.T z = t := ⟨_, rfl⟩
      rw [hte] at c2 tb
      have HU : Hid (Crc.upd q x = t ^^^ (q / 256)) := hid (by unfold Crc.upd; rw [hze, hte])
      have HX : Hid (bits .xor .u32 (t : Int) ((q / 256 : Nat) : Int) = ((t ^^^ (q / 256) : Nat) : Int)) := hid (u32_xor_nat _ _ tb (by omega))
      clear hze hte
      go_wp2
      go_round
      case rel => exact ⟨k + 1, by omega, by go_num, by rw [HS.out, HU.out, show ((q : Int) / 256) = ((q / 256 : Nat) : Int) by omega, HX.out]⟩
      case measure => simp [intOf]; omega
    · obtain rfl : n = k := by omega
      have HE : Hid (Crc.onL (Crc.neg C) (l.take n) = Crc.onL (Crc.neg C) l) := hid (by rw [List.take_of_length_le (by rw [HL.out]; exact Nat.le_refl _)])
      rw [HE.out]
      have hq : Crc.onL (Crc.neg C) l < 4294967296 := Crc.onL_bd _ _ (Crc.neg_bd C) HB.out
      have HN := hid (u32_neg _ hq)
      clear HE
      go_wp2
      go_ret
      exact ⟨ret_int' HN.out, rfl⟩

theorem crcOn_c (b n c : Nat) (a : Option Addr) (C : Nat) (l : List Nat) (w : World) (ht : Crc.TableAt w b) (hC : C < 4294967296) (h : BytesAt w a n l) :
    Calls Tryd.prog 94 #[.pointer (some ⟨b, 0, none⟩), .int .u32 C, .slice a n c] w fun e w' => e = .returned (.int .u32 (Crc.neg (Crc.onL (Crc.neg C) l) : Nat)) ∧ w = w' := by
  rcases h.cells with h0 | ⟨b', off', rfl, hc⟩
  · subst h0
    obtain rfl := List.length_eq_zero_iff.1 h.len
    have h1 := u32_neg C hC
    have h2 := u32_neg _ (Crc.neg_bd C)
    have H2 : Hid (Crc.onL (Crc.neg C) [] = Crc.neg C) := hid rfl
    rw [H2.out]
    clear ht h H2
    go_enter Tryd.func94, Tryd.ntmps94
    go_wp2
    go_loop [1, 13] (fun c i => i = .int .i64 0 ∧ c = .int .u32 (Crc.neg C : Nat)) (fun _ _ => 0)
    case atStart => exact ⟨rfl, by first | rfl | rw [h1]⟩
    case round =>
      obtain ⟨rfl, rfl⟩ := hrel
      go_wp2
      go_ret
      exact ⟨by first | rfl | rw [h2], rfl⟩
  · exact crcOn_some b n c b' off' C l w ht hC h.len h.small h.byte hc

theorem crcSum_c (b n c : Nat) (a : Option Addr) (l : List Nat) (w : World) (ht : Crc.TableAt w b) (h : BytesAt w a n l) :
    Calls Tryd.prog 66 #[.pointer (some ⟨b, 0, none⟩), .slice a n c] w fun e w' => e = .returned (.int .u32 (Crc.sum l : Nat)) ∧ w = w' := by
  have hc := crcOn_c b n c a 0 l w ht (by omega) h
  have HC := hid hc
  clear hc ht h
  go_enter Tryd.func66, Tryd.ntmps66
  go_wp2_with fail
  refine HC.out.mono ?_
  rintro e w' ⟨rfl, rfl⟩
  go_wp2
  go_ret
  exact ⟨rfl, rfl⟩
end Go.Proofs.YtkmgdglmlmodmaaDoor
