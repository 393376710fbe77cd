/- Texts of one proof, joined: RackArm, RowInts, RowBits. -/
import Derived.Test.YtbdfjiedceaoiaaGreatPF
import Derived.Test.YtbdfjiedceaoiaaGreatRows
import Derived.Test.YtbdfjiedceaoiaaGreatPA
import Derived.RowKit
import Derived.Test.YtbdfjiedceaoiaaGreatPP
set_option linter.unusedVariables false
set_option linter.unusedSimpArgs false
namespace Go.Proofs.YtbdfjiedceaoiaaGreat
set_option linter.unusedVariables false
open Go Go.RowKit
theorem rarm_c {w : World} {K : RSk} {R : Rck} (h : RackRep w K R) (n : Int) (hn : n ≤ 9223372036854775807) :
  Calls Tryz.prog 19 #[.pointer (some ⟨K.r, 0, none⟩), .int .i64 n] w fun e w' => e = .returned (.tuple #[]) ∧ RackRep w' K (R.arm n) ∧ Only (fun b => b = K.r) w w' := by
 have c2 := h.cell2
 have f2 := h.free 2
 by_cases hp : -1 ≤ n
 ·
  have e : max n (-1) = n := by omega
  have HF : Hid (RackRep (w.setCell ⟨K.r, 2, none⟩ (.int .i64 n)) K (R.arm n)) := hid (by unfold Rck.arm; rw [e]; exact h.set (R' := { R with fuse := n }) rfl ⟨hp, hn⟩ rfl)
  have hmax : (if n < -1 then -1 else n) = n := if_neg (by omega)
  have hmax2 : (if (-1 : Int) > n then -1 else n) = n := if_neg (by omega)
  clear h e
  go_enter Tryz.func19, Tryz.ntmps19
  go_wp2
  go_end0
  exact ⟨rfl, HF.out, Zbd _ _ _ _⟩
 ·
  have e : max n (-1) = -1 := by omega
  have HF : Hid (RackRep (w.setCell ⟨K.r, 2, none⟩ (.int .i64 (-1))) K (R.arm n)) := hid (by unfold Rck.arm; rw [e]; exact h.set (R' := { R with fuse := -1 }) rfl ⟨by simp, by simp⟩ rfl)
  have hmax : (if n < -1 then -1 else n) = -1 := if_pos (by omega)
  clear h e
  go_enter Tryz.func19, Tryz.ntmps19
  go_wp2
  go_end0
  exact ⟨rfl, HF.out, Zbd _ _ _ _⟩
theorem at_arm {S : Nat → Prop} {w : World} {r : Nat} {R : Rck} (h : RackAt S w r R) (n : Int) (hn : n ≤ 9223372036854775807) :
  Calls Tryz.prog 19 #[.pointer (some ⟨r, 0, none⟩), .int .i64 n] w fun e w' => e = .returned (.tuple #[]) ∧ RackAt S w' r (R.arm n) ∧ Keeps S w w' := by
 obtain ⟨h0, K, rfl, h2, h3⟩ := h
 refine (rarm_c h2 n hn).mono ?_
 rintro e w' ⟨rfl, h4, h5⟩
 exact ⟨rfl, (RackTo.asked h4 h5).at_ h0 h3⟩
theorem IsRow.ints {w : World} {a : Option Addr} {len cap : Nat} {z : List Int} (h : IsRow .i64 w a len cap z) : ∀ i, i < len → ∃ b off v, a = some ⟨b, off, none⟩ ∧ w.cell? ⟨b, off + i, none⟩ = some (.int .i64 v) := by
 intro i hi
 rcases h with ⟨rfl, rfl, rfl, rfl⟩ | ⟨x, rfl, hlc, hm, hz, hc, hw⟩
 ·
  omega
 ·
  have h1 := hc i (by omega)
  obtain ⟨b, off, sp⟩ := x
  rcases sp with _ | sp
  ·
   have e : (⟨b, off, none⟩ : Addr).add i = ⟨b, off + i, none⟩ := by unfold Addr.add; split <;> simp_all
   rw [e] at h1
   exact ⟨b, off, _, rfl, h1⟩
  ·
   exfalso
   have h0 := hc 0 (by omega)
   unfold World.cell? Addr.add at h0
   split at h0 <;> simp_all
theorem IsRow.low {w : World} {ik : IntKind} {a : Option Addr} {len cap : Nat} {z : List Int} (h : IsRow ik w a len cap z) : ∀ p, a = some p → 0 < len → p.block < w.heap.size := fun p hp hn => by
 rcases h with ⟨rfl, rfl, rfl, rfl⟩ | ⟨x, rfl, hlc, hm, hz, hc, hw⟩
 ·
  cases hp
 ·
  cases hp
  have h0 := hc 0 (by omega)
  have := World.block_lt_of_cell? w _ h0
  unfold Addr.add at this
  split at this <;> simp_all
theorem IsRow.bits {w : World} {a : Option Addr} {len cap : Nat} {z : List Int} (h : IsRow .u64 w a len cap z) : BitsAt w a len ((z.take len).map Int.toNat) := by
 rcases h with ⟨rfl, rfl, rfl, rfl⟩ | ⟨x, rfl, hlc, hm, hz, hc, hw⟩
 ·
  exact ⟨rfl, by simp, .inl rfl⟩
 ·
  have hb : ∀ i, i < z.length → 0 ≤ z.getD i 0 ∧ z.getD i 0 ≤ 18446744073709551615 := fun i hi => by
   have e : z.getD i 0 = z[i] := by simp [hi]
   rw [e]; exact bounds_u64 (hw _ (List.getElem_mem hi))
  refine ⟨by simp; omega, fun y hy => ?_, ?_⟩
  ·
   obtain ⟨q, hq, rfl⟩ := List.mem_map.1 hy
   have := bounds_u64 (hw q (List.mem_of_mem_take hq)); omega
  ·
   by_cases h0 : len = 0
   ·
    exact .inl h0
   ·
    have h1 := hc 0 (by omega)
    obtain ⟨b, off, sp⟩ := x
    rcases sp with _ | sp
    ·
     refine .inr ⟨b, off, rfl, fun i hi => ?_⟩
     have := hc i (by omega)
     have e : (⟨b, off, none⟩ : Addr).add i = ⟨b, off + i, none⟩ := by unfold Addr.add; split <;> simp_all
     rw [e] at this
     rw [this]
     have h2 := hb i (by omega)
     have e3 : ((z.take len).map Int.toNat).getD i 0 = (z.getD i 0).toNat := by
      have : i < z.length := by omega
      simp [List.getD_eq_getElem?_getD, List.getElem?_take, hi, this]
     rw [e3]
     congr 2; omega
    ·
     exfalso
     unfold World.cell? Addr.add at h1
     split at h1 <;> simp_all
end Go.Proofs.YtbdfjiedceaoiaaGreat
