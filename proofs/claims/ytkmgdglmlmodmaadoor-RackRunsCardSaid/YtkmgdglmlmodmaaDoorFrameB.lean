/- frame.low and frame.number: numbers as bytes. -/
import Derived.Test.YtkmgdglmlmodmaaDoorFrameA
namespace Go.Proofs.YtkmgdglmlmodmaaDoor
set_option linter.unusedVariables false
open Go.RowKit Go

def setN (L : List Nat) (off N : Nat) : Nat → List Nat
  | 0 => L
  | k + 1 => (setN L off N k).set (off + k) (N / 2 ^ (8 * k) % 256)
theorem setN_len (L : List Nat) (off N k : Nat) : (setN L off N k).length = L.length := by
  induction k with
  | zero => rfl
  | succ k ih => show ((setN L off N k).set _ _).length = _; rw [List.length_set, ih]
theorem setN_nth (L : List Nat) (off N k i : Nat) (h : off + k ≤ L.length) : nth (setN L off N k) i = if off ≤ i ∧ i < off + k then N / 2 ^ (8 * (i - off)) % 256 else nth L i := by
  induction k with
  | zero => rw [if_neg (by omega)]; rfl
  | succ k ih =>
    show nth ((setN L off N k).set (off + k) _) i = _
    rw [nth_set, ih (by omega), setN_len]
    by_cases e : off + k = i
    · subst e; rw [if_pos ⟨rfl, by omega⟩, if_pos (by omega), show off + k - off = k by omega]
    · rw [if_neg (by omega)]
      by_cases h2 : off ≤ i ∧ i < off + k
      · rw [if_pos h2, if_pos (by omega)]
      · rw [if_neg h2, if_neg (by omega)]
theorem low_nth (n v i : Nat) (h : i < n) : nth (Frm.low n v) i = v / 2 ^ (8 * i) % 256 := by
  rw [nth_eq (by rw [Frm.low_len]; exact h)]; simp [Frm.low]
theorem setN_spl (L : List Nat) (off N n : Nat) (h : off + n ≤ L.length) : setN L off N n = spl L off (Frm.low n N) := by
  apply ext_nth (by rw [setN_len, spl_len _ _ _ (by rw [Frm.low_len]; exact h)])
  intro i hi
  rw [setN_len] at hi
  rw [setN_nth _ _ _ _ _ h]
  unfold spl
  rw [nth_append, List.length_take, nth_append, Frm.low_len, nth_take, nth_drop]
  by_cases h1 : i < off
  · rw [if_neg (by omega), if_pos (by omega), if_pos h1]
  · rw [if_neg (by omega : ¬ i < min off L.length)]
    by_cases h2 : i < off + n
    · rw [if_pos (by omega), if_pos (by omega), show i - min off L.length = i - off by omega, low_nth _ _ _ (by omega)]
    · rw [if_neg (by omega), if_neg (by omega)]; congr 1; omega

set_option maxRecDepth 100000 in
set_option maxHeartbeats 1000000 in
theorem low_c (b off n cap N : Nat) (L : List Nat) (w : World) (hB : Blk w b L) (hfit : off + n ≤ L.length) (hn : n ≤ 8) (hL : L.length ≤ 1000000) (hN : N < 18446744073709551616) :
    Calls Tryd.prog 64 #[.slice (some ⟨b, off, none⟩) n cap, .int .u64 N] w fun e w' => e = .returned (.tuple #[]) ∧ Blk w' b (spl L off (Frm.low n N)) ∧ Only (fun k => k = b) w w' := by
  have HE := hid (setN_spl L off N n hfit)
  rw [← HE.out]
  have HB := hid hB
  clear HE hB
  go_enter Tryd.func64, Tryd.ntmps64
  go_wp2
  go_loopw [7] (fun i wr => ∃ k : Nat, k ≤ n ∧ i = .int .i64 k ∧ Blk wr b (setN L off N k) ∧ Only (fun k => k = b) w wr) (fun i _ => n - (intOf i).toNat)
  case atStart => exact ⟨0, by omega, rfl, HB.out, Only.refl _ _⟩
  case round =>
    obtain ⟨k, hk, rfl, hb, ho⟩ := hrel
    by_cases hlt : k < n
    · have c1 := hb.cell (off + k) (by rw [setN_len]; omega)
      have f1 := hb.free (off + k)
      have HB1 := hid hb; have HO1 := hid ho
      clear hb ho
      go_wp2
      go_roundw
      case rel =>
        refine ⟨k + 1, by omega, by go_num, ?_, HO1.out.setCell (.inr rfl) _⟩
        have e : ((N : Int) / 2 ^ (8 * k) % 256) = ((N / 2 ^ (8 * k) % 256 : Nat) : Int) := by
          rw [Int.natCast_emod, Int.natCast_ediv, Int.natCast_pow]; rfl
        rw [e]; exact HB1.out.set _ _
      case measure => simp [intOf]; omega
    · obtain rfl : n = k := by omega
      have HB1 := hid hb; have HO1 := hid ho
      clear hb ho
      go_wp2
      go_end0
      exact ⟨rfl, HB1.out, HO1.out⟩

theorem ofInt_wrap64 (z : Int) : BitVec.ofInt 64 (wrap64 z) = BitVec.ofInt 64 z := by
  apply BitVec.eq_of_toNat_eq
  simp only [BitVec.toNat_ofInt]
  congr 1
  unfold wrap64
  show ((z + 9223372036854775808) % 18446744073709551616 - 9223372036854775808) % (18446744073709551616 : Int) = z % 18446744073709551616
  omega
theorem or_wrap (A x k : Nat) (hk : k < 8) (hA : A < 256 ^ k) (hx : x < 256) :
    bits .or .i64 (wrap64 (A : Int)) (wrap64 ((x : Int) * 2 ^ (8 * k))) = wrap64 ((A + x * 256 ^ k : Nat) : Int) := by
  have hp : (256 : Nat) ^ k = 2 ^ (8 * k) := by rw [Nat.pow_mul]
  have h56 : 2 ^ (8 * k) ≤ 2 ^ 56 := Nat.pow_le_pow_right (by omega) (by omega)
  have hpos : 0 < 2 ^ (8 * k) := Nat.two_pow_pos _
  rw [hp] at hA ⊢
  have hx2 : x * 2 ^ (8 * k) ≤ 255 * 2 ^ (8 * k) := Nat.mul_le_mul_right _ (by omega)
  show IntKind.i64.wrap ((BitVec.ofInt 64 (wrap64 (A : Int)) ||| BitVec.ofInt 64 (wrap64 ((x : Int) * 2 ^ (8 * k)))).toNat : Int) = _
  rw [ofInt_wrap64, ofInt_wrap64, show ((x : Int) * 2 ^ (8 * k)) = ((x * 2 ^ (8 * k) : Nat) : Int) by rw [Int.natCast_mul, Int.natCast_pow]; rfl, BitVec.ofInt_natCast, BitVec.ofInt_natCast, BitVec.toNat_or, BitVec.toNat_ofNat, BitVec.toNat_ofNat,
    Nat.mod_eq_of_lt (by omega), Nat.mod_eq_of_lt (by omega)]
  have ho := Nat.two_pow_add_eq_or_of_lt hA x
  rw [Nat.or_comm, Nat.mul_comm x, ← ho, Nat.add_comm (2 ^ (8 * k) * x)]
  rw [IntKind.wrap_i64]; unfold wrap64; omega
theorem numI_nil : Frm.numI [] = 0 := by
  show wrap64 ((0 : Nat) : Int) = 0; unfold wrap64; omega
theorem numI_take (l : List Nat) (k : Nat) (hk : k < l.length) (hk8 : k < 8) (hb : ∀ x ∈ l, x < 256) :
    bits .or .i64 (Frm.numI (l.take k)) (wrap64 ((nth l k : Int) * 2 ^ (8 * k))) = Frm.numI (l.take (k + 1)) := by
  have h1 := Frm.num_bd (l.take k) (fun x hx => hb x (List.mem_of_mem_take hx))
  rw [List.length_take, Nat.min_eq_left (by omega)] at h1
  unfold Frm.numI
  rw [or_wrap _ _ k hk8 h1 (nth_lt hb k), take_snoc_nth l k hk, Frm.num_snoc, List.length_take, Nat.min_eq_left (by omega)]

set_option maxRecDepth 100000 in
set_option maxHeartbeats 1000000 in
theorem number_some (b off n c : Nat) (l : List Nat) (w : World) (hl : l.length = n) (hn : n ≤ 8) (hb : ∀ x ∈ l, x < 256) (hc : ∀ i, i < n → w.cell? ⟨b, off + i, none⟩ = some (.int .u8 (nth l i))) :
    Calls Tryd.prog 100 #[.slice (some ⟨b, off, none⟩) n c] w fun e w' => e = .returned (.int .i64 (Frm.numI l)) ∧ w = w' := by
  have HC := hid hc; have HB := hid hb; have HL := hid hl
  clear hc hb hl
  go_enter Tryd.func100, Tryd.ntmps100
  go_wp2
  go_loop [3, 8] (fun v i => ∃ k : Nat, k ≤ n ∧ i = .int .i64 k ∧ v = .int .i64 (Frm.numI (l.take k))) (fun _ i => n - (intOf i).toNat)
  case atStart => exact ⟨0, by omega, rfl, by rw [List.take_zero, numI_nil]⟩
  case round =>
    obtain ⟨k, hk, rfl, rfl⟩ := hrel
    by_cases hlt : k < n
    · have c1 := HC.out k hlt
      have xb := nth_lt HB.out k
      obtain ⟨x, hx⟩ : ∃ x, nth l k = x := ⟨_, rfl⟩
      rw [hx] at c1 xb
      obtain ⟨q, hq⟩ : ∃ q, Frm.numI (l.take k) = q := ⟨_, rfl⟩
      rw [hq]
      have HX := hid hx; have HQ := hid hq
      clear hx hq
      go_wp2
      go_round
      case rel => exact ⟨k + 1, by omega, by go_num, by rw [← HQ.out, ← HX.out, numI_take l k (by rw [HL.out]; exact hlt) (by omega) HB.out]⟩
      case measure => simp [intOf]; omega
    · obtain rfl : n = k := by omega
      have HE : Hid (Frm.numI (l.take n) = Frm.numI l) := hid (by rw [List.take_of_length_le (by rw [HL.out]; exact Nat.le_refl _)])
      rw [HE.out]
      clear HE
      go_wp2
      go_ret
      exact ⟨rfl, rfl⟩
end Go.Proofs.YtkmgdglmlmodmaaDoor
