/- stavebook.Roomy and stavebook.Intact of bytes. -/
import Derived.Test.YtoafabbdoejegaaBlk
namespace Go.Proofs.Ytoafabbdoejegaa
set_option linter.unusedVariables false
open Go.RowKit
/-- Behind so many rounds of Roomy: so many marks stand. -/
def roomyK (l : List Nat) (m k : Nat) : List Nat := l ++ (List.replicate k m ++ List.replicate (80 - k) 0)
theorem roomyK_step (l : List Nat) (m k : Nat) (h : k < 80) : (roomyK l m k).set (l.length + k) m = roomyK l m (k + 1) := by
  unfold roomyK
  apply ext_nth (by simp; omega)
  intro i hi
  have hi' : i < l.length + 80 := by simp at hi; omega
  rw [nth_set]
  simp only [nth_append, nth_replicate, List.length_append, List.length_replicate]
  (repeat' split) <;> first | rfl | (exfalso; omega)
def RoomyPost (n : Nat) (l : List Nat) (m : Nat) (w : World) (e : Ending) (w' : World) : Prop :=
  ∃ b, e = .returned (.slice (some ⟨b, 0, none⟩) (n + 80) (n + 80)) ∧ w.heap.size ≤ b ∧ Blk w' b (l ++ List.replicate 80 m) ∧ Ext w w'
set_option maxHeartbeats 400000 in
theorem roomy_c (a : Option Addr) (n c : Nat) (l : List Nat) (m : Nat) (w : World) (h : BytesAt w a n l) (hn : n ≤ 1000000) (hm : m < 256) :
    Calls Try.prog 19 #[.slice a n c, .int .u8 m] w (RoomyPost n l m w) := by
  have hmk := make_bytes ((n : Int) + 80) (by omega) (by omega) w
  rw [show ((n : Int) + 80).toNat = n + 80 by omega] at hmk
  have hcp := copy_new w (List.replicate (n + 80) 0) l a n c (n + 80) h (by simp) (by omega)
  rw [List.drop_replicate, show n + 80 - n = 80 by omega] at hcp
  have hl := h.len
  have e0 : l ++ List.replicate 80 0 = roomyK l m 0 := rfl
  rw [e0] at hcp
  have HS : Hid (∀ k, k < 80 → (roomyK l m k).set (n + k) m = roomyK l m (k + 1)) := hid (fun k hk => by rw [← hl]; exact roomyK_step l m k hk)
  have HE : Hid (roomyK l m 80 = l ++ List.replicate 80 m) := hid (by simp [roomyK])
  have HLEN : Hid (∀ k, k ≤ 80 → (roomyK l m k).length = n + 80) := hid (fun k hk => by simp [roomyK]; omega)
  clear e0 hl h
  go_enter Try.func19, Try.ntmps19
  go_wp2
  go_loopw [6] (fun i wr => ∃ k : Nat, k ≤ 80 ∧ i = .int .i64 (n + k : Nat) ∧ wr = w.alloc (.cells (bA (roomyK l m k)) 5)) (fun i _ => n + 80 - (intOf i).toNat)
  case atStart => exact ⟨0, by omega, rfl, rfl⟩
  case round =>
    obtain ⟨k, hk, rfl, rfl⟩ := hrel
    clear hmk hcp
    by_cases hlt : k < 80
    · have c1 := bA_get (roomyK l m k) (n + k) (by rw [HLEN.out k hk]; omega)
      go_wp2
      go_roundw
      case rel => exact ⟨k + 1, by omega, by go_num, by rw [bA_set, HS.out k hlt]⟩
      case measure => simp [intOf]; omega
    · obtain rfl : k = 80 := by omega
      go_wp2
      go_ret
      exact ⟨w.heap.size, rfl, Nat.le_refl _, by rw [Blk, block_alloc, HE.out], (Ext.refl w).alloc _⟩

set_option maxHeartbeats 400000 in
theorem intact_c (a : Option Addr) (n c : Nat) (l : List Nat) (m b : Nat) (w : World) (h : BytesAt w a n l) (hn : n ≤ 1000000) (hm : m < 256)
    (hf : Blk w b (l ++ List.replicate 80 m)) :
    Calls Try.prog 22 #[.slice (some ⟨b, 0, none⟩) (n + 80) (n + 80), .slice a n c, .int .u8 m] w fun e w' => e = .returned (.bool true) ∧ Ext w w' := by
  have hl := h.len
  have hB : BytesAt w (some ⟨b, 0, none⟩) n l := by
    refine ⟨hl, by omega, h.byte, .inr ⟨b, 0, rfl, fun i hi => ?_⟩⟩
    rw [Nat.zero_add, hf.cell i (by simp; omega), nth_append, if_pos (by omega)]
  have HC : Hid (∀ k, k < 80 → w.cell? ⟨b, n + k, none⟩ = some (.int .u8 m)) := hid (fun k hk => by
    rw [hf.cell (n + k) (by simp; omega), nth_append, if_neg (by omega), nth_replicate, if_pos (by omega)])
  have hsame := same_c (n + 80) c hB h
  rw [show decide (l = l) = true by simp] at hsame
  have HSM := hid hsame
  clear hl hf hsame h
  go_enter Try.func22, Try.ntmps22
  go_wp2_with fail
  refine HSM.out.mono ?_
  rintro e w1 ⟨rfl, x1⟩
  go_wp2
  go_loop [7] (fun i => ∃ k : Nat, k ≤ 80 ∧ i = .int .i64 (n + k : Nat)) (fun i => n + 80 - (intOf i).toNat)
  case atStart => exact ⟨0, by omega, rfl⟩
  case round =>
    obtain ⟨k, hk, rfl⟩ := hrel
    by_cases hlt : k < 80
    · have c1 := x1.cell (HC.out k hlt)
      go_wp2
      go_round
      case rel => exact ⟨k + 1, by omega, by go_num⟩
      case measure => simp [intOf]; omega
    · obtain rfl : k = 80 := by omega
      go_wp2
      go_ret
      exact ⟨rfl, x1⟩
end Go.Proofs.Ytoafabbdoejegaa
