/- bytes.Equal of two slices of bytes. -/
import Derived.Test.YtkmgdglmlmodmaaDoorBlk
import Derived.Laws.BytesArg
import Derived.Lib.Bytes
namespace Go.Proofs.YtkmgdglmlmodmaaDoor
set_option linter.unusedVariables false
open Go.RowKit Go

def ints (l : List Nat) : List Int := l.map Int.ofNat
theorem conv_bytes {w : World} {a : Option Addr} {n : Nat} {l : List Nat} (h : BytesAt w a n l) (hn : 0 < n ∨ a = none) (c : Nat) :
    (convert 27 9 (.slice a n c)).run Tryd.prog w = .ok (.string (strOfNums (ints l))) w := by
  rcases h.cells with h0 | ⟨b, off, rfl, hc⟩
  · subst h0
    obtain rfl := List.length_eq_zero_iff.1 h.len
    rcases hn with hn | rfl
    · omega
    · exact (run_convert_bytes_nil (P := Tryd.prog) w 27 5 Tryd.underlying27 Tryd.underlying5 0 c _ Tryd.underlying9 : _)
  · exact run_convert_bytes_arg (P := Tryd.prog) w 27 5 Tryd.underlying27 Tryd.underlying5 b off n c (ints l) (by simp [ints, h.len])
      (fun i hi => by
        rw [hc i hi]
        have : i < l.length := by rw [h.len]; exact hi
        simp [ints, nth, this]) _ Tryd.underlying9
theorem strOf_inj {l m : List Nat} (hl : ∀ x ∈ l, x < 256) (hm : ∀ x ∈ m, x < 256) : ((strOfNums (ints l)).toList == (strOfNums (ints m)).toList) = decide (l = m) := by
  rw [Lib.strOfNums_toList, Lib.strOfNums_toList]
  by_cases h : l = m
  · subst h; simp
  · rw [decide_eq_false h]
    apply beq_false_of_ne
    intro e
    apply h
    unfold Lib.bytesOf ints at e
    rw [List.map_map, List.map_map] at e
    have hx : ∀ l : List Nat, (∀ x ∈ l, x < 256) → (l.map ((fun n : Int => UInt8.ofNat n.toNat) ∘ Int.ofNat)).map UInt8.toNat = l := by
      intro l hl
      rw [List.map_map]
      conv => rhs; rw [← List.map_id l]
      apply List.map_congr_left
      intro x hx
      have := hl x hx
      simp; omega
    rw [← hx l hl, ← hx m hm, e]
set_option maxHeartbeats 1000000 in
theorem bytesEqual_c {w : World} {a a' : Option Addr} {n n' : Nat} {l m : List Nat} (h : BytesAt w a n l) (h' : BytesAt w a' n' m) (hn : 0 < n ∨ a = none) (hn' : 0 < n' ∨ a' = none) (c c' : Nat) :
    Calls Tryd.prog 101 #[.slice a n c, .slice a' n' c'] w fun e w' => e = .returned (.bool (decide (l = m))) ∧ w = w' := by
  rw [← strOf_inj h.byte h'.byte]
  have c1 := conv_bytes h hn c
  have c2 := conv_bytes h' hn' c'
  go_enter Tryd.func101, Tryd.ntmps101
  go_wp2
  go_ret
  exact ⟨rfl, rfl⟩
end Go.Proofs.YtkmgdglmlmodmaaDoor
