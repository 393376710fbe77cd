/- stavebook.Within: a number brought into bounds. -/
import Derived.Test.YtkmgdglmlmodmaaDoorProg
import Derived.Test.YtkmgdglmlmodmaaDoorBase
import Derived.BigQuiet
import Derived.Deep.QuietTactic
import Derived.WalkLawsBesides
import Derived.WalkSpells
namespace Go.Proofs.YtkmgdglmlmodmaaDoor
set_option linter.unusedVariables false
open Go.RowKit

def within (n lo hi : Int) : Int := lo + n % (hi - lo + 1)
theorem within_bd (n lo hi : Int) (h : lo ≤ hi) : lo ≤ within n lo hi ∧ within n lo hi ≤ hi := by
  unfold within
  have h1 := Int.emod_lt_of_pos n (show 0 < hi - lo + 1 by omega)
  have h2 := Int.emod_nonneg n (show hi - lo + 1 ≠ 0 by omega)
  omega
theorem emod_of_neg (n m : Int) (hm : 0 < m) (h : n.tmod m < 0) : n % m = n.tmod m + m := by
  rcases tmod_cases n m hm with ⟨_, e⟩ | ⟨_, e⟩
  · have := Int.emod_nonneg n (show m ≠ 0 by omega); omega
  · have h1 := Int.emod_lt_of_pos (-n) hm
    have h2 := Int.emod_nonneg (-n) (show m ≠ 0 by omega)
    have h3 := Int.mul_ediv_add_emod (-n) m
    rw [e] at h ⊢
    have h4 : n = (m - (-n) % m) + m * (-((-n) / m) - 1) := by
      rw [Int.mul_sub, Int.mul_neg]; omega
    conv => lhs; rw [h4]
    rw [Int.add_mul_emod_self_left, Int.emod_eq_of_lt (by omega) (by omega)]; omega
theorem emod_of_nonneg (n m : Int) (hm : 0 < m) (h : 0 ≤ n.tmod m) : n % m = n.tmod m := by
  rcases tmod_cases n m hm with ⟨_, e⟩ | ⟨_, e⟩
  · exact e.symm
  · have h2 := Int.emod_nonneg (-n) (show m ≠ 0 by omega)
    have h5 : (-n) % m = 0 := by omega
    have h6 : n % m = 0 := by
      have := Int.emod_emod_of_dvd (-n) (Int.dvd_refl m)
      have h7 := Int.dvd_of_emod_eq_zero h5
      exact Int.emod_eq_zero_of_dvd ((Int.dvd_neg).1 h7)
    omega
set_option maxHeartbeats 400000 in
theorem within_c (n lo hi : Int) (w : World) (h1 : -1000000 ≤ lo) (h2 : lo ≤ hi) (h3 : hi ≤ 1000000) :
    Calls Tryd.prog 31 #[.int .i64 n, .int .i64 lo, .int .i64 hi] w fun e w' => e = .returned (.int .i64 (within n lo hi)) ∧ w = w' := by
  have hb := tmod_bd n (hi - lo + 1) (by omega)
  by_cases hn : n.tmod (hi - lo + 1) < 0
  · have HW : Hid (within n lo hi = lo + (n.tmod (hi - lo + 1) + hi - lo + 1)) := by
      refine hid ?_
      unfold within
      rw [emod_of_neg n _ (by omega) hn]; omega
    go_enter Tryd.func31, Tryd.ntmps31
    go_wp2
    go_ret
    exact ⟨ret_int HW.out.symm, rfl⟩
  · have HW : Hid (within n lo hi = lo + n.tmod (hi - lo + 1)) := by
      refine hid ?_
      unfold within
      rw [emod_of_nonneg n _ (by omega) (by omega)]
    go_enter Tryd.func31, Tryd.ntmps31
    go_wp2
    go_ret
    exact ⟨ret_int HW.out.symm, rfl⟩
end Go.Proofs.YtkmgdglmlmodmaaDoor
