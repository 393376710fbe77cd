/- gf's Add: to each byte of a row of the caller's own the product of a factor and another row's byte. -/
import Derived.Test.YtoafabbdoejegaaGfOps
import Derived.Test.YtoafabbdoejegaaBytes
import Derived.Test.YtoafabbdoejegaaQuietTail
namespace Go.Proofs.Ytoafabbdoejegaa
set_option linter.unusedVariables false
open Go.RowKit Gf
def bv (x : Nat) : Value := .int .u8 x
namespace Gf
/-- What Add makes of a row. -/
def addB (l f : List Nat) (x : Nat) : List Nat := (List.range l.length).map fun i => if i < f.length then nth l i ^^^ mul x (nth f i) else nth l i
/-- .. behind so many rounds. -/
def addK (l f : List Nat) (x k : Nat) : List Nat := (List.range l.length).map fun i => if i < k then nth l i ^^^ mul x (nth f i) else nth l i
theorem addK_zero (l f : List Nat) (x : Nat) : addK l f x 0 = l := by
  apply ext_nth (by simp [addK])
  intro i hi
  have hi' : i < l.length := by simpa [addK] using hi
  rw [nth_eq hi, nth_eq hi']; simp [addK, nth, hi']
theorem addK_len (l f : List Nat) (x k : Nat) : (addK l f x k).length = l.length := by simp [addK]
theorem addK_nth (l f : List Nat) (x k i : Nat) (h : i < l.length) : nth (addK l f x k) i = if i < k then nth l i ^^^ mul x (nth f i) else nth l i := by
  rw [nth_eq (by rw [addK_len]; exact h)]; simp [addK]
theorem addB_len (l f : List Nat) (x : Nat) : (addB l f x).length = l.length := by simp [addB]
theorem addB_nth (l f : List Nat) (x i : Nat) (h : i < l.length) : nth (addB l f x) i = if i < f.length then nth l i ^^^ mul x (nth f i) else nth l i := by
  rw [nth_eq (by rw [addB_len]; exact h)]; simp [addB]
theorem addK_bv (l f : List Nat) (x k : Nat) (h : k < l.length) : ((addK l f x k).map bv)[k]? = some (.int .u8 (nth l k)) := by
  rw [List.getElem?_map, List.getElem?_eq_getElem (by rw [addK_len]; exact h)]
  rw [← nth_eq, addK_nth _ _ _ _ _ h, if_neg (by omega)]; rfl
theorem addK_step (l f : List Nat) (x k : Nat) : ((addK l f x k).map bv).set k (.int .u8 (nth l k ^^^ mul x (nth f k) : Nat)) = (addK l f x (k + 1)).map bv := by
  have e : (Value.int .u8 (nth l k ^^^ mul x (nth f k) : Nat)) = bv (nth l k ^^^ mul x (nth f k)) := rfl
  rw [e, ← List.map_set]
  congr 1
  apply ext_nth (by simp [addK_len])
  intro i hi
  have hi' : i < l.length := by simpa [addK_len] using hi
  rw [addK_nth _ _ _ _ _ hi', nth_eq hi, List.getElem_set]
  by_cases h : k = i
  · subst h; rw [if_pos rfl, if_pos (by omega)]
  · rw [if_neg h, ← nth_eq, addK_nth _ _ _ _ _ hi']
    by_cases h2 : i < k
    · rw [if_pos h2, if_pos (by omega)]
    · rw [if_neg h2, if_neg (by omega)]
theorem addK_end (l f : List Nat) (x k : Nat) (h : k ≤ l.length) (h2 : k ≤ f.length) (h3 : ¬ (k < l.length ∧ k < f.length)) : addK l f x k = addB l f x := by
  apply ext_nth (by simp [addK_len, addB_len])
  intro i hi
  have hi' : i < l.length := by simpa [addK_len] using hi
  rw [addK_nth _ _ _ _ _ hi', addB_nth _ _ _ _ hi']
  by_cases h4 : i < f.length
  · rw [if_pos h4, if_pos (by omega)]
  · rw [if_neg h4, if_neg (by omega)]
end Gf
theorem add_row (fb : Nat) (b n cap : Nat) (b' off' n' c' : Nat) (l l' : List Nat) (X : Int) (w : World) (hf : FieldAt w fb)
    (hown : w.ownsRow 0 5 1 (.slice (some ⟨b, 0, none⟩) n cap) n (l.map bv))
    (hs : n ≤ 140737488355328) (hs' : n' ≤ 140737488355328)
    (hc' : ∀ i, i < n' → w.cell? ⟨b', off' + i, none⟩ = some (.int .u8 (nth l' i))) (hb : ∀ i, nth l i < 256) (hb' : ∀ i, nth l' i < 256)
    (hx : 0 ≤ X ∧ X < 256) (h1 : fb ≠ b) (h2 : b' ≠ b) (hl' : l'.length = n') :
    Calls Try.prog 20 #[.pointer (some ⟨fb, 0, none⟩), .slice (some ⟨b, 0, none⟩) n cap, .slice (some ⟨b', off', none⟩) n' c', .int .u8 X] w
      fun e w' => e = .returned (.tuple #[]) ∧ w'.ownsRow 0 5 1 (.slice (some ⟨b, 0, none⟩) n cap) n ((addB l l' X.toNat).map bv) ∧ Only (fun k => k = b) w w' := by
  have HO := hid hown; have HC := hid hc'; have HB := hid hb; have HB' := hid hb'; have HF := hid hf; have HL := hid hl'
  have hl : l.length = n := by have := hown.1; simpa using this
  have HLL := hid hl
  clear hown hc' hb hb' hf hl hl'
  go_enter Try.func20, Try.ntmps20
  go_wp2
  all_goals
    go_loopw [14] (fun i wr => ∃ k : Nat, k ≤ n ∧ k ≤ n' ∧ i = .int .i64 k ∧ wr.ownsRow 0 5 1 (.slice (some ⟨b, 0, none⟩) n cap) n ((Gf.addK l l' X.toNat k).map bv) ∧ Only (fun k => k = b) w wr) (fun i _ => n - (intOf i).toNat)
    case atStart => exact ⟨0, by omega, by omega, rfl, by rw [Gf.addK_zero]; exact HO.out, Only.refl _ _⟩
    case round =>
      obtain ⟨k, hk, hk', rfl, hown, hon⟩ := hrel
      by_cases hlt : k < n ∧ k < n'
      · obtain ⟨hl1, hl2⟩ := hlt
        have c1 : wr.cell? ⟨b, k, none⟩ = some (.int .u8 (nth l k)) := by
          rw [hown.cellAt k (by omega)]; exact Gf.addK_bv l l' _ k (by rw [HLL.out]; omega)
        have f1 : wr.frozen? ⟨b, k, none⟩ = false := hown.frozenAt k
        have c2 : wr.cell? ⟨b', off' + k, none⟩ = some (.int .u8 (nth l' k)) := hon.cell (HC.out k hl2) h2
        have b1 := HB.out k
        have b2 := HB'.out k
        have hf : FieldAt wr fb := hon.at HF.out h1
        have HO2 := hid hown; have HON := hid hon; have HF2 := hid hf
        clear hown hon hf
        obtain ⟨x, hx1⟩ : ∃ x, nth l k = x := ⟨_, rfl⟩
        obtain ⟨y, hy1⟩ : ∃ y, nth l' k = y := ⟨_, rfl⟩
        rw [hx1] at c1 b1
        rw [hy1] at c2 b2
        have HX := hid hx1.symm; have HY := hid hy1.symm
        clear hx1 hy1
        go_wp2
        refine wp_region_quiet_tail 13 (by kernel_rfl) (by kernel_rfl) ?_
        simp only [List.take_succ_cons, List.take_zero, List.drop_succ_cons, List.drop_zero]
        repeat (go_big_quiet_step ((go_at_call 11; refine Calls.quiet_of (mul_q fb X y _ ?_ hx (by omega)); exact HF2.out)))
        refine wpQuiet_nil ?_
        intro _ hw'
        obtain ⟨nq, hw''⟩ := hw'
        subst hw''
        go_wp2
        go_roundw
        case rel =>
          have ho : (wr.drewN nq).ownsRow 0 5 1 (.slice (some ⟨b, 0, none⟩) n cap) n ((Gf.addK l l' X.toNat k).map bv) := HO2.out
          refine ⟨k + 1, by omega, by omega, by go_num, ?_, (HON.out.drewN nq).setCell (.inr rfl) _⟩
          have hb := Gf.mul_bd X.toNat y
          rw [u8_xor_nat _ _ b1 hb, HX.out, HY.out, ← Gf.addK_step]
          exact (ho.stored k _).1
        case measure => simp [intOf]; omega
      · have he := Gf.addK_end l l' X.toNat k (by rw [HLL.out]; exact hk) (by rw [HL.out]; exact hk') (by rw [HLL.out, HL.out]; exact hlt)
        rw [he] at hown
        have HO2 := hid hown; have HON := hid hon
        clear he hown hon
        go_wp2
        go_end0
        exact ⟨rfl, HO2.out, HON.out⟩
theorem Gf.addB_byte (l f : List Nat) (x : Nat) (hx : x < 256) (h : ∀ y ∈ l, y < 256) : ∀ y ∈ Gf.addB l f x, y < 256 := by
  intro y hy
  obtain ⟨i, hi, rfl⟩ := List.getElem_of_mem hy
  rw [← nth_eq, Gf.addB_nth _ _ _ _ (by simpa [Gf.addB_len] using hi)]
  have := nth_lt h i
  split
  · exact Gf.xor_bd _ _ this (Gf.mul_bd _ _)
  · exact this
theorem Gf.addB_twice (l f : List Nat) (x : Nat) : Gf.addB (Gf.addB l f x) f x = l := by
  apply ext_nth (by simp [Gf.addB_len])
  intro i hi
  have hi' : i < l.length := by simpa [Gf.addB_len] using hi
  rw [Gf.addB_nth _ _ _ _ (by rw [Gf.addB_len]; exact hi'), Gf.addB_nth _ _ _ _ hi']
  split
  · rw [Nat.xor_assoc, Nat.xor_self, Nat.xor_zero]
  · rfl
theorem BytesAt.get {w : World} {b off n : Nat} {l : List Nat} (h : BytesAt w (some ⟨b, off, none⟩) n l) (i : Nat) (hi : i < n) : w.cell? ⟨b, off + i, none⟩ = some (.int .u8 (nth l i)) := by
  rcases h.cells with h0 | ⟨b2, o2, e, hc⟩
  · omega
  · cases e; exact hc i hi
theorem add_c (fb : Nat) (b n cap : Nat) (b' off' n' c' : Nat) (l l' : List Nat) (X : Int) (w : World) (hf : FieldAt w fb)
    (hown : w.ownsRow 0 5 1 (.slice (some ⟨b, 0, none⟩) n cap) n (l.map bv)) (hb : ∀ x ∈ l, x < 256) (hs : n ≤ 140737488355328)
    (h' : BytesAt w (some ⟨b', off', none⟩) n' l') (hx : 0 ≤ X ∧ X < 256) (h1 : fb ≠ b) (h2 : b' ≠ b) :
    Calls Try.prog 20 #[.pointer (some ⟨fb, 0, none⟩), .slice (some ⟨b, 0, none⟩) n cap, .slice (some ⟨b', off', none⟩) n' c', .int .u8 X] w
      fun e w' => e = .returned (.tuple #[]) ∧ w'.ownsRow 0 5 1 (.slice (some ⟨b, 0, none⟩) n cap) n ((Gf.addB l l' X.toNat).map bv) ∧ Only (fun k => k = b) w w' :=
  add_row fb b n cap b' off' n' c' l l' X w hf hown hs h'.small h'.get (nth_lt hb) (nth_lt h'.byte) hx h1 h2 h'.len
end Go.Proofs.Ytoafabbdoejegaa
