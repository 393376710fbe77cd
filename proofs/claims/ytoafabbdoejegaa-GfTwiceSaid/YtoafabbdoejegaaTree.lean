/- The walk of a region that draws its order, along a tree of orders: where two operations may come up, both ways are walked. -/
import Derived.Test.YtoafabbdoejegaaMix
namespace Go
set_option linter.unusedVariables false
/-- Which operations come up: groups that yield in whatever world; behind a group one operation, or one of two. -/
inductive MTree where
  | done (last : List Nat)
  | one (ps : List Nat) (i : Nat) (k : MTree)
  | two (ps : List Nat) (i j : Nat) (k l : MTree)
section
variable {P : Program} {ops : Array Oper} {Q : Exit → Act → World → Prop}
def wpTree (P : Program) (ops : Array Oper) (Q : Exit → Act → World → Prop) : MTree → Act → World → Prop
  | .done last, a, w => wpPure P ops (fun a' => Q .normal a' w) (opsAt ops last) a
  | .one ps i k, a, w => wpPure P ops (fun a' => wpList P ops (Exit.then (wpTree P ops Q k) Q) [ops.getD i default] a' w) (opsAt ops ps) a
  | .two ps i j k l, a, w => wpPure P ops (fun a' => wpList P ops (Exit.then (wpTree P ops Q k) Q) [ops.getD i default] a' w ∧ wpList P ops (Exit.then (wpTree P ops Q l) Q) [ops.getD j default] a' w) (opsAt ops ps) a
theorem wpTree_loud {a : Act} {w : World} {o : Oper} {t : MTree}
    (h : ∀ K : Act → World → Prop, (∀ a w, wpTree P ops Q t a w → K a w) → wpList P ops (Exit.then K Q) [o] a w) : wpList P ops (Exit.then (wpTree P ops Q t) Q) [o] a w :=
  h _ (fun _ _ h => h)
def treeB (md : Region.Mode) (ops : Array Oper) : MTree → Array Bool → Bool
  | .done last, listed => mixPureB md ops (fun l => (Region.ready md ops l).isEmpty) last listed
  | .one ps i k, listed => mixPureB md ops (fun l => decide (Region.ready md ops l = [i]) && treeB md ops k (l.setIfInBounds i true)) ps listed
  | .two ps i j k m, listed => mixPureB md ops (fun l => decide (Region.ready md ops l = [i, j]) && treeB md ops k (l.setIfInBounds i true) && treeB md ops m (l.setIfInBounds j true)) ps listed
/-- How many operations come up; both branches are as long. -/
def treeLen : MTree → Option Nat
  | .done last => some last.length
  | .one ps _ k => (treeLen k).map fun n => ps.length + (n + 1)
  | .two ps _ _ k l => match treeLen k, treeLen l with
    | some n, some m => if n = m then some (ps.length + (n + 1)) else none
    | _, _ => none

theorem loud_step {md : Region.Mode} {i : Nat} {l : Array Bool} {a : Act} {w : World} {n : Nat} {T : Act → World → Prop} (hi' : i ∈ Region.ready md ops l)
    (hT : ∀ a' w', T a' w' → wpAny P md ops Q n (l.setIfInBounds i true) a' w') (hk : wpList P ops (Exit.then T Q) [ops.getD i default] a w) :
    wpOp P ops Q i (wpAny P md ops Q n (l.setIfInBounds i true)) a w := by
  have hi := some_of_ready hi'
  have hk : if Region.wanted (ops.getD i default) (yielded ops a.tmps) then
      (ops.getD i default).wp P a w (fun a w => Exit.then T Q .normal a w) (Exit.then T Q) ∨ ((ops.getD i default).asks P a w ∧ LetsOut (Exit.then T Q))
      else Exit.then T Q .normal (a.put (ops.getD i default).dst undef) w := hk
  unfold wpOp
  simp only [hi]
  split
  · rename_i hw
    rw [if_pos hw] at hk
    rcases hk with hk | ⟨h1, h2⟩
    · exact .inl (Oper.wp_mono (fun a' w' h' => hT a' w' h') (Oper.wp_then hk))
    · exact .inr ⟨h1, h2⟩
  · rename_i hw
    rw [if_neg hw] at hk
    exact hT _ _ hk

theorem tree_any {md : Region.Mode} (hs : Region.noSelect ops = true) (hQ : ∀ c (a : Act) d v w, Q (.panic c) (a.put d v) w → Q (.panic c) a w) : ∀ (t : MTree) (N : Nat) (listed : Array Bool) (a : Act) (w : World),
    treeLen t = some N → treeB md ops t listed = true → wpTree P ops Q t a w → wpAny P md ops Q N listed a w
  | .done last, N, listed, a, w, hN, hB, h => by
    obtain rfl : last.length = N := by simpa [treeLen] using hN
    have := mix_pure (P := P) (n := 0) hs hQ (K := fun a' => Q .normal a' w) (w := w) (k := fun l => (Region.ready md ops l).isEmpty) (md := md)
      (fun l a hl hk => ⟨by simpa using hl, hk⟩) last listed a hB h
    simpa using this
  | .one ps i k, N, listed, a, w, hN, hB, h => by
    simp only [treeLen, Option.map_eq_some_iff] at hN
    obtain ⟨n, hn, rfl⟩ := hN
    refine mix_pure (n := n + 1) hs hQ (md := md) ?_ ps listed a hB h
    intro l a hl hk
    simp only [Bool.and_eq_true, decide_eq_true_eq] at hl
    obtain ⟨hr, hB'⟩ := hl
    refine wpAny_all hr (by simp) ?_
    intro j hj
    obtain rfl : j = i := by simpa using hj
    exact loud_step (by rw [hr]; simp) (fun a' w' h' => tree_any hs hQ k n _ a' w' hn hB' h') hk
  | .two ps i j k m, N, listed, a, w, hN, hB, h => by
    simp only [treeLen] at hN
    split at hN
    · rename_i n n' hn hn'
      split at hN
      · rename_i e
        subst e
        cases hN
        refine mix_pure (n := n + 1) hs hQ (md := md) ?_ ps listed a hB h
        intro l a hl hk
        simp only [Bool.and_eq_true, decide_eq_true_eq] at hl
        obtain ⟨⟨hr, hB1⟩, hB2⟩ := hl
        refine wpAny_all hr (by simp) ?_
        intro q hq
        have hq : q = i ∨ q = j := by simpa using hq
        rcases hq with rfl | rfl
        · exact loud_step (by rw [hr]; simp) (fun a' w' h' => tree_any hs hQ k n _ a' w' hn hB1 h') hk.1
        · exact loud_step (by rw [hr]; simp) (fun a' w' h' => tree_any hs hQ m n _ a' w' hn' hB2 h') hk.2
      · cases hN
    · cases hN

theorem wp_region_tree {id : Nat} {a : Act} {w : World} {l : List Oper} (t : MTree) (hm : P.follows .mixedOrders = true)
    (hB : (Region.noSelect l.toArray && decide (treeLen t = some l.toArray.size) && treeB .any l.toArray t (Array.replicate l.toArray.size false)) = true)
    (hQ : ∀ c (a : Act) d v w, Q (.panic c) (a.put d v) w → Q (.panic c) a w)
    (h : wpTree P l.toArray Q t a w.drew) : (Code.region id l.toArray true).wp P Q a w := by
  simp only [Bool.and_eq_true, decide_eq_true_eq] at hB
  obtain ⟨⟨h1, h2⟩, h3⟩ := hB
  exact wp_region_any hm (tree_any (md := .any) h1 hQ t _ _ a _ h2 h3 h)
end
end Go
