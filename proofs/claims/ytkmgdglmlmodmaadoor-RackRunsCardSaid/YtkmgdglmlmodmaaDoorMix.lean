/- A region that draws its order: operations that yield their value in whatever world, and others that follow each other in one order: one walk, along an order that is told, serves every order. -/
import Derived.WalkKit
import Derived.Orders
namespace Go
set_option linter.unusedVariables false
section
variable {P : Program} {ops : Array Oper} {Q : Exit → Act → World → Prop}

/-- Operations that yield their value in whatever world, one behind the other. -/
def wpPure (P : Program) (ops : Array Oper) (K : Act → Prop) : List Oper → Act → Prop
  | [], a => K a
  | o :: rest, a => if Region.wanted o (yielded ops a.tmps) then ∃ v, (∀ w, (execOp a.eval o).run P w = .ok (.value v) w) ∧ wpPure P ops K rest (a.put o.dst v) else wpPure P ops K rest (a.put o.dst undef)
theorem wpPure_nil {K : Act → Prop} {a : Act} (h : K a) : wpPure P ops K [] a := h
theorem wpPure_step {K : Act → Prop} {a : Act} {o : Oper} {rest : List Oper}
    (h : ∀ K' : Act → Prop, (∀ a, wpPure P ops K rest a → K' a) → if Region.wanted o (yielded ops a.tmps) then ∃ v, (∀ w, (execOp a.eval o).run P w = .ok (.value v) w) ∧ K' (a.put o.dst v) else K' (a.put o.dst undef)) : wpPure P ops K (o :: rest) a :=
  h _ (fun _ h => h)

/-- The walk along an order: groups of such operations, behind each one other; at last a group. -/
def wpMix (P : Program) (ops : Array Oper) (Q : Exit → Act → World → Prop) : List (List Oper × Oper) → List Oper → Act → World → Prop
  | [], last, a, w => wpPure P ops (fun a' => Q .normal a' w) last a
  | (ps, o) :: rest, last, a, w => wpPure P ops (fun a' => wpList P ops (Exit.then (wpMix P ops Q rest last) Q) [o] a' w) ps a
theorem wpMix_loud {a : Act} {w : World} {o : Oper} {rest : List (List Oper × Oper)} {last : List Oper}
    (h : ∀ K : Act → World → Prop, (∀ a w, wpMix P ops Q rest last a w → K a w) → wpList P ops (Exit.then K Q) [o] a w) : wpList P ops (Exit.then (wpMix P ops Q rest last) Q) [o] a w :=
  h _ (fun _ _ h => h)

def mixPureB (md : Region.Mode) (ops : Array Oper) (k : Array Bool → Bool) : List Nat → Array Bool → Bool
  | [], listed => k listed
  | i :: rest, listed => (Region.ready md ops listed).contains i && Region.free md ops listed i && mixPureB md ops k rest (listed.setIfInBounds i true)
def mixB (md : Region.Mode) (ops : Array Oper) : List (List Nat × Nat) → List Nat → Array Bool → Bool
  | [], last, listed => mixPureB md ops (fun l => (Region.ready md ops l).isEmpty) last listed
  | (ps, i) :: rest, last, listed => mixPureB md ops (fun l => decide (Region.ready md ops l = [i]) && mixB md ops rest last (l.setIfInBounds i true)) ps listed
def opsAt (ops : Array Oper) (σ : List Nat) : List Oper := σ.map fun i => ops.getD i default

theorem Oper.wp_then {o : Oper} {a : Act} {w : World} {K K' : Act → World → Prop} (hh : o.wp P a w K (Exit.then K' Q)) : o.wp P a w K Q := by
  unfold Oper.wp at *
  generalize (execOp a.eval o).run P w = r at *
  cases r with
  | ok n w' =>
    cases n <;> simp only [Oper.upon] at hh ⊢ <;>
      first
        | exact hh
        | exact Calls.mono hh (fun e w'' he => by cases e <;> exact he)
  | halt x w' => cases x <;> simp only [Oper.upon] at hh ⊢ <;> exact hh

theorem getD_of_some {i : Nat} {o : Oper} (h : ops[i]? = some o) : ops.getD i default = o := by
  simp [Array.getD_eq_getD_getElem?, h]
theorem some_of_ready {md : Region.Mode} {i : Nat} {listed : Array Bool} (h : i ∈ Region.ready md ops listed) : ops[i]? = some (ops.getD i default) := by
  obtain ⟨_, o, ho, _⟩ := mem_ready.1 h
  rw [getD_of_some ho]; exact ho

theorem mix_pure {md : Region.Mode} (hs : Region.noSelect ops = true) (hQ : ∀ c (a : Act) d v w, Q (.panic c) (a.put d v) w → Q (.panic c) a w) {k : Array Bool → Bool} {K : Act → Prop} {w : World} {n : Nat}
    (hK : ∀ listed a, k listed = true → K a → wpAny P md ops Q n listed a w) : ∀ (σ : List Nat) (listed : Array Bool) (a : Act), mixPureB md ops k σ listed = true → wpPure P ops K (opsAt ops σ) a →
    wpAny P md ops Q (σ.length + n) listed a w
  | [], listed, a, hB, h => by rw [List.length_nil, Nat.zero_add]; exact hK listed a hB h
  | i :: σ, listed, a, hB, h => by
    simp only [mixPureB, Bool.and_eq_true] at hB
    obtain ⟨⟨hr, hf⟩, hB'⟩ := hB
    have hr' : i ∈ Region.ready md ops listed := by simpa using hr
    have hi := some_of_ready hr'
    have h : if Region.wanted (ops.getD i default) (yielded ops a.tmps) then ∃ v, (∀ w, (execOp a.eval (ops.getD i default)).run P w = .ok (.value v) w) ∧ wpPure P ops K (opsAt ops σ) (a.put (ops.getD i default).dst v) else wpPure P ops K (opsAt ops σ) (a.put (ops.getD i default).dst undef) := h
    rw [show (i :: σ).length + n = (σ.length + n) + 1 by simp; omega]
    by_cases hw : Region.wanted (ops.getD i default) (yielded ops a.tmps) = true
    · rw [if_pos hw] at h
      obtain ⟨v, hv, h2⟩ := h
      exact wpAny_take hi hs hf hr (fun c a w h => hQ c _ _ _ w h) (.inl ⟨hw, hv⟩) (mix_pure hs hQ hK σ _ _ hB' h2)
    · rw [if_neg hw] at h
      exact wpAny_take hi hs hf hr (fun c a w h => hQ c _ _ _ w h) (.inr ⟨by simpa using hw, rfl⟩) (mix_pure hs hQ hK σ _ _ hB' h)

def mixLen : List (List Nat × Nat) → List Nat → Nat
  | [], last => last.length
  | (ps, _) :: rest, last => ps.length + (mixLen rest last + 1)

theorem mix_any {md : Region.Mode} (hs : Region.noSelect ops = true) (hQ : ∀ c (a : Act) d v w, Q (.panic c) (a.put d v) w → Q (.panic c) a w) (last : List Nat) : ∀ (segs : List (List Nat × Nat)) (listed : Array Bool) (a : Act) (w : World),
    mixB md ops segs last listed = true → wpMix P ops Q (segs.map fun s => (opsAt ops s.1, ops.getD s.2 default)) (opsAt ops last) a w → wpAny P md ops Q (mixLen segs last) listed a w
  | [], listed, a, w, hB, h => by
    have := mix_pure (P := P) (n := 0) hs hQ (K := fun a' => Q .normal a' w) (w := w) (k := fun l => (Region.ready md ops l).isEmpty) (md := md)
      (fun l a hl hk => ⟨by simpa using hl, hk⟩) last listed a hB h
    simpa [mixLen] using this
  | (ps, i) :: rest, listed, a, w, hB, h => by
    refine mix_pure (n := mixLen rest last + 1) hs hQ (md := md) ?_ ps listed a hB h
    intro l a hl hk
    simp only [Bool.and_eq_true, decide_eq_true_eq] at hl
    obtain ⟨hr, hB'⟩ := hl
    refine wpAny_all hr (by simp) ?_
    intro j hj
    obtain rfl : j = i := by simpa using hj
    have hi := some_of_ready (ops := ops) (md := md) (listed := l) (i := j) (by rw [hr]; simp)
    have hk : if Region.wanted (ops.getD j default) (yielded ops a.tmps) then
        (ops.getD j default).wp P a w (fun a w => Exit.then (wpMix P ops Q (rest.map fun s => (opsAt ops s.1, ops.getD s.2 default)) (opsAt ops last)) Q .normal a w) (Exit.then (wpMix P ops Q (rest.map fun s => (opsAt ops s.1, ops.getD s.2 default)) (opsAt ops last)) Q)
          ∨ ((ops.getD j default).asks P a w ∧ LetsOut (Exit.then (wpMix P ops Q (rest.map fun s => (opsAt ops s.1, ops.getD s.2 default)) (opsAt ops last)) Q))
        else Exit.then (wpMix P ops Q (rest.map fun s => (opsAt ops s.1, ops.getD s.2 default)) (opsAt ops last)) Q .normal (a.put (ops.getD j default).dst undef) w := hk
    unfold wpOp
    simp only [hi]
    split
    · rename_i hw
      rw [if_pos hw] at hk
      rcases hk with hk | ⟨h1, h2⟩
      · exact .inl (Oper.wp_mono (fun a' w' h' => mix_any hs hQ last rest _ a' w' hB' h') (Oper.wp_then hk))
      · exact .inr ⟨h1, h2⟩
    · rename_i hw
      rw [if_neg hw] at hk
      exact mix_any hs hQ last rest _ _ w hB' hk

theorem wp_region_mix {id : Nat} {a : Act} {w : World} {l : List Oper} (segs : List (List Nat × Nat)) (last : List Nat) (hm : P.follows .mixedOrders = true)
    (hB : (Region.noSelect l.toArray && decide (mixLen segs last = l.toArray.size) && mixB .any l.toArray segs last (Array.replicate l.toArray.size false)) = true)
    (hQ : ∀ c (a : Act) d v w, Q (.panic c) (a.put d v) w → Q (.panic c) a w)
    (h : wpMix P l.toArray Q (segs.map fun s => (opsAt l.toArray s.1, l.toArray.getD s.2 default)) (opsAt l.toArray last) a w.drew) : (Code.region id l.toArray true).wp P Q a w := by
  simp only [Bool.and_eq_true, decide_eq_true_eq] at hB
  obtain ⟨⟨h1, h2⟩, h3⟩ := hB
  refine wp_region_any hm ?_
  have := mix_any (md := .any) h1 hQ last segs _ a _ h3 h
  rwa [h2] at this
end
end Go
