/- A region that draws its order, walked along one told order (a tree, where two may come up): operations that yield one value in every world in which all stands that stood (loads, calls that leave what was), and loud ones, which leave what was too; at last a tail that comes in one order. -/
import Derived.Test.YtkmgdglmlmodmaaDoorQuietTail
import Derived.Test.YtkmgdglmlmodmaaDoorMix
import Derived.Test.YtkmgdglmlmodmaaDoorBase
import Derived.Laws.Tables
namespace Go.Proofs.YtkmgdglmlmodmaaDoor
set_option linter.unusedVariables false
open Go
section
variable {P : Program} {ops : Array Oper} {Q : Exit → Act → World → Prop} {md : Region.Mode}

/-- The worlds in which all stands that stood in w. -/
def ExtW (w : World) : Type := {w' : World // Ext w w'}
instance (w : World) : Nonempty (ExtW w) := ⟨⟨w, Ext.refl w⟩⟩
def ExtW.w {w : World} (x : ExtW w) : World := x.1
theorem ExtW.ext {w : World} (x : ExtW w) : Ext w x.w := x.2

def YieldsE (P : Program) (ops : Array Oper) (w0 : World) (o : Oper) (v : Value) (a : Act) : Prop :=
  (Region.wanted o (yielded ops a.tmps) = true ∧ ∀ w, Ext w0 w → o.quietAt P a (Ext w) w v) ∨ (Region.wanted o (yielded ops a.tmps) = false ∧ v = undef)
theorem YieldsE.mono {w0 w1 : World} {o : Oper} {v : Value} {a : Act} (h : YieldsE P ops w0 o v a) (e : Ext w0 w1) : YieldsE P ops w1 o v a :=
  h.imp (fun ⟨h1, h2⟩ => ⟨h1, fun w hw => h2 w (Ext.trans e hw)⟩) id
theorem YieldsE.of_same {w0 : World} {o : Oper} {v : Value} {a a' : Act} (hy : YieldsE P ops w0 o v a) (he : execOp a'.eval o = execOp a.eval o)
    (hw : Region.wanted o (yielded ops a'.tmps) = Region.wanted o (yielded ops a.tmps)) : YieldsE P ops w0 o v a' := by
  unfold YieldsE Oper.quietAt at *
  rw [he, hw]
  exact hy
theorem YieldsE.wpOp {w0 : World} {i : Nat} {o : Oper} {v : Value} {a : Act} (hi : ops[i]? = some o) (hy : YieldsE P ops w0 o v a) {w : World} (hw : Ext w0 w) {K : Act → World → Prop}
    (h : ∀ w', Ext w w' → K (a.put o.dst v) w') : wpOp P ops Q i K a w := by
  unfold Go.wpOp
  simp only [hi]
  rcases hy with ⟨hwt, hv⟩ | ⟨hwt, rfl⟩
  · simp only [hwt, if_true]
    refine .inl ?_
    have h3 := hv w hw
    unfold Oper.quietAt at h3
    unfold Oper.wp
    generalize (execOp a.eval o).run P w = r at *
    cases r with
    | ok n w' =>
      cases n <;> simp only [Oper.quietUpon] at h3 <;> simp only [Oper.upon]
      case value u => obtain ⟨e1, e2⟩ := h3; rw [e1, e2]; exact h _ (Ext.refl _)
      case skip => obtain ⟨e1, e2⟩ := h3; rw [e1, ← e2]; exact h _ (Ext.refl _)
      case enter f args =>
        obtain ⟨e1, hc⟩ := h3
        rw [e1]
        exact hc.mono fun e w'' ⟨he, hw''⟩ => by subst he; exact h _ hw''
    | halt x w' => simp only [Oper.quietUpon] at h3
  · simp only [hwt, Bool.false_eq_true, if_false]; exact h _ (Ext.refl _)
theorem wpOp_putE {w0 : World} {j : Nat} {oi oj : Oper} {v : Value} (hj : ops[j]? = some oj) (hap : oi.apart ops oj = true)
    (hsi : ∀ cs b, oi.op ≠ .select cs b) (hsj : ∀ cs b, oj.op ≠ .select cs b)
    (hQ : ∀ c a w, Q (.panic c) (a.put oi.dst v) w → Q (.panic c) a w) {K : Act → World → Prop} {a : Act} {w : World}
    (hy : YieldsE P ops w0 oi v a) (h : wpOp P ops Q j K (a.put oi.dst v) w) :
    wpOp P ops Q j (fun a' w' => YieldsE P ops w0 oi v a' ∧ K (a'.put oi.dst v) w') a w := by
  obtain ⟨h1, h2, h3⟩ := Oper.apart_spec hap
  have keep : ∀ (a : Act), YieldsE P ops w0 oi v a → ∀ u, YieldsE P ops w0 oi v (a.put oj.dst u) := fun a hy u =>
    hy.of_same (execOp_put oi hsi a oj.dst u h3) (wanted_put oi a oj.dst u h3)
  have keepD : ∀ d, YieldsE P ops w0 oi v { a with defers := d :: a.defers } := fun d => hy.of_same rfl rfl
  unfold Go.wpOp at *
  simp only [hj] at *
  rw [wanted_put oj a oi.dst v h1] at h
  split
  · rename_i hw
    simp only [hw, if_true] at h
    rcases h with h | ⟨hasks, hlets⟩
    case inr => exact .inr ⟨by unfold Oper.asks at *; rw [execOp_put oj hsj a oi.dst v h1] at hasks; exact hasks, hlets⟩
    refine .inl ?_
    unfold Oper.wp at *
    rw [execOp_put oj hsj a oi.dst v h1] at h
    generalize (execOp a.eval oj).run P w = r at *
    cases r with
    | ok n w' =>
      cases n <;> simp only [Oper.upon] at h ⊢
      case value u => exact ⟨keep a hy u, by rw [← Act.put_comm a v u h2]; exact h⟩
      case skip => exact ⟨keep a hy _, by rw [← Act.put_comm a v undef h2]; exact h⟩
      case defer d =>
        refine ⟨keep _ (keepD d) _, ?_⟩
        rw [← Act.put_comm _ v undef h2, ← Act.put_defers]
        exact h
      case enter f args =>
        refine Calls.mono h fun e w'' he => ?_
        cases e with
        | returned u => exact ⟨keep a hy u, by rw [← Act.put_comm a v u h2]; exact he⟩
        | panicked c => exact hQ _ _ _ he
        | outgrown => exact he
      case row row args => exact Rows.mono h fun u w'' he => ⟨keep a hy u, by rw [← Act.put_comm a v u h2]; exact he⟩
    | halt x w' =>
      cases x <;> simp only [Oper.upon] at h ⊢
      case panic u => exact hQ _ _ _ h
  · rename_i hw
    simp only [hw] at h
    exact ⟨keep a hy _, by rw [← Act.put_comm a v undef h2]; exact h⟩

/-- Whatever order is picked from here on among the first n operations, each of which leaves what was; behind them L. -/
def eAny (P : Program) (md : Region.Mode) (ops : Array Oper) (Q : Exit → Act → World → Prop) (n : Nat) (L : Array Bool → Act → World → Prop) : Nat → Array Bool → Act → World → Prop
  | 0, listed, a, w => L listed a w
  | f + 1, listed, a, w => Region.ready md ops listed ≠ [] ∧ ∀ i ∈ Region.ready md ops listed, i < n ∧
      ∀ w', Ext w w' → wpOp P ops Q i (fun a'' w'' => Ext w' w'' ∧ eAny P md ops Q n L f (listed.setIfInBounds i true) a'' w'') a w'
theorem eAny_wp {n g : Nat} {L : Array Bool → Act → World → Prop} (hL : ∀ listed a w, L listed a w → wpAny P md ops Q g listed a w) :
    ∀ (f : Nat) (listed : Array Bool) (a : Act) (w : World), eAny P md ops Q n L f listed a w → wpAny P md ops Q (f + g) listed a w
  | 0, listed, a, w, h => by rw [Nat.zero_add]; exact hL _ _ _ h
  | f + 1, listed, a, w, h => by
    rw [show f + 1 + g = (f + g) + 1 by omega]
    exact ⟨fun h0 => absurd h0 h.1, fun i hi => wpOp_mono (fun a' w' h' => eAny_wp hL f _ a' w' h'.2) ((h.2 i hi).2 w (Ext.refl w))⟩
theorem eAny_ext {n : Nat} {L : Array Bool → Act → World → Prop} (hL : ∀ listed a w w', Ext w w' → L listed a w → L listed a w') :
    ∀ (f : Nat) (listed : Array Bool) (a : Act) (w w' : World), Ext w w' → eAny P md ops Q n L f listed a w → eAny P md ops Q n L f listed a w'
  | 0, listed, a, w, w', e, h => hL _ _ _ _ e h
  | f + 1, listed, a, w, w', e, h => ⟨h.1, fun i hi => ⟨(h.2 i hi).1, fun w2 e2 => (h.2 i hi).2 w2 (Ext.trans e e2)⟩⟩

theorem eAny_first {n i : Nat} {oi : Oper} {v : Value} {L : Array Bool → Act → World → Prop} (hi : ops[i]? = some oi) (hsel : ∀ (j : Nat) (o : Oper) cs b, ops[j]? = some o → o.op ≠ .select cs b)
    (hQ : ∀ c (a : Act) d v w, Q (.panic c) (a.put d v) w → Q (.panic c) a w)
    (hwait : ∀ listed, HeadInv md ops n listed → listed.getD i true = false → ∀ j ∈ Region.ready md ops listed, j < n) (hin : i < n)
    (hL : ∀ listed a w w', Ext w w' → L listed a w → L listed a w')
    (hdone : ∀ listed a w, L listed a w → ∀ j ∈ Region.ready md ops listed, n ≤ j) :
    ∀ (f : Nat) (listed : Array Bool) (a : Act) (w : World), HeadInv md ops n listed →
      (∀ j oj, ops[j]? = some oj → j ≠ i → listed.getD j true = false → (∀ e ∈ oj.after, Region.binds md e = true → e.on ≠ i) → oi.apart ops oj = true) →
      i ∈ Region.ready md ops listed → YieldsE P ops w oi v a →
      eAny P md ops Q n L f (listed.setIfInBounds i true) (a.put oi.dst v) w → eAny P md ops Q n L (f + 1) listed a w := by
  intro f
  induction f with
  | zero =>
    intro listed a w inv _ hr hy H
    have hun := (mem_ready.1 hr).1
    refine ⟨fun h => (by rw [h] at hr; cases hr), fun j hj => ⟨hwait _ inv hun j hj, fun w' hw' => ?_⟩⟩
    by_cases hji : j = i
    · subst hji; exact hy.wpOp hi hw' fun w'' e => ⟨e, hL _ _ _ _ (Ext.trans hw' e) H⟩
    · have h1 := hdone _ _ _ H j (ready_mono hj hji)
      have h2 := hwait _ inv hun j hj
      omega
  | succ f ih =>
    intro listed a w inv hfree hr hy H
    have hun := (mem_ready.1 hr).1
    refine ⟨fun h => (by rw [h] at hr; cases hr), fun j hj => ⟨hwait _ inv hun j hj, fun w' hw' => ?_⟩⟩
    have hjn := hwait _ inv hun j hj
    by_cases hji : j = i
    · subst hji; exact hy.wpOp hi hw' fun w'' e => ⟨e, eAny_ext hL _ _ _ _ _ (Ext.trans hw' e) H⟩
    · have h1 := (H.2 j (ready_mono hj hji)).2 w' hw'
      obtain ⟨hjun, oj, hoj, hall⟩ := mem_ready.1 hj
      have hnot : ∀ e ∈ oj.after, Region.binds md e = true → e.on ≠ i := fun e he hb heq => by
        have h1 := hall e he hb
        rw [heq, getD_both hun] at h1
        cases h1
      have h2 := wpOp_putE hoj (hfree j oj hoj hji hjun hnot) (fun cs b => hsel i oi cs b hi) (fun cs b => hsel j oj cs b hoj) (fun c a w h => hQ c _ _ _ w h) hy h1
      have hfree' : ∀ k ok, ops[k]? = some ok → k ≠ i → (listed.setIfInBounds j true).getD k true = false →
          (∀ e ∈ ok.after, Region.binds md e = true → e.on ≠ i) → oi.apart ops ok = true := fun k ok hk hki hun hno => by
        refine hfree k ok hk hki ?_ hno
        by_cases hjk : j = k
        · subst hjk; exact hjun
        · rw [getD_set_ne true hjk] at hun; exact hun
      refine wpOp_mono (fun a' w'' h3 => ⟨h3.2.1, ih (listed.setIfInBounds j true) a' w'' (inv.set hj hjn) hfree' (ready_mono hr (Ne.symm hji)) (h3.1.mono (Ext.trans hw' h3.2.1)) ?_⟩) h2
      rw [Array.setIfInBounds_comm _ _ hji]
      exact h3.2.2

/-- One value in every world in which all stands that stood, one behind the other. -/
def wpEQ (P : Program) (ops : Array Oper) (w : World) (K : Act → Prop) : List Oper → Act → Prop
  | [], a => K a
  | o :: rest, a => if Region.wanted o (yielded ops a.tmps) then ∃ v, (∀ x : ExtW w, o.quietAt P a (Ext x.w) x.w v) ∧ wpEQ P ops w K rest (a.put o.dst v) else wpEQ P ops w K rest (a.put o.dst undef)
theorem wpEQ_nil {w : World} {K : Act → Prop} {a : Act} (h : K a) : wpEQ P ops w K [] a := h
theorem wpEQ_step {w : World} {K : Act → Prop} {a : Act} {o : Oper} {rest : List Oper}
    (h : ∀ K' : Act → Prop, (∀ a, wpEQ P ops w K rest a → K' a) → if Region.wanted o (yielded ops a.tmps) then ∃ v, (∀ x : ExtW w, o.quietAt P a (Ext x.w) x.w v) ∧ K' (a.put o.dst v) else K' (a.put o.dst undef)) : wpEQ P ops w K (o :: rest) a :=
  h _ (fun _ h => h)
theorem wpEQ_build {w : World} {K : Act → Prop} {a : Act} {o : Oper} {rest : List Oper} (hgd : o.guard = none) (t : TypeId) (parts : Array (Nat × Operand)) (ho : o.op = .build t parts) (A : Array Value)
    (hb : P.built t (parts.map fun (i, x) => (i, a.eval x)).toList = some A) (h : wpEQ P ops w K rest (a.put o.dst (.agg A))) : wpEQ P ops w K (o :: rest) a := by
  have hw : Region.wanted o (yielded ops a.tmps) = true := by unfold Region.wanted; rw [hgd]
  have h0 : wpEQ P ops w K (o :: rest) a = if Region.wanted o (yielded ops a.tmps) then ∃ v, (∀ x : ExtW w, o.quietAt P a (Ext x.w) x.w v) ∧ wpEQ P ops w K rest (a.put o.dst v) else wpEQ P ops w K rest (a.put o.dst undef) := rfl
  rw [h0, if_pos hw]
  refine ⟨_, fun x => ?_, h⟩
  unfold Oper.quietAt execOp
  simp only [ho, Sem.run_bind, run_build x.w t _ A hb, Result.andThen_ok]
  exact ⟨rfl, rfl⟩
inductive ETree where
  | fin (ps : List Nat)
  | one (ps : List Nat) (i : Nat) (k : ETree)
  | two (ps : List Nat) (i j : Nat) (k l : ETree)
def wpE (P : Program) (ops : Array Oper) (Q : Exit → Act → World → Prop) (T : Act → World → Prop) : ETree → Act → World → Prop
  | .fin ps, a, w => wpEQ P ops w (fun a' => ∀ w', Ext w w' → T a' w') (opsAt ops ps) a
  | .one ps i k, a, w => wpEQ P ops w (fun a' => ∀ w', Ext w w' → wpList P ops (Exit.then (fun a'' w'' => Ext w' w'' ∧ wpE P ops Q T k a'' w'') Q) [ops.getD i default] a' w') (opsAt ops ps) a
  | .two ps i j k l, a, w => wpEQ P ops w (fun a' => ∀ w', Ext w w' → wpList P ops (Exit.then (fun a'' w'' => Ext w' w'' ∧ wpE P ops Q T k a'' w'') Q) [ops.getD i default] a' w' ∧ wpList P ops (Exit.then (fun a'' w'' => Ext w' w'' ∧ wpE P ops Q T l a'' w'') Q) [ops.getD j default] a' w') (opsAt ops ps) a
theorem wpE_loud {a : Act} {w' : World} {o : Oper} {k : ETree} {T : Act → World → Prop}
    (h : ∀ K : Act → World → Prop, (∀ a w, Ext w' w → wpE P ops Q T k a w → K a w) → wpList P ops (Exit.then K Q) [o] a w') : wpList P ops (Exit.then (fun a'' w'' => Ext w' w'' ∧ wpE P ops Q T k a'' w'') Q) [o] a w' :=
  h _ (fun _ _ h1 h2 => ⟨h1, h2⟩)
def eB (md : Region.Mode) (ops : Array Oper) (n : Nat) (g : Array Bool → Bool) : ETree → Array Bool → Bool
  | .fin ps, listed => mixPureB md ops g ps listed && ps.all (decide <| · < n)
  | .one ps i k, listed => mixPureB md ops (fun l => decide (Region.ready md ops l = [i]) && eB md ops n g k (l.setIfInBounds i true)) ps listed && ps.all (decide <| · < n) && decide (i < n)
  | .two ps i j k m, listed => mixPureB md ops (fun l => decide (Region.ready md ops l = [i, j]) && eB md ops n g k (l.setIfInBounds i true) && eB md ops n g m (l.setIfInBounds j true)) ps listed && ps.all (decide <| · < n) && decide (i < n) && decide (j < n)
def eLen : ETree → Option Nat
  | .fin ps => some ps.length
  | .one ps _ k => (eLen k).map fun n => ps.length + (n + 1)
  | .two ps _ _ k l => match eLen k, eLen l with
    | some n, some m => if n = m then some (ps.length + (n + 1)) else none
    | _, _ => none
theorem loudE {i : Nat} {l : Array Bool} {a : Act} {w : World} {T K : Act → World → Prop} (hi' : i ∈ Region.ready md ops l)
    (hT : ∀ a' w', T a' w' → K a' w') (hk : wpList P ops (Exit.then T Q) [ops.getD i default] a w) : wpOp P ops Q i K a w := by
  have hi := some_of_ready hi'
  have hk : if Region.wanted (ops.getD i default) (yielded ops a.tmps) then
      (ops.getD i default).wp P a w (fun a w => Exit.then T Q .normal a w) (Exit.then T Q) ∨ ((ops.getD i default).asks P a w ∧ LetsOut (Exit.then T Q))
      else Exit.then T Q .normal (a.put (ops.getD i default).dst undef) w := hk
  unfold wpOp
  simp only [hi]
  split
  · rename_i hw
    rw [if_pos hw] at hk
    rcases hk with hk | ⟨h1, h2⟩
    · exact .inl (Oper.wp_mono (fun a' w' h' => hT a' w' h') (Oper.wp_then hk))
    · exact .inr ⟨h1, h2⟩
  · rename_i hw
    rw [if_neg hw] at hk
    exact hT _ _ hk

theorem e_pure {n : Nat} {L : Array Bool → Act → World → Prop} (hs : Region.noSelect ops = true) (hQ : ∀ c (a : Act) d v w, Q (.panic c) (a.put d v) w → Q (.panic c) a w)
    (hwait : ∀ i, i < n → ∀ listed, HeadInv md ops n listed → listed.getD i true = false → ∀ j ∈ Region.ready md ops listed, j < n)
    (hL : ∀ listed a w w', Ext w w' → L listed a w → L listed a w') (hdone : ∀ listed a w, L listed a w → ∀ j ∈ Region.ready md ops listed, n ≤ j)
    {k : Array Bool → Bool} {K : Act → Prop} {w : World} {f : Nat} (hK : ∀ listed a, HeadInv md ops n listed → k listed = true → K a → eAny P md ops Q n L f listed a w) :
    ∀ (σ : List Nat) (listed : Array Bool) (a : Act), HeadInv md ops n listed → mixPureB md ops k σ listed = true → σ.all (decide <| · < n) = true → wpEQ P ops w K (opsAt ops σ) a → eAny P md ops Q n L (σ.length + f) listed a w
  | [], listed, a, inv, hB, _, h => by rw [List.length_nil, Nat.zero_add]; exact hK listed a inv hB h
  | i :: σ, listed, a, inv, hB, hn, h => by
    simp only [mixPureB, Bool.and_eq_true] at hB
    obtain ⟨⟨hr, hf⟩, hB'⟩ := hB
    simp only [List.all_cons, Bool.and_eq_true, decide_eq_true_eq] at hn
    have hr' : i ∈ Region.ready md ops listed := by simpa using hr
    have hi := some_of_ready hr'
    have h : if Region.wanted (ops.getD i default) (yielded ops a.tmps) then ∃ v, (∀ x : ExtW w, (ops.getD i default).quietAt P a (Ext x.w) x.w v) ∧ wpEQ P ops w K (opsAt ops σ) (a.put (ops.getD i default).dst v) else wpEQ P ops w K (opsAt ops σ) (a.put (ops.getD i default).dst undef) := h
    rw [show (i :: σ).length + f = (σ.length + f) + 1 by simp; omega]
    by_cases hw : Region.wanted (ops.getD i default) (yielded ops a.tmps) = true
    · rw [if_pos hw] at h
      obtain ⟨v, hv, h2⟩ := h
      exact eAny_first hi (Region.noSelect_spec hs) hQ (hwait i hn.1) hn.1 hL hdone _ listed a w inv (Region.free_spec hi hf) hr' (.inl ⟨hw, fun w' hw' => hv ⟨w', hw'⟩⟩)
        (e_pure hs hQ hwait hL hdone hK σ _ _ (inv.set hr' hn.1) hB' hn.2 h2)
    · rw [if_neg hw] at h
      exact eAny_first hi (Region.noSelect_spec hs) hQ (hwait i hn.1) hn.1 hL hdone _ listed a w inv (Region.free_spec hi hf) hr' (.inr ⟨by simpa using hw, rfl⟩)
        (e_pure hs hQ hwait hL hdone hK σ _ _ (inv.set hr' hn.1) hB' hn.2 h)

theorem e_any {n : Nat} {g : Array Bool → Bool} {T : Act → World → Prop} (hs : Region.noSelect ops = true) (hQ : ∀ c (a : Act) d v w, Q (.panic c) (a.put d v) w → Q (.panic c) a w)
    (hwait : ∀ i, i < n → ∀ listed, HeadInv md ops n listed → listed.getD i true = false → ∀ j ∈ Region.ready md ops listed, j < n)
    (hdone : ∀ listed, g listed = true → ∀ j ∈ Region.ready md ops listed, n ≤ j) : ∀ (t : ETree) (N : Nat) (listed : Array Bool) (a : Act) (w : World), HeadInv md ops n listed →
    eLen t = some N → eB md ops n g t listed = true → wpE P ops Q T t a w → eAny P md ops Q n (fun l a w => g l = true ∧ ∀ w', Ext w w' → T a w') N listed a w
  | .fin ps, N, listed, a, w, inv, hN, hB, h => by
    obtain rfl : ps.length = N := by simpa [eLen] using hN
    simp only [eB, Bool.and_eq_true] at hB
    exact e_pure (f := 0) (k := g) (K := fun a' => ∀ w', Ext w w' → T a' w') hs hQ hwait (fun _ _ _ _ e h => ⟨h.1, fun w' e' => h.2 w' (Ext.trans e e')⟩) (fun l a w h => hdone l h.1) (fun l a _ hg hk => by unfold eAny; exact ⟨hg, hk⟩) ps listed a inv hB.1 hB.2 h
  | .one ps i k, N, listed, a, w, inv, hN, hB, h => by
    simp only [eLen, Option.map_eq_some_iff] at hN
    obtain ⟨m, hm, rfl⟩ := hN
    simp only [eB, Bool.and_eq_true, decide_eq_true_eq] at hB
    refine e_pure (f := m + 1) hs hQ hwait (fun _ _ _ _ e h => ⟨h.1, fun w' e' => h.2 w' (Ext.trans e e')⟩) (fun l a w h => hdone l h.1) ?_ ps listed a inv hB.1.1 hB.1.2 h
    intro l a inv hl hk
    simp only [Bool.and_eq_true, decide_eq_true_eq] at hl
    obtain ⟨hr, hB'⟩ := hl
    refine ⟨by rw [hr]; simp, fun j hj => ?_⟩
    rw [hr] at hj
    obtain rfl : j = i := by simpa using hj
    have hj' : j ∈ Region.ready md ops l := by rw [hr]; simp
    exact ⟨hB.2, fun w' hw' => loudE hj' (fun a' w'' h' => ⟨h'.1, e_any hs hQ hwait hdone k m _ a' w'' (inv.set hj' hB.2) hm hB' h'.2⟩) (hk w' hw')⟩
  | .two ps i j k m, N, listed, a, w, inv, hN, hB, h => by
    simp only [eLen] at hN
    split at hN
    · rename_i n1 n2 hn hn'
      split at hN
      · rename_i e
        subst e
        cases hN
        simp only [eB, Bool.and_eq_true, decide_eq_true_eq] at hB
        refine e_pure (f := n1 + 1) hs hQ hwait (fun _ _ _ _ e h => ⟨h.1, fun w' e' => h.2 w' (Ext.trans e e')⟩) (fun l a w h => hdone l h.1) ?_ ps listed a inv hB.1.1.1 hB.1.1.2 h
        intro l a inv hl hk
        simp only [Bool.and_eq_true, decide_eq_true_eq] at hl
        obtain ⟨⟨hr, hB1⟩, hB2⟩ := hl
        refine ⟨by rw [hr]; simp, fun q hq => ?_⟩
        have hq' := hq
        rw [hr] at hq
        have hq : q = i ∨ q = j := by simpa using hq
        rcases hq with rfl | rfl
        · exact ⟨hB.1.2, fun w' hw' => loudE hq' (fun a' w'' h' => ⟨h'.1, e_any hs hQ hwait hdone k _ _ a' w'' (inv.set hq' hB.1.2) hn hB1 h'.2⟩) (hk w' hw').1⟩
        · exact ⟨hB.2, fun w' hw' => loudE hq' (fun a' w'' h' => ⟨h'.1, e_any hs hQ hwait hdone m _ _ a' w'' (inv.set hq' hB.2) hn' hB2 h'.2⟩) (hk w' hw').2⟩
      · cases hN
    · cases hN

theorem inv0 {n : Nat} : HeadInv md ops n (Array.replicate ops.size false) :=
  ⟨by simp, fun j oj _ hl => (by rw [getD_replicate_false] at hl; cases hl), fun t _ ht => getD_in (by simpa using ht) (getD_replicate_false _ _)⟩

/-- With a tail, from number n on, in one order. -/
theorem wp_region_held_tail {id : Nat} {a : Act} {w : World} {l : List Oper} (n : Nat) (t : ETree) (hm : P.follows .mixedOrders = true)
    (hB : (Region.noSelect l.toArray && decide (n < l.toArray.size) && Region.sinkB .any l.toArray n && Region.chainB .any l.toArray n && decide (eLen t = some n) &&
      eB .any l.toArray n (Region.seqB .any l.toArray (l.toArray.size - n) n) t (Array.replicate l.toArray.size false)) = true)
    (hQ : ∀ c (a : Act) d v w, Q (.panic c) (a.put d v) w → Q (.panic c) a w)
    (h : wpE P l.toArray Q (wpList P l.toArray Q (l.drop n)) t a w.drew) : (Code.region id l.toArray true).wp P Q a w := by
  simp only [Bool.and_eq_true, decide_eq_true_eq] at hB
  obtain ⟨⟨⟨⟨⟨h1, hn⟩, hs⟩, hc⟩, hN⟩, hB⟩ := hB
  refine wp_region_any hm ?_
  have hdl : (l.drop n).length = l.toArray.size - n := by simp
  have H := e_any (P := P) (Q := Q) (md := .any) (n := n) (T := wpList P l.toArray Q (l.drop n)) h1 hQ
    (fun i hi listed inv hun j hj => by
      rcases Nat.lt_or_ge j n with h | h
      · exact h
      · exact absurd hj (tail_waits hs hc hn inv _ i rfl hi hun j h))
    (fun listed hg => seqB_ready hg) t n _ a w.drew inv0 hN hB h
  have := eAny_wp (g := l.toArray.size - n) (fun listed a' w' hL => by
    have := wpAny_of_seq (P := P) (md := .any) (Q' := Q) (l.drop n) n listed a' w' (fun j => by simp [List.getElem?_drop]) (by rw [hdl]; exact hL.1) (hL.2 w' (Ext.refl w'))
    rwa [hdl] at this) _ _ _ _ H
  rw [show n + (l.toArray.size - n) = l.toArray.size by omega] at this
  exact this
/-- Without a tail. -/
theorem wp_region_held_all {id : Nat} {a : Act} {w : World} {l : List Oper} (t : ETree) (hm : P.follows .mixedOrders = true)
    (hB : (Region.noSelect l.toArray && decide (eLen t = some l.toArray.size) &&
      eB .any l.toArray l.toArray.size (fun x => (Region.ready .any l.toArray x).isEmpty) t (Array.replicate l.toArray.size false)) = true)
    (hQ : ∀ c (a : Act) d v w, Q (.panic c) (a.put d v) w → Q (.panic c) a w)
    (h : wpE P l.toArray Q (fun a w => Q .normal a w) t a w.drew) : (Code.region id l.toArray true).wp P Q a w := by
  simp only [Bool.and_eq_true, decide_eq_true_eq] at hB
  obtain ⟨⟨h1, hN⟩, hB⟩ := hB
  refine wp_region_any hm ?_
  have H := e_any (P := P) (Q := Q) (md := .any) (n := l.toArray.size) (T := fun a w => Q .normal a w) h1 hQ
    (fun i hi listed inv hun j hj => by
      obtain ⟨_, o, ho, _⟩ := mem_ready.1 hj
      exact (Array.getElem?_eq_some_iff.1 ho).1)
    (fun listed hg j hj => by
      have : Region.ready .any l.toArray listed = [] := by simpa using hg
      rw [this] at hj; cases hj) t _ _ a w.drew inv0 hN hB h
  have := eAny_wp (g := 0) (fun listed a' w' hL => (⟨by simpa using hL.1, hL.2 w' (Ext.refl w')⟩ : wpAny P .any l.toArray Q 0 listed a' w')) _ _ _ _ H
  exact this
end
end Go.Proofs.YtkmgdglmlmodmaaDoor
