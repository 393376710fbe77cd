/- A map with keys of kind int64: what it has, looked up, written, walked over. No program stands here. -/
import Derived.Test.YtkmgdglmlmodmaaDoorBase
import Derived.Maps.RangeRun
namespace Go.Proofs.YtkmgdglmlmodmaaDoor
set_option linter.unusedVariables false
open Go Go.ChangeMaps
section
variable {P : Program}
def isKeyI (i : Int) (e : MapEntry) : Bool := match e.key with | .int .i64 j => i == j | _ => false
/-- What is found at a key, and where. -/
def mFind (i : Int) : List MapEntry → Nat → Option (Nat × Value)
  | [], _ => none
  | e :: es, k => if isKeyI i e then some (k, e.val) else mFind i es (k + 1)
def mLook (i : Int) (es : List MapEntry) : Option Value := (es.find? (isKeyI i)).map (·.val)
structure MGood (es : List MapEntry) (clock : Nat) : Prop where
  key : ∀ x ∈ es.map (·.key), ∃ i, x = .int .i64 i
  one : (es.map (·.key)).Nodup
  born : ∀ x ∈ es.map (·.born), x < clock
  bone : (es.map (·.born)).Nodup
/-- Block b is a map that has at i just f i. -/
def MapI (w : World) (b : Nat) (f : Int → Option Value) : Prop := ∃ es clock, w.heap[b]? = some (.map es clock) ∧ MGood es.toList clock ∧ ∀ i, mLook i es.toList = f i
theorem MapI.made (w : World) : MapI (w.alloc (.map #[] 0)) w.heap.size fun _ => none :=
  ⟨#[], 0, heap_alloc_new w _, ⟨by simp, by simp, by simp, by simp⟩, fun i => rfl⟩
theorem MapI.same {w w' : World} {b : Nat} {f : Int → Option Value} (h : MapI w b f) (e : w'.heap[b]? = w.heap[b]?) : MapI w' b f := by
  obtain ⟨es, c, h1, h2, h3⟩ := h
  exact ⟨es, c, e.trans h1, h2, h3⟩
theorem MapI.lt {w : World} {b : Nat} {f : Int → Option Value} (h : MapI w b f) : b < w.heap.size := by
  obtain ⟨es, c, h1, _⟩ := h
  exact lt_of_block h1
theorem mFind_look (i : Int) (es : List MapEntry) (k : Nat) : (mFind i es k).map (·.2) = mLook i es := by
  induction es generalizing k with
  | nil => rfl
  | cons e es ih =>
    unfold mFind mLook
    rw [List.find?_cons]
    cases h : isKeyI i e
    · simp only [Bool.false_eq_true, if_false]; rw [ih]; rfl
    · simp
theorem findNow_int (i : Int) (es : List MapEntry) (k : Nat) (h : ∀ x ∈ es.map (·.key), ∃ j, x = .int .i64 j) : Instr.findNow (.int .i64) (.int .i64 i) es k = some (mFind i es k) := by
  induction es generalizing k with
  | nil => rfl
  | cons e es ih =>
    obtain ⟨j, hj⟩ := h e.key (by simp)
    unfold Instr.findNow mFind isKeyI
    rw [hj]
    simp only [Instr.sameNow, if_true]
    by_cases hij : i = j
    · subst hij; simp
    · have : (i == j) = false := by simp [hij]
      simp only [this, Bool.false_eq_true, if_false]
      exact ih _ (fun x hx => h x (by simp only [List.map_cons, List.mem_cons]; exact .inr hx))
theorem run_findKey_int {k : TypeId} (hk : P.underlying k = some (.int .i64)) (i : Int) (es : List MapEntry) (h : ∀ x ∈ es.map (·.key), ∃ j, x = .int .i64 j) (w : World) : (Instr.findKey k (.int .i64 i) es).run P w = .ok (mFind i es 0) w := by
  unfold Instr.findKey
  simp only [Sem.run_bind, run_underlying hk, Result.andThen_ok, findNow_int i es 0 h]
  rfl
theorem run_checkKey_int {k : TypeId} (hk : P.underlying k = some (.int .i64)) (b : Bool) (n : Nat) (i : Int) (w : World) : (Instr.checkKey b (n + 1) k (.int .i64 i)).run P w = .ok () w := by
  unfold Instr.checkKey
  simp only [Sem.run_bind, run_underlying hk, Result.andThen_ok]
  rfl
/-- 'm[i]', 'v, ok := m[i]'. -/
theorem MapI.run_look {w : World} {b : Nat} {f : Int → Option Value} (h : MapI w b f) {t k e : TypeId} (ht : P.underlying t = some (.map k e)) (hk : P.underlying k = some (.int .i64)) {z : Value} (hz : (zeroValue e).run P w = .ok z w) (i : Int) (ok : Bool) :
    (Instr.lookup t (.map (some b)) (.int .i64 i) ok).run P w = .ok (if ok then .tuple #[(f i).getD z, .bool (f i).isSome] else (f i).getD z) w := by
  obtain ⟨es, c, hb, hg, hl⟩ := h
  have h1 := run_findKey_int hk i es.toList hg.key w
  have h2 := mFind_look i es.toList 0
  rw [hl] at h2
  have h3 := run_checkKey_int hk es.isEmpty 9999 i w
  unfold Instr.lookup
  rw [← h2]
  cases hm : mFind i es.toList 0 with
  | none =>
    rw [hm] at h1
    simp [run_underlying ht, MapKept.run_getObj_map hb, h3, h1, hz, Result.andThen]
  | some q =>
    rw [hm] at h1
    simp [run_underlying ht, MapKept.run_getObj_map hb, h3, h1, Result.andThen]
theorem mFind_some (i : Int) (v : Value) : ∀ (es : List MapEntry) (k p : Nat) (v0 : Value), mFind i es k = some (p, v0) →
    ∃ q, p = k + q ∧ (∃ e, es[q]? = some e ∧ e.key = .int .i64 i) ∧ (∀ j, mLook j (es.modify q fun e => { e with key := .int .i64 i, val := v }) = if j = i then some v else mLook j es) ∧
      (es.modify q fun e => { e with key := .int .i64 i, val := v }).map (·.key) = es.map (·.key) ∧ (es.modify q fun e => { e with key := .int .i64 i, val := v }).map (·.born) = es.map (·.born)
  | [], k, p, v0, h => by cases h
  | e :: es, k, p, v0, h => by
    unfold mFind at h
    cases hk : isKeyI i e with
    | true =>
      rw [hk] at h
      obtain ⟨rfl, rfl⟩ : k = p ∧ e.val = v0 := by simpa using h
      have he : e.key = .int .i64 i := by
        unfold isKeyI at hk
        split at hk
        · rename_i j hj; rw [hj, beq_iff_eq.1 hk]
        · cases hk
      refine ⟨0, by omega, ⟨e, rfl, he⟩, fun j => ?_, ?_, ?_⟩
      · unfold mLook
        rw [List.modify_zero_cons, List.find?_cons, List.find?_cons]
        by_cases hj : j = i
        · subst hj; rw [if_pos rfl]; simp [isKeyI]
        · rw [if_neg hj]
          have h1 : isKeyI j { e with key := .int .i64 i, val := v } = false := by simp [isKeyI, hj]
          have h2 : isKeyI j e = false := by simp [isKeyI, he, hj]
          rw [h1, h2]
      · simp [List.modify_zero_cons, he]
      · simp [List.modify_zero_cons]
    | false =>
      rw [hk] at h
      obtain ⟨q, rfl, ⟨e0, h0, h0k⟩, h1, h2, h3⟩ := mFind_some i v es (k + 1) p v0 (by simpa using h)
      refine ⟨q + 1, by omega, ⟨e0, by simpa using h0, h0k⟩, fun j => ?_, ?_, ?_⟩
      · have := h1 j
        unfold mLook at this ⊢
        rw [List.modify_succ_cons, List.find?_cons, List.find?_cons]
        by_cases hj : j = i
        · subst hj; rw [hk]; rw [if_pos rfl] at this ⊢; exact this
        · rw [if_neg hj] at this ⊢
          cases isKeyI j e
          · exact this
          · rfl
      · rw [List.modify_succ_cons, List.map_cons, List.map_cons, h2]
      · rw [List.modify_succ_cons, List.map_cons, List.map_cons, h3]
theorem mFind_none (i : Int) (v : Value) (b : Nat) : ∀ (es : List MapEntry) (k : Nat), mFind i es k = none →
    (∀ j, mLook j (es ++ [⟨.int .i64 i, v, b⟩]) = if j = i then some v else mLook j es) ∧ (.int .i64 i : Value) ∉ es.map (·.key)
  | [], k, h => by
    refine ⟨fun j => ?_, by simp⟩
    by_cases hj : j = i
    · subst hj; simp [mLook, isKeyI]
    · simp [mLook, isKeyI, hj]
  | e :: es, k, h => by
    unfold mFind at h
    cases hk : isKeyI i e with
    | true => rw [hk] at h; cases h
    | false =>
      rw [hk] at h
      obtain ⟨h1, h2⟩ := mFind_none i v b es (k + 1) (by simpa using h)
      refine ⟨fun j => ?_, ?_⟩
      · have := h1 j
        unfold mLook at this ⊢
        rw [List.cons_append, List.find?_cons, List.find?_cons]
        by_cases hj : j = i
        · subst hj; rw [hk]; rw [if_pos rfl] at this ⊢; exact this
        · rw [if_neg hj] at this ⊢
          cases isKeyI j e
          · exact this
          · rfl
      · simp only [List.map_cons, List.mem_cons, not_or]
        refine ⟨fun he => ?_, h2⟩
        unfold isKeyI at hk
        rw [← he] at hk
        simp at hk
theorem run_stays (i : Int) (w : World) : (Instr.keyThatStays (.int .i64 i) (.int .i64 i)).run P w = .ok (.int .i64 i) w := by
  have h : Instr.sameBits 10000 (.int .i64 i) (.int .i64 i) = true := by simp [Instr.sameBits]
  unfold Instr.keyThatStays
  rw [if_pos h]
  rfl
/-- 'm[i] = v'. -/
theorem MapI.run_set {w : World} {b : Nat} {f : Int → Option Value} (h : MapI w b f) {t k e : TypeId} (ht : P.underlying t = some (.map k e)) (hk : P.underlying k = some (.int .i64)) (i : Int) (v : Value) :
    ∃ w', (Instr.mapUpdate t (.map (some b)) (.int .i64 i) v).run P w = .ok () w' ∧ MapI w' b (fun j => if j = i then some v else f j) ∧ Only (fun k => k = b) w w' := by
  obtain ⟨es, c, hb, hg, hl⟩ := h
  have h1 := run_findKey_int hk i es.toList hg.key w
  have h3 := run_checkKey_int hk false 9999 i w
  have hO : ∀ es' c', Only (fun k => k = b) w (setBlock w b (.map es' c')) := fun es' c' =>
    ⟨rfl, rfl, rfl, by simp [setBlock], fun k hk hn => heap_setBlock_other hb _ hn⟩
  cases hm : mFind i es.toList 0 with
  | none =>
    rw [hm] at h1
    obtain ⟨hm1, hm2⟩ := mFind_none i v c es.toList 0 hm
    refine ⟨setBlock w b (.map (es.push ⟨.int .i64 i, v, c⟩) (c + 1)), ?_, ⟨_, _, heap_setBlock_same hb _, ⟨?_, ?_, ?_, ?_⟩, fun j => ?_⟩, hO _ _⟩
    · simp [Instr.mapUpdate, run_underlying ht, MapKept.run_getObj_map hb, h3, h1, MapKept.run_setObj_map _ hb, Result.andThen, setBlock]
    · intro x hx
      simp only [Array.toList_push, List.map_append, List.mem_append, List.map_cons, List.map_nil, List.mem_singleton] at hx
      rcases hx with hx | rfl
      · exact hg.key x hx
      · exact ⟨i, rfl⟩
    · simp only [Array.toList_push, List.map_append, List.map_cons, List.map_nil]
      rw [List.nodup_append]
      exact ⟨hg.one, by simp, fun x hx y hy => by simp only [List.mem_singleton] at hy; subst hy; intro e; subst e; exact hm2 hx⟩
    · intro x hx
      simp only [Array.toList_push, List.map_append, List.mem_append, List.map_cons, List.map_nil, List.mem_singleton] at hx
      rcases hx with hx | rfl
      · exact Nat.lt_succ_of_lt (hg.born x hx)
      · exact Nat.lt_succ_self _
    · simp only [Array.toList_push, List.map_append, List.map_cons, List.map_nil]
      rw [List.nodup_append]
      exact ⟨hg.bone, by simp, fun x hx y hy => by simp only [List.mem_singleton] at hy; subst hy; have := hg.born x hx; omega⟩
    · rw [Array.toList_push, hm1, hl]
  | some q =>
    obtain ⟨p, v0⟩ := q
    rw [hm] at h1
    obtain ⟨q, hq, ⟨e0, he0, hek⟩, hm1, hm2, hm3⟩ := mFind_some i v es.toList 0 p v0 hm
    obtain rfl : p = q := by omega
    have he0' : es[p]? = some e0 := by simpa using he0
    refine ⟨setBlock w b (.map (es.modify p fun e => { e with key := .int .i64 i, val := v }) c), ?_, ⟨_, _, heap_setBlock_same hb _, ⟨?_, ?_, ?_, ?_⟩, fun j => ?_⟩, hO _ _⟩
    · simp [Instr.mapUpdate, run_underlying ht, MapKept.run_getObj_map hb, h3, h1, MapKept.run_setObj_map _ hb, Result.andThen, setBlock, he0', hek, run_stays]
    · rw [Array.toList_modify, hm2]; exact hg.key
    · rw [Array.toList_modify, hm2]; exact hg.one
    · rw [Array.toList_modify, hm3]; exact hg.born
    · rw [Array.toList_modify, hm3]; exact hg.bone
    · rw [Array.toList_modify, hm1, hl]
/-- Block r walks over map block b: of the keys those are left that 'left' says. -/
def IterI (w : World) (b r : Nat) (f : Int → Option Value) (left : Int → Bool) (cnt : Nat) : Prop :=
  ∃ es clock since seen c0, w.heap[b]? = some (.map es clock) ∧ MGood es.toList clock ∧ (∀ i, mLook i es.toList = f i) ∧ w.heap[r]? = some (.mapIter (some b) since seen c0) ∧
    (∀ x ∈ es.toList, x.born < since) ∧ since ≤ c0 ∧ since ≤ clock ∧ cnt = (leftOf es seen).size ∧ (∀ e ∈ es.toList, ∀ i, e.key = .int .i64 i → left i = !seen.contains e.born) ∧ (∀ i, left i = true → (f i).isSome = true)
theorem IterI.same {w w' : World} {b r : Nat} {f : Int → Option Value} {left : Int → Bool} {cnt : Nat} (h : IterI w b r f left cnt) (e : w'.heap[b]? = w.heap[b]?) (e' : w'.heap[r]? = w.heap[r]?) : IterI w' b r f left cnt := by
  obtain ⟨es, clock, since, seen, c0, h1, h2, h3, h4, h5⟩ := h
  exact ⟨es, clock, since, seen, c0, e.trans h1, h2, h3, e'.trans h4, h5⟩
theorem IterI.map {w : World} {b r : Nat} {f : Int → Option Value} {left : Int → Bool} {cnt : Nat} (h : IterI w b r f left cnt) : MapI w b f := by
  obtain ⟨es, clock, since, seen, c0, h1, h2, h3, _⟩ := h
  exact ⟨es, clock, h1, h2, h3⟩
theorem nodup_inj {α β : Type} {f : α → β} {x y : α} : ∀ {l : List α}, (l.map f).Nodup → x ∈ l → y ∈ l → f x = f y → x = y
  | [], _, hx, _, _ => by cases hx
  | a :: l, h, hx, hy, e => by
    rw [List.map_cons, List.nodup_cons] at h
    rcases List.mem_cons.1 hx with rfl | hx'
    · rcases List.mem_cons.1 hy with rfl | hy'
      · rfl
      · exact absurd (e ▸ List.mem_map_of_mem hy') h.1
    · rcases List.mem_cons.1 hy with rfl | hy'
      · exact absurd (e ▸ List.mem_map_of_mem hx') h.1
      · exact nodup_inj h.2 hx' hy' e
theorem IterI.rlt {w : World} {b r : Nat} {f : Int → Option Value} {left : Int → Bool} {cnt : Nat} (h : IterI w b r f left cnt) : r < w.heap.size := by
  obtain ⟨es, clock, since, seen, c0, h1, h2, h3, h4, h5⟩ := h
  exact lt_of_block h4
theorem mLook_mem {es : List MapEntry} {clock : Nat} (hg : MGood es clock) {e : MapEntry} (he : e ∈ es) {i : Int} (hi : e.key = .int .i64 i) : mLook i es = some e.val := by
  unfold mLook
  have h1 : isKeyI i e = true := by simp [isKeyI, hi]
  obtain ⟨x, hx⟩ : ∃ x, es.find? (isKeyI i) = some x := by
    rcases h : es.find? (isKeyI i) with _ | x
    · have := List.find?_eq_none.1 h e he; simp [h1] at this
    · exact ⟨x, rfl⟩
  have hx1 := List.find?_some hx
  have hx2 := List.mem_of_find?_eq_some hx
  have hxk : x.key = .int .i64 i := by
    unfold isKeyI at hx1
    split at hx1
    · rename_i j hj; rw [hj, beq_iff_eq.1 hx1]
    · cases hx1
  rw [hx]
  rw [nodup_inj hg.one hx2 he (by rw [hxk, hi])]; rfl
theorem mLook_key {es : List MapEntry} {i : Int} (h : (mLook i es).isSome = true) : ∃ e ∈ es, e.key = .int .i64 i := by
  unfold mLook at h
  rcases hx : es.find? (isKeyI i) with _ | x
  · rw [hx] at h; cases h
  · have hx1 := List.find?_some hx
    refine ⟨x, List.mem_of_find?_eq_some hx, ?_⟩
    unfold isKeyI at hx1
    split at hx1
    · rename_i j hj; rw [hj, beq_iff_eq.1 hx1]
    · cases hx1
/-- 'range m'. -/
theorem MapI.run_range {w : World} {b : Nat} {f : Int → Option Value} (h : MapI w b f) {t k e : TypeId} (ht : P.underlying t = some (.map k e)) :
    ∃ w' cnt, (Instr.range t (.map (some b))).run P w = .ok (.pointer (some ⟨w.heap.size, 0, none⟩)) w' ∧ IterI w' b w.heap.size f (fun i => (f i).isSome) cnt ∧ Ext w w' ∧ w'.heap.size = w.heap.size + 1 := by
  obtain ⟨es, c, hb, hg, hl⟩ := h
  refine ⟨_, _, run_range_map w t k e b es c ht hb, ⟨es, c, c, #[], c, ?_, hg, hl, heap_alloc_new w _, fun x hx => hg.born _ (List.mem_map_of_mem hx), Nat.le_refl _, Nat.le_refl _, rfl, ?_, fun i h => h⟩, (Ext.refl w).alloc _, by simp⟩
  · rw [heap_alloc_old w _ (lt_of_block hb)]; exact hb
  · intro x hx i hi
    show (f i).isSome = _
    rw [← hl, mLook_mem hg hx hi]
    simp
/-- 'next'. -/
theorem IterI.run_next {w : World} {b r : Nat} {f : Int → Option Value} {left : Int → Bool} {cnt : Nat} (h : IterI w b r f left cnt) (ty : TypeId) :
    ((∀ i, left i = false) ∧ (Instr.next (.pointer (some ⟨r, 0, none⟩)) false ty).run P w = .ok (.tuple #[.bool false]) w) ∨
    ∃ i v w' cnt', left i = true ∧ f i = some v ∧ (Instr.next (.pointer (some ⟨r, 0, none⟩)) false ty).run P w = .ok (.tuple #[.bool true, .int .i64 i, v]) w' ∧
      IterI w' b r f (fun j => left j && !(j == i)) cnt' ∧ cnt' < cnt ∧ Only (fun k => k = r) w w' ∧ w'.heap.size = w.heap.size ∧ (Instr.entry (.pointer (some ⟨r, 0, none⟩))).run P w' = .ok (.tuple #[.int .i64 i, v]) w' := by
  obtain ⟨es, clock, since, seen, c0, hb, hg, hl, hr, hold, hsc, hsk, hcnt, hleft, hin⟩ := h
  rcases run_next_at (P := P) w ty r b since c0 seen es clock hr hb hold hsc with ⟨h0, hrun⟩ | ⟨e, he, w1, hw1, hrun⟩
  · refine .inl ⟨fun i => ?_, hrun⟩
    rcases hli : left i with _ | _
    · rfl
    · exfalso
      have h1 := hin i hli
      rw [← hl] at h1
      obtain ⟨e, he, hk⟩ := mLook_key h1
      have h2 := hleft e he i hk
      rw [hli] at h2
      have : e ∈ (leftOf es seen).toList := by
        unfold leftOf
        rw [Array.toList_filter, List.mem_filter]
        exact ⟨he, by rw [← h2]⟩
      have h3 : (leftOf es seen).toList = [] := by rw [← List.length_eq_zero_iff]; simpa using h0
      rw [h3] at this; cases this
  · have hem : e ∈ es.toList ∧ (!seen.contains e.born) = true := by
      unfold leftOf at he
      rw [Array.toList_filter, List.mem_filter] at he
      exact he
    obtain ⟨i, hi⟩ := hg.key e.key (List.mem_map_of_mem hem.1)
    have hne : b ≠ r := by intro e; subst e; rw [hb] at hr; cases hr
    have hr1 : w1.heap = w.heap := by rcases hw1 with rfl | rfl <;> rfl
    have hrr : w1.heap[r]? = some (.mapIter (some b) since seen c0) := by rw [hr1]; exact hr
    have hlt := lt_of_block hrr
    have hsame : (setBlock w1 r (.mapIter (some b) since (seen.push e.born) clock)).heap[r]? = some (.mapIter (some b) since (seen.push e.born) clock) := by
      simp [setBlock, hlt]
    have hother : ∀ k, k ≠ r → (setBlock w1 r (.mapIter (some b) since (seen.push e.born) clock)).heap[k]? = w.heap[k]? := by
      intro k hk
      rw [← hr1]
      simp [setBlock, Array.getElem?_setIfInBounds, Ne.symm hk]
    have hOnly : Only (fun k => k = r) w (setBlock w1 r (.mapIter (some b) since (seen.push e.born) clock)) := by
      refine ⟨?_, ?_, ?_, ?_, fun k _ hk => hother k hk⟩
      · rcases hw1 with rfl | rfl <;> rfl
      · rcases hw1 with rfl | rfl <;> rfl
      · rcases hw1 with rfl | rfl <;> rfl
      · simp [setBlock, hr1]
    refine .inr ⟨i, e.val, _, _, ?_, ?_, by rw [← hi]; exact hrun, ⟨es, clock, since, seen.push e.born, clock, (hother b hne).trans hb, hg, hl, hsame, hold, hsk, hsk, rfl, ?_, ?_⟩, ?_, hOnly, ?_, ?_⟩
    · rw [hleft e hem.1 i hi]; exact hem.2
    · rw [← hl]; exact mLook_mem hg hem.1 hi
    · intro x hx j hj
      show (left j && !(j == i)) = _
      rw [hleft x hx j hj, Array.contains_push]
      by_cases hji : j = i
      · subst hji
        have : x = e := nodup_inj hg.one hx hem.1 (by rw [hj, hi])
        subst this
        simp
      · have hb' : x.born ≠ e.born := by
          intro eb
          have := nodup_inj hg.bone hx hem.1 eb
          subst this
          rw [hj] at hi
          exact hji (by cases hi; rfl)
        have h1 : (x.born == e.born) = false := by simpa using hb'
        have h2 : (j == i) = false := by simpa using hji
        rw [h1, h2]; simp
    · intro j hj
      simp only [Bool.and_eq_true] at hj
      exact hin j hj.1
    · subst hcnt; exact left_shrinks es seen e he
    · simp [setBlock, hr1]
    · have := run_entry_at (P := P) (setBlock w1 r (.mapIter (some b) since (seen.push e.born) clock)) r b since seen es clock e hsame ((hother b hne).trans hb) hem.1 (by simpa using hg.bone)
      rw [hi] at this
      exact this
end
end Go.Proofs.YtkmgdglmlmodmaaDoor
