/- Bytes appended to a new empty slice; rows of the call's own, read as bytes. -/
import Derived.Test.YtkmgdglmlmodmaaDoorBlk
import Derived.OpenShut
import Derived.Deep.AppendLies
namespace Go.Proofs.YtkmgdglmlmodmaaDoor
set_option linter.unusedVariables false
open Go.RowKit

theorem owns_bytes {w : World} {b n cap : Nat} {l : List Nat} (h : w.ownsRow 0 5 1 (.slice (some ⟨b, 0, none⟩) n cap) n (l.map bv)) (hb : ∀ x ∈ l, x < 256) (hs : n ≤ 140737488355328) : BytesAt w (some ⟨b, 0, none⟩) n l := by
  have hl : l.length = n := by simpa using h.1
  refine ⟨hl, hs, hb, .inr ⟨b, 0, rfl, fun i hi => ?_⟩⟩
  rw [Nat.zero_add, h.cellAt i (by omega), List.getElem?_map, List.getElem?_eq_getElem (by omega), nth_eq (by omega)]; rfl
theorem owns_base {w : World} {base b n cap : Nat} {l : List Value} (h : w.ownsRow base 5 1 (.slice (some ⟨b, 0, none⟩) n cap) n l) : w.ownsRow 0 5 1 (.slice (some ⟨b, 0, none⟩) n cap) n l := by
  refine ⟨h.1, ?_⟩
  rcases h.2 with h' | ⟨g, c, cur, h1, h2, h3⟩
  · exact .inl h'
  · exact .inr ⟨g, c, cur, h1, Nat.zero_le _, h3⟩
theorem owns_only {F : Nat → Prop} {w w' : World} {b n cap : Nat} {l : List Value} (h : w.ownsRow 0 5 1 (.slice (some ⟨b, 0, none⟩) n cap) n l) (e : Only F w w') (hn : ¬ F b) : w'.ownsRow 0 5 1 (.slice (some ⟨b, 0, none⟩) n cap) n l := by
  refine ⟨h.1, ?_⟩
  rcases h.2 with h' | ⟨g, c, cur, h1, h2, h3, h4⟩
  · exact .inl h'
  · cases h1; exact .inr ⟨b, _, cur, rfl, Nat.zero_le _, e.at h3 hn, h4⟩
theorem owns_lt {w : World} {b n cap : Nat} {l : List Value} (h : w.ownsRow 0 5 1 (.slice (some ⟨b, 0, none⟩) n cap) n l) : b < w.heap.size := (h.lt b rfl).2

theorem append_fresh_at (W : World) (g : Nat) (hg : W.heap[g]? = some (.cells #[] 5 (0, 0))) (a : Option Addr) (n c : Nat) (l : List Nat) (h : BytesAt W a n l) :
    ∃ b cap W', Sem.run Tryd.prog (Builtin.append_ #[27, 27] 27 #[.slice (some ⟨g, 0, none⟩) 0 0, .slice a n c]) W = .ok (.slice (some ⟨b, 0, none⟩) n cap) W' ∧
      W'.ownsRow 0 5 1 (.slice (some ⟨b, 0, none⟩) n cap) n (l.map bv) ∧ Only (fun k => k = g) W W' ∧ (b = g ∨ b = W.heap.size) := by
  obtain ⟨i0, hi, hz0, hz1, hz2⟩ := info_parts info8
  have hlt := lt_of_block hg
  have hown : W.ownsRow g 5 1 (.slice (some ⟨g, 0, none⟩) 0 0) 0 [] := ⟨rfl, .inr ⟨g, 0, #[], rfl, Nat.le_refl _, hg, Nat.le_refl _, Nat.zero_le _, rfl, rfl⟩⟩
  have hl := h.len
  by_cases h0 : n = 0
  · subst h0
    obtain rfl := List.length_eq_zero_iff.1 hl
    refine ⟨g, 0, W, ?_, owns_base hown, Only.refl _ _, .inl rfl⟩
    cases a <;> simp [loadCells, loadCellsFrom, Builtin.append_, run_underlying Tryd.underlying27, sizeOf, typeInfo, hi, Builtin.lenOf, Builtin.firstCells, storeCells]
  · rcases h.cells with h1 | ⟨b, off, rfl, hc⟩
    · exact (h0 h1).elim
    · obtain ⟨b', cap, W', h1, h2, h3, h4, h5⟩ := run_append_lies (P := Tryd.prog) W 27 27 g 5 i0 (.int .u8 0) 1 1 Tryd.underlying27 hi hz0 hz1 hz2 rfl (by omega)
        (.slice (some ⟨g, 0, none⟩) 0 0) 0 [] hown ⟨b, off, none⟩ n c (l.map bv) (by simp [hl])
        (by
          intro j v hv
          rw [List.getElem?_map] at hv
          have hj : j < l.length := by
            rcases Nat.lt_or_ge j l.length with h' | h'
            · exact h'
            · rw [List.getElem?_eq_none h'] at hv; cases hv
          rw [List.getElem?_eq_getElem hj] at hv
          have e : (⟨b, off, none⟩ : Addr).add j = ⟨b, off + j, none⟩ := by unfold Addr.add; split <;> simp_all
          rw [e, hc j (by omega), nth_eq hj]
          exact hv)
        (by intro v hv; obtain ⟨x, _, rfl⟩ := List.mem_map.1 hv; rfl) (by omega)
        (by have := h.small; simp [maxLen]; omega) (by have := h.small; omega) (by omega) _ rfl
      rw [Nat.zero_add] at h1 h2
      rw [List.nil_append] at h2
      refine ⟨b', cap, W', h1, owns_base h2, ⟨h3.os, h3.tape, h3.output, h3.size, fun k hk hn => h3.block k hk (by simpa [Value.ownBlock] using hn)⟩, ?_⟩
      rcases h4 with h4 | h4
      · exact .inl (by simpa [Value.ownBlock] using h4.symm)
      · exact .inr h4
theorem append_fresh (W : World) (g : Nat) (hg : W.heap[g]? = some (.cells #[] 5 (0, 0))) (a : Option Addr) (n c : Nat) (l : List Nat) (h : BytesAt W a n l) :
    ∃ b cap W', Sem.run Tryd.prog (Builtin.append_ #[27, 27] 27 #[.slice (some ⟨g, 0, none⟩) 0 0, .slice a n c]) W = .ok (.slice (some ⟨b, 0, none⟩) n cap) W' ∧
      W'.ownsRow 0 5 1 (.slice (some ⟨b, 0, none⟩) n cap) n (l.map bv) ∧ Only (fun k => k = g) W W' ∧ g ≤ b := by
  obtain ⟨b, cap, W', h1, h2, h3, h4⟩ := append_fresh_at W g hg a n c l h
  have := lt_of_block hg
  exact ⟨b, cap, W', h1, h2, h3, by omega⟩

/-- A slice of bytes that came in. -/
def IsRow (k : IntKind) (w : World) (a : Option Addr) (len cap : Nat) (zs : List Int) : Prop :=
  (a = none ∧ len = 0 ∧ cap = 0 ∧ zs = []) ∨
  ∃ x, a = some x ∧ len ≤ cap ∧ cap ≤ maxLen ∧ zs.length = cap ∧ (∀ i, i < zs.length → w.cell? (x.add i) = some (.int k (zs.getD i 0))) ∧ ∀ n ∈ zs, (Lit.int k n).wf = true
/-- Its first bytes. -/
def rowB (zs : List Int) (n : Nat) : List Nat := (zs.take n).map Int.toNat
theorem IsRow.bytes {w : World} {a : Option Addr} {len cap : Nat} {zs : List Int} (h : IsRow .u8 w a len cap zs) (n : Nat) (hn : n ≤ len) (hs : n ≤ 140737488355328) : BytesAt w a n (rowB zs n) := by
  rcases h with ⟨rfl, rfl, rfl, rfl⟩ | ⟨x, rfl, hl, hm, hz, hc, hw⟩
  · exact ⟨by simp [rowB]; omega, hs, by simp [rowB], .inl (by omega)⟩
  · have hlen : (rowB zs n).length = n := by simp [rowB]; omega
    have hb : ∀ i, i < zs.length → 0 ≤ zs.getD i 0 ∧ zs.getD i 0 ≤ 255 := fun i hi => by
      have e : zs.getD i 0 = zs[i] := by simp [hi]
      rw [e]; exact bounds_u8 (hw _ (List.getElem_mem hi))
    refine ⟨hlen, hs, ?_, ?_⟩
    · intro y hy
      obtain ⟨z, hz1, rfl⟩ := List.mem_map.1 hy
      have := bounds_u8 (hw z (List.mem_of_mem_take hz1)); omega
    · by_cases h0 : n = 0
      · exact .inl h0
      · refine .inr ⟨x.block, x.off, ?_, fun i hi => ?_⟩
        · have := hc 0 (by omega)
          have e0 : x.add 0 = x := by simp [Addr.add]
          rw [e0] at this
          cases hx : x with
          | mk b o s =>
            cases s with
            | none => rfl
            | some q => rw [hx] at this; simp [World.cell?] at this; split at this <;> cases this
        · have h1 := hc i (by omega)
          have e : x.add i = ⟨x.block, x.off + i, none⟩ := by
            by_cases hi0 : i = 0
            · subst hi0
              have e0 : x.add 0 = x := by simp [Addr.add]
              rw [e0] at h1 ⊢
              cases hx : x with
              | mk b o s =>
                cases s with
                | none => rfl
                | some q => rw [hx] at h1; simp [World.cell?] at h1; split at h1 <;> cases h1
            · simp [Addr.add, hi0]
          rw [e] at h1
          rw [h1]
          have h2 := hb i (by omega)
          have e3 : nth (rowB zs n) i = (zs.getD i 0).toNat := by
            rw [nth_eq (by omega)]
            have : i < zs.length := by omega
            simp [rowB, this]
          rw [e3]; congr 2; omega
end Go.Proofs.YtkmgdglmlmodmaaDoor
