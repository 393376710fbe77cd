/- Texts of one proof, joined: RowInts, IntsMore, SameInt. -/
import Derived.Test.YtkofmabonpbegaaRows
import Derived.Test.YtkofmabonpbegaaPartA
import Derived.RowKit
import Derived.Test.YtkofmabonpbegaaPartD
import Derived.Test.YtkofmabonpbegaaPartO
set_option linter.unusedVariables false
set_option linter.unusedSimpArgs false
/- Numbers that came in. -/
namespace Go.Proofs.Ytkofmabonpbegaa
set_option linter.unusedVariables false
open Go Go.RowKit
/-- Numbers that came in. -/
theorem IsRow.ints {w : World} {a : Option Addr} {len cap : Nat} {z : List Int} (h : IsRow .i64 w a len cap z) : ∀ i, i < len → ∃ b off v, a = some ⟨b, off, none⟩ ∧ w.cell? ⟨b, off + i, none⟩ = some (.int .i64 v) := by
  intro i hi
  rcases h with ⟨rfl, rfl, rfl, rfl⟩ | ⟨x, rfl, hlc, hm, hz, hc, hw⟩
  · omega
  · have h1 := hc i (by omega)
    obtain ⟨b, off, sp⟩ := x
    rcases sp with _ | sp
    · have e : (⟨b, off, none⟩ : Addr).add i = ⟨b, off + i, none⟩ := by unfold Addr.add; split <;> simp_all
      rw [e] at h1
      exact ⟨b, off, _, rfl, h1⟩
    · exfalso
      have h0 := hc 0 (by omega)
      unfold World.cell? Addr.add at h0
      split at h0 <;> simp_all
theorem IsRow.low {w : World} {ik : IntKind} {a : Option Addr} {len cap : Nat} {z : List Int} (h : IsRow ik w a len cap z) : ∀ p, a = some p → 0 < len → p.block < w.heap.size := fun p hp hn => by
  rcases h with ⟨rfl, rfl, rfl, rfl⟩ | ⟨x, rfl, hlc, hm, hz, hc, hw⟩
  · cases hp
  · cases hp
    have h0 := hc 0 (by omega)
    have := World.block_lt_of_cell? w _ h0
    unfold Addr.add at this
    split at this <;> simp_all
end Go.Proofs.Ytkofmabonpbegaa

/- A slice of ints of the call's own: more appended, one left out; stavebook.Same of ints. -/
namespace Go.Proofs.Ytkofmabonpbegaa
set_option linter.unusedVariables false
open Go Go.RowKit
/-- 'out = append(out, more..)'. -/
theorem OwnInts.many {w : World} {B : Nat} {v : Value} {l : List Nat} (h : OwnInts w B v l) (a : Addr) (m c : Nat) (news : List Nat) (hm : news.length = m) (hc : ∀ j x, news[j]? = some x → w.cell? (a.add j) = some (vI x)) (hl : l.length + m < 1000000) (hB : B ≤ w.heap.size) :
    ∃ v' w', (Builtin.append_ #[52, 52] 52 #[v, .slice (some a) m c]).run Try.prog w = .ok v' w' ∧ OwnInts w' B v' (l ++ news) ∧ Only (fun b => v.ownBlock = some b) w w' ∧ (v'.ownBlock = v.ownBlock ∨ v'.ownBlock = some w.heap.size) := by
  obtain ⟨i0, hi, hz0, hz1, hz2⟩ := info_parts infoI
  obtain ⟨v', w', h1, h2, h3, _, h5⟩ := run_append_own_at (P := Try.prog) (w := w) B 52 52 3 i0 (.int .i64 0) 1 8 Try.underlying52 hi hz0 hz1 hz2 rfl (by decide)
    v l.length _ h a m c (news.map vI) (by simp [hm]) (by
      intro j u hu
      rw [List.getElem?_map] at hu
      rcases hx : news[j]? with _ | x
      · rw [hx] at hu; cases hu
      · rw [hx] at hu; cases hu; exact hc j x hx) (by intro u hu; obtain ⟨x, _, rfl⟩ := List.mem_map.1 hu; rfl) (by unfold maxLen; omega) (by omega) hB
  exact ⟨v', w', h1, by unfold OwnInts; rw [List.length_append, List.map_append, hm]; exact h2, (Only.refl (fun b => v.ownBlock = some b) w).grown h3 (fun k _ e => e.symm ▸ rfl), h5⟩
/-- Numbers in memory. -/
def IntsAt (w : World) (a : Option Addr) (l : List Nat) : Prop := ∀ i x, l[i]? = some x → ∃ g, a = some ⟨g, 0, none⟩ ∧ w.cell? ⟨g, i, none⟩ = some (vI x)
theorem IntsAt.ext {w w' : World} {a : Option Addr} {l : List Nat} (h : IntsAt w a l) (e : Ext w w') : IntsAt w' a l := fun i x hx => by
  obtain ⟨g, h1, h2⟩ := h i x hx
  exact ⟨g, h1, Ext.cell e h2⟩
theorem OwnInts.at {w : World} {B : Nat} {v : Value} {l : List Nat} (h : OwnInts w B v l) : ∃ a c, v = .slice a l.length c ∧ l.length ≤ c ∧ IntsAt w a l ∧ (l ≠ [] → ∃ g, a = some ⟨g, 0, none⟩) := by
  obtain ⟨a, c, e, q⟩ := h.slice
  refine ⟨a, c, e, ?_, fun i x hx => ?_, fun hn => ?_⟩
  · rcases q with ⟨q, _⟩ | ⟨b, _, _, _, hc, _⟩
    · rw [q]; simp
    · exact hc
  · rcases q with ⟨q, _⟩ | ⟨b, hb, _, _, _, hv⟩
    · rw [q] at hx; simp at hx
    · have hi : i < l.length := by
        rcases Nat.lt_or_ge i l.length with z | z
        · exact z
        · rw [List.getElem?_eq_none z] at hx; cases hx
      refine ⟨b, hb, ?_⟩
      rw [hv i hi]
      simp [List.getD_eq_getElem?_getD, hx]
  · rcases q with ⟨q, _⟩ | ⟨b, hb, _⟩
    · exact absurd q hn
    · exact ⟨b, hb⟩
theorem OwnInts.low {w : World} {B B' : Nat} {v : Value} {l : List Nat} (h : OwnInts w B v l) (hb : B' ≤ B) : OwnInts w B' v l := by
  refine ⟨h.1, ?_⟩
  rcases h.2 with h' | ⟨g, c, cur, h1, h2, h3⟩
  · exact .inl h'
  · exact .inr ⟨g, c, cur, h1, by omega, h3⟩
/-- '[]int{}'. -/
theorem OwnInts.bare (w : World) : OwnInts (w.alloc (.cells #[] 3)) w.heap.size (.slice (some ⟨w.heap.size, 0, none⟩) 0 0) [] :=
  ⟨rfl, .inr ⟨w.heap.size, 0, #[], rfl, Nat.le_refl _, block_alloc, Nat.le_refl _, by unfold maxLen; omega, rfl, rfl⟩⟩
/-- 'left[:x]' and 'left[x+1:]'. -/
theorem slice_head (g n c x : Nat) (hx : x ≤ c) (W : World) : Sem.run Try.prog (Instr.slice 52 (.slice (some ⟨g, 0, none⟩) n c) none (some (.int .i64 (x : Int))) none) W = .ok (.slice (some ⟨g, 0, none⟩) x c) W := by
  have hi : Sem.run Try.prog (sizeOf 3) W = .ok 1 W := by kernel_rfl
  have e : (⟨g, 0, none⟩ : Addr).add 0 = ⟨g, 0, none⟩ := rfl
  unfold Instr.slice Instr.sliceBounds Instr.sliceBound
  simp [run_underlying Try.underlying52, Result.andThen, asIntOf, hx, hi, e]
theorem slice_tail (g n c x : Nat) (hx : x + 1 ≤ n) (W : World) : Sem.run Try.prog (Instr.slice 52 (.slice (some ⟨g, 0, none⟩) n c) (some (.int .i64 ((x : Int) + 1))) none none) W = .ok (.slice (some (if c = x + 1 then ⟨g, 0, none⟩ else ⟨g, x + 1, none⟩)) (n - (x + 1)) (c - (x + 1))) W := by
  have hi : Sem.run Try.prog (sizeOf 3) W = .ok 1 W := by kernel_rfl
  have e : (⟨g, 0, none⟩ : Addr).add (x + 1) = ⟨g, x + 1, none⟩ := by unfold Addr.add; split <;> simp_all
  have h1 : (0 : Int) ≤ (x : Int) + 1 := by omega
  have h2 : (x : Int) + 1 ≤ (n : Int) := by omega
  have h3 : ((x : Int) + 1).toNat = x + 1 := by omega
  unfold Instr.slice Instr.sliceBounds Instr.sliceBound
  simp [run_underlying Try.underlying52, Result.andThen, asIntOf, hi, h1, h2, h3]
  split <;> simp_all
theorem RackAt.pokes {S F : Nat → Prop} {w w' : World} {r : Nat} {R : Rck} (h : RackAt S w r R) (e : Only F w w') (hF : ∀ b, F b → S b) : RackAt (wideS S w w') w' r R := by
  obtain ⟨h0, K, h1, h2, h3⟩ := h
  refine ⟨fun b hb => ?_, K, h1, h2.only e fun b hb hf => h3 b hb (hF b hf), fun b hb ht => ?_⟩
  · rcases hb with hb | hb
    · exact Nat.lt_of_lt_of_le (h0 b hb) e.size
    · exact hb.2
  · rcases ht with h4 | h4
    · exact h3 b hb h4
    · have := h2.lt hb; omega
namespace SE
variable {w0 w w' : World} {S : Nat → Prop} {r : Nat} {R R' : Rck} {gc : Nat} {c : Cfg} {L : List (Option Addr × List (List Nat))}
/-- The blocks that are kept lie below B. -/
structure Under (B : Nat) (w0 : World) (gc : Nat) (L : List (Option Addr × List (List Nat))) : Prop where
  w0 : w0.heap.size ≤ B
  gc : gc < B
  recs : ∀ p ∈ L, p.2 ≠ [] → ∀ g, p.1 = some ⟨g, 0, none⟩ → g < B
theorem under (h : SE w0 w S r R gc c L) : Under w.heap.size w0 gc L := ⟨h.ext.size, lt_of_block h.cfg, fun p hp hn g hg => (h.recs p hp).bks.lt hn g hg⟩
theorem poke {F : Nat → Prop} {B : Nat} (h : SE w0 w S r R gc c L) (u : Under B w0 gc L) (e : Only F w w') (hF : ∀ b, F b → S b ∧ B ≤ b) : SE w0 w' (wideS S w w') r R gc c L :=
  ⟨h.rack.pokes e fun b hb => (hF b hb).1, Ext.then h.ext e fun i hi hf => by have := (hF i hf).2; have := u.w0; omega, fun b hb => .inl (h.low b hb), e.at h.cfg fun hf => by have := (hF _ hf).2; have := u.gc; omega, .inl h.cfgS, fun p hp => by
    have q := h.recs p hp
    refine ⟨?_, fun hn g hg => .inl (q.own hn g hg)⟩
    by_cases hn : p.2 = []
    · rw [hn]; intro i b hb; simp at hb
    · exact q.bks.only e fun g hg hf => by have := (hF _ hf).2; have := u.recs p hp hn g hg; omega⟩
/-- 'out = append(out, x)' beside the rack. -/
theorem push {B : Nat} {v : Value} {l : List Nat} (h : SE w0 w S r R gc c L) (u : Under B w0 gc L) (hv : OwnInts w B v l) (hs : ∀ b, v.ownBlock = some b → S b) (x : Nat) (hl : l.length < 1000) (hB : B ≤ w.heap.size) :
    ∃ v' w', (Builtin.append_ #[52, 52] 52 #[v, .slice (some ⟨w.heap.size, 0, none⟩) 1 1]).run Try.prog (w.alloc (.cells #[.int .i64 x] 3)) = .ok v' w' ∧ OwnInts w' B v' (l ++ [x]) ∧ SE w0 w' (wideS S w w') r R gc c L ∧ (∀ b, v'.ownBlock = some b → wideS S w w' b) ∧ w.heap.size ≤ w'.heap.size := by
  have ha : Ext w (w.alloc (.cells #[.int .i64 x] 3)) := (Ext.refl w).alloc _
  obtain ⟨v', w', e1, e2, e3, e4⟩ := (hv.ext ha).many ⟨w.heap.size, 0, none⟩ 1 1 [x] rfl (fun j y hy => by
    rcases j with _ | j
    · have : y = x := by simpa using hy.symm
      subst this
      rw [show (⟨w.heap.size, 0, none⟩ : Addr).add 0 = ⟨w.heap.size, 0, none⟩ from rfl, cell_at block_alloc]; rfl
    · simp at hy) (by omega) (by simp; omega)
  have ho : Only (fun b => v.ownBlock = some b) w w' := Only.trans (Ext.only ha) e3 (fun i _ h => h)
  refine ⟨v', w', e1, e2, h.poke u ho (fun b hb => ⟨hs b hb, (hv.lt b hb).1⟩), fun b hb => ?_, ho.size⟩
  rcases e4 with q | q
  · exact .inl (hs b (by rw [← q]; exact hb))
  · rw [q] at hb
    have hb2 : b = w.heap.size + 1 := by simpa using hb.symm
    have := (e2.lt b (by rw [q]; simpa using hb)).2
    exact .inr ⟨by omega, this⟩
end SE
/-- 'append(append([]int{}, left[:x]..), left[x+1:]..)': the two appends. -/
theorem erase_one {w : World} {g n c x : Nat} {l : List Nat} (hl : l.length = n) (hx : x < n) (hn : n < 1000) (hc : IntsAt w (some ⟨g, 0, none⟩) l) {V : World} (e : Ext w V) {B : Nat} {u : Value} (hu : OwnInts V B u []) (hB : B ≤ V.heap.size) :
    ∃ v' w', (Builtin.append_ #[52, 52] 52 #[u, .slice (some ⟨g, 0, none⟩) x c]).run Try.prog V = .ok v' w' ∧ OwnInts w' B v' (l.take x) ∧ Only (fun b => u.ownBlock = some b) V w' := by
  obtain ⟨v', w', h1, h2, h3, _⟩ := hu.many ⟨g, 0, none⟩ x c (l.take x) (by rw [List.length_take]; omega) (fun j y hy => by
    have hj : l[j]? = some y := by
      rw [List.getElem?_take] at hy
      split at hy
      · exact hy
      · cases hy
    obtain ⟨g', hg', hcell⟩ := hc j y hj
    cases hg'
    have e' : (⟨g, 0, none⟩ : Addr).add j = ⟨g, j, none⟩ := by unfold Addr.add; split <;> simp_all
    rw [e']
    exact Ext.cell e hcell) (by simp; omega) hB
  exact ⟨v', w', h1, by simpa using h2, h3⟩
theorem erase_two {w : World} {g n c x : Nat} {l : List Nat} (hl : l.length = n) (hx : x < n) (hn : n < 1000) (hnc : n ≤ c) (hc : IntsAt w (some ⟨g, 0, none⟩) l) {V : World} (e : Ext w V) {B : Nat} {u : Value} (hu : OwnInts V B u (l.take x)) (hB : B ≤ V.heap.size) :
    ∃ v' w', (Builtin.append_ #[52, 52] 52 #[u, .slice (some (if c = x + 1 then ⟨g, 0, none⟩ else ⟨g, x + 1, none⟩)) (n - (x + 1)) (c - (x + 1))]).run Try.prog V = .ok v' w' ∧ OwnInts w' B v' (l.eraseIdx x) ∧ Only (fun b => u.ownBlock = some b) V w' := by
  obtain ⟨v', w', h1, h2, h3, _⟩ := hu.many (if c = x + 1 then ⟨g, 0, none⟩ else ⟨g, x + 1, none⟩) (n - (x + 1)) (c - (x + 1)) (l.drop (x + 1)) (by rw [List.length_drop]; omega) (fun j y hy => by
    rw [List.getElem?_drop] at hy
    obtain ⟨g', hg', hcell⟩ := hc _ y hy
    cases hg'
    have hlt : x + 1 + j < l.length := by
      rcases Nat.lt_or_ge (x + 1 + j) l.length with z | z
      · exact z
      · rw [List.getElem?_eq_none z] at hy; cases hy
    rw [if_neg (by omega)]
    have e' : (⟨g, x + 1, none⟩ : Addr).add j = ⟨g, x + 1 + j, none⟩ := by unfold Addr.add; split <;> simp_all
    rw [e']
    exact Ext.cell e hcell) (by rw [List.length_take]; omega) hB
  refine ⟨v', w', h1, ?_, h3⟩
  rw [List.eraseIdx_eq_take_drop_succ]
  exact h2
end Go.Proofs.Ytkofmabonpbegaa

/- stavebook.Same of ints that are the same. -/
namespace Go.Proofs.Ytkofmabonpbegaa
set_option linter.unusedVariables false
open Go Go.RowKit
attribute [local irreducible] wpSQ
set_option maxRecDepth 100000 in
set_option maxHeartbeats 1000000 in
theorem sameint_c (l : List Nat) (hn : l.length ≤ 1000) (a1 a2 : Option Addr) (c1 c2 : Nat) (w : World) (h1 : IntsAt w a1 l) (h2 : IntsAt w a2 l) :
    Calls Try.prog 21 #[.slice a1 l.length c1, .slice a2 l.length c2] w fun e w' => e = .returned (.bool true) ∧ Ext w w' := by
  have H1 := hid h1
  have H2 := hid h2
  have hn8 : (l.length : Int) ≤ 1000 := by omega
  have hne : ((l.length : Int) != (l.length : Int)) = false := by simp
  clear h1 h2
  go_enter Try.func21, Try.ntmps21
  go_wp2
  clear hne
  go_loopw [5] (fun t wr => ∃ j : Nat, t = .int .i64 j ∧ j ≤ l.length ∧ Ext w wr) (fun t _ => l.length - (intOf t).toNat)
  case atStart => exact ⟨0, rfl, by omega, Ext.refl _⟩
  case round =>
    obtain ⟨j, rfl, hj, hx⟩ := hrel
    by_cases hlt : j < l.length
    · have j0 : (0 : Int) ≤ (j : Int) := by omega
      have j1 : (j : Int) < (l.length : Int) := by omega
      obtain ⟨y, hy⟩ : ∃ y, l[j]? = some y := ⟨l[j], List.getElem?_eq_getElem hlt⟩
      obtain ⟨g1, rfl, k1⟩ := H1.out j y hy
      obtain ⟨g2, rfl, k2⟩ := H2.out j y hy
      have xd : Ext wr wr.drew := (Ext.refl wr).drew
      have L1 : ∀ x : SW Ext wr.drew, x.w.cell? ⟨g1, j, none⟩ = some (.int .i64 y) := fun x => Ext.cell (Ext.trans hx (Ext.trans xd x.ext)) k1
      have L2 : ∀ x : SW Ext wr.drew, x.w.cell? ⟨g2, j, none⟩ = some (.int .i64 y) := fun x => Ext.cell (Ext.trans hx (Ext.trans xd x.ext)) k2
      have hyy : ((y : Int) != (y : Int)) = false := by simp
      have HX := hid hx
      clear k1 k2 hy hx
      go_wp2_with fail
      refine wp_region_rely_all (S := Ext) (.fin [0, 1, 2, 3, 4, 5, 6, 7, 8]) (by kernel_rfl) (by kernel_rfl) (fun _ _ d _ _ h => by cases d <;> exact h) ?_
      rw [wpS]
      simp only [opsAt, List.map_cons, List.map_nil, Array.getD_eq_getD_getElem?, List.getElem?_toArray, List.getElem?_cons_succ, List.getElem?_cons_zero, Option.getD_some]
      iterate 9 ((refine wpSQ_step (fun K hK => ?_); go_simp; first | (refine hK _ ?_; clear hK K) | (apply Exists.intro; refine ⟨fun x => ?_, hK _ ?_⟩; (fail); clear hK K)))
      refine wpSQ_nil ?_
      intro W hW
      have HXW := hid (Ext.trans HX.out (Ext.trans xd hW))
      clear hW L1 L2
      go_wp2
      go_roundw
      case rel => exact ⟨j + 1, by go_num, by omega, HXW.out⟩
      case measure => simp [intOf]; omega
    · obtain rfl : l.length = j := by omega
      have HX := hid hx
      clear hx
      go_wp2
      go_ret
      exact ⟨rfl, HX.out⟩
end Go.Proofs.Ytkofmabonpbegaa
