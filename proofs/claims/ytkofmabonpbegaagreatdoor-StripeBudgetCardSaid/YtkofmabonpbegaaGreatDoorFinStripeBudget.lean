/- The statement StripeBudget, as its tied card: for every input the call of stavelaw11's StripeBudget answers true, and its arguments read behind it as they read before. No condition of our own. -/
/- Texts of one proof, joined: IntsMore, ErrFacts, ErrAs, ErrAsTop, KindNo, WStripeBudget, LawStripeBudget. -/
import Derived.Test.YtkofmabonpbegaaGreatDoorPartD
import Derived.Test.YtkofmabonpbegaaGreatDoorPartO
import Derived.Test.YtkofmabonpbegaaGreatDoorPartA
import Derived.LaidEql
import Derived.Stop.Asserts
import Derived.RowKitTokens
import Derived.Test.YtkofmabonpbegaaGreatDoorPartC
import Derived.Handy
import Derived.Test.YtkofmabonpbegaaGreatDoorPartJ
import Derived.Test.YtkofmabonpbegaaGreatDoorPartP
import Derived.Deep.DeepCutAuto
import Derived.Deep.CutBlock
import Derived.Test.YtkofmabonpbegaaGreatDoorCards
import Derived.Test.YtkofmabonpbegaaGreatDoorTie
import Derived.WalkKit
import Derived.ProofKit
import Derived.OpenShut
import Derived.ShutString
import Derived.ChangeOld
import Derived.Below
import Derived.SevenTiedAt
set_option linter.unusedVariables false
set_option linter.unusedSimpArgs false
/- A slice of ints of the call's own: more appended, one left out; stavebook.Same of ints. -/
namespace Go.Proofs.YtkofmabonpbegaaGreatDoor
set_option linter.unusedVariables false
open Go Go.RowKit
/-- 'out = append(out, more..)'. -/
theorem OwnInts.many {w : World} {B : Nat} {v : Value} {l : List Nat} (h : OwnInts w B v l) (a : Addr) (m c : Nat) (news : List Nat) (hm : news.length = m) (hc : ∀ j x, news[j]? = some x → w.cell? (a.add j) = some (vI x)) (hl : l.length + m < 1000000) (hB : B ≤ w.heap.size) :
    ∃ v' w', (Builtin.append_ #[62, 62] 62 #[v, .slice (some a) m c]).run Tryz.prog w = .ok v' w' ∧ OwnInts w' B v' (l ++ news) ∧ Only (fun b => v.ownBlock = some b) w w' ∧ (v'.ownBlock = v.ownBlock ∨ v'.ownBlock = some w.heap.size) := by
  obtain ⟨i0, hi, hz0, hz1, hz2⟩ := info_parts infoI
  obtain ⟨v', w', h1, h2, h3, _, h5⟩ := run_append_own_at (P := Tryz.prog) (w := w) B 62 62 3 i0 (.int .i64 0) 1 8 Tryz.underlying62 hi hz0 hz1 hz2 rfl (by decide)
    v l.length _ h a m c (news.map vI) (by simp [hm]) (by
      intro j u hu
      rw [List.getElem?_map] at hu
      rcases hx : news[j]? with _ | x
      · rw [hx] at hu; cases hu
      · rw [hx] at hu; cases hu; exact hc j x hx) (by intro u hu; obtain ⟨x, _, rfl⟩ := List.mem_map.1 hu; rfl) (by unfold maxLen; omega) (by omega) hB
  exact ⟨v', w', h1, by unfold OwnInts; rw [List.length_append, List.map_append, hm]; exact h2, (Only.refl (fun b => v.ownBlock = some b) w).grown h3 (fun k _ e => e.symm ▸ rfl), h5⟩
/-- Numbers in memory. -/
def IntsAt (w : World) (a : Option Addr) (l : List Nat) : Prop := ∀ i x, l[i]? = some x → ∃ g, a = some ⟨g, 0, none⟩ ∧ w.cell? ⟨g, i, none⟩ = some (vI x)
theorem IntsAt.ext {w w' : World} {a : Option Addr} {l : List Nat} (h : IntsAt w a l) (e : Ext w w') : IntsAt w' a l := fun i x hx => by
  obtain ⟨g, h1, h2⟩ := h i x hx
  exact ⟨g, h1, Ext.cell e h2⟩
theorem OwnInts.at {w : World} {B : Nat} {v : Value} {l : List Nat} (h : OwnInts w B v l) : ∃ a c, v = .slice a l.length c ∧ l.length ≤ c ∧ IntsAt w a l ∧ (l ≠ [] → ∃ g, a = some ⟨g, 0, none⟩) := by
  obtain ⟨a, c, e, q⟩ := h.slice
  refine ⟨a, c, e, ?_, fun i x hx => ?_, fun hn => ?_⟩
  · rcases q with ⟨q, _⟩ | ⟨b, _, _, _, hc, _⟩
    · rw [q]; simp
    · exact hc
  · rcases q with ⟨q, _⟩ | ⟨b, hb, _, _, _, hv⟩
    · rw [q] at hx; simp at hx
    · have hi : i < l.length := by
        rcases Nat.lt_or_ge i l.length with z | z
        · exact z
        · rw [List.getElem?_eq_none z] at hx; cases hx
      refine ⟨b, hb, ?_⟩
      rw [hv i hi]
      simp [List.getD_eq_getElem?_getD, hx]
  · rcases q with ⟨q, _⟩ | ⟨b, hb, _⟩
    · exact absurd q hn
    · exact ⟨b, hb⟩
theorem OwnInts.low {w : World} {B B' : Nat} {v : Value} {l : List Nat} (h : OwnInts w B v l) (hb : B' ≤ B) : OwnInts w B' v l := by
  refine ⟨h.1, ?_⟩
  rcases h.2 with h' | ⟨g, c, cur, h1, h2, h3⟩
  · exact .inl h'
  · exact .inr ⟨g, c, cur, h1, by omega, h3⟩
/-- '[]int{}'. -/
theorem OwnInts.bare (w : World) : OwnInts (w.alloc (.cells #[] 3)) w.heap.size (.slice (some ⟨w.heap.size, 0, none⟩) 0 0) [] :=
  ⟨rfl, .inr ⟨w.heap.size, 0, #[], rfl, Nat.le_refl _, block_alloc, Nat.le_refl _, by unfold maxLen; omega, rfl, rfl⟩⟩
/-- 'left[:x]' and 'left[x+1:]'. -/
theorem slice_head (g n c x : Nat) (hx : x ≤ c) (W : World) : Sem.run Tryz.prog (Instr.slice 62 (.slice (some ⟨g, 0, none⟩) n c) none (some (.int .i64 (x : Int))) none) W = .ok (.slice (some ⟨g, 0, none⟩) x c) W := by
  have hi : Sem.run Tryz.prog (sizeOf 3) W = .ok 1 W := by kernel_rfl
  have e : (⟨g, 0, none⟩ : Addr).add 0 = ⟨g, 0, none⟩ := rfl
  unfold Instr.slice Instr.sliceBounds Instr.sliceBound
  simp [run_underlying Tryz.underlying62, Result.andThen, asIntOf, hx, hi, e]
theorem slice_tail (g n c x : Nat) (hx : x + 1 ≤ n) (W : World) : Sem.run Tryz.prog (Instr.slice 62 (.slice (some ⟨g, 0, none⟩) n c) (some (.int .i64 ((x : Int) + 1))) none none) W = .ok (.slice (some (if c = x + 1 then ⟨g, 0, none⟩ else ⟨g, x + 1, none⟩)) (n - (x + 1)) (c - (x + 1))) W := by
  have hi : Sem.run Tryz.prog (sizeOf 3) W = .ok 1 W := by kernel_rfl
  have e : (⟨g, 0, none⟩ : Addr).add (x + 1) = ⟨g, x + 1, none⟩ := by unfold Addr.add; split <;> simp_all
  have h1 : (0 : Int) ≤ (x : Int) + 1 := by omega
  have h2 : (x : Int) + 1 ≤ (n : Int) := by omega
  have h3 : ((x : Int) + 1).toNat = x + 1 := by omega
  unfold Instr.slice Instr.sliceBounds Instr.sliceBound
  simp [run_underlying Tryz.underlying62, Result.andThen, asIntOf, hi, h1, h2, h3]
  split <;> simp_all
theorem RackAt.pokes {S F : Nat → Prop} {w w' : World} {r : Nat} {R : Rck} (h : RackAt S w r R) (e : Only F w w') (hF : ∀ b, F b → S b) : RackAt (wideS S w w') w' r R := by
  obtain ⟨h0, K, h1, h2, h3⟩ := h
  refine ⟨fun b hb => ?_, K, h1, h2.only e fun b hb hf => h3 b hb (hF b hf), fun b hb ht => ?_⟩
  · rcases hb with hb | hb
    · exact Nat.lt_of_lt_of_le (h0 b hb) e.size
    · exact hb.2
  · rcases ht with h4 | h4
    · exact h3 b hb h4
    · have := h2.lt hb; omega
namespace SE
variable {w0 w w' : World} {S : Nat → Prop} {r : Nat} {R R' : Rck} {gc : Nat} {c : Cfg} {L : List (Option Addr × List (List Nat))}
/-- The blocks that are kept lie below B. -/
structure Under (B : Nat) (w0 : World) (gc : Nat) (L : List (Option Addr × List (List Nat))) : Prop where
  w0 : w0.heap.size ≤ B
  gc : gc < B
  recs : ∀ p ∈ L, p.2 ≠ [] → ∀ g, p.1 = some ⟨g, 0, none⟩ → g < B
theorem under (h : SE w0 w S r R gc c L) : Under w.heap.size w0 gc L := ⟨h.ext.size, lt_of_block h.cfg, fun p hp hn g hg => (h.recs p hp).bks.lt hn g hg⟩
theorem poke {F : Nat → Prop} {B : Nat} (h : SE w0 w S r R gc c L) (u : Under B w0 gc L) (e : Only F w w') (hF : ∀ b, F b → S b ∧ B ≤ b) : SE w0 w' (wideS S w w') r R gc c L :=
  ⟨h.rack.pokes e fun b hb => (hF b hb).1, Ext.then h.ext e fun i hi hf => by have := (hF i hf).2; have := u.w0; omega, fun b hb => .inl (h.low b hb), e.at h.cfg fun hf => by have := (hF _ hf).2; have := u.gc; omega, .inl h.cfgS, fun p hp => by
    have q := h.recs p hp
    refine ⟨?_, fun hn g hg => .inl (q.own hn g hg)⟩
    by_cases hn : p.2 = []
    · rw [hn]; intro i b hb; simp at hb
    · exact q.bks.only e fun g hg hf => by have := (hF _ hf).2; have := u.recs p hp hn g hg; omega⟩
/-- 'out = append(out, x)' beside the rack. -/
theorem push {B : Nat} {v : Value} {l : List Nat} (h : SE w0 w S r R gc c L) (u : Under B w0 gc L) (hv : OwnInts w B v l) (hs : ∀ b, v.ownBlock = some b → S b) (x : Nat) (hl : l.length < 1000) (hB : B ≤ w.heap.size) :
    ∃ v' w', (Builtin.append_ #[62, 62] 62 #[v, .slice (some ⟨w.heap.size, 0, none⟩) 1 1]).run Tryz.prog (w.alloc (.cells #[.int .i64 x] 3)) = .ok v' w' ∧ OwnInts w' B v' (l ++ [x]) ∧ SE w0 w' (wideS S w w') r R gc c L ∧ ∀ b, v'.ownBlock = some b → wideS S w w' b := by
  have ha : Ext w (w.alloc (.cells #[.int .i64 x] 3)) := (Ext.refl w).alloc _
  obtain ⟨v', w', e1, e2, e3, e4⟩ := (hv.ext ha).many ⟨w.heap.size, 0, none⟩ 1 1 [x] rfl (fun j y hy => by
    rcases j with _ | j
    · have : y = x := by simpa using hy.symm
      subst this
      rw [show (⟨w.heap.size, 0, none⟩ : Addr).add 0 = ⟨w.heap.size, 0, none⟩ from rfl, cell_at block_alloc]; rfl
    · simp at hy) (by omega) (by simp; omega)
  have ho : Only (fun b => v.ownBlock = some b) w w' := Only.trans (Ext.only ha) e3 (fun i _ h => h)
  refine ⟨v', w', e1, e2, h.poke u ho (fun b hb => ⟨hs b hb, (hv.lt b hb).1⟩), fun b hb => ?_⟩
  rcases e4 with q | q
  · exact .inl (hs b (by rw [← q]; exact hb))
  · rw [q] at hb
    have hb2 : b = w.heap.size + 1 := by simpa using hb.symm
    have := (e2.lt b (by rw [q]; simpa using hb)).2
    exact .inr ⟨by omega, this⟩
end SE
/-- 'append(append([]int{}, left[:x]..), left[x+1:]..)': the two appends. -/
theorem erase_one {w : World} {g n c x : Nat} {l : List Nat} (hl : l.length = n) (hx : x < n) (hn : n < 1000) (hc : IntsAt w (some ⟨g, 0, none⟩) l) {V : World} (e : Ext w V) {B : Nat} {u : Value} (hu : OwnInts V B u []) (hB : B ≤ V.heap.size) :
    ∃ v' w', (Builtin.append_ #[62, 62] 62 #[u, .slice (some ⟨g, 0, none⟩) x c]).run Tryz.prog V = .ok v' w' ∧ OwnInts w' B v' (l.take x) ∧ Only (fun b => u.ownBlock = some b) V w' := by
  obtain ⟨v', w', h1, h2, h3, _⟩ := hu.many ⟨g, 0, none⟩ x c (l.take x) (by rw [List.length_take]; omega) (fun j y hy => by
    have hj : l[j]? = some y := by
      rw [List.getElem?_take] at hy
      split at hy
      · exact hy
      · cases hy
    obtain ⟨g', hg', hcell⟩ := hc j y hj
    cases hg'
    have e' : (⟨g, 0, none⟩ : Addr).add j = ⟨g, j, none⟩ := by unfold Addr.add; split <;> simp_all
    rw [e']
    exact Ext.cell e hcell) (by simp; omega) hB
  exact ⟨v', w', h1, by simpa using h2, h3⟩
theorem erase_two {w : World} {g n c x : Nat} {l : List Nat} (hl : l.length = n) (hx : x < n) (hn : n < 1000) (hnc : n ≤ c) (hc : IntsAt w (some ⟨g, 0, none⟩) l) {V : World} (e : Ext w V) {B : Nat} {u : Value} (hu : OwnInts V B u (l.take x)) (hB : B ≤ V.heap.size) :
    ∃ v' w', (Builtin.append_ #[62, 62] 62 #[u, .slice (some (if c = x + 1 then ⟨g, 0, none⟩ else ⟨g, x + 1, none⟩)) (n - (x + 1)) (c - (x + 1))]).run Tryz.prog V = .ok v' w' ∧ OwnInts w' B v' (l.eraseIdx x) ∧ Only (fun b => u.ownBlock = some b) V w' := by
  obtain ⟨v', w', h1, h2, h3, _⟩ := hu.many (if c = x + 1 then ⟨g, 0, none⟩ else ⟨g, x + 1, none⟩) (n - (x + 1)) (c - (x + 1)) (l.drop (x + 1)) (by rw [List.length_drop]; omega) (fun j y hy => by
    rw [List.getElem?_drop] at hy
    obtain ⟨g', hg', hcell⟩ := hc _ y hy
    cases hg'
    have hlt : x + 1 + j < l.length := by
      rcases Nat.lt_or_ge (x + 1 + j) l.length with z | z
      · exact z
      · rw [List.getElem?_eq_none z] at hy; cases hy
    rw [if_neg (by omega)]
    have e' : (⟨g, x + 1, none⟩ : Addr).add j = ⟨g, x + 1 + j, none⟩ := by unfold Addr.add; split <;> simp_all
    rw [e']
    exact Ext.cell e hcell) (by rw [List.length_take]; omega) hB
  refine ⟨v', w', h1, ?_, h3⟩
  rw [List.eraseIdx_eq_take_drop_succ]
  exact h2
end Go.Proofs.YtkofmabonpbegaaGreatDoor

/- What the model's entries for internal/reflectlite answer at this program's error types. -/
namespace Go.Proofs.YtkofmabonpbegaaGreatDoor
set_option linter.unusedVariables false
open Go.RowKit Go.Extern.Stop Go.Stop Go.Extern Go
namespace ErrFacts

theorem valueOfP (t : Addr) (w : World) : (ReflectliteValue.unpack (.iface 105 (.pointer (some t)))).run Tryz.prog w
    = .ok (.agg #[.pointer (some ⟨1, 105, none⟩), .pointer (some ⟨w.heap.size, 0, none⟩), .int .u64 150]) (w.alloc (.cells #[.pointer (some t)] 105)) := by kernel_rfl
theorem typeP (a : Addr) (w : World) : (ReflectliteValue.methodAny (ReflectliteValue.valueError "reflectlite.Value.Type" 0) (fun t _ _ _ => ReflectliteType.toType t) #[.agg #[.pointer (some ⟨1, 105, none⟩), .pointer (some a), .int .u64 150]]).run Tryz.prog w
    = .ok (.iface 161 (.agg #[.pointer (some ⟨1, 105, none⟩)])) w := by kernel_rfl
theorem kindP (w : World) : ((ReflectliteType.abiMethod fun t => (fun a : Nat => Value.int IntKind.u8 (a : Int)) <$> Rtype.kind t) #[.pointer (some ⟨1, 105, none⟩)]).run Tryz.prog w = .ok (.int .u8 22) w := by kernel_rfl
theorem kindE (w : World) : ((ReflectliteType.abiMethod fun t => (fun a : Nat => Value.int IntKind.u8 (a : Int)) <$> Rtype.kind t) #[.pointer (some ⟨1, 66, none⟩)]).run Tryz.prog w = .ok (.int .u8 2) w := by kernel_rfl
theorem elemP (w : World) : (ReflectliteType.method ReflectliteType.elem #[.agg #[.pointer (some ⟨1, 105, none⟩)]]).run Tryz.prog w = .ok (.iface 161 (.agg #[.pointer (some ⟨1, 66, none⟩)])) w := by kernel_rfl
theorem implE (w : World) : (ReflectliteType.relation "Implements" ReflectliteType.implements_ #[.agg #[.pointer (some ⟨1, 66, none⟩)], .iface 161 (.agg #[.pointer (some ⟨1, 27, none⟩)])]).run Tryz.prog w = .ok (.bool true) w := by kernel_rfl
theorem typeOfE (v : Value) (w : World) : (ReflectliteType.typeOf #[.iface 66 v]).run Tryz.prog w = .ok (.iface 161 (.agg #[.pointer (some ⟨1, 66, none⟩)])) w := by kernel_rfl
theorem typeOfF (v : Value) (w : World) : (ReflectliteType.typeOf #[.iface 108 v]).run Tryz.prog w = .ok (.iface 161 (.agg #[.pointer (some ⟨1, 108, none⟩)])) w := by kernel_rfl
theorem assE (w : World) : (ReflectliteType.relation "AssignableTo" ReflectliteType.assignableTo #[.agg #[.pointer (some ⟨1, 66, none⟩)], .iface 161 (.agg #[.pointer (some ⟨1, 66, none⟩)])]).run Tryz.prog w = .ok (.bool true) w := by kernel_rfl
theorem assF (w : World) : (ReflectliteType.relation "AssignableTo" ReflectliteType.assignableTo #[.agg #[.pointer (some ⟨1, 108, none⟩)], .iface 161 (.agg #[.pointer (some ⟨1, 66, none⟩)])]).run Tryz.prog w = .ok (.bool false) w := by kernel_rfl
theorem assL (w : World) : (ReflectliteType.relation "AssignableTo" ReflectliteType.assignableTo #[.agg #[.pointer (some ⟨1, 52, none⟩)], .iface 161 (.agg #[.pointer (some ⟨1, 66, none⟩)])]).run Tryz.prog w = .ok (.bool false) w := by kernel_rfl
theorem valueOfE (n : Int) (w : World) : (ReflectliteValue.unpack (.iface 66 (.int .i64 n))).run Tryz.prog w
    = .ok (.agg #[.pointer (some ⟨1, 66, none⟩), .pointer (some ⟨w.heap.size, 0, none⟩), .int .u64 130]) (w.alloc (.cells #[.int .i64 n] 66)) := by kernel_rfl
theorem elemOfP (w : World) : (Rtype.elem? 105).run Tryz.prog w = .ok (some 66) w := by kernel_rfl
theorem mkE (p : Addr) (w : World) : (ReflectliteValue.mk 66 p ReflectliteValue.flagAddr).run Tryz.prog w = .ok (.agg #[.pointer (some ⟨1, 66, none⟩), .pointer (some p), .int .u64 386]) w := by kernel_rfl
theorem partsP (a : Addr) (w : World) : (ReflectliteValue.parts (.agg #[.pointer (some ⟨1, 105, none⟩), .pointer (some a), .int .u64 150])).run Tryz.prog w = .ok (some (105, a, 150)) w := by kernel_rfl
theorem partsEa (a : Addr) (w : World) : (ReflectliteValue.parts (.agg #[.pointer (some ⟨1, 66, none⟩), .pointer (some a), .int .u64 386])).run Tryz.prog w = .ok (some (66, a, 386)) w := by kernel_rfl
theorem partsE (a : Addr) (w : World) : (ReflectliteValue.parts (.agg #[.pointer (some ⟨1, 66, none⟩), .pointer (some a), .int .u64 130])).run Tryz.prog w = .ok (some (66, a, 130)) w := by kernel_rfl
theorem directE (w : World) : (Rtype.directlyAssignable 66 66).run Tryz.prog w = .ok true w := by kernel_rfl
theorem typeOfL (v : Value) (w : World) : (ReflectliteType.typeOf #[.iface 52 v]).run Tryz.prog w = .ok (.iface 161 (.agg #[.pointer (some ⟨1, 52, none⟩)])) w := by kernel_rfl
theorem noAsL (v : Value) (w : World) : Sem.run Tryz.prog (Instr.typeAssert (.iface 52 v) 27 165 true) w = .ok (.tuple #[.nilIface, .bool false]) w :=
  run_typeAssert_lacksB Tryz.underlying165 (by kernel_rfl) (by kernel_rfl) v _ w
theorem noUnwrapL (v : Value) (w : World) : Sem.run Tryz.prog (Instr.typeAssert (.iface 52 v) 27 168 true) w = .ok (.tuple #[.nilIface, .bool false]) w :=
  run_typeAssert_lacksB Tryz.underlying168 (by kernel_rfl) (by kernel_rfl) v _ w
theorem noUnwrapsL (v : Value) (w : World) : Sem.run Tryz.prog (Instr.typeAssert (.iface 52 v) 27 169 true) w = .ok (.tuple #[.nilIface, .bool false]) w :=
  run_typeAssert_lacksB Tryz.underlying169 (by kernel_rfl) (by kernel_rfl) v _ w
theorem noIsF (v : Value) (w : World) : Sem.run Tryz.prog (Instr.typeAssert (.iface 108 v) 27 173 true) w = .ok (.tuple #[.nilIface, .bool false]) w :=
  run_typeAssert_lacksB Tryz.underlying173 (by kernel_rfl) (by kernel_rfl) v _ w
theorem hasIsL (v : Value) (w : World) : Sem.run Tryz.prog (Instr.typeAssert (.iface 52 v) 27 173 true) w = .ok (.tuple #[.iface 52 v, .bool true]) w := by kernel_rfl
theorem compE (w : World) : (ReflectliteType.method (fun t => do Rtype.noPackHeld "Comparable" t; pure (.bool (← typeInfo t).comparable)) #[.agg #[.pointer (some ⟨1, 66, none⟩)]]).run Tryz.prog w = .ok (.bool true) w := by kernel_rfl
end ErrFacts
end Go.Proofs.YtkofmabonpbegaaGreatDoor

/- errors.As at an *api.Errno target. -/
namespace Go.Proofs.YtkofmabonpbegaaGreatDoor
set_option linter.unusedVariables false
open Go.RowKit Go.Extern.Stop Go.Stop Go.Extern Go
namespace ErrFacts
theorem rlm (z : Sem Value) (f : TypeId → Addr → Nat → Nat → Sem Value) (v : Value) :
    ReflectliteValue.method z f #[v] = (do match ← ReflectliteValue.parts v with | none => z | some (t, a, fl) => f t a fl (fl % 32)) := rfl
theorem isNilP (a p : Addr) (W : World) (ha : W.cell? a = some (.pointer (some p))) :
    (ReflectliteValue.method (ReflectliteValue.valueError "reflectlite.Value.IsNil" 0) ReflectliteValue.isNil #[.agg #[.pointer (some ⟨1, 105, none⟩), .pointer (some a), .int .u64 150]]).run Tryz.prog W = .ok (.bool false) W := by
  rw [rlm]
  simp only [Sem.run_bind, partsP, Result.andThen]
  simp [ReflectliteValue.isNil, loadVar, isAgg, underlying, Tryz.underlying105, ha, Result.andThen]
theorem elemV (a p : Addr) (W : World) (ha : W.cell? a = some (.pointer (some p))) :
    (ReflectliteValue.method (ReflectliteValue.valueError "reflectlite.Value.Elem" 0) ReflectliteValue.elem #[.agg #[.pointer (some ⟨1, 105, none⟩), .pointer (some a), .int .u64 150]]).run Tryz.prog W
      = .ok (.agg #[.pointer (some ⟨1, 66, none⟩), .pointer (some p), .int .u64 386]) W := by
  rw [rlm]
  simp only [Sem.run_bind, partsP, Result.andThen]
  simp [ReflectliteValue.elem, loadVar, isAgg, underlying, Tryz.underlying105, ha, Result.andThen, elemOfP, mkE]
theorem rls (v x : Value) : ReflectliteValue.set #[v, x] = (do
    let (some (dst, a, fl), some (src, b, _)) := (← ReflectliteValue.parts v, ← ReflectliteValue.parts x)
      | unsupported (.noEntry "extern/(internal/reflectlite.Value).Set.zeroValue")
    if fl / ReflectliteValue.flagAddr % 2 == 0 then unsupported (.noEntry "extern/(internal/reflectlite.Value).Set.unaddressable")
    let val ← loadVar src b
    if ← Rtype.directlyAssignable dst src then storeVar dst a val
    else if ← Rtype.implements dst src then
      if (← Rtype.kind src) == 20 then
        match val with
        | .nilIface => unsupported (.noEntry "extern/reflectlite: a nil value of one interface type handed on as a value of another")
        | _ => storeVar dst a val
      else storeVar dst a (.iface src val)
    else panicString ("reflectlite.Set: value of type " ++ (← Rtype.spelt src) ++ " is not assignable to type " ++ (← Rtype.spelt dst))
    pure (.tuple #[])) := rfl
theorem setE (ta b : Addr) (n : Int) (old : Value) (W : World) (hb : W.cell? b = some (.int .i64 n)) (ht : W.cell? ta = some old) (hf : W.frozen? ta = false) :
    (ReflectliteValue.set #[.agg #[.pointer (some ⟨1, 66, none⟩), .pointer (some ta), .int .u64 386], .agg #[.pointer (some ⟨1, 66, none⟩), .pointer (some b), .int .u64 130]]).run Tryz.prog W
      = .ok (.tuple #[]) (W.setCell ta (.int .i64 n)) := by
  rw [rls]
  simp only [Sem.run_bind, partsEa, partsE, Result.andThen]
  simp [ReflectliteValue.flagAddr, loadVar, isAgg, underlying, Tryz.underlying66, hb, Result.andThen, directE, storeVar, Value.cells, storeCells, Addr.add]
  rw [run_store Tryz.prog W ta _ _ (by rfl)]
  simp [ht, hf]
theorem noAs (v : Value) (w : World) : Sem.run Tryz.prog (Instr.typeAssert (.iface 108 v) 27 165 true) w = .ok (.tuple #[.nilIface, .bool false]) w :=
  run_typeAssert_lacksB Tryz.underlying165 (by kernel_rfl) (by kernel_rfl) v _ w
theorem hasUnwrap (v : Value) (w : World) : Sem.run Tryz.prog (Instr.typeAssert (.iface 108 v) 27 168 true) w = .ok (.tuple #[.iface 108 v, .bool true]) w := by kernel_rfl
end ErrFacts
set_option maxRecDepth 100000 in
set_option maxHeartbeats 2000000 in
theorem as_c (er : Err) (ta a : Addr) (old : Value) (w : World) (hf : w.frozen? ta = false) (ht : w.cell? ta = some old) (ha : w.cell? a = some (.pointer (some ta))) :
    Calls Tryz.prog 72 #[er.val, .iface 105 (.pointer (some ta)), .agg #[.pointer (some ⟨1, 105, none⟩), .pointer (some a), .int .u64 150], .iface 161 (.agg #[.pointer (some ⟨1, 66, none⟩)])] w
      fun e w' => (er.lost = false ∧ e = .returned (.bool true) ∧ w'.cell? ta = some (.int .i64 er.kind) ∧ Only (fun k => k = ta.block) w w') ∨ (er.lost = true ∧ e = .returned (.bool false) ∧ Ext w w') := by
  have x106 := @run_callFunc_extern Tryz.prog 74 _ ReflectliteType.typeOf Tryz.func74 (by kernel_rfl) (by kernel_rfl) (by kernel_rfl) (by kernel_rfl)
  have x111 := @run_callFunc_extern Tryz.prog 88 _ (ReflectliteValue.method (ReflectliteValue.valueError "reflectlite.Value.Elem" 0) ReflectliteValue.elem) Tryz.func88 (by kernel_rfl) (by kernel_rfl) (by kernel_rfl) (by kernel_rfl)
  have x112 := @run_callFunc_extern Tryz.prog 89 _ ReflectliteValue.set Tryz.func89 (by kernel_rfl) (by kernel_rfl) (by kernel_rfl) (by kernel_rfl)
  have x102 := @run_callFunc_extern Tryz.prog 69 _ (fun args => ReflectliteValue.unpack (args.getD 0 (.tuple #[]))) Tryz.func69 (by kernel_rfl) (by kernel_rfl) (by kernel_rfl) (by kernel_rfl)
  have x141 := @run_callFunc_extern Tryz.prog 120 _ (ReflectliteType.relation "AssignableTo" ReflectliteType.assignableTo) Tryz.func120 (by kernel_rfl) (by kernel_rfl) (by kernel_rfl) (by kernel_rfl)
  have tO := ErrFacts.typeOfE
  have aE := ErrFacts.assE
  have vE := ErrFacts.valueOfE
  have tF := ErrFacts.typeOfF
  have aF := ErrFacts.assF
  have tL := ErrFacts.typeOfL
  have aL := ErrFacts.assL
  have htl := World.block_lt_of_cell? w _ ht
  have hal := World.block_lt_of_cell? w _ ha
  have HT := hid ht; have HF := hid hf; have HA := hid ha
  clear ht hf ha
  go_enter Tryz.func72, Tryz.ntmps72
  go_wp2
  have hbox : (w.alloc (.cells #[.pointer (some ⟨1, 105, none⟩), .pointer (some a), .int .u64 150] 136)).heap[w.heap.size]? = some (.cells #[.pointer (some ⟨1, 105, none⟩), .pointer (some a), .int .u64 150] 136 (0, 0)) := block_alloc
  have hX0 : Ext w (w.alloc (.cells #[.pointer (some ⟨1, 105, none⟩), .pointer (some a), .int .u64 150] 136)) := (Ext.refl w).alloc _
  generalize (w.alloc (.cells #[.pointer (some ⟨1, 105, none⟩), .pointer (some a), .int .u64 150] 136)) = W at *
  go_loopw [0] (fun v wr => ∃ e' : Err, v = e'.val ∧ (e'.kind = er.kind ∧ e'.lost = er.lost) ∧ Ext W wr) (fun v _ => Err.vdepth v)
  case atStart => exact ⟨er, rfl, ⟨rfl, rfl⟩, Ext.refl _⟩
  case round =>
    obtain ⟨e', rfl, hk, hXr⟩ := hrel
    have hX1 : Ext w wr := Ext.trans hX0 hXr
    have hbox := hXr.at hbox
    have ta1 := hX1.cell HT.out
    have aa1 := hX1.cell HA.out
    have fa1 : wr.frozen? ta = false := by rw [frozen_ext hX1 htl]; exact HF.out
    have htl1 := World.block_lt_of_cell? wr _ ta1
    rcases e' with n | ⟨lg, lh, ln⟩ | ⟨op, at_, e2⟩
    · have hv : (Err.no n).val = .iface 66 (.int .i64 n) := rfl
      have hk' : Hid (n = er.kind ∧ false = er.lost) := hid hk
      have el := ErrFacts.elemV a ta wr aa1
      have st := ErrFacts.setE ta ⟨wr.heap.size, 0, none⟩ n old (wr.alloc (.cells #[.int .i64 n] 66))
        (by rw [World.cell?_alloc_at _ _ _ _ rfl]; rfl)
        (by rw [World.cell?_alloc_lt _ _ ta htl1]; exact ta1)
        (by rw [World.frozen?_alloc_old _ _ ta (Nat.ne_of_lt htl1)]; exact fa1)
      have HTA := hid ta1
      have HBX := hid hbox
      clear hk ta1 fa1 aa1 tF aF tL aL hbox
      go_wp2_with (refine wpList_load_agg rfl 136 _ rfl ⟨w.heap.size, 0, none⟩ rfl _ ⟨by kernel_rfl, by kernel_rfl⟩ (agg_cells' HBX.out) ?_)
      go_ret
      refine .inl ⟨hk'.out.2.symm, rfl, ?_, Only.setCell (F := fun k => k = ta.block) (Ext.only (hX1.alloc _)) (p := ta) (.inr rfl) _⟩
      rw [← hk'.out.1]
      exact World.cell?_setCell_same _ _ _ (by rw [World.cell?_alloc_lt _ _ ta htl1]; exact HTA.out)
    · have hv : (Err.loss lg lh ln).val = .iface 52 (.agg #[.int .i64 lg, .int .i64 lh, .int .i64 ln]) := rfl
      have hk' : Hid (6 = er.kind ∧ true = er.lost) := hid hk
      have nA := ErrFacts.noAsL
      have nU := ErrFacts.noUnwrapL
      have nV := ErrFacts.noUnwrapsL
      have HX1 := hid hX1
      clear hk ta1 fa1 aa1 tO aE vE tF aF hbox hX1 hX0 hXr
      go_wp2
      go_ret
      exact .inr ⟨hk'.out.2.symm, rfl, HX1.out⟩
    · have hv : (Err.fault op at_ e2).val = .iface 108 (.agg #[.string op, .int .i64 at_, e2.val]) := rfl
      have hk' : Hid (e2.kind = er.kind ∧ e2.lost = er.lost) := hid hk
      obtain ⟨t2, v2, hq⟩ : ∃ t v, e2.val = .iface t v := by cases e2 <;> exact ⟨_, _, rfl⟩
      rw [hq] at hv
      have HQ := hid hq
      have nA := ErrFacts.noAs
      have hU := ErrFacts.hasUnwrap
      clear hk ta1 fa1 aa1 tO aE vE tL aL hq
      go_wp2
      go_roundw
      case rel => exact ⟨e2, HQ.out.symm, hk'.out, Ext.trans hXr ((Ext.refl wr).alloc _)⟩
      case measure =>
        show Err.vdepth (.iface t2 v2) < Err.vdepth (Err.fault op at_ e2).val
        rw [← HQ.out, Err.vdepth_val, Err.vdepth_val]; exact Nat.lt_succ_self _
end Go.Proofs.YtkofmabonpbegaaGreatDoor

/- errors.As at an *api.Errno target; fault.Kind. -/
namespace Go.Proofs.YtkofmabonpbegaaGreatDoor
set_option linter.unusedVariables false
open Go.RowKit Go.Extern.Stop Go.Stop Go.Extern Go
set_option maxRecDepth 100000 in
set_option maxHeartbeats 2000000 in
theorem As_c (er : Err) (ta : Addr) (old : Value) (w : World) (hg : EtLaid w) (hf : w.frozen? ta = false) (ht : w.cell? ta = some old) :
    Calls Tryz.prog 46 #[er.val, .iface 105 (.pointer (some ta))] w
      fun e w' => (er.lost = false ∧ e = .returned (.bool true) ∧ w'.cell? ta = some (.int .i64 er.kind) ∧ Only (fun k => k = ta.block) w w') ∨ (er.lost = true ∧ e = .returned (.bool false) ∧ Ext w w') := by
  obtain ⟨t2, v2, hq⟩ : ∃ t v, er.val = .iface t v := by cases er <;> exact ⟨_, _, rfl⟩
  have HQ := hid hq
  rw [hq]
  have htl := World.block_lt_of_cell? w _ ht
  have hgl := World.block_lt_of_cell? w _ hg
  have x103 := @run_callFunc_extern Tryz.prog 70 _ (ReflectliteValue.methodAny (ReflectliteValue.valueError "reflectlite.Value.Type" 0) (fun t _ _ _ => ReflectliteType.toType t)) Tryz.func70 (by kernel_rfl) (by kernel_rfl) (by kernel_rfl) (by kernel_rfl)
  have x104 := @run_callFunc_extern Tryz.prog 71 _ (ReflectliteValue.method (ReflectliteValue.valueError "reflectlite.Value.IsNil" 0) ReflectliteValue.isNil) Tryz.func71 (by kernel_rfl) (by kernel_rfl) (by kernel_rfl) (by kernel_rfl)
  have x102 := @run_callFunc_extern Tryz.prog 69 _ (fun args => ReflectliteValue.unpack (args.getD 0 (.tuple #[]))) Tryz.func69 (by kernel_rfl) (by kernel_rfl) (by kernel_rfl) (by kernel_rfl)
  have x127 := @run_callFunc_extern Tryz.prog 107 _ (ReflectliteType.abiMethod fun t => do pure (.int .u8 (← Rtype.kind t))) Tryz.func107 (by kernel_rfl) (by kernel_rfl) (by kernel_rfl) (by kernel_rfl)
  have x143 := @run_callFunc_extern Tryz.prog 122 _ (ReflectliteType.method ReflectliteType.elem) Tryz.func122 (by kernel_rfl) (by kernel_rfl) (by kernel_rfl) (by kernel_rfl)
  have x144 := @run_callFunc_extern Tryz.prog 123 _ (ReflectliteType.relation "Implements" ReflectliteType.implements_) Tryz.func123 (by kernel_rfl) (by kernel_rfl) (by kernel_rfl) (by kernel_rfl)
  have vP := ErrFacts.valueOfP
  have tP := ErrFacts.typeP
  have kP := ErrFacts.kindP
  have kE := ErrFacts.kindE
  have eP := ErrFacts.elemP
  have iE := ErrFacts.implE
  have hg1 : ((w.alloc (.cells #[.pointer (some ta)] 105)).alloc (.cells #[.pointer (some ⟨1, 105, none⟩), .pointer (some ⟨w.heap.size, 0, none⟩), .int .u64 150] 136)).cell? ⟨0, 0, none⟩ = some (.iface 161 (.agg #[.pointer (some ⟨1, 27, none⟩)])) := by
    rw [World.cell?_alloc_lt _ _ ⟨0, 0, none⟩ (by simp), World.cell?_alloc_lt _ _ ⟨0, 0, none⟩ hgl]; exact hg
  have n8 := ErrFacts.isNilP ⟨w.heap.size, 0, none⟩ ta ((w.alloc (.cells #[.pointer (some ta)] 105)).alloc (.cells #[.pointer (some ⟨1, 105, none⟩), .pointer (some ⟨w.heap.size, 0, none⟩), .int .u64 150] 136)) (by simp)
  clear hq
  go_enter Tryz.func46, Tryz.ntmps46
  go_wp2_with (go_at_call 72; fail)
  have ht1 : ((w.alloc (.cells #[.pointer (some ta)] 105)).alloc (.cells #[.pointer (some ⟨1, 105, none⟩), .pointer (some ⟨w.heap.size, 0, none⟩), .int .u64 150] 136)).cell? ta = some old := by
    rw [World.cell?_alloc_lt _ _ ta (by simp; omega), World.cell?_alloc_lt _ _ ta htl]; exact ht
  have hf1 : ((w.alloc (.cells #[.pointer (some ta)] 105)).alloc (.cells #[.pointer (some ⟨1, 105, none⟩), .pointer (some ⟨w.heap.size, 0, none⟩), .int .u64 150] 136)).frozen? ta = false := by
    rw [World.frozen?_alloc_old _ _ ta (by simp; omega), World.frozen?_alloc_old _ _ ta (Nat.ne_of_lt htl)]; exact hf
  have hX := ((Ext.refl w).alloc (.cells #[.pointer (some ta)] 105)).alloc (.cells #[.pointer (some ⟨1, 105, none⟩), .pointer (some ⟨w.heap.size, 0, none⟩), .int .u64 150] 136)
  refine Calls.mono (by rw [← HQ.out]; exact as_c er ta ⟨w.heap.size, 0, none⟩ old _ hf1 ht1 (by simp)) ?_
  rintro e w' (⟨hl, rfl, hc, ho⟩ | ⟨hl, rfl, ho⟩)
  · have HC := hid hc; have HO := hid ho; have HL := hid hl
    clear hc ho ht1 hf1 hg1 n8 hl
    go_wp2
    go_ret
    exact .inl ⟨HL.out, rfl, HC.out, Only.trans (Ext.only hX) HO.out (fun i _ h => h)⟩
  · have HO := hid ho; have HL := hid hl
    clear ho ht1 hf1 hg1 n8 hl
    go_wp2
    go_ret
    exact .inr ⟨HL.out, rfl, Ext.trans hX HO.out⟩
end Go.Proofs.YtkofmabonpbegaaGreatDoor

/- fault.Kind of an error that is no loss. -/
namespace Go.Proofs.YtkofmabonpbegaaGreatDoor
set_option linter.unusedVariables false
open Go.RowKit Go
set_option maxRecDepth 100000 in
set_option maxHeartbeats 2000000 in
theorem kind_no (er : Err) (hno : er.lost = false) (w : World) (hg : EtLaid w) : Calls Tryz.prog 26 #[er.val] w fun e w' => e = .returned (.int .i64 er.kind) ∧ Ext w w' := by
  obtain ⟨t2, v2, hq⟩ := er.iface
  have HQ := hid hq
  have HNO := hid hno
  rw [hq]
  have HG := hid hg
  clear hq hg hno
  go_enter Tryz.func26, Tryz.ntmps26
  go_wp2_with (go_at_call 46; fail)
  have hg1 := HG.out.only ((Ext.refl w).alloc (.cells #[.int .i64 0] 66)) (fun x => x)
  have hX := (Ext.refl w).alloc (.cells #[.int .i64 0] 66)
  refine Calls.mono (by rw [← HQ.out]; exact As_c er ⟨w.heap.size, 0, none⟩ (.int .i64 0) _ hg1 (by simp) (by simp)) ?_
  rintro e w' (⟨hl, rfl, hc, ho⟩ | ⟨hl, rfl, ho⟩)
  · have HO := hid ho
    clear ho hg1 hl
    go_wp2
    go_ret
    exact ⟨rfl, Ext.then hX HO.out (fun i hi e => by have : i = w.heap.size := e; omega)⟩
  · rw [HNO.out] at hl; cases hl
end Go.Proofs.YtkofmabonpbegaaGreatDoor

/- The walk of StripeBudget. -/
namespace Go.Proofs.YtkofmabonpbegaaGreatDoor
set_option linter.unusedVariables false
open Go Go.RowKit
theorem Budg.on_ge {R : Rck} {c : Cfg} {m : Nat} {f : Strs} {s on : Nat} {L : List Nat} (h : Budg R c m f s L on) : L.length ≤ on ∧ on ≤ c.n.toNat := by
  obtain ⟨U, B, q1, q2, q3, q4⟩ := h.ex
  have := SR.good_le c U B s c.n.toNat
  rw [← q3, ← q4]
  exact ⟨this, by unfold cntP; have := List.length_filter_le U (List.range c.n.toNat); simpa using this⟩
set_option maxRecDepth 100000 in
set_option maxHeartbeats 1500000 in
theorem stripeBudget_c (k n a0 : Int) (oa : Option Addr) (olen ocap : Nat) (oz : List Int) (ha : Option Addr) (hlen hcap : Nat) (hz : List Int) (more : Bool) (w : World) (hg : EtLaid w) (ho : IsRow .i64 w oa olen ocap oz) (hh : IsRow .i64 w ha hlen hcap hz) :
    Calls Tryz.prog 5 #[.int .i64 k, .int .i64 n, .int .i64 a0, .slice oa olen ocap, .slice ha hlen hcap, .bool more] w fun e w' => e = .returned (.bool true) ∧ Ext w w' := by
  have HO := hid ho.ints
  have HH := hid hh.ints
  clear ho hh
  have HG := hid hg
  have hzc := zero_cfg
  have hzl := zero_loss
  have HCS := hid Cfg.A_size
  clear hg
  go_enter Tryz.func5, Tryz.ntmps5
  go_wp2_with fail
  refine (kfixed_c k n 2 1 _).mono ?_
  rintro e w1 ⟨rfl, x1⟩
  have HGD := hid (show (keepFixed k n 2 1).Good from keepFixed_good k n 2 1 (by omega) (by omega) (by omega) (by omega))
  have HK4 := hid (keepFixed_k4 k n 2 1)
  have HN6 := hid (keepFixed_n6 k n 2 1)
  have HST := hid (show (keepFixed k n 2 1).stripes = 2 from rfl)
  have HSL := hid (show (keepFixed k n 2 1).slots = 1 from rfl)
  generalize keepFixed k n 2 1 = c at *
  obtain ⟨W1, hW1⟩ : ∃ W, w1.alloc (.cells (Cfg.A c) 23) = W := ⟨_, rfl⟩
  have X1 := hid (show Ext w W1 from hW1 ▸ x1.alloc _)
  have HC := hid (show W1.heap[w1.heap.size]? = some (.cells (Cfg.A c) 23 (0, 0)) from hW1 ▸ heap_alloc_new _ _)
  have hbs : (w1.alloc (.cells (Cfg.A Cfg.zero) 23)).heap[w1.heap.size]? = some (.cells (Cfg.A Cfg.zero) 23 (0, 0)) := block_alloc
  clear x1
  go_wp2_with (guard_target = wpList _ _ _ ({ dst := none, op := Op.store _ _ _, type := _, pos := _, after := _, guard := none } :: _) _ _; refine wpList_store_whole rfl 23 _ _ rfl w1.heap.size rfl (Cfg.A c) _ rfl 23 ?_ hbs ?_ ?_ ?_; (rw [HCS.out]; exact aggCfg); (rw [HCS.out, HCS.out]); exact Cfg.A_one _)
  rw [setRow_alloc, hW1]
  clear hbs hW1
  have HLT := hid (lt_of_block HC.out)
  generalize w1.heap.size = g at *
  obtain ⟨m, hm, m1, m128⟩ := sectors_nat c HGD.out
  obtain ⟨nn, hn⟩ : ∃ nn : Nat, c.n = nn := ⟨c.n.toNat, by have := HGD.out.k0; have := HGD.out.k1; omega⟩
  obtain ⟨kk, hk⟩ : ∃ kk : Nat, c.k = kk := ⟨c.k.toNat, by have := HGD.out.k0; omega⟩
  have HNT := hid (show c.n.toNat = nn by omega)
  have HKT := hid (show c.k.toNat = kk by omega)
  have n1 : 1 ≤ nn := by have := HGD.out.k0; have := HGD.out.k1; omega
  have n8 : nn ≤ 6 := by have := HN6.out; omega
  have k1 : 1 ≤ kk := by have := HGD.out.k0; omega
  have k4 : kk ≤ 4 := by have := HK4.out; omega
  have HKN := hid (show kk ≤ nn by have := HGD.out.k1; omega)
  have HM := hid hm; have HN := hid hn; have HK := hid hk
  have xd : Ext W1 W1.drew := (Ext.refl W1).drew
  have lc : Hid (∀ x : SW Ext W1.drew, ∀ j v, (Cfg.A c).toList[j]? = some v → x.w.cell? ((⟨g, 0, none⟩ : Addr).add j) = some v) := hid fun x => agg_cells ((Ext.trans xd x.ext).at HC.out)
  have c2 : ∀ x : SW Ext W1.drew, x.w.cell? ⟨g, 2, none⟩ = some (.int .i64 nn) := fun x => (cell_at ((Ext.trans xd x.ext).at HC.out)).trans (by rw [Cfg.A2, HN.out])
  have sc : Hid (∀ x : SW Ext W1.drew, Calls Tryz.prog 8 #[.agg (Cfg.A c)] x.w fun e w'' => e = .returned (.int .i64 m) ∧ Ext x.w w'') := hid fun x => by
    have := ksectors_c c HGD.out x.w
    rw [HM.out] at this
    exact this
  have HAG := hid (cfg_agg c)
  clear hm hn hk
  refine wp_region_rely_all (S := Ext) (.one [0, 1, 2, 3] 4 (.fin [5, 6, 7, 8, 9])) (by kernel_rfl) (by kernel_rfl) (fun _ _ d _ _ h => by cases d <;> exact h) ?_
  rw [wpS]
  simp only [opsAt, List.map_cons, List.map_nil, Array.getD_eq_getD_getElem?, List.getElem?_toArray, List.getElem?_cons_succ, List.getElem?_cons_zero, Option.getD_some]
  iterate 2 ((refine wpSQ_step (fun K hK => ?_); go_simp; first | (refine hK _ ?_; clear hK K) | (apply Exists.intro; refine ⟨fun x => ?_, hK _ ?_⟩; (fail); clear hK K)))
  refine wpSQ_load_agg 23 _ rfl ⟨g, 0, none⟩ rfl (Cfg.A c) rfl HAG.out lc.out ?_
  (refine wpSQ_step (fun K hK => ?_); go_simp; first | (refine hK _ ?_; clear hK K) | (apply Exists.intro; refine ⟨fun x => ?_, hK _ ?_⟩; (exact sc.out x); clear hK K))
  refine wpSQ_nil ?_
  intro V1 hV1
  refine wpS_loud fun K hK => ?_
  go_wp2_with fail
  refine (at_new nn m n1 (by omega) m1 m128 V1).mono ?_
  rintro e w2 ⟨r, rfl, h2, x2⟩
  go_wp2
  refine hK _ _ x2 ?_
  clear hK K
  rw [wpS]
  simp only [opsAt, List.map_cons, List.map_nil, Array.getD_eq_getD_getElem?, List.getElem?_toArray, List.getElem?_cons_succ, List.getElem?_cons_zero, Option.getD_some]
  iterate 5 ((refine wpSQ_step (fun K hK => ?_); go_simp; first | (refine hK _ ?_; clear hK K) | (apply Exists.intro; refine ⟨fun x => ?_, hK _ ?_⟩; (fail); clear hK K)))
  refine wpSQ_nil ?_
  intro V2 hV2
  obtain ⟨S0, hS0⟩ : ∃ S : Nat → Prop, (fun b => b < W1.heap.size) = S := ⟨_, rfl⟩
  have HJ2 := hid (show SE w V2 S0 r (Rck.new nn m) g c [] from hS0 ▸ ⟨(h2.less fun b hb => Nat.lt_of_lt_of_le hb (Ext.trans xd hV1).size).ext hV2, Ext.trans X1.out (Ext.trans xd (Ext.trans hV1 (Ext.trans x2 hV2))), fun b hb => Nat.lt_of_lt_of_le hb X1.out.size, (Ext.trans xd (Ext.trans hV1 (Ext.trans x2 hV2))).at HC.out, HLT.out, fun p hp => by simp at hp⟩)
  have HSR0 : Hid (SR (Rck.new nn m) c m (fun _ => none) allU fun _ => noB) := hid (by
    have := SR.new HGD.out (m := m) (by rw [HM.out]; exact Int.le_refl _)
    rw [HNT.out] at this
    exact this)
  clear h2 x2 hV1 hV2 lc c2 sc xd X1 HC HLT hS0
  obtain ⟨la, hla⟩ : ∃ l, blocksOf kk a0 = l := ⟨_, rfl⟩
  have LA8 := hid (hla ▸ blocksOf_108 kk a0)
  have LAB := hid (hla ▸ blocksOf_bytes kk a0)
  have LAN := hid (show la.length ≤ 8 by rw [← hla, blocksOf_len]; omega)
  have HLA := hid hla
  have HPUT : Hid (∀ l1, (∃ n', blocksOf kk n' = l1) → ∃ R1 R2 f, (Rck.new nn m).sput c 1 3 l1 = (none, R1) ∧ R1.sput c 1 4 la = (none, R2) ∧ f 1 = some (4, la) ∧ Budg R2 c m f 1 (List.range nn) nn) := hid (fun l1 ⟨n', h1⟩ => by
    obtain ⟨R1, p1, s1⟩ := HSR0.out.put (fun d _ => rfl) (SFit.of (c := c) (s := 1) (gen := 3) (n := n') (by rw [HST.out]; decide) (by decide) (by decide))
    obtain ⟨R2, p2, s2⟩ := s1.put (fun d _ => rfl) (SFit.of (c := c) (s := 1) (gen := 4) (n := a0) (by rw [HST.out]; decide) (by decide) (by decide))
    rw [HKT.out, h1] at p1
    rw [HKT.out, hla] at p2
    refine ⟨R1, R2, updS (updS (fun _ => none) 1 (3, blocksOf c.k.toNat n')) 1 (4, blocksOf c.k.toNat a0), p1, p2, ?_, ?_⟩
    · rw [HKT.out, hla]; exact updS_at _ _ _
    · have := Budg.start s2 (s := 1) (fun d _ => rfl) (fun d _ => by simp [noB])
      rw [HNT.out] at this
      exact this)
  clear hla
  have c1 : V2.cell? ⟨g, 1, none⟩ = some (.int .i64 kk) := (cell_at HJ2.out.cfg).trans (by rw [Cfg.A1, HK.out])
  go_wp2_with (go_at_call 10; fail)
  clear c1
  refine (kblocks_c kk (by omega) a0 V2).mono ?_
  rintro e w3 ⟨v, rfl, hown, x3⟩
  rw [HLA.out] at hown
  obtain ⟨a, ca, rfl, hbk, hab⟩ := kblocks_at LA8.out hown
  have J3 := HJ2.out.put x3 la a hbk hab
  obtain ⟨S1, hS1⟩ : ∃ S, wideS S0 V2 w3 = S := ⟨_, rfl⟩
  rw [hS1] at J3
  have HJ3 := hid J3
  clear hown x3 hbk hab J3 hS1 HJ2
  have xd : Ext w3 w3.drew := (Ext.refl w3).drew
  have HJD := hid (HJ3.out.more xd)
  have lc : Hid (∀ y : SW (Only fun b => ¬ S1 b) w3.drew, ∀ j v, (Cfg.A c).toList[j]? = some v → y.w.cell? ((⟨g, 0, none⟩ : Addr).add j) = some v) := hid fun y => agg_cells (y.ext.at HJD.out.cfg (fun q => q HJD.out.cfgS))
  have ck : ∀ y : SW (Only fun b => ¬ S1 b) w3.drew, y.w.cell? ⟨g, 1, none⟩ = some (.int .i64 kk) := fun y => (cell_at (y.ext.at HJD.out.cfg (fun q => q HJD.out.cfgS))).trans (by rw [Cfg.A1, HK.out])
  clear xd HJ3
  go_wp2_with fail
  refine wp_region_calm_all (E := Ext) (S := Only fun b => ¬ S1 b) (.one [0, 1, 2, 3, 4, 5, 6, 7, 8, 9, 10, 11, 12] 13 (.one [] 14 (.one [15, 16, 17, 18, 19, 20] 21 (.fin [22, 23])))) (by kernel_rfl) (by kernel_rfl) (fun _ _ d _ _ h => by cases d <;> exact h) ?_
  rw [wpS]
  simp only [opsAt, List.map_cons, List.map_nil, Array.getD_eq_getD_getElem?, List.getElem?_toArray, List.getElem?_cons_succ, List.getElem?_cons_zero, Option.getD_some]
  iterate 8 ((refine wpSQ_step (fun K hK => ?_); go_simp; first | (refine hK _ ?_; clear hK K) | (apply Exists.intro; refine ⟨fun x => ?_, hK _ ?_⟩; (fail); clear hK K)))
  refine wpSQ_load_agg 23 _ rfl ⟨g, 0, none⟩ rfl (Cfg.A c) rfl (cfg_agg c) lc.out ?_
  iterate 4 ((refine wpSQ_step (fun K hK => ?_); go_simp; first | (refine hK _ ?_; clear hK K) | (apply Exists.intro; refine ⟨fun x => ?_, hK _ ?_⟩; (fail); clear hK K)))
  refine wpSQ_nil ?_
  intro V3 hV3
  generalize IntKind.i64.wrap (a0 + 1) = a1 at *
  have HJ4 := hid (HJD.out.more hV3)
  clear lc ck hV3 HJD
  refine wpS_loud fun Q1 hQ1 => ?_
  go_wp2_with fail
  refine (kblocks_c kk (by omega) _ V3).mono ?_
  rintro e w4 ⟨v, rfl, hown, x4⟩
  generalize hl1 : blocksOf kk _ = l1 at hown
  have L18 := hid (hl1 ▸ blocksOf_108 kk _)
  have L1B := hid (hl1 ▸ blocksOf_bytes kk _)
  obtain ⟨R1, R2, f, p1, p2, hf, hbud⟩ := HPUT.out l1 ⟨_, hl1⟩
  have HP1 := hid p1; have HP2 := hid p2; have HF := hid hf; have HBU := hid hbud
  clear p1 p2 hf hbud HPUT hl1
  obtain ⟨b, cb, rfl, hbk, hab⟩ := kblocks_at L18.out hown
  have HJ5 := hid (HJ4.out.put x4 l1 b hbk hab)
  clear hown hbk hab
  go_wp2
  refine hQ1 _ _ (Ext.only x4) ?_
  clear hQ1 Q1 x4
  rw [wpS]
  simp only [opsAt, List.map_cons, List.map_nil, Array.getD_eq_getD_getElem?, List.getElem?_toArray, List.getElem?_cons_succ, List.getElem?_cons_zero, Option.getD_some]
  refine wpSQ_nil ?_
  intro V4 hV4
  have HJ6 := hid (HJ5.out.more hV4)
  clear hV4 HJ5
  refine wpS_loud fun Q2 hQ2 => ?_
  go_wp2_with fail
  refine (strput_c HJ6.out.rack c 1 3 l1 L18.out L1B.out b cb (HJ6.out.recs (b, l1) (by simp)).bks).mono ?_
  rintro e w6 ⟨rfl, h6, k6⟩
  rw [show (Rck.new nn m).sput c 1 3 l1 = (none, R1) from HP1.out] at h6 ⊢
  simp only [oErr]
  have HJ7 := hid (HJ6.out.keep h6 k6)
  have HK7 := hid (show Only (fun b => ¬ S1 b) V4 w6 from Only.trans (Only.refl _ V4) k6 (fun b _ hb q => hb (.inl q)))
  clear h6 k6 HJ6
  go_wp2
  refine hQ2 _ _ HK7.out ?_
  clear hQ2 Q2 HK7
  have lc : Hid (∀ y : SW (Only fun b => ¬ S1 b) w6, ∀ j v, (Cfg.A c).toList[j]? = some v → y.w.cell? ((⟨g, 0, none⟩ : Addr).add j) = some v) := hid fun y => agg_cells (y.ext.at HJ7.out.cfg (fun q => q HJ4.out.cfgS))
  rw [wpS]
  simp only [opsAt, List.map_cons, List.map_nil, Array.getD_eq_getD_getElem?, List.getElem?_toArray, List.getElem?_cons_succ, List.getElem?_cons_zero, Option.getD_some]
  iterate 4 ((refine wpSQ_step (fun K hK => ?_); go_simp; first | (refine hK _ ?_; clear hK K) | (apply Exists.intro; refine ⟨fun x => ?_, hK _ ?_⟩; (fail); clear hK K)))
  refine wpSQ_load_agg 23 _ rfl ⟨g, 0, none⟩ rfl (Cfg.A c) rfl (cfg_agg c) lc.out ?_
  (refine wpSQ_step (fun K hK => ?_); go_simp; first | (refine hK _ ?_; clear hK K) | (apply Exists.intro; refine ⟨fun x => ?_, hK _ ?_⟩; (fail); clear hK K))
  refine wpSQ_nil ?_
  intro V6 hV6
  have HJ8 := hid (HJ7.out.more hV6)
  clear lc hV6 HJ7
  refine wpS_loud fun Q3 hQ3 => ?_
  go_wp2_with fail
  refine (strput_c HJ8.out.rack c 1 4 la LA8.out LAB.out a ca (HJ8.out.recs (a, la) (by simp)).bks).mono ?_
  rintro e w8 ⟨rfl, h8, k8⟩
  rw [show R1.sput c 1 4 la = (none, R2) from HP2.out] at h8 ⊢
  simp only [oErr]
  have HJ9 := hid (HJ8.out.keep h8 k8)
  have HK9 := hid (show Only (fun b => ¬ S1 b) V6 w8 from Only.trans (Only.refl _ V6) k8 (fun b _ hb q => hb (.inl q)))
  clear h8 k8 HJ8
  go_wp2
  refine hQ3 _ _ HK9.out ?_
  clear hQ3 Q3 HK9
  rw [wpS]
  simp only [opsAt, List.map_cons, List.map_nil, Array.getD_eq_getD_getElem?, List.getElem?_toArray, List.getElem?_cons_succ, List.getElem?_cons_zero, Option.getD_some]
  iterate 2 ((refine wpSQ_step (fun K hK => ?_); go_simp; first | (refine hK _ ?_; clear hK K) | (apply Exists.intro; refine ⟨fun x => ?_, hK _ ?_⟩; (fail); clear hK K)))
  refine wpSQ_nil ?_
  intro V9 hV9
  have J9 := (HJ9.out.more hV9).drop (L' := [(a, la)]) (fun p hp => by simp at hp ⊢; exact .inr hp)
  obtain ⟨S6, hS6⟩ : ∃ S, wideS S1 V3 w4 = S := ⟨_, rfl⟩
  rw [hS6] at J9
  have HJB := hid J9
  clear hV9 HJ9 hS6 J9 HJ4
  have HU := hid HJB.out.under
  have HRS := hid (fun i => show List.range (i + 1) = List.range i ++ [i] from List.range_succ)
  go_wp2
  go_loopw [18, 17] (fun t v wr => ∃ i : Nat, t = .int .i64 i ∧ i ≤ nn ∧ OwnInts wr V9.heap.size v (List.range i) ∧ Ext V9 wr) (fun t _ _ => nn - (intOf t).toNat)
  case atStart => exact ⟨0, rfl, by omega, OwnInts.nil _ _, Ext.refl _⟩
  case round =>
    obtain ⟨i, rfl, hi, hv, hx⟩ := hrel
    have c2 : wr.cell? ⟨g, 2, none⟩ = some (.int .i64 nn) := (cell_at (hx.at HJB.out.cfg)).trans (by rw [Cfg.A2, HN.out])
    by_cases hlt : i < nn
    · obtain ⟨v2, w2, hap, hv2, _, hx2⟩ := hv.push i (by rw [List.length_range]; omega) hx.size
      have HAP := hid hap
      have HV2 := hid (show OwnInts w2 V9.heap.size v2 (List.range (i + 1)) from by rw [HRS.out]; exact hv2)
      have HX2 := hid (hx2 V9 (Nat.le_refl _) hx)
      clear hap hv2 hx2 hv hx
      go_wp2_with (at_builtin; refine wpList_append_run rfl _ _ _ rfl _ _ _ _ rfl rfl HAP.out ?_)
      go_roundw
      case rel => exact ⟨i + 1, by go_num, by omega, HV2.out, HX2.out⟩
      case measure => simp [intOf]; omega
    · obtain rfl : nn = i := by omega
      obtain ⟨S7, hS7⟩ : ∃ S, wideS S6 V9 wr = S := ⟨_, rfl⟩
      have HJC := hid (hS7 ▸ HJB.out.wide hx)
      have HVS := hid (show ∀ b, Value.ownBlock _ = some b → S7 b from fun b hb => hS7 ▸ .inr (hv.lt b hb))
      have HV := hid hv
      have HSZ := hid hx.size
      have c1 : wr.cell? ⟨g, 1, none⟩ = some (.int .i64 kk) := (cell_at HJC.out.cfg).trans (by rw [Cfg.A1, HK.out])
      have k2 : kk ≤ nn := HKN.out
      clear hv hx hS7 HJB HRS
      obtain ⟨T, hT⟩ : ∃ T : Nat, nn - kk + (if more then 1 else 0) = T := ⟨_, rfl⟩
      have HT := hid hT
      have HTN := hid (show T ≤ nn + 1 - kk by rw [← hT]; split <;> omega)
      clear hT
      go_upto_if 83 with (fail)
      go_cut [19] (fun t wq => t = .int .i64 (T : Int) ∧ wr = wq)
      case first =>
        rcases more with _ | _
        · have hT2 : ((nn : Int) - kk) = (T : Int) := by have := HT.out; simp at this; omega
          go_wp2
          go_meet
          case rel => exact ⟨by first | rfl | exact congrArg _ hT2, rfl⟩
        · have hT2 : ((nn : Int) - kk + 1) = (T : Int) := by have := HT.out; simp at this; omega
          go_wp2
          go_meet
          case rel => exact ⟨by first | rfl | exact congrArg _ hT2, rfl⟩
      case rest =>
        obtain ⟨rfl, rfl⟩ := hcut
        have c2 : wr.cell? ⟨g, 2, none⟩ = some (.int .i64 nn) := (cell_at HJC.out.cfg).trans (by rw [Cfg.A2, HN.out])
        clear c1
        have t8 : (T : Int) ≤ 7 := by have := HTN.out; omega
        go_wp2
        go_loopw [21, 20, 17] (fun t o v wr => ∃ i on : Nat, t = .int .i64 i ∧ o = .int .i64 on ∧ i ≤ T ∧ ∃ R S L, Budg R c m f 1 L on ∧ L.length = nn - i ∧ SE w wr S r R g c [(a, la)] ∧ OwnInts wr V9.heap.size v L ∧ (∀ b, v.ownBlock = some b → S b) ∧ V9.heap.size ≤ wr.heap.size) (fun t _ _ _ => T - (intOf t).toNat)
        case atStart => exact ⟨0, nn, rfl, rfl, by omega, R2, S7, List.range nn, HBU.out, by simp, HJC.out, HV.out, HVS.out, HSZ.out⟩
        case round =>
          clear HJC HV HVS HSZ c2
          obtain ⟨i, on, rfl, rfl, hi, R, S, L, hbu, hll, hj, hv, hvs, hsz⟩ := hrel
          have HJR := hid hj; have HBD := hid hbu; have HLL := hid hll; have HSZ := hid hsz
          by_cases hlt : i < T
          · have l1 : (1 : Int) ≤ (L.length : Int) := by have := HTN.out; omega
            have l6 : (L.length : Int) ≤ 6 := by omega
            obtain ⟨lad, lcap, rfl, hlc, hints, hne⟩ := hv.at
            obtain ⟨lg, rfl⟩ := hne (fun q => by rw [q] at l1; simp at l1)
            have on1 : (1 : Int) ≤ (on : Int) := by have := hbu.on_ge.1; omega
            have on8 : (on : Int) ≤ 8 := by have := hbu.on_ge.2; have := HNT.out; omega
            have HV := hid hv
            have HVS := hid (hvs lg rfl)
            have HIN := hid hints
            have HLC := hid hlc
            clear hbu hll hj hv hvs hsz hints hlc hne
            go_upto_if 96 with (fail)
            go_cut [22] (fun t wq => (∃ x : Nat, t = .int .i64 x ∧ x < L.length) ∧ wr = wq)
            case first =>
              by_cases hio : i < olen
              · obtain ⟨ib, ioff, vi, rfl, hci⟩ := HO.out i hio
                have ci : wr.cell? ⟨ib, ioff + i, none⟩ = some (.int .i64 vi) := Ext.cell HJR.out.ext hci
                have i0 : (0 : Int) ≤ (i : Int) := by omega
                have i1 : (i : Int) < (olen : Int) := by omega
                clear hci
                go_wp2_with (go_at_call 11; fail)
                refine (within_c vi 0 ((L.length : Int) - 1) _ (by omega) (by omega) (by omega)).mono ?_
                rintro e w7 ⟨rfl, rfl⟩
                obtain ⟨q0, q1⟩ := within_bd vi 0 ((L.length : Int) - 1) (by omega)
                obtain ⟨x, hx⟩ := Int.eq_ofNat_of_zero_le q0
                rw [hx]
                have hxl : x < L.length := by omega
                clear hx q0 q1
                go_wp2
                go_meet
                case rel => exact ⟨⟨x, rfl, hxl⟩, rfl⟩
              · have i1 : ¬ (i : Int) < (olen : Int) := by omega
                go_wp2
                go_meet
                case rel => exact ⟨⟨0, rfl, by omega⟩, rfl⟩
            case rest =>
              obtain ⟨⟨x, rfl, hxl⟩, rfl⟩ := hcut
              go_upto_if 108 with (fail)
              go_cut [23] (fun t wq => (∃ ww : Int, t = .int .i64 ww ∧ 0 ≤ ww ∧ ww ≤ 2) ∧ wr = wq)
              case first =>
                by_cases hio : i < hlen
                · obtain ⟨ib, ioff, vi, rfl, hci⟩ := HH.out i hio
                  have ci : wr.cell? ⟨ib, ioff + i, none⟩ = some (.int .i64 vi) := Ext.cell HJR.out.ext hci
                  have i0 : (0 : Int) ≤ (i : Int) := by omega
                  have i1 : (i : Int) < (hlen : Int) := by omega
                  clear hci
                  go_wp2_with (go_at_call 11; fail)
                  refine (within_c vi 0 2 _ (by omega) (by omega) (by omega)).mono ?_
                  rintro e w7 ⟨rfl, rfl⟩
                  obtain ⟨q0, q1⟩ := within_bd vi 0 2 (by omega)
                  generalize within vi 0 2 = ww at *
                  go_wp2
                  go_meet
                  case rel => exact ⟨⟨ww, rfl, q0, q1⟩, rfl⟩
                · have i1 : ¬ (i : Int) < (hlen : Int) := by omega
                  go_wp2
                  go_meet
                  case rel => exact ⟨⟨0, rfl, by omega, by omega⟩, rfl⟩
              case rest =>
                obtain ⟨⟨ww, rfl, w0', w2'⟩, rfl⟩ := hcut
                go_upto_block 4 with (fail)
                go_cut [20] (fun o wq => ∃ on' : Nat, ∃ R', o = .int .i64 on' ∧ Budg R' c m f 1 (L.eraseIdx x) on' ∧ RackAt S wq r R' ∧ Keeps S wr wq)
                case first =>
                  obtain ⟨d, hd⟩ : ∃ d, L[x] = d := ⟨_, rfl⟩
                  have cd : wr.cell? ⟨lg, x, none⟩ = some (.int .i64 d) := by
                    obtain ⟨g', hg', hc⟩ := HIN.out x d (by rw [List.getElem?_eq_getElem hxl, hd])
                    cases hg'
                    exact hc
                  have x0 : (0 : Int) ≤ (x : Int) := by omega
                  have x1 : (x : Int) < (L.length : Int) := by omega
                  have HD := hid hd
                  clear hd
                  by_cases e0 : ww = 0
                  · subst e0
                    have hb := HBD.out.die hxl
                    rw [HD.out] at hb
                    have HB := hid hb
                    clear hb w0' w2'
                    go_wp2_with fail
                    refine (at_die HJR.out.rack d).mono ?_
                    rintro e w8 ⟨rfl, h8, k8⟩
                    have H8 := hid h8; have K8 := hid k8
                    clear h8 k8
                    go_wp2
                    go_meet
                    case rel => exact ⟨on - 1, _, congrArg _ (by omega), HB.out, H8.out, K8.out⟩
                  by_cases e1 : ww = 1
                  · subst e1
                    have hb := HBD.out.replace hxl
                    rw [HD.out] at hb
                    have HB := hid hb
                    clear hb w0' w2'
                    go_wp2_with fail
                    refine (at_replace HJR.out.rack d).mono ?_
                    rintro e w8 ⟨rfl, h8, k8⟩
                    have H8 := hid h8; have K8 := hid k8
                    clear h8 k8
                    go_wp2
                    go_meet
                    case rel => exact ⟨on, _, rfl, HB.out, H8.out, K8.out⟩
                  obtain rfl : ww = 2 := by omega
                  have hb := HBD.out.rot (a := x) (y := 5) hxl HF.out (by omega) (by omega) (by omega)
                  rw [HD.out] at hb
                  have HB := hid hb
                  have xd : Ext wr wr.drew := (Ext.refl wr).drew
                  have cx : ∀ y : SW (Only fun b => ¬ S b) wr.drew, y.w.cell? ⟨lg, x, none⟩ = some (.int .i64 d) := fun y => Only.cell y.ext (Ext.cell xd cd) (fun q => q HVS.out)
                  have ck : ∀ y : SW (Only fun b => ¬ S b) wr.drew, y.w.cell? ⟨g, 1, none⟩ = some (.int .i64 kk) := fun y => (cell_at (y.ext.at (xd.at HJR.out.cfg) (fun q => q HJR.out.cfgS))).trans (by rw [Cfg.A1, HK.out])
                  have HSEC : Hid ((1 : Int) + kk + 1 = (ssecN c 1 : Nat)) := hid (by unfold ssecN; rw [HSL.out, HKT.out]; simp)
                  have hwk : wrap64 (1 + (kk : Int)) = 1 + (kk : Int) := by unfold wrap64; omega
                  have hwi : IntKind.i64.wrap (1 + (kk : Int)) = 1 + (kk : Int) := by rw [IntKind.wrap_i64]; omega
                  have hwk2 : wrap64 (1 + (kk : Int) + 1) = ((ssecN c 1 : Nat) : Int) := by rw [← HSEC.out]; unfold wrap64; omega
                  have hwi2 : IntKind.i64.wrap (1 + (kk : Int) + 1) = ((ssecN c 1 : Nat) : Int) := by rw [IntKind.wrap_i64, ← HSEC.out]; omega
                  have HXD := hid xd
                  clear hb e0 e1 w0' w2' xd cd
                  go_wp2_with fail
                  refine wp_region_calm_all (E := Ext) (S := Only fun b => ¬ S b) (.one [0, 1, 2, 3, 4, 5, 6, 7, 8, 9] 10 (.fin [])) (by kernel_rfl) (by kernel_rfl) (fun _ _ d _ _ h => by cases d <;> exact h) ?_
                  rw [wpS]
                  simp only [opsAt, List.map_cons, List.map_nil, Array.getD_eq_getD_getElem?, List.getElem?_toArray, List.getElem?_cons_succ, List.getElem?_cons_zero, Option.getD_some]
                  iterate 10 ((refine wpSQ_step (fun K hK => ?_); go_simp; first | (refine hK _ ?_; clear hK K) | (apply Exists.intro; refine ⟨fun x => ?_, hK _ ?_⟩; (fail); clear hK K)))
                  refine wpSQ_nil ?_
                  intro V10 hV10
                  have HXV := hid (Ext.trans HXD.out hV10)
                  clear cx ck hV10
                  refine wpS_loud fun Q1 hQ1 => ?_
                  go_wp2_with fail
                  refine (at_rot (HJR.out.rack.ext HXV.out) d (ssecN c 1 : Nat) x 5 (by omega)).mono ?_
                  rintro e w11 ⟨rfl, h11, k11⟩
                  have H11 := hid h11; have K11 := hid k11
                  generalize R.rotOk d (ssecN c 1 : Nat) x 5 = bb at *
                  clear h11 k11
                  go_wp2
                  refine hQ1 _ _ K11.out ?_
                  clear hQ1 Q1
                  rw [wpS]
                  simp only [opsAt, List.map_nil]
                  refine wpSQ_nil ?_
                  intro V11 hV11
                  have H12 := hid (H11.out.ext hV11)
                  have K12 := hid (show Keeps S wr V11 from Only.ext (Only.trans (Ext.only HXV.out) K11.out (fun _ _ q => q)) hV11)
                  clear hV11
                  go_wp2
                  go_meet
                  case rel => exact ⟨on, _, rfl, HB.out, H12.out, K12.out⟩
                case rest =>
                  obtain ⟨on', R', rfl, hbu', hr', hk'⟩ := hcut
                  have HBU' := hid hbu'
                  have HJC := hid (HJR.out.keep hr' hk')
                  have HVC := hid (HV.out.only hk' (fun b hb q => q (by cases hb; exact HVS.out)))
                  have HSC := hid (Nat.le_trans HSZ.out hk'.size)
                  obtain ⟨lad, lcap', hq, hlc, hints, _⟩ := HVC.out.at
                  cases hq
                  have HIC := hid hints
                  have HXL := hid hxl
                  have hsh := slice_head lg L.length lcap x (by have := HLC.out; omega)
                  have hst := slice_tail lg L.length lcap x (by omega)
                  obtain ⟨ta, hta⟩ : ∃ ta : Addr, (if lcap = x + 1 then ⟨lg, 0, none⟩ else ⟨lg, x + 1, none⟩) = ta := ⟨_, rfl⟩
                  rw [hta] at hst
                  have HTA := hid hta
                  clear hta
                  have hwx : IntKind.i64.wrap ((x : Int) + 1) = (x : Int) + 1 := by rw [IntKind.wrap_i64]; omega
                  have hwx2 : wrap64 ((x : Int) + 1) = (x : Int) + 1 := by unfold wrap64; omega
                  clear hbu' hr' hk' hints hlc w0' w2'
                  go_wp2_with fail
                  refine wp_region_calm_all (E := Ext) (S := Only fun b => wc.heap.size ≤ b) (.one [1, 2, 3, 5, 6, 7, 8] 0 (.one [] 4 (.one [] 9 (.fin [10])))) (by kernel_rfl) (by kernel_rfl) (fun _ _ d _ _ h => by cases d <;> exact h) ?_
                  rw [wpS]
                  simp only [opsAt, List.map_cons, List.map_nil, Array.getD_eq_getD_getElem?, List.getElem?_toArray, List.getElem?_cons_succ, List.getElem?_cons_zero, Option.getD_some]
                  iterate 7 ((refine wpSQ_step (fun K hK => ?_); go_simp; first | (refine hK _ ?_; clear hK K) | (apply Exists.intro; refine ⟨fun x => ?_, hK _ ?_⟩; (fail); clear hK K)))
                  refine wpSQ_nil ?_
                  intro V20 hV20
                  have X20 := hid (show Ext wc V20 from Ext.trans (Ext.refl wc).drew hV20)
                  clear hV20 hsh hst
                  refine wpS_loud fun Q1 hQ1 => ?_
                  go_wp2
                  refine hQ1 _ _ (Ext.only ((Ext.refl _).alloc _)) ?_
                  clear hQ1 Q1
                  rw [wpS]
                  simp only [opsAt, List.map_cons, List.map_nil, Array.getD_eq_getD_getElem?, List.getElem?_toArray, List.getElem?_cons_succ, List.getElem?_cons_zero, Option.getD_some]
                  refine wpSQ_nil ?_
                  intro V21 hV21
                  have X21 := hid (show Ext wc V21 from Ext.trans (X20.out.alloc _) hV21)
                  obtain ⟨v1, w21, hap1, ho1, hk1⟩ := erase_one rfl HXL.out (by omega) HIC.out X21.out ((OwnInts.bare V20).ext hV21) (by have := hV21.size; simp at this; omega)
                  have HAP1 := hid hap1
                  have HO1 := hid ho1
                  have HSZ20 := hid X20.out.size
                  have HK1 := hid (show Only (fun b => wc.heap.size ≤ b) V21 w21 from hk1.mono fun i _ hb => by
                    have : i = V20.heap.size := by simpa [Value.ownBlock] using hb.symm
                    have := HSZ20.out
                    show wc.heap.size ≤ i
                    omega)
                  have HSZ21 := hid (show V20.heap.size ≤ w21.heap.size by have := hV21.size; have q := hk1.size; simp at this; omega)
                  clear hap1 ho1 hk1
                  refine wpS_loud fun Q2 hQ2 => ?_
                  go_wp2_with (at_builtin; refine wpList_append_run rfl _ _ _ rfl _ _ _ _ rfl rfl HAP1.out ?_)
                  refine hQ2 _ _ HK1.out ?_
                  clear hQ2 Q2 HAP1
                  rw [wpS]
                  simp only [opsAt, List.map_cons, List.map_nil, Array.getD_eq_getD_getElem?, List.getElem?_toArray, List.getElem?_cons_succ, List.getElem?_cons_zero, Option.getD_some]
                  refine wpSQ_nil ?_
                  intro V22 hV22
                  have X22 := hid (show Ext wc V22 from Ext.trans (Ext.then X21.out HK1.out (fun i hi hb => by have hb : wc.heap.size ≤ i := hb; omega)) hV22)
                  obtain ⟨v2, w22, hap2, ho2, hk2⟩ := erase_two rfl HXL.out (by omega) HLC.out HIC.out X22.out (HO1.out.ext hV22) (Nat.le_trans HSZ21.out hV22.size)
                  rw [HTA.out] at hap2
                  have HAP2 := hid hap2
                  have HO2 := hid ho2
                  have HK2 := hid (show Only (fun b => wc.heap.size ≤ b) V22 w22 from hk2.mono fun i _ hb => by
                    have := (HO1.out.lt i hb).1
                    have := HSZ20.out
                    show wc.heap.size ≤ i
                    omega)
                  clear hap2 ho2 hk2
                  refine wpS_loud fun Q3 hQ3 => ?_
                  go_wp2_with (at_builtin; refine wpList_append_run rfl _ _ _ rfl _ _ _ _ rfl rfl HAP2.out ?_)
                  refine hQ3 _ _ HK2.out ?_
                  clear hQ3 Q3 HAP2
                  rw [wpS]
                  simp only [opsAt, List.map_cons, List.map_nil, Array.getD_eq_getD_getElem?, List.getElem?_toArray, List.getElem?_cons_succ, List.getElem?_cons_zero, Option.getD_some]
                  (refine wpSQ_step (fun K hK => ?_); go_simp; first | (refine hK _ ?_; clear hK K) | (apply Exists.intro; refine ⟨fun x => ?_, hK _ ?_⟩; (fail); clear hK K))
                  refine wpSQ_nil ?_
                  intro V23 hV23
                  have X23 := hid (show Ext wc V23 from Ext.trans (Ext.then X22.out HK2.out (fun i hi hb => by have hb : wc.heap.size ≤ i := hb; omega)) hV23)
                  have HO3 := hid (HO2.out.ext hV23)
                  clear hV23
                  have HEL := hid (show (L.eraseIdx x).length = nn - (i + 1) by rw [List.length_eraseIdx, if_pos HXL.out, HLL.out]; omega)
                  have HJ23 := hid (HJC.out.wide X23.out)
                  have HOS := hid (show ∀ b, v2.ownBlock = some b → wideS S wc V23 b from fun b hb => .inr ⟨Nat.le_trans HSZ20.out (HO3.out.lt b hb).1, (HO3.out.lt b hb).2⟩)
                  have HO4 := hid (HO3.out.low (Nat.le_trans HSC.out HSZ20.out))
                  have HS4 := hid (Nat.le_trans HSC.out X23.out.size)
                  go_wp2
                  go_roundw
                  case rel => exact ⟨i + 1, on', by go_num, rfl, by omega, R', _, L.eraseIdx x, HBU'.out, HEL.out, HJ23.out, HO4.out, HOS.out, HS4.out⟩
                  case measure => simp [intOf]; omega
          · obtain rfl : T = i := by omega
            have HGE := hid hbu.on_ge
            clear hbu hll hj hv hvs hsz
            go_wp2_with (guard_target = wpList _ _ _ ({ dst := some _, op := Op.load _ _, type := _, pos := _, after := _, guard := none } :: _) _ _; refine wpList_load_agg rfl 23 _ rfl ⟨g, 0, none⟩ rfl (Cfg.A c) (cfg_agg c) (agg_cells HJR.out.cfg) ?_)
            refine (sget_c HJR.out.rack c 1).mono ?_
            rintro e w20 ⟨v, rfl, hown, x20⟩
            have HJ20 := hid (HJR.out.more x20)
            rcases more with _ | _
            · have hk : L.length = kk := by have := HT.out; simp at this; have := HLL.out; have := HKN.out; omega
              have HSG := hid (HBD.out.get HK4.out HN6.out HF.out (by rw [HK.out, hk]; exact Int.le_refl _))
              rw [show R.sget c 1 = (la, 4, none) from HSG.out] at hown ⊢
              obtain ⟨za, zc, rfl, hbk, _⟩ := kblocks_at LA8.out hown
              have HBK := hid hbk
              simp only [oErr]
              clear hown x20 hbk hk
              go_wp2_with fail
              refine (sameblk_c la LA8.out LAN.out za a zc ca _ HBK.out (HJ20.out.recs (a, la) (by simp)).bks).mono ?_
              rintro e w21 ⟨rfl, x21⟩
              have HX21 := hid (Ext.trans HJ20.out.ext x21)
              clear x21
              go_wp2_with (go_at_call 18; fail)
              refine (stripeRuns_c _).mono ?_
              rintro e w22 ⟨rfl, x22⟩
              have HX22 := hid (Ext.trans HX21.out x22)
              clear x22
              go_wp2
              go_ret
              exact ⟨rfl, HX22.out⟩
            · have hk : L.length + 1 = kk := by have := HT.out; simp at this; have := HLL.out; have := HKN.out; omega
              have c1 : w20.cell? ⟨g, 1, none⟩ = some (.int .i64 kk) := (cell_at HJ20.out.cfg).trans (by rw [Cfg.A1, HK.out])
              by_cases hon : on < kk
              · have HSG := hid (HBD.out.few (by rw [HST.out]; decide) (by rw [HK.out]; omega))
                rw [show R.sget c 1 = ([], 0, some (.fault sSGet 1 (.no 7))) from HSG.out] at hown ⊢
                obtain ⟨za, zc, rfl, _, _⟩ := kblocks_at (l := []) (by simp) hown
                obtain ⟨er, her⟩ : ∃ er, Err.fault sSGet 1 (.no 7) = er := ⟨_, rfl⟩
                have HLO : Hid (er.lost = false ∧ er.kind = 7) := hid (by rw [← her]; exact ⟨rfl, rfl⟩)
                rw [her]
                simp only [oErr, List.length_nil]
                obtain ⟨et, ev, hev⟩ := er.iface
                have HEV := hid hev
                rw [hev]
                have hon' : (on : Int) < (kk : Int) := by omega
                clear hown x20 hk her hev hon
                go_wp2_with (go_at_call 26; fail)
                refine Calls.mono (by rw [← HEV.out]; exact kind_no er HLO.out.1 _ (HG.out.only HJ20.out.ext (fun x => x))) ?_
                rintro e w21 ⟨rfl, x21⟩
                rw [HLO.out.2]
                have HX21 := hid (Ext.trans HJ20.out.ext x21)
                clear x21
                go_wp2_with (go_at_call 18; fail)
                refine (stripeRuns_c _).mono ?_
                rintro e w22 ⟨rfl, x22⟩
                have HX22 := hid (Ext.trans HX21.out x22)
                clear x22
                go_wp2
                go_ret
                exact ⟨rfl, HX22.out⟩
              · have HSG := hid (HBD.out.lost HF.out (by rw [HK.out]; omega) (by rw [HK.out]; omega))
                have hlk : ((L.length : Nat) : Int) = (kk : Int) - 1 := by omega
                rw [show R.sget c 1 = ([], 0, some (.fault sSGet 1 (.loss 1 L.length c.k))) from HSG.out] at hown ⊢
                obtain ⟨za, zc, rfl, _, _⟩ := kblocks_at (l := []) (by simp) hown
                rw [HK.out, hlk]
                obtain ⟨er, her⟩ : ∃ er, Err.fault sSGet 1 (.loss 1 ((kk : Int) - 1) kk) = er := ⟨_, rfl⟩
                have HLO : Hid (er.lost = true ∧ er.lossOf = (1, (kk : Int) - 1, (kk : Int))) := hid (by rw [← her]; exact ⟨rfl, rfl⟩)
                rw [her]
                simp only [oErr, List.length_nil]
                obtain ⟨et, ev, hev⟩ := er.iface
                have HEV := hid hev
                rw [hev]
                have hon' : ¬ (on : Int) < (kk : Int) := by omega
                clear hown x20 hk her hev hon hlk
                go_wp2_with (go_at_call 19; fail)
                refine Calls.mono (by rw [← HEV.out]; exact lost_yes er HLO.out.1 _ (HG.out.only HJ20.out.ext (fun x => x))) ?_
                rintro e w21 ⟨rfl, x21⟩
                rw [HLO.out.2]
                simp only [lostV]
                have HJ21 := hid (HJ20.out.more (x21.alloc (.cells (lcells (1, (kk : Int) - 1, (kk : Int))) 52)))
                obtain ⟨W21, hW21⟩ : ∃ W, w21.alloc (.cells (lcells (1, (kk : Int) - 1, (kk : Int))) 52) = W := ⟨_, rfl⟩
                have HN21 := hid (show W21.heap[w21.heap.size]? = some (.cells (lcells (1, (kk : Int) - 1, (kk : Int))) 52 (0, 0)) from hW21 ▸ heap_alloc_new _ _)
                rw [hW21] at HJ21
                have HW21 := hid hW21
                have hbs : (w21.alloc (.cells (lcells (0, 0, 0)) 52)).heap[w21.heap.size]? = some (.cells (lcells (0, 0, 0)) 52 (0, 0)) := block_alloc
                have c1' : W21.cell? ⟨g, 1, none⟩ = some (.int .i64 kk) := (cell_at HJ21.out.cfg).trans (by rw [Cfg.A1, HK.out])
                have HBL := hid (built_loss3 1 ((kk : Int) - 1) (kk : Int))
                clear x21 hW21 HEV c1
                go_wp2_with (first
                  | (guard_target = wpList _ _ _ ({ dst := none, op := Op.store _ _ _, type := _, pos := _, after := _, guard := none } :: _) _ _; have hb0 := hbs; clear hbs; refine wpList_store_whole rfl 52 _ _ rfl w21.heap.size rfl (lcells (1, (kk : Int) - 1, (kk : Int))) _ rfl 52 (agg_loss _) hb0 rfl (lcells_one _) ?_; rw [setRow_alloc, HW21.out])
                  | (guard_target = wpList _ _ _ ({ dst := some _, op := Op.load _ _, type := _, pos := _, after := _, guard := some _ } :: _) _ _; refine wpListG_load_agg 52 _ rfl ⟨w21.heap.size, 0, none⟩ rfl (lcells (1, (kk : Int) - 1, (kk : Int))) rfl (agg_loss _) (agg_cells HN21.out) ?_)
                  | (guard_target = wpList _ _ _ ({ dst := some _, op := Op.build _ _, type := _, pos := _, after := _, guard := some _ } :: _) _ _; refine wpListG_build_eq 52 _ rfl (lcells (1, (kk : Int) - 1, (kk : Int))) rfl ?_ ?_; (simp only [List.map_toArray, List.map_cons, List.map_nil, Act.eval]; simp only [Array.getD_eq_getD_getElem?, List.getElem?_toArray, List.getElem?_cons_succ, List.getElem?_cons_zero, Option.getD_some]; exact HBL.out))
                  | (guard_target = wpList _ _ _ ({ dst := some _, op := Op.binOp _ _ _ _ _, type := _, pos := _, after := _, guard := some _ } :: _) _ _; refine wpListG_eql .eql 52 _ _ _ rfl (lcells (1, (kk : Int) - 1, (kk : Int))) (lcells (1, (kk : Int) - 1, (kk : Int))) rfl rfl (.bool true) rfl (loss_guard _ _ _ _ _ _) (loss_eql _ _) ?_)
                  | (go_at_call 18; fail))
                refine (stripeRuns_c _).mono ?_
                rintro e w22 ⟨rfl, x22⟩
                have HX22 := hid (Ext.trans HJ21.out.ext x22)
                clear x22
                go_wp2
                go_ret
                exact ⟨rfl, HX22.out⟩
end Go.Proofs.YtkofmabonpbegaaGreatDoor

/- The statement StripeBudget, as its tied card: for every input the call of stavelaw11's StripeBudget answers true, and its arguments read behind it as they read before. No condition of our own. -/
namespace Go.Proofs.YtkofmabonpbegaaGreatDoor.stripeBudget
open Go.ChangeShapes Go.WideShapes Go.ChangeAt Go.RowKit
open Go.ChangeMaps (open_string shut_string)
set_option linter.unusedVariables false
theorem laidOut : laidOutB Tryz.prog = true := by kernel_rfl
theorem walk (a0 : Int) (a1 : Int) (a2 : Int) (a3 : Option Addr) (len3 cap3 : Nat) (z3 : List Int) (a4 : Option Addr) (len4 cap4 : Nat) (z4 : List Int) (a5 : Bool) (w : World) (hg : EtLaid w) (w0 : (Lit.int .i64 a0).wf = true) (w1 : (Lit.int .i64 a1).wf = true) (w2 : (Lit.int .i64 a2).wf = true) (w3 : IsRow .i64 w a3 len3 cap3 z3) (w4 : IsRow .i64 w a4 len4 cap4 z4) :
    Calls Tryz.prog 5 #[.int .i64 a0, .int .i64 a1, .int .i64 a2, .slice a3 len3 cap3, .slice a4 len4 cap4, .bool a5] w fun e w' => e = .returned (.bool true) ∧ Below w.heap.size w w' :=
  (stripeBudget_c a0 a1 a2 a3 len3 cap3 z3 a4 len4 cap4 z4 a5 w hg w3 w4).mono fun _ _ ⟨he, hx⟩ => ⟨he, hx.below⟩
set_option maxRecDepth 100000 in
theorem lifted (os : Os) (started : os.Started) (H : Type) (enc : TypeId × Value → H) :
    ReturnsInHanded {} Tryz.checked os 5 .any (fun w args => (Rows.stripeBudgetSpec.pre enc Tryz.prog Tryz.f5 [] false w args ∧ laidMetH Tryz.prog theLaid w) ∧ sizedMet enc Tryz.prog Tryz.f5 (OpenSpec.ofChange Rows.stripeBudgetSpec) false w args)
      (Rows.stripeBudgetSpec.post enc Tryz.prog Tryz.f5 false true false false) := by
  refine returnsInHanded_of_change_and (C := Tryz.checked) (X := fun w _ => laidMetH Tryz.prog theLaid w) (fun _ _ _ hh h => h.of_heap hh) hOwn started (by kernel_rfl) Tryz.func5
    (ChangeSpec.witness_at (enc := enc) (C := Tryz.checked) (os := os) (X := fun w _ => laidMetH Tryz.prog theLaid w) false (laidWorld os) #[.int .i64 0, .int .i64 0, .int .i64 0, .slice none 0 0, .slice none 0 0, .bool false] 8 rfl (by kernel_rfl) (by kernel_rfl) (by kernel_rfl) (by kernel_rfl) (by kernel_rfl) (laidWorld_met os _)) ?_
  intro W base args ds gs before hval0 hW _ _ hL _
  have hval : ∀ (j : Nat) t v, Tryz.f5.params[j]? = some t → args[j]? = some v → Value.okWide Tryz.prog W .any base t v := hval0
  have hW' := hW
  obtain ⟨p, q, hA0, hV, rfl, hfz, hnd⟩ := hW
  have hA : DataW.TrodAll enc Tryz.prog W 0 (fun _ => true) true Tryz.f5.params.toList args.toList ds p := hA0
  rw [Tryz.params5] at hA hval
  obtain ⟨v0, vs0, d0, ds0, p0, q0, hargs, rfl, rfl, h0, r0⟩ := trodAll_cons hA
  obtain ⟨v1, vs1, d1, ds1, p1, q1, rfl, rfl, rfl, h1, r1⟩ := trodAll_cons r0
  obtain ⟨v2, vs2, d2, ds2, p2, q2, rfl, rfl, rfl, h2, r2⟩ := trodAll_cons r1
  obtain ⟨v3, vs3, d3, ds3, p3, q3, rfl, rfl, rfl, h3, r3⟩ := trodAll_cons r2
  obtain ⟨v4, vs4, d4, ds4, p4, q4, rfl, rfl, rfl, h4, r4⟩ := trodAll_cons r3
  obtain ⟨v5, vs5, d5, ds5, p5, q5, rfl, rfl, rfl, h5, r5⟩ := trodAll_cons r4
  obtain ⟨rfl, rfl, rfl⟩ := trodAll_nil r5
  obtain rfl : args = #[v0, v1, v2, v3, v4, v5] := by cases args; simp_all
  obtain ⟨rfl, rfl⟩ := trodVars_none hV
  obtain ⟨a0, rfl, rfl, rfl, w0⟩ := open_int Tryz.underlying3 (hval 0 3 v0 rfl rfl) h0
  obtain ⟨a1, rfl, rfl, rfl, w1⟩ := open_int Tryz.underlying3 (hval 1 3 v1 rfl rfl) h1
  obtain ⟨a2, rfl, rfl, rfl, w2⟩ := open_int Tryz.underlying3 (hval 2 3 v2 rfl rfl) h2
  obtain ⟨a3, len3, cap3, rfl⟩ := okWide_slice Tryz.underlying62 (hval 3 62 v3 rfl rfl)
  have k3 := h3
  have lt3 : ∀ x ∈ p3, x.block < W.heap.size := by obtain ⟨m, hm⟩ := k3; exact DataW.trod_lt m _ _ _ hm
  obtain ⟨z3, w3⟩ : ∃ zs, IsRow .i64 W a3 len3 cap3 zs := by
    obtain ⟨fuel, hf⟩ := h3
    rcases open_ints Tryz.underlying62 Tryz.underlying3 (by kernel_rfl) hf with ⟨hcs, _⟩ | ⟨x, l, c, zs, hcs, _, hl, hm, hz, _, hcell, hwz⟩
    · simp [Value.cells] at hcs
      obtain ⟨rfl, rfl, rfl⟩ := hcs
      exact ⟨[], .inl ⟨rfl, rfl, rfl, rfl⟩⟩
    · simp [Value.cells] at hcs
      obtain ⟨rfl, rfl, rfl⟩ := hcs
      exact ⟨zs, .inr ⟨_, rfl, hl, hm, by simpa using hz, hcell, hwz⟩⟩
  obtain ⟨a4, len4, cap4, rfl⟩ := okWide_slice Tryz.underlying62 (hval 4 62 v4 rfl rfl)
  have k4 := h4
  have lt4 : ∀ x ∈ p4, x.block < W.heap.size := by obtain ⟨m, hm⟩ := k4; exact DataW.trod_lt m _ _ _ hm
  obtain ⟨z4, w4⟩ : ∃ zs, IsRow .i64 W a4 len4 cap4 zs := by
    obtain ⟨fuel, hf⟩ := h4
    rcases open_ints Tryz.underlying62 Tryz.underlying3 (by kernel_rfl) hf with ⟨hcs, _⟩ | ⟨x, l, c, zs, hcs, _, hl, hm, hz, _, hcell, hwz⟩
    · simp [Value.cells] at hcs
      obtain ⟨rfl, rfl, rfl⟩ := hcs
      exact ⟨[], .inl ⟨rfl, rfl, rfl, rfl⟩⟩
    · simp [Value.cells] at hcs
      obtain ⟨rfl, rfl, rfl⟩ := hcs
      exact ⟨zs, .inr ⟨_, rfl, hl, hm, by simpa using hz, hcell, hwz⟩⟩
  obtain ⟨a5, rfl, rfl, rfl⟩ := open_bool Tryz.underlying4 (hval 5 4 v5 rfl rfl) h5
  have hg := etLaid_of hL
  clear hA0 hval0
  simp only [List.append_nil] at hW'
  refine (walk a0 a1 a2 a3 len3 cap3 z3 a4 len4 cap4 z4 a5 W hg w0 w1 w2 w3 w4).mono fun e W' ⟨he, bel⟩ => ?_
  subst he
  exact ⟨_, rfl, _, _, _, [], _, [], hW', trodAll_mk1 (shut_bool Tryz.underlying4 _), (trodAll_cons_mk (shut_int Tryz.underlying3 w0) (trodAll_cons_mk (shut_int Tryz.underlying3 w1) (trodAll_cons_mk (shut_int Tryz.underlying3 w2) (trodAll_cons_mk (Below.trod laidOut (by kernel_rfl) (of_decide_eq_true (by kernel_rfl)) k3 bel lt3) (trodAll_cons_mk (Below.trod laidOut (by kernel_rfl) (of_decide_eq_true (by kernel_rfl)) k4 bel lt4) (trodAll_cons_mk (shut_bool Tryz.underlying4 _) trodAll_mk0)))))), rfl, bel.frame _, fun h => by cases h⟩
theorem over : Rows.StripeBudgetSaid :=
  OpenClaim.holds_of_wide 5 Tryz.f5 rfl rfl rfl rfl rfl rfl rfl ⟨rfl, rfl, rfl, rfl, rfl⟩ rfl rfl rfl rfl rfl (by kernel_rfl) Tryz.func5 (by kernel_rfl)
    (of_decide_eq_true (by kernel_rfl)) (by unfold Func.isWrapper; first | (rw [if_pos (by decide +kernel)]; kernel_rfl) | (rw [if_neg (by decide +kernel)]; exact ⟨rfl, rfl⟩))
    (fun os started H enc _ => lifted os started H enc)
theorem proved : Rows.StripeBudgetCardSaid :=
  Claim7.holds_tied_plain_at .later [] [.handle] true (true, "c2a98d723d65909e70b11b01eff72db5bcb78a4fb8e7f2a6b169bd298c51fa36") true
    over (fun _ h => by cases h) (by kernel_rfl) (fun _ h => by cases h) stripeBudget_row_tie rfl ⟨rfl, rfl⟩ (by kernel_rfl) rfl
    (fun f fn hf hfn => by
      obtain rfl : f = 5 := Option.some.inj ((show Tryz.prog.funcNamed "stave/stavelaw11.StripeBudget" = some 5 by kernel_rfl).symm.trans hf) |>.symm
      obtain rfl : fn = Tryz.f5 := (Option.some.inj (Tryz.func5.symm.trans hfn)).symm
      exact ⟨by kernel_rfl, fun j t ht => by
        rw [Tryz.params5] at ht
        rcases j with _ | _ | _ | _ | _ | _ | j
        · simp at ht; subst ht; kernel_rfl
        · simp at ht; subst ht; kernel_rfl
        · simp at ht; subst ht; kernel_rfl
        · simp at ht; subst ht; kernel_rfl
        · simp at ht; subst ht; kernel_rfl
        · simp at ht; subst ht; kernel_rfl
        · simp at ht⟩)
    (by kernel_rfl)
#print axioms proved
end Go.Proofs.YtkofmabonpbegaaGreatDoor.stripeBudget
