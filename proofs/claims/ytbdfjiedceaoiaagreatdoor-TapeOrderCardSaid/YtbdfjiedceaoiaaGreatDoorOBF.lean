/- Texts of one proof, joined: TapeSome, NestRow, TapeKeep, TapeOwn. -/
import Derived.Test.YtbdfjiedceaoiaaGreatDoorOBB
import Derived.Test.YtbdfjiedceaoiaaGreatDoorOJ
import Derived.Test.YtbdfjiedceaoiaaGreatDoorOO
import Derived.Test.YtbdfjiedceaoiaaGreatDoorOA
import Derived.Deep.Matrix
import Derived.Test.YtbdfjiedceaoiaaGreatDoorOBC
set_option linter.unusedVariables false
set_option linter.unusedSimpArgs false
namespace Go.Proofs.YtbdfjiedceaoiaaGreatDoor
set_option linter.unusedVariables false
open Go Go.RowKit
attribute [local irreducible] wpSQ
def NestAt (w : World) (a : Option Addr) (len : Nat) (Z : Nat → List Nat) : Prop := ∀ r, r < len → ∃ g off p C, a = some ⟨g, off, none⟩ ∧ w.cell? ⟨g, off + r, none⟩ = some (.slice p (Z r).length C) ∧ (Z r).length ≤ C ∧ C ≤ 9223372036854775807 ∧ (p = none → C = 0) ∧ ∀ n, n ≤ (Z r).length → n ≤ 140737488355328 → BytesAt w p n ((Z r).take n)
theorem cell_lt {w : World} {b o : Nat} {v : Value} (h : w.cell? ⟨b, o, none⟩ = some v) : b < w.heap.size := by
 unfold World.cell? at h
 rcases Nat.lt_or_ge b w.heap.size with q | q
 ·
  exact q
 ·
  rw [Array.getElem?_eq_none q] at h; cases h
theorem take_min {l : List Nat} {m n : Nat} (h : n = min l.length m) : l.take n = l.take m := by
 rcases Nat.le_total l.length m with q | q
 ·
  rw [h, Nat.min_eq_left q, List.take_length, List.take_of_length_le q]
 ·
  rw [h, Nat.min_eq_right q]
end Go.Proofs.YtbdfjiedceaoiaaGreatDoor
namespace Go.Proofs.YtbdfjiedceaoiaaGreatDoor
set_option linter.unusedVariables false
open Go Go.RowKit
theorem rowB_len {z : List Int} {n : Nat} (h : n ≤ z.length) : (rowB z n).length = n := by simp [rowB]; omega
theorem rowB_take (z : List Int) {n m : Nat} (h : n ≤ m) : (rowB z m).take n = rowB z n := by
 unfold rowB
 rw [← List.map_take, List.take_take, Nat.min_eq_left h]
theorem nest_of {w : World} {base : Nat} {a : Addr} {len cap : Nat} {A : Nat → Option Addr} {L C : Nat → Nat} {Z : Nat → List Int} (hl : len ≤ cap)
  (h : ∀ r, r < cap → w.cell? (a.add r) = some (.slice (A r) (L r) (C r)) ∧ L r ≤ C r ∧ C r ≤ maxLen ∧ (Z r).length = C r ∧ (∀ n ∈ Z r, (Lit.int .u8 n).wf = true) ∧ (A r = none → C r = 0) ∧ ∀ a', A r = some a' → base ≤ a'.block ∧ ∀ c, c < C r → w.cell? (a'.add c) = some (.int .u8 ((Z r).getD c 0))) :
  NestAt w (some a) len fun r => rowB (Z r) (L r) := fun r hr => by
 obtain ⟨h1, h2, h3, h4, h5, h6, h7⟩ := h r (by omega)
 have hrl : (rowB (Z r) (L r)).length = L r := rowB_len (by omega)
 have hrow : IsRow .u8 w (A r) (L r) (C r) (Z r) := by
  rcases e : A r with _ | x
  ·
   have h0 := h6 e
   exact .inl ⟨rfl, by omega, h0, List.length_eq_zero_iff.1 (by omega)⟩
  ·
   exact .inr ⟨x, rfl, h2, h3, h4, fun i hi => (h7 x e).2 i (by omega), h5⟩
 obtain ⟨b, off, sp⟩ := a
 rcases sp with _ | sp
 ·
  have e : (⟨b, off, none⟩ : Addr).add r = ⟨b, off + r, none⟩ := by unfold Addr.add; split <;> simp_all
  rw [e] at h1
  refine ⟨b, off, A r, C r, rfl, by rw [hrl]; exact h1, by rw [hrl]; exact h2, by unfold maxLen at h3; omega, h6, fun n hn hs => ?_⟩
  rw [hrl] at hn
  rw [rowB_take _ hn]
  exact hrow.bytes n hn hs
 ·
  exfalso
  have h0 := (h 0 (by omega)).1
  unfold World.cell? Addr.add at h0
  split at h0 <;> simp_all
theorem NestAt.nil (w : World) (a : Option Addr) (Z : Nat → List Nat) : NestAt w a 0 Z := fun r hr => by omega
structure TKeep (P : Nat → Prop) (w : World) (B : Nat) (v : Value) (L : List (List (List Nat))) (ad : Nat → Option Addr) (cp : Nat → Nat) : Prop where
 own : OwnVs w B 67 1 v ((List.range L.length).map fun i => tapV (ad i) (L.getD i []).length (cp i))
 ownP : ∀ b, v.ownBlock = some b → P b
 at_ : ∀ i, i < L.length → EntsIn (fun b => P b ∧ b < w.heap.size ∧ v.ownBlock ≠ some b) w (ad i) (L.getD i [])
 len : ∀ i, i < L.length → (L.getD i []).length ≤ 140737488355328
namespace TKeep
variable {P Q : Nat → Prop} {w w' : World} {B : Nat} {v : Value} {L : List (List (List Nat))} {ad : Nat → Option Addr} {cp : Nat → Nat}
theorem nil (P : Nat → Prop) (w : World) (B : Nat) : TKeep P w B (.slice none 0 0) [] (fun _ => none) fun _ => 0 := ⟨OwnVs.nil _ _ _ _, fun b (e : (none : Option Nat) = some b) => (by cases e), fun i hi => by simp at hi, fun i hi => by simp at hi⟩
theorem mono (H : TKeep P w B v L ad cp) (h : ∀ b, P b → Q b) : TKeep Q w B v L ad cp := ⟨H.own, fun b e => h b (H.ownP b e), fun i hi => (H.at_ i hi).mono fun b hb => ⟨h b hb.1, hb.2⟩, H.len⟩
theorem only {F : Nat → Prop} (H : TKeep P w B v L ad cp) (e : Only F w w') (hF : ∀ b, P b → ¬ F b) : TKeep P w' B v L ad cp :=
 ⟨H.own.only e fun b hb => hF b (H.ownP b hb), H.ownP, fun i hi => ((H.at_ i hi).only e fun b hb => hF b hb.1).mono fun b hb => ⟨hb.1, Nat.lt_of_lt_of_le hb.2.1 e.size, hb.2.2⟩, H.len⟩
theorem ext (H : TKeep P w B v L ad cp) (e : Ext w w') : TKeep P w' B v L ad cp := H.only e fun _ _ x => x
theorem push (H : TKeep P w B v L ad cp) {a : Option Addr} {c : Nat} {es : List (List Nat)} (hb : EntsIn (fun b => P b ∧ b < w.heap.size ∧ v.ownBlock ≠ some b) w a es) (hes : es.length ≤ 140737488355328) (hq : L.length < 900) (hB : B ≤ w.heap.size) :
  ∃ v' w' ad' cp', (Builtin.append_ #[60, 60] 60 #[v, .slice (some ⟨w.heap.size, 0, none⟩) 1 1]).run Tryz.prog (w.alloc (.cells (tapV a es.length c) 67)) = .ok v' w' ∧ TKeep (fun b => P b ∨ (w.heap.size ≤ b ∧ b < w'.heap.size)) w' B v' (L ++ [es]) ad' cp' ∧ Only (fun b => v.ownBlock = some b) w w' := by
 have hx : Ext w (w.alloc (.cells (tapV a es.length c) 67)) := (Ext.refl w).alloc _
 have hs1 : (w.alloc (.cells (tapV a es.length c) 67)).heap.size = w.heap.size + 1 := by simp
 obtain ⟨v', w', e1, e2, e3, e4, e5⟩ := (H.own.ext hx).push (tsl := 60) Tryz.underlying60 infoRows rfl (by omega) (tapV a es.length c) rfl (by intro u hu; simp [tapV] at hu; subst hu; rfl) ⟨w.heap.size, 0, none⟩ (Zah Zad) 1 (by simp; omega) (by omega) (by simp; omega)
 have ho : Only (fun b => v.ownBlock = some b) w w' := Only.trans (Ext.only hx) e3 (fun _ _ h => h)
 have hl1 : (L ++ [es]).length = L.length + 1 := by simp
 have g1 : ∀ i, i < L.length → (L ++ [es]).getD i [] = L.getD i [] := fun i hi => by
  rw [List.getD_eq_getElem?_getD, List.getD_eq_getElem?_getD, List.getElem?_append_left hi]
 have g2 : (L ++ [es]).getD L.length [] = es := by
  rw [List.getD_eq_getElem?_getD, List.getElem?_append_right (Nat.le_refl _), Nat.sub_self]; rfl
 have hown : ∀ b, b < w.heap.size → v.ownBlock ≠ some b → v'.ownBlock ≠ some b := fun b hb hn => by
  rcases e5 with q5 | q5
  ·
   rw [q5]; exact hn
  ·
   rw [q5]; intro hv
   have hv : (w.alloc (.cells (tapV a es.length c) 67)).heap.size = b := by simpa using hv
   omega
 refine ⟨v', w', fun i => if i < L.length then ad i else a, fun i => if i < L.length then cp i else c, e1, ⟨?_, fun b hv => ?_, fun i hi => ?_, fun i hi => ?_⟩, ho⟩
 ·
  have el : ((List.range (L ++ [es]).length).map fun i => tapV (if i < L.length then ad i else a) ((L ++ [es]).getD i []).length (if i < L.length then cp i else c)) = ((List.range L.length).map fun i => tapV (ad i) (L.getD i []).length (cp i)) ++ [tapV a es.length c] := by
   rw [hl1, List.range_succ, List.map_append]
   have e1 : ((List.range L.length).map fun i => tapV (if i < L.length then ad i else a) ((L ++ [es]).getD i []).length (if i < L.length then cp i else c)) = (List.range L.length).map fun i => tapV (ad i) (L.getD i []).length (cp i) := List.map_congr_left fun i hi => by
    have := List.mem_range.1 hi
    rw [if_pos this, if_pos this, g1 i this]
   rw [e1, List.map_cons, List.map_nil, if_neg (Nat.lt_irrefl _), if_neg (Nat.lt_irrefl _), g2]
  rw [el]; exact e2
 ·
  have h9 := (e2.lt b hv).2
  rcases e5 with q5 | q5
  ·
   rw [q5] at hv; exact .inl (H.ownP b hv)
  ·
   rw [q5] at hv
   have hv : (w.alloc (.cells (tapV a es.length c) 67)).heap.size = b := by simpa using hv
   exact .inr ⟨by omega, h9⟩
 ·
  rw [hl1] at hi
  by_cases hiq : i < L.length
  ·
   rw [if_pos hiq, g1 i hiq]
   refine ((H.at_ i hiq).only ho fun b hb => hb.2.2).mono fun b hb => ⟨.inl hb.1, by have := ho.size; omega, hown b hb.2.1 hb.2.2⟩
  ·
   rw [if_neg hiq]
   have : i = L.length := by omega
   subst this
   rw [g2]
   exact (hb.only ho fun b hb => hb.2.2).mono fun b hb => ⟨.inl hb.1, by have := ho.size; omega, hown b hb.2.1 hb.2.2⟩
 ·
  rw [hl1] at hi
  by_cases hiq : i < L.length
  ·
   rw [g1 i hiq]; exact H.len i hiq
  ·
   have : i = L.length := by omega
   subst this
   rw [g2]; exact hes
theorem slice (H : TKeep P w B v L ad cp) : ∃ a c, v = .slice a L.length c ∧ TapesAt w a L := by
 obtain ⟨a, c, e, z⟩ := H.own.slice
 rw [List.length_map, List.length_range] at e
 rcases z with ⟨z, rfl⟩ | ⟨g, rfl, hg1, hg2, hc, hv⟩
 ·
  have h0 := congrArg List.length z
  rw [List.length_map, List.length_range] at h0
  have h1 : L = [] := List.length_eq_zero_iff.1 (by simpa using h0)
  subst h1
  exact ⟨none, c, e, fun i x hx => by simp at hx⟩
 ·
  refine ⟨_, c, e, fun i x hx => ?_⟩
  have hi : i < L.length := (List.getElem?_eq_some_iff.1 hx).1
  have hg : L.getD i [] = x := by rw [List.getD_eq_getElem?_getD, hx]; rfl
  have h1 := hv i (tapV (ad i) x.length (cp i)) (by rw [List.getElem?_map, List.getElem?_range hi]; show some (tapV (ad i) (L.getD i []).length (cp i)) = _; rw [hg]) 0 _ rfl
  have h2 := H.at_ i hi
  have h3 := H.len i hi
  rw [hg] at h2 h3
  exact ⟨g, 0, ad i, cp i, rfl, by rw [Nat.zero_add]; simpa using h1, h3, h2.ents⟩
end TKeep
theorem TX.pokes {w0 w w' : World} {S F : Nat → Prop} {r gc g t u : Nat} {R : Rck} {c : Cfg} {v : Vol} (h : TX w0 w S r R gc c g v t u) (e : Only F w w') (hF : ∀ b, F b → S b ∧ w0.heap.size ≤ b ∧ b ≠ gc ∧ b ≠ g ∧ b ≠ t) : TX w0 w' (wideS S w w') r R gc c g v t u :=
 ⟨⟨⟨h.vx.ve.rack.pokes e fun b hb => (hF b hb).1, Ext.then h.ext e fun i hi hf => by have := (hF i hf).2.1; omega, fun b hb => .inl (h.vx.ve.low b hb)⟩, e.at h.vx.cfg (fun q => (hF _ q).2.2.1 rfl), .inl h.vx.cfgS, e.at h.vx.vol (fun q => (hF _ q).2.2.2.1 rfl), .inl h.vx.gS, h.vx.gw, h.vx.ne⟩, e.at h.tape (fun q => (hF _ q).2.2.2.2 rfl), .inl h.tS, h.tw, h.tc, h.tg⟩
end Go.Proofs.YtbdfjiedceaoiaaGreatDoor
namespace Go.Proofs.YtbdfjiedceaoiaaGreatDoor
set_option linter.unusedVariables false
open Go Go.RowKit
def slV (a : Option Addr) (n c : Nat) : Array Value := #[.slice a n c]
theorem own_two {W : World} {b2 b0 b1 n0 n1 c0 c1 : Nat} (h : W.heap[b2]? = some (.cells #[.slice (some ⟨b0, 0, none⟩) n0 c0, .slice (some ⟨b1, 0, none⟩) n1 c1] 66 (0, 0))) :
  OwnVs W b2 66 1 (.slice (some ⟨b2, 0, none⟩) 2 2) [slV (some ⟨b0, 0, none⟩) n0 c0, slV (some ⟨b1, 0, none⟩) n1 c1] :=
 ⟨⟨rfl, .inr ⟨b2, 2, _, rfl, Nat.le_refl _, h, Nat.le_refl _, by decide, rfl, rfl⟩⟩, fun x hx => by
  rcases List.mem_cons.1 hx with rfl | hx
  ·
   rfl
  ·
   have : x = slV (some ⟨b1, 0, none⟩) n1 c1 := by simpa using hx
   rw [this]; rfl⟩
theorem own_push {W : World} {B : Nat} {v : Value} {l : List (Array Value)} (h : OwnVs W B 66 1 v l) (hl : l.length < 900) (hB : B ≤ W.heap.size) {a : Option Addr} {n c bs : Nat} (hs : W.heap[bs]? = some (.cells (slV a n c) 66 (0, 0))) :
  ∃ v' w', (Builtin.append_ #[67, 67] 67 #[v, .slice (some ⟨bs, 0, none⟩) 1 1]).run Tryz.prog W = .ok v' w' ∧ OwnVs w' B 66 1 v' (l ++ [slV a n c]) ∧ Only (fun b => v.ownBlock = some b) W w' ∧ (v'.ownBlock = v.ownBlock ∨ v'.ownBlock = some W.heap.size) := by
 obtain ⟨v', w', e1, e2, e3, _, e5⟩ := h.push (tsl := 67) Tryz.underlying67 infoRow rfl (by omega) (slV a n c) rfl (by intro u hu; simp [slV] at hu; subst hu; rfl) ⟨bs, 0, none⟩ (Zah hs) 1 (by omega) (by omega) hB
 exact ⟨v', w', e1, e2, e3, e5⟩
theorem own_ents {W : World} {B : Nat} {v : Value} {S : Nat → Prop} {ad : Nat → Option Addr} {cp : Nat → Nat} {es : List (List Nat)} (h : OwnVs W B 66 1 v ((List.range es.length).map fun i => slV (ad i) (es.getD i []).length (cp i))) (hne : es ≠ []) (hs : ∀ b, v.ownBlock = some b → S b)
  (he : ∀ i x, es[i]? = some x → BytesAt W (ad i) x.length x ∧ ∀ q, ad i = some q → S q.block) : ∃ a c, v = .slice a es.length c ∧ EntsIn S W a es := by
 obtain ⟨a, c, e, z⟩ := h.slice
 rw [List.length_map, List.length_range] at e
 rcases z with ⟨z, rfl⟩ | ⟨g, rfl, hg1, hg2, hc, hv⟩
 ·
  have h0 := congrArg List.length z
  rw [List.length_map, List.length_range] at h0
  exact absurd (List.length_eq_zero_iff.1 (by simpa using h0)) hne
 ·
  refine ⟨_, c, e, fun i x hx => ?_⟩
  have hi : i < es.length := (List.getElem?_eq_some_iff.1 hx).1
  have hg : es.getD i [] = x := by rw [List.getD_eq_getElem?_getD, hx]; rfl
  have h1 := hv i (slV (ad i) x.length (cp i)) (by rw [List.getElem?_map, List.getElem?_range hi]; show some (slV (ad i) (es.getD i []).length (cp i)) = _; rw [hg]) 0 _ rfl
  obtain ⟨h2, h3⟩ := he i x hx
  exact ⟨g, 0, ad i, cp i, rfl, hs g (by rw [e]; rfl), by rw [Nat.zero_add]; simpa using h1, h2, h3⟩
end Go.Proofs.YtbdfjiedceaoiaaGreatDoor
