/- Texts of one proof, joined: TapeOrd. -/
import Derived.Test.YtbdfjiedceaoiaaGreatDoorOBC
set_option linter.unusedVariables false
set_option linter.unusedSimpArgs false
namespace Go.Proofs.YtbdfjiedceaoiaaGreatDoor
set_option linter.unusedVariables false
def ordE (Z : Nat → List Nat) (len i : Nat) : List (List Nat) := [[i, 1], [i, 2]] ++ if i < len ∧ 0 < (Z i).length then [(Z i).take 60] else []
def ordL (Z : Nat → List Nat) (len n : Nat) : List (List (List Nat)) := (List.range n).map (ordE Z len)
theorem ordL_len (Z : Nat → List Nat) (len n : Nat) : (ordL Z len n).length = n := by simp [ordL]
theorem ordL_succ (Z : Nat → List Nat) (len n : Nat) : ordL Z len n ++ [ordE Z len n] = ordL Z len (n + 1) := by unfold ordL; rw [List.range_succ, List.map_append]; rfl
theorem ordL_get (Z : Nat → List Nat) (len n : Nat) {s : Nat} (h : s < n) : (ordL Z len n)[s]? = some (ordE Z len s) := by
 unfold ordL
 rw [List.getElem?_map, List.getElem?_range h]; rfl
theorem ordE_yes {Z : Nat → List Nat} {len i : Nat} (h : i < len ∧ 0 < (Z i).length) : ordE Z len i = [[i, 1], [i, 2], (Z i).take 60] := by
 unfold ordE; rw [if_pos h]; rfl
theorem ordE_no {Z : Nat → List Nat} {len i : Nat} (h : ¬ (i < len ∧ 0 < (Z i).length)) : ordE Z len i = [[i, 1], [i, 2]] := by
 unfold ordE; rw [if_neg h]; rfl
theorem ordE_len (Z : Nat → List Nat) (len i : Nat) : 2 ≤ (ordE Z len i).length ∧ (ordE Z len i).length ≤ 3 := by
 by_cases h : i < len ∧ 0 < (Z i).length
 ·
  rw [ordE_yes h]; exact ⟨by show 2 ≤ 3; omega, by show 3 ≤ 3; omega⟩
 ·
  rw [ordE_no h]; exact ⟨by show 2 ≤ 2; omega, by show 2 ≤ 3; omega⟩
theorem ordE_fits {kk : Nat} (k1 : 1 ≤ kk) (Z : Nat → List Nat) (len i : Nat) : Tp.fits kk (ordE Z len i) := by
 by_cases h : i < len ∧ 0 < (Z i).length
 ·
  rw [ordE_yes h]
  have h2 := h.2
  have e : (Tp.pack [[i, 1], [i, 2], (Z i).take 60]).length = 8 + ((Z i).take 60).length + 2 := by
   simp only [Tp.pack, List.flatMap_cons, List.flatMap_nil, List.length_append, Tp.ent_len, List.length_cons, List.length_nil]; omega
  have e2 : ((Z i).take 60).length = min 60 (Z i).length := List.length_take
  refine ⟨fun x hx => ?_, List.cons_ne_nil _ _, by rw [e]; omega⟩
  rcases List.mem_cons.1 hx with rfl | hx
  ·
   exact ⟨by show 1 ≤ 2; omega, by show 2 + 2 ≤ kk * 108; omega⟩
  rcases List.mem_cons.1 hx with rfl | hx
  ·
   exact ⟨by show 1 ≤ 2; omega, by show 2 + 2 ≤ kk * 108; omega⟩
  have hx : x = (Z i).take 60 := by simpa using hx
  rw [hx]
  exact ⟨by omega, by omega⟩
 ·
  rw [ordE_no h]
  refine ⟨fun x hx => ?_, List.cons_ne_nil _ _, by show 8 ≤ kk * 108; omega⟩
  rcases List.mem_cons.1 hx with rfl | hx
  ·
   exact ⟨by show 1 ≤ 2; omega, by show 2 + 2 ≤ kk * 108; omega⟩
  have hx : x = [i, 2] := by simpa using hx
  rw [hx]
  exact ⟨by show 1 ≤ 2; omega, by show 2 + 2 ≤ kk * 108; omega⟩
section
variable {R : Rck} {c : Cfg} {m : Nat} {cur : Int} {j : Nat → Option Rcd} {f : Strs} {L : List (List (List Nat))}
theorem TI.read (h : TI c cur j f L) (hh : VH R c m true j f) (k4 : c.k ≤ 4) (n6 : c.n ≤ 6) {t : Nat} {es : List (List Nat)} (ht : L[t]? = some es) : ∃ gen, Vol.read ⟨c, cur, false⟩ R (t : Int) = (Tp.chunks c.k.toNat (Tp.pack es), gen, none) := by
 obtain ⟨_, _, gen, _, h4⟩ := h.has t es ht
 have htl : t < L.length := (List.getElem?_eq_some_iff.1 ht).1
 have hst : t < c.stripes.toNat := Nat.lt_of_lt_of_le htl h.le
 exact ⟨gen, Vol.read_of (hh.sget k4 n6 h4 (h.vi.vv.sfit h4 hst)) cur⟩
theorem TI.get (h : TI c cur j f L) (hh : VH R c m true j f) (k4 : c.k ≤ 4) (n6 : c.n ≤ 6) {t : Nat} {es : List (List Nat)} (ht : L[t]? = some es) :
  (∀ i : Nat, i < es.length → Vol.tget ⟨c, cur, false⟩ R L.length (t : Int) (i : Int) = (none, es.getD i [])) ∧ (∀ i : Nat, es.length ≤ i → Vol.tget ⟨c, cur, false⟩ R L.length (t : Int) (i : Int) = (some (.fault sTGet t (.no 10)), [])) ∧
  ∀ l gen, Vol.read ⟨c, cur, false⟩ R (t : Int) = (l, gen, none) → l ≠ [] ∧ l.length ≤ 8 ∧ (∀ b ∈ l, b.length = 108) ∧ ∀ b ∈ l, ∀ x ∈ b, x < 256 := by
 have hk0 := hh.good.k0
 obtain ⟨gen, hr⟩ := h.read hh k4 n6 ht
 obtain ⟨h1, h2, _⟩ := h.has t es ht
 have htl : t < L.length := (List.getElem?_eq_some_iff.1 ht).1
 have he : Tp.empty (Tp.chunks c.k.toNat (Tp.pack es)) = es := Tp.empty_fill (by omega) h1
 refine ⟨fun i hi => ?_, fun i hi => ?_, fun l g q => ?_⟩
 ·
  unfold Vol.tget
  rw [if_neg (by omega), hr]
  show (if ((Tp.empty (Tp.chunks c.k.toNat (Tp.pack es))).length : Int) ≤ (i : Int) then _ else (none, (Tp.empty (Tp.chunks c.k.toNat (Tp.pack es))).getD (i : Int).toNat [])) = _
  rw [he, if_neg (by omega), Int.toNat_natCast]
 ·
  unfold Vol.tget
  rw [if_neg (by omega), hr]
  show (if ((Tp.empty (Tp.chunks c.k.toNat (Tp.pack es))).length : Int) ≤ (i : Int) then _ else _) = _
  rw [he, if_pos (by omega)]
 ·
  rw [hr] at q; cases q
  exact (Tp.chunks_blocks (Tp.pack_byte h2)).four (by omega) (by omega)
theorem tget_out (v : Vol) (R : Rck) (used : Nat) {s i : Int} (h : s < 0 ∨ (used : Int) ≤ s) : v.tget R used s i = (some (.fault sTGet s (.no 10)), []) := by
 unfold Vol.tget
 rw [if_pos (by omega)]
theorem read_out {c : Cfg} {cur : Int} {R : Rck} {s : Int} (h : s < 0 ∨ c.stripes ≤ s) : ∀ l gen, Vol.read ⟨c, cur, false⟩ R s = (l, gen, none) → l ≠ [] ∧ l.length ≤ 8 ∧ (∀ b ∈ l, b.length = 108) ∧ ∀ b ∈ l, ∀ x ∈ b, x < 256 := fun l gen q => by
 unfold Vol.read at q
 simp only [Bool.false_eq_true, if_false] at q
 have hk : R.sknown c s = false := by
  unfold Rck.sknown
  rcases h with h | h
  ·
   rw [decide_eq_false (show ¬ 0 ≤ s by omega), Bool.and_false, Bool.false_and]
  ·
   rw [decide_eq_false (show ¬ s < c.stripes by omega), Bool.and_false]
 have hs : R.sget c s = ([], 0, some (.fault sSGet s (.no 1))) := by
  unfold Rck.sget
  rw [hk]; rfl
 rw [hs] at q
 cases q
theorem tappend_full {c : Cfg} {cur : Int} {R : Rck} {used : Nat} {es : List (List Nat)} (hf : Tp.fits c.k.toNat es) (h : c.stripes ≤ used) : Vol.tappend ⟨c, cur, false⟩ R used es = ⟨some (.fault sTAppend used (.no 8)), R, ⟨c, cur, false⟩, used⟩ := by
 unfold Vol.tappend
 simp only
 rw [if_pos hf, if_pos h]
theorem tappend_nil {c : Cfg} {cur : Int} {R : Rck} {used : Nat} : Vol.tappend ⟨c, cur, false⟩ R used [] = ⟨some (.fault sTAppend used (.no 11)), R, ⟨c, cur, false⟩, used⟩ := by
 unfold Vol.tappend
 simp only
 rw [if_neg (fun q => q.2.1 rfl)]
end
end Go.Proofs.YtbdfjiedceaoiaaGreatDoor
