/- Texts of one proof, joined: BSame, StrApart. -/
import Derived.Test.YthopnbklmlopkaaGreatDoorQA
import Derived.Test.YthopnbklmlopkaaGreatDoorQO
import Derived.Test.YthopnbklmlopkaaGreatDoorQP
set_option linter.unusedVariables false
set_option linter.unusedSimpArgs false
namespace Go.Proofs.YthopnbklmlopkaaGreatDoor
set_option linter.unusedVariables false
open Go.RowKit Go
set_option maxHeartbeats 400000 in
theorem same_some (b off n c b' off' n' c' : Nat) (l l' : List Nat) (w : World) (h1 : n ≤ 140737488355328) (h2 : n' ≤ 140737488355328)
  (hl : l.length = n) (hl' : l'.length = n') (hc : ∀ i, i < n → w.cell? ⟨b, off + i, none⟩ = some (.int .u8 (nth l i)))
  (hc' : ∀ i, i < n' → w.cell? ⟨b', off' + i, none⟩ = some (.int .u8 (nth l' i))) (hb : ∀ i, nth l i < 256) (hb' : ∀ i, nth l' i < 256) (hn : n = n') :
  Calls Tryz.prog 32 #[.slice (some ⟨b, off, none⟩) n c, .slice (some ⟨b', off', none⟩) n' c'] w fun e w' => e = .returned (.bool (decide (l = l'))) ∧ Ext w w' := by
 subst hn
 have HC := hid hc; have HC' := hid hc'; have HB := hid hb; have HB' := hid hb'; have HL := hid hl; have HL' := hid hl'
 clear hc hc' hb hb' hl hl'
 go_enter Tryz.func32, Tryz.ntmps32
 go_wp2
 go_loopw [5] (fun i wr => ∃ k m : Nat, k ≤ n ∧ i = .int .i64 k ∧ wr = w.drewN m ∧ ∀ j, j < k → nth l j = nth l' j) (fun i _ => n - (intOf i).toNat)
 case atStart => exact ⟨0, 0, by omega, rfl, rfl, fun j h => by omega⟩
 case round =>
  obtain ⟨k, m, hk, rfl, rfl, he⟩ := hrel
  have HE := hid he
  clear he
  have hm : ∀ j, j < k → nth l j = nth l' j := HE.out
  by_cases hlt : k < n
  ·
   have HS : Hid (nth l k = nth l' k → ∀ j, j < k + 1 → nth l j = nth l' j) := by
    refine hid fun hq j hj => ?_
    by_cases e : j = k
    ·
     rw [e]; exact hq
    ·
     exact hm j (by omega)
   have HN : Hid (nth l k ≠ nth l' k → decide (l = l') = false) := hid fun hq => by
    rw [decide_eq_false_iff_not]; intro e; rw [e] at hq; exact hq rfl
   clear hm HE
   have c1 := HC.out k hlt
   have c2 := HC'.out k hlt
   have b1 := HB.out k
   have b2 := HB'.out k
   by_cases hq : nth l k = nth l' k
   ·
    have hq2 : ((nth l k : Int) != (nth l' k : Int)) = false := by simp [hq]
    have HQ := hid hq; clear hq
    generalize nth l k = x at *
    generalize nth l' k = y at *
    go_wp2
    go_quiet (fail)
    go_wp2
    go_roundw
    case rel =>
     exact ⟨k + 1, _, by omega, by go_num, rfl, HS.out HQ.out⟩
    case measure => simp [intOf]; omega
   ·
    have hq2 : ((nth l k : Int) != (nth l' k : Int)) = true := bne_iff_ne.2 (by omega)
    have HD := hid (HN.out hq)
    clear hq HN HS
    generalize nth l k = x at *
    generalize nth l' k = y at *
    go_wp2
    go_quiet (fail)
    go_wp2
    go_ret
    exact ⟨Za7 HD.out.symm, ((Ext.refl w).drewN _).drewN _⟩
  ·
   have HD : Hid (decide (l = l') = true) := by
    refine hid ?_
    rw [decide_eq_true_iff]
    exact Zb1 (by rw [HL.out, HL'.out]) (fun i hi => hm i (by rw [HL.out] at hi; omega))
   clear hm HE
   go_wp2
   go_ret
   exact ⟨Za7 HD.out.symm, (Ext.refl w).drewN _⟩
theorem same_none (a : Option Addr) (c : Nat) (a' : Option Addr) (c' : Nat) (w : World) :
  Calls Tryz.prog 32 #[.slice a 0 c, .slice a' 0 c'] w fun e w' => e = .returned (.bool true) ∧ Ext w w' := by
 go_enter Tryz.func32, Tryz.ntmps32
 go_wp2
 go_loopw [5] (fun i wr => i = .int .i64 0 ∧ wr = w) (fun _ _ => 0)
 case atStart => exact ⟨rfl, rfl⟩
 case round =>
  obtain ⟨rfl, rfl⟩ := hrel
  go_wp2
  go_ret
  exact ⟨rfl, Ext.refl _⟩
theorem same_unlike (a : Option Addr) (n c : Nat) (a' : Option Addr) (n' c' : Nat) (w : World) (hn : n ≠ n') :
  Calls Tryz.prog 32 #[.slice a n c, .slice a' n' c'] w fun e w' => e = .returned (.bool false) ∧ Ext w w' := by
 have hq : ((n : Int) != (n' : Int)) = true := bne_iff_ne.2 (by omega)
 clear hn
 go_enter Tryz.func32, Tryz.ntmps32
 go_wp2
 go_ret
 exact ⟨rfl, Ext.refl _⟩
theorem same_c {a a' : Option Addr} {n n' : Nat} {l l' : List Nat} (c c' : Nat) {w : World} (h : BytesAt w a n l) (h' : BytesAt w a' n' l') :
  Calls Tryz.prog 32 #[.slice a n c, .slice a' n' c'] w fun e w' => e = .returned (.bool (decide (l = l'))) ∧ Ext w w' := by
 by_cases hn : n = n'
 ·
  subst hn
  by_cases h0 : n = 0
  ·
   subst h0
   have e1 := List.length_eq_zero_iff.1 h.len
   have e2 := List.length_eq_zero_iff.1 h'.len
   subst e1 e2
   exact same_none a c a' c' w
  ·
   rcases h.cells with h1 | ⟨b, off, rfl, hc⟩
   ·
    exact (h0 h1).elim
   ·
    rcases h'.cells with h1 | ⟨b', off', rfl, hc'⟩
    ·
     exact (h0 h1).elim
    ·
     exact same_some b off n c b' off' n c' l l' w h.small h'.small h.len h'.len hc hc' (Zbh h.byte) (Zbh h'.byte) rfl
 ·
  have e : decide (l = l') = false := by
   rw [decide_eq_false_iff_not]; intro e; exact hn (by rw [← h.len, ← h'.len, e])
  rw [e]
  exact same_unlike a n c a' n' c' w hn
open Go Go.RowKit
def AP (R : Rck) (c : Cfg) (m : Nat) (f : Strs) : Prop := ∃ B, SR R c m f allU B ∧ ∀ d j, B d j = false
namespace AP
variable {R : Rck} {c : Cfg} {m : Nat} {f : Strs}
end AP
def secV (b c : Nat) : Array Value := #[.slice (some ⟨b, 0, none⟩) 128 c]
structure HadAt (w : World) (B : Nat) (v : Value) (q : Nat) (h : Nat → List Nat) (bk cp : Nat → Nat) : Prop where
 own : OwnVs w B 56 1 v ((List.range q).map fun i => secV (bk i) (cp i))
 at_ : ∀ i, i < q → BytesAt w (some ⟨bk i, 0, none⟩) 128 (h i)
 lo : ∀ i, i < q → B ≤ bk i
 hi : ∀ i, i < q → bk i < w.heap.size
 ne : ∀ i, i < q → v.ownBlock ≠ some (bk i)
namespace HadAt
variable {w w' : World} {B : Nat} {v : Value} {q : Nat} {h : Nat → List Nat} {bk cp : Nat → Nat}
theorem nil (w : World) (B : Nat) (h : Nat → List Nat) : HadAt w B (.slice none 0 0) 0 h (fun _ => 0) fun _ => 0 := ⟨OwnVs.nil _ _ _ _, fun i hi => by omega, fun i hi => by omega, fun i hi => by omega, fun i hi => by omega⟩
theorem ext (H : HadAt w B v q h bk cp) (e : Ext w w') : HadAt w' B v q h bk cp := ⟨H.own.ext e, fun i hi => (H.at_ i hi).ext e, H.lo, fun i hi => Nat.lt_of_lt_of_le (H.hi i hi) e.size, H.ne⟩
theorem only {F : Nat → Prop} (H : HadAt w B v q h bk cp) (e : Only F w w') (hF : ∀ b, b < w.heap.size → B ≤ b → ¬ F b) : HadAt w' B v q h bk cp :=
 ⟨H.own.only e fun b hb => hF b (H.own.lt b hb).2 (H.own.lt b hb).1, fun i hi => (H.at_ i hi).only e fun k _ hk => by
  obtain ⟨p, hp, rfl⟩ := hk
  cases hp
  exact hF _ (H.hi i hi) (H.lo i hi), H.lo, fun i hi => Nat.lt_of_lt_of_le (H.hi i hi) e.size, H.ne⟩
theorem push (H : HadAt w B v q h bk cp) {W : World} (e : Ext w W) {b c : Nat} (hb : BytesAt W (some ⟨b, 0, none⟩) 128 (h q)) (hbl : w.heap.size ≤ b) (hq : q < 900) (hB : B ≤ w.heap.size) :
  ∃ v' w' bk' cp', (Builtin.append_ #[55, 55] 55 #[v, .slice (some ⟨W.heap.size, 0, none⟩) 1 1]).run Tryz.prog (W.alloc (.cells (secV b c) 56)) = .ok v' w' ∧ HadAt w' B v' (q + 1) h bk' cp' ∧ (∀ w0, w0.heap.size ≤ B → Ext w0 W → Ext w0 w') := by
 have hbW : b < W.heap.size := hb.lt b (by omega) ⟨_, rfl, rfl⟩
 have hx : Ext W (W.alloc (.cells (secV b c) 56)) := (Ext.refl W).alloc _
 have hs1 : (W.alloc (.cells (secV b c) 56)).heap.size = W.heap.size + 1 := by simp
 obtain ⟨v', w', e1, e2, e3, e4, e5⟩ := ((H.own.ext e).ext hx).push (tsl := 55) Tryz.underlying55 infoRow rfl (by omega) (secV b c) rfl (by intro u hu; simp [secV] at hu; subst hu; rfl) ⟨W.heap.size, 0, none⟩ (Zah Zad) 1 (by simp; omega) (by omega) (by have := e.size; simp; omega)
 have ho : Only (fun b => v.ownBlock = some b) W w' := Only.trans (Ext.only hx) e3 (fun _ _ h => h)
 refine ⟨v', w', fun i => if i < q then bk i else b, fun i => if i < q then cp i else c, e1, ⟨?_, fun i hi => ?_, fun i hi => ?_, fun i hi => ?_, fun i hi => ?_⟩, fun w0 hw0 hx0 => e4 w0 hw0 (hx0.alloc _)⟩
 ·
  have el : ((List.range (q + 1)).map fun i => secV (if i < q then bk i else b) (if i < q then cp i else c)) = ((List.range q).map fun i => secV (bk i) (cp i)) ++ [secV b c] := by
   rw [List.range_succ, List.map_append]
   have e1 : ((List.range q).map fun i => secV (if i < q then bk i else b) (if i < q then cp i else c)) = (List.range q).map fun i => secV (bk i) (cp i) := List.map_congr_left fun i hi => by
    have := List.mem_range.1 hi
    rw [if_pos this, if_pos this]
   rw [e1]
   simp
  rw [el]; exact e2
 ·
  by_cases hiq : i < q
  ·
   rw [if_pos hiq]
   refine ((H.at_ i hiq).ext e).only ho fun k _ hk => ?_
   obtain ⟨p, hp, rfl⟩ := hk
   cases hp
   exact H.ne i hiq
  ·
   rw [if_neg hiq]
   have : i = q := by omega
   subst this
   refine hb.only ho fun k _ hk hv => ?_
   obtain ⟨p, hp, rfl⟩ := hk
   cases hp
   have := (H.own.lt _ hv).2
   have h2 : (⟨b, 0, none⟩ : Addr).block = b := rfl
   omega
 ·
  by_cases hiq : i < q
  ·
   rw [if_pos hiq]; exact H.lo i hiq
  ·
   rw [if_neg hiq]; omega
 ·
  have := ho.size
  have := e.size
  by_cases hiq : i < q
  ·
   rw [if_pos hiq]; have := H.hi i hiq; omega
  ·
   rw [if_neg hiq]; omega
 ·
  by_cases hiq : i < q
  ·
   rw [if_pos hiq]
   rcases e5 with q5 | q5
   ·
    rw [q5]; exact H.ne i hiq
   ·
    rw [q5]; intro hv
    have hv : (W.alloc (.cells (secV b c) 56)).heap.size = bk i := by simpa using hv
    have := H.hi i hiq; have := e.size
    omega
  ·
   rw [if_neg hiq]
   rcases e5 with q5 | q5
   ·
    rw [q5]; intro hv
    have := (H.own.lt b hv).2
    omega
   ·
    rw [q5]; intro hv
    have hv : (W.alloc (.cells (secV b c) 56)).heap.size = b := by simpa using hv
    omega
theorem slice (H : HadAt w B v q h bk cp) (hq : 0 < q) : ∃ g c, v = .slice (some ⟨g, 0, none⟩) q c ∧ ∀ i, i < q → w.cell? ⟨g, i, none⟩ = some (.slice (some ⟨bk i, 0, none⟩) 128 (cp i)) := by
 obtain ⟨a, c, e, z⟩ := H.own.slice
 rw [List.length_map, List.length_range] at e
 rcases z with ⟨z, _⟩ | ⟨g, rfl, _, _, _, hv⟩
 ·
  have := congrArg List.length z
  simp at this; omega
 ·
  refine ⟨g, c, e, fun i hi => ?_⟩
  have := hv i (secV (bk i) (cp i)) (by simp [hi]) 0 _ rfl
  simpa using this
end HadAt
end Go.Proofs.YthopnbklmlopkaaGreatDoor
