/- Texts of one proof, joined: JourRack, JourDisk, JourCutPure, JourBad, JourUnionPure, JourRecs, JourK, JourL, JourEnv. -/
import Derived.Test.YtmjembnciffgfaaDoorPartI
import Derived.Test.YtmjembnciffgfaaDoorPartG
import Derived.Test.YtmjembnciffgfaaDoorPartB
import Derived.Test.YtmjembnciffgfaaDoorPartC
import Derived.Test.YtmjembnciffgfaaDoorPartJ
set_option linter.unusedVariables false
set_option linter.unusedSimpArgs false
/- The journal on racks whose power is on. No program stands here. -/
namespace Go.Proofs.YtmjembnciffgfaaDoor
set_option linter.unusedVariables false
/-- A record that may stand in a slot. -/
structure Rcd.Fit (x : Rcd) (c : Cfg) (slot : Nat) : Prop where
  ok : x.Ok
  st0 : 0 ≤ x.stripe
  st1 : x.stripe < c.stripes
  seq0 : 0 ≤ x.seq
  seq1 : x.seq ≤ 1152921504606846976
  ring : x.seq = 0 ∨ (2 ≤ x.seq ∧ x.seq % c.slots = slot)
namespace Rcd.Fit
variable {x : Rcd} {c : Cfg} {slot : Nat}
theorem right (h : x.Fit c slot) (hc : c.Good) {i : Nat} (hi : i < 8) : (x.frm i).right = true := by
  have e1 : (x.frm i).kind = 2 := rfl
  have e2 : (x.frm i).slot = i := rfl
  have e3 : (x.frm i).stripe = x.stripe := rfl
  have e4 : (x.frm i).gen = x.seq := rfl
  have q1 := h.st0; have q2 := h.st1; have q3 := h.seq0; have q4 := h.seq1; have q5 := hc.st1
  exact Frm.right_of (by omega) (by omega) (by omega) (by omega) (by omega) (by omega) (by omega) (by omega)
theorem put (h : x.Fit c slot) (hc : c.Good) {i : Nat} (hi : i < 8) : (x.frm i).put = (x.frm i).bytes := by unfold Frm.put; rw [h.right hc hi]; rfl
theorem get (h : x.Fit c slot) (hc : c.Good) {i : Nat} (hi : i < 8) : Frm.get (x.frm i).bytes = some (x.frm i) := Frm.get_bytes _ (Rcd.frm_ok x h.ok i) (h.right hc hi)
theorem len (h : x.Fit c slot) (i : Nat) : (x.frm i).bytes.length = 128 := Frm.bytes_len _ (Rcd.frm_ok x h.ok i)
end Rcd.Fit
/-- The sector of a slot's place. -/
def jsecN (c : Cfg) (slot i : Nat) : Nat := 1 + slot * c.k.toNat + i
theorem jsec_eq {c : Cfg} (hc : c.Good) (slot i : Nat) : Rck.jsec c (slot : Int) i = (jsecN c slot i : Nat) := by
  unfold Rck.jsec jsecN
  have e : c.k = ((c.k.toNat : Nat) : Int) := by have := hc.k0; omega
  rw [e]
  simp
theorem jsecN_lt {c : Cfg} (hc : c.Good) {m : Nat} (hm : c.sectors ≤ (m : Int)) {slot i : Nat} (hs : slot < c.slots.toNat) (hi : i < c.k.toNat) : jsecN c slot i < m := by
  have h1 : (slot + 1) * c.k.toNat ≤ c.slots.toNat * c.k.toNat := Nat.mul_le_mul_right _ (by omega)
  have h2 : ((c.slots.toNat * c.k.toNat : Nat) : Int) = c.slots * c.k := by
    have e : c.k = ((c.k.toNat : Nat) : Int) := by have := hc.k0; omega
    have e2 : c.slots = ((c.slots.toNat : Nat) : Int) := by have := hc.sl0; omega
    rw [e, e2]; simp
  unfold Cfg.sectors at hm
  rw [← h2] at hm
  rw [Nat.succ_mul] at h1
  have h3 := hc.st0
  unfold jsecN
  omega
theorem jsecN_inj {c : Cfg} {s t i j : Nat} (hi : i < c.k.toNat) (hj : j < c.k.toNat) (h : jsecN c s i = jsecN c t j) : s = t ∧ i = j := by
  unfold jsecN at h
  generalize c.k.toNat = K at *
  have h' : i + K * s = j + K * t := by rw [Nat.mul_comm K s, Nat.mul_comm K t]; omega
  have hk : 0 < K := by omega
  have a1 : (i + K * s) / K = s := by rw [Nat.add_mul_div_left _ _ hk, Nat.div_eq_of_lt hi, Nat.zero_add]
  have a2 : (j + K * t) / K = t := by rw [Nat.add_mul_div_left _ _ hk, Nat.div_eq_of_lt hj, Nat.zero_add]
  have : s = t := by rw [← a1, ← a2, h']
  subst this
  exact ⟨rfl, by omega⟩
namespace Dsk
/-- The good frame that a disk has at a slot's place. -/
def jg (D : Dsk) (c : Cfg) (slot i : Nat) : Option Frm :=
  if D.dead then none else (Frm.get (D.read (jsecN c slot i))).bind fun f => if f.kind = 2 ∧ f.slot = i ∧ ¬ (c.stripes ≤ f.stripe ∨ f.gen = 1 ∨ (1 < f.gen ∧ f.gen % c.slots ≠ slot)) then some f else none
theorem jg_has {D : Dsk} {c : Cfg} {slot i : Nat} {x : Rcd} (hc : c.Good) (hx : x.Fit c slot) (hi : i < 8) (ha : D.dead = false) (hr : D.read (jsecN c slot i) = (x.frm i).bytes) : D.jg c slot i = some (x.frm i) := by
  unfold jg
  have e1 : (x.frm i).kind = 2 := rfl
  have e2 : (x.frm i).slot = i := rfl
  have e3 : (x.frm i).stripe = x.stripe := rfl
  have e4 : (x.frm i).gen = x.seq := rfl
  rw [ha, hr, hx.get hc hi]
  simp only [Bool.false_eq_true, if_false, Option.bind_some]
  rw [if_pos]
  rw [e1, e2, e3, e4]
  refine ⟨rfl, rfl, ?_⟩
  have q1 := hx.st1; have q2 := hx.ring
  rintro (h | h | ⟨h1, h2⟩)
  · omega
  · omega
  · rcases q2 with q2 | ⟨_, q2⟩
    · omega
    · exact h2 q2
theorem jg_dead {D : Dsk} {c : Cfg} {slot i : Nat} (h : D.dead = true) : D.jg c slot i = none := by unfold jg; rw [h]; rfl
theorem jg_none {D : Dsk} {c : Cfg} {slot i : Nat} (h : Frm.get (D.read (jsecN c slot i)) = none) : D.jg c slot i = none := by
  unfold jg; rw [h]
  split <;> rfl
end Dsk
theorem Super.known {R : Rck} {c : Cfg} {m : Nat} (h : Super R c m) {slot : Nat} (hs : slot < c.slots.toNat) : R.jknown c (slot : Int) = true := by
  unfold Rck.jknown
  rw [h.fits]
  simp only [Bool.true_and, Bool.and_eq_true, decide_eq_true_eq]
  omega
theorem Super.jgood {R : Rck} {c : Cfg} {m : Nat} (h : Super R c m) {d slot i : Nat} (hd : d < c.n.toNat) (hs : slot < c.slots.toNat) (hi : i < c.k.toNat) : R.jgood c d (slot : Int) i = (R.dsk d).jg c slot i := by
  have hm := jsecN_lt h.good h.fit hs hi
  unfold Rck.jgood Dsk.jg
  rw [jsec_eq h.good]
  rcases ha : (R.dsk d).dead with _ | _
  · rw [h.live.get hd hm ha]
    rcases hg : Frm.get ((R.dsk d).read (jsecN c slot i)) with _ | f
    · rfl
    · simp only [Bool.false_eq_true, if_false, Option.bind_some]
      by_cases h1 : f.kind = 2 ∧ f.slot = i
      · rw [if_pos ⟨h1.1, h1.2, fun q => absurd q (by decide)⟩]
        simp only [Option.bind_some]
        by_cases h2 : c.stripes ≤ f.stripe ∨ f.gen = 1 ∨ (1 < f.gen ∧ f.gen % c.slots ≠ slot)
        · rw [if_pos h2, if_neg (fun q => q.2.2 h2)]
        · rw [if_neg h2, if_pos ⟨h1.1, h1.2, h2⟩]
      · rw [if_neg (fun q => h1 ⟨q.1, q.2.1⟩), if_neg (fun q => h1 ⟨q.1, q.2.1⟩)]
        rfl
  · rw [h.live.get_dead hd hm ha]
    rfl
/-- A slot of which each frame that is there is a record's, and one at least at each place. -/
theorem Super.jslot_of {R : Rck} {c : Cfg} {m : Nat} (h : Super R c m) {slot : Nat} (hs : slot < c.slots.toNat) {x : Rcd} (hl : (x.blocks.length : Int) = c.k) (hx : 0 ≤ x.seq)
    (hj : ∀ i, i < c.k.toNat → (∃ d, d < c.n.toNat ∧ (R.dsk (d : Nat)).jg c slot i = some (x.frm i)) ∧ ∀ d, d < c.n.toNat → (R.dsk (d : Nat)).jg c slot i = some (x.frm i) ∨ (R.dsk (d : Nat)).jg c slot i = none) :
    R.jslot c (slot : Int) = (x, true, x.seq, none) := by
  refine Rck.jslot_one (h.known hs) (by have := h.good.k0; omega) hl hx fun i hi => ⟨fun q => ?_, fun f hf => ?_⟩
  · obtain ⟨d, hd, e⟩ := (hj i hi).1
    have : x.frm i ∈ R.jgoods c slot i := Rck.jgoods_mem.2 ⟨d, hd, by rw [h.jgood hd hs hi, e]⟩
    rw [q] at this; simp at this
  · obtain ⟨d, hd, e⟩ := Rck.jgoods_mem.1 hf
    rw [h.jgood hd hs hi] at e
    rcases (hj i hi).2 d hd with q | q
    · rw [q] at e; cases e; rfl
    · rw [q] at e; cases e
theorem Super.jslot_gone {R : Rck} {c : Cfg} {m : Nat} (h : Super R c m) {slot i : Nat} (hs : slot < c.slots.toNat) (hi : i < c.k.toNat) (hj : ∀ d, d < c.n.toNat → (R.dsk (d : Nat)).jg c slot i = none) :
    R.jslot c (slot : Int) = (Rcd.none_, false, 0, some (.fault sJSlot slot (.loss slot 0 1))) := by
  refine Rck.jslot_lost (h.known hs) hi ?_
  rw [List.eq_nil_iff_forall_not_mem]
  intro f hf
  obtain ⟨d, hd, e⟩ := Rck.jgoods_mem.1 hf
  rw [h.jgood hd hs hi, hj d hd] at e
  cases e
/-- All disks are up, the power is on, with a fuse (less than 0: without one). -/
structure Pow (R : Rck) (n m : Nat) (F : Int) : Prop where
  len : R.l.length = n
  secs : ∀ j : Nat, j < n → (R.dsk j).l.length = m
  alive : ∀ j : Nat, j < n → (R.dsk j).dead = false
  off : R.off = false
  fuse : R.fuse = F
  pos : 1 ≤ n
def burn (F : Int) (c : Nat) : Int := if 0 ≤ F then F - c else F
theorem burn_zero (F : Int) : burn F 0 = F := by unfold burn; split <;> simp
theorem burn_add (F : Int) (a b : Nat) (h : F < 0 ∨ (a : Int) ≤ F) : burn (burn F a) b = burn F (a + b) := by
  unfold burn
  rcases h with h | h
  · rw [if_neg (by omega), if_neg (by omega), if_neg (by omega)]
  · rw [if_pos (by omega), if_pos (by omega), if_pos (by omega)]; omega
theorem Pow.live {R : Rck} {n m : Nat} (h : Pow R n m (-1)) : Live R n m := ⟨h.len, h.secs, h.off, h.fuse, h.pos⟩
theorem Pow.of {R : Rck} {n m : Nat} (h : Live R n m) (ha : ∀ j : Nat, j < n → (R.dsk j).dead = false) : Pow R n m (-1) := ⟨h.len, h.secs, ha, h.off, h.fuse, h.pos⟩
theorem Rck.dsk_setD (R : Rck) {n : Nat} (hn : R.l.length = n) {i : Nat} (hi : i < n) (D : Dsk) (j : Nat) : (R.setD i D).dsk j = if j = i then D else R.dsk j := by
  unfold Rck.setD Rck.dsk
  by_cases e : j = i
  · subst e; simp [List.getD_eq_getElem?_getD, hn, hi]
  · simp [List.getD_eq_getElem?_getD, List.getElem?_set_ne (Ne.symm e), e]
/-- What something does to a rack: it burns so many operations, and does this to each disk; or the fuse ends it. -/
def Does (n m : Nat) (f : Rck → Option Err × Rck) (c : Nat) (g : Nat → Dsk → Dsk) : Prop :=
  ∀ R F, Pow R n m F → ((F < 0 ∨ (c : Int) ≤ F) → ∃ R', f R = (none, R') ∧ Pow R' n m (burn F c) ∧ ∀ d : Nat, d < n → R'.dsk d = g d (R.dsk d)) ∧ (0 ≤ F → F < c → ∃ e R', f R = (some e, R'))
theorem Does.congr {n m c c' : Nat} {f : Rck → Option Err × Rck} {g g' : Nat → Dsk → Dsk} (h : Does n m f c g) (hc : c = c') (hg : ∀ d D, d < n → g d D = g' d D) : Does n m f c' g' := by
  subst hc
  intro R F hR
  refine ⟨fun hF => ?_, (h R F hR).2⟩
  obtain ⟨R', h1, h2, h3⟩ := (h R F hR).1 hF
  exact ⟨R', h1, h2, fun d hd => by rw [h3 d hd, hg d _ hd]⟩
theorem Does.each {α : Type} {n m c : Nat} {f : Rck → α → Option Err × Rck} {g : α → Nat → Dsk → Dsk} : ∀ (l : List α), (∀ i ∈ l, Does n m (fun R => f R i) c (g i)) → Does n m (each f l) (c * l.length) fun d D => l.foldl (fun D i => g i d D) D
  | [], _ => fun R F hR => ⟨fun _ => ⟨R, rfl, by simpa [burn_zero] using hR, fun _ _ => rfl⟩, fun h0 h1 => by simp at h1; omega⟩
  | i :: l, h => fun R F hR => by
    have hi := h i List.mem_cons_self R F hR
    have hl := Does.each l fun j hj => h j (List.mem_cons_of_mem _ hj)
    have ec : c * (i :: l).length = c + c * l.length := by rw [List.length_cons, Nat.mul_succ, Nat.add_comm]
    rw [ec]
    refine ⟨fun hF => ?_, fun h0 h1 => ?_⟩
    · obtain ⟨R1, a1, a2, a3⟩ := hi.1 (by omega)
      obtain ⟨R2, b1, b2, b3⟩ := (hl R1 _ a2).1 (by unfold burn; split <;> omega)
      refine ⟨R2, by rw [each_ok a1, b1], by rw [burn_add F _ _ (by omega)] at b2; exact b2, fun d hd => ?_⟩
      rw [b3 d hd, a3 d hd]; rfl
    · by_cases hc : (c : Int) ≤ F
      · obtain ⟨R1, a1, a2, a3⟩ := hi.1 (.inr hc)
        obtain ⟨e, R2, b1⟩ := (hl R1 _ a2).2 (by unfold burn; rw [if_pos h0]; omega) (by unfold burn; rw [if_pos h0]; omega)
        exact ⟨e, R2, by rw [each_ok a1, b1]⟩
      · obtain ⟨e, R1, a1⟩ := hi.2 h0 (by omega)
        exact ⟨e, R1, each_err a1⟩
theorem Pow.up {R : Rck} {n m : Nat} {F : Int} (h : Pow R n m F) {i : Nat} (hi : i < n) : R.up (i : Int) = true ∧ R.has (i : Int) = true := by
  have : R.has (i : Int) = true := by unfold Rck.has; rw [h.len]; simp; omega
  refine ⟨?_, this⟩
  unfold Rck.up; rw [this, h.alive i hi]; rfl
theorem Pow.online {R : Rck} {n m : Nat} {F : Int} (h : Pow R n m F) : R.online = List.range n := by
  unfold Rck.online
  rw [h.len, List.filter_eq_self]
  intro i hi
  exact (h.up (List.mem_range.1 hi)).1
theorem Pow.may {R : Rck} {n m : Nat} {F : Int} (h : Pow R n m F) {i : Nat} (hi : i < n) : ((F < 0 ∨ 1 ≤ F) → R.may i false = 0 ∧ R.asked i false = { R with fuse := burn F 1 }) ∧ (F = 0 → R.may i false = 5 ∧ R.asked i false = { R with off := true }) := by
  obtain ⟨h1, h2⟩ := h.up hi
  unfold Rck.may Rck.asked
  rw [h1, h2, h.off]
  simp only [Bool.false_or, Bool.not_true, Bool.true_eq_false, if_false, Bool.false_eq_true, h.fuse]
  refine ⟨fun hF => ?_, fun hF => ?_⟩
  · rw [if_neg (by omega), if_neg (by omega)]
    refine ⟨rfl, ?_⟩
    unfold burn
    by_cases h0 : 0 < F
    · rw [if_pos h0, if_pos (by omega)]; rfl
    · rw [if_neg h0, if_neg (by omega)]
      rw [← h.fuse, ← h.off]
  · rw [if_pos hF, if_pos hF]; exact ⟨rfl, rfl⟩
/-- One operation. -/
theorem Pow.set {R : Rck} {n m : Nat} {F G : Int} (h : Pow R n m F) {i : Nat} (hi : i < n) (D : Dsk) (h1 : D.l.length = m) (h2 : D.dead = false) :
    Pow (({ R with fuse := G } : Rck).setD i D) n m G ∧ ∀ j : Nat, (({ R with fuse := G } : Rck).setD i D).dsk j = if j = i then D else R.dsk j := by
  have hd : ∀ j : Nat, (({ R with fuse := G } : Rck).setD i D).dsk j = if j = i then D else R.dsk j := fun j => Rck.dsk_setD ({ R with fuse := G } : Rck) (n := n) h.len hi D j
  refine ⟨⟨by simp [Rck.setD, h.len], fun j hj => ?_, fun j hj => ?_, h.off, rfl, h.pos⟩, hd⟩
  · rw [hd j]; split
    · exact h1
    · exact h.secs j hj
  · rw [hd j]; split
    · exact h2
    · exact h.alive j hj
theorem Does.write {n m i s : Nat} {b : List Nat} (hi : i < n) (hs : s < m) (hb : b.length = 128) : Does n m (fun R => R.write i s b) 1 fun d D => if d = i then D.write s b else D := by
  intro R F h
  have hsec : (R.dsk 0).l.length = m := h.secs 0 h.pos
  have hw : R.badW s b = false := by unfold Rck.badW Rck.sectors; rw [hsec, hb]; simp; omega
  obtain ⟨m1, m2⟩ := h.may hi
  refine ⟨fun hF => ?_, fun h0 h1 => ?_⟩
  · obtain ⟨e1, e2⟩ := m1 (by omega)
    obtain ⟨p1, p2⟩ := h.set (G := burn F 1) hi ((R.dsk i).write s b) (h.secs i hi) (h.alive i hi)
    refine ⟨_, ?_, p1, fun d _ => ?_⟩
    · show R.write i s b = _
      unfold Rck.write
      rw [hw, if_pos e1, e2]; rfl
    · rw [p2 d]
      by_cases e : d = i
      · subst e; simp
      · simp [e]
  · obtain ⟨e1, e2⟩ := m2 (by omega)
    refine ⟨.fault sRackWrite i (.no 5), { R with off := true }, ?_⟩
    · show R.write i s b = _
      unfold Rck.write
      rw [hw, e1, e2, if_neg (by decide)]
theorem Does.flush {n m i : Nat} (hi : i < n) : Does n m (fun R => R.flush i) 1 fun d D => if d = i then D.flush else D := by
  intro R F h
  obtain ⟨m1, m2⟩ := h.may hi
  refine ⟨fun hF => ?_, fun h0 h1 => ?_⟩
  · obtain ⟨e1, e2⟩ := m1 (by omega)
    obtain ⟨p1, p2⟩ := h.set (G := burn F 1) hi (R.dsk i).flush (by rw [Dsk.flush_len]; exact h.secs i hi) (h.alive i hi)
    refine ⟨_, ?_, p1, fun d _ => ?_⟩
    · show R.flush i = _
      unfold Rck.flush
      rw [if_pos e1, e2]
    · rw [p2 d]
      by_cases e : d = i
      · subst e; simp
      · simp [e]
  · obtain ⟨e1, e2⟩ := m2 (by omega)
    refine ⟨.fault sRackFlush i (.no 5), { R with off := true }, ?_⟩
    show R.flush i = _
    unfold Rck.flush
    rw [e1, e2, if_neg (by decide)]
namespace Dsk
/-- A record written on a disk. -/
def jw (c : Cfg) (slot : Nat) (x : Rcd) (D : Dsk) : Dsk := (List.range c.k.toNat).foldl (fun D i => D.write (jsecN c slot i) (x.frm i).bytes) D
end Dsk
theorem foldl_same {α : Type} (p : Prop) [Decidable p] (f : Dsk → α → Dsk) : ∀ (l : List α) (D : Dsk), l.foldl (fun D i => if p then f D i else D) D = if p then l.foldl f D else D
  | [], D => by simp
  | i :: l, D => by
    rw [List.foldl_cons, foldl_same p f l]
    by_cases h : p
    · simp [h]
    · simp [h]
theorem foldl_pick (f : Dsk → Dsk) (d : Nat) : ∀ (n : Nat) (D : Dsk), (List.range n).foldl (fun D i => if d = i then f D else D) D = if d < n then f D else D
  | 0, D => by simp
  | n + 1, D => by
    rw [List.range_succ, List.foldl_append, foldl_pick f d n D]
    simp only [List.foldl_cons, List.foldl_nil]
    by_cases h : d < n
    · rw [if_pos h, if_neg (by omega), if_pos (by omega)]
    · by_cases e : d = n
      · rw [if_neg h, if_pos e, if_pos (by omega)]
      · rw [if_neg h, if_neg e, if_neg (by omega)]
section
variable {c : Cfg} {m slot : Nat} {x : Rcd}
theorem does_row (hc : c.Good) (hm : c.sectors ≤ (m : Int)) (hs : slot < c.slots.toNat) (hx : x.Fit c slot) {d : Nat} (hd : d < c.n.toNat) : Does c.n.toNat m (fun R => Rck.jrow c (slot : Int) x R d) c.k.toNat fun j D => if j = d then D.jw c slot x else D := by
  have hn1 := hc.n1; have hk1 := hc.k1
  refine (Does.each (f := fun R i => R.write d (Rck.jsec c slot i) (x.frm i).put) (c := 1) (g := fun i j D => if j = d then D.write (jsecN c slot i) (x.frm i).bytes else D) (List.range c.k.toNat) fun i hi => ?_).congr (by simp) fun j D _ => foldl_same (j = d) (fun D i => D.write (jsecN c slot i) (x.frm i).bytes) _ D
  have hi := List.mem_range.1 hi
  rw [jsec_eq hc, hx.put hc (by omega)]
  exact Does.write hd (jsecN_lt hc hm hs hi) (hx.len i)
theorem does_put (hc : c.Good) (hm : c.sectors ≤ (m : Int)) (hs : slot < c.slots.toNat) (hx : x.Fit c slot) : Does c.n.toNat m (fun R => R.jput c (slot : Int) x) (c.n.toNat * c.k.toNat + c.n.toNat) fun _ D => (D.jw c slot x).flush := by
  have d1 : Does c.n.toNat m (each (Rck.jrow c (slot : Int) x) (List.range c.n.toNat)) (c.k.toNat * c.n.toNat) fun j D => if j < c.n.toNat then D.jw c slot x else D :=
    (Does.each (g := fun d j D => if j = d then D.jw c slot x else D) (List.range c.n.toNat) fun d hd => does_row hc hm hs hx (List.mem_range.1 hd)).congr (by simp) fun j D _ => foldl_pick (Dsk.jw c slot x) j _ D
  have d2 : Does c.n.toNat m (each (fun R (d : Nat) => R.flush d) (List.range c.n.toNat)) (1 * c.n.toNat) fun j D => if j < c.n.toNat then D.flush else D :=
    (Does.each (f := fun R (d : Nat) => R.flush d) (g := fun d j D => if j = d then D.flush else D) (List.range c.n.toNat) fun d hd => Does.flush (List.mem_range.1 hd)).congr (by simp) fun j D _ => foldl_pick Dsk.flush j _ D
  rw [Nat.mul_comm] at d1
  rw [Nat.one_mul] at d2
  intro R F h
  refine ⟨fun hF => ?_, fun h0 h1 => ?_⟩
  · obtain ⟨R1, a1, a2, a3⟩ := (d1 R F h).1 (by omega)
    obtain ⟨R2, b1, b2, b3⟩ := (d2 R1 _ a2).1 (by unfold burn; split <;> omega)
    refine ⟨R2, ?_, by rw [burn_add F _ _ (by omega)] at b2; exact b2, fun d hd => ?_⟩
    · show R.jput c slot x = _
      unfold Rck.jput
      rw [h.online, a1]
      simp only
      rw [a2.online, b1]
    · rw [b3 d hd, a3 d hd]; simp only [hd, if_true]
  · by_cases hk : ((c.n.toNat * c.k.toNat : Nat) : Int) ≤ F
    · obtain ⟨R1, a1, a2, a3⟩ := (d1 R F h).1 (.inr hk)
      obtain ⟨e, R2, b1⟩ := (d2 R1 _ a2).2 (by unfold burn; rw [if_pos h0]; omega) (by unfold burn; rw [if_pos h0]; omega)
      refine ⟨e, R2, ?_⟩
      show R.jput c slot x = _
      unfold Rck.jput
      rw [h.online, a1]
      simp only
      rw [a2.online, b1]
    · obtain ⟨e, R1, a1⟩ := (d1 R F h).2 h0 (by omega)
      refine ⟨e, R1, ?_⟩
      show R.jput c slot x = _
      unfold Rck.jput
      rw [h.online, a1]
end
namespace Dsk
variable {c : Cfg} {slot : Nat} {x : Rcd}
theorem jw_facts (D : Dsk) : ∀ (k : Nat) (D : Dsk), let E := (List.range k).foldl (fun D i => D.write (jsecN c slot i) (x.frm i).bytes) D
    E.l = D.l ∧ E.dead = D.dead ∧ E.rot = D.rot ∧ (∀ i, i < k → E.waits (jsecN c slot i) = some (x.frm i).bytes) ∧ ∀ j, (∀ i, i < k → j ≠ jsecN c slot i) → E.waits j = D.waits j
  | 0, D => ⟨rfl, rfl, rfl, fun i hi => absurd hi (Nat.not_lt_zero _), fun _ _ => rfl⟩
  | k + 1, D => by
    obtain ⟨h1, h2, h3, h4, h5⟩ := jw_facts D k D
    simp only [List.range_succ, List.foldl_append, List.foldl_cons, List.foldl_nil]
    generalize (List.range k).foldl (fun D i => D.write (jsecN c slot i) (x.frm i).bytes) D = E at *
    refine ⟨h1, h2, h3, fun i hi => ?_, fun j hj => ?_⟩
    · show (if jsecN c slot i = jsecN c slot k then some (x.frm k).bytes else E.waits (jsecN c slot i)) = _
      by_cases e : i = k
      · subst e; rw [if_pos rfl]
      · rw [if_neg (by unfold jsecN; omega)]; exact h4 i (by omega)
    · show (if j = jsecN c slot k then some (x.frm k).bytes else E.waits j) = _
      rw [if_neg (hj k (by omega))]
      exact h5 j fun i hi => hj i (by omega)
end Dsk
end Go.Proofs.YtmjembnciffgfaaDoor

/- Disks and racks that have a journal. No program stands here. -/
namespace Go.Proofs.YtmjembnciffgfaaDoor
set_option linter.unusedVariables false
/-- A disk that has records in slots; some sectors rotted. -/
structure DW (D : Dsk) (c : Cfg) (m : Nat) (f : Nat → Option Rcd) (B : Nat → Bool) : Prop where
  len : D.l.length = m
  alive : D.dead = false
  waits : ∀ i, D.waits i = none
  rot : ∀ i, B i = false → D.rot i = false
  has : ∀ s x i, s < c.slots.toNat → f s = some x → i < c.k.toNat → B (jsecN c s i) = false → D.read (jsecN c s i) = (x.frm i).bytes
  bad : ∀ j, B j = true → Frm.get (D.read j) = none
def upd (f : Nat → Option Rcd) (s : Nat) (x : Rcd) (t : Nat) : Option Rcd := if t = s then some x else f t
theorem upd_at (f : Nat → Option Rcd) (s : Nat) (x : Rcd) : upd f s x s = some x := if_pos rfl
theorem upd_other (f : Nat → Option Rcd) {s t : Nat} (x : Rcd) (h : t ≠ s) : upd f s x t = f t := if_neg h
def noB : Nat → Bool := fun _ => false
namespace DW
variable {D : Dsk} {c : Cfg} {m : Nat} {f : Nat → Option Rcd} {B : Nat → Bool}
theorem new (c : Cfg) (m : Nat) : DW (Dsk.new m) c m (fun _ => none) noB := ⟨Dsk.new_len m, rfl, fun _ => rfl, fun _ _ => rfl, fun s x i _ h => (by cases h), fun j h => (by cases h)⟩
theorem put (h : DW D c m f noB) (hc : c.Good) (hm : c.sectors ≤ (m : Int)) {slot : Nat} {x : Rcd} (hs : slot < c.slots.toNat) (hx : x.Fit c slot) : DW ((D.jw c slot x).flush) c m (upd f slot x) noB := by
  obtain ⟨h1, h2, h3, h4, h5⟩ := Dsk.jw_facts (c := c) (slot := slot) (x := x) D c.k.toNat D
  have e : D.jw c slot x = (List.range c.k.toNat).foldl (fun D i => D.write (jsecN c slot i) (x.frm i).bytes) D := rfl
  rw [← e] at h1 h2 h3 h4 h5
  generalize D.jw c slot x = E at *
  refine ⟨by rw [Dsk.flush_len, h1]; exact h.len, by rw [Dsk.flush_dead, h2]; exact h.alive, fun i => rfl, fun i hi => ?_, fun s y i hs' hf hi _ => ?_, fun j h => by cases h⟩
  · show (if (true && (E.waits i).isSome) = true then false else E.rot i) = false
    split
    · rfl
    · rw [h3]; exact h.rot i rfl
  · have hlt := jsecN_lt hc hm hs' hi
    rw [Dsk.flush_read _ _ (by rw [h1, h.len]; exact hlt)]
    unfold Dsk.read
    by_cases es : s = slot
    · subst es
      rw [upd_at] at hf; cases hf
      rw [h4 i hi]; rfl
    · rw [upd_other f x es] at hf
      rw [h5 _ fun j hj q => es (jsecN_inj hi hj q).1, h1]
      exact h.has s y i hs' hf hi rfl
theorem jg (h : DW D c m f B) (hc : c.Good) {s i : Nat} {x : Rcd} (hs : s < c.slots.toNat) (hf : f s = some x) (hx : x.Fit c s) (hi : i < c.k.toNat) : D.jg c s i = if B (jsecN c s i) then none else some (x.frm i) := by
  have := hc.k1; have := hc.n1
  rcases hb : B (jsecN c s i) with _ | _
  · exact Dsk.jg_has hc hx (by omega) h.alive (h.has s x i hs hf hi hb)
  · exact Dsk.jg_none (h.bad _ hb)
/-- A frame of a record rots. -/
theorem rotted (h : DW D c m f B) (hc : c.Good) (hm : c.sectors ≤ (m : Int)) {s i : Nat} {x : Rcd} (hs : s < c.slots.toNat) (hf : f s = some x) (hx : x.Fit c s) (hi : i < c.k.toNat) (hb : B (jsecN c s i) = false) {a y : Nat} (ha : a ≤ 124) (hy : y < 4294967296) (hy0 : y ≠ 0) :
    D.rotOk (jsecN c s i : Nat) (a : Nat) y = true ∧ DW (D.rotted (jsecN c s i) a y) c m f fun j => B j || decide (j = jsecN c s i) := by
  have := hc.k1; have := hc.n1
  have hlt := jsecN_lt hc hm hs hi
  have hr := h.has s x i hs hf hi hb
  have hrd : ∀ j, (D.rotted (jsecN c s i) a y).read j = if j = jsecN c s i then Dsk.xor4 (x.frm i).bytes a y else D.read j := fun j => by
    rw [Dsk.rotted_read D _ _ _ _ (by rw [h.len]; exact hlt) (h.waits _), hr]
  refine ⟨?_, by rw [Dsk.rotted_len]; exact h.len, h.alive, h.waits, fun j hj => ?_, fun t z k ht hz hk hb' => ?_, fun j hj => ?_⟩
  · unfold Dsk.rotOk
    rw [h.alive, h.len, Int.toNat_natCast, h.rot _ hb]
    simp
    omega
  · simp only [Bool.or_eq_false_iff, decide_eq_false_iff_not] at hj
    show (if j = jsecN c s i then true else D.rot j) = false
    rw [if_neg hj.2]; exact h.rot j hj.1
  · simp only [Bool.or_eq_false_iff, decide_eq_false_iff_not] at hb'
    rw [hrd, if_neg hb'.2]
    exact h.has t z k ht hz hk hb'.1
  · simp only [Bool.or_eq_true, decide_eq_true_eq] at hj
    rw [hrd]
    split
    · exact Frm.get_rot _ (Rcd.frm_ok x hx.ok i) (hx.right hc (by omega)) a y ha hy hy0
    · rename_i hne
      exact h.bad j (hj.resolve_right hne)
end DW
/-- A rack that has records in slots. -/
structure RJ (R : Rck) (c : Cfg) (m : Nat) (f : Nat → Option Rcd) : Prop where
  pow : Pow R c.n.toNat m (-1)
  good : c.Good
  fit : c.sectors ≤ (m : Int)
  dsk : ∀ d : Nat, d < c.n.toNat → DW (R.dsk d) c m f noB
  fits : ∀ s x, f s = some x → x.Fit c s
namespace RJ
variable {R : Rck} {c : Cfg} {m : Nat} {f : Nat → Option Rcd}
theorem super (h : RJ R c m f) : Super R c m := ⟨h.pow.live, h.good, h.fit⟩
theorem new {c : Cfg} (hc : c.Good) {m : Nat} (hm : c.sectors ≤ (m : Int)) : RJ (Rck.new c.n.toNat m) c m fun _ => none := by
  have hn : 1 ≤ c.n.toNat := by have := hc.k0; have := hc.k1; omega
  have hl := Live.new c.n.toNat m hn
  refine ⟨Pow.of hl fun j hj => ?_, hc, hm, fun d hd => ?_, fun s x h => by cases h⟩
  · rw [Live.new_dsk _ _ _ hj]; rfl
  · rw [Live.new_dsk _ _ _ hd]; exact DW.new c m
theorem put (h : RJ R c m f) {slot : Nat} {x : Rcd} (hs : slot < c.slots.toNat) (hx : x.Fit c slot) : ∃ R', R.jput c (slot : Int) x = (none, R') ∧ RJ R' c m (upd f slot x) := by
  obtain ⟨R', h1, h2, h3⟩ := (does_put h.good h.fit hs hx R (-1) h.pow).1 (.inl (by omega))
  refine ⟨R', h1, h2, h.good, h.fit, fun d hd => by rw [h3 d hd]; exact (h.dsk d hd).put h.good h.fit hs hx, fun s y hy => ?_⟩
  unfold upd at hy
  split at hy
  · rename_i e; cases hy; rw [e]; exact hx
  · exact h.fits s y hy
theorem slotN (hc : c.Good) (s : Int) : ∃ t : Nat, s % c.slots = t ∧ t < c.slots.toNat := by
  have h0 := hc.sl0
  have h1 : 0 ≤ s % c.slots := Int.emod_nonneg _ (by omega)
  have h2 : s % c.slots < c.slots := Int.emod_lt_of_pos _ (by omega)
  exact ⟨(s % c.slots).toNat, by omega, by omega⟩
theorem log (h : RJ R c m f) {x : Rcd} {t : Nat} (ht : x.seq % c.slots = t) (ok : x.Ok) (s0 : 0 ≤ x.stripe) (s1 : x.stripe < c.stripes) (q0 : 2 ≤ x.seq) (q1 : x.seq ≤ 1152921504606846976) (hl : (x.blocks.length : Int) = c.k) :
    x.Fit c t ∧ t < c.slots.toNat ∧ R.jlog c x = ((R.jput c (t : Int) x).1.map (.fault sJLog x.seq), (R.jput c (t : Int) x).2) ∧ ∃ R', R.jlog c x = (none, R') ∧ RJ R' c m (upd f t x) := by
  obtain ⟨t', e, hlt⟩ := slotN h.good x.seq
  have : t' = t := by omega
  subst this
  have hx : x.Fit c t' := ⟨ok, s0, s1, by omega, q1, .inr ⟨q0, ht⟩⟩
  obtain ⟨R', h1, h2⟩ := h.put hlt hx
  have e1 : R.jlog c x = ((R.jput c (t' : Int) x).1.map (.fault sJLog x.seq), (R.jput c (t' : Int) x).2) := by
    unfold Rck.jlog
    rw [if_pos, ht]
    unfold Rck.jlogOk
    rw [h.super.fits]
    simp only [Bool.true_and, Bool.and_eq_true, decide_eq_true_eq]
    exact ⟨⟨⟨⟨q0, q1⟩, s0⟩, s1⟩, hl⟩
  refine ⟨hx, hlt, e1, R', ?_, h2⟩
  rw [e1, h1]; rfl
theorem none_fit (hc : c.Good) (s : Nat) : Rcd.none_.Fit c s := ⟨⟨by simp [Rcd.none_], by simp [Rcd.none_]⟩, by simp [Rcd.none_], by have := hc.st0; simp [Rcd.none_]; omega, by simp [Rcd.none_], by simp [Rcd.none_], .inl rfl⟩
theorem blank (h : RJ R c m f) {s : Nat} (hs : s < c.slots.toNat) : ∃ R', R.jblank c (s : Int) = (none, R') ∧ RJ R' c m (upd f s Rcd.none_) := by
  obtain ⟨R', h1, h2⟩ := h.put hs (none_fit h.good s)
  refine ⟨R', ?_, h2⟩
  unfold Rck.jblank
  rw [if_pos (h.super.known hs), h1]; rfl
/-- What a slot tells. -/
theorem slot (h : RJ R c m f) {s : Nat} (hs : s < c.slots.toNat) {x : Rcd} (hf : f s = some x) (hl : (x.blocks.length : Int) = c.k) : R.jslot c (s : Int) = (x, true, x.seq, none) := by
  have hx := h.fits s x hf
  have hn : 0 < c.n.toNat := by have := h.good.k0; have := h.good.k1; omega
  refine h.super.jslot_of hs hl hx.seq0 fun i hi => ⟨⟨0, hn, ?_⟩, fun d hd => .inl ?_⟩
  · rw [(h.dsk 0 hn).jg h.good hs hf hx hi]; rfl
  · rw [(h.dsk d hd).jg h.good hs hf hx hi]; rfl
theorem slot_none (h : RJ R c m f) {s : Nat} (hs : s < c.slots.toNat) (hf : f s = some Rcd.none_) : R.jslot c (s : Int) = (⟨0, 0, List.replicate c.k.toNat (List.replicate 108 0)⟩, true, 0, none) := by
  have hx := h.fits s _ hf
  have hn : 0 < c.n.toNat := by have := h.good.k0; have := h.good.k1; omega
  have e : ∀ i, i < c.k.toNat → (⟨0, 0, List.replicate c.k.toNat (List.replicate 108 0)⟩ : Rcd).frm i = Rcd.none_.frm i := fun i hi => by
    unfold Rcd.frm Rcd.none_
    simp [List.getD_eq_getElem?_getD, hi]
  refine h.super.jslot_of (x := ⟨0, 0, List.replicate c.k.toNat (List.replicate 108 0)⟩) hs (by have := h.good.k0; simp; omega) (by simp) fun i hi => ⟨⟨0, hn, ?_⟩, fun d hd => .inl ?_⟩
  · rw [e i hi, (h.dsk 0 hn).jg h.good hs hf hx hi]; rfl
  · rw [e i hi, (h.dsk d hd).jg h.good hs hf hx hi]; rfl
end RJ
end Go.Proofs.YtmjembnciffgfaaDoor

/- A record over an elder one, cut short by the power. No program stands here. -/
namespace Go.Proofs.YtmjembnciffgfaaDoor
set_option linter.unusedVariables false
/-- Of each place a disk has the one record's frame or the other's; what waits is the other's. -/
structure CutD (c : Cfg) (m : Nat) (X Y : Rcd) (D : Dsk) : Prop where
  len : D.l.length = m
  alive : D.dead = false
  base : ∀ i, i < c.k.toNat → D.l.getD (jsecN c 0 i) [] = (X.frm i).bytes ∨ D.l.getD (jsecN c 0 i) [] = (Y.frm i).bytes
  wait : ∀ i, i < c.k.toNat → D.waits (jsecN c 0 i) = none ∨ D.waits (jsecN c 0 i) = some (Y.frm i).bytes
namespace CutD
variable {c : Cfg} {m : Nat} {X Y : Rcd} {D : Dsk}
theorem read (h : CutD c m X Y D) {i : Nat} (hi : i < c.k.toNat) : D.read (jsecN c 0 i) = (X.frm i).bytes ∨ D.read (jsecN c 0 i) = (Y.frm i).bytes := by
  unfold Dsk.read
  rcases h.wait i hi with e | e
  · rw [e]; exact h.base i hi
  · rw [e]; exact .inr rfl
theorem write (h : CutD c m X Y D) {i : Nat} (hi : i < c.k.toNat) : CutD c m X Y (D.write (jsecN c 0 i) (Y.frm i).bytes) := by
  refine ⟨h.len, h.alive, h.base, fun j hj => ?_⟩
  show (if jsecN c 0 j = jsecN c 0 i then some (Y.frm i).bytes else D.waits (jsecN c 0 j)) = none ∨ (if jsecN c 0 j = jsecN c 0 i then some (Y.frm i).bytes else D.waits (jsecN c 0 j)) = _
  by_cases e : j = i
  · subst e; rw [if_pos rfl]; exact .inr rfl
  · rw [if_neg (by unfold jsecN; omega)]; exact h.wait j hj
theorem settle (h : CutD c m X Y D) (hc : c.Good) (hm : c.sectors ≤ (m : Int)) (g : Nat → Bool) : CutD c m X Y (D.settle g) := by
  have hs : 0 < c.slots.toNat := by have := hc.sl0; omega
  refine ⟨by rw [Dsk.settle_len]; exact h.len, h.alive, fun i hi => ?_, fun i hi => .inl rfl⟩
  have hlt := jsecN_lt hc hm hs hi
  have e : (D.settle g).l.getD (jsecN c 0 i) [] = (D.settle g).read (jsecN c 0 i) := rfl
  rw [e, Dsk.settle_read D g _ (by rw [h.len]; exact hlt)]
  split
  · exact h.read hi
  · exact h.base i hi
end CutD
theorem Rck.asked_lP (R : Rck) (i : Int) (b : Bool) : (R.asked i b).l = R.l := by
  unfold Rck.asked
  repeat' split
  all_goals rfl
theorem each_inv {α : Type} {f : Rck → α → Option Err × Rck} (P : Rck → Prop) : ∀ (l : List α), (∀ i ∈ l, ∀ R, P R → P (f R i).2) → ∀ R, P R → P (each f l R).2
  | [], _, R, h => h
  | i :: l, hf, R, h => by
    have h1 := hf i List.mem_cons_self R h
    rcases hr : f R i with ⟨o, R'⟩
    rw [hr] at h1
    rcases o with _ | e
    · rw [each_ok hr]
      exact each_inv P l (fun j hj => hf j (List.mem_cons_of_mem _ hj)) R' h1
    · rw [each_err hr]; exact h1
structure CutR (c : Cfg) (m : Nat) (X Y : Rcd) (R : Rck) : Prop where
  len : R.l.length = c.n.toNat
  dsk : ∀ d : Nat, d < c.n.toNat → CutD c m X Y (R.dsk d)
namespace CutR
variable {c : Cfg} {m : Nat} {X Y : Rcd} {R : Rck}
theorem of_l (h : CutR c m X Y R) {R' : Rck} (e : R'.l = R.l) : CutR c m X Y R' := ⟨by rw [e]; exact h.len, fun d hd => by unfold Rck.dsk; rw [e]; exact h.dsk d hd⟩
theorem set (h : CutR c m X Y R) {i : Nat} (hi : i < c.n.toNat) {D : Dsk} (hD : CutD c m X Y D) : CutR c m X Y (R.setD i D) := ⟨by simp [Rck.setD, h.len], fun d hd => by
  rw [Rck.dsk_setD R h.len hi]
  split
  · exact hD
  · exact h.dsk d hd⟩
theorem put (h : CutR c m X Y R) (hc : c.Good) (hm : c.sectors ≤ (m : Int)) (hY : Y.Fit c 0) : CutR c m X Y (R.jput c 0 Y).2 := by
  have hn1 := hc.n1; have hk1 := hc.k1
  have on : ∀ {R : Rck}, CutR c m X Y R → ∀ d ∈ R.online, d < c.n.toNat := fun {R} h d hd => by
    unfold Rck.online at hd
    have := List.mem_range.1 (List.mem_filter.1 hd).1
    rw [h.len] at this; exact this
  have row : ∀ d, d < c.n.toNat → ∀ R, CutR c m X Y R → CutR c m X Y (Rck.jrow c 0 Y R d).2 := fun d hd R h => by
    refine each_inv (f := fun R i => R.write d (Rck.jsec c 0 i) (Y.frm i).put) (CutR c m X Y) (List.range c.k.toNat) (fun i hi R h => ?_) R h
    have hi := List.mem_range.1 hi
    have ej : Rck.jsec c 0 i = (jsecN c 0 i : Nat) := jsec_eq hc 0 i
    rw [ej, hY.put hc (by omega)]
    unfold Rck.write
    split
    · exact (h.of_l (Rck.asked_lP _ _ _)).set hd (by rw [Int.toNat_natCast]; exact (h.dsk d hd).write hi)
    · exact h.of_l (Rck.asked_lP _ _ _)
  have h1 := each_inv (f := Rck.jrow c 0 Y) (CutR c m X Y) R.online (fun d hd R' h' => row d (on h d hd) R' h') R h
  unfold Rck.jput
  split
  · exact h1
  · refine each_inv (f := fun R (d : Nat) => R.flush d) (CutR c m X Y) _ (fun d hd R h => ?_) _ h1
    have hd := on h1 d hd
    unfold Rck.flush
    split
    · exact (h.of_l (Rck.asked_lP _ _ _)).set hd ((h.dsk d hd).settle hc hm _)
    · exact h.of_l (Rck.asked_lP _ _ _)
theorem boot (h : CutR c m X Y R) (hc : c.Good) (hm : c.sectors ≤ (m : Int)) (bits : List Nat) : Live (R.boot bits) c.n.toNat m ∧ CutR c m X Y (R.boot bits) ∧ ∀ j : Nat, j < c.n.toNat → (R.boot bits).dsk j = (R.dsk j).crash (bits.getD j 0) := by
  have hd : ∀ j : Nat, j < c.n.toNat → (R.boot bits).dsk j = (R.dsk j).crash (bits.getD j 0) := fun j hj => by
    unfold Rck.boot Rck.dsk
    simp [List.getD_eq_getElem?_getD, h.len, hj]
  have hl : (R.boot bits).l.length = c.n.toNat := by simp [Rck.boot, h.len]
  have h2 : CutR c m X Y (R.boot bits) := ⟨hl, fun j hj => by rw [hd j hj]; exact (h.dsk j hj).settle hc hm _⟩
  have hn : 1 ≤ c.n.toNat := by have := hc.k0; have := hc.k1; omega
  exact ⟨⟨hl, fun j hj => (h2.dsk j hj).len, rfl, rfl, hn⟩, h2, hd⟩
/-- What the slot tells behind it. -/
theorem slot (h : CutR c m X Y R) (hl : Live R c.n.toNat m) (hc : c.Good) (hm : c.sectors ≤ (m : Int)) (hX : X.Fit c 0) (hY : Y.Fit c 0) (hlx : (X.blocks.length : Int) = c.k) (hly : (Y.blocks.length : Int) = c.k) (hxy : X.seq < Y.seq) :
    R.jslot c 0 = (X, true, X.seq, none) ∨ R.jslot c 0 = (Y, true, Y.seq, none) ∨ R.jslot c 0 = (Rcd.none_, false, Y.seq, none) := by
  have hS : Super R c m := ⟨hl, hc, hm⟩
  have hs : 0 < c.slots.toNat := by have := hc.sl0; omega
  have hk1 := hc.k1; have hn1 := hc.n1; have hk0 := hc.k0
  have hg : ∀ d, d < c.n.toNat → ∀ i, i < c.k.toNat → R.jgood c d 0 i = some (X.frm i) ∨ R.jgood c d 0 i = some (Y.frm i) := fun d hd i hi => by
    rw [show R.jgood c d 0 i = (R.dsk d).jg c 0 i from hS.jgood hd hs hi]
    rcases (h.dsk d hd).read hi with e | e
    · exact .inl (Dsk.jg_has hc hX (by omega) (h.dsk d hd).alive e)
    · exact .inr (Dsk.jg_has hc hY (by omega) (h.dsk d hd).alive e)
  refine Rck.jslot_two (show R.jknown c 0 = true from hS.known hs) (by omega) hlx hly hX.seq0 hxy fun i hi => ⟨fun q => ?_, fun f hf => ?_⟩
  · have h0 : 0 < c.n.toNat := by omega
    rcases hg 0 h0 i hi with e | e
    · have := Rck.jgoods_mem.2 ⟨0, h0, e⟩; rw [q] at this; simp at this
    · have := Rck.jgoods_mem.2 ⟨0, h0, e⟩; rw [q] at this; simp at this
  · obtain ⟨d, hd, e⟩ := Rck.jgoods_mem.1 hf
    rcases hg d hd i hi with q | q
    · rw [q] at e; cases e; exact .inl rfl
    · rw [q] at e; cases e; exact .inr rfl
end CutR
namespace Cut
variable {c : Cfg} {m : Nat} {f : Nat → Option Rcd} {X Y : Rcd} {R : Rck}
theorem start (h : RJ R c m f) (hf : f 0 = some X) (Y : Rcd) : CutR c m X Y R := ⟨h.pow.len, fun d hd => by
  have hd' := h.dsk d hd
  have hs : 0 < c.slots.toNat := by have := h.good.sl0; omega
  refine ⟨hd'.len, hd'.alive, fun i hi => .inl ?_, fun i hi => .inl (hd'.waits _)⟩
  have := hd'.has 0 X i hs hf hi rfl
  unfold Dsk.read at this
  rw [hd'.waits] at this
  exact this⟩
/-- The whole of it: armed, logged, booted. -/
theorem all (h : RJ R c m f) (h1 : c.slots = 1) (hf : f 0 = some X) (hX : X.Fit c 0) (hY : Y.Fit c 0) (hlx : (X.blocks.length : Int) = c.k) (hly : (Y.blocks.length : Int) = c.k) (hy2 : 2 ≤ Y.seq) (hxy : X.seq < Y.seq) (F : Nat) (hF : F ≤ c.n.toNat * c.k.toNat + c.n.toNat) (bits : List Nat) :
    ((R.arm F).jlog c Y).1.isNone = decide (F = c.n.toNat * c.k.toNat + c.n.toNat) ∧
    (let R3 := ((R.arm F).jlog c Y).2.boot bits
     (R3.jslot c 0 = (X, true, X.seq, none) ∨ R3.jslot c 0 = (Y, true, Y.seq, none) ∨ R3.jslot c 0 = (Rcd.none_, false, Y.seq, none)) ∧ (F = c.n.toNat * c.k.toNat + c.n.toNat → R3.jslot c 0 = (Y, true, Y.seq, none))) := by
  have hc := h.good
  have hs : 0 < c.slots.toNat := by omega
  have hA : R.arm F = { R with fuse := (F : Int) } := by
    unfold Rck.arm
    rw [show max (F : Int) (-1) = F by omega]
  have hP : Pow (R.arm F) c.n.toNat m F := by
    rw [hA]
    exact ⟨h.pow.len, h.pow.secs, h.pow.alive, h.pow.off, rfl, h.pow.pos⟩
  have hC : CutR c m X Y (R.arm F) := (start h hf Y).of_l (by rw [hA])
  have hfits : (R.arm F).fits c = true := by
    have e : (R.arm F).fits c = R.fits c := by rw [hA]; rfl
    rw [e]; exact h.super.fits
  have hz : Y.seq % c.slots = 0 := by rw [h1]; exact Int.emod_one _
  have hlog : (R.arm F).jlog c Y = (((R.arm F).jput c 0 Y).1.map (.fault sJLog Y.seq), ((R.arm F).jput c 0 Y).2) := by
    unfold Rck.jlog
    rw [if_pos, hz]
    unfold Rck.jlogOk
    rw [hfits]
    simp only [Bool.true_and, Bool.and_eq_true, decide_eq_true_eq]
    exact ⟨⟨⟨⟨hy2, hY.seq1⟩, hY.st0⟩, hY.st1⟩, hly⟩
  have hput := hC.put hc h.fit hY
  have hdo := does_put hc h.fit hs hY (R.arm F) F hP
  rw [hlog]
  simp only
  obtain ⟨hL, hB, hD⟩ := hput.boot hc h.fit bits
  refine ⟨?_, hB.slot hL hc h.fit hX hY hlx hly hxy, fun e => ?_⟩
  · by_cases e : F = c.n.toNat * c.k.toNat + c.n.toNat
    · obtain ⟨R', q, _⟩ := hdo.1 (.inr (by omega))
      rw [show (R.arm F).jput c 0 Y = _ from q, decide_eq_true e]; rfl
    · obtain ⟨er, R', q⟩ := hdo.2 (by omega) (by omega)
      rw [show (R.arm F).jput c 0 Y = _ from q, decide_eq_false e]; rfl
  · obtain ⟨R', q, q2, q3⟩ := hdo.1 (.inr (by omega))
    have q' : (R.arm F).jput c 0 Y = (none, R') := q
    rw [q'] at hL hB hD ⊢
    simp only at hL hB hD ⊢
    have hS : Super (R'.boot bits) c m := ⟨hL, hc, h.fit⟩
    have hn : 0 < c.n.toNat := by have := hc.k0; have := hc.k1; omega
    have hg : ∀ d, d < c.n.toNat → ∀ i, i < c.k.toNat → ((R'.boot bits).dsk (d : Nat)).jg c 0 i = some (Y.frm i) := fun d hd i hi => by
      have hlt := jsecN_lt hc h.fit hs hi
      have hn1 := hc.n1; have hk1 := hc.k1
      refine Dsk.jg_has hc hY (by omega) (hB.dsk d hd).alive ?_
      have hdw := (h.dsk d hd).put hc h.fit hs hY
      have e2 : R'.dsk d = (((R.arm F).dsk d).jw c 0 Y).flush := q3 d hd
      have e3 : (R.arm F).dsk d = R.dsk d := by rw [hA]; rfl
      rw [e3] at e2
      rw [← e2] at hdw
      rw [hD d hd]
      unfold Dsk.crash
      rw [Dsk.settle_read _ _ _ (by rw [hdw.len]; exact hlt)]
      have hr := hdw.has 0 Y i hs (upd_at _ _ _) hi rfl
      have hr2 := hr
      unfold Dsk.read at hr2
      rw [hdw.waits] at hr2
      split
      · exact hr
      · exact hr2
    exact hS.jslot_of hs hly hY.seq0 fun i hi => ⟨⟨0, hn, hg 0 hn i hi⟩, fun d hd => .inl (hg d hd i hi)⟩
end Cut
end Go.Proofs.YtmjembnciffgfaaDoor

/- A journal some of whose frames rotted, or whose disks died. No program stands here. -/
namespace Go.Proofs.YtmjembnciffgfaaDoor
set_option linter.unusedVariables false
theorem DW.congr {D : Dsk} {c : Cfg} {m : Nat} {f : Nat → Option Rcd} {B B' : Nat → Bool} (h : DW D c m f B) (e : ∀ j, B j = B' j) : DW D c m f B' := by
  rw [← (funext e : B = B')]; exact h
/-- A rack with records in slots, of whose disks' sectors some rotted. -/
structure RB (R : Rck) (c : Cfg) (m : Nat) (f : Nat → Option Rcd) (B : Nat → Nat → Bool) : Prop where
  live : Live R c.n.toNat m
  good : c.Good
  fit : c.sectors ≤ (m : Int)
  dsk : ∀ d : Nat, d < c.n.toNat → DW (R.dsk d) c m f (B d)
  fits : ∀ s x, f s = some x → x.Fit c s
namespace RB
variable {R : Rck} {c : Cfg} {m : Nat} {f : Nat → Option Rcd} {B B' : Nat → Nat → Bool}
theorem of (h : RJ R c m f) : RB R c m f fun _ => noB := ⟨h.pow.live, h.good, h.fit, h.dsk, h.fits⟩
theorem super (h : RB R c m f B) : Super R c m := ⟨h.live, h.good, h.fit⟩
theorem congr (h : RB R c m f B) (e : ∀ d, d < c.n.toNat → ∀ j, B d j = B' d j) : RB R c m f B' := ⟨h.live, h.good, h.fit, fun d hd => (h.dsk d hd).congr (e d hd), h.fits⟩
theorem n0 (h : RB R c m f B) : 0 < c.n.toNat := h.live.pos
theorem rot (h : RB R c m f B) {d s i : Nat} {x : Rcd} (hd : d < c.n.toNat) (hs : s < c.slots.toNat) (hf : f s = some x) (hi : i < c.k.toNat) (hb : B d (jsecN c s i) = false) {a y : Nat} (ha : a ≤ 124) (hy : y < 4294967296) (hy0 : y ≠ 0) :
    R.rotOk d (jsecN c s i : Nat) (a : Nat) y = true ∧ RB (R.rot d (jsecN c s i : Nat) (a : Nat) y) c m f fun e j => B e j || (decide (e = d) && decide (j = jsecN c s i)) := by
  obtain ⟨h1, h2⟩ := (h.dsk d hd).rotted h.good h.fit hs hf (h.fits s x hf) hi hb ha hy hy0
  refine ⟨by unfold Rck.rotOk; rw [h.live.has hd, h1]; rfl, ?_⟩
  rw [h.live.rot hd, if_pos h1, Int.toNat_natCast, Int.toNat_natCast]
  obtain ⟨h3, h4⟩ := h.live.setD ((R.dsk d).rotted (jsecN c s i) a y) h2.len hd
  refine ⟨h3, h.good, h.fit, fun e he => ?_, h.fits⟩
  rw [h4]
  by_cases ee : e = d
  · subst ee
    rw [if_pos rfl]
    exact h2.congr fun j => by simp
  · rw [if_neg ee]
    exact (h.dsk e he).congr fun j => by simp [ee]
theorem slot (h : RB R c m f B) {s : Nat} (hs : s < c.slots.toNat) {x : Rcd} (hf : f s = some x) (hl : (x.blocks.length : Int) = c.k) (hB : ∀ i, i < c.k.toNat → ∃ d, d < c.n.toNat ∧ B d (jsecN c s i) = false) :
    R.jslot c (s : Int) = (x, true, x.seq, none) := by
  have hx := h.fits s x hf
  refine h.super.jslot_of hs hl hx.seq0 fun i hi => ⟨?_, fun d hd => ?_⟩
  · obtain ⟨d, hd, hb⟩ := hB i hi
    exact ⟨d, hd, by rw [(h.dsk d hd).jg h.good hs hf hx hi, hb]; rfl⟩
  · rw [(h.dsk d hd).jg h.good hs hf hx hi]
    rcases B d (jsecN c s i) with _ | _
    · exact .inl rfl
    · exact .inr rfl
theorem gone (h : RB R c m f B) {s i : Nat} (hs : s < c.slots.toNat) {x : Rcd} (hf : f s = some x) (hi : i < c.k.toNat) (hB : ∀ d, d < c.n.toNat → B d (jsecN c s i) = true) :
    R.jslot c (s : Int) = (Rcd.none_, false, 0, some (.fault sJSlot s (.loss s 0 1))) :=
  h.super.jslot_gone hs hi fun d hd => by rw [(h.dsk d hd).jg h.good hs hf (h.fits s x hf) hi, hB d hd]; rfl
end RB
/-- The rotten places of JournalLost: one place of one slot, of the first d disks. -/
def lostB (c : Cfg) (x i d : Nat) (e j : Nat) : Bool := decide (e < d) && decide (j = jsecN c x i)
theorem lostB_next (c : Cfg) (x i d e j : Nat) : (lostB c x i d e j || (decide (e = d) && decide (j = jsecN c x i))) = lostB c x i (d + 1) e j := by
  unfold lostB
  rcases hj : decide (j = jsecN c x i) with _ | _
  · simp
  · simp only [Bool.and_true]
    rw [Bool.eq_iff_iff]
    simp only [Bool.or_eq_true, decide_eq_true_eq]
    omega
theorem lostB_zero (c : Cfg) (x i e j : Nat) : lostB c x i 0 e j = false := by simp [lostB]
theorem lostB_here (c : Cfg) (x i d : Nat) {e : Nat} (h : d ≤ e) (j : Nat) : lostB c x i d e j = false := by
  unfold lostB
  rw [decide_eq_false (by omega)]; rfl
theorem lostB_past (c : Cfg) (x i d : Nat) {e : Nat} (h : e < d) : lostB c x i d e (jsecN c x i) = true := by
  unfold lostB
  rw [decide_eq_true h]; simp
theorem lostB_other (c : Cfg) (x i d e : Nat) {s j : Nat} (hi : i < c.k.toNat) (hj : j < c.k.toNat) (h : s ≠ x) : lostB c x i d e (jsecN c s j) = false := by
  unfold lostB
  rw [decide_eq_false (p := jsecN c s j = jsecN c x i) (fun e => h (jsecN_inj hj hi e).1)]; simp
/-- JournalOne: disks that were looked at, all but one of them hurt somehow. -/
structure One (R : Rck) (c : Cfg) (m : Nat) (f : Nat → Option Rcd) (x : Rcd) (left d : Nat) : Prop where
  live : Live R c.n.toNat m
  good : c.Good
  fit : c.sectors ≤ (m : Int)
  has : f 0 = some x
  fits : x.Fit c 0
  left : left < c.n.toNat ∧ ∀ i, i < c.k.toNat → (R.dsk left).jg c 0 i = some (x.frm i)
  past : ∀ e : Nat, e < c.n.toNat → e < d → ∀ i, i < c.k.toNat → (R.dsk e).jg c 0 i = some (x.frm i) ∨ (R.dsk e).jg c 0 i = none
  rest : ∀ e : Nat, e < c.n.toNat → d ≤ e → DW (R.dsk e) c m f noB
namespace One
variable {R : Rck} {c : Cfg} {m : Nat} {f : Nat → Option Rcd} {x : Rcd} {left d : Nat}
theorem s0 (h : One R c m f x left d) : 0 < c.slots.toNat := by have := h.good.sl0; omega
theorem k0 (h : One R c m f x left d) : 0 < c.k.toNat := by have := h.good.k0; omega
theorem start (h : RJ R c m f) (hf : f 0 = some x) {left : Nat} (hl : left < c.n.toNat) : One R c m f x left 0 := by
  have hx := h.fits 0 x hf
  have hs : 0 < c.slots.toNat := by have := h.good.sl0; omega
  refine ⟨h.pow.live, h.good, h.fit, hf, hx, ⟨hl, fun i hi => ?_⟩, fun e _ he => absurd he (Nat.not_lt_zero _), fun e he _ => h.dsk e he⟩
  rw [(h.dsk left hl).jg h.good hs hf hx hi]; rfl
theorem whole (h : One R c m f x left d) (hd : d < c.n.toNat) {i : Nat} (hi : i < c.k.toNat) : (R.dsk d).jg c 0 i = some (x.frm i) := by
  rw [(h.rest d hd (Nat.le_refl _)).jg h.good h.s0 h.has h.fits hi]; rfl
theorem skip (h : One R c m f x left d) (hd : d < c.n.toNat) : One R c m f x left (d + 1) :=
  ⟨h.live, h.good, h.fit, h.has, h.fits, h.left, fun e he hlt i hi => by
    by_cases q : e = d
    · subst q; exact .inl (h.whole hd hi)
    · exact h.past e he (by omega) i hi, fun e he hle => h.rest e he (by omega)⟩
theorem set (h : One R c m f x left d) (hd : d < c.n.toNat) (hn : d ≠ left) (D : Dsk) (hm : D.l.length = m) (hg : ∀ i, i < c.k.toNat → D.jg c 0 i = some (x.frm i) ∨ D.jg c 0 i = none) : One (R.setD d D) c m f x left (d + 1) := by
  obtain ⟨h3, h4⟩ := h.live.setD D hm hd
  refine ⟨h3, h.good, h.fit, h.has, h.fits, ⟨h.left.1, fun i hi => ?_⟩, fun e he hlt i hi => ?_, fun e he hle => ?_⟩
  · rw [h4, if_neg (Ne.symm hn)]; exact h.left.2 i hi
  · rw [h4]
    by_cases q : e = d
    · rw [if_pos q]; exact hg i hi
    · rw [if_neg q]; exact h.past e he (by omega) i hi
  · rw [h4, if_neg (by omega)]; exact h.rest e he (by omega)
theorem die (h : One R c m f x left d) (hd : d < c.n.toNat) (hn : d ≠ left) : One (R.die d) c m f x left (d + 1) := by
  rw [h.live.die hd]
  exact h.set hd hn _ (by rw [Dsk.die_len]; exact h.live.secs d hd) fun i hi => .inr (Dsk.jg_dead rfl)
theorem replace (h : One R c m f x left d) (hd : d < c.n.toNat) (hn : d ≠ left) : One (R.replace d) c m f x left (d + 1) := by
  rw [h.live.replace hd]
  refine h.set hd hn _ (by rw [Dsk.replace_len]; exact h.live.secs d hd) fun i hi => .inr (Dsk.jg_none ?_)
  have hlt := jsecN_lt h.good h.fit h.s0 hi
  have e : (R.dsk d).replace.read (jsecN c 0 i) = Dsk.zeros := by
    unfold Dsk.replace Dsk.blank Dsk.read
    simp [List.getD_eq_getElem?_getD, h.live.secs d hd, hlt]
  rw [e]; exact Dsk.zeros_get
theorem rot (h : One R c m f x left d) (hd : d < c.n.toNat) (hn : d ≠ left) : One (R.rot d 1 3 9) c m f x left (d + 1) := by
  obtain ⟨h1, h2⟩ := (h.rest d hd (Nat.le_refl _)).rotted h.good h.fit h.s0 h.has h.fits h.k0 rfl (a := 3) (y := 9) (by omega) (by omega) (by omega)
  have e1 : jsecN c 0 0 = 1 := by unfold jsecN; simp
  rw [e1] at h1 h2
  have h1' : (R.dsk d).rotOk 1 3 9 = true := h1
  rw [h.live.rot hd, if_pos h1']
  refine h.set hd hn _ h2.len fun i hi => ?_
  have := h2.jg h.good h.s0 h.has h.fits hi
  show ((R.dsk d).rotted 1 3 9).jg c 0 i = _ ∨ ((R.dsk d).rotted 1 3 9).jg c 0 i = _
  rw [this]
  split
  · exact .inr rfl
  · exact .inl rfl
theorem slot (h : One R c m f x left c.n.toNat) (hl : (x.blocks.length : Int) = c.k) : R.jslot c 0 = (x, true, x.seq, none) :=
  (⟨h.live, h.good, h.fit⟩ : Super R c m).jslot_of h.s0 hl h.fits.seq0 fun i hi => ⟨⟨left, h.left.1, h.left.2 i hi⟩, fun d hd => h.past d hd hd i hi⟩
end One
end Go.Proofs.YtmjembnciffgfaaDoor

/- A record whose frames are good on some disk each, and a newer one that was cut short behind its first frame. No program stands here. -/
namespace Go.Proofs.YtmjembnciffgfaaDoor
set_option linter.unusedVariables false
theorem Dsk.jg_congr {D E : Dsk} {c : Cfg} {s i : Nat} (h1 : D.dead = E.dead) (h2 : D.read (jsecN c s i) = E.read (jsecN c s i)) : D.jg c s i = E.jg c s i := by
  unfold Dsk.jg; rw [h1, h2]
/-- While places are looked at: up to one of them, each is good on some disk; behind it nothing rotted. -/
structure Uni (R : Rck) (c : Cfg) (m : Nat) (f : Nat → Option Rcd) (i : Nat) : Prop where
  ex : ∃ B, RB R c m f B ∧ (∀ j, j < i → ∃ d, d < c.n.toNat ∧ B d (jsecN c 0 j) = false) ∧ ∀ j, i ≤ j → j < c.k.toNat → ∀ d, B d (jsecN c 0 j) = false
/-- While the disks of a place are looked at. -/
structure UniIn (R : Rck) (c : Cfg) (m : Nat) (f : Nat → Option Rcd) (i keep d : Nat) : Prop where
  ex : ∃ B, RB R c m f B ∧ (∀ j, j < i → ∃ d, d < c.n.toNat ∧ B d (jsecN c 0 j) = false) ∧ (∀ j, i < j → j < c.k.toNat → ∀ d, B d (jsecN c 0 j) = false) ∧ B keep (jsecN c 0 i) = false ∧ ∀ e, d ≤ e → B e (jsecN c 0 i) = false
section
variable {R : Rck} {c : Cfg} {m : Nat} {f : Nat → Option Rcd} {i keep d : Nat} {x : Rcd}
theorem Uni.start (h : RJ R c m f) : Uni R c m f 0 := ⟨_, RB.of h, fun j hj => absurd hj (Nat.not_lt_zero _), fun _ _ _ _ => rfl⟩
theorem Uni.into (h : Uni R c m f i) (hi : i < c.k.toNat) (keep : Nat) : UniIn R c m f i keep 0 := by
  obtain ⟨B, h1, h2, h3⟩ := h.ex
  exact ⟨B, h1, h2, fun j hj hk d => h3 j (by omega) hk d, h3 i (Nat.le_refl _) hi keep, fun e _ => h3 i (Nat.le_refl _) hi e⟩
theorem UniIn.skip (h : UniIn R c m f i keep d) : UniIn R c m f i keep (d + 1) := by
  obtain ⟨B, h1, h2, h3, h4, h5⟩ := h.ex
  exact ⟨B, h1, h2, h3, h4, fun e he => h5 e (by omega)⟩
theorem UniIn.rot (h : UniIn R c m f i keep d) (hd : d < c.n.toNat) (hn : d ≠ keep) (hi : i < c.k.toNat) (hs : 0 < c.slots.toNat) (hf : f 0 = some x) : R.rotOk d (1 + (i : Int)) 3 1 = true ∧ UniIn (R.rot d (1 + (i : Int)) 3 1) c m f i keep (d + 1) := by
  obtain ⟨B, h1, h2, h3, h4, h5⟩ := h.ex
  obtain ⟨a1, a2⟩ := h1.rot hd hs hf hi (h5 d (Nat.le_refl _)) (a := 3) (y := 1) (by omega) (by omega) (by omega)
  have e1 : ((jsecN c 0 i : Nat) : Int) = 1 + (i : Int) := by unfold jsecN; simp
  rw [e1] at a1 a2
  have ne : ∀ j, j < c.k.toNat → j ≠ i → jsecN c 0 j ≠ jsecN c 0 i := fun j hj hne e => hne (jsecN_inj hj hi e).2
  refine ⟨a1, _, a2, fun j hj => ?_, fun j hj hk e => ?_, ?_, fun e he => ?_⟩
  · obtain ⟨e, he, hb⟩ := h2 j hj
    refine ⟨e, he, ?_⟩
    simp only [hb, decide_eq_false (ne j (by omega) (by omega)), Bool.and_false, Bool.or_false]
  · simp only [h3 j hj hk e, decide_eq_false (ne j hk (by omega)), Bool.and_false, Bool.or_false]
  · simp only [h4, decide_eq_false (Ne.symm hn), Bool.false_and, Bool.or_false]
  · simp only [h5 e (by omega), decide_eq_false (p := e = d) (by omega), Bool.false_and, Bool.or_false]
theorem UniIn.out (h : UniIn R c m f i keep d) (hk : keep < c.n.toNat) : Uni R c m f (i + 1) := by
  obtain ⟨B, h1, h2, h3, h4, h5⟩ := h.ex
  refine ⟨B, h1, fun j hj => ?_, fun j hj hk e => h3 j (by omega) hk e⟩
  by_cases e : j = i
  · subst e; exact ⟨keep, hk, h4⟩
  · exact h2 j (by omega)
theorem Uni.slot (h : Uni R c m f c.k.toNat) (hs : 0 < c.slots.toNat) (hf : f 0 = some x) (hl : (x.blocks.length : Int) = c.k) : R.jslot c 0 = (x, true, x.seq, none) := by
  obtain ⟨B, h1, h2, h3⟩ := h.ex
  exact h1.slot hs hf hl h2
end
theorem Pow.write_out {R : Rck} {n m i s : Nat} (h : Pow R n m 0) (hi : i < n) (hs : s < m) {b : List Nat} (hb : b.length = 128) : R.write i s b = (some (.fault sRackWrite i (.no 5)), { R with off := true }) := by
  have hsec : (R.dsk 0).l.length = m := h.secs 0 h.pos
  have hw : R.badW s b = false := by unfold Rck.badW Rck.sectors; rw [hsec, hb]; simp; omega
  obtain ⟨e1, e2⟩ := (h.may hi).2 rfl
  unfold Rck.write
  rw [hw, e1, e2, if_neg (by decide)]
theorem range_two {k : Nat} (h : 2 ≤ k) : ∃ l, List.range k = 0 :: 1 :: l := by
  obtain ⟨j, rfl⟩ : ∃ j, k = j + 2 := ⟨k - 2, by omega⟩
  refine ⟨(List.range j).map fun i => i + 2, ?_⟩
  rw [List.range_succ_eq_map, List.range_succ_eq_map]
  simp
theorem range_one {k : Nat} (h : 0 < k) : ∃ l, List.range k = 0 :: l := by
  obtain ⟨j, rfl⟩ : ∃ j, k = j + 1 := ⟨k - 1, by omega⟩
  exact ⟨_, List.range_succ_eq_map⟩
/-- Behind a crash in which the first sector that waits is kept. -/
theorem Dsk.crash_first (D : Dsk) {s : Nat} (hs : s < D.l.length) (b : List Nat) (hw : ∀ j, D.waits j = none) (j : Nat) (hj : j < D.l.length) : ((D.write s b).crash 1).read j = if j = s then b else D.read j := by
  have hl : (D.write s b).l.length = D.l.length := rfl
  unfold Dsk.crash
  rw [Dsk.settle_read _ _ _ (by rw [hl]; exact hj)]
  have hr := Dsk.write_read D s j b
  have hwt : (D.write s b).waits = fun j => if j = s then some b else D.waits j := rfl
  have hmem : ∀ a, a ∈ (D.write s b).waiting ↔ a = s := fun a => by
    unfold Dsk.waiting
    rw [List.mem_filter, hwt]
    simp only [List.mem_range, hl, hw]
    constructor
    · rintro ⟨_, h⟩
      by_cases e : a = s
      · exact e
      · rw [if_neg e] at h; simp at h
    · rintro rfl
      exact ⟨hs, by simp⟩
  by_cases e : j = s
  · subst e
    have h0 : (D.write j b).waiting.idxOf j = 0 := by
      rcases hq : (D.write j b).waiting with _ | ⟨a, l⟩
      · have := (hmem j).2 rfl
        rw [hq] at this; simp at this
      · have : a = j := (hmem a).1 (by rw [hq]; exact List.mem_cons_self)
        rw [this, List.idxOf_cons_self]
    rw [h0, if_pos (by decide), hr]
  · have h1 : (D.write s b).l.getD j [] = D.read j := by
      unfold Dsk.read; rw [hw]; rfl
    rw [hr, if_neg e, h1]
    simp
theorem Dsk.crash_quiet (D : Dsk) (bits : Nat) (hw : ∀ j, D.waits j = none) (j : Nat) (hj : j < D.l.length) : (D.crash bits).read j = D.read j := by
  unfold Dsk.crash
  rw [Dsk.settle_read _ _ _ hj]
  have h1 : D.l.getD j [] = D.read j := by unfold Dsk.read; rw [hw]; rfl
  rw [h1]
  split <;> rfl
theorem Rck.boot_dsk {R : Rck} {n : Nat} (hl : R.l.length = n) (bits : List Nat) {j : Nat} (hj : j < n) : (R.boot bits).dsk j = (R.dsk j).crash (bits.getD j 0) := by
  unfold Rck.boot Rck.dsk
  simp [List.getD_eq_getElem?_getD, hl, hj]
/-- A newer record of which one frame was kept. -/
theorem RB.cut {R : Rck} {c : Cfg} {m : Nat} {f : Nat → Option Rcd} {B : Nat → Nat → Bool} {X Y : Rcd} (h : RB R c m f B) (h1 : c.slots = 1) (hf : f 0 = some X) (hY : Y.Fit c 0) (hlx : (X.blocks.length : Int) = c.k) (hly : (Y.blocks.length : Int) = c.k) (hy2 : 2 ≤ Y.seq) (hxy : X.seq < Y.seq) (k2 : 2 ≤ c.k.toNat)
    (hB : ∀ j, j < c.k.toNat → ∃ d, d < c.n.toNat ∧ B d (jsecN c 0 j) = false) :
    (((R.arm 1).jlog c Y).2.boot [1]).jslot c 0 = (Rcd.none_, false, Y.seq, none) := by
  have hc := h.good
  have hX := h.fits 0 X hf
  have hk1 := hc.k1
  have hn1 := hc.n1
  have hs : 0 < c.slots.toNat := by omega
  have hn := h.n0
  have hA : R.arm 1 = { R with fuse := 1 } := rfl
  have hP : Pow (R.arm 1) c.n.toNat m 1 := by
    rw [hA]
    exact ⟨h.live.len, h.live.secs, fun j hj => (h.dsk j hj).alive, h.live.off, rfl, h.live.pos⟩
  have hdA : ∀ j : Nat, (R.arm 1).dsk j = R.dsk j := fun j => rfl
  have hfits : (R.arm 1).fits c = true := by
    have e : (R.arm 1).fits c = R.fits c := rfl
    rw [e]; exact h.super.fits
  have hz : Y.seq % c.slots = 0 := by rw [h1]; exact Int.emod_one _
  have hlog : ((R.arm 1).jlog c Y).2 = ((R.arm 1).jput c 0 Y).2 := by
    unfold Rck.jlog
    rw [if_pos, hz]
    unfold Rck.jlogOk
    rw [hfits]
    simp only [Bool.true_and, Bool.and_eq_true, decide_eq_true_eq]
    exact ⟨⟨⟨⟨hy2, hY.seq1⟩, hY.st0⟩, hY.st1⟩, hly⟩
  have l0 := jsecN_lt hc h.fit hs (i := 0) (by omega)
  have l1 := jsecN_lt hc h.fit hs (i := 1) (by omega)
  obtain ⟨R1, w1, p1, q1⟩ := (Does.write (i := 0) (s := jsecN c 0 0) (b := (Y.frm 0).bytes) hn l0 (hY.len 0) (R.arm 1) 1 hP).1 (.inr (by omega))
  have p1' : Pow R1 c.n.toNat m 0 := by
    have e : burn 1 1 = 0 := by decide
    rw [e] at p1; exact p1
  have w2 := p1'.write_out (i := 0) (s := jsecN c 0 1) hn l1 (hY.len 1)
  have hrow : Rck.jrow c 0 Y (R.arm 1) 0 = (some (.fault sRackWrite ((0 : Nat) : Int) (.no 5)), { R1 with off := true }) := by
    obtain ⟨l, hl⟩ := range_two k2
    unfold Rck.jrow
    rw [hl]
    have g0 : (fun (R : Rck) (i : Nat) => R.write ((0 : Nat) : Int) (Rck.jsec c 0 i) (Y.frm i).put) (R.arm 1) 0 = (none, R1) := by
      show (R.arm 1).write ((0 : Nat) : Int) (Rck.jsec c 0 (0 : Nat)) (Y.frm 0).put = _
      rw [show Rck.jsec c 0 (0 : Nat) = (jsecN c 0 0 : Nat) from jsec_eq hc 0 0, hY.put hc (by omega)]
      exact w1
    have g1 : (fun (R : Rck) (i : Nat) => R.write ((0 : Nat) : Int) (Rck.jsec c 0 i) (Y.frm i).put) R1 1 = (some (.fault sRackWrite ((0 : Nat) : Int) (.no 5)), { R1 with off := true }) := by
      show R1.write ((0 : Nat) : Int) (Rck.jsec c 0 (1 : Nat)) (Y.frm 1).put = _
      rw [show Rck.jsec c 0 (1 : Nat) = (jsecN c 0 1 : Nat) from jsec_eq hc 0 1, hY.put hc (by omega)]
      exact w2
    rw [each_ok g0, each_err g1]
  have hput : ((R.arm 1).jput c 0 Y).2 = { R1 with off := true } := by
    obtain ⟨l, hl⟩ := range_one hn
    have e : each (Rck.jrow c 0 Y) (R.arm 1).online (R.arm 1) = (some (.fault sRackWrite ((0 : Nat) : Int) (.no 5)), { R1 with off := true }) := by
      rw [hP.online, hl]
      exact each_err hrow
    unfold Rck.jput
    rw [e]
  rw [hlog, hput]
  have hlen : ({ R1 with off := true } : Rck).l.length = c.n.toNat := p1.len
  have hd1 : ∀ j : Nat, j < c.n.toNat → (({ R1 with off := true } : Rck).boot [1]).dsk j = (if j = 0 then (R.dsk j).write (jsecN c 0 0) (Y.frm 0).bytes else R.dsk j).crash ([1].getD j 0) := fun j hj => by
    rw [Rck.boot_dsk hlen [1] hj]
    have e : ({ R1 with off := true } : Rck).dsk j = R1.dsk j := rfl
    rw [e, q1 j hj, hdA]
  have hdead : ∀ j : Nat, j < c.n.toNat → ((({ R1 with off := true } : Rck).boot [1]).dsk j).dead = (R.dsk j).dead := fun j hj => by
    rw [hd1 j hj]
    split <;> rfl
  have hread : ∀ j : Nat, j < c.n.toNat → ∀ i, i < c.k.toNat → ((({ R1 with off := true } : Rck).boot [1]).dsk j).read (jsecN c 0 i) = if j = 0 ∧ i = 0 then (Y.frm 0).bytes else (R.dsk j).read (jsecN c 0 i) := fun j hj i hi => by
    have hlt := jsecN_lt hc h.fit hs hi
    have hlj := (h.dsk j hj).len
    rw [hd1 j hj]
    by_cases e : j = 0
    · subst e
      rw [if_pos rfl]
      show (((R.dsk (0 : Nat)).write (jsecN c 0 0) (Y.frm 0).bytes).crash 1).read (jsecN c 0 i) = _
      rw [Dsk.crash_first _ (by rw [hlj]; exact l0) _ (h.dsk 0 hj).waits _ (by rw [hlj]; exact hlt)]
      by_cases e2 : i = 0
      · subst e2; rw [if_pos rfl, if_pos ⟨rfl, rfl⟩]
      · rw [if_neg (fun q => e2 (jsecN_inj hi (by omega) q).2), if_neg (fun q => e2 q.2)]
    · rw [if_neg e, if_neg (fun q => e q.1)]
      exact Dsk.crash_quiet _ _ (h.dsk j hj).waits _ (by rw [hlj]; exact hlt)
  have hL : Live (({ R1 with off := true } : Rck).boot [1]) c.n.toNat m := by
    refine ⟨by simp only [Rck.boot, List.length_map, List.length_range]; exact hlen, fun j hj => ?_, rfl, rfl, h.live.pos⟩
    rw [hd1 j hj]
    unfold Dsk.crash
    rw [Dsk.settle_len]
    split
    · exact (h.dsk j hj).len
    · exact (h.dsk j hj).len
  generalize ({ R1 with off := true } : Rck).boot [1] = R3 at hdead hread hL ⊢
  have hS : Super R3 c m := ⟨hL, hc, h.fit⟩
  have jgX : ∀ d, d < c.n.toNat → ∀ i, i < c.k.toNat → ¬ (d = 0 ∧ i = 0) → (R3.dsk d).jg c 0 i = if B d (jsecN c 0 i) then none else some (X.frm i) := fun d hd i hi hn0 => by
    rw [Dsk.jg_congr (hdead d hd) (by rw [hread d hd i hi, if_neg hn0]), (h.dsk d hd).jg hc hs hf hX hi]
  have jgY : (R3.dsk (0 : Nat)).jg c 0 0 = some (Y.frm 0) :=
    Dsk.jg_has hc hY (by omega) (by rw [hdead 0 hn]; exact (h.dsk 0 hn).alive) (by rw [hread 0 hn 0 (by omega), if_pos ⟨rfl, rfl⟩])
  have mem : ∀ i, i < c.k.toNat → ∀ g, g ∈ R3.jgoods c ((0 : Nat) : Int) i ↔ ∃ d : Nat, d < c.n.toNat ∧ (R3.dsk d).jg c 0 i = some g := fun i hi g => by
    rw [Rck.jgoods_mem]
    exact ⟨fun ⟨d, hd, e⟩ => ⟨d, hd, by rw [← hS.jgood hd hs hi]; exact e⟩, fun ⟨d, hd, e⟩ => ⟨d, hd, by rw [hS.jgood hd hs hi]; exact e⟩⟩
  have all : ∀ i, i < c.k.toNat → ∀ g ∈ R3.jgoods c ((0 : Nat) : Int) i, g = X.frm i ∨ (i = 0 ∧ g = Y.frm 0) := fun i hi g hg => by
    obtain ⟨d, hd, e⟩ := (mem i hi g).1 hg
    by_cases q : d = 0 ∧ i = 0
    · obtain ⟨rfl, rfl⟩ := q
      rw [jgY] at e; cases e; exact .inr ⟨rfl, rfl⟩
    · rw [jgX d hd i hi q] at e
      split at e
      · cases e
      · cases e; exact .inl rfl
  have y0 : Y.frm 0 ∈ R3.jgoods c ((0 : Nat) : Int) 0 := (mem 0 (by omega) _).2 ⟨0, hn, jgY⟩
  have gx : ∀ i, (X.frm i).gen = X.seq := fun _ => rfl
  have gy : ∀ i, (Y.frm i).gen = Y.seq := fun _ => rfl
  refine Rck.jslot_part (slot := ((0 : Nat) : Int)) (hS.known hs) (by omega) (fun i hi e => ?_) (fun i hi g hg => ?_) (i := 0) (j := 1) (by omega) ⟨_, y0, rfl⟩ (by omega) fun g hg e => ?_
  · by_cases q : i = 0
    · subst q; rw [e] at y0; simp at y0
    · obtain ⟨d, hd, hb⟩ := hB i hi
      have : X.frm i ∈ R3.jgoods c ((0 : Nat) : Int) i := (mem i hi _).2 ⟨d, hd, by rw [jgX d hd i hi (fun q2 => q q2.2), hb]; rfl⟩
      rw [e] at this; simp at this
  · rcases all i hi g hg with rfl | ⟨_, rfl⟩
    · rw [gx]; omega
    · rw [gy]; omega
  · rcases all 1 (by omega) g hg with rfl | ⟨q, _⟩
    · rw [gx] at e; omega
    · omega
end Go.Proofs.YtmjembnciffgfaaDoor

/- The records that the statements of chapter 10 make, and chapter 10's runs. No program stands here. -/
namespace Go.Proofs.YtmjembnciffgfaaDoor
set_option linter.unusedVariables false
open Go Go.RowKit
/-- The blocks that stavekeep makes of a number. -/
def blocksOf (k : Nat) (n : Int) : List (List Nat) := (List.range k).map fun i : Nat => blockOf (wrap64 (n + 31 * (i : Int)))
theorem blocksOf_len (k : Nat) (n : Int) : (blocksOf k n).length = k := by simp [blocksOf]
theorem blocksOf_mem {k : Nat} {n : Int} {b : List Nat} (h : b ∈ blocksOf k n) : ∃ x, b = blockOf x := by
  unfold blocksOf at h
  obtain ⟨i, _, rfl⟩ := List.mem_map.1 h
  exact ⟨_, rfl⟩
theorem blocksOf_succ (k : Nat) (n : Int) : blocksOf (k + 1) n = blocksOf k n ++ [blockOf (wrap64 (n + 31 * (k : Int)))] := by
  unfold blocksOf
  rw [List.range_succ, List.map_append]; rfl
/-- A record of numbers. -/
def recOf (c : Cfg) (seq stripe n : Int) : Rcd := ⟨seq, stripe, blocksOf c.k.toNat n⟩
theorem recOf_ok (c : Cfg) (seq stripe n : Int) : (recOf c seq stripe n).Ok := ⟨fun b hb => by
  obtain ⟨x, rfl⟩ := blocksOf_mem hb; exact blockOf_len x, fun b hb => by
  obtain ⟨x, rfl⟩ := blocksOf_mem hb; exact blockOf_byte x⟩
theorem recOf_len {c : Cfg} (hc : c.Good) (seq stripe n : Int) : ((recOf c seq stripe n).blocks.length : Int) = c.k := by
  have e : (recOf c seq stripe n).blocks = blocksOf c.k.toNat n := rfl
  rw [e, blocksOf_len]
  have := hc.k0; omega
namespace Runs10
def c : Cfg := ⟨9, 1, 2, 1, 2⟩
def x : Rcd := recOf c 3 0 5
theorem good : c.Good := ⟨by decide, by decide, by decide, by decide, by decide, by decide, by decide, by decide, by decide⟩
structure All (R1 R2 R3 : Rck) : Prop where
  b0 : (Rck.new 2 4).jblank c 0 = (none, R1)
  b1 : R1.jblank c 1 = (none, R2)
  lg : R2.jlog c x = (none, R3)
  s1 : R3.jslot c 1 = (x, true, 3, none)
  s0 : R3.jslot c 0 = (⟨0, 0, [List.replicate 108 0]⟩, true, 0, none)
  r0 : R3.rotOk 0 2 0 1 = true
  r1 : (R3.rot 0 2 0 1).rotOk 1 2 0 1 = true
  s2 : ((R3.rot 0 2 0 1).rot 1 2 0 1).jslot c 1 = (Rcd.none_, false, 0, some (.fault sJSlot 1 (.loss 1 0 1)))
theorem all : ∃ R1 R2 R3, All R1 R2 R3 := by
  have hm : c.sectors ≤ ((4 : Nat) : Int) := by decide
  have h0 : RJ (Rck.new 2 4) c 4 fun _ => none := RJ.new good hm
  obtain ⟨R1, e1, h1⟩ := h0.blank (s := 0) (by decide)
  obtain ⟨R2, e2, h2⟩ := h1.blank (s := 1) (by decide)
  obtain ⟨hx, _, _, R3, e3, h3⟩ := h2.log (x := x) (t := 1) (by decide) (recOf_ok _ _ _ _) (by decide) (by decide) (by decide) (by decide) (recOf_len good _ _ _)
  have f1 : upd (upd (upd (fun _ => none) 0 Rcd.none_) 1 Rcd.none_) 1 x 1 = some x := upd_at _ _ _
  have f0 : upd (upd (upd (fun _ => none) 0 Rcd.none_) 1 Rcd.none_) 1 x 0 = some Rcd.none_ := by
    rw [upd_other _ _ (by omega), upd_other _ _ (by omega), upd_at]
  have s1 := h3.slot (s := 1) (by decide) f1 (recOf_len good _ _ _)
  have s0 := h3.slot_none (s := 0) (by decide) f0
  have eb : jsecN c 1 0 = 2 := by decide
  obtain ⟨r0, k0⟩ := (RB.of h3).rot (d := 0) (s := 1) (i := 0) (by decide) (by decide) f1 (by decide) rfl (a := 0) (y := 1) (by omega) (by omega) (by omega)
  obtain ⟨r1, k1⟩ := k0.rot (d := 1) (s := 1) (i := 0) (by decide) (by decide) f1 (by decide) (by simp [noB]) (a := 0) (y := 1) (by omega) (by omega) (by omega)
  rw [eb] at r0 k0 r1 k1
  have s2 := k1.gone (s := 1) (i := 0) (by decide) f1 (by decide) fun d hd => by
    have hd2 : d < 2 := hd
    rw [eb]
    rcases d with _ | _ | d
    · simp
    · simp
    · omega
  exact ⟨R1, R2, R3, e1, e2, e3, s1, s0, r0, r1, s2⟩
end Runs10
end Go.Proofs.YtmjembnciffgfaaDoor

/- fault.Lost; stavekeep.Blocks, stavekeep.Sectors. -/
namespace Go.Proofs.YtmjembnciffgfaaDoor
set_option linter.unusedVariables false
open Go Go.RowKit
theorem zero_loss (w : World) : Sem.run Tryd.prog (zeroValue 40) w = .ok (.agg (lcells (0, 0, 0))) w := by kernel_rfl
theorem built_loss0 : Tryd.prog.built 40 [] = some (lcells (0, 0, 0)) := by kernel_rfl
theorem agg_loss (l : Int × Int × Int) : AggType Tryd.prog 40 (lcells l).size := ⟨by kernel_rfl, by kernel_rfl⟩
def lostV (l : Int × Int × Int) (b : Bool) : Value := .tuple #[.agg (lcells l), .bool b]
set_option maxRecDepth 100000 in
set_option maxHeartbeats 1000000 in
theorem lost_yes (er : Err) (hl : er.lost = true) (w : World) (hg : EtLaid w) : Calls Tryd.prog 15 #[er.val] w fun e w' => e = .returned (lostV er.lossOf true) ∧ Ext w w' := by
  have hz := zero_loss
  obtain ⟨t2, v2, hq⟩ := er.iface
  have HQ := hid hq
  rw [hq]
  obtain ⟨W0, hW0⟩ : ∃ W, w.alloc (.cells (lcells (0, 0, 0)) 40) = W := ⟨_, rfl⟩
  have x0 : Ext w W0 := hW0 ▸ (Ext.refl w).alloc _
  have hr0 : W0.heap[w.heap.size]? = some (.cells (lcells (0, 0, 0)) 40 (0, 0)) := hW0 ▸ heap_alloc_new _ _
  have hsz0 : W0.heap.size = w.heap.size + 1 := by rw [← hW0]; simp
  obtain ⟨W1, hW1⟩ : ∃ W, W0.alloc (.cells (lcells (0, 0, 0)) 40) = W := ⟨_, rfl⟩
  have x1 : Ext W0 W1 := hW1 ▸ (Ext.refl W0).alloc _
  have hr1 : W1.heap[w.heap.size + 1]? = some (.cells (lcells (0, 0, 0)) 40 (0, 0)) := by rw [← hsz0]; exact hW1 ▸ heap_alloc_new _ _
  have HX1 := hid (Ext.trans x0 x1)
  have HR1 := hid (x1.at hr0)
  have HAS := hid (Asl_c er hl (w.heap.size + 1) (lcells (0, 0, 0)) W1 (hg.only HX1.out (fun x => x)) hr1 rfl)
  clear hq x0 x1 hr0 hr1 hg hl
  go_enter Tryd.func15, Tryd.ntmps15
  go_wp2_with (go_at_call 34; fail)
  refine Calls.mono (by rw [← HQ.out]; exact HAS.out) ?_
  rintro e w' ⟨rfl, hcl, ho⟩
  have HC := hid hcl
  have HO := hid ho
  have HR := hid (ho.at HR1.out (by omega))
  clear hcl ho
  go_wp2_with (first
    | (guard_target = wpList _ _ _ ({ dst := some _, op := Op.load _ _, type := _, pos := _, after := _, guard := none } :: _) _ _; refine wpList_load_agg rfl 40 _ rfl ⟨w.heap.size + 1, 0, none⟩ rfl (lcells er.lossOf) (agg_loss _) (agg_cells HC.out) ?_)
    | (guard_target = wpList _ _ _ ({ dst := none, op := Op.store _ _ _, type := _, pos := _, after := _, guard := none } :: _) _ _; refine wpList_store_whole rfl 40 _ _ rfl w.heap.size rfl (lcells er.lossOf) _ rfl 40 (agg_loss _) HR.out rfl (lcells_one _) ?_))
  refine bodyPost_ret (run_results_agg Tryd.results15 rfl (agg_loss _) (setRow_heap _ _ _ _ _ _ HR.out)) rfl ?_
  exact ⟨rfl, Ext.then (Ext.then HX1.out HO.out (fun i hi e => by omega)) (only_setRow _ _ _) (fun i hi => by omega)⟩
set_option maxRecDepth 100000 in
set_option maxHeartbeats 1000000 in
theorem lost_nil (w : World) : Calls Tryd.prog 15 #[.nilIface] w fun e w' => e = .returned (lostV (0, 0, 0) false) ∧ Ext w w' := by
  have hz := zero_loss
  have hb0 := built_loss0
  obtain ⟨W0, hW0⟩ : ∃ W, w.alloc (.cells (lcells (0, 0, 0)) 40) = W := ⟨_, rfl⟩
  have x0 : Ext w W0 := hW0 ▸ (Ext.refl w).alloc _
  have hr0 : W0.heap[w.heap.size]? = some (.cells (lcells (0, 0, 0)) 40 (0, 0)) := hW0 ▸ heap_alloc_new _ _
  have hsz0 : W0.heap.size = w.heap.size + 1 := by rw [← hW0]; simp
  obtain ⟨W1, hW1⟩ : ∃ W, W0.alloc (.cells (lcells (0, 0, 0)) 40) = W := ⟨_, rfl⟩
  have x1 : Ext W0 W1 := hW1 ▸ (Ext.refl W0).alloc _
  have HX1 := hid (Ext.trans x0 x1)
  have HR := hid (x1.at hr0)
  clear x0 x1 hr0
  go_enter Tryd.func15, Tryd.ntmps15
  go_wp2_with (first
    | (go_at_call 34; refine (As_nil _ _).mono ?_; rintro e w' ⟨rfl, rfl⟩)
    | (guard_target = wpList _ _ _ ({ dst := some _, op := Op.build _ _, type := _, pos := _, after := _, guard := none } :: _) _ _; refine wpList_build_eq rfl 40 _ rfl (lcells (0, 0, 0)) ?_ ?_; exact hb0)
    | (guard_target = wpList _ _ _ ({ dst := none, op := Op.store _ _ _, type := _, pos := _, after := _, guard := none } :: _) _ _; refine wpList_store_whole rfl 40 _ _ rfl w.heap.size rfl (lcells (0, 0, 0)) _ rfl 40 (agg_loss _) HR.out rfl (lcells_one _) ?_))
  refine bodyPost_ret (run_results_agg Tryd.results15 rfl (agg_loss _) (setRow_heap _ _ _ _ _ _ HR.out)) rfl ?_
  exact ⟨rfl, Ext.then HX1.out (only_setRow _ _ _) (fun i hi => by omega)⟩
def KBlocksPost (w : World) (l : List (List Nat)) (e : Ending) (w' : World) : Prop := ∃ v, e = .returned v ∧ OwnVs w' w.heap.size 69 108 v (l.map bA) ∧ Ext w w'
set_option maxRecDepth 100000 in
set_option maxHeartbeats 1000000 in
theorem kblocks_c (k : Nat) (hk : k ≤ 8) (n : Int) (w : World) : Calls Tryd.prog 10 #[.int .i64 k, .int .i64 n] w (KBlocksPost w (blocksOf k n)) := by
  have hbc := block_c
  have HS := hid (fun j => blocksOf_succ j n)
  go_enter Tryd.func10, Tryd.ntmps10
  go_wp2
  go_loopw [6, 5] (fun t v wr => ∃ j : Nat, t = .int .i64 j ∧ j ≤ k ∧ OwnVs wr w.heap.size 69 108 v ((blocksOf j n).map bA) ∧ Ext w wr) (fun t _ _ => k - (intOf t).toNat)
  case atStart => exact ⟨0, rfl, by omega, OwnVs.nil _ _ _ _, Ext.refl _⟩
  case round =>
    obtain ⟨j, rfl, hj, hown, hx⟩ := hrel
    by_cases hlt : j < k
    · have HO := hid hown
      have HX := hid hx
      clear hown hx
      go_wp2_with (go_at_call 26; fail)
      refine (hbc _ _).mono ?_
      rintro e w1 ⟨rfl, x1⟩
      have hx1 := Ext.trans HX.out x1
      have hsz : (bA (blockOf (wrap64 (n + 31 * (j : Int))))).size = 108 := by rw [bA_size]; exact blockOf_len _
      obtain ⟨v', W2, hap, hown2, _, hx2⟩ := (HO.out.ext x1).add (tsl := 29) Tryd.underlying29 infoBlk (by show (bA z108).size = 108; rw [bA_size]; simp [z108]) (by omega) (bA (blockOf (wrap64 (n + 31 * (j : Int))))) hsz (bA_one _) (by rw [List.length_map, blocksOf_len]; omega) (by omega) hx1.size
      have HO2 : Hid (OwnVs W2 w.heap.size 69 108 v' ((blocksOf (j + 1) n).map bA)) := hid (by rw [HS.out]; simpa using hown2)
      have HX2 := hid (hx2 w (Nat.le_refl _) hx1)
      have HSZ := hid hsz
      clear hown2 hx2 hx1 x1 hsz
      go_wp2_with (first
        | (guard_target = wpList _ _ _ ({ dst := some _, op := Op.buildSlice _ _ _, type := _, pos := _, after := _, guard := none } :: _) _ _; refine wpList_buildSlice_one rfl 29 69 _ rfl (bA (blockOf (wrap64 (n + 31 * (j : Int))))) _ _ 108 108 Tryd.underlying29 infoBlk (by omega) (by omega) rfl rfl HSZ.out ?_)
        | (at_builtin; refine wpList_append_run rfl _ _ _ rfl _ _ _ _ rfl rfl hap ?_))
      go_roundw
      case rel => exact ⟨j + 1, by go_num, by omega, HO2.out, HX2.out⟩
      case measure => simp [intOf]; omega
    · obtain rfl : k = j := by omega
      have HO := hid hown
      have HX := hid hx
      clear hown hx
      go_wp2
      go_ret
      exact ⟨_, rfl, HO.out, HX.out⟩
/-- As a record's blocks. -/
theorem kblocks_at {w : World} {B : Nat} {v : Value} {l : List (List Nat)} (hl : ∀ b ∈ l, b.length = 108) (h : OwnVs w B 69 108 v (l.map bA)) : ∃ a c, v = .slice a l.length c ∧ BlksAt w a l ∧ ∀ g, a = some ⟨g, 0, none⟩ → B ≤ g := by
  obtain ⟨a, c, e, q⟩ := h.slice
  rw [List.length_map] at e
  refine ⟨a, c, e, ?_, ?_⟩
  · rcases q with ⟨q, _⟩ | ⟨g, rfl, _, _, _, hv⟩
    · have : l = [] := by simpa using q
      subst this
      intro i b hb; simp at hb
    · exact BlksAt.of_vs hl hv
  · intro g hg
    rcases q with ⟨_, q⟩ | ⟨g2, q, hb, _⟩
    · rw [q] at hg; cases hg
    · rw [q] at hg; cases hg; exact hb
set_option maxRecDepth 100000 in
theorem ksectors_c (c : Cfg) (hc : c.Good) (w : World) : Calls Tryd.prog 19 #[.agg (Cfg.A c)] w fun e w' => e = .returned (.int .i64 c.sectors) ∧ Ext w w' := by
  have a1 := Cfg.A1 c
  have a3 := Cfg.A3 c
  have a4 := Cfg.A4 c
  have HR : Hid (c.sectors = 1 + c.slots * c.k + c.stripes) := hid rfl
  rw [HR.out]
  have b0 : 0 ≤ c.slots * c.k := Int.mul_nonneg (by have := hc.sl0; omega) (by have := hc.k0; omega)
  have b1 : c.slots * c.k ≤ 4 * 8 := Int.mul_le_mul hc.sl1 (by have := hc.k1; have := hc.n1; omega) (by have := hc.k0; omega) (by omega)
  have s0 := hc.st0
  have s1 := hc.st1
  clear HR hc
  obtain ⟨id, k, n, st, sl⟩ := c
  simp only at a1 a3 a4 b0 b1 s0 s1 ⊢
  generalize Cfg.A _ = A at *
  obtain ⟨p, hp⟩ : ∃ p, sl * k = p := ⟨_, rfl⟩
  rw [hp] at b0 b1 ⊢
  have hw : wrap64 (sl * k) = p := by rw [hp]; unfold wrap64; omega
  have w2 : wrap64 (1 + p) = 1 + p := by unfold wrap64; omega
  have w3 : wrap64 (1 + p + st) = 1 + p + st := by unfold wrap64; omega
  clear hp b0 b1 s0 s1
  go_enter Tryd.func19, Tryd.ntmps19
  go_wp2
  go_ret
  exact ⟨ret_int (by simp only [hw, w2, w3]), (Ext.refl w).alloc _⟩
end Go.Proofs.YtmjembnciffgfaaDoor

/- stavebook.Same of blocks, stavekeep.Record: a record that is read is that which was written. -/
namespace Go.Proofs.YtmjembnciffgfaaDoor
set_option linter.unusedVariables false
open Go Go.RowKit
theorem block_eqAt (D : Nat) (hD : ∃ d, D = d + 2) (l : List Nat) (hl : l.length = 108) (w : World) : (Op.equalIn D 69 (.agg (bA l)) (.agg (bA l))).run Tryd.prog w = .ok true w := by
  obtain ⟨d, rfl⟩ := hD
  have h := run_bytes_eq d 69 l l hl hl Tryd.underlying69 w
  rw [beq_self_eq_true] at h
  exact h
theorem block_neq (l : List Nat) (hl : l.length = 108) (w : World) : (binOp .neq 69 (.agg (bA l)) (.agg (bA l))).run Tryd.prog w = .ok (.bool false) w := by
  rw [run_neq_struct]
  rw [block_eqAt 10000 ⟨9998, by omega⟩ l hl w]; rfl
theorem block_guardB : Tryd.prog.eqGuardType Tryd.prog.depth 69 = false := by kernel_rfl
theorem block_guard (op : BinOp) (x y : Operand) (xs ys : Array Value) (w : World) : (eqGuard op 69 x y (.agg xs) (.agg ys)).run Tryd.prog w = .ok () w := run_eqGuard_agg w op 69 x y xs ys block_guardB
attribute [local irreducible] wpSQ
set_option maxRecDepth 100000 in
set_option maxHeartbeats 1000000 in
theorem sameblk_c (l : List (List Nat)) (hl : ∀ b ∈ l, b.length = 108) (hn : l.length ≤ 8) (a1 a2 : Option Addr) (c1 c2 : Nat) (w : World) (h1 : BlksAt w a1 l) (h2 : BlksAt w a2 l) :
    Calls Tryd.prog 35 #[.slice a1 l.length c1, .slice a2 l.length c2] w fun e w' => e = .returned (.bool true) ∧ Ext w w' := by
  have H1 := hid h1
  have H2 := hid h2
  have HL := hid hl
  have hn8 : (l.length : Int) ≤ 8 := by omega
  have hne : ((l.length : Int) != (l.length : Int)) = false := by simp
  clear h1 h2 hl
  go_enter Tryd.func35, Tryd.ntmps35
  go_wp2
  clear hne
  go_loopw [5] (fun t wr => ∃ j : Nat, t = .int .i64 j ∧ j ≤ l.length ∧ Ext w wr) (fun t _ => l.length - (intOf t).toNat)
  case atStart => exact ⟨0, rfl, by omega, Ext.refl _⟩
  case round =>
    obtain ⟨j, rfl, hj, hx⟩ := hrel
    by_cases hlt : j < l.length
    · have j0 : (0 : Int) ≤ (j : Int) := by omega
      have j1 : (j : Int) < (l.length : Int) := by omega
      obtain ⟨b, hb⟩ : ∃ b, l[j]? = some b := ⟨l[j], List.getElem?_eq_getElem hlt⟩
      have hbl := HL.out b (List.mem_of_getElem? hb)
      obtain ⟨g1, rfl, k1⟩ := H1.out j b hb
      obtain ⟨g2, rfl, k2⟩ := H2.out j b hb
      have xd : Ext wr wr.drew := (Ext.refl wr).drew
      have cells : ∀ (g : Nat), (∀ q, q < 108 → w.cell? ⟨g, j * 108 + q, none⟩ = some (.int .u8 (nth b q))) → ∀ x : SW Ext wr.drew, ∀ q v, (bA b).toList[q]? = some v → x.w.cell? ((⟨g, j * 108, none⟩ : Addr).add q) = some v := fun g hk x q v hv => by
        have hq : q < 108 := by
          rcases Nat.lt_or_ge q 108 with h | h
          · exact h
          · rw [List.getElem?_eq_none (by rw [Array.length_toList, bA_size, hbl]; exact h)] at hv; cases hv
        have e : (⟨g, j * 108, none⟩ : Addr).add q = ⟨g, j * 108 + q, none⟩ := by unfold Addr.add; split <;> simp_all
        have h := bA_get b q (by rw [hbl]; exact hq)
        rw [Array.getElem?_toList, h] at hv
        rw [e, ← hv]
        exact Ext.cell (Ext.trans hx (Ext.trans xd x.ext)) (hk q hq)
      have L1 := hid (cells g1 k1)
      have L2 := hid (cells g2 k2)
      have HSZ := hid (show (bA b).size = 108 by rw [bA_size]; exact hbl)
      have HNE := hid (block_neq b hbl)
      have HX := hid hx
      clear cells k1 k2 hb hbl hx
      go_wp2_with fail
      refine wp_region_rely_all (S := Ext) (.fin [0, 1, 2, 3, 4, 5, 6, 7, 8]) (by kernel_rfl) (by kernel_rfl) (fun _ _ d _ _ h => by cases d <;> exact h) ?_
      rw [wpS]
      simp only [opsAt, List.map_cons, List.map_nil, Array.getD_eq_getD_getElem?, List.getElem?_toArray, List.getElem?_cons_succ, List.getElem?_cons_zero, Option.getD_some]
      iterate 3 ((refine wpSQ_step (fun K hK => ?_); go_simp; first | (refine hK _ ?_; clear hK K) | (apply Exists.intro; refine ⟨fun x => ?_, hK _ ?_⟩; (fail); clear hK K)))
      refine wpSQ_load_agg 69 _ rfl ⟨g1, j * 108, none⟩ rfl (bA b) rfl (by rw [HSZ.out]; exact aggBlock) L1.out ?_
      iterate 3 ((refine wpSQ_step (fun K hK => ?_); go_simp; first | (refine hK _ ?_; clear hK K) | (apply Exists.intro; refine ⟨fun x => ?_, hK _ ?_⟩; (fail); clear hK K)))
      refine wpSQ_load_agg 69 _ rfl ⟨g2, j * 108, none⟩ rfl (bA b) rfl (by rw [HSZ.out]; exact aggBlock) L2.out ?_
      refine wpSQ_eql .neq 69 _ _ _ rfl (bA b) (bA b) rfl rfl (.bool false) rfl (fun w => block_guard _ _ _ _ _ w) HNE.out ?_
      refine wpSQ_nil ?_
      intro W hW
      have HXW := hid (Ext.trans HX.out (Ext.trans xd hW))
      clear hW L1 L2
      go_wp2
      go_roundw
      case rel => exact ⟨j + 1, by go_num, by omega, HXW.out⟩
      case measure => simp [intOf]; omega
    · obtain rfl : l.length = j := by omega
      have HX := hid hx
      clear hx
      go_wp2
      go_ret
      exact ⟨rfl, HX.out⟩
set_option maxRecDepth 100000 in
set_option maxHeartbeats 1000000 in
theorem record_c (x : Rcd) (hx : x.Ok) (hl : x.blocks.length ≤ 8) (a1 a2 : Option Addr) (c1 c2 : Nat) (w : World) (h1 : BlksAt w a1 x.blocks) (h2 : BlksAt w a2 x.blocks) :
    Calls Tryd.prog 16 #[.agg (x.V a1 c1), .agg (x.V a2 c2)] w fun e w' => e = .returned (.bool true) ∧ Ext w w' := by
  obtain ⟨W0, hW0⟩ : ∃ W, w.alloc (.cells (x.V a1 c1) 32) = W := ⟨_, rfl⟩
  have x0 : Ext w W0 := hW0 ▸ (Ext.refl w).alloc _
  have hr0 : W0.heap[w.heap.size]? = some (.cells (x.V a1 c1) 32 (0, 0)) := hW0 ▸ heap_alloc_new _ _
  have hsz0 : W0.heap.size = w.heap.size + 1 := by rw [← hW0]; simp
  obtain ⟨W1, hW1⟩ : ∃ W, W0.alloc (.cells (x.V a2 c2) 32) = W := ⟨_, rfl⟩
  have x1 : Ext W0 W1 := hW1 ▸ (Ext.refl W0).alloc _
  have hr1 : W1.heap[w.heap.size + 1]? = some (.cells (x.V a2 c2) 32 (0, 0)) := by rw [← hsz0]; exact hW1 ▸ heap_alloc_new _ _
  have HX1 := hid (Ext.trans x0 x1)
  have hr0' := x1.at hr0
  have a0 : W1.cell? ⟨w.heap.size, 0, none⟩ = some (.int .i64 x.seq) := (cell_at hr0').trans rfl
  have a1' : W1.cell? ⟨w.heap.size, 1, none⟩ = some (.int .i64 x.stripe) := (cell_at hr0').trans rfl
  have a2' : W1.cell? ⟨w.heap.size, 2, none⟩ = some (.slice a1 x.blocks.length c1) := (cell_at hr0').trans rfl
  have b0 : W1.cell? ⟨w.heap.size + 1, 0, none⟩ = some (.int .i64 x.seq) := (cell_at hr1).trans rfl
  have b1 : W1.cell? ⟨w.heap.size + 1, 1, none⟩ = some (.int .i64 x.stripe) := (cell_at hr1).trans rfl
  have b2 : W1.cell? ⟨w.heap.size + 1, 2, none⟩ = some (.slice a2 x.blocks.length c2) := (cell_at hr1).trans rfl
  have HS := hid (sameblk_c x.blocks hx.len hl a1 a2 c1 c2 W1 (h1.ext HX1.out) (h2.ext HX1.out))
  have e1 : (x.seq == x.seq) = true := by simp
  have e2 : (x.stripe == x.stripe) = true := by simp
  clear x0 x1 hr0 hr0' hr1 h1 h2 hx
  go_enter Tryd.func16, Tryd.ntmps16
  go_wp2_with fail
  refine HS.out.mono ?_
  rintro e w2 ⟨rfl, x2⟩
  have HX2 := hid (Ext.trans HX1.out x2)
  clear x2
  go_wp2
  go_ret
  exact ⟨rfl, HX2.out⟩
end Go.Proofs.YtmjembnciffgfaaDoor

/- A law of chapter 10 under way: a rack, a configuration, records that were made or read; what may be touched. -/
namespace Go.Proofs.YtmjembnciffgfaaDoor
set_option linter.unusedVariables false
open Go Go.RowKit
def CBlkAt (w : World) (g : Nat) (c : Cfg) : Prop := w.heap[g]? = some (.cells (Cfg.A c) 23 (0, 0))
/-- A record in a block: where, which, where its blocks are. -/
structure RecP where
  g : Nat
  x : Rcd
  a : Option Addr
  cp : Nat
structure RecOk (S : Nat → Prop) (w : World) (p : RecP) : Prop where
  blk : w.heap[p.g]? = some (.cells (p.x.V p.a p.cp) 32 (0, 0))
  at_ : S p.g
  bks : BlksAt w p.a p.x.blocks
  own : p.x.blocks ≠ [] → ∀ g, p.a = some ⟨g, 0, none⟩ → S g
theorem RecOk.keep {S : Nat → Prop} {w w' : World} {p : RecP} (h : RecOk S w p) (k : Keeps S w w') : RecOk S w' p := by
  refine ⟨k.at h.blk fun q => q h.at_, h.at_, ?_, h.own⟩
  by_cases e : p.x.blocks = []
  · rw [e]; intro i b hb; simp at hb
  · exact h.bks.only k fun g hg q => q (h.own e g hg)
theorem RecOk.ext {S : Nat → Prop} {w w' : World} {p : RecP} (h : RecOk S w p) (e : Ext w w') : RecOk S w' p := ⟨e.at h.blk, h.at_, h.bks.ext e, h.own⟩
theorem RecOk.sub {S T : Nat → Prop} {w : World} {p : RecP} (h : RecOk S w p) (hT : ∀ b, S b → T b) : RecOk T w p := ⟨h.blk, hT _ h.at_, h.bks, fun q g hg => hT _ (h.own q g hg)⟩
structure JE (w0 w : World) (S : Nat → Prop) (r : Nat) (R : Rck) (gc : Nat) (c : Cfg) (L : List RecP) : Prop where
  rack : RackAt S w r R
  ext : Ext w0 w
  low : ∀ b, b < w0.heap.size → S b
  cfg : CBlkAt w gc c
  cfgS : S gc
  recs : ∀ p ∈ L, RecOk S w p
def wideS (S : Nat → Prop) (w w' : World) (b : Nat) : Prop := S b ∨ (w.heap.size ≤ b ∧ b < w'.heap.size)
namespace JE
variable {w0 w w' : World} {S : Nat → Prop} {r : Nat} {R R' : Rck} {gc : Nat} {c : Cfg} {L : List RecP}
theorem keep (h : JE w0 w S r R gc c L) (hr : RackAt S w' r R') (k : Keeps S w w') : JE w0 w' S r R' gc c L :=
  ⟨hr, Keeps.ext h.ext k h.low, h.low, k.at h.cfg fun q => q h.cfgS, h.cfgS, fun p hp => (h.recs p hp).keep k⟩
theorem more (h : JE w0 w S r R gc c L) (e : Ext w w') : JE w0 w' S r R gc c L :=
  ⟨h.rack.ext e, Ext.trans h.ext e, h.low, e.at h.cfg, h.cfgS, fun p hp => (h.recs p hp).ext e⟩
theorem wide (h : JE w0 w S r R gc c L) (e : Ext w w') : JE w0 w' (wideS S w w') r R gc c L :=
  ⟨h.rack.more e fun b hb => by
    rcases hb with hb | hb
    · exact ⟨Nat.lt_of_lt_of_le (h.rack.there b hb) e.size, .inl hb⟩
    · exact ⟨hb.2, .inr hb.1⟩, Ext.trans h.ext e, fun b hb => .inl (h.low b hb), e.at h.cfg, .inl h.cfgS, fun p hp => ((h.recs p hp).ext e).sub fun b hb => .inl hb⟩
/-- A record laid down in a block of its own. -/
theorem put (h : JE w0 w S r R gc c L) (e : Ext w w') (x : Rcd) (a : Option Addr) (cp : Nat) (hb : BlksAt w' a x.blocks) (ha : ∀ p, a = some p → w.heap.size ≤ p.block) :
    JE w0 (w'.alloc (.cells (x.V a cp) 32)) (wideS S w (w'.alloc (.cells (x.V a cp) 32))) r R gc c (⟨w'.heap.size, x, a, cp⟩ :: L) := by
  have e2 : Ext w (w'.alloc (.cells (x.V a cp) 32)) := e.alloc _
  have hw := h.wide e2
  have hs : (w'.alloc (.cells (x.V a cp) 32)).heap.size = w'.heap.size + 1 := by simp
  refine ⟨hw.rack, hw.ext, hw.low, hw.cfg, hw.cfgS, fun p hp => ?_⟩
  rcases List.mem_cons.1 hp with rfl | hp
  · refine ⟨heap_alloc_new _ _, .inr ⟨e.size, by rw [hs]; exact Nat.lt_succ_self _⟩, hb.ext ((Ext.refl w').alloc _), fun hne g hg => .inr ⟨ha _ hg, ?_⟩⟩
    rcases hl : x.blocks with _ | ⟨b, l⟩
    · exact absurd hl hne
    · obtain ⟨g', hg', hc⟩ := hb 0 b (by rw [hl]; rfl)
      have e1 : g' = g := by
        have hg2 : a = some ⟨g, 0, none⟩ := hg
        rw [hg'] at hg2
        cases hg2; rfl
      subst e1
      have := World.block_lt_of_cell? w' _ (hc 0 (by omega))
      rw [hs]; exact Nat.lt_succ_of_lt this
  · exact hw.recs p hp
theorem below (h : JE w0 w S r R gc c L) : Ext w0 w := h.ext
end JE
theorem built_recB (seq : Int) (a : Option Addr) (n cp : Nat) : Tryd.prog.built 32 [(0, .int .i64 seq), (2, .slice a n cp)] = some #[.int .i64 seq, .int .i64 0, .slice a n cp] := by kernel_rfl
theorem built_recC (seq st : Int) (a : Option Addr) (n cp : Nat) : Tryd.prog.built 32 [(0, .int .i64 seq), (1, .int .i64 st), (2, .slice a n cp)] = some #[.int .i64 seq, .int .i64 st, .slice a n cp] := by kernel_rfl
theorem recOf_V (c : Cfg) (seq st n : Int) (a : Option Addr) (cp : Nat) : (recOf c seq st n).V a cp = #[.int .i64 seq, .int .i64 st, .slice a (blocksOf c.k.toNat n).length cp] := rfl
theorem built_recOfB (c : Cfg) (seq n : Int) (a : Option Addr) (cp : Nat) : Tryd.prog.built 32 [(0, .int .i64 seq), (2, .slice a (blocksOf c.k.toNat n).length cp)] = some ((recOf c seq 0 n).V a cp) := built_recB _ _ _ _
theorem built_recOfC (c : Cfg) (seq st n : Int) (a : Option Addr) (cp : Nat) : Tryd.prog.built 32 [(0, .int .i64 seq), (1, .int .i64 st), (2, .slice a (blocksOf c.k.toNat n).length cp)] = some ((recOf c seq st n).V a cp) := built_recC _ _ _ _ _
/-- Two losses compared that are the same. -/
theorem loss_stood : Tryd.prog.stoodInHeld 40 = false := by kernel_rfl
theorem loss_list : (Tryd.prog.fieldsOf 40).toList = [fld "Group" 3 0 0, fld "Have" 3 1 8, fld "Need" 3 2 16] := by unfold Program.fieldsOf; rw [Tryd.underlying40]; rfl
theorem loss_fields : Tryd.prog.underlying 40 = some (.struct (Tryd.prog.fieldsOf 40)) := by unfold Program.fieldsOf; rw [Tryd.underlying40]
theorem loss_eqIn (d : Nat) (l : Int × Int × Int) (w : World) : (Op.equalIn (d + 2) 40 (.agg (lcells l)) (.agg (lcells l))).run Tryd.prog w = .ok true w := by
  rw [run_equalIn_struct w (d + 1) 40 (lcells l) (lcells l) loss_fields loss_stood]
  rw [loss_list]
  have q0 := run_part_plain (P := Tryd.prog) w plainI (show (lcells l)[0]? = some (.int .i64 l.1) from rfl)
  have q1 := run_part_plain (P := Tryd.prog) w plainI (show (lcells l)[1]? = some (.int .i64 l.2.1) from rfl)
  have q2 := run_part_plain (P := Tryd.prog) w plainI (show (lcells l)[2]? = some (.int .i64 l.2.2) from rfl)
  have e : ∀ a : Int, (Op.equalIn (d + 1) 3 (.int .i64 a) (.int .i64 a)).run Tryd.prog w = .ok true w := fun a => by
    rw [run_equalIn_int (P := Tryd.prog) w d 3 .i64 .i64 a a Tryd.underlying3]; simp
  refine (eqFields_step (by decide) q0 q0 (e _)).trans ?_
  rw [if_pos rfl]
  refine (eqFields_step (by decide) q1 q1 (e _)).trans ?_
  rw [if_pos rfl]
  refine (eqFields_step (by decide) q2 q2 (e _)).trans ?_
  rfl
theorem loss_eqAt (D : Nat) (hD : ∃ d, D = d + 2) (l : Int × Int × Int) (w : World) : (Op.equalIn D 40 (.agg (lcells l)) (.agg (lcells l))).run Tryd.prog w = .ok true w := by
  obtain ⟨d, rfl⟩ := hD
  exact loss_eqIn d l w
theorem loss_eql (l : Int × Int × Int) (w : World) : (binOp .eql 40 (.agg (lcells l)) (.agg (lcells l))).run Tryd.prog w = .ok (.bool true) w := by
  rw [run_eql_struct]
  rw [loss_eqAt 10000 ⟨9998, by omega⟩ l w]; rfl
theorem loss_neq (l : Int × Int × Int) (w : World) : (binOp .neq 40 (.agg (lcells l)) (.agg (lcells l))).run Tryd.prog w = .ok (.bool false) w := by
  rw [run_neq_struct]
  rw [loss_eqAt 10000 ⟨9998, by omega⟩ l w]; rfl
theorem loss_guardB : Tryd.prog.eqGuardType Tryd.prog.depth 40 = false := by kernel_rfl
theorem loss_guard (op : BinOp) (x y : Operand) (xs ys : Array Value) (w : World) : (eqGuard op 40 x y (.agg xs) (.agg ys)).run Tryd.prog w = .ok () w := run_eqGuard_agg w op 40 x y xs ys loss_guardB
theorem built_lossL (slot : Int) : Tryd.prog.built 40 [(0, .int .i64 slot), (2, .int .i64 1)] = some (lcells (slot, 0, 1)) := by kernel_rfl
end Go.Proofs.YtmjembnciffgfaaDoor
