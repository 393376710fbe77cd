/- Texts of one proof, joined: TapeRot. -/
import Derived.Test.YtbdfjiedceaoiaaGreatDoorTBC
set_option linter.unusedVariables false
set_option linter.unusedSimpArgs false
namespace Go.Proofs.YtbdfjiedceaoiaaGreatDoor
set_option linter.unusedVariables false
open Go.Proofs.YtbdfjiedceaoiaaGreatDoor.GT (cnt Played Opened Shut)
theorem newG_from {g : Nat → Option Frm} {q : Nat} {G : Int} (hG : 1 ≤ G) (h0 : ∀ d, d < q → g d = none) (h1 : ∀ d, q ≤ d → ∃ f, g d = some f ∧ f.gen = G) : ∀ n, newG g n = if q < n then G else 0
 | 0 => by simp [newG]
 | n + 1 => by
  have ih := newG_from hG h0 h1 n
  by_cases hq : n < q
  ·
   have e : newG g (n + 1) = newG g n := by
    show (match g n with | some f => max (newG g n) f.gen | none => newG g n) = _
    rw [h0 n hq]
   rw [e, ih, if_neg (by omega), if_neg (by omega)]
  ·
   obtain ⟨f, e1, e2⟩ := h1 n (by omega)
   have e : newG g (n + 1) = max (newG g n) f.gen := by
    show (match g n with | some f => max (newG g n) f.gen | none => newG g n) = _
    rw [e1]
   have h5 : q < n + 1 := by omega
   rw [e, ih, e2, if_pos h5]
   split <;> omega
theorem parts_from {g : Nat → Option Frm} {q : Nat} {G : Int} (hG : 1 ≤ G) (h0 : ∀ d, d < q → g d = none) (h1 : ∀ d, q ≤ d → ∃ f, g d = some f ∧ f.gen = G) : ∀ n, (partsG g G n).length = n - q
 | 0 => by simp [partsG]
 | n + 1 => by
  have ih := parts_from hG h0 h1 n
  rw [Zbj, List.length_append, ih]
  by_cases hq : n < q
  ·
   have e : partAt g G n = none := by unfold partAt; rw [h0 n hq]; rfl
   rw [e]; simp; omega
  ·
   obtain ⟨f, e1, e2⟩ := h1 n (by omega)
   have e : partAt g G n = some (n, f.data) := by
    unfold partAt; rw [e1]
    show (if f.gen = G ∧ f.gen ≠ 0 then some (n, f.data) else none) = _
    rw [if_pos ⟨e2, by omega⟩]
   rw [e]; simp; omega
theorem parts_none {g : Nat → Option Frm} {G : Int} : ∀ n, (∀ d, d < n → g d = none) → partsG g G n = []
 | 0, _ => by simp [partsG]
 | n + 1, h => by
  rw [Zbj, parts_none n fun d hd => h d (by omega)]
  have e : partAt g G n = none := by unfold partAt; rw [h n (by omega)]; rfl
  rw [e]; rfl
section
variable {R : Rck} {c : Cfg} {m : Nat} {U sp : Nat → Bool} {jr : JR} {st : ST} {cur : Int} {j : Nat → Option Rcd} {f : Strs} {L : List (List (List Nat))} {x q : Nat}
theorem GT.lose (h : GT R c m (fun _ => true) sp jr st) {G : Int} {l : List (List Nat)} (hx : x < c.stripes.toNat) (hG : 1 ≤ G) (hq : q ≤ c.n.toNat) (hk : c.n.toNat < q + c.k.toNat) (hst : ∀ d, d < c.n.toNat → st d x = if d < q then none else some (G, l)) :
  R.sget c (x : Int) = ([], 0, some (.fault sSGet x (.loss x ((c.n.toNat - q : Nat) : Int) c.k))) := by
 have hc := h.good
 have hk0 := hc.k0; have hk1 := hc.k1
 have hon : c.k ≤ (R.online.length : Int) := by
  have h1 := h.online
  rw [h1, List.filter_eq_self.2 fun _ _ => rfl, List.length_range]; omega
 obtain ⟨g, hg0⟩ : ∃ g : Nat → Option Frm, g = fun d => if d < q then none else some (sfrm x G d (sfrag c l d)) := ⟨_, rfl⟩
 have hg : ∀ d : Nat, d < c.n.toNat → (R.dsk (d : Nat)).sg c x d = g d := fun d hd => by
  rw [h.sg hd hx, hg0]
  unfold sgf
  rw [hst d hd]
  show Option.map _ (if d < q then none else some (G, l)) = if d < q then none else _
  split <;> rfl
 have g0 : ∀ d, d < q → g d = none := fun d hd => by rw [hg0]; show (if d < q then none else _) = none; rw [if_pos hd]
 have g1 : ∀ d, q ≤ d → ∃ f, g d = some f ∧ f.gen = G := fun d hd => ⟨sfrm x G d (sfrag c l d), by rw [hg0]; show (if d < q then none else _) = _; rw [if_neg (by omega)], rfl⟩
 have hp : (partsG g (newG g c.n.toNat) c.n.toNat).length = c.n.toNat - q := by
  rw [newG_from hG g0 g1]
  by_cases e : q < c.n.toNat
  ·
   rw [if_pos e, parts_from hG g0 g1]
  ·
   rw [if_neg e, parts_none _ fun d hd => g0 d (by omega)]; simp; omega
 have h2 := Super.sget_lost (h.super) hx hg (by rw [hp]; omega) hon
 rw [hp] at h2
 exact h2
theorem GT.rot1 (h : GT R c m (fun _ => true) (fun _ => true) jr st) (hm : (m : Int) = c.sectors) {d : Nat} (hd : d < c.n.toNat) (hx : x < c.stripes.toNat) {y : Int × List (List Nat)} (hy : st d x = some y) :
  R.rotOk (d : Int) (ssecN c x : Nat) 5 1 = true ∧ GT (R.rot (d : Int) (ssecN c x : Nat) 5 1) c m (fun _ => true) (fun _ => true) jr (fun e t => if e = d ∧ t = x then none else st e t) := by
 have hc := h.good
 have hD := h.dsk d hd
 have hlt := Za7 hc h.fit hx
 have hs := h.sfit d x y hd hx hy
 have hfr := hD.st1 x y hx hy
 have hnr : (R.dsk (d : Nat)).rot (ssecN c x) = false := by
  rcases e : (R.dsk (d : Nat)).rot (ssecN c x) with _ | _
  ·
   rfl
  ·
   have := hD.rot _ e
   rw [hfr, hs.get hc hd] at this; cases this
 have hok : R.rotOk (d : Int) (ssecN c x : Nat) 5 1 = true := by
  unfold Rck.rotOk Dsk.rotOk
  rw [h.live.has hd, hD.dead, hD.len, Int.toNat_natCast, hnr]
  simp
  omega
 refine ⟨hok, ?_⟩
 have er : R.rot (d : Int) (ssecN c x : Nat) 5 1 = R.setD (d : Nat) ((R.dsk (d : Nat)).rotted (ssecN c x) 5 1) := by
  unfold Rck.rot
  rw [if_pos hok]; rfl
 rw [er]
 obtain ⟨l1, l2⟩ := h.live.setD (i := d) ((R.dsk (d : Nat)).rotted (ssecN c x) 5 1) (by rw [Dsk.rotted_len]; exact hD.len) hd
 have hrd : ∀ q, ((R.dsk (d : Nat)).rotted (ssecN c x) 5 1).read q = if q = ssecN c x then Dsk.xor4 ((R.dsk (d : Nat)).read (ssecN c x)) 5 1 else (R.dsk (d : Nat)).read q := fun q => Dsk.rotted_read _ _ 5 1 q (by rw [hD.len]; exact hlt) (hD.waits _)
 have bad : Frm.get (Dsk.xor4 ((R.dsk (d : Nat)).read (ssecN c x)) 5 1) = none := by
  rw [hfr]
  exact Frm.get_rot _ (hs.ok hc d) (hs.right hc hd) 5 1 (by omega) (by omega) (by omega)
 refine ⟨l1, hc, h.fit, fun e he => ?_, h.jfit, fun e t z he ht q => ?_⟩
 ·
  rw [l2 e]
  by_cases q : e = d
  ·
   subst q
   rw [if_pos rfl]
   refine ⟨by rw [Dsk.rotted_len]; exact hD.len, hD.dead, hD.waits, fun q hq => ?_, fun q hq => ?_, fun _ => ?_, fun z => (by cases z), fun s i z hs' hi q => ?_, fun s i hs' hi q => ?_, fun t z ht q => ?_, fun t ht q => ?_, fun z => (by cases z)⟩
   ·
    rw [hrd]
    by_cases z : q = ssecN c x
    ·
     rw [if_pos z]; exact bad
    ·
     rw [if_neg z]
     have hq : (if q = ssecN c x then true else (R.dsk (e : Nat)).rot q) = true := hq
     rw [if_neg z] at hq
     exact hD.rot q hq
   ·
    show (if q = ssecN c x then true else (R.dsk (e : Nat)).rot q) = false
    rw [if_neg (by omega)]; exact hD.rotm q hq
   ·
    rw [hrd, if_neg (fun z => ssec_pos c x z.symm)]; exact hD.sup1 rfl
   ·
    rw [hrd, if_neg (Zbu hs' hi)]; exact hD.jr1 s i z hs' hi q
   ·
    rw [hrd, if_neg (Zbu hs' hi)]; exact hD.jr0 s i hs' hi q
   ·
    have q : (if e = e ∧ t = x then none else st e t) = some z := q
    by_cases w : t = x
    ·
     rw [if_pos ⟨rfl, w⟩] at q; cases q
    ·
     rw [if_neg (fun v => w v.2)] at q
     rw [hrd, if_neg (fun v => w (Zci v))]; exact hD.st1 t z ht q
   ·
    have q : (if e = e ∧ t = x then none else st e t) = none := q
    by_cases w : t = x
    ·
     rw [hrd, if_pos (by rw [w])]; exact bad
    ·
     rw [if_neg (fun v => w v.2)] at q
     rw [hrd, if_neg (fun v => w (Zci v))]; exact hD.st0 t ht q
  ·
   rw [if_neg q]
   have hE := h.dsk e he
   exact ⟨hE.len, hE.dead, hE.waits, hE.rot, hE.rotm, hE.sup1, hE.sup0, hE.jr1, hE.jr0, fun t z ht w => hE.st1 t z ht (by
    have w : (if e = d ∧ t = x then none else st e t) = some z := w
    rw [if_neg (fun v => q v.1)] at w; exact w), fun t ht w => hE.st0 t ht (by
    have w : (if e = d ∧ t = x then none else st e t) = none := w
    rw [if_neg (fun v => q v.1)] at w; exact w), fun z => (by cases z)⟩
 ·
  have q : (if e = d ∧ t = x then none else st e t) = some z := q
  split at q
  ·
   cases q
  ·
   exact h.sfit e t z he ht q
def RotT (f : Strs) (x q : Nat) : ST := fun d t => if d < q ∧ t = x then none else f t
theorem GT.rotn (h : GT R c m (fun _ => true) (fun _ => true) jr (RotT f x q)) (hm : (m : Int) = c.sectors) (hq : q < c.n.toNat) (hx : x < c.stripes.toNat) {y : Int × List (List Nat)} (hy : f x = some y) :
  R.rotOk (q : Int) (ssecN c x : Nat) 5 1 = true ∧ GT (R.rot (q : Int) (ssecN c x : Nat) 5 1) c m (fun _ => true) (fun _ => true) jr (RotT f x (q + 1)) := by
 obtain ⟨a1, a2⟩ := h.rot1 hm hq hx (y := y) (by unfold RotT; rw [if_neg (by omega)]; exact hy)
 refine ⟨a1, ?_⟩
 have e : (fun e t => if e = q ∧ t = x then none else RotT f x q e t) = RotT f x (q + 1) := by
  funext e t
  unfold RotT
  by_cases z : t = x
  ·
   by_cases w : e = q
   ·
    rw [if_pos ⟨w, z⟩, if_pos ⟨by omega, z⟩]
   ·
    rw [if_neg (fun v => w v.1)]
    by_cases u : e < q
    ·
     rw [if_pos ⟨u, z⟩, if_pos ⟨by omega, z⟩]
    ·
     rw [if_neg (fun v => u v.1), if_neg (fun v => by omega)]
  ·
   rw [if_neg (fun v => z v.2), if_neg (fun v => z v.2), if_neg (fun v => z v.2)]
 rw [e] at a2; exact a2
theorem GT.rot_read (h : GT R c m (fun _ => true) sp jr (RotT f x q)) (k4 : c.k ≤ 4) (n6 : c.n ≤ 6) {t : Nat} (ht : t < c.stripes.toNat) (hne : t ≠ x) {y : Int × List (List Nat)} (hy : f t = some y) : R.sget c (t : Int) = (y.2, y.1, none) := by
 have e : ∀ d, RotT f x q d t = some y := fun d => by unfold RotT; rw [if_neg (fun v => hne v.2)]; exact hy
 refine h.sget_ok k4 n6 ht (fun d z hd w => by rw [e d] at w; cases w; exact ⟨Int.le_refl _, fun _ => rfl⟩) ?_
 rw [List.filter_eq_self.2 fun d _ => decide_eq_true (e d), List.length_range]
 have := h.good.k1; have := h.good.k0; omega
theorem GT.rot_lost (h : GT R c m (fun _ => true) sp jr (RotT f x q)) (hx : x < c.stripes.toNat) (hq : q ≤ c.n.toNat) (hk : c.n.toNat < q + c.k.toNat) {y : Int × List (List Nat)} (hy : f x = some y) (hG : 1 ≤ y.1) :
  R.sget c (x : Int) = ([], 0, some (.fault sSGet x (.loss x ((c.n.toNat - q : Nat) : Int) c.k))) :=
 h.lose hx hG hq hk fun d hd => by
  unfold RotT
  by_cases z : d < q
  ·
   rw [if_pos ⟨z, rfl⟩, if_pos z]
  ·
   rw [if_neg (fun v => z v.1), if_neg z, hy]
theorem GT.rot_open (h : GT R c m (fun _ => true) (fun _ => true) (fun _ s _ => j s) (RotT f x q)) (hv : VI c cur j f) (k4 : c.k ≤ 4) (n6 : c.n ≤ 6) (hx : x < c.stripes.toNat) (hq : q ≤ c.n.toNat) (hk : c.n.toNat < q + c.k.toNat) {y : Int × List (List Nat)} (hy : f x = some y) (hnj : ∀ s r, s < c.slots.toNat → j s = some r → 2 ≤ r.seq → r.stripe ≠ (x : Int)) :
  ∃ e R', R.vopen = (some e, R', Cfg.zero, 0) ∧ e.kind = 6 ∧ e.lost = true := by
 have hk0 := h.good.k0; have hk1 := h.good.k1
 have kp := h.k0
 have hG : 1 ≤ y.1 := (hv.vv.sfit hy hx).g0
 have huj : UniJ c (fun _ s _ => j s) := fun s a b hs ha hb _ => by
  obtain ⟨_, _, _, _, e1⟩ := ha
  obtain ⟨_, _, _, _, e2⟩ := hb
  have e1 : j s = some a := e1
  have e2 : j s = some b := e2
  rw [e1] at e2; cases e2; rfl
 have hus : UniS c (RotT f x q) := fun s d e a b hs hd he e1 e2 _ => by
  unfold RotT at e1 e2
  split at e1
  ·
   cases e1
  ·
   split at e2
   ·
    cases e2
   ·
    rw [e1] at e2; cases e2; rfl
 have hcn : cnt (fun _ : Nat => true) c.n.toNat = c.n.toNat := by
  unfold GT.cnt
  rw [List.filter_eq_self.2 fun _ _ => rfl, List.length_range]
 have hfi := h.find
 rw [hcn, if_pos (by omega)] at hfi
 have hol := h.online
 rw [List.filter_eq_self.2 fun _ _ => rfl] at hol
 have eo : R.vopen = match (R.vrecover c 1).1 with
   | some e => (some (.fault sVOpen 0 e), (R.vrecover c 1).2.1, Cfg.zero, 0)
   | none => (none, (R.vrecover c 1).2.1, c, (R.vrecover c 1).2.2) := by
  unfold Rck.vopen
  rw [h.live.off, if_neg (by simp), hfi]
  simp only
  rw [hol, List.length_range, if_neg (by omega)]
  rcases (R.vrecover c 1).1 with _ | e <;> rfl
 rcases h.recs huj c.slots.toNat (Nat.le_refl _) with ⟨e, h1, h2, _⟩ | ⟨jr', ch, hr⟩
 ·
  refine ⟨.fault sVOpen 0 e, (R.vrecs c 1 c.slots.toNat).R, ?_, Err.kind_lost h2, h2⟩
  rw [eo]
  unfold Rck.vrecover
  rw [h1]
 ·
  have hch : ∀ s, s < c.slots.toNat → 2 ≤ (ch s).seq → j s = some (ch s) := fun s hs h2 => by
   rcases (hr.slot s hs).inS kp with e | ⟨d, i, hd, hi, e⟩
   ·
    rw [e] at h2; exact absurd h2 (by show ¬ (2 : Int) ≤ 0; omega)
   ·
    exact e
  have hfit : ∀ z ∈ sortR (R.vrecs c 1 c.slots.toNat).out, 2 ≤ z.seq ∧ ∃ s, z.Fit c s ∧ (z.blocks.length : Int) = c.k := fun z hz => by
   obtain ⟨s, hs, e, h2⟩ := (hr.out z).1 ((GT.sort_mem _ _).1 hz)
   have := GT.Slotted.fit h hs (hr.slot s hs)
   rw [e] at this
   exact ⟨h2, s, this⟩
  obtain ⟨R2, st', e2, g2, p2⟩ := GT.plays _ hfit hr.gt ⟨0, h.n0, rfl⟩
  have hst : ∀ d, d < c.n.toNat → st' d x = RotT f x q d x := fun d hd => by
   rcases p2.at_ x hx with ⟨z, hz, hzs, _⟩ | ⟨_, e⟩
   ·
    obtain ⟨s, hs, e, h2⟩ := (hr.out z).1 ((GT.sort_mem _ _).1 hz)
    have := hch s hs (by rw [e]; exact h2)
    rw [e] at this
    exact absurd hzs (hnj s z hs this h2)
   ·
    exact e d hd
  have er : R.vrecover c 1 = ((R2.vask c (R.vrecs c 1 c.slots.toNat).seq c.stripes.toNat).1, R2, (R2.vask c (R.vrecs c 1 c.slots.toNat).seq c.stripes.toNat).2) := by
   unfold Rck.vrecover
   rw [hr.ok]
   simp only [e2]
  have hlo : R2.sget c (x : Int) = ([], 0, some (.fault sSGet x (.loss x ((c.n.toNat - q : Nat) : Int) c.k))) :=
   g2.lose hx hG hq hk fun d hd => by
    rw [hst d hd]
    unfold RotT
    by_cases z : d < q
    ·
     rw [if_pos ⟨z, rfl⟩, if_pos z]
    ·
     rw [if_neg (fun v => z v.1), if_neg z, hy]
  have hus2 : UniS c st' := GT.Played.uni p2 hus
  rcases g2.asks k4 n6 hus2 (R.vrecs c 1 c.slots.toNat).seq c.stripes.toNat (Nat.le_refl _) with ⟨a1, a2, a3, a4⟩ | ⟨e, s, a1, a2, a3, a4⟩
  ·
   obtain ⟨z, _, _, z3, _⟩ := a4 x hx
   rw [hlo] at z3
   have := congrArg (fun z => z.2.2) z3
   simp at this
  ·
   have h7 : e.kind = 6 ∧ e.lost = true := by
    rcases a2 with ⟨b1, b2⟩ | b
    ·
     exfalso
     have ol2 := g2.online
     rw [List.filter_eq_self.2 fun _ _ => rfl] at ol2
     unfold Rck.sget at a4
     rw [if_pos (g2.super.sknown a3), if_neg (by rw [g2.live.off, ol2, List.length_range]; simp; omega)] at a4
     split at a4
     ·
      cases a4
      exact absurd b1 (by show ¬ (6 : Int) = 7; omega)
     ·
      have := congrArg (fun z => z.2.2) a4
      simp at this
    ·
     exact b
   refine ⟨.fault sVOpen 0 e, R2, ?_, h7.1, h7.2⟩
   rw [eo, er, a1]
end
end Go.Proofs.YtbdfjiedceaoiaaGreatDoor
