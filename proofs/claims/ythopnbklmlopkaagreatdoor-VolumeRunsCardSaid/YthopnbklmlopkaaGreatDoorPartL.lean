/- Texts of one proof, joined: StripePure, StripeLive, StripeRack, StripeRecs, StripeLaws, PartsPure. -/
import Derived.Test.YthopnbklmlopkaaGreatDoorPartI
import Derived.Test.YthopnbklmlopkaaGreatDoorPartK
set_option linter.unusedVariables false
set_option linter.unusedSimpArgs false
/- Stripes as plain data. No program stands here. -/
namespace Go.Proofs.YthopnbklmlopkaaGreatDoor
set_option linter.unusedVariables false
def sSPut : ByteArray := ⟨#[115, 116, 114, 105, 112, 101, 46, 80, 117, 116]⟩
def sSGet : ByteArray := ⟨#[115, 116, 114, 105, 112, 101, 46, 71, 101, 116]⟩
/-- The frame of a stripe on a disk. -/
def sfrm (s gen : Int) (d : Nat) (b : List Nat) : Frm := ⟨3, d, s, gen, b⟩
/-- A disk's fragment of blocks. -/
def sfrag (c : Cfg) (l : List (List Nat)) (d : Nat) : List Nat := Cd.mix (Cd.row c.k.toNat d) l
/-- A frame more is looked at: the greatest generation so far, and its parts. -/
def lookStep (g : Nat → Option Frm) (q : Int × List (Nat × List Nat)) (d : Nat) : Int × List (Nat × List Nat) :=
  match g d with
  | none => q
  | some f => if f.gen = 0 ∨ f.gen < q.1 then q else if q.1 < f.gen then (f.gen, [(d, f.data)]) else (q.1, q.2 ++ [(d, f.data)])
def decoded (c : Cfg) (ps : List (Nat × List Nat)) : List (List Nat) := (Cd.solve ((ps.take c.k.toNat).map fun p => Cd.row c.k.toNat p.1) ((ps.take c.k.toNat).map fun p => p.2)).2
namespace Rck
def ssec (c : Cfg) (s : Int) : Int := 1 + c.slots * c.k + s
def sknown (R : Rck) (c : Cfg) (s : Int) : Bool := R.fits c && decide (0 ≤ s) && decide (s < c.stripes)
def srow (c : Cfg) (s gen : Int) (l : List (List Nat)) (R : Rck) (d : Nat) : Option Err × Rck := R.write d (ssec c s) (sfrm s gen d (sfrag c l d)).put
def sputs (R : Rck) (c : Cfg) (s gen : Int) (l : List (List Nat)) : Option Err × Rck :=
  match (each (srow c s gen l) R.online R).1 with
  | some e => (some e, (each (srow c s gen l) R.online R).2)
  | none => each (fun R d => R.flush (d : Nat)) (each (srow c s gen l) R.online R).2.online (each (srow c s gen l) R.online R).2
def sputOk (R : Rck) (c : Cfg) (s gen : Int) (l : List (List Nat)) : Bool := R.sknown c s && decide (1 ≤ gen) && decide (gen ≤ 1152921504606846976) && decide ((l.length : Int) = c.k)
def sput (R : Rck) (c : Cfg) (s gen : Int) (l : List (List Nat)) : Option Err × Rck :=
  if R.sputOk c s gen l = true then ((R.sputs c s gen l).1.map (.fault sSPut s), (R.sputs c s gen l).2) else (some (.fault sSPut s (.no 1)), R)
/-- The good frame that a disk has of a stripe. -/
def sgood (R : Rck) (c : Cfg) (s : Int) (d : Nat) : Option Frm := R.get d (ssec c s) 3 d s
def slook (R : Rck) (c : Cfg) (s : Int) : Int × List (Nat × List Nat) := if R.sknown c s = true then (List.range c.n.toNat).foldl (lookStep (R.sgood c s)) (0, []) else (0, [])
def sget (R : Rck) (c : Cfg) (s : Int) : List (List Nat) × Int × Option Err :=
  if R.sknown c s = true then
    if R.off = true ∨ (R.online.length : Int) < c.k then ([], 0, some (.fault sSGet s (.no 7)))
    else if ((R.slook c s).2.length : Int) < c.k then ([], 0, some (.fault sSGet s (.loss s (R.slook c s).2.length c.k)))
    else (decoded c (R.slook c s).2, (R.slook c s).1, none)
  else ([], 0, some (.fault sSGet s (.no 1)))
end Rck
/-- The greatest generation of so many frames. -/
def newG (g : Nat → Option Frm) : Nat → Int
  | 0 => 0
  | n + 1 => match g n with
    | some f => max (newG g n) f.gen
    | none => newG g n
def partAt (g : Nat → Option Frm) (G : Int) (d : Nat) : Option (Nat × List Nat) := (g d).bind fun f => if f.gen = G ∧ f.gen ≠ 0 then some (d, f.data) else none
def partsG (g : Nat → Option Frm) (G : Int) (n : Nat) : List (Nat × List Nat) := (List.range n).filterMap (partAt g G)
theorem partsG_succ (g : Nat → Option Frm) (G : Int) (n : Nat) : partsG g G (n + 1) = partsG g G n ++ (partAt g G n).toList := by
  unfold partsG
  rw [List.range_succ, List.filterMap_append]
  congr 1
theorem newG_nonneg (g : Nat → Option Frm) : ∀ n, 0 ≤ newG g n
  | 0 => Int.le_refl _
  | n + 1 => by
    have := newG_nonneg g n
    unfold newG
    split
    · omega
    · exact this
theorem newG_ge (g : Nat → Option Frm) : ∀ (n d : Nat) (f : Frm), d < n → g d = some f → f.gen ≤ newG g n
  | n + 1, d, f, hd, hf => by
    unfold newG
    by_cases e : d = n
    · subst e; rw [hf]; exact Int.le_max_right _ _
    · have := newG_ge g n d f (by omega) hf
      split
      · omega
      · exact this
theorem newG_eq {g : Nat → Option Frm} {G : Int} (hG : 0 ≤ G) : ∀ n, (∀ d f, d < n → g d = some f → f.gen ≤ G) → newG g n ≤ G
  | 0, _ => hG
  | n + 1, h => by
    have := newG_eq hG n fun d f hd => h d f (by omega)
    unfold newG
    split
    · rename_i f hf
      have := h n f (by omega) hf
      omega
    · exact this
theorem partsG_none {g : Nat → Option Frm} {G : Int} {n : Nat} (h : newG g n < G) : partsG g G n = [] := by
  unfold partsG
  rw [List.filterMap_eq_nil_iff]
  intro d hd
  have hd := List.mem_range.1 hd
  unfold partAt
  rcases hg : g d with _ | f
  · rfl
  · have := newG_ge g n d f hd hg
    simp only [Option.bind_some]
    rw [if_neg (by omega)]
theorem look_fold (g : Nat → Option Frm) (n : Nat) : (List.range n).foldl (lookStep g) (0, []) = (newG g n, partsG g (newG g n) n) := by
  induction n with
  | zero => rfl
  | succ n ih =>
    rw [List.range_succ, List.foldl_append, ih]
    show lookStep g (newG g n, partsG g (newG g n) n) n = _
    have h0 := newG_nonneg g n
    rw [partsG_succ]
    unfold lookStep
    rcases hg : g n with _ | f
    · have e1 : newG g (n + 1) = newG g n := by show (match g n with | some f => max (newG g n) f.gen | none => newG g n) = _; rw [hg]
      rw [e1]
      unfold partAt
      simp [hg]
    · have e1 : newG g (n + 1) = max (newG g n) f.gen := by show (match g n with | some f => max (newG g n) f.gen | none => newG g n) = _; rw [hg]
      have e2 : ∀ G, partAt g G n = if f.gen = G ∧ f.gen ≠ 0 then some (n, f.data) else none := fun G => by unfold partAt; rw [hg]; rfl
      rw [e1, e2]
      simp only
      by_cases h1 : f.gen = 0 ∨ f.gen < newG g n
      · rw [if_pos h1, show max (newG g n) f.gen = newG g n by omega, if_neg (by omega)]
        simp
      · rw [if_neg h1]
        by_cases h2 : newG g n < f.gen
        · rw [if_pos h2, show max (newG g n) f.gen = f.gen by omega, if_pos ⟨rfl, by omega⟩, partsG_none h2]
          rfl
        · rw [if_neg h2, show max (newG g n) f.gen = newG g n by omega, if_pos ⟨by omega, by omega⟩]
          rfl
end Go.Proofs.YthopnbklmlopkaaGreatDoor

/- Stripes on racks whose power is on. No program stands here. -/
namespace Go.Proofs.YthopnbklmlopkaaGreatDoor
set_option linter.unusedVariables false
/-- The sector of a stripe. -/
def ssecN (c : Cfg) (s : Nat) : Nat := 1 + c.slots.toNat * c.k.toNat + s
theorem ssec_eq {c : Cfg} (hc : c.Good) (s : Nat) : Rck.ssec c (s : Int) = (ssecN c s : Nat) := by
  unfold Rck.ssec ssecN
  have e : c.k = ((c.k.toNat : Nat) : Int) := by have := hc.k0; omega
  have e2 : c.slots = ((c.slots.toNat : Nat) : Int) := by have := hc.sl0; omega
  rw [e, e2]; simp
theorem ssecN_lt {c : Cfg} (hc : c.Good) {m : Nat} (hm : c.sectors ≤ (m : Int)) {s : Nat} (hs : s < c.stripes.toNat) : ssecN c s < m := by
  have h2 : ((c.slots.toNat * c.k.toNat : Nat) : Int) = c.slots * c.k := by
    have e : c.k = ((c.k.toNat : Nat) : Int) := by have := hc.k0; omega
    have e2 : c.slots = ((c.slots.toNat : Nat) : Int) := by have := hc.sl0; omega
    rw [e, e2]; simp
  unfold Cfg.sectors at hm
  rw [← h2] at hm
  have h3 := hc.st0
  unfold ssecN
  omega
theorem ssecN_inj {c : Cfg} {s t : Nat} (h : ssecN c s = ssecN c t) : s = t := by unfold ssecN at h; omega
/-- A stripe that may be put. -/
structure SFit (c : Cfg) (s : Nat) (gen : Int) (l : List (List Nat)) : Prop where
  st : s < c.stripes.toNat
  g0 : 1 ≤ gen
  g1 : gen ≤ 1152921504606846976
  bl : Cd.Blocks c.k.toNat 108 l
namespace SFit
variable {c : Cfg} {s : Nat} {gen : Int} {l : List (List Nat)}
theorem frag_len (h : SFit c s gen l) (hc : c.Good) (d : Nat) : (sfrag c l d).length = 108 := by
  unfold sfrag Cd.mix
  rw [Cd.mixK_len, h.bl.len 0 (by have := hc.k0; omega)]
theorem frag_byte (h : SFit c s gen l) (d : Nat) : ∀ x ∈ sfrag c l d, x < 256 := Cd.mixK_byte _ _ _ (Cd.row_byte _ _) h.bl.byte
theorem ok (h : SFit c s gen l) (hc : c.Good) (d : Nat) : (sfrm s gen d (sfrag c l d)).Ok := ⟨h.frag_len hc d, h.frag_byte d⟩
theorem right (h : SFit c s gen l) (hc : c.Good) {d : Nat} (hd : d < c.n.toNat) : (sfrm s gen d (sfrag c l d)).right = true := by
  have e1 : (sfrm s gen d (sfrag c l d)).kind = 3 := rfl
  have e2 : (sfrm s gen d (sfrag c l d)).slot = d := rfl
  have e3 : (sfrm s gen d (sfrag c l d)).stripe = s := rfl
  have e4 : (sfrm s gen d (sfrag c l d)).gen = gen := rfl
  have q1 := h.st; have q2 := h.g0; have q3 := h.g1; have q4 := hc.st1; have q5 := hc.n1
  exact Frm.right_of (by omega) (by omega) (by omega) (by omega) (by omega) (by omega) (by omega) (by omega)
theorem put (h : SFit c s gen l) (hc : c.Good) {d : Nat} (hd : d < c.n.toNat) : (sfrm s gen d (sfrag c l d)).put = (sfrm s gen d (sfrag c l d)).bytes := by unfold Frm.put; rw [h.right hc hd]; rfl
theorem get (h : SFit c s gen l) (hc : c.Good) {d : Nat} (hd : d < c.n.toNat) : Frm.get (sfrm s gen d (sfrag c l d)).bytes = some (sfrm s gen d (sfrag c l d)) := Frm.get_bytes _ (h.ok hc d) (h.right hc hd)
theorem len (h : SFit c s gen l) (hc : c.Good) (d : Nat) : (sfrm s gen d (sfrag c l d)).bytes.length = 128 := Frm.bytes_len _ (h.ok hc d)
theorem lenk (h : SFit c s gen l) (hc : c.Good) : (l.length : Int) = c.k := by rw [h.bl.n]; have := hc.k0; omega
end SFit
namespace Dsk
/-- The good frame that a disk has of a stripe. -/
def sg (D : Dsk) (c : Cfg) (s d : Nat) : Option Frm :=
  if D.dead then none else (Frm.get (D.read (ssecN c s))).bind fun f => if f.kind = 3 ∧ f.slot = d ∧ f.stripe = s then some f else none
theorem sg_has {D : Dsk} {c : Cfg} {s d : Nat} {gen : Int} {l : List (List Nat)} (hc : c.Good) (hx : SFit c s gen l) (hd : d < c.n.toNat) (ha : D.dead = false) (hr : D.read (ssecN c s) = (sfrm s gen d (sfrag c l d)).bytes) : D.sg c s d = some (sfrm s gen d (sfrag c l d)) := by
  unfold sg
  rw [ha, hr, hx.get hc hd]
  simp only [Bool.false_eq_true, if_false, Option.bind_some]
  rw [if_pos ⟨rfl, rfl, rfl⟩]
theorem sg_dead {D : Dsk} {c : Cfg} {s d : Nat} (h : D.dead = true) : D.sg c s d = none := by unfold sg; rw [h]; rfl
theorem sg_none {D : Dsk} {c : Cfg} {s d : Nat} (h : Frm.get (D.read (ssecN c s)) = none) : D.sg c s d = none := by
  unfold sg; rw [h]
  split <;> rfl
theorem sg_congr {D E : Dsk} {c : Cfg} {s d : Nat} (h1 : D.dead = E.dead) (h2 : D.read (ssecN c s) = E.read (ssecN c s)) : D.sg c s d = E.sg c s d := by
  unfold sg; rw [h1, h2]
theorem sg_gen {D : Dsk} {c : Cfg} {s d : Nat} {f : Frm} (h : D.sg c s d = some f) : 0 ≤ f.gen := by
  unfold sg at h
  split at h
  · cases h
  · rcases hg : Frm.get (D.read (ssecN c s)) with _ | g
    · rw [hg] at h; cases h
    · rw [hg] at h
      simp only [Option.bind_some] at h
      split at h
      · cases h
        have := (Frm.get_some hg).1
        unfold Frm.right Frm.isIn at this
        simp only [Bool.and_eq_true, decide_eq_true_eq] at this
        exact this.2.1
      · cases h
end Dsk
theorem Super.sknown {R : Rck} {c : Cfg} {m : Nat} (h : Super R c m) {s : Nat} (hs : s < c.stripes.toNat) : R.sknown c (s : Int) = true := by
  unfold Rck.sknown
  rw [h.fits]
  simp only [Bool.true_and, Bool.and_eq_true, decide_eq_true_eq]
  omega
theorem Super.sgood {R : Rck} {c : Cfg} {m : Nat} (h : Super R c m) {d s : Nat} (hd : d < c.n.toNat) (hs : s < c.stripes.toNat) : R.sgood c (s : Int) d = (R.dsk d).sg c s d := by
  have hm := ssecN_lt h.good h.fit hs
  unfold Rck.sgood Dsk.sg
  rw [ssec_eq h.good]
  rcases ha : (R.dsk d).dead with _ | _
  · rw [h.live.get hd hm ha]
    rcases hg : Frm.get ((R.dsk d).read (ssecN c s)) with _ | f
    · rfl
    · simp only [Bool.false_eq_true, if_false, Option.bind_some]
      have e : (0 ≤ (s : Int) → f.stripe = s) ↔ f.stripe = s := ⟨fun q => q (by omega), fun q _ => q⟩
      simp only [e]
  · rw [h.live.get_dead hd hm ha]
    rfl
theorem newG_congr {g g' : Nat → Option Frm} : ∀ n, (∀ d, d < n → g d = g' d) → newG g n = newG g' n
  | 0, _ => rfl
  | n + 1, h => by
    have := newG_congr n fun d hd => h d (by omega)
    unfold newG
    rw [h n (by omega), this]
theorem partsG_congr {g g' : Nat → Option Frm} {G : Int} : ∀ {n : Nat}, (∀ d, d < n → g d = g' d) → partsG g G n = partsG g' G n
  | 0, _ => rfl
  | n + 1, h => by
    have e : partAt g G n = partAt g' G n := by unfold partAt; rw [h n (by omega)]
    rw [partsG_succ, partsG_succ, partsG_congr fun d hd => h d (by omega), e]
theorem Super.slook {R : Rck} {c : Cfg} {m : Nat} (h : Super R c m) {s : Nat} (hs : s < c.stripes.toNat) {g : Nat → Option Frm} (hg : ∀ d : Nat, d < c.n.toNat → (R.dsk d).sg c s d = g d) : R.slook c (s : Int) = (newG g c.n.toNat, partsG g (newG g c.n.toNat) c.n.toNat) := by
  unfold Rck.slook
  rw [if_pos (h.sknown hs), look_fold]
  have e : ∀ d, d < c.n.toNat → R.sgood c (s : Int) d = g d := fun d hd => (h.sgood hd hs).trans (hg d hd)
  rw [newG_congr _ e, partsG_congr e]
/-- The disks that have a frame of this generation. -/
def hasG (g : Nat → Option Frm) (G : Int) (d : Nat) : Bool := match g d with
  | some f => decide (f.gen = G)
  | none => false
theorem partsG_eq {g : Nat → Option Frm} {G : Int} (hG : G ≠ 0) {b : Nat → List Nat} {n : Nat} (h : ∀ d f, d < n → g d = some f → f.gen = G → f.data = b d) : partsG g G n = ((List.range n).filter (hasG g G)).map fun d => (d, b d) := by
  induction n with
  | zero => rfl
  | succ n ih =>
    rw [partsG_succ, ih fun d f hd => h d f (by omega), List.range_succ, List.filter_append, List.map_append]
    congr 1
    unfold partAt
    rcases hg : g n with _ | f
    · simp [hasG, hg]
    · simp only [Option.bind_some]
      by_cases e : f.gen = G
      · rw [if_pos ⟨e, by omega⟩, h n f (by omega) hg e]
        simp [hasG, hg, e]
      · rw [if_neg (fun q => e q.1)]
        simp [hasG, hg, e]
theorem newG_is {g : Nat → Option Frm} {G : Int} {n d : Nat} {f : Frm} (hG : 0 ≤ G) (h : ∀ d f, d < n → g d = some f → f.gen ≤ G) (hd : d < n) (hf : g d = some f) (he : f.gen = G) : newG g n = G := by
  have h1 := newG_eq hG n h
  have h2 := newG_ge g n d f hd hf
  omega
/-- What is read: enough frames of the newest generation are there. -/
theorem Super.sget_ok {R : Rck} {c : Cfg} {m : Nat} (h : Super R c m) (k4 : c.k ≤ 4) (n6 : c.n ≤ 6) {s : Nat} (hs : s < c.stripes.toNat) {g : Nat → Option Frm} (hg : ∀ d : Nat, d < c.n.toNat → (R.dsk d).sg c s d = g d) {G : Int} {l : List (List Nat)} (hl : Cd.Blocks c.k.toNat 108 l) (hG : 1 ≤ G)
    (h1 : ∀ d f, d < c.n.toNat → g d = some f → f.gen ≤ G ∧ (f.gen = G → f.data = sfrag c l d)) (h2 : c.k.toNat ≤ ((List.range c.n.toNat).filter (hasG g G)).length) (hup : c.k ≤ R.online.length) : R.sget c (s : Int) = (l, G, none) := by
  have hk0 := h.good.k0
  have hlk := h.slook hs hg
  have hne : newG g c.n.toNat = G := by
    rcases hq : (List.range c.n.toNat).filter (hasG g G) with _ | ⟨d, l'⟩
    · rw [hq] at h2; simp at h2; omega
    · have hd : d ∈ (List.range c.n.toNat).filter (hasG g G) := by rw [hq]; simp
      obtain ⟨hd1, hd2⟩ := List.mem_filter.1 hd
      have hd1 := List.mem_range.1 hd1
      unfold hasG at hd2
      rcases hf : g d with _ | f
      · rw [hf] at hd2; cases hd2
      · rw [hf] at hd2
        exact newG_is (by omega) (fun d f hd hf => (h1 d f hd hf).1) hd1 hf (by simpa using hd2)
  rw [hne, partsG_eq (b := sfrag c l) (by omega) fun d f hd hf => (h1 d f hd hf).2] at hlk
  unfold Rck.sget
  rw [if_pos (h.sknown hs), if_neg (by rw [h.live.off]; simp; omega), hlk]
  simp only [List.length_map]
  rw [if_neg (by omega)]
  congr 1
  unfold decoded
  rw [← List.map_take]
  generalize hps : ((List.range c.n.toNat).filter (hasG g G)).take c.k.toNat = ps
  have hpl : ps.length = c.k.toNat := by rw [← hps, List.length_take]; omega
  have hsub : ps.Sublist (List.range 6) := by
    rw [← hps]
    refine ((List.take_sublist _ _).trans List.filter_sublist).trans ?_
    have : (List.range c.n.toNat) = (List.range 6).take c.n.toNat := (range_take6 (by omega)).symm
    rw [this]; exact List.take_sublist _ _
  rw [List.map_map, List.map_map]
  exact Cd.decode hl (by omega) hpl (Cd.good (by omega) (by omega) hpl hsub)
where
  range_take6 {n : Nat} (h : n ≤ 6) : (List.range 6).take n = List.range n := by
    apply List.ext_getElem?
    intro i
    rw [List.getElem?_take]
    by_cases hi : i < n
    · rw [if_pos hi]; simp [hi, show i < 6 by omega]
    · rw [if_neg hi]; simp; omega
/-- What is read: too few frames of the newest generation are there. -/
theorem Super.sget_lost {R : Rck} {c : Cfg} {m : Nat} (h : Super R c m) {s : Nat} (hs : s < c.stripes.toNat) {g : Nat → Option Frm} (hg : ∀ d : Nat, d < c.n.toNat → (R.dsk d).sg c s d = g d) (h2 : ((partsG g (newG g c.n.toNat) c.n.toNat).length : Int) < c.k) (hup : c.k ≤ R.online.length) :
    R.sget c (s : Int) = ([], 0, some (.fault sSGet s (.loss s (partsG g (newG g c.n.toNat) c.n.toNat).length c.k))) := by
  have hlk := h.slook hs hg
  unfold Rck.sget
  rw [if_pos (h.sknown hs), if_neg (by rw [h.live.off]; simp; omega), hlk, if_pos h2]
theorem Super.sget_few {R : Rck} {c : Cfg} {m : Nat} (h : Super R c m) {s : Nat} (hs : s < c.stripes.toNat) (hup : (R.online.length : Int) < c.k) : R.sget c (s : Int) = ([], 0, some (.fault sSGet s (.no 7))) := by
  unfold Rck.sget
  rw [if_pos (h.sknown hs), if_pos (.inr hup)]
section
variable {c : Cfg} {m s : Nat} {gen : Int} {l : List (List Nat)}
/-- What a put does to each disk. -/
def Dsk.sw (c : Cfg) (s : Nat) (gen : Int) (l : List (List Nat)) (d : Nat) (D : Dsk) : Dsk := D.write (ssecN c s) (sfrm s gen d (sfrag c l d)).bytes
theorem does_sput (hc : c.Good) (hm : c.sectors ≤ (m : Int)) (hx : SFit c s gen l) : Does c.n.toNat m (fun R => R.sputs c (s : Int) gen l) (c.n.toNat + c.n.toNat) fun d D => (D.sw c s gen l d).flush := by
  have d1 : Does c.n.toNat m (each (Rck.srow c (s : Int) gen l) (List.range c.n.toNat)) (1 * c.n.toNat) fun j D => if j < c.n.toNat then D.sw c s gen l j else D := by
    refine (Does.each (g := fun d j D => if j = d then D.write (ssecN c s) (sfrm s gen d (sfrag c l d)).bytes else D) (c := 1) (List.range c.n.toNat) fun d hd => ?_).congr (by simp) fun j D hj => ?_
    · have hd := List.mem_range.1 hd
      show Does c.n.toNat m (fun R => R.write d (Rck.ssec c s) (sfrm s gen d (sfrag c l d)).put) 1 _
      rw [ssec_eq hc, hx.put hc hd]
      exact Does.write hd (ssecN_lt hc hm hx.st) (hx.len hc d)
    · rw [show (fun (D : Dsk) (d : Nat) => if j = d then D.write (ssecN c s) (sfrm s gen d (sfrag c l d)).bytes else D) = fun D d => if j = d then D.sw c s gen l j else D from by
        funext D d
        by_cases e : j = d
        · subst e; rfl
        · rw [if_neg e, if_neg e]]
      exact foldl_pick (Dsk.sw c s gen l j) j _ D
  have d2 : Does c.n.toNat m (each (fun R (d : Nat) => R.flush d) (List.range c.n.toNat)) (1 * c.n.toNat) fun j D => if j < c.n.toNat then D.flush else D :=
    (Does.each (f := fun R (d : Nat) => R.flush d) (g := fun d j D => if j = d then D.flush else D) (List.range c.n.toNat) fun d hd => Does.flush (List.mem_range.1 hd)).congr (by simp) fun j D _ => foldl_pick Dsk.flush j _ D
  rw [Nat.one_mul] at d1 d2
  intro R F h
  refine ⟨fun hF => ?_, fun h0 h1 => ?_⟩
  · obtain ⟨R1, a1, a2, a3⟩ := (d1 R F h).1 (by omega)
    obtain ⟨R2, b1, b2, b3⟩ := (d2 R1 _ a2).1 (by unfold burn; split <;> omega)
    refine ⟨R2, ?_, by rw [burn_add F _ _ (by omega)] at b2; exact b2, fun d hd => ?_⟩
    · show R.sputs c s gen l = _
      unfold Rck.sputs
      rw [h.online, a1]
      simp only
      rw [a2.online, b1]
    · rw [b3 d hd, a3 d hd]; simp only [hd, if_true]
  · by_cases hk : ((c.n.toNat : Nat) : Int) ≤ F
    · obtain ⟨R1, a1, a2, a3⟩ := (d1 R F h).1 (.inr hk)
      obtain ⟨e, R2, b1⟩ := (d2 R1 _ a2).2 (by unfold burn; rw [if_pos h0]; omega) (by unfold burn; rw [if_pos h0]; omega)
      refine ⟨e, R2, ?_⟩
      show R.sputs c s gen l = _
      unfold Rck.sputs
      rw [h.online, a1]
      simp only
      rw [a2.online, b1]
    · obtain ⟨e, R1, a1⟩ := (d1 R F h).2 h0 (by omega)
      refine ⟨e, R1, ?_⟩
      show R.sputs c s gen l = _
      unfold Rck.sputs
      rw [h.online, a1]
/-- The whole call. -/
theorem Super.sput_eq {R : Rck} (h : Super R c m) (hx : SFit c s gen l) : R.sput c (s : Int) gen l = ((R.sputs c (s : Int) gen l).1.map (.fault sSPut s), (R.sputs c (s : Int) gen l).2) := by
  unfold Rck.sput
  rw [if_pos]
  unfold Rck.sputOk
  rw [h.sknown hx.st]
  simp only [Bool.true_and, Bool.and_eq_true, decide_eq_true_eq]
  exact ⟨⟨hx.g0, hx.g1⟩, hx.lenk h.good⟩
theorem sput_does {R : Rck} (h : Pow R c.n.toNat m (-1)) (hc : c.Good) (hm : c.sectors ≤ (m : Int)) (hx : SFit c s gen l) : ∃ R', R.sput c (s : Int) gen l = (none, R') ∧ Pow R' c.n.toNat m (-1) ∧ ∀ d : Nat, d < c.n.toNat → R'.dsk d = ((R.dsk d).sw c s gen l d).flush := by
  obtain ⟨R', a1, a2, a3⟩ := (does_sput hc hm hx R (-1) h).1 (.inl (by omega))
  have a1' : R.sputs c (s : Int) gen l = (none, R') := a1
  refine ⟨R', ?_, a2, a3⟩
  rw [(⟨h.live, hc, hm⟩ : Super R c m).sput_eq hx, a1']; rfl
end
namespace Dsk
variable {c : Cfg} {s : Nat} {gen : Int} {l : List (List Nat)}
theorem sw_read (D : Dsk) (d j : Nat) (hj : j < D.l.length) : (D.sw c s gen l d).flush.read j = if j = ssecN c s then (sfrm s gen d (sfrag c l d)).bytes else D.read j := by
  rw [flush_read _ _ (by show j < D.l.length; exact hj)]
  exact write_read D _ _ _
theorem sw_len (D : Dsk) (d : Nat) : (D.sw c s gen l d).flush.l.length = D.l.length := by rw [flush_len]; rfl
theorem sw_dead (D : Dsk) (d : Nat) : (D.sw c s gen l d).flush.dead = D.dead := rfl
theorem sw_waits (D : Dsk) (d j : Nat) : (D.sw c s gen l d).flush.waits j = none := rfl
theorem sw_rot (D : Dsk) (d j : Nat) (h : D.rot j = false) : (D.sw c s gen l d).flush.rot j = false := by
  show (if (true && ((D.sw c s gen l d).waits j).isSome) = true then false else D.rot j) = false
  split
  · rfl
  · exact h
end Dsk
end Go.Proofs.YthopnbklmlopkaaGreatDoor

/- Racks that have stripes, some of whose disks are dead, some of whose sectors are bad. No program stands here. -/
namespace Go.Proofs.YthopnbklmlopkaaGreatDoor
set_option linter.unusedVariables false
abbrev Strs := Nat → Option (Int × List (List Nat))
def updS (f : Strs) (s : Nat) (x : Int × List (List Nat)) (t : Nat) : Option (Int × List (List Nat)) := if t = s then some x else f t
theorem updS_at (f : Strs) (s : Nat) (x : Int × List (List Nat)) : updS f s x s = some x := if_pos rfl
theorem updS_other (f : Strs) {s t : Nat} (x : Int × List (List Nat)) (h : t ≠ s) : updS f s x t = f t := if_neg h
/-- A disk with frames of stripes; is it up; which sectors are bad. -/
structure SDw (D : Dsk) (d : Nat) (c : Cfg) (m : Nat) (f : Strs) (u : Bool) (B : Nat → Bool) : Prop where
  len : D.l.length = m
  dead : D.dead = !u
  waits : ∀ i, D.waits i = none
  rot : ∀ i, B i = false → D.rot i = false
  has : ∀ s gen l, s < c.stripes.toNat → f s = some (gen, l) → B (ssecN c s) = false → D.read (ssecN c s) = (sfrm s gen d (sfrag c l d)).bytes
  bad : ∀ j, B j = true → Frm.get (D.read j) = none
def allB : Nat → Bool := fun _ => true
theorem Frm.get_nil : Frm.get [] = none := by
  unfold Frm.get
  rw [if_neg (fun q => by simp at q)]
theorem Dsk.blank_bad (D : Dsk) (j : Nat) : Frm.get (D.blank.read j) = none := by
  have e : D.blank.read j = if j < D.l.length then Dsk.zeros else [] := by
    unfold Dsk.blank Dsk.read
    by_cases h : j < D.l.length
    · simp [List.getD_eq_getElem?_getD, h]
    · simp [List.getD_eq_getElem?_getD, h]
  rw [e]
  split
  · exact Dsk.zeros_get
  · exact Frm.get_nil
namespace SDw
variable {D : Dsk} {d : Nat} {c : Cfg} {m : Nat} {f : Strs} {u : Bool} {B : Nat → Bool}
theorem new (c : Cfg) (m d : Nat) : SDw (Dsk.new m) d c m (fun _ => none) true noB := ⟨Dsk.new_len m, rfl, fun _ => rfl, fun _ _ => rfl, fun s gen l _ h => (by cases h), fun j h => (by cases h)⟩
theorem congr {B' : Nat → Bool} (h : SDw D d c m f u B) (e : ∀ j, B j = B' j) : SDw D d c m f u B' := by rw [← (funext e : B = B')]; exact h
theorem put (h : SDw D d c m f true B) (hc : c.Good) (hm : c.sectors ≤ (m : Int)) {s : Nat} {gen : Int} {l : List (List Nat)} (hx : SFit c s gen l) : SDw ((D.sw c s gen l d).flush) d c m (updS f s (gen, l)) true fun j => B j && decide (j ≠ ssecN c s) := by
  have hlt := ssecN_lt hc hm hx.st
  refine ⟨by rw [Dsk.sw_len]; exact h.len, by rw [Dsk.sw_dead]; exact h.dead, fun i => rfl, fun i hi => ?_, fun t g' l' ht hf hb => ?_, fun j hj => ?_⟩
  · by_cases e : i = ssecN c s
    · subst e
      show (if (true && ((D.sw c s gen l d).waits (ssecN c s)).isSome) = true then false else D.rot (ssecN c s)) = false
      have : (D.sw c s gen l d).waits (ssecN c s) = some (sfrm s gen d (sfrag c l d)).bytes := if_pos rfl
      rw [this]; rfl
    · rw [Bool.and_eq_false_iff] at hi
      refine Dsk.sw_rot D d i (h.rot i (hi.resolve_right ?_))
      simp [e]
  · have hlt2 := ssecN_lt hc hm ht
    rw [Dsk.sw_read _ _ _ (by rw [h.len]; exact hlt2)]
    by_cases e : t = s
    · subst e
      rw [updS_at] at hf; cases hf
      rw [if_pos rfl]
    · rw [updS_other f _ e] at hf
      rw [if_neg (fun q => e (ssecN_inj q))]
      refine h.has t g' l' ht hf ?_
      rw [Bool.and_eq_false_iff] at hb
      refine hb.resolve_right ?_
      simp only [ne_eq, decide_eq_false_iff_not, Classical.not_not]
      exact fun q => e (ssecN_inj q)
  · simp only [Bool.and_eq_true, decide_eq_true_eq] at hj
    by_cases hjm : j < D.l.length
    · rw [Dsk.sw_read _ _ _ hjm, if_neg hj.2]; exact h.bad j hj.1
    · have e : (D.sw c s gen l d).flush.read j = [] := by
        unfold Dsk.flush Dsk.settle Dsk.read
        simp [List.getD_eq_getElem?_getD, show (D.sw c s gen l d).l.length = D.l.length from rfl, hjm]
      rw [e]; exact Frm.get_nil
theorem die (h : SDw D d c m f u B) : SDw D.die d c m f false allB := ⟨by rw [Dsk.die_len]; exact h.len, rfl, fun _ => rfl, fun i hi => (by cases hi), fun s gen l _ _ hb => (by cases hb), fun j _ => Dsk.blank_bad D j⟩
theorem replace (h : SDw D d c m f u B) : SDw D.replace d c m f true allB := ⟨by rw [Dsk.replace_len]; exact h.len, rfl, fun _ => rfl, fun i hi => (by cases hi), fun s gen l _ _ hb => (by cases hb), fun j _ => Dsk.blank_bad D j⟩
theorem rotted (h : SDw D d c m f true B) (hc : c.Good) (hm : c.sectors ≤ (m : Int)) (hd : d < c.n.toNat) {s : Nat} {gen : Int} {l : List (List Nat)} (hf : f s = some (gen, l)) (hx : SFit c s gen l) (hb : B (ssecN c s) = false) {a y : Nat} (ha : a ≤ 124) (hy : y < 4294967296) (hy0 : y ≠ 0) :
    D.rotOk (ssecN c s : Nat) (a : Nat) y = true ∧ SDw (D.rotted (ssecN c s) a y) d c m f true fun j => B j || decide (j = ssecN c s) := by
  have hlt := ssecN_lt hc hm hx.st
  have hr := h.has s gen l hx.st hf hb
  have hrd : ∀ j, (D.rotted (ssecN c s) a y).read j = if j = ssecN c s then Dsk.xor4 (sfrm s gen d (sfrag c l d)).bytes a y else D.read j := fun j => by
    rw [Dsk.rotted_read D _ _ _ _ (by rw [h.len]; exact hlt) (h.waits _), hr]
  have hdead : D.dead = false := h.dead
  refine ⟨?_, by rw [Dsk.rotted_len]; exact h.len, h.dead, h.waits, fun j hj => ?_, fun t g' l' ht hz hb' => ?_, fun j hj => ?_⟩
  · unfold Dsk.rotOk
    rw [hdead, h.len, Int.toNat_natCast, h.rot _ hb]
    simp
    omega
  · simp only [Bool.or_eq_false_iff, decide_eq_false_iff_not] at hj
    show (if j = ssecN c s then true else D.rot j) = false
    rw [if_neg hj.2]; exact h.rot j hj.1
  · simp only [Bool.or_eq_false_iff, decide_eq_false_iff_not] at hb'
    rw [hrd, if_neg hb'.2]
    exact h.has t g' l' ht hz hb'.1
  · simp only [Bool.or_eq_true, decide_eq_true_eq] at hj
    rw [hrd]
    split
    · exact Frm.get_rot _ (hx.ok hc d) (hx.right hc hd) a y ha hy hy0
    · rename_i hne
      exact h.bad j (hj.resolve_right hne)
theorem sg (h : SDw D d c m f u B) (hc : c.Good) (hd : d < c.n.toNat) {s : Nat} {gen : Int} {l : List (List Nat)} (hf : f s = some (gen, l)) (hx : SFit c s gen l) : D.sg c s d = if u && !B (ssecN c s) then some (sfrm s gen d (sfrag c l d)) else none := by
  rcases u with _ | _
  · exact Dsk.sg_dead h.dead
  · rcases hb : B (ssecN c s) with _ | _
    · exact Dsk.sg_has hc hx hd h.dead (h.has s gen l hx.st hf hb)
    · exact Dsk.sg_none (h.bad _ hb)
end SDw
structure SR (R : Rck) (c : Cfg) (m : Nat) (f : Strs) (U : Nat → Bool) (B : Nat → Nat → Bool) : Prop where
  live : Live R c.n.toNat m
  good : c.Good
  fit : c.sectors ≤ (m : Int)
  dsk : ∀ d : Nat, d < c.n.toNat → SDw (R.dsk d) d c m f (U d) (B d)
  fits : ∀ s gen l, f s = some (gen, l) → SFit c s gen l
def allU : Nat → Bool := fun _ => true
namespace SR
variable {R : Rck} {c : Cfg} {m : Nat} {f : Strs} {U : Nat → Bool} {B : Nat → Nat → Bool}
theorem super (h : SR R c m f U B) : Super R c m := ⟨h.live, h.good, h.fit⟩
theorem new {c : Cfg} (hc : c.Good) {m : Nat} (hm : c.sectors ≤ (m : Int)) : SR (Rck.new c.n.toNat m) c m (fun _ => none) allU fun _ => noB := by
  have hn : 1 ≤ c.n.toNat := by have := hc.k0; have := hc.k1; omega
  refine ⟨Live.new c.n.toNat m hn, hc, hm, fun d hd => ?_, fun s gen l h => by cases h⟩
  rw [Live.new_dsk _ _ _ hd]; exact SDw.new c m d
theorem pow (h : SR R c m f U B) (hU : ∀ d, d < c.n.toNat → U d = true) : Pow R c.n.toNat m (-1) := Pow.of h.live fun j hj => by rw [(h.dsk j hj).dead, hU j hj]; rfl
theorem put (h : SR R c m f U B) (hU : ∀ d, d < c.n.toNat → U d = true) {s : Nat} {gen : Int} {l : List (List Nat)} (hx : SFit c s gen l) : ∃ R', R.sput c (s : Int) gen l = (none, R') ∧ SR R' c m (updS f s (gen, l)) U fun d j => B d j && decide (j ≠ ssecN c s) := by
  obtain ⟨R', h1, h2, h3⟩ := sput_does (h.pow hU) h.good h.fit hx
  refine ⟨R', h1, h2.live, h.good, h.fit, fun d hd => ?_, fun t g' l' ht => ?_⟩
  · rw [h3 d hd, hU d hd]
    exact (hU d hd ▸ h.dsk d hd : SDw (R.dsk d) d c m f true (B d)).put h.good h.fit hx
  · unfold updS at ht
    split at ht
    · rename_i e; cases ht; rw [e]; exact hx
    · exact h.fits t g' l' ht
theorem setD (h : SR R c m f U B) {i : Nat} (hi : i < c.n.toNat) {D : Dsk} {u : Bool} {b : Nat → Bool} (hD : SDw D i c m f u b) : SR (R.setD i D) c m f (fun d => if d = i then u else U d) fun d => if d = i then b else B d := by
  obtain ⟨h3, h4⟩ := h.live.setD D hD.len hi
  refine ⟨h3, h.good, h.fit, fun d hd => ?_, h.fits⟩
  rw [h4]
  by_cases e : d = i
  · subst e; simp only [if_true]; exact hD
  · simp only [e, if_false]; exact h.dsk d hd
theorem die (h : SR R c m f U B) {i : Nat} (hi : i < c.n.toNat) : SR (R.die i) c m f (fun d => if d = i then false else U d) fun d => if d = i then allB else B d := by
  rw [h.live.die hi]; exact h.setD hi (h.dsk i hi).die
theorem replace (h : SR R c m f U B) {i : Nat} (hi : i < c.n.toNat) : SR (R.replace i) c m f (fun d => if d = i then true else U d) fun d => if d = i then allB else B d := by
  rw [h.live.replace hi]; exact h.setD hi (h.dsk i hi).replace
theorem rot (h : SR R c m f U B) {i s : Nat} {gen : Int} {l : List (List Nat)} (hi : i < c.n.toNat) (hu : U i = true) (hf : f s = some (gen, l)) (hb : B i (ssecN c s) = false) {a y : Nat} (ha : a ≤ 124) (hy : y < 4294967296) (hy0 : y ≠ 0) :
    R.rotOk i (ssecN c s : Nat) (a : Nat) y = true ∧ SR (R.rot i (ssecN c s : Nat) (a : Nat) y) c m f (fun d => if d = i then true else U d) fun d => if d = i then (fun j => B i j || decide (j = ssecN c s)) else B d := by
  obtain ⟨h1, h2⟩ := (hu ▸ h.dsk i hi : SDw (R.dsk i) i c m f true (B i)).rotted h.good h.fit hi hf (h.fits s gen l hf) hb ha hy hy0
  refine ⟨by unfold Rck.rotOk; rw [h.live.has hi, h1]; rfl, ?_⟩
  rw [h.live.rot hi, if_pos h1, Int.toNat_natCast, Int.toNat_natCast]
  exact h.setD hi h2
/-- The good frames of a stripe. -/
def isG (c : Cfg) (U : Nat → Bool) (B : Nat → Nat → Bool) (s d : Nat) : Bool := U d && !B d (ssecN c s)
def gs (c : Cfg) (U : Nat → Bool) (B : Nat → Nat → Bool) (s : Nat) (gen : Int) (l : List (List Nat)) (d : Nat) : Option Frm := if isG c U B s d then some (sfrm s gen d (sfrag c l d)) else none
theorem sg (h : SR R c m f U B) {s : Nat} {gen : Int} {l : List (List Nat)} (hf : f s = some (gen, l)) {d : Nat} (hd : d < c.n.toNat) : (R.dsk d).sg c s d = gs c U B s gen l d := (h.dsk d hd).sg h.good hd hf (h.fits s gen l hf)
theorem online (h : SR R c m f U B) : R.online = (List.range c.n.toNat).filter U := by
  unfold Rck.online
  rw [h.live.len]
  refine List.filter_congr fun d hd => ?_
  have hd := List.mem_range.1 hd
  rw [h.live.up hd, (h.dsk d hd).dead]; simp
theorem hasG_gs (c : Cfg) (U : Nat → Bool) (B : Nat → Nat → Bool) (s : Nat) (gen : Int) (l : List (List Nat)) (d : Nat) : hasG (gs c U B s gen l) gen d = isG c U B s d := by
  unfold hasG gs
  rcases isG c U B s d with _ | _
  · rfl
  · simp [sfrm]
theorem good_le (c : Cfg) (U : Nat → Bool) (B : Nat → Nat → Bool) (s n : Nat) : ((List.range n).filter (isG c U B s)).length ≤ ((List.range n).filter U).length := by
  rw [← List.countP_eq_length_filter, ← List.countP_eq_length_filter]
  refine List.countP_mono_left fun d _ h => ?_
  unfold isG at h
  simp only [Bool.and_eq_true] at h
  exact h.1
theorem parts (c : Cfg) (U : Nat → Bool) (B : Nat → Nat → Bool) (s : Nat) {gen : Int} (hg : 1 ≤ gen) (l : List (List Nat)) (n : Nat) : partsG (gs c U B s gen l) gen n = ((List.range n).filter (isG c U B s)).map fun d => (d, sfrag c l d) := by
  rw [partsG_eq (b := sfrag c l) (by omega) fun d f _ hf _ => by
    unfold gs at hf
    split at hf
    · cases hf; rfl
    · cases hf]
  congr 1
  exact List.filter_congr fun d _ => hasG_gs c U B s gen l d
/-- A stripe of which enough frames are good is read. -/
theorem get (h : SR R c m f U B) (k4 : c.k ≤ 4) (n6 : c.n ≤ 6) {s : Nat} {gen : Int} {l : List (List Nat)} (hf : f s = some (gen, l)) (hk : c.k ≤ (((List.range c.n.toNat).filter (isG c U B s)).length : Nat)) : R.sget c (s : Int) = (l, gen, none) := by
  have hx := h.fits s gen l hf
  have h1 := good_le c U B s c.n.toNat
  refine h.super.sget_ok k4 n6 hx.st (fun d hd => h.sg hf hd) hx.bl hx.g0 (fun d f _ hf' => ?_) ?_ (by rw [h.online]; omega)
  · unfold gs at hf'
    split at hf'
    · cases hf'; exact ⟨Int.le_refl _, fun _ => rfl⟩
    · cases hf'
  · rw [List.filter_congr fun d _ => hasG_gs c U B s gen l d]; omega
theorem newG_gs (c : Cfg) (U : Nat → Bool) (B : Nat → Nat → Bool) (s : Nat) {gen : Int} (hg : 1 ≤ gen) (l : List (List Nat)) (n : Nat) (h0 : 0 < ((List.range n).filter (isG c U B s)).length) : newG (gs c U B s gen l) n = gen := by
  rcases hq : (List.range n).filter (isG c U B s) with _ | ⟨d, l'⟩
  · rw [hq] at h0; simp at h0
  · have hd : d ∈ (List.range n).filter (isG c U B s) := by rw [hq]; simp
    obtain ⟨hd1, hd2⟩ := List.mem_filter.1 hd
    refine newG_is (f := sfrm s gen d (sfrag c l d)) (by omega) (fun e f _ hf => ?_) (List.mem_range.1 hd1) ?_ rfl
    · unfold gs at hf; split at hf
      · cases hf; exact Int.le_refl _
      · cases hf
    · unfold gs; rw [hd2]; rfl
theorem parts_len (c : Cfg) (U : Nat → Bool) (B : Nat → Nat → Bool) (s : Nat) {gen : Int} (hg : 1 ≤ gen) (l : List (List Nat)) (n : Nat) : (partsG (gs c U B s gen l) (newG (gs c U B s gen l) n) n).length = ((List.range n).filter (isG c U B s)).length := by
  by_cases h0 : 0 < ((List.range n).filter (isG c U B s)).length
  · rw [newG_gs c U B s hg l n h0, parts c U B s hg, List.length_map]
  · have e : (List.range n).filter (isG c U B s) = [] := by rw [← List.length_eq_zero_iff]; omega
    rw [e]
    have : partsG (gs c U B s gen l) (newG (gs c U B s gen l) n) n = [] := by
      unfold partsG
      rw [List.filterMap_eq_nil_iff]
      intro d hd
      have : isG c U B s d = false := by
        rcases hb : isG c U B s d with _ | _
        · rfl
        · have := List.mem_filter.2 ⟨hd, hb⟩; rw [e] at this; cases this
      unfold partAt gs
      rw [this]; rfl
    rw [this]; rfl
/-- A stripe of which too few are good is lost, and says how many are. -/
theorem lost (h : SR R c m f U B) {s : Nat} {gen : Int} {l : List (List Nat)} (hf : f s = some (gen, l)) (hk : (((List.range c.n.toNat).filter (isG c U B s)).length : Int) < c.k) (hup : c.k ≤ (((List.range c.n.toNat).filter U).length : Nat)) :
    R.sget c (s : Int) = ([], 0, some (.fault sSGet s (.loss s (((List.range c.n.toNat).filter (isG c U B s)).length : Nat) c.k))) := by
  have hx := h.fits s gen l hf
  have hl := parts_len c U B s hx.g0 l c.n.toNat
  have := h.super.sget_lost hx.st (fun d hd => h.sg hf hd) (by rw [hl]; exact hk) (by rw [h.online]; exact hup)
  rw [hl] at this
  exact this
theorem few (h : SR R c m f U B) {s : Nat} (hs : s < c.stripes.toNat) (hup : (((List.range c.n.toNat).filter U).length : Int) < c.k) : R.sget c (s : Int) = ([], 0, some (.fault sSGet s (.no 7))) :=
  h.super.sget_few hs (by rw [h.online]; exact hup)
end SR
end Go.Proofs.YthopnbklmlopkaaGreatDoor

/- What the statements of chapter 11 run, on plain racks. No program stands here. -/
namespace Go.Proofs.YthopnbklmlopkaaGreatDoor
set_option linter.unusedVariables false
open Go Go.RowKit
theorem blocksOf_Blocks (k : Nat) (n : Int) : Cd.Blocks k 108 (blocksOf k n) := Cd.Blocks.mem (blocksOf_len k n) (fun b hb => by
  obtain ⟨x, rfl⟩ := blocksOf_mem hb; exact blockOf_len x) (fun b hb => by
  obtain ⟨x, rfl⟩ := blocksOf_mem hb; exact blockOf_byte x)
theorem SFit.of {c : Cfg} {s : Nat} {gen n : Int} (hs : s < c.stripes.toNat) (h0 : 1 ≤ gen) (h1 : gen ≤ 1152921504606846976) : SFit c s gen (blocksOf c.k.toNat n) := ⟨hs, h0, h1, blocksOf_Blocks _ _⟩
namespace Runs11
def c : Cfg := ⟨9, 2, 3, 1, 1⟩
def a : List (List Nat) := blocksOf 2 5
def b : List (List Nat) := blocksOf 2 8
theorem good : c.Good := ⟨by decide, by decide, by decide, by decide, by decide, by decide, by decide, by decide, by decide⟩
structure All (R1 R4 : Rck) : Prop where
  p1 : (Rck.new 3 4).sput c 0 5 a = (none, R1)
  g1 : (R1.die 1).sget c 0 = (a, 5, none)
  p2 : ((R1.die 1).replace 1).sput c 0 6 b = (none, R4)
  r1 : R4.rotOk 2 3 0 1 = true
  g2 : (R4.rot 2 3 0 1).sget c 0 = (b, 6, none)
theorem all : ∃ R1 R4, All R1 R4 := by
  have hm : c.sectors ≤ ((4 : Nat) : Int) := by decide
  have h0 : SR (Rck.new 3 4) c 4 (fun _ => none) allU fun _ => noB := SR.new good hm
  obtain ⟨R1, e1, h1⟩ := h0.put (fun d _ => rfl) (SFit.of (c := c) (s := 0) (gen := 5) (n := 5) (by decide) (by decide) (by decide))
  have h2 := h1.die (i := 1) (by decide)
  have g1 := h2.get (s := 0) (by decide) (by decide) (updS_at _ _ _) (by decide)
  have h3 := h2.replace (i := 1) (by decide)
  obtain ⟨R4, e4, h4⟩ := h3.put (fun d _ => by
    show (if d = 1 then true else if d = 1 then false else allU d) = true
    split
    · rfl
    · rfl) (SFit.of (c := c) (s := 0) (gen := 6) (n := 8) (by decide) (by decide) (by decide))
  have es : ssecN c 0 = 3 := by decide
  obtain ⟨r1, h5⟩ := h4.rot (i := 2) (s := 0) (by decide) (by decide) (updS_at _ _ _) (by decide) (a := 0) (y := 1) (by omega) (by omega) (by omega)
  have g2 := h5.get (s := 0) (by decide) (by decide) (updS_at _ _ _) (by decide)
  rw [es] at r1 g2
  exact ⟨R1, R4, e1, g1, e4, r1, g2⟩
end Runs11
/-- How many of the first n are so. -/
def cntP (P : Nat → Bool) (n : Nat) : Nat := ((List.range n).filter P).length
theorem cntP_succ (P : Nat → Bool) (n : Nat) : cntP P (n + 1) = cntP P n + if P n then 1 else 0 := by
  unfold cntP
  rw [List.range_succ, List.filter_append, List.length_append]
  congr 1
  rcases h : P n with _ | _
  · simp [h]
  · simp [h]
theorem cntP_congr {P P' : Nat → Bool} : ∀ {n : Nat}, (∀ d, d < n → P d = P' d) → cntP P n = cntP P' n
  | 0, _ => rfl
  | n + 1, h => by rw [cntP_succ, cntP_succ, cntP_congr fun d hd => h d (by omega), h n (by omega)]
theorem cntP_all {P : Nat → Bool} : ∀ {n : Nat}, (∀ d, d < n → P d = true) → cntP P n = n
  | 0, _ => rfl
  | n + 1, h => by rw [cntP_succ, cntP_all fun d hd => h d (by omega), h n (by omega)]; rfl
theorem cntP_flip {P P' : Nat → Bool} {e : Nat} : ∀ {n : Nat}, e < n → (∀ d, d < n → d ≠ e → P d = P' d) → P e = true → P' e = false → cntP P n = cntP P' n + 1
  | n + 1, he, h, h1, h2 => by
    rw [cntP_succ, cntP_succ]
    by_cases q : e = n
    · subst q
      rw [h1, h2, cntP_congr fun d hd => h d (by omega) (by omega)]; rfl
    · rw [cntP_flip (by omega) (fun d hd hne => h d (by omega) hne) h1 h2, h n (by omega) (fun e' => q e'.symm)]
      omega
section
variable {R : Rck} {c : Cfg} {m : Nat} {f : Strs} {l : List (List Nat)}
/-- StripeLook: disks that were looked at, those that the bits say are hurt. -/
def LookI (R : Rck) (c : Cfg) (m : Nat) (f : Strs) (bit : Nat → Bool) (i : Nat) : Prop :=
  ∃ U B, SR R c m f U B ∧ (∀ d, d < c.n.toNat → U d = true) ∧ ∀ d, d < c.n.toNat → B d (ssecN c 0) = (decide (d < i) && bit d)
namespace LookI
variable {bit : Nat → Bool} {i : Nat}
theorem start {U : Nat → Bool} {B : Nat → Nat → Bool} (h : SR R c m f U B) (hU : ∀ d, d < c.n.toNat → U d = true) (hB : ∀ d, d < c.n.toNat → B d (ssecN c 0) = false) : LookI R c m f bit 0 :=
  ⟨U, B, h, hU, fun d hd => by rw [hB d hd]; simp⟩
theorem skip (h : LookI R c m f bit i) (hb : bit i = false) : LookI R c m f bit (i + 1) := by
  obtain ⟨U, B, h1, h2, h3⟩ := h
  refine ⟨U, B, h1, h2, fun d hd => ?_⟩
  rw [h3 d hd]
  by_cases e : d = i
  · subst e; rw [hb]; simp
  · rw [show decide (d < i) = decide (d < i + 1) from by rw [Bool.eq_iff_iff]; simp; omega]
theorem hurt {u : Nat → Bool} {b : Nat → Bool} {B : Nat → Nat → Bool} {R' : Rck} {U : Nat → Bool} (h1 : SR R' c m f (fun d => if d = i then true else U d) fun d => if d = i then b else B d) (h2 : ∀ d, d < c.n.toNat → U d = true) (h3 : ∀ d, d < c.n.toNat → B d (ssecN c 0) = (decide (d < i) && bit d)) (hb : bit i = true) (hs : b (ssecN c 0) = true) : LookI R' c m f bit (i + 1) := by
  refine ⟨_, _, h1, fun d hd => ?_, fun d hd => ?_⟩
  · show (if d = i then true else U d) = true
    split
    · rfl
    · exact h2 d hd
  · show (if d = i then b else B d) (ssecN c 0) = _
    by_cases e : d = i
    · subst e; rw [if_pos rfl, hs, hb]; simp
    · rw [if_neg e, h3 d hd, show decide (d < i) = decide (d < i + 1) from by rw [Bool.eq_iff_iff]; simp; omega]
theorem replace (h : LookI R c m f bit i) (hi : i < c.n.toNat) (hb : bit i = true) : LookI (R.replace i) c m f bit (i + 1) := by
  obtain ⟨U, B, h1, h2, h3⟩ := h
  exact hurt (u := U) (h1.replace hi) h2 h3 hb rfl
theorem rot (h : LookI R c m f bit i) (hi : i < c.n.toNat) (hb : bit i = true) (hn : c.n ≤ 6) {gen : Int} (hf : f 0 = some (gen, l)) : LookI (R.rot i (ssecN c 0 : Nat) (i : Nat) 1) c m f bit (i + 1) := by
  obtain ⟨U, B, h1, h2, h3⟩ := h
  obtain ⟨_, h4⟩ := h1.rot (y := 1) (a := i) hi (h2 i hi) hf (by rw [h3 i hi]; simp) (by omega) (by omega) (by omega)
  exact hurt (u := U) h4 h2 h3 hb (by simp)
theorem out (h : LookI R c m f bit c.n.toNat) {gen : Int} (hf : f 0 = some (gen, l)) : R.slook c 0 = (if (List.range c.n.toNat).filter (fun d => !bit d) = [] then 0 else gen, ((List.range c.n.toNat).filter (fun d => !bit d)).map fun d => (d, sfrag c l d)) := by
  obtain ⟨U, B, h1, h2, h3⟩ := h
  have hx := h1.fits 0 gen l hf
  have e : (List.range c.n.toNat).filter (SR.isG c U B 0) = (List.range c.n.toNat).filter (fun d => !bit d) := List.filter_congr fun d hd => by
    have hd := List.mem_range.1 hd
    unfold SR.isG
    rw [h2 d hd, h3 d hd, decide_eq_true hd]; simp
  rw [show R.slook c 0 = _ from h1.super.slook hx.st fun d hd => h1.sg hf hd]
  by_cases h0 : (List.range c.n.toNat).filter (fun d => !bit d) = []
  · rw [if_pos h0, h0]
    rw [h0] at e
    have hno : ∀ d, d < c.n.toNat → SR.gs c U B 0 gen l d = none := fun d hd => by
      unfold SR.gs
      rcases hb : SR.isG c U B 0 d with _ | _
      · rfl
      · have := List.mem_filter.2 ⟨List.mem_range.2 hd, hb⟩; rw [e] at this; cases this
    have e1 : newG (SR.gs c U B 0 gen l) c.n.toNat = 0 := by
      have a1 := newG_eq (g := SR.gs c U B 0 gen l) (G := 0) (by omega) c.n.toNat fun d f hd hf => by rw [hno d hd] at hf; cases hf
      have a2 := newG_nonneg (SR.gs c U B 0 gen l) c.n.toNat
      omega
    rw [e1]
    congr 1
    unfold partsG
    rw [List.filterMap_eq_nil_iff.2 fun d hd => by unfold partAt; rw [hno d (List.mem_range.1 hd)]; rfl]
    rfl
  · have hp : 0 < ((List.range c.n.toNat).filter (SR.isG c U B 0)).length := by
      rw [e]
      rcases hl : (List.range c.n.toNat).filter (fun d => !bit d) with _ | ⟨y, ys⟩
      · exact absurd hl h0
      · simp
    rw [if_neg h0, SR.newG_gs c U B 0 hx.g0 l _ hp, SR.parts c U B 0 hx.g0, e]
end LookI
end
end Go.Proofs.YthopnbklmlopkaaGreatDoor

/- More of what the statements of chapter 11 run: a newer frame, disks that are hurt, a put that is cut short, stripes apart. No program stands here. -/
namespace Go.Proofs.YthopnbklmlopkaaGreatDoor
set_option linter.unusedVariables false
section
variable {R : Rck} {c : Cfg} {m : Nat} {f : Strs} {gen : Int} {l : List (List Nat)} {U : Nat → Bool} {B : Nat → Nat → Bool}
/-- StripeOlder: one disk is handed a frame of a newer generation. -/
structure Older (R : Rck) (c : Cfg) (m x : Nat) (gen : Int) (l : List (List Nat)) (F : Frm) : Prop where
  sup : Super R c m
  up : R.online.length = c.n.toNat
  sg : ∀ d : Nat, d < c.n.toNat → (R.dsk d).sg c 0 d = if d = x then some F else some (sfrm 0 gen d (sfrag c l d))
theorem Older.made (h : SR R c m f allU B) (hB : ∀ d, d < c.n.toNat → B d (ssecN c 0) = false) {gen G : Int} (hf : f 0 = some (gen, l)) {x : Nat} (hx : x < c.n.toNat) {b : List Nat} (hb : b.length = 108) (hbb : ∀ y ∈ b, y < 256) (h1 : 0 ≤ G) (h2 : G ≤ 1152921504606846976) :
    ∃ R2 R3, (sfrm 0 G x b).put = (sfrm 0 G x b).bytes ∧ R.write x (ssecN c 0 : Nat) (sfrm 0 G x b).bytes = (none, R2) ∧ R2.flush x = (none, R3) ∧ Older R3 c m x gen l (sfrm 0 G x b) := by
  have hc := h.good
  have hxf := h.fits 0 gen l hf
  have hlt := ssecN_lt hc h.fit hxf.st
  have hok : (sfrm 0 G x b).Ok := ⟨hb, hbb⟩
  have hr : (sfrm 0 G x b).right = true := by
    have e1 : (sfrm 0 G x b).kind = 3 := rfl
    have e2 : (sfrm 0 G x b).slot = x := rfl
    have e3 : (sfrm 0 G x b).stripe = 0 := rfl
    have e4 : (sfrm 0 G x b).gen = G := rfl
    have q5 := hc.n1
    exact Frm.right_of (by omega) (by omega) (by omega) (by omega) (by omega) (by omega) (by omega) (by omega)
  have hlen := Frm.bytes_len _ hok
  have ha : (R.dsk x).dead = false := (h.dsk x hx).dead
  have w1 := h.live.write hx ha hlt hlen
  obtain ⟨l1, d1⟩ := h.live.setD ((R.dsk x).write (ssecN c 0) (sfrm 0 G x b).bytes) (h.dsk x hx).len hx
  have e1 : (R.setD x ((R.dsk x).write (ssecN c 0) (sfrm 0 G x b).bytes)).dsk x = (R.dsk x).write (ssecN c 0) (sfrm 0 G x b).bytes := by rw [d1, if_pos rfl]
  have w2 := l1.flush hx (by rw [e1]; exact ha)
  rw [e1] at w2
  obtain ⟨l2, d2⟩ := l1.setD (((R.dsk x).write (ssecN c 0) (sfrm 0 G x b).bytes).flush) (by rw [Dsk.flush_len]; exact (h.dsk x hx).len) hx
  have hd : ∀ d : Nat, ((R.setD x ((R.dsk x).write (ssecN c 0) (sfrm 0 G x b).bytes)).setD x ((R.dsk x).write (ssecN c 0) (sfrm 0 G x b).bytes).flush).dsk d = if d = x then ((R.dsk x).write (ssecN c 0) (sfrm 0 G x b).bytes).flush else R.dsk d := fun d => by
    rw [d2]
    by_cases e : d = x
    · rw [if_pos e, if_pos e]
    · rw [if_neg e, if_neg e, d1, if_neg e]
  refine ⟨_, _, by unfold Frm.put; rw [hr]; rfl, w1, w2, ⟨l2, hc, h.fit⟩, ?_, fun d hdn => ?_⟩
  · unfold Rck.online
    rw [l2.len, List.filter_eq_self.2 fun d hdm => ?_, List.length_range]
    have hdn := List.mem_range.1 hdm
    rw [l2.up hdn, hd d]
    split
    · rename_i e; show (!(R.dsk x).dead) = true; rw [ha]; rfl
    · rw [(h.dsk d hdn).dead]; rfl
  · rw [hd d]
    by_cases e : d = x
    · subst e
      rw [if_pos rfl, if_pos rfl]
      have hrd : ((R.dsk d).write (ssecN c 0) (sfrm 0 G d b).bytes).flush.read (ssecN c 0) = (sfrm 0 G d b).bytes := by
        rw [Dsk.flush_read _ _ (by show _ < (R.dsk d).l.length; rw [(h.dsk d hx).len]; exact hlt), Dsk.write_read, if_pos rfl]
      unfold Dsk.sg
      rw [hrd, Frm.get_bytes _ hok hr, show ((R.dsk d).write (ssecN c 0) (sfrm 0 G d b).bytes).flush.dead = false from ha]
      simp only [Bool.false_eq_true, if_false, Option.bind_some]
      rw [if_pos ⟨rfl, rfl, rfl⟩]
    · rw [if_neg e, if_neg e, h.sg hf hdn]
      unfold SR.gs SR.isG
      rw [hB d hdn]; rfl
theorem Older.look {x : Nat} {gen G : Int} {b : List Nat} (h : Older R c m x gen l (sfrm 0 G x b)) (hx : x < c.n.toNat) (h1 : 1 ≤ gen) (h2 : gen < G) :
    newG (fun d => if d = x then some (sfrm 0 G x b) else some (sfrm 0 gen d (sfrag c l d))) c.n.toNat = G ∧ partsG (fun d => if d = x then some (sfrm 0 G x b) else some (sfrm 0 gen d (sfrag c l d))) G c.n.toNat = [(x, b)] := by
  constructor
  · refine newG_is (d := x) (f := sfrm 0 G x b) (by omega) (fun d g _ hg => ?_) hx (if_pos rfl) rfl
    have hg : (if d = x then some (sfrm 0 G x b) else some (sfrm 0 gen d (sfrag c l d))) = some g := hg
    split at hg
    · cases hg; exact Int.le_refl _
    · cases hg; show gen ≤ G; omega
  · have : ∀ n, x < n → partsG (fun d => if d = x then some (sfrm 0 G x b) else some (sfrm 0 gen d (sfrag c l d))) G n = [(x, b)] := fun n => by
      induction n with
      | zero => intro q; omega
      | succ n ih =>
        intro q
        rw [partsG_succ]
        by_cases e : n = x
        · subst e
          have e0 : partsG (fun d => if d = n then some (sfrm 0 G n b) else some (sfrm 0 gen d (sfrag c l d))) G n = [] := by
            unfold partsG
            rw [List.filterMap_eq_nil_iff]
            intro d hd
            have hd := List.mem_range.1 hd
            unfold partAt
            simp only
            rw [if_neg (by omega)]
            simp only [Option.bind_some]
            rw [if_neg (fun q => by have : gen = G := q.1; omega)]
          rw [e0]
          unfold partAt
          simp only [if_true, Option.bind_some]
          rw [if_pos ⟨rfl, by show G ≠ 0; omega⟩]
          rfl
        · rw [ih (by omega)]
          unfold partAt
          simp only
          rw [if_neg e]
          simp only [Option.bind_some]
          rw [if_neg (fun q => by have : gen = G := q.1; omega)]
          rfl
    exact this _ hx
theorem Older.slook {x : Nat} {gen G : Int} {b : List Nat} (h : Older R c m x gen l (sfrm 0 G x b)) (hs : 0 < c.stripes.toNat) (hx : x < c.n.toNat) (h1 : 1 ≤ gen) (h2 : gen < G) : R.slook c 0 = (G, [(x, b)]) := by
  obtain ⟨a1, a2⟩ := h.look hx h1 h2
  have := h.sup.slook hs h.sg
  rw [a1, a2] at this
  exact this
theorem Older.sget {x : Nat} {gen G : Int} {b : List Nat} (h : Older R c m x gen l (sfrm 0 G x b)) (hs : 0 < c.stripes.toNat) (hx : x < c.n.toNat) (h1 : 1 ≤ gen) (h2 : gen < G) :
    R.sget c 0 = if c.k = 1 then (decoded c [(x, b)], G, none) else ([], 0, some (.fault sSGet 0 (.loss 0 1 c.k))) := by
  have hlk := h.slook hs hx h1 h2
  have hk := h.sup.good.k0
  have hk1 := h.sup.good.k1
  have hup := h.up
  have hkn : R.sknown c 0 = true := h.sup.sknown hs
  unfold Rck.sget
  rw [if_pos hkn, if_neg (by rw [h.sup.live.off]; simp; omega), hlk]
  simp only [List.length_cons, List.length_nil]
  by_cases e : c.k = 1
  · rw [if_pos e, if_neg (by omega)]
  · rw [if_neg e, if_pos (by omega)]; rfl
/-- StripeBudget: so many disks are hurt, no disk twice. -/
structure Budg (R : Rck) (c : Cfg) (m : Nat) (f : Strs) (s : Nat) (L : List Nat) (on : Nat) : Prop where
  ex : ∃ U B, SR R c m f U B ∧ (∀ d, d < c.n.toNat → d ∈ L → SR.isG c U B s d = true) ∧ cntP (SR.isG c U B s) c.n.toNat = L.length ∧ cntP U c.n.toNat = on
  nodup : L.Nodup
  lt : ∀ d ∈ L, d < c.n.toNat
namespace Budg
variable {s on : Nat} {L : List Nat}
theorem start (h : SR R c m f U B) (hU : ∀ d, d < c.n.toNat → U d = true) (hB : ∀ d, d < c.n.toNat → B d (ssecN c s) = false) : Budg R c m f s (List.range c.n.toNat) c.n.toNat := by
  have hg : ∀ d, d < c.n.toNat → SR.isG c U B s d = true := fun d hd => by unfold SR.isG; rw [hU d hd, hB d hd]; rfl
  exact ⟨⟨U, B, h, fun d hd _ => hg d hd, by rw [cntP_all hg, List.length_range], cntP_all hU⟩, List.nodup_range, fun d hd => List.mem_range.1 hd⟩
theorem mem_erase {L : List Nat} (hn : L.Nodup) {x : Nat} (hx : x < L.length) {d : Nat} (hd : d ∈ L.eraseIdx x) : d ∈ L ∧ d ≠ L[x] := by
  refine ⟨List.mem_of_mem_eraseIdx hd, fun e => ?_⟩
  rw [List.mem_eraseIdx_iff_getElem?] at hd
  obtain ⟨i, hi, hg⟩ := hd
  have hil : i < L.length := by
    rcases Nat.lt_or_ge i L.length with q | q
    · exact q
    · rw [List.getElem?_eq_none q] at hg; cases hg
  rw [List.getElem?_eq_getElem hil] at hg
  have hg : L[i] = d := by simpa using hg
  exact hi ((List.getElem_inj hn).1 (hg.trans e))
theorem hurt (h : Budg R c m f s L on) {x : Nat} (hx : x < L.length) {R' : Rck} {u : Bool} {b : (Nat → Nat → Bool) → Nat → Bool}
    (h1 : ∀ U B, SR R c m f U B → U L[x] = true → B L[x] (ssecN c s) = false → SR R' c m f (fun d => if d = L[x] then u else U d) fun d => if d = L[x] then b B else B d) (hb : u = false ∨ ∀ B, b B (ssecN c s) = true) : Budg R' c m f s (L.eraseIdx x) (if u then on else on - 1) := by
  obtain ⟨U, B, q1, q2, q3, q4⟩ := h.ex
  have hxn : L[x] < c.n.toNat := h.lt _ (List.getElem_mem hx)
  have hg := q2 _ hxn (List.getElem_mem hx)
  have hg' := hg
  unfold SR.isG at hg'
  simp only [Bool.and_eq_true, Bool.not_eq_true'] at hg'
  have n1 := h1 U B q1 hg'.1 hg'.2
  have same : ∀ d, d ≠ L[x] → SR.isG c (fun d => if d = L[x] then u else U d) (fun d => if d = L[x] then b B else B d) s d = SR.isG c U B s d := fun d hd => by
    unfold SR.isG
    simp only [if_neg hd]
  have gone : SR.isG c (fun d => if d = L[x] then u else U d) (fun d => if d = L[x] then b B else B d) s L[x] = false := by
    unfold SR.isG
    simp only [if_true]
    rcases hb with rfl | hb
    · rfl
    · rw [hb]; simp
  refine ⟨⟨_, _, n1, fun d hd hm => ?_, ?_, ?_⟩, h.nodup.eraseIdx x, fun d hd => h.lt d (List.mem_of_mem_eraseIdx hd)⟩
  · obtain ⟨m1, m2⟩ := mem_erase h.nodup hx hm
    rw [same d m2]; exact q2 d hd m1
  · have := cntP_flip hxn (fun d _ hne => (same d hne).symm) hg gone
    rw [q3] at this
    rw [List.length_eraseIdx, if_pos hx]
    omega
  · rcases u with _ | _
    · have := cntP_flip (P := U) (P' := fun d => if d = L[x] then false else U d) hxn (fun d _ hne => by simp only [if_neg hne]) hg'.1 (by simp)
      rw [q4] at this
      simp only [Bool.false_eq_true, if_false]
      omega
    · rw [← q4]
      simp only [if_true]
      refine cntP_congr fun d _ => ?_
      by_cases e : d = L[x]
      · rw [if_pos e, e, hg'.1]
      · rw [if_neg e]
theorem die (h : Budg R c m f s L on) {x : Nat} (hx : x < L.length) : Budg (R.die (L[x] : Nat)) c m f s (L.eraseIdx x) (on - 1) :=
  h.hurt hx (u := false) (b := fun _ => allB) (fun U B q _ _ => q.die (h.lt _ (List.getElem_mem hx))) (.inl rfl)
theorem replace (h : Budg R c m f s L on) {x : Nat} (hx : x < L.length) : Budg (R.replace (L[x] : Nat)) c m f s (L.eraseIdx x) on :=
  h.hurt hx (u := true) (b := fun _ => allB) (fun U B q _ _ => q.replace (h.lt _ (List.getElem_mem hx))) (.inr fun _ => rfl)
theorem rot (h : Budg R c m f s L on) {x : Nat} (hx : x < L.length) {gen : Int} (hf : f s = some (gen, l)) {a y : Nat} (ha : a ≤ 124) (hy : y < 4294967296) (hy0 : y ≠ 0) : Budg (R.rot (L[x] : Nat) (ssecN c s : Nat) (a : Nat) y) c m f s (L.eraseIdx x) on :=
  h.hurt hx (u := true) (b := fun B j => B L[x] j || decide (j = ssecN c s)) (fun U B q hu hb => (q.rot (y := y) (a := a) (h.lt _ (List.getElem_mem hx)) hu hf hb ha hy hy0).2) (.inr fun _ => by simp)
/-- Enough are left. -/
theorem get (h : Budg R c m f s L on) (k4 : c.k ≤ 4) (n6 : c.n ≤ 6) {gen : Int} (hf : f s = some (gen, l)) (hk : c.k ≤ (L.length : Nat)) : R.sget c (s : Int) = (l, gen, none) := by
  obtain ⟨U, B, q1, q2, q3, q4⟩ := h.ex
  refine q1.get k4 n6 hf ?_
  have : ((List.range c.n.toNat).filter (SR.isG c U B s)).length = L.length := q3
  rw [this]; exact hk
theorem lost (h : Budg R c m f s L on) {gen : Int} (hf : f s = some (gen, l)) (hk : (L.length : Int) < c.k) (hon : c.k ≤ on) : R.sget c (s : Int) = ([], 0, some (.fault sSGet s (.loss s L.length c.k))) := by
  obtain ⟨U, B, q1, q2, q3, q4⟩ := h.ex
  have e1 : ((List.range c.n.toNat).filter (SR.isG c U B s)).length = L.length := q3
  have e2 : ((List.range c.n.toNat).filter U).length = on := q4
  have := q1.lost hf (by rw [e1]; exact hk) (by rw [e2]; exact hon)
  rw [e1] at this
  exact this
theorem few (h : Budg R c m f s L on) (hs : s < c.stripes.toNat) (hon : (on : Int) < c.k) : R.sget c (s : Int) = ([], 0, some (.fault sSGet s (.no 7))) := by
  obtain ⟨U, B, q1, q2, q3, q4⟩ := h.ex
  have e2 : ((List.range c.n.toNat).filter U).length = on := q4
  exact q1.few hs (by rw [e2]; exact hon)
end Budg
/-- StripeNever: of a stripe a disk has the one frame or the other; what waits is the other's. -/
structure CutS (c : Cfg) (m : Nat) (F G : Nat → Frm) (d : Nat) (D : Dsk) : Prop where
  len : D.l.length = m
  alive : D.dead = false
  base : D.l.getD (ssecN c 0) [] = (F d).bytes ∨ D.l.getD (ssecN c 0) [] = (G d).bytes
  wait : D.waits (ssecN c 0) = none ∨ D.waits (ssecN c 0) = some (G d).bytes
namespace CutS
variable {F G : Nat → Frm} {d : Nat} {D : Dsk}
theorem read (h : CutS c m F G d D) : D.read (ssecN c 0) = (F d).bytes ∨ D.read (ssecN c 0) = (G d).bytes := by
  unfold Dsk.read
  rcases h.wait with e | e
  · rw [e]; exact h.base
  · rw [e]; exact .inr rfl
theorem write (h : CutS c m F G d D) : CutS c m F G d (D.write (ssecN c 0) (G d).bytes) := ⟨h.len, h.alive, h.base, .inr (if_pos rfl)⟩
theorem settle (h : CutS c m F G d D) (hlt : ssecN c 0 < m) (g : Nat → Bool) : CutS c m F G d (D.settle g) := by
  refine ⟨by rw [Dsk.settle_len]; exact h.len, h.alive, ?_, .inl rfl⟩
  have e : (D.settle g).l.getD (ssecN c 0) [] = (D.settle g).read (ssecN c 0) := rfl
  rw [e, Dsk.settle_read D g _ (by rw [h.len]; exact hlt)]
  split
  · exact h.read
  · exact h.base
end CutS
structure CutSR (c : Cfg) (m : Nat) (F G : Nat → Frm) (R : Rck) : Prop where
  len : R.l.length = c.n.toNat
  dsk : ∀ d : Nat, d < c.n.toNat → CutS c m F G d (R.dsk d)
namespace CutSR
variable {F G : Nat → Frm}
theorem of_l (h : CutSR c m F G R) {R' : Rck} (e : R'.l = R.l) : CutSR c m F G R' := ⟨by rw [e]; exact h.len, fun d hd => by unfold Rck.dsk; rw [e]; exact h.dsk d hd⟩
theorem set (h : CutSR c m F G R) {i : Nat} (hi : i < c.n.toNat) {D : Dsk} (hD : CutS c m F G i D) : CutSR c m F G (R.setD i D) := ⟨by simp [Rck.setD, h.len], fun d hd => by
  rw [Rck.dsk_setD R h.len hi]
  split
  · rename_i e; rw [e]; exact hD
  · exact h.dsk d hd⟩
theorem put (h : CutSR c m F (fun d => sfrm 0 gen d (sfrag c l d)) R) (hc : c.Good) (hm : c.sectors ≤ (m : Int)) (hx : SFit c 0 gen l) : CutSR c m F (fun d => sfrm 0 gen d (sfrag c l d)) (R.sputs c 0 gen l).2 := by
  have hlt := ssecN_lt hc hm hx.st
  have on : ∀ {R : Rck}, CutSR c m F (fun d => sfrm 0 gen d (sfrag c l d)) R → ∀ d ∈ R.online, d < c.n.toNat := fun {R} h d hd => by
    unfold Rck.online at hd
    have := List.mem_range.1 (List.mem_filter.1 hd).1
    rw [h.len] at this; exact this
  have h1 := each_inv (f := Rck.srow c 0 gen l) (CutSR c m F (fun d => sfrm 0 gen d (sfrag c l d))) R.online (fun d hd R' h' => by
    have hd := on h d hd
    unfold Rck.srow
    rw [show Rck.ssec c 0 = ((ssecN c 0 : Nat) : Int) from ssec_eq hc 0, show (sfrm 0 gen d (sfrag c l d)).put = (sfrm 0 gen d (sfrag c l d)).bytes from hx.put hc hd]
    unfold Rck.write
    split
    · refine (h'.of_l (Rck.asked_lP _ _ _)).set hd ?_
      rw [Int.toNat_natCast]
      exact (h'.dsk d hd).write
    · exact h'.of_l (Rck.asked_lP _ _ _)) R h
  unfold Rck.sputs
  split
  · exact h1
  · refine each_inv (f := fun R (d : Nat) => R.flush d) (CutSR c m F (fun d => sfrm 0 gen d (sfrag c l d))) _ (fun d hd R h => ?_) _ h1
    have hd := on h1 d hd
    unfold Rck.flush
    split
    · exact (h.of_l (Rck.asked_lP _ _ _)).set hd ((h.dsk d hd).settle hlt _)
    · exact h.of_l (Rck.asked_lP _ _ _)
theorem boot (h : CutSR c m F G R) (hc : c.Good) (hlt : ssecN c 0 < m) (bits : List Nat) : Live (R.boot bits) c.n.toNat m ∧ CutSR c m F G (R.boot bits) ∧ ∀ j : Nat, j < c.n.toNat → (R.boot bits).dsk j = (R.dsk j).crash (bits.getD j 0) := by
  have hd : ∀ j : Nat, j < c.n.toNat → (R.boot bits).dsk j = (R.dsk j).crash (bits.getD j 0) := fun j hj => by
    unfold Rck.boot Rck.dsk
    simp [List.getD_eq_getElem?_getD, h.len, hj]
  have hl : (R.boot bits).l.length = c.n.toNat := by simp [Rck.boot, h.len]
  have h2 : CutSR c m F G (R.boot bits) := ⟨hl, fun j hj => by rw [hd j hj]; exact (h.dsk j hj).settle hlt _⟩
  have hn : 1 ≤ c.n.toNat := by have := hc.k0; have := hc.k1; omega
  exact ⟨⟨hl, fun j hj => (h2.dsk j hj).len, rfl, rfl, hn⟩, h2, hd⟩
end CutSR
namespace CutAll
variable {X Y : List (List Nat)}
/-- What is read behind it. -/
theorem told (hC : CutSR c m (fun d => sfrm 0 5 d (sfrag c X d)) (fun d => sfrm 0 6 d (sfrag c Y d)) R) (hL : Live R c.n.toNat m) (hc : c.Good) (hm : c.sectors ≤ (m : Int)) (k4 : c.k ≤ 4) (n6 : c.n ≤ 6) (hX : SFit c 0 5 X) (hY : SFit c 0 6 Y) :
    R.sget c 0 = (X, 5, none) ∨ R.sget c 0 = (Y, 6, none) ∨ ∃ h : Nat, 1 ≤ h ∧ (h : Int) < c.k ∧ R.sget c 0 = ([], 0, some (.fault sSGet 0 (.loss 0 h c.k))) := by
  have hS : Super R c m := ⟨hL, hc, hm⟩
  have hk0 := hc.k0; have hk1 := hc.k1
  have hgd : ∀ d : Nat, d < c.n.toNat → (R.dsk d).sg c 0 d = some (sfrm 0 5 d (sfrag c X d)) ∨ (R.dsk d).sg c 0 d = some (sfrm 0 6 d (sfrag c Y d)) := fun d hd => by
    rcases (hC.dsk d hd).read with e | e
    · exact .inl (Dsk.sg_has hc hX hd (hC.dsk d hd).alive e)
    · exact .inr (Dsk.sg_has hc hY hd (hC.dsk d hd).alive e)
  obtain ⟨g, hg⟩ : ∃ g : Nat → Option Frm, g = fun d : Nat => (R.dsk d).sg c 0 d := ⟨_, rfl⟩
  have hg' : ∀ d : Nat, d < c.n.toNat → (R.dsk d).sg c 0 d = g d := fun d _ => by rw [hg]
  have hon : R.online.length = c.n.toNat := by
    unfold Rck.online
    rw [hL.len, List.filter_eq_self.2 fun d hdm => ?_, List.length_range]
    have hdn := List.mem_range.1 hdm
    rw [hL.up hdn, (hC.dsk d hdn).alive]; rfl
  have h56 : ∀ d f, d < c.n.toNat → g d = some f → (f.gen = 5 ∧ f.data = sfrag c X d) ∨ (f.gen = 6 ∧ f.data = sfrag c Y d) := fun d f hd hf => by
    rw [← hg' d hd] at hf
    rcases hgd d hd with e | e
    · rw [e] at hf; cases hf; exact .inl ⟨rfl, rfl⟩
    · rw [e] at hf; cases hf; exact .inr ⟨rfl, rfl⟩
  have hall : ∀ d, d < c.n.toNat → ∃ f, g d = some f := fun d hd => by
    rw [← hg' d hd]
    rcases hgd d hd with e | e
    · exact ⟨_, e⟩
    · exact ⟨_, e⟩
  by_cases h6 : ∃ d, d < c.n.toNat ∧ hasG g 6 d = true
  · obtain ⟨d0, hd0, h60⟩ := h6
    have hN : newG g c.n.toNat = 6 := by
      obtain ⟨f, hf⟩ := hall d0 hd0
      unfold hasG at h60
      rw [hf] at h60
      exact newG_is (by omega) (fun d f hd hf => by rcases h56 d f hd hf with q | q <;> omega) hd0 hf (by simpa using h60)
    have hP : partsG g 6 c.n.toNat = ((List.range c.n.toNat).filter (hasG g 6)).map fun d => (d, sfrag c Y d) := partsG_eq (by omega) fun d f hd hf he => by
      rcases h56 d f hd hf with q | q
      · omega
      · exact q.2
    have hp0 : 0 < ((List.range c.n.toNat).filter (hasG g 6)).length := by
      have : d0 ∈ (List.range c.n.toNat).filter (hasG g 6) := List.mem_filter.2 ⟨List.mem_range.2 hd0, h60⟩
      exact List.length_pos_of_mem this
    by_cases hk : c.k.toNat ≤ ((List.range c.n.toNat).filter (hasG g 6)).length
    · refine .inr (.inl (hS.sget_ok k4 n6 hX.st hg' hY.bl (by omega) (fun d f hd hf => ?_) hk (by rw [hon]; omega)))
      rcases h56 d f hd hf with q | q
      · exact ⟨by omega, fun e => by omega⟩
      · exact ⟨by omega, fun _ => q.2⟩
    · refine .inr (.inr ⟨((List.range c.n.toNat).filter (hasG g 6)).length, hp0, by omega, ?_⟩)
      have := hS.sget_lost hX.st hg' (by rw [hN, hP, List.length_map]; omega) (by rw [hon]; omega)
      rw [hN, hP, List.length_map] at this
      exact this
  · have h5 : ∀ d f, d < c.n.toNat → g d = some f → f.gen = 5 ∧ f.data = sfrag c X d := fun d f hd hf => by
      rcases h56 d f hd hf with q | q
      · exact q
      · exfalso
        refine h6 ⟨d, hd, ?_⟩
        unfold hasG
        rw [hf]; simp [q.1]
    have hfil : (List.range c.n.toNat).filter (hasG g 5) = List.range c.n.toNat := List.filter_eq_self.2 fun d hd => by
      have hd := List.mem_range.1 hd
      obtain ⟨f, hf⟩ := hall d hd
      unfold hasG
      rw [hf]; simp [(h5 d f hd hf).1]
    refine .inl (hS.sget_ok k4 n6 hX.st hg' hX.bl (by omega) (fun d f hd hf => ⟨by have := (h5 d f hd hf).1; omega, fun _ => (h5 d f hd hf).2⟩) ?_ (by rw [hon]; omega))
    rw [hfil, List.length_range]; omega
/-- The whole of it: armed, put, booted. -/
theorem all (h : SR R c m f allU B) (hB : ∀ d, d < c.n.toNat → B d (ssecN c 0) = false) (hf : f 0 = some (5, X)) (hY : SFit c 0 6 Y) (k4 : c.k ≤ 4) (n6 : c.n ≤ 6) (F : Nat) (hF : F ≤ c.n.toNat + c.n.toNat) (bits : List Nat) :
    ((R.arm F).sput c 0 6 Y).1.isNone = decide (F = c.n.toNat + c.n.toNat) ∧
    (let R3 := ((R.arm F).sput c 0 6 Y).2.boot bits
     (R3.sget c 0 = (X, 5, none) ∨ R3.sget c 0 = (Y, 6, none) ∨ ∃ h : Nat, 1 ≤ h ∧ (h : Int) < c.k ∧ R3.sget c 0 = ([], 0, some (.fault sSGet 0 (.loss 0 h c.k)))) ∧ (F = c.n.toNat + c.n.toNat → R3.sget c 0 = (Y, 6, none))) := by
  have hc := h.good
  have hX := h.fits 0 5 X hf
  have hlt := ssecN_lt hc h.fit hX.st
  have hA : R.arm F = { R with fuse := (F : Int) } := by
    unfold Rck.arm
    rw [show max (F : Int) (-1) = F by omega]
  have hP : Pow (R.arm F) c.n.toNat m F := by
    rw [hA]
    have := h.pow fun _ _ => rfl
    exact ⟨this.len, this.secs, this.alive, this.off, rfl, this.pos⟩
  have hC : CutSR c m (fun d => sfrm 0 5 d (sfrag c X d)) (fun d => sfrm 0 6 d (sfrag c Y d)) (R.arm F) := by
    rw [hA]
    refine ⟨h.live.len, fun d hd => ?_⟩
    have hw := h.dsk d hd
    have hr := hw.has 0 5 X hX.st hf (hB d hd)
    unfold Dsk.read at hr
    rw [hw.waits] at hr
    exact ⟨hw.len, hw.dead, .inl hr, .inl (hw.waits _)⟩
  have hfits : (R.arm F).fits c = true := by
    have e : (R.arm F).fits c = R.fits c := by rw [hA]; rfl
    rw [e]; exact h.super.fits
  have hput : (R.arm F).sput c 0 6 Y = (((R.arm F).sputs c 0 6 Y).1.map (.fault sSPut 0), ((R.arm F).sputs c 0 6 Y).2) := by
    unfold Rck.sput
    rw [if_pos]
    unfold Rck.sputOk Rck.sknown
    rw [hfits]
    have q1 := hY.lenk hc
    have q2 := hc.st0
    simp only [Bool.true_and, Bool.and_eq_true, decide_eq_true_eq]
    exact ⟨⟨⟨⟨by omega, by omega⟩, by omega⟩, by omega⟩, q1⟩
  have hcut := hC.put hc h.fit hY
  have hdo := does_sput hc h.fit hY (R.arm F) F hP
  rw [hput]
  simp only
  obtain ⟨hL, hB', hD⟩ := hcut.boot hc hlt bits
  refine ⟨?_, told hB' hL hc h.fit k4 n6 hX hY, fun e => ?_⟩
  · by_cases e : F = c.n.toNat + c.n.toNat
    · obtain ⟨R', q, _⟩ := hdo.1 (.inr (by omega))
      have q' : (R.arm F).sputs c 0 6 Y = (none, R') := q
      rw [q', decide_eq_true e]; rfl
    · obtain ⟨er, R', q⟩ := hdo.2 (by omega) (by omega)
      have q' : (R.arm F).sputs c 0 6 Y = (some er, R') := q
      rw [q', decide_eq_false e]; rfl
  · obtain ⟨R', q, q2, q3⟩ := hdo.1 (.inr (by omega))
    have q' : (R.arm F).sputs c 0 6 Y = (none, R') := q
    rw [q'] at hL hB' hD ⊢
    simp only at hL hB' hD ⊢
    have hS : Super (R'.boot bits) c m := ⟨hL, hc, h.fit⟩
    have hk0 := hc.k0; have hk1 := hc.k1
    have hg : ∀ d : Nat, d < c.n.toNat → ((R'.boot bits).dsk d).sg c 0 d = (fun d => some (sfrm 0 6 d (sfrag c Y d))) d := fun d hd => by
      refine Dsk.sg_has hc hY hd (hB'.dsk d hd).alive ?_
      have e2 : R'.dsk d = (((R.arm F).dsk d).sw c 0 6 Y d).flush := q3 d hd
      have hl : (R'.dsk d).l.length = m := q2.secs d hd
      have hr : (R'.dsk d).read (ssecN c 0) = (sfrm 0 6 d (sfrag c Y d)).bytes := by
        rw [e2, Dsk.sw_read _ _ _ (by rw [hP.secs d hd]; exact hlt), if_pos rfl]; rfl
      have hw : (R'.dsk d).waits (ssecN c 0) = none := by rw [e2]; rfl
      rw [hD d hd]
      unfold Dsk.crash
      rw [Dsk.settle_read _ _ _ (by rw [hl]; exact hlt)]
      have hr2 := hr
      unfold Dsk.read at hr2
      rw [hw] at hr2
      split
      · exact hr
      · exact hr2
    have hon : (R'.boot bits).online.length = c.n.toNat := by
      unfold Rck.online
      rw [hL.len, List.filter_eq_self.2 fun d hdm => ?_, List.length_range]
      have hdn := List.mem_range.1 hdm
      rw [hL.up hdn, (hB'.dsk d hdn).alive]; rfl
    refine hS.sget_ok k4 n6 hX.st hg hY.bl (by omega) (fun d f _ hf => by cases hf; exact ⟨Int.le_refl _, fun _ => rfl⟩) ?_ (by rw [hon]; omega)
    rw [List.filter_eq_self.2 fun d _ => by unfold hasG; simp [sfrm], List.length_range]; omega
end CutAll
/-- StripeApart: what a put leaves on each disk. -/
theorem SR.put_read (h : SR R c m f allU B) {s : Nat} {gen : Int} (hx : SFit c s gen l) {R' : Rck} (hp : R.sput c (s : Int) gen l = (none, R')) {d j : Nat} (hd : d < c.n.toNat) (hj : j < m) (hne : j ≠ ssecN c s) : (R'.dsk d).read j = (R.dsk d).read j := by
  obtain ⟨R2, h1, _, h3⟩ := sput_does (h.pow fun _ _ => rfl) h.good h.fit hx
  rw [hp] at h1
  cases h1
  rw [h3 d hd, Dsk.sw_read _ _ _ (by rw [(h.dsk d hd).len]; exact hj), if_neg hne]
end
end Go.Proofs.YthopnbklmlopkaaGreatDoor

/- The parts that a look tells: whose they are. No program stands here. -/
namespace Go.Proofs.YthopnbklmlopkaaGreatDoor
set_option linter.unusedVariables false
theorem partAt_some {g : Nat → Option Frm} {G : Int} {d : Nat} {p : Nat × List Nat} (h : partAt g G d = some p) : p.1 = d ∧ ∃ f, g d = some f ∧ p.2 = f.data := by
  unfold partAt at h
  rcases hg : g d with _ | f
  · rw [hg] at h; cases h
  · rw [hg] at h
    simp only [Option.bind_some] at h
    split at h
    · cases h; exact ⟨rfl, f, rfl, rfl⟩
    · cases h
theorem partsG_mem {g : Nat → Option Frm} {G : Int} {n : Nat} {p : Nat × List Nat} (h : p ∈ partsG g G n) : p.1 < n ∧ ∃ f, g p.1 = some f ∧ p.2 = f.data := by
  unfold partsG at h
  obtain ⟨d, hd, hp⟩ := List.mem_filterMap.1 h
  obtain ⟨rfl, f, h1, h2⟩ := partAt_some hp
  exact ⟨List.mem_range.1 hd, f, h1, h2⟩
theorem partsG_nodup (g : Nat → Option Frm) (G : Int) : ∀ n, ((partsG g G n).map (·.1)).Nodup
  | 0 => by simp [partsG]
  | n + 1 => by
    rw [partsG_succ, List.map_append]
    rcases hp : partAt g G n with _ | p
    · simpa using partsG_nodup g G n
    · rw [List.nodup_append]
      refine ⟨partsG_nodup g G n, by simp, ?_⟩
      intro a ha b hb
      obtain ⟨q, hq, rfl⟩ := List.mem_map.1 ha
      simp only [Option.toList_some, List.map_cons, List.map_nil, List.mem_singleton] at hb
      have h1 := (partsG_mem hq).1
      have h2 := (partAt_some hp).1
      omega
theorem partsG_len (g : Nat → Option Frm) (G : Int) : ∀ n, (partsG g G n).length ≤ n
  | 0 => by simp [partsG]
  | n + 1 => by
    have := partsG_len g G n
    rw [partsG_succ]
    rcases hp : partAt g G n with _ | p <;> simp <;> omega
/-- A stripe that is known is looked at on all disks. -/
theorem Rck.slook_eq {R : Rck} {c : Cfg} {s : Int} (h : R.sknown c s = true) : R.slook c s = (newG (R.sgood c s) c.n.toNat, partsG (R.sgood c s) (newG (R.sgood c s) c.n.toNat) c.n.toNat) := by
  unfold Rck.slook
  rw [if_pos h, look_fold]
end Go.Proofs.YthopnbklmlopkaaGreatDoor
