/- Texts of one proof, joined: CutD. -/
import Derived.Test.YthopnbklmlopkaaGreatDoorQZ
set_option linter.unusedVariables false
set_option linter.unusedSimpArgs false
namespace Go.Proofs.YthopnbklmlopkaaGreatDoor
set_option linter.unusedVariables false
open Go.Proofs.YthopnbklmlopkaaGreatDoor.GT (cnt Played Opened Shut)
structure CrS (c : Cfg) (j : Nat → Option Rcd) (f : Strs) (p : Rcd) (a : Nat) (J : Nat → Rcd → Prop) (S : Nat → Int × List (List Nat) → Prop) : Prop where
 slot : ∀ s x, s < c.slots.toNat → J s x → j s = some x ∨ (s = a ∧ (x = p ∨ x = blRec c))
 str : ∀ t y, t < c.stripes.toNat → S t y → f t = some y ∨ ((t : Int) = p.stripe ∧ y = (p.seq, p.blocks))
 cls : (∀ t y, t < c.stripes.toNat → S t y → f t = some y) ∨ ∀ x, J a x → x = p
section
variable {R : Rck} {c : Cfg} {m : Nat} {cur F : Int} {j : Nat → Option Rcd} {f : Strs} {p : Rcd} {a : Nat} {J : Nat → Rcd → Prop} {S : Nat → Int × List (List Nat) → Prop}
theorem CrS.cr (h : CrS c j f p a J S) (pc : PC R c m J S) : Cr R c m j f p a := ⟨J, S, pc, h.slot, h.str, h.cls⟩
theorem CrS.fitJ (h : CrS c j f p a J S) (hc : c.Good) (hv : VI c cur j f) (hp : Pnd c cur p a) {s : Nat} {x : Rcd} (hs : s < c.slots.toNat) (hx : J s x) : x.Fit c s ∧ (x.blocks.length : Int) = c.k := by
 rcases h.slot s x hs hx with q | ⟨rfl, rfl | rfl⟩
 ·
  exact ⟨(hv.fit hs q).1, (hv.fit hs q).2.1⟩
 ·
  exact ⟨hp.fit, hp.len⟩
 ·
  exact GT.blRec_fit hc
theorem CrS.fitS (h : CrS c j f p a J S) (hv : VI c cur j f) (hp : Pnd c cur p a) {t : Nat} {y : Int × List (List Nat)} (ht : t < c.stripes.toNat) (hy : S t y) : SFit c t y.1 y.2 := by
 rcases h.str t y ht hy with q | ⟨q1, rfl⟩
 ·
  exact hv.vv.sfit q ht
 ·
  have := GT.fit_of hp.fit hp.len (hp.ge hv)
  rw [show p.stripe.toNat = t by omega] at this
  exact this
theorem GH.gt (g : GH R c m J S) (fj : ∀ s x, s < c.slots.toNat → J s x → x.Fit c s ∧ (x.blocks.length : Int) = c.k) (fs : ∀ t y, t < c.stripes.toNat → S t y → SFit c t y.1 y.2) :
  ∃ jr st, GT R c m (fun _ => true) (fun _ => true) jr st ∧ (∀ d s i, d < c.n.toNat → s < c.slots.toNat → i < c.k.toNat → ∃ x, jr d s i = some x ∧ J s x) ∧ ∀ d t, d < c.n.toNat → t < c.stripes.toNat → ∃ y, st d t = some y ∧ S t y := by
 have hc := g.good
 have m0 : 0 < m := by
  have h1 := Za0 hc g.fit (s := 0) (by have := hc.st0; omega)
  omega
 have cj : ∀ d s i, ∃ o : Option Rcd, d < c.n.toNat → s < c.slots.toNat → i < c.k.toNat → ∃ x, o = some x ∧ J s x ∧ (R.dsk (d : Nat)).read (jsecN c s i) = (x.frm i).bytes := fun d s i => by
  by_cases q : d < c.n.toNat ∧ s < c.slots.toNat ∧ i < c.k.toNat
  ·
   obtain ⟨x, h1, h2⟩ := ((g.pc.dsk d q.1).read (Zbf hc g.fit q.2.1 q.2.2)).jr s i q.2.1 q.2.2 rfl
   exact ⟨some x, fun _ _ _ => ⟨x, rfl, h1, h2⟩⟩
  ·
   exact ⟨none, fun a1 a2 a3 => absurd ⟨a1, a2, a3⟩ q⟩
 have cs : ∀ d t, ∃ o : Option (Int × List (List Nat)), d < c.n.toNat → t < c.stripes.toNat → ∃ y, o = some y ∧ S t y ∧ (R.dsk (d : Nat)).read (ssecN c t) = (sfrm t y.1 d (sfrag c y.2 d)).bytes := fun d t => by
  by_cases q : d < c.n.toNat ∧ t < c.stripes.toNat
  ·
   obtain ⟨y, h1, h2⟩ := ((g.pc.dsk d q.1).read (Za0 hc g.fit q.2)).st t q.2 rfl
   exact ⟨some y, fun _ _ => ⟨y, rfl, h1, h2⟩⟩
  ·
   exact ⟨none, fun a1 a2 => absurd ⟨a1, a2⟩ q⟩
 let jr : JR := fun d s i => Classical.choose (cj d s i)
 let st : ST := fun d t => Classical.choose (cs d t)
 have hjr : ∀ d s i, d < c.n.toNat → s < c.slots.toNat → i < c.k.toNat → ∃ x, jr d s i = some x ∧ J s x ∧ (R.dsk (d : Nat)).read (jsecN c s i) = (x.frm i).bytes := fun d s i => Classical.choose_spec (cj d s i)
 have hst : ∀ d t, d < c.n.toNat → t < c.stripes.toNat → ∃ y, st d t = some y ∧ S t y ∧ (R.dsk (d : Nat)).read (ssecN c t) = (sfrm t y.1 d (sfrag c y.2 d)).bytes := fun d t => Classical.choose_spec (cs d t)
 generalize jr = jr at hjr
 generalize st = st at hst
 refine ⟨jr, st, ⟨g.live, hc, g.fit, fun d hd => ⟨(g.pc.dsk d hd).len, (g.pc.dsk d hd).alive, g.idle d hd, fun q hq => ?_, fun q _ => (g.pc.dsk d hd).rot q, fun _ => ((g.pc.dsk d hd).read m0).sup rfl, fun e => (by cases e), fun s i x hs hi e => ?_, fun s i hs hi e => ?_, fun t y ht e => ?_, fun t ht e => ?_, fun e => (by cases e)⟩, fun d s i x hd hs hi e => ?_, fun d t y hd ht e => ?_⟩, fun d s i hd hs hi => ?_, fun d t hd ht => ?_⟩
 ·
  rw [(g.pc.dsk d hd).rot q] at hq; cases hq
 ·
  obtain ⟨y, h1, h2, h3⟩ := hjr d s i hd hs hi
  rw [e] at h1; cases h1; exact h3
 ·
  obtain ⟨y, h1, h2, h3⟩ := hjr d s i hd hs hi
  rw [e] at h1; cases h1
 ·
  obtain ⟨z, h1, h2, h3⟩ := hst d t hd ht
  rw [e] at h1; cases h1; exact h3
 ·
  obtain ⟨z, h1, h2, h3⟩ := hst d t hd ht
  rw [e] at h1; cases h1
 ·
  obtain ⟨y, h1, h2, h3⟩ := hjr d s i hd hs hi
  rw [e] at h1; cases h1
  exact fj s x hs h2
 ·
  obtain ⟨z, h1, h2, h3⟩ := hst d t hd ht
  rw [e] at h1; cases h1
  exact fs t y ht h2
 ·
  obtain ⟨y, h1, h2, h3⟩ := hjr d s i hd hs hi
  exact ⟨y, h1, h2⟩
 ·
  obtain ⟨z, h1, h2, h3⟩ := hst d t hd ht
  exact ⟨z, h1, h2⟩
theorem CrS.cut {jr : JR} {st : ST} (h : CrS c j f p a J S) (hp : Pnd c cur p a) (hj : ∀ d s i, d < c.n.toNat → s < c.slots.toNat → i < c.k.toNat → ∃ x, jr d s i = some x ∧ J s x) (hs : ∀ d t, d < c.n.toNat → t < c.stripes.toNat → ∃ y, st d t = some y ∧ S t y) : VCutS c j f p a jr st := by
 refine ⟨fun d s i x hd hs' hi e => ?_, fun d t y hd ht e => ?_, h.cls.elim (fun q => .inl fun d t y hd ht e => ?_) fun q => .inr fun d i x hd hi e => ?_⟩
 ·
  obtain ⟨y, h1, h2⟩ := hj d s i hd hs' hi
  rw [e] at h1; cases h1; exact h.slot s x hs' h2
 ·
  obtain ⟨y', h1, h2⟩ := hs d t hd ht
  rw [e] at h1; cases h1; exact h.str t y ht h2
 ·
  obtain ⟨y', h1, h2⟩ := hs d t hd ht
  rw [e] at h1; cases h1; exact q t y ht h2
 ·
  obtain ⟨y, h1, h2⟩ := hj d a i hd hp.a hi
  rw [e] at h1; cases h1; exact q x h2
structure RecF (c : Cfg) (m : Nat) (cur : Int) (j : Nat → Option Rcd) (f : Strs) (p : Rcd) (a : Nat) (n : Nat) (q : VRec) (F : Int) (J : Nat → Rcd → Prop) (S : Nat → Int × List (List Nat) → Prop) : Prop where
 gf : GF q.R c m F J S
 cr : CrS c j f p a J S
 out : ∀ x ∈ q.out, 2 ≤ x.seq ∧ ((∃ s, s < c.slots.toNat ∧ j s = some x) ∨ (x = p ∧ a < n ∧ ∀ y, J a y → y = p))
theorem GF.recs (h : GF R c m F J S) (cr : CrS c j f p a J S) (hv : VI c cur j f) (hp : Pnd c cur p a) : ∀ n, n ≤ c.slots.toNat →
  ((R.vrecs c 1 n).err = none ∧ ∃ F' J', RecF c m cur j f p a n (R.vrecs c 1 n) F' J' S) ∨ (∃ e, (R.vrecs c 1 n).err = some e ∧ Cr (R.vrecs c 1 n).R c m j f p a)
 | 0, _ => .inl ⟨rfl, F, J, h, cr, fun x hx => (by cases hx)⟩
 | n + 1, hn => by
  have hc := h.good
  have hpg := hp.ge hv
  rcases h.recs cr hv hp n (by omega) with ⟨h1, F1, J1, r⟩ | ⟨e, h1, h2⟩
  ·
   rw [Rck.vrecs_succ]
   generalize R.vrecs c 1 n = q at *
   have hns : n < c.slots.toNat := by omega
   obtain ⟨jr, st, g, gj, gs⟩ := r.gf.gh.gt (fun s x hs hx => r.cr.fitJ hc hv hp hs hx) fun t y ht hy => r.cr.fitS hv hp ht hy
   have cu := r.cr.cut hp gj gs
   have hk := g.k0
   have hjs := g.jslot hns (fun d e i i' x y hd he hi hi' e1 e2 q2 => cu.uniJ hv hp n x y hns ⟨d, i, hd, hi, e1⟩ ⟨e, i', he, hi', e2⟩ q2)
   rw [Rck.calm_jslot] at hjs
   unfold Rck.vrec
   rw [h1]
   rcases hjs with ⟨i, hi, hno, ej⟩ | ⟨x, hx, hge, hne, hcase⟩
   ·
    exfalso
    obtain ⟨x, ex, _⟩ := gj 0 n i g.n0 hns hi
    rw [hno 0 g.n0] at ex; cases ex
   ·
    have hxJ : J1 n x := by
     obtain ⟨d, i, hd, hi, e⟩ := hx
     obtain ⟨y, ey, hy⟩ := gj d n i hd hns hi
     rw [e] at ey; cases ey; exact hy
    obtain ⟨xf, xl⟩ := r.cr.fitJ hc hv hp hns hxJ
    have hmono : ∀ (J' : Nat → Rcd → Prop), (∀ s y, s ≠ n → J' s y → J1 s y) → (∀ y, J' n y → j n = some y ∨ (n = a ∧ (y = p ∨ y = blRec c))) → ((∀ t y, t < c.stripes.toNat → S t y → f t = some y) ∨ ∀ y, J' a y → y = p) → CrS c j f p a J' S := fun J' m1 m2 m3 => ⟨fun s y hs hy => by
     by_cases e : s = n
     ·
      subst e; exact m2 y hy
     ·
      exact r.cr.slot s y hs (m1 s y e hy), r.cr.str, m3⟩
    have hold : ∀ (J' : Nat → Rcd → Prop), (∀ s y, s ≠ n → J' s y → J1 s y) → (∀ y, J' n y → y = x) → ∀ (hxp : n = a → x = p ∨ ∀ t y, t < c.stripes.toNat → S t y → f t = some y), ((∀ t y, t < c.stripes.toNat → S t y → f t = some y) ∨ ∀ y, J' a y → y = p) := fun J' m1 m2 hxp => by
     by_cases e : n = a
     ·
      rcases hxp e with q | q
      ·
       exact .inr fun y hy => by rw [← e] at hy; rw [m2 y hy, q]
      ·
       exact .inl q
     ·
      rcases r.cr.cls with q | q
      ·
       exact .inl q
      ·
       exact .inr fun y hy => q y (m1 a y (fun z => e z.symm) hy)
    have hxp : n = a → x = p ∨ ∀ t y, t < c.stripes.toNat → S t y → f t = some y := fun e => by
     rcases r.cr.cls with q | q
     ·
      exact .inr q
     ·
      exact .inl (q x (e ▸ hxJ))
    have outold : ∀ (J' : Nat → Rcd → Prop), (∀ s y, s ≠ n → J' s y → J1 s y) → ∀ y ∈ q.out, 2 ≤ y.seq ∧ ((∃ s, s < c.slots.toNat ∧ j s = some y) ∨ (y = p ∧ a < n + 1 ∧ ∀ z, J' a z → z = p)) := fun J' m1 y hy => by
     obtain ⟨o1, o2⟩ := r.out y hy
     refine ⟨o1, o2.elim .inl fun ⟨q1, q2, q3⟩ => .inr ⟨q1, by omega, fun z hz => q3 z (m1 a z (by omega) hz)⟩⟩
    rcases hcase with ⟨hw, ej⟩ | ⟨hnw, ej⟩
    ·
     simp only [ej]
     by_cases h2 : 1 < x.seq
     ·
      obtain ⟨d1, d2⟩ := r.gf.log hns xf (by omega) xl
      by_cases hF : F1 < 0 ∨ ((c.n.toNat * c.k.toNat + c.n.toNat : Nat) : Int) ≤ F1
      ·
       obtain ⟨R2, e2, g2⟩ := d1 hF
       have ev : Rck.vslot q.R c n x true = (none, R2) := by
        unfold Rck.vslot
        rw [if_neg (by simp), if_pos h2, e2]
       simp only [ev]
       have m1 : ∀ s y, s ≠ n → (fun s y => if s = n then y = x else J1 s y) s y → J1 s y := fun s y e hy => by simpa only [e, if_false] using hy
       have m2 : ∀ y, (fun s y => if s = n then y = x else J1 s y) n y → y = x := fun y hy => by simpa only [if_true] using hy
       refine .inl ⟨trivial, _, _, g2, hmono _ m1 (fun y hy => by rw [m2 y hy]; exact r.cr.slot n x hns hxJ) (hold _ m1 m2 hxp), fun y hy => ?_⟩
       have hy : y ∈ (if True ∧ 1 < x.seq then q.out ++ [x] else q.out) := by simpa using hy
       rw [if_pos ⟨trivial, h2⟩] at hy
       rcases List.mem_append.1 hy with hy | hy
       ·
        exact outold _ m1 y hy
       ·
        have : y = x := by simpa using hy
        subst this
        refine ⟨by omega, ?_⟩
        rcases r.cr.slot n y hns hxJ with z | ⟨rfl, rfl | rfl⟩
        ·
         exact .inl ⟨n, hns, z⟩
        ·
         exact .inr ⟨rfl, by omega, fun z hz => m2 z hz⟩
        ·
         exact absurd h2 (by show ¬ (1 : Int) < 0; omega)
      ·
       obtain ⟨e, R2, e2, p2⟩ := d2 (by omega) (by omega)
       have ev : Rck.vslot q.R c n x true = (some e, R2) := by
        unfold Rck.vslot
        rw [if_neg (by simp), if_pos h2, e2]
       simp only [ev]
       refine .inr ⟨e, by first | trivial | rfl, (hmono _ (fun s y e hy => hy.resolve_right fun z => e z.1) (fun y hy => ?_) ?_).cr p2⟩
       ·
        rcases hy with hy | ⟨_, rfl⟩
        ·
         exact r.cr.slot n y hns hy
        ·
         exact r.cr.slot n y hns hxJ
       ·
        by_cases e : n = a
        ·
         rcases r.cr.cls with q | q
         ·
          exact .inl q
         ·
          refine .inr fun y hy => ?_
          rcases hy with hy | ⟨_, rfl⟩
          ·
           exact q y hy
          ·
           exact q y (e ▸ hxJ)
        ·
         rcases r.cr.cls with q | q
         ·
          exact .inl q
         ·
          exact .inr fun y hy => q y (hy.resolve_right fun z => e z.1.symm)
     ·
      have ev : Rck.vslot q.R c n x true = (none, q.R) := by
       unfold Rck.vslot
       rw [if_neg (by simp), if_neg h2]
      simp only [ev]
      refine .inl ⟨trivial, _, _, r.gf, r.cr, fun y hy => ?_⟩
      have hy : y ∈ (if True ∧ 1 < x.seq then q.out ++ [x] else q.out) := by simpa using hy
      rw [if_neg (fun z => h2 z.2)] at hy
      exact outold _ (fun _ _ _ z => z) y hy
    ·
     simp only [ej]
     obtain ⟨i0, hi0, hno⟩ := hnw
     have hna : n = a := Classical.byContradiction fun q1 => by
      obtain ⟨y, ey, hy⟩ := gj 0 n i0 g.n0 hns hi0
      have z1 := (r.cr.slot n y hns hy).resolve_right fun z => q1 z.1
      have z2 := (r.cr.slot n x hns hxJ).resolve_right fun z => q1 z.1
      rw [z1] at z2; cases z2
      exact hno 0 g.n0 ey
     have hA : ∀ t y, t < c.stripes.toNat → S t y → f t = some y := by
      rcases r.cr.cls with q1 | q1
      ·
       exact q1
      ·
       exfalso
       obtain ⟨y, ey, hy⟩ := gj 0 n i0 g.n0 hns hi0
       have z1 := q1 y (hna ▸ hy)
       have z2 := q1 x (hna ▸ hxJ)
       rw [z1, ← z2] at ey
       exact hno 0 g.n0 ey
     obtain ⟨d1, d2⟩ := r.gf.blank hns
     by_cases hF : F1 < 0 ∨ ((c.n.toNat * c.k.toNat + c.n.toNat : Nat) : Int) ≤ F1
     ·
      obtain ⟨R2, e2, g2⟩ := d1 hF
      have ev : Rck.vslot q.R c n Rcd.none_ false = (none, R2) := by
       unfold Rck.vslot
       rw [if_pos rfl, e2]
      simp only [ev]
      have m1 : ∀ s y, s ≠ n → (fun s y => if s = n then y = blRec c else J1 s y) s y → J1 s y := fun s y e hy => by simpa only [e, if_false] using hy
      refine .inl ⟨trivial, _, _, g2, hmono _ m1 (fun y hy => .inr ⟨hna, .inr (by simpa only [if_true] using hy)⟩) (.inl hA), fun y hy => ?_⟩
      have hy : y ∈ (if False ∧ 1 < Rcd.none_.seq then q.out ++ [Rcd.none_] else q.out) := by simpa using hy
      rw [if_neg (fun z => z.1)] at hy
      exact outold _ m1 y hy
     ·
      obtain ⟨e, R2, e2, p2⟩ := d2 (by omega) (by omega)
      have ev : Rck.vslot q.R c n Rcd.none_ false = (some e, R2) := by
       unfold Rck.vslot
       rw [if_pos rfl, e2]
      simp only [ev]
      refine .inr ⟨e, by first | trivial | rfl, (hmono _ (fun s y e hy => hy.resolve_right fun z => e z.1) (fun y hy => ?_) (.inl hA)).cr p2⟩
      rcases hy with hy | ⟨_, rfl⟩
      ·
       exact r.cr.slot n y hns hy
      ·
       exact .inr ⟨hna, .inr rfl⟩
  ·
   refine .inr ⟨e, ?_, ?_⟩
   ·
    rw [Rck.vrecs_succ]
    unfold Rck.vrec
    rw [h1]
    exact h1
   ·
    rw [Rck.vrecs_succ]
    unfold Rck.vrec
    rw [h1]
    exact h2
theorem GF.plays (hv : VI c cur j f) (hp : Pnd c cur p a) : ∀ (l : List Rcd), (∀ x ∈ l, 2 ≤ x.seq ∧ ((∃ s, s < c.slots.toNat ∧ j s = some x) ∨ (x = p ∧ ∀ y, J a y → y = p))) → ∀ {R : Rck} {F : Int} {S : Nat → Int × List (List Nat) → Prop}, GF R c m F J S → CrS c j f p a J S → Cr (each (Rck.vplay c) l R).2 c m j f p a
 | [], _, R, F, S, h, cr => cr.cr h.pc
 | x :: l, hl, R, F, S, h, cr => by
  have hc := h.good
  have hpg := hp.ge hv
  obtain ⟨h2, hx⟩ := hl x List.mem_cons_self
  have hfit : ∃ s, x.Fit c s ∧ (x.blocks.length : Int) = c.k := by
   rcases hx with ⟨s, hs, e⟩ | ⟨rfl, _⟩
   ·
    exact ⟨s, (hv.fit hs e).1, (hv.fit hs e).2.1⟩
   ·
    exact ⟨a, hp.fit, hp.len⟩
  obtain ⟨s0, xf, xl⟩ := hfit
  have hsf := GT.fit_of xf xl h2
  have hst : ((x.stripe.toNat : Nat) : Int) = x.stripe := by have := xf.st0; omega
  by_cases hlt : x.seq < (R.slook c x.stripe).1
  ·
   have ep : Rck.vplay c R x = (none, R) := by unfold Rck.vplay; rw [if_pos hlt]
   rw [Zbn ep]
   exact GF.plays hv hp l (fun y hy => hl y (List.mem_cons_of_mem _ hy)) h cr
  ·
   have ep : Rck.vplay c R x = R.sput c x.stripe x.seq x.blocks := by unfold Rck.vplay; rw [if_neg hlt]
   obtain ⟨jr, st, g, gj, gs⟩ := h.gh.gt (fun s x hs hx => cr.fitJ hc hv hp hs hx) fun t y ht hy => cr.fitS hv hp ht hy
   have hval : (x = p ∧ ∀ y, J a y → y = p) ∨ f x.stripe.toNat = some (x.seq, x.blocks) := by
    rcases hx with ⟨s, hs, e⟩ | hx
    ·
     refine .inr ?_
     obtain ⟨y, e1, _, _, e4⟩ := hv.vv.slot s hs
     rw [e] at e1; cases e1
     obtain ⟨q1, q2, gen, bl, hf, hle, heq⟩ := e4.resolve_left (by omega)
     obtain ⟨z, ez, hz⟩ := gs 0 x.stripe.toNat g.n0 hsf.st
     have hge := g.slook_ge hsf.st g.n0 ez
     rw [Rck.calm_slook, hst] at hge
     have : gen ≤ z.1 := by
      rcases cr.str _ z hsf.st hz with w | ⟨_, w⟩
      ·
       rw [hf] at w; cases w; exact Int.le_refl _
      ·
       subst w
       show gen ≤ p.seq
       obtain ⟨g', l', u1, _, u3⟩ := hv.vv.str _ hsf.st
       rw [hf] at u1; cases u1
       have := hp.seq
       omega
     have hxg : x.seq = gen := by omega
     rw [hf, heq hxg, hxg]
    ·
     exact .inl hx
   have newS : ∀ (S' : Nat → Int × List (List Nat) → Prop), (∀ t y, S' t y → S t y ∨ (t = x.stripe.toNat ∧ y = (x.seq, x.blocks))) → CrS c j f p a J S' := fun S' hS' => by
    refine ⟨cr.slot, fun t y ht hy => ?_, ?_⟩
    ·
     rcases hS' t y hy with w | ⟨rfl, rfl⟩
     ·
      exact cr.str t y ht w
     ·
      rcases hval with ⟨rfl, _⟩ | w
      ·
       exact .inr ⟨hst, rfl⟩
      ·
       exact .inl w
    ·
     rcases hval with ⟨_, w⟩ | w
     ·
      exact .inr w
     ·
      rcases cr.cls with u | u
      ·
       refine .inl fun t y ht hy => ?_
       rcases hS' t y hy with v | ⟨rfl, rfl⟩
       ·
        exact u t y ht v
       ·
        exact w
      ·
       exact .inr u
   obtain ⟨d1, d2⟩ := h.sputs hsf
   rw [hst] at d1 d2
   by_cases hF : F < 0 ∨ ((c.n.toNat + c.n.toNat : Nat) : Int) ≤ F
   ·
    obtain ⟨R1, e1, g1⟩ := d1 hF
    rw [Zbn (ep.trans e1)]
    refine GF.plays hv hp l (fun y hy => hl y (List.mem_cons_of_mem _ hy)) g1 (newS _ fun t y hy => ?_)
    have hy : (if t = x.stripe.toNat then y = (x.seq, x.blocks) else S t y) := hy
    split at hy
    ·
     rename_i e; exact .inr ⟨e, hy⟩
    ·
     exact .inl hy
   ·
    obtain ⟨e, R1, e1, p1⟩ := d2 (by omega) (by omega)
    rw [each_err (ep.trans e1)]
    exact (newS _ fun t y hy => hy).cr p1
theorem Cr.open_any (h : Cr R c m j f p a) (hc : c.Good) (hm : c.sectors ≤ (m : Int)) (hv : VI c cur j f) (hp : Pnd c cur p a) (bits : List Nat) (k : Int) :
  Cr (((R.boot bits).arm k).vopen).2.1 c m j f p a := by
 obtain ⟨J, S, pc, hJ, hS, hcl⟩ := h.ex
 have g := GH.boot pc hc hm bits
 have gf := GF.of_gh g k
 have cr : CrS c j f p a J S := ⟨hJ, hS, hcl⟩
 generalize (R.boot bits).arm k = R1 at *
 obtain ⟨jr, st, g1, gj, gs⟩ := gf.gh.gt (fun s x hs hx => cr.fitJ hc hv hp hs hx) fun t y ht hy => cr.fitS hv hp ht hy
 have hfind : R1.superFind = (c, none) := by
  have := g1.find
  rw [Rck.calm_find] at this
  rw [this, if_pos]
  unfold GT.cnt
  rw [List.filter_eq_self.2 fun _ _ => rfl, List.length_range]
  have := hc.k1; have := hc.k0; omega
 have hrec : Cr (R1.vrecover c 1).2.1 c m j f p a := by
  rcases gf.recs cr hv hp c.slots.toNat (Nat.le_refl _) with ⟨h1, F', J', r⟩ | ⟨e, h1, h2⟩
  ·
   have hpl := GF.plays hv hp (sortR (R1.vrecs c 1 c.slots.toNat).out) (fun x hx => by
    obtain ⟨o1, o2⟩ := r.out x ((GT.sort_mem _ _).1 hx)
    exact ⟨o1, o2.elim .inl fun ⟨q1, _, q3⟩ => .inr ⟨q1, q3⟩⟩) r.gf r.cr
   have e : (R1.vrecover c 1).2.1 = (each (Rck.vplay c) (sortR (R1.vrecs c 1 c.slots.toNat).out) (R1.vrecs c 1 c.slots.toNat).R).2 := by
    unfold Rck.vrecover
    rw [h1]
    simp only
    split <;> rfl
   rw [e]; exact hpl
  ·
   have e : (R1.vrecover c 1).2.1 = (R1.vrecs c 1 c.slots.toNat).R := by
    unfold Rck.vrecover
    rw [h1]
   rw [e]; exact h2
 have e : R1.vopen.2.1 = R1 ∨ R1.vopen.2.1 = (R1.vrecover c 1).2.1 := by
  unfold Rck.vopen
  split
  ·
   exact .inl rfl
  ·
   rw [hfind]
   simp only
   split
   ·
    exact .inl rfl
   ·
    refine .inr ?_
    split <;> rfl
 rcases e with e | e
 ·
  rw [e]; exact cr.cr gf.pc
 ·
  rw [e]; exact hrec
end
end Go.Proofs.YthopnbklmlopkaaGreatDoor
