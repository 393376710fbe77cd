/- Texts of one proof, joined: MakeCut, MakeCutB. -/
import Derived.Test.YtbdfjiedceaoiaaGreatDoorQZ
set_option linter.unusedVariables false
set_option linter.unusedSimpArgs false
namespace Go.Proofs.YtbdfjiedceaoiaaGreatDoor
set_option linter.unusedVariables false
open Go.Proofs.YtbdfjiedceaoiaaGreatDoor.GT (cnt Played Opened Shut)
structure PQd (D : Dsk) (m : Nat) (Q : Nat → List Nat → Prop) : Prop where
 len : D.l.length = m
 alive : D.dead = false
 rot : ∀ q, D.rot q = false
 base : ∀ q, q < m → Q q (D.l.getD q [])
 wts : ∀ q b, D.waits q = some b → Q q b
namespace PQd
variable {D : Dsk} {m : Nat} {Q Q' : Nat → List Nat → Prop}
theorem mono (h : PQd D m Q) (hQ : ∀ q b, Q q b → Q' q b) : PQd D m Q' := ⟨h.len, h.alive, h.rot, fun q hq => hQ q _ (h.base q hq), fun q b hb => hQ q b (h.wts q b hb)⟩
theorem read (h : PQd D m Q) {q : Nat} (hq : q < m) : Q q (D.read q) := by
 unfold Dsk.read
 rcases e : D.waits q with _ | b
 ·
  exact h.base q hq
 ·
  exact h.wts q b e
theorem write (h : PQd D m Q) {q : Nat} {b : List Nat} (hb : Q q b) : PQd (D.write q b) m Q := by
 refine ⟨h.len, h.alive, h.rot, h.base, fun p y hy => ?_⟩
 have hy : (if p = q then some b else D.waits p) = some y := hy
 by_cases e : p = q
 ·
  subst e; rw [if_pos rfl] at hy; cases hy; exact hb
 ·
  rw [if_neg e] at hy; exact h.wts p y hy
theorem settle (h : PQd D m Q) (g : Nat → Bool) : PQd (D.settle g) m Q := by
 refine ⟨by rw [Dsk.settle_len]; exact h.len, h.alive, fun q => ?_, fun q hq => ?_, fun q b hb => by cases hb⟩
 ·
  show (if (g q && (D.waits q).isSome) = true then false else D.rot q) = false
  split
  ·
   rfl
  ·
   exact h.rot q
 ·
  have e : (D.settle g).l.getD q [] = (D.settle g).read q := rfl
  rw [e, Dsk.settle_read D g _ (by rw [h.len]; exact hq)]
  split
  ·
   exact h.read hq
  ·
   exact h.base q hq
end PQd
structure PQ (R : Rck) (n m : Nat) (Q : Nat → Nat → List Nat → Prop) : Prop where
 len : R.l.length = n
 dsk : ∀ d : Nat, d < n → PQd (R.dsk (d : Nat)) m (Q d)
def Ok5 (P : Rck → Prop) (q : Option Err × Rck) : Prop := P q.2 ∧ ∀ e, q.1 = some e → e.kind = 5
namespace Ok5
variable {P : Rck → Prop} {α : Type}
theorem each {f : Rck → α → Option Err × Rck} : ∀ (l : List α), (∀ i ∈ l, ∀ R, P R → Ok5 P (f R i)) → ∀ R, P R → Ok5 P (each f l R)
 | [], _, R, h => ⟨h, fun e q => by cases q⟩
 | i :: l, hf, R, h => by
  have h1 := hf i List.mem_cons_self R h
  rcases hr : f R i with ⟨o, R'⟩
  rw [hr] at h1
  rcases o with _ | e
  ·
   rw [Zbl hr]
   exact each l (fun j hj => hf j (List.mem_cons_of_mem _ hj)) R' h1.1
  ·
   rw [Zcs hr]; exact h1
theorem thenE {p : Option Err × Rck} {f : Rck → Option Err × Rck} (h : Ok5 P p) (hf : ∀ R, P R → Ok5 P (f R)) : Ok5 P (thenE p f) := by
 rcases p with ⟨o, R⟩
 rcases o with _ | e
 ·
  exact hf R h.1
 ·
  exact h
theorem map {p : Option Err × Rck} (h : Ok5 P p) (w : Err → Err) (hw : ∀ e, (w e).kind = e.kind) : Ok5 P (p.1.map w, p.2) := by
 refine ⟨h.1, fun e he => ?_⟩
 have he : p.1.map w = some e := he
 rcases p with ⟨o, R⟩
 rcases o with _ | x
 ·
  cases he
 ·
  cases he
  rw [hw]; exact h.2 x rfl
end Ok5
namespace PQ
variable {R : Rck} {n m : Nat} {Q Q' : Nat → Nat → List Nat → Prop} {c : Cfg}
theorem mono (h : PQ R n m Q) (hQ : ∀ d q b, d < n → Q d q b → Q' d q b) : PQ R n m Q' := ⟨h.len, fun d hd => (h.dsk d hd).mono fun q b => hQ d q b hd⟩
theorem of_l (h : PQ R n m Q) {R' : Rck} (e : R'.l = R.l) : PQ R' n m Q := ⟨by rw [e]; exact h.len, fun d hd => by unfold Rck.dsk; rw [e]; exact h.dsk d hd⟩
theorem set (h : PQ R n m Q) {i : Nat} (hi : i < n) {D : Dsk} (hD : PQd D m (Q i)) : PQ (R.setD i D) n m Q := ⟨by simp [Rck.setD, h.len], fun d hd => by
 rw [Rck.dsk_setD R h.len hi]
 split
 ·
  rename_i e; rw [e]; exact hD
 ·
  exact h.dsk d hd⟩
theorem on (h : PQ R n m Q) : ∀ d ∈ R.online, d < n := fun d hd => by
 unfold Rck.online at hd
 have := List.mem_range.1 (List.mem_filter.1 hd).1
 rw [h.len] at this; exact this
theorem may (h : PQ R n m Q) {i : Nat} (hi : i < n) : R.may (i : Int) false = 0 ∨ R.may (i : Int) false = 5 := by
 have hh : R.has (i : Int) = true := by unfold Rck.has; rw [h.len]; simp; omega
 unfold Rck.may
 rw [hh, if_neg (by simp)]
 split
 ·
  exact .inr rfl
 ·
  rw [if_neg (by simp)]
  split
  ·
   exact .inr rfl
  ·
   exact .inl rfl
theorem sectors (h : PQ R n m Q) (hn : 0 < n) : R.sectors = m := (h.dsk 0 hn).len
theorem write (h : PQ R n m Q) {i q : Nat} (hi : i < n) (hq : q < m) {b : List Nat} (hl : b.length = 128) (hb : Q i q b) : Ok5 (fun R => PQ R n m Q) (R.write i q b) := by
 have hbad : R.badW (q : Int) b = false := by
  unfold Rck.badW
  rw [h.sectors (by omega), decide_eq_false (by omega), decide_eq_false (by omega), hl]
  simp
 have hl' : ∀ {R' : Rck}, R'.l = R.l → PQ R' n m Q := fun e => h.of_l e
 unfold Rck.write
 rw [hbad]
 split
 ·
  exact ⟨(h.of_l (Rck.asked_lP _ _ _)).set hi (by rw [Int.toNat_natCast]; exact (h.dsk i hi).write hb), fun e q => by cases q⟩
 ·
  rename_i hz
  refine ⟨h.of_l (Rck.asked_lP _ _ _), fun e q => ?_⟩
  cases q
  show (R.may (i : Int) false) = 5
  exact (h.may hi).resolve_left hz
theorem flush (h : PQ R n m Q) {i : Nat} (hi : i < n) : Ok5 (fun R => PQ R n m Q) (R.flush i) := by
 unfold Rck.flush
 split
 ·
  exact ⟨(h.of_l (Rck.asked_lP _ _ _)).set hi ((h.dsk i hi).settle _), fun e q => by cases q⟩
 ·
  rename_i hz
  refine ⟨h.of_l (Rck.asked_lP _ _ _), fun e q => ?_⟩
  cases q
  show (R.may (i : Int) false) = 5
  exact (h.may hi).resolve_left hz
theorem flushes (h : PQ R n m Q) {l : List Nat} (hl : ∀ d ∈ l, d < n) : Ok5 (fun R => PQ R n m Q) (each (fun R (d : Nat) => R.flush d) l R) :=
 Ok5.each (f := fun R (d : Nat) => R.flush d) l (fun d hd R h => h.flush (hl d hd)) R h
theorem fits (h : PQ R c.n.toNat m Q) (hc : c.Good) (hm : c.sectors ≤ (m : Int)) : R.fits c = true := by
 have hn : 0 < c.n.toNat := by have := hc.k0; have := hc.k1; omega
 unfold Rck.fits
 rw [(Cfg.right_iff c).2 hc, h.sectors hn, h.len, decide_eq_true hm, decide_eq_true (by have := hc.k0; have := hc.k1; omega)]; rfl
theorem jput (h : PQ R c.n.toNat m Q) (hc : c.Good) (hm : c.sectors ≤ (m : Int)) {slot : Nat} {x : Rcd} (hs : slot < c.slots.toNat) (hx : x.Fit c slot) (hJ : ∀ d i, d < c.n.toNat → i < c.k.toNat → Q d (jsecN c slot i) (x.frm i).bytes) : Ok5 (fun R => PQ R c.n.toNat m Q) (R.jput c (slot : Int) x) := by
 have hn1 := hc.n1; have hk1 := hc.k1
 have h1 := Ok5.each (P := fun R => PQ R c.n.toNat m Q) (f := Rck.jrow c (slot : Int) x) R.online (fun d hd R' h' => by
  have hd := h.on d hd
  refine Ok5.each (P := fun R => PQ R c.n.toNat m Q) (f := fun R i => R.write d (Rck.jsec c slot i) (x.frm i).put) (List.range c.k.toNat) (fun i hi R h => ?_) R' h'
  have hi := List.mem_range.1 hi
  show Ok5 _ (R.write d (Rck.jsec c slot i) (x.frm i).put)
  rw [jsec_eq hc slot i, hx.put hc (by omega)]
  exact h.write hd (Zbf hc hm hs hi) (hx.len i) (hJ d i hd hi)) R h
 have e : R.jput c (slot : Int) x = Go.Proofs.YtbdfjiedceaoiaaGreatDoor.thenE (Go.Proofs.YtbdfjiedceaoiaaGreatDoor.each (Rck.jrow c (slot : Int) x) R.online R) fun R1 => Go.Proofs.YtbdfjiedceaoiaaGreatDoor.each (fun R d => R.flush (d : Nat)) R1.online R1 := by
  unfold Rck.jput
  rcases Go.Proofs.YtbdfjiedceaoiaaGreatDoor.each (Rck.jrow c (slot : Int) x) R.online R with ⟨o, R1⟩
  rcases o with _ | er <;> rfl
 rw [e]
 exact h1.thenE fun R1 g1 => g1.flushes g1.on
theorem blank (h : PQ R c.n.toNat m Q) (hc : c.Good) (hm : c.sectors ≤ (m : Int)) {slot : Nat} (hs : slot < c.slots.toNat) (hJ : ∀ d i, d < c.n.toNat → i < c.k.toNat → Q d (jsecN c slot i) ((blRec c).frm i).bytes) : Ok5 (fun R => PQ R c.n.toNat m Q) (R.jblank c (slot : Int)) := by
 have hk : R.jknown c (slot : Int) = true := by
  unfold Rck.jknown
  rw [h.fits hc hm, decide_eq_true (by omega), decide_eq_true (by omega)]; rfl
 unfold Rck.jblank
 rw [if_pos hk]
 exact (h.jput hc hm hs (VH.none_fit hc) fun d i hd hi => by rw [blRec_frm c i]; exact hJ d i hd hi).map _ fun e => rfl
theorem sput (h : PQ R c.n.toNat m Q) (hc : c.Good) (hm : c.sectors ≤ (m : Int)) {s : Nat} {gen : Int} {l : List (List Nat)} (hx : SFit c s gen l) (hF : ∀ d, d < c.n.toNat → Q d (ssecN c s) (sfrm s gen d (sfrag c l d)).bytes) : Ok5 (fun R => PQ R c.n.toNat m Q) (R.sput c (s : Int) gen l) := by
 have hok : R.sputOk c (s : Int) gen l = true := by
  have hst := hx.st; have hg0 := hx.g0; have hg1 := hx.g1; have hlk := hx.lenk hc
  unfold Rck.sputOk Rck.sknown
  rw [h.fits hc hm, decide_eq_true (show (0 : Int) ≤ s by omega), decide_eq_true (show (s : Int) < c.stripes by omega), decide_eq_true hg0, decide_eq_true hg1, decide_eq_true hlk]; rfl
 have h1 := Ok5.each (P := fun R => PQ R c.n.toNat m Q) (f := Rck.srow c (s : Int) gen l) R.online (fun d hd R' h' => by
  have hd := h.on d hd
  unfold Rck.srow
  rw [ssec_eq hc s, hx.put hc hd]
  exact h'.write hd (Zaz hc hm hx.st) (hx.len hc d) (hF d hd)) R h
 have e : R.sputs c (s : Int) gen l = Go.Proofs.YtbdfjiedceaoiaaGreatDoor.thenE (Go.Proofs.YtbdfjiedceaoiaaGreatDoor.each (Rck.srow c (s : Int) gen l) R.online R) fun R1 => Go.Proofs.YtbdfjiedceaoiaaGreatDoor.each (fun R d => R.flush (d : Nat)) R1.online R1 := by
  unfold Rck.sputs
  rcases Go.Proofs.YtbdfjiedceaoiaaGreatDoor.each (Rck.srow c (s : Int) gen l) R.online R with ⟨o, R1⟩
  rcases o with _ | er <;> rfl
 unfold Rck.sput
 rw [if_pos hok, e]
 exact (h1.thenE fun R1 g1 => g1.flushes g1.on).map _ fun e => rfl
theorem superPut (h : PQ R c.n.toNat m Q) (hc : c.Good) (hm : c.sectors ≤ (m : Int)) {i : Nat} (hi : i < c.n.toNat) (hQ : Q i 0 (c.block i).bytes) : Ok5 (fun R => PQ R c.n.toNat m Q) (R.superPut c (i : Nat)) := by
 have hi8 : i < 8 := by have := hc.n1; omega
 have hm0 : 0 < m := by
  have h1 := Zaz hc hm (s := 0) (by have := hc.st0; omega)
  omega
 have hp : (c.block i).put = (c.block i).bytes := by unfold Frm.put; rw [Cfg.block_right c i hi8]; rfl
 have h1 := (h.write hi hm0 (Frm.bytes_len _ (Cfg.block_ok c i hc)) hQ).thenE fun R1 g1 => g1.flush hi
 have e : R.superPut c (i : Nat) = ((Go.Proofs.YtbdfjiedceaoiaaGreatDoor.thenE (R.write (i : Int) ((0 : Nat) : Int) (c.block i).bytes) fun R1 => R1.flush (i : Int)).1.map (.fault sSuperPut i), (Go.Proofs.YtbdfjiedceaoiaaGreatDoor.thenE (R.write (i : Int) ((0 : Nat) : Int) (c.block i).bytes) fun R1 => R1.flush (i : Int)).2) := by
  unfold Rck.superPut
  rw [if_pos (h.fits hc hm), hp]
  rcases hq : R.write (i : Int) 0 (c.block i).bytes with ⟨o, R1⟩
  have hq' : R.write (i : Int) ((0 : Nat) : Int) (c.block i).bytes = (o, R1) := hq
  rcases o with _ | er
  ·
   simp only [hq', if_true]; rfl
  ·
   simp only [hq']
   rw [if_neg (by simp)]; rfl
 rw [e]
 exact h1.map _ fun e => rfl
theorem bare (h : PQ R n m Q) (hm : 0 < m) (hQ : ∀ d, d < n → Q d 0 Dsk.zeros) : Ok5 (fun R => PQ R n m Q) R.vbare := by
 unfold Rck.vbare
 refine Ok5.thenE (Ok5.each (P := fun R => PQ R n m Q) (f := fun R d => R.write (d : Nat) 0 (List.replicate 128 0)) (List.range R.l.length) (fun d hd R' h' => ?_) R h) fun R1 g1 => ?_
 ·
  have hd : d < n := by rw [← h.len]; exact List.mem_range.1 hd
  exact h'.write (q := 0) hd hm (by simp) (hQ d hd)
 ·
  refine g1.flushes fun d hd => ?_
  rw [← g1.len]; exact List.mem_range.1 hd
theorem blanks (h : PQ R c.n.toNat m Q) (hc : c.Good) (hm : c.sectors ≤ (m : Int)) (hJ : ∀ d s i, d < c.n.toNat → s < c.slots.toNat → i < c.k.toNat → Q d (jsecN c s i) ((blRec c).frm i).bytes) : Ok5 (fun R => PQ R c.n.toNat m Q) (Rck.vblanks c c.slots.toNat R) :=
 Ok5.each (P := fun R => PQ R c.n.toNat m Q) (f := fun R s => R.jblank c (s : Nat)) (List.range c.slots.toNat) (fun s hs R' h' => h'.blank hc hm (List.mem_range.1 hs) fun d i hd hi => hJ d s i hd (List.mem_range.1 hs) hi) R h
theorem zeros (h : PQ R c.n.toNat m Q) (hc : c.Good) (hm : c.sectors ≤ (m : Int)) (hF : ∀ d s, d < c.n.toNat → s < c.stripes.toNat → Q d (ssecN c s) (sfrm s 1 d (sfrag c (zblks c.k.toNat) d)).bytes) : Ok5 (fun R => PQ R c.n.toNat m Q) (Rck.vzeros c c.stripes.toNat R) :=
 Ok5.each (P := fun R => PQ R c.n.toNat m Q) (f := fun R s => R.sput c (s : Nat) 1 (zblks c.k.toNat)) (List.range c.stripes.toNat) (fun s hs R' h' => h'.sput hc hm (VH.zblks_fit hc (List.mem_range.1 hs)) fun d hd => hF d s hd (List.mem_range.1 hs)) R h
theorem supers (h : PQ R c.n.toNat m Q) (hc : c.Good) (hm : c.sectors ≤ (m : Int)) (hQ : ∀ d, d < c.n.toNat → Q d 0 (c.block d).bytes) : Ok5 (fun R => PQ R c.n.toNat m Q) (Rck.vsupers c c.n.toNat R) :=
 Ok5.each (P := fun R => PQ R c.n.toNat m Q) (f := fun R d => R.superPut c (d : Nat)) (List.range c.n.toNat) (fun d hd R' h' => h'.superPut hc hm (List.mem_range.1 hd) (hQ d (List.mem_range.1 hd))) R h
theorem boot (h : PQ R n m Q) (hn : 0 < n) (bits : List Nat) : PQ (R.boot bits) n m Q ∧ Live (R.boot bits) n m ∧ ∀ d : Nat, d < n → ∀ q, ((R.boot bits).dsk (d : Nat)).waits q = none := by
 have hd : ∀ j : Nat, j < n → (R.boot bits).dsk j = (R.dsk j).crash (bits.getD j 0) := fun j hj => by
  unfold Rck.boot Rck.dsk
  simp [List.getD_eq_getElem?_getD, h.len, hj]
 have hl : (R.boot bits).l.length = n := by simp [Rck.boot, h.len]
 have h2 : PQ (R.boot bits) n m Q := ⟨hl, fun j hj => by rw [hd j hj]; exact (h.dsk j hj).settle _⟩
 exact ⟨h2, ⟨hl, fun j hj => (h2.dsk j hj).len, rfl, rfl, hn⟩, fun j hj q => by rw [hd j hj]; rfl⟩
end PQ
def Sm (f : Rck → Option Err × Rck) : Prop := ∀ R, (f R).1 = none → f R.calm = (none, (f R).2.calm)
namespace Sm
variable {α : Type}
theorem each {f : Rck → α → Option Err × Rck} : ∀ (l : List α), (∀ i ∈ l, Sm fun R => f R i) → Sm (each f l)
 | [], _, R, h => rfl
 | i :: l, hf, R, h => by
  have h1 : (f R i).1 = none → f R.calm i = (none, (f R i).2.calm) := hf i List.mem_cons_self R
  rcases hr : f R i with ⟨o, R'⟩
  rw [hr] at h1
  rcases o with _ | e
  ·
   rw [Zbl hr] at h ⊢
   rw [Zbl (h1 rfl)]
   exact each l (fun j hj => hf j (List.mem_cons_of_mem _ hj)) R' h
  ·
   rw [Zcs hr] at h; cases h
theorem thenE {f g : Rck → Option Err × Rck} (hf : Sm f) (hg : Sm g) : Sm fun R => thenE (f R) g := by
 intro R h
 have h1 := hf R
 rcases hr : f R with ⟨o, R'⟩
 rw [hr] at h1
 have h : (Go.Proofs.YtbdfjiedceaoiaaGreatDoor.thenE (f R) g).1 = none := h
 show Go.Proofs.YtbdfjiedceaoiaaGreatDoor.thenE (f R.calm) g = (none, (Go.Proofs.YtbdfjiedceaoiaaGreatDoor.thenE (f R) g).2.calm)
 rcases o with _ | e
 ·
  rw [Za1 hr] at h ⊢
  rw [Za1 (h1 rfl)]
  exact hg R' h
 ·
  rw [Zbq hr] at h; cases h
theorem map {f : Rck → Option Err × Rck} (hf : Sm f) (w : Err → Err) : Sm fun R => ((f R).1.map w, (f R).2) := by
 intro R h
 have h : (f R).1.map w = none := h
 have h2 : (f R).1 = none := by
  rcases e : (f R).1 with _ | x
  ·
   rfl
  ·
   rw [e] at h; cases h
 show ((f R.calm).1.map w, (f R.calm).2) = _
 rw [hf R h2]; rfl
theorem calm_may {R : Rck} {i : Int} {b : Bool} (h : R.may i b = 0) : R.calm.may i b = 0 ∧ R.calm.asked i b = (R.asked i b).calm := by
 have e1 : R.calm.has i = R.has i := rfl
 have e2 : R.calm.up i = R.up i := rfl
 have e3 : R.calm.off = R.off := rfl
 have e4 : R.calm.fuse = -1 := rfl
 unfold Rck.may Rck.asked at *
 rw [e1, e2, e3, e4]
 by_cases q1 : R.has i = false
 ·
  rw [if_pos q1] at h; cases h
 rw [if_neg q1] at h
 by_cases q2 : (R.off || !R.up i) = true
 ·
  rw [if_pos q2] at h; cases h
 rw [if_neg q2] at h
 by_cases q3 : b = true
 ·
  rw [if_pos q3] at h; cases h
 rw [if_neg q3] at h
 by_cases q4 : R.fuse = 0
 ·
  rw [if_pos q4] at h; cases h
 rw [if_neg q1, if_neg q2, if_neg q3, if_neg (by decide), if_neg q1, if_neg q2, if_neg q3, if_neg (by decide), if_neg (by decide), if_neg q1, if_neg q2, if_neg q3, if_neg q4]
 refine ⟨rfl, ?_⟩
 split <;> rfl
theorem write (i s : Int) (b : List Nat) : Sm fun R => R.write i s b := by
 intro R h
 have h : (R.write i s b).1 = none := h
 have e : R.calm.badW s b = R.badW s b := rfl
 have ed : R.calm.dsk i = R.dsk i := rfl
 show R.calm.write i s b = (none, (R.write i s b).2.calm)
 unfold Rck.write at h ⊢
 by_cases q : R.may i (R.badW s b) = 0
 ·
  obtain ⟨h1, h2⟩ := calm_may q
  rw [e, if_pos h1, if_pos q, h2]; rfl
 ·
  rw [if_neg q] at h; cases h
theorem flush (i : Int) : Sm fun R => R.flush i := by
 intro R h
 have h : (R.flush i).1 = none := h
 show R.calm.flush i = (none, (R.flush i).2.calm)
 unfold Rck.flush at h ⊢
 by_cases q : R.may i false = 0
 ·
  obtain ⟨h1, h2⟩ := calm_may q
  rw [if_pos h1, if_pos q, h2]; rfl
 ·
  rw [if_neg q] at h; cases h
theorem ups {f : Rck → Nat → Option Err × Rck} (hf : ∀ i : Nat, Sm fun R => f R i) : Sm fun R => Go.Proofs.YtbdfjiedceaoiaaGreatDoor.each f R.online R := fun R h => by
 show Go.Proofs.YtbdfjiedceaoiaaGreatDoor.each f R.calm.online R.calm = _
 rw [Rck.calm_online]
 exact each R.online (fun i _ => hf i) R h
theorem jput (c : Cfg) (slot : Int) (x : Rcd) : Sm fun R => R.jput c slot x := by
 have e : (fun R : Rck => R.jput c slot x) = fun R => Go.Proofs.YtbdfjiedceaoiaaGreatDoor.thenE (Go.Proofs.YtbdfjiedceaoiaaGreatDoor.each (Rck.jrow c slot x) R.online R) fun R1 => Go.Proofs.YtbdfjiedceaoiaaGreatDoor.each (fun R d => R.flush (d : Nat)) R1.online R1 := by
  funext R
  unfold Rck.jput
  rcases Go.Proofs.YtbdfjiedceaoiaaGreatDoor.each (Rck.jrow c slot x) R.online R with ⟨o, R1⟩
  rcases o with _ | er <;> rfl
 rw [e]
 exact thenE (ups fun i => each _ fun k _ => write _ _ _) (ups fun i => flush _)
theorem blank (c : Cfg) (slot : Int) : Sm fun R => R.jblank c slot := by
 intro R h
 have h : (R.jblank c slot).1 = none := h
 show R.calm.jblank c slot = (none, (R.jblank c slot).2.calm)
 unfold Rck.jblank at h ⊢
 have e : R.calm.jknown c slot = R.jknown c slot := rfl
 rw [e]
 by_cases q : R.jknown c slot = true
 ·
  rw [if_pos q] at h ⊢
  rw [if_pos q]
  exact map (jput c slot Rcd.none_) _ R h
 ·
  rw [if_neg q] at h; cases h
theorem sput (c : Cfg) (s gen : Int) (l : List (List Nat)) : Sm fun R => R.sput c s gen l := by
 have e1 : (fun R : Rck => R.sputs c s gen l) = fun R => Go.Proofs.YtbdfjiedceaoiaaGreatDoor.thenE (Go.Proofs.YtbdfjiedceaoiaaGreatDoor.each (Rck.srow c s gen l) R.online R) fun R1 => Go.Proofs.YtbdfjiedceaoiaaGreatDoor.each (fun R d => R.flush (d : Nat)) R1.online R1 := by
  funext R
  unfold Rck.sputs
  rcases Go.Proofs.YtbdfjiedceaoiaaGreatDoor.each (Rck.srow c s gen l) R.online R with ⟨o, R1⟩
  rcases o with _ | er <;> rfl
 have hS : Sm fun R : Rck => R.sputs c s gen l := by
  rw [e1]
  exact thenE (ups fun i => write _ _ _) (ups fun i => flush _)
 intro R h
 have h : (R.sput c s gen l).1 = none := h
 show R.calm.sput c s gen l = (none, (R.sput c s gen l).2.calm)
 unfold Rck.sput at h ⊢
 have e : R.calm.sputOk c s gen l = R.sputOk c s gen l := rfl
 rw [e]
 by_cases q : R.sputOk c s gen l = true
 ·
  rw [if_pos q] at h ⊢
  rw [if_pos q]
  exact map hS _ R h
 ·
  rw [if_neg q] at h; cases h
theorem superPut (c : Cfg) (i : Int) : Sm fun R => R.superPut c i := by
 intro R h
 have h : (R.superPut c i).1 = none := h
 show R.calm.superPut c i = (none, (R.superPut c i).2.calm)
 unfold Rck.superPut at h ⊢
 rw [Rck.calm_fits]
 by_cases q : R.fits c = true
 ·
  rw [if_pos q] at h ⊢
  rw [if_pos q]
  by_cases q2 : (R.write i 0 (c.block i).put).1 = none
  ·
   rw [if_pos q2] at h ⊢
   have e := write i 0 (c.block i).put R q2
   have e : R.calm.write i 0 (c.block i).put = (none, (R.write i 0 (c.block i).put).2.calm) := e
   rw [e, if_pos rfl]
   exact map (flush i) _ (R.write i 0 (c.block i).put).2 h
  ·
   rw [if_neg q2] at h
   rcases e : (R.write i 0 (c.block i).put).1 with _ | x
   ·
    exact absurd e q2
   ·
    have h : (R.write i 0 (c.block i).put).1.map (Err.fault sSuperPut i) = none := h
    rw [e] at h; cases h
 ·
  rw [if_neg q] at h; cases h
theorem bare : Sm fun R => R.vbare := by
 intro R h
 have h : R.vbare.1 = none := h
 show R.calm.vbare = (none, R.vbare.2.calm)
 have s1 : Sm (Go.Proofs.YtbdfjiedceaoiaaGreatDoor.each (fun R d => R.write (d : Nat) 0 (List.replicate 128 0)) (List.range R.l.length)) := each _ fun d _ => write _ _ _
 have s2 : Sm fun R => Go.Proofs.YtbdfjiedceaoiaaGreatDoor.each (fun R d => R.flush (d : Nat)) (List.range R.l.length) R := fun R h => by
  exact each (List.range R.l.length) (fun d _ => flush _) R h
 exact thenE s1 s2 R h
theorem blanks (c : Cfg) (n : Nat) : Sm (Rck.vblanks c n) := each _ fun s _ => blank c _
theorem zeros (c : Cfg) (n : Nat) : Sm (Rck.vzeros c n) := each _ fun s _ => sput c _ _ _
theorem supers (c : Cfg) (n : Nat) : Sm (Rck.vsupers c n) := each _ fun s _ => superPut c _
end Sm
end Go.Proofs.YtbdfjiedceaoiaaGreatDoor
namespace Go.Proofs.YtbdfjiedceaoiaaGreatDoor
set_option linter.unusedVariables false
open Go.Proofs.YtbdfjiedceaoiaaGreatDoor.GT (cnt Played Opened Shut)
structure Qs (c : Cfg) (j : Nat → Option Rcd) (f : Strs) (d q : Nat) (b : List Nat) : Prop where
 sup : q = 0 → b = (c.block d).bytes ∨ b = Dsk.zeros
 jr : ∀ s i, s < c.slots.toNat → i < c.k.toNat → q = jsecN c s i → ∃ x, j s = some x ∧ b = (x.frm i).bytes
 st : ∀ s, s < c.stripes.toNat → q = ssecN c s → ∃ y, f s = some y ∧ b = (sfrm s y.1 d (sfrag c y.2 d)).bytes
def Qz (d q : Nat) (b : List Nat) : Prop := q = 0 → b = Dsk.zeros
theorem Qs.at0 {c : Cfg} {j : Nat → Option Rcd} {f : Strs} {d : Nat} {b : List Nat} (h : b = (c.block d).bytes ∨ b = Dsk.zeros) : Qs c j f d 0 b :=
 ⟨fun _ => h, fun s i _ _ e => absurd e.symm (Zcq c s i), fun s _ e => absurd e.symm (Zcf c s)⟩
section
variable {R : Rck} {c : Cfg} {m : Nat} {cur : Int} {j : Nat → Option Rcd} {f : Strs}
theorem PQ.boot_gt (h : PQ R c.n.toNat m (Qs c j f)) (hc : c.Good) (hm : c.sectors ≤ (m : Int)) (hj : ∀ s, s < c.slots.toNat → ∃ x, j s = some x ∧ x.Fit c s ∧ (x.blocks.length : Int) = c.k) (hf : ∀ t, t < c.stripes.toNat → ∃ y, f t = some y ∧ SFit c t y.1 y.2) (bits : List Nat) :
  ∃ sp, GT (R.boot bits) c m (fun _ => true) sp (fun _ s _ => j s) (fun _ t => f t) := by
 have hn : 0 < c.n.toNat := by have := hc.k0; have := hc.k1; omega
 have hm0 : 0 < m := by
  have h1 := Zaz hc hm (s := 0) (by have := hc.st0; omega)
  omega
 obtain ⟨g, hl, hw⟩ := h.boot hn bits
 refine ⟨fun d => decide (((R.boot bits).dsk (d : Nat)).read 0 = (c.block d).bytes), hl, hc, hm, fun d hd => ?_, fun d s i x hd hs hi e => ?_, fun d t y hd ht e => ?_⟩
 ·
  have hD := g.dsk d hd
  refine ⟨hD.len, hD.alive, hw d hd, fun q hq => ?_, fun q _ => hD.rot q, fun e => of_decide_eq_true e, fun e => ?_, fun s i x hs hi e => ?_, fun s i hs hi e => ?_, fun t y ht e => ?_, fun t ht e => ?_, fun e => (by cases e)⟩
  ·
   rw [hD.rot q] at hq; cases hq
  ·
   have e := of_decide_eq_false e
   rw [((hD.read hm0).sup rfl).resolve_left e]
   exact Dsk.zeros_get
  ·
   obtain ⟨y, h1, h2⟩ := (hD.read (Zbf hc hm hs hi)).jr s i hs hi rfl
   have e : j s = some x := e
   rw [e] at h1; cases h1; exact h2
  ·
   obtain ⟨y, h1, _⟩ := hj s hs
   have e : j s = none := e
   rw [e] at h1; cases h1
  ·
   obtain ⟨z, h1, h2⟩ := (hD.read (Zaz hc hm ht)).st t ht rfl
   have e : f t = some y := e
   rw [e] at h1; cases h1; exact h2
  ·
   obtain ⟨z, h1, _⟩ := hf t ht
   have e : f t = none := e
   rw [e] at h1; cases h1
 ·
  obtain ⟨y, h1, h2⟩ := hj s hs
  have e : j s = some x := e
  rw [e] at h1; cases h1; exact h2
 ·
  obtain ⟨z, h1, h2⟩ := hf t ht
  have e : f t = some y := e
  rw [e] at h1; cases h1; exact h2
theorem GT.open_old {sp : Nat → Bool} (h : GT R c m (fun _ => true) sp (fun _ s _ => j s) (fun _ t => f t)) (hv : VI c cur j f) (k4 : c.k ≤ 4) (n6 : c.n ≤ 6) (hcur : cur < 1152921504606846976) :
  (∃ e R', R.vopen = (some e, R', Cfg.zero, 0) ∧ Bad e) ∨ ∃ R' cur', R.vopen = (none, R', c, cur') ∧ ∀ t, t < c.stripes.toNat → ∃ y, f t = some y ∧ SFit c t y.1 y.2 ∧ R'.sget c (t : Int) = (y.2, y.1, none) := by
 have hc := h.good
 have h0 : 0 < c.stripes.toNat := by have := hc.st0; omega
 obtain ⟨a, hp⟩ := exists_pnd hc hv.vv.cur hcur 0 h0 (zblks c.k.toNat) (VH.zblks_fit hc h0).bl
 rcases h.reopen k4 n6 hv hp (VH.cutS hv _ a) with ⟨e, R', e1, hb, _⟩ | ⟨R', cur', j', f', jr', st', e1, r⟩
 ·
  exact .inl ⟨e, R', e1, hb⟩
 ·
  refine .inr ⟨R', cur', e1, ?_⟩
  have hff : f' = f := r.old fun d i hd hi e => by
   have e : j a = some ⟨cur + 1, ((0 : Nat) : Int), zblks c.k.toNat⟩ := e
   have h2 := (hv.fit hp.a e).2.2
   have h2 : cur + 1 ≤ cur := h2
   omega
  rw [← hff]
  exact r.read
theorem GT.open_new {sp : Nat → Bool} (h : GT R c m (fun _ => true) sp (fun _ s _ => VH.jNew c s) (fun _ t => VH.fNew c t)) (k4 : c.k ≤ 4) (n6 : c.n ≤ 6) :
  (∃ e R', R.vopen = (some e, R', Cfg.zero, 0) ∧ Bad e) ∨ ∃ R', R.vopen = (none, R', c, 1) ∧ ∀ t, t < c.stripes.toNat → R'.sget c (t : Int) = (zblks c.k.toNat, 1, none) := by
 have hk := h.k0
 have inj : ∀ s x, s < c.slots.toNat → InSlot c (fun _ s _ => VH.jNew c s) s x → x = blRec c := fun s x hs hx => by
  obtain ⟨d, i, hd, hi, e⟩ := hx
  have e : VH.jNew c s = some x := e
  unfold VH.jNew at e; rw [if_pos hs] at e; cases e; rfl
 have ins : ∀ t y, t < c.stripes.toNat → VH.fNew c t = some y → y = (1, zblks c.k.toNat) := fun t y ht e => by
  unfold VH.fNew at e; rw [if_pos ht] at e; cases e; rfl
 have b0 : (blRec c).seq = 0 := rfl
 rcases h.opened k4 n6 (fun s x y hs hx hy _ => by rw [inj s x hs hx, inj s y hs hy]) (fun s d e y z hs hd he hy hz _ => by rw [ins s y hs hy, ins s z hs hz]) with ⟨e, R', e1, hb, _⟩ | ⟨R', cur', jr', st', ch, e1, o⟩
 ·
  exact .inl ⟨e, R', e1, hb⟩
 ·
  have low : ∀ s, s < c.slots.toNat → (ch s).seq < 2 := fun s hs => by
   rcases (o.slot s hs).inS hk with e | e
   ·
    rw [e, b0]; decide
   ·
    rw [inj s _ hs e, b0]; decide
  have same : ∀ d t, d < c.n.toNat → t < c.stripes.toNat → st' d t = VH.fNew c t := fun d t hd ht => by
   rcases o.play.at_ t ht with ⟨x, ⟨s, hs, e, h2⟩, _⟩ | ⟨_, q⟩
   ·
    have := low s hs
    rw [e] at this; omega
   ·
    exact q d hd
  have c1 : cur' = 1 := by
   have h1 := o.cur1
   have h2 := o.curb 1 (Int.le_refl 1) (fun s y hs hy => by rw [inj s y hs hy, b0]; decide) (fun s d y hs hd e => by
    rw [same d s hd hs] at e
    rw [ins s y hs e]; exact Int.le_refl 1)
   omega
  subst c1
  refine .inr ⟨R', e1, fun t ht => ?_⟩
  obtain ⟨y, ⟨d, hd, e2⟩, _, hg, _⟩ := o.read t ht
  rw [same d t hd ht] at e2
  rw [ins t y ht e2] at hg
  exact hg
theorem PQ.open_none {n : Nat} (h : PQ R n m Qz) (hn : 0 < n) (hm : 0 < m) (bits : List Nat) : ∃ e, (R.boot bits).vopen = (some e, R.boot bits, Cfg.zero, 0) ∧ Bad e := by
 obtain ⟨g, hl, hw⟩ := h.boot hn bits
 have hg : ∀ d : Nat, d < n → (R.boot bits).superGet (d : Nat) = none := fun d hd => by
  have ha := (g.dsk d hd).alive
  have hr : ((R.boot bits).dsk (d : Nat)).read 0 = Dsk.zeros := (g.dsk d hd).read hm rfl
  unfold Rck.superGet
  have e := hl.get (i := d) (s := 0) hd hm ha 1 (d : Int) 0
  have e : (R.boot bits).get (d : Int) 0 1 (d : Int) 0 = _ := e
  rw [e, hr, Dsk.zeros_get]; rfl
 have hcnt : ∀ i, i ≤ n → (R.boot bits).counted i = (Cfg.zero, 0) := by
  intro i
  induction i with
  | zero => intro _; rfl
  | succ i ih => intro hi; rw [Rck.counted_succ, ih (by omega), hg i (by omega)]; rfl
 have hf : (R.boot bits).superFind = (Cfg.zero, some (.fault sSuperFind 0 (.no 7))) := by
  unfold Rck.superFind
  rw [g.len, hcnt n (Nat.le_refl _), if_pos (.inl rfl)]; rfl
 refine ⟨.fault sVOpen 0 (.fault sSuperFind 0 (.no 7)), ?_, .inl ⟨rfl, rfl⟩⟩
 unfold Rck.vopen
 rw [if_neg (by rw [hl.off]; decide), hf]
theorem VH.calm_arm (h : VH R c m true j f) (k : Int) : (R.arm k).calm = R := by
 have := h.pow.fuse
 rcases R with ⟨l, off, fuse⟩
 have : fuse = -1 := this
 subst this; rfl
theorem VH.make_cut {d : Cfg} (h : VH R c m true j f) (hv : VI c cur j f) (hm : (m : Int) = c.sectors) (k4 : c.k ≤ 4) (n6 : c.n ≤ 6) (hcur : cur < 1152921504606846976) (hd : d.Good) (hdn : d.n = c.n) (hds : d.sectors = c.sectors) (hdk : d.k ≤ 4) (k : Int) (bits : List Nat) :
  ∃ o R1, (R.arm k).vmake d = (o, R1) ∧ (∀ e, o = some e → e.kind = 5) ∧
   ((o ≠ none ∧ ∃ e R', (R1.boot bits).vopen = (some e, R', Cfg.zero, 0) ∧ Bad e) ∨
    (o ≠ none ∧ ∃ R' cur', (R1.boot bits).vopen = (none, R', c, cur') ∧ ∀ t, t < c.stripes.toNat → ∃ y, f t = some y ∧ SFit c t y.1 y.2 ∧ R'.sget c (t : Int) = (y.2, y.1, none)) ∨
    ∃ R', (R1.boot bits).vopen = (none, R', d, 1) ∧ ∀ t, t < d.stripes.toNat → R'.sget d (t : Int) = (zblks d.k.toNat, 1, none)) := by
 have hc := h.good
 have hn : 0 < c.n.toNat := by have := hc.k0; have := hc.k1; omega
 have en : d.n.toNat = c.n.toNat := by rw [hdn]
 have hdm : d.sectors ≤ (m : Int) := by omega
 have hm0 := h.m0
 have hcalm := h.calm_arm k
 have pc := GH.of_vh h (fun s hs => by obtain ⟨x, e, _⟩ := hv.vv.slot s hs; exact ⟨x, e⟩) (fun t ht => by obtain ⟨g, l, e, _⟩ := hv.vv.str t ht; exact ⟨_, e⟩) hm
 have q1 : PQ (R.arm k) c.n.toNat m (Qs c j f) := by
  have : PQ R c.n.toNat m (Qs c j f) := ⟨pc.len, fun e he => ⟨(pc.dsk e he).len, (pc.dsk e he).alive, (pc.dsk e he).rot, fun q hq => ?_, fun q b hb => ?_⟩⟩
  ·
   exact this.of_l rfl
  ·
   have := (pc.dsk e he).base q hq
   exact ⟨fun q0 => .inl (this.sup q0), this.jr, this.st⟩
  ·
   have := (pc.dsk e he).wts q b hb
   exact ⟨fun q0 => .inl (this.sup q0), this.jr, this.st⟩
 have hfits : (R.arm k).fits d = true := by
  have q2 := q1
  rw [← en] at q2
  exact q2.fits hd hdm
 have hoff : (R.arm k).off = false := h.pow.off
 have hon : (R.arm k).online = List.range c.n.toNat := h.pow.online
 have hmk : (R.arm k).vmake d = ((thenE (R.arm k).vbare fun R => R.vfilled d).1.map (.fault sVMake 0), (thenE (R.arm k).vbare fun R => R.vfilled d).2) := by
  unfold Rck.vmake
  rw [if_pos hfits, if_neg]
  rw [hoff, hon, List.length_range]
  have := hc.k0; have := hc.k1
  simp; omega
 have fail : ∀ {e : Err} {R1 : Rck}, (thenE (R.arm k).vbare fun R => R.vfilled d) = (some e, R1) → e.kind = 5 → ((∃ e R', (R1.boot bits).vopen = (some e, R', Cfg.zero, 0) ∧ Bad e) ∨ (∃ R' cur', (R1.boot bits).vopen = (none, R', c, cur') ∧ ∀ t, t < c.stripes.toNat → ∃ y, f t = some y ∧ SFit c t y.1 y.2 ∧ R'.sget c (t : Int) = (y.2, y.1, none)) ∨
    ∃ R', (R1.boot bits).vopen = (none, R', d, 1) ∧ ∀ t, t < d.stripes.toNat → R'.sget d (t : Int) = (zblks d.k.toNat, 1, none)) →
   ∃ o R1, (R.arm k).vmake d = (o, R1) ∧ (∀ e, o = some e → e.kind = 5) ∧
   ((o ≠ none ∧ ∃ e R', (R1.boot bits).vopen = (some e, R', Cfg.zero, 0) ∧ Bad e) ∨
    (o ≠ none ∧ ∃ R' cur', (R1.boot bits).vopen = (none, R', c, cur') ∧ ∀ t, t < c.stripes.toNat → ∃ y, f t = some y ∧ SFit c t y.1 y.2 ∧ R'.sget c (t : Int) = (y.2, y.1, none)) ∨
    ∃ R', (R1.boot bits).vopen = (none, R', d, 1) ∧ ∀ t, t < d.stripes.toNat → R'.sget d (t : Int) = (zblks d.k.toNat, 1, none)) := fun {e R1} he h5 hx => by
  rw [hmk, he]
  refine ⟨_, _, rfl, fun e' q => by cases q; exact h5, ?_⟩
  rcases hx with hx | hx | hx
  ·
   exact .inl ⟨by simp, hx⟩
  ·
   exact .inr (.inl ⟨by simp, hx⟩)
  ·
   exact .inr (.inr hx)
 have o1 := q1.bare hm0 fun e _ => Qs.at0 (.inr rfl)
 rcases eb : (R.arm k).vbare with ⟨ob, R1⟩
 rw [eb] at o1
 rcases ob with _ | e
 ·
  -- the elder superblocks are gone
  have s1 := Sm.bare (R.arm k) (by show (R.arm k).vbare.1 = none; rw [eb])
  have s1 : (R.arm k).calm.vbare = (none, (R.arm k).vbare.2.calm) := s1
  rw [hcalm, eb] at s1
  have s1 : R.vbare = (none, R1.calm) := s1
  obtain ⟨R', a1, a2, a3⟩ := (does_bare hm0 c.n.toNat R (-1) h.pow).1 (.inl (by decide))
  have a1 : R.vbare = (none, R') := a1
  rw [s1] at a1; cases a1
  obtain ⟨R'', b1, b2⟩ := h.bare
  rw [s1] at b1; cases b1
  have q2 : PQ R1 d.n.toNat m Qz := by
   rw [en]
   have : PQ R1.calm c.n.toNat m Qz := ⟨a2.len, fun e he => ⟨(b2.dsk e he).len, (b2.dsk e he).alive, (b2.dsk e he).rot, fun q hq q0 => ?_, fun q b hb => ?_⟩⟩
   ·
    exact this.of_l rfl
   ·
    have e1 : (R1.calm.dsk (e : Nat)).l.getD q [] = (R1.calm.dsk (e : Nat)).read q := by unfold Dsk.read; rw [(b2.dsk e he).waits q]; rfl
    subst q0
    rw [e1, a3 e he, Dsk.flush_read _ _ (by rw [Dsk.write_len, (h.dsk e he).len]; exact hm0), Dsk.write_read, if_pos rfl]; rfl
   ·
    rw [(b2.dsk e he).waits q] at hb; cases hb
  have v1 : VH R1.calm d m false (fun _ => none) (fun _ => none) := by
   refine ⟨by rw [en]; exact a2, hd, hdm, fun e he => ?_⟩
   rw [en] at he
   exact ⟨(b2.dsk e he).len, (b2.dsk e he).alive, (b2.dsk e he).waits, (b2.dsk e he).rot, fun q => (by cases q), fun s x i _ q _ => (by cases q), fun s g l _ q => (by cases q)⟩
  have np : ∀ {e : Nat}, (0 : Nat) ≠ e → e ≠ 0 := fun h => fun q => h q.symm
  have none_of : ∀ {R2 : Rck}, PQ R2 d.n.toNat m Qz → ∃ e R', (R2.boot bits).vopen = (some e, R', Cfg.zero, 0) ∧ Bad e := fun g => by
   obtain ⟨e, e1, e2⟩ := g.open_none (by omega) hm0 bits
   exact ⟨e, _, e1, e2⟩
  have o2 := q2.blanks hd hdm fun e s i _ _ _ q0 => absurd q0 (Zcq d s i)
  rcases ebl : Rck.vblanks d d.slots.toNat R1 with ⟨ob2, R2⟩
  rw [ebl] at o2
  rcases ob2 with _ | e
  ·
   have o3 := o2.1.zeros hd hdm fun e s _ _ q0 => absurd q0 (Zcf d s)
   rcases ez : Rck.vzeros d d.stripes.toNat R2 with ⟨ob3, R3⟩
   rw [ez] at o3
   have s2 := Sm.blanks d d.slots.toNat R1 (by rw [ebl])
   rw [ebl] at s2
   rcases ob3 with _ | e
   ·
    -- all but the superblocks is there
    have s3 := Sm.zeros d d.stripes.toNat R2 (by rw [ez])
    rw [ez] at s3
    obtain ⟨X1, c1, c2⟩ := v1.each_blank d.slots.toNat (Nat.le_refl _)
    have s2 : Rck.vblanks d d.slots.toNat R1.calm = (none, R2.calm) := s2
    rw [s2] at c1; cases c1
    obtain ⟨X2, c3, c4⟩ := c2.each_zero d.stripes.toNat (Nat.le_refl _)
    have s3 : Rck.vzeros d d.stripes.toNat R2.calm = (none, R3.calm) := s3
    rw [s3] at c3; cases c3
    have q3 : PQ R3 d.n.toNat m (Qs d (VH.jNew d) (VH.fNew d)) := by
     refine ⟨o3.1.len, fun e he => ⟨(o3.1.dsk e he).len, (o3.1.dsk e he).alive, (o3.1.dsk e he).rot, fun q hq => ?_, fun q b hb => ?_⟩⟩
     ·
      have hV := c4.dsk e he
      have e1 : (R3.dsk (e : Nat)).l.getD q [] = (R3.calm.dsk (e : Nat)).read q := by unfold Dsk.read; rw [hV.waits q]; rfl
      have e0 := (o3.1.dsk e he).base q hq
      refine ⟨fun q0 => .inr (e0 q0), fun s i hs hi eq => ?_, fun s hs eq => ?_⟩
      ·
       refine ⟨blRec d, by unfold VH.jNew; rw [if_pos hs], ?_⟩
       rw [e1, eq]
       exact hV.jr s (blRec d) i hs (by rw [if_pos hs]) hi
      ·
       refine ⟨(1, zblks d.k.toNat), by unfold VH.fNew; rw [if_pos hs], ?_⟩
       rw [e1, eq]
       exact hV.st s 1 (zblks d.k.toNat) hs (by rw [if_pos hs])
     ·
      have hV := c4.dsk e he
      have := hV.waits q
      have : (R3.dsk (e : Nat)).waits q = none := this
      rw [this] at hb; cases hb
    have o4 := q3.supers hd hdm fun e _ => Qs.at0 (.inl rfl)
    have hl3 : R3.l.length = d.n.toNat := o3.1.len
    have efill : ∀ {o : Option Err} {R4 : Rck}, Rck.vsupers d d.n.toNat R3 = (o, R4) → (thenE (R.arm k).vbare fun R => R.vfilled d) = (o, R4) := fun {o R4} e4 => by
     rw [Za1 eb]
     unfold Rck.vfilled
     rw [Za1 ebl, Za1 ez, hl3, e4]
    rcases es : Rck.vsupers d d.n.toNat R3 with ⟨ob4, R4⟩
    rw [es] at o4
    have fin : ∃ sp, GT (R4.boot bits) d m (fun _ => true) sp (fun _ s _ => VH.jNew d s) (fun _ t => VH.fNew d t) :=
     PQ.boot_gt o4.1 hd hdm (fun s hs => ⟨blRec d, by unfold VH.jNew; rw [if_pos hs], GT.blRec_fit hd⟩) (fun t ht => ⟨(1, zblks d.k.toNat), by unfold VH.fNew; rw [if_pos ht], VH.zblks_fit hd ht⟩) bits
    obtain ⟨sp, gt⟩ := fin
    have hop := gt.open_new hdk (by omega)
    rcases ob4 with _ | e
    ·
     have s4 := Sm.supers d d.n.toNat R3 (by rw [es])
     rw [es] at s4
     have s4 : Rck.vsupers d d.n.toNat R3.calm = (none, R4.calm) := s4
     obtain ⟨X3, c5, c6⟩ := c4.supers
     rw [s4] at c5; cases c5
     have h0 : 0 < d.stripes.toNat := by have := hd.st0; omega
     have hvN := VI.new hd
     obtain ⟨a, hp⟩ := exists_pnd hd hvN.vv.cur (by decide) 0 h0 (zblks d.k.toNat) (VH.zblks_fit hd h0).bl
     have c6 : VH R4.calm d m true (VH.jNew d) (VH.fNew d) := c6
     have pcN := GH.of_vh c6 (fun s hs => by obtain ⟨x, e, _⟩ := hvN.vv.slot s hs; exact ⟨x, e⟩) (fun t ht => by obtain ⟨g, l, e, _⟩ := hvN.vv.str t ht; exact ⟨_, e⟩) (by omega)
     obtain ⟨R', cur', j', f', e1, _⟩ := (Cr.idle (p := ⟨1 + 1, ((0 : Nat) : Int), zblks d.k.toNat⟩) (a := a) pcN).reopen hd (by omega) hdk (by omega) hvN hp bits
     have e1 : (R4.boot bits).vopen = (none, R', d, cur') := e1
     refine ⟨none, R4, by rw [hmk, efill es]; rfl, fun e q => (by cases q), .inr (.inr ?_)⟩
     rcases hop with ⟨e, R5, e2, _⟩ | ⟨R5, e2, hr⟩
     ·
      rw [e1] at e2; cases e2
     ·
      exact ⟨R5, e2, hr⟩
    ·
     refine fail (efill es) (o4.2 e rfl) ?_
     rcases hop with ⟨e, R5, e2, hb⟩ | ⟨R5, e2, hr⟩
     ·
      exact .inl ⟨e, R5, e2, hb⟩
     ·
      exact .inr (.inr ⟨R5, e2, hr⟩)
   ·
    refine fail (by rw [Za1 eb]; unfold Rck.vfilled; rw [Za1 ebl, Zbq ez]) (o3.2 e rfl) (.inl (none_of o3.1))
  ·
   refine fail (by rw [Za1 eb]; unfold Rck.vfilled; rw [Zbq ebl]) (o2.2 e rfl) (.inl (none_of o2.1))
 ·
  refine fail (Zbq eb) (o1.2 e rfl) ?_
  obtain ⟨sp, gt⟩ := PQ.boot_gt o1.1 hc (by omega) (fun s hs => by
   obtain ⟨x, e, _⟩ := hv.vv.slot s hs
   exact ⟨x, e, (hv.fit hs e).1, (hv.fit hs e).2.1⟩) (fun t ht => by
   obtain ⟨g, l, e, hx, _⟩ := hv.vv.str t ht
   exact ⟨(g, l), e, hx⟩) bits
  rcases gt.open_old hv k4 n6 hcur with ⟨e, R5, e2, hb⟩ | hx
  ·
   exact .inl ⟨e, R5, e2, hb⟩
  ·
   exact .inr (.inl hx)
end
end Go.Proofs.YtbdfjiedceaoiaaGreatDoor
