/- A disk's crash. -/
import Derived.Test.YtkmgdglmlmodmaaDoorDiskF
import Derived.Test.YtkmgdglmlmodmaaDoorDiskG
namespace Go.Proofs.YtkmgdglmlmodmaaDoor
set_option linter.unusedVariables false
open Go Go.RowKit
namespace Dsk
def bit (bits m : Nat) : Bool := (bits >>> (m % 64)) % 2 == 1
def dnC (D : Dsk) (bits j : Nat) (i : Nat) : Bool := decide (D.waiting.idxOf i < j) && bit bits (D.waiting.idxOf i)
theorem crash_eq (D : Dsk) (bits : Nat) : D.crash bits = D.settle fun i => bit bits (D.waiting.idxOf i) := rfl
theorem waiting_nodup (D : Dsk) : D.waiting.Nodup := List.Pairwise.filter _ List.nodup_range
theorem mem_waiting (D : Dsk) (i : Nat) : i ∈ D.waiting ↔ i < D.l.length ∧ (D.waits i).isSome = true := by unfold waiting; simp
theorem idx_lt {D : Dsk} {i : Nat} (h : i ∈ D.waiting) : D.waiting.idxOf i < D.waiting.length := List.idxOf_lt_length_of_mem h
theorem idx_get {D : Dsk} {j : Nat} (h : j < D.waiting.length) : D.waiting.idxOf (D.waiting.getD j 0) = j := by
  have : D.waiting.getD j 0 = D.waiting[j] := by simp [List.getD_eq_getElem?_getD, h]
  rw [this]
  exact D.waiting_nodup.idxOf_getElem j h
theorem get_idx {D : Dsk} {i : Nat} (h : i ∈ D.waiting) : D.waiting.getD (D.waiting.idxOf i) 0 = i := by
  have h1 := idx_lt h
  have : D.waiting.getD (D.waiting.idxOf i) 0 = D.waiting[D.waiting.idxOf i] := by simp [List.getD_eq_getElem?_getD, h1]
  rw [this]
  exact List.getElem_idxOf h1
theorem dnC_step {D : Dsk} {bits j i : Nat} (hj : j < D.waiting.length) (hi : i ∈ D.waiting) :
    D.dnC bits (j + 1) i = (D.dnC bits j i || (bit bits j && (i == D.waiting.getD j 0))) := by
  have h1 := idx_get hj
  have h2 := get_idx hi
  unfold dnC
  by_cases he : i = D.waiting.getD j 0
  · have : D.waiting.idxOf i = j := by rw [he, h1]
    rw [this]
    have e2 : (i == D.waiting.getD j 0) = true := by rw [he]; simp
    rw [e2]; simp
  · have hne : D.waiting.idxOf i ≠ j := fun e => he (by rw [← e, h2])
    have e2 : (i == D.waiting.getD j 0) = false := by simpa using he
    rw [e2, Bool.and_false, Bool.or_false]
    congr 1
    rw [decide_eq_decide]
    omega
end Dsk
theorem wraps_u64 (n : Int) (h₀ : 0 ≤ n) (h₁ : n < 2 ^ 64) : IntKind.u64.wrap n = n := by rw [IntKind.wrap_u64]; omega
theorem u64_and_nat (a b : Nat) (ha : a < 2 ^ 64) (hb : b < 2 ^ 64) : bits .and .u64 (a : Int) (b : Int) = ((a &&& b : Nat) : Int) :=
  (bits_nat .u64 64 (by decide) wraps_u64 a b ha hb).1
theorem bit_walk (bits j : Nat) (hb : bits < 18446744073709551616) : (Go.bits .and .u64 ((bits : Int) / 2 ^ (j % 64)) 1 == 1) = Dsk.bit bits j := by
  have e1 : ((bits : Int) / 2 ^ (j % 64)) = ((bits / 2 ^ (j % 64) : Nat) : Int) := by push_cast; rfl
  have h1 : bits / 2 ^ (j % 64) < 2 ^ 64 := Nat.lt_of_le_of_lt (Nat.div_le_self _ _) hb
  have e2 := u64_and_nat (bits / 2 ^ (j % 64)) 1 h1 (by decide)
  rw [e1, show (1 : Int) = ((1 : Nat) : Int) from rfl, e2, Nat.and_one_is_mod]
  unfold Dsk.bit
  rw [Nat.shiftRight_eq_div_pow]
  have h2 : bits / 2 ^ (j % 64) % 2 = 0 ∨ bits / 2 ^ (j % 64) % 2 = 1 := by omega
  rcases h2 with h2 | h2 <;> rw [h2] <;> rfl
/-- While a disk crashes. -/
def CrashRel (w w1 : World) (k : DSk) (D : Dsk) (bits j : Nat) (wr : World) : Prop := Mid w wr k D (D.dnC bits j) ∧ Only (fun b => b = k.lb ∨ b = k.rm) w1 wr
theorem CrashRel.step {w w1 wr W : World} {k : DSk} {D : Dsk} {bits j : Nat} (h0 : DiskRep w k D) (h : CrashRel w w1 k D bits j wr) (hj : j < D.waiting.length) (hb : Dsk.bit bits j = true)
    (hm : Mid w W k D (fun i => D.dnC bits j i || i == D.waiting.getD j 0)) (ho : Only (fun b => b = k.lb ∨ b = k.rm) wr W) : CrashRel w w1 k D bits (j + 1) W :=
  ⟨hm.congr h0 fun i hi => by
    obtain ⟨s, hs⟩ := Option.isSome_iff_exists.1 hi
    obtain ⟨q1, l, q2, _⟩ := h0.waitS i s hs
    rw [Dsk.dnC_step hj ((D.mem_waiting i).2 ⟨by rw [h0.len]; exact q1, by rw [q2]; rfl⟩), hb, Bool.true_and], h.2.trans ho fun _ _ x => x⟩
theorem CrashRel.skip {w w1 wr : World} {k : DSk} {D : Dsk} {bits j : Nat} (h0 : DiskRep w k D) (h : CrashRel w w1 k D bits j wr) (hj : j < D.waiting.length) (hb : Dsk.bit bits j = false) : CrashRel w w1 k D bits (j + 1) wr :=
  ⟨h.1.congr h0 fun i hi => by
    obtain ⟨s, hs⟩ := Option.isSome_iff_exists.1 hi
    obtain ⟨q1, l, q2, _⟩ := h0.waitS i s hs
    rw [Dsk.dnC_step hj ((D.mem_waiting i).2 ⟨by rw [h0.len]; exact q1, by rw [q2]; rfl⟩), hb, Bool.false_and, Bool.or_false], h.2⟩
set_option maxHeartbeats 800000 in
theorem dcrash_c {w : World} {k : DSk} {D : Dsk} (h : DiskRep w k D) (bits : Nat) (hbits : bits < 18446744073709551616) :
    Calls Tryd.prog 72 #[.pointer (some ⟨k.p, 0, none⟩), .int .u64 bits] w (DVoidPost w k (D.crash bits)) := by
  have H := hid h
  have hmm := @run_makeMap Tryd.prog
  clear h
  go_enter Tryd.func72, Tryd.ntmps72
  go_wp2_with fail
  refine (dwaits_c H.out).mono ?_
  rintro e w1 ⟨v, rfl, hown, hx⟩
  obtain ⟨a, c, rfl, hsl⟩ := hown.slice
  have HR : Hid (CrashRel w w1 k D bits 0 w1) := hid ⟨(((Mid.start H.out).ext H.out hx).congr H.out fun i _ => by unfold Dsk.dnC; simp), Only.refl _ _⟩
  have hlen : D.waiting.length ≤ k.n := by
    have := D.upTo_len D.l.length
    rw [H.out.len] at this
    unfold Dsk.upTo at this; unfold Dsk.waiting; rw [H.out.len]; exact this
  have hsm := H.out.small
  have HSL := hid hsl; have HX := hid hx
  clear hown hsl hx
  go_wp2
  go_loopw [9] (fun i wr => ∃ j : Nat, i = .int .i64 j ∧ j ≤ D.waiting.length ∧ CrashRel w w1 k D bits j wr) (fun i _ => D.waiting.length - (intOf i).toNat)
  case atStart => exact ⟨0, rfl, by omega, HR.out⟩
  case round =>
    clear HR
    obtain ⟨j, rfl, hj, hrel⟩ := hrel
    by_cases hlt : j < D.waiting.length
    · rcases HSL.out with ⟨h1, _⟩ | ⟨b, rfl, hb1, hb2, hb3, hb4⟩
      · rw [h1] at hlt; simp at hlt
      · have i0 : (0 : Int) ≤ (j : Int) := by omega
        have i1 : (j : Int) < (D.waiting.length : Int) := by omega
        have hcell : wr.cell? ⟨b, j, none⟩ = some (.int .i64 (D.waiting.getD j 0)) := hrel.2.cell (hb4 j hlt) (fun e => by
          have q1 := H.out.lt (b := k.lb) ⟨.lb, rfl⟩
          have q2 := H.out.lt (b := k.rm) ⟨.rm, rfl⟩
          have e' : b = k.lb ∨ b = k.rm := e
          omega)
        have HREL := hid hrel
        clear hrel hb4
        have hmem : D.waiting.getD j 0 ∈ D.waiting := by
          have : D.waiting.getD j 0 = D.waiting[j] := by simp [List.getD_eq_getElem?_getD, hlt]
          rw [this]; exact List.getElem_mem hlt
        obtain ⟨p, hp⟩ : ∃ p, D.waiting.getD j 0 = p := ⟨_, rfl⟩
        rw [hp] at hcell hmem
        have HP := hid hp
        have HMEM := hid hmem
        clear hp hmem
        have hw := bit_walk bits j hbits
        rcases hbit : Dsk.bit bits j with _ | _
        · rw [hbit] at hw
          have HF := hid (HREL.out.skip H.out hlt hbit)
          clear hbit
          go_wp2
          go_roundw
          case rel => exact ⟨j + 1, by go_num, by omega, HF.out⟩
          case measure => simp [intOf]; omega
        · rw [hbit] at hw
          obtain ⟨q1, q2⟩ := (D.mem_waiting p).1 HMEM.out
          have hpn : p < k.n := by rw [← H.out.len]; exact q1
          obtain ⟨s, hs⟩ : ∃ s, k.wf p = some s := by
            rcases hq : k.wf p with _ | s
            · rw [H.out.waitN p hq] at q2; cases q2
            · exact ⟨s, rfl⟩
          have HS := hid hs; have HB := hid hbit
          clear hbit hs q2
          go_wp2_with (go_at_call 98; refine (dput_c H.out HREL.out.1 p hpn s HS.out).mono ?_; rintro e W3 ⟨rfl, hm3, ho3⟩)
          have HF := hid (HREL.out.step H.out hlt HB.out (by rw [HP.out]; exact hm3) ho3)
          go_roundw
          case rel => exact ⟨j + 1, by go_num, by omega, HF.out⟩
          case measure => simp [intOf]; omega
    · obtain rfl : D.waiting.length = j := by omega
      have hfin := (hrel.1.congr (dn' := fun i => Dsk.bit bits (D.waiting.idxOf i)) H.out (fun i hi => by
        obtain ⟨s, hs⟩ := Option.isSome_iff_exists.1 hi
        obtain ⟨q1, l, q2, _⟩ := H.out.waitS i s hs
        have := Dsk.idx_lt ((D.mem_waiting i).2 ⟨by rw [H.out.len]; exact q1, by rw [q2]; rfl⟩)
        unfold Dsk.dnC
        simp [this])).finish H.out
      have HF := hid hfin
      have hown := (hrel.1.at_ H.out .p _ rfl (by simp) (by simp)).trans H.out.own
      have c1 := hrel.1.cell1 H.out
      have hfa : ∀ o, (wr.alloc o).frozen? ⟨k.p, 1, none⟩ = false := fun o => free_at ((heap_alloc_old wr o (lt_of_block hown)).trans hown)
      have hf : wr.frozen? ⟨k.p, 1, none⟩ = false := free_at hown
      have hca : ∀ o, (wr.alloc o).cell? ⟨k.p, 1, none⟩ = some (.map (some k.wm)) := fun o => Ext.cell ((Ext.refl wr).alloc o) c1
      clear hrel hfin hown
      go_wp2
      go_end0
      exact ⟨rfl, _, HF.out⟩
end Go.Proofs.YtkmgdglmlmodmaaDoor
