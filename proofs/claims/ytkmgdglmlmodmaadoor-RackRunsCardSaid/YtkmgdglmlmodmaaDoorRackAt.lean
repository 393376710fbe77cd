/- The rack's calls, with what they may not touch. -/
import Derived.Test.YtkmgdglmlmodmaaDoorRackD
import Derived.Test.YtkmgdglmlmodmaaDoorRackF
namespace Go.Proofs.YtkmgdglmlmodmaaDoor
set_option linter.unusedVariables false
open Go Go.RowKit
/-- What a call leaves of the world if the blocks S are protected. -/
theorem Keeps.ext {S : Nat → Prop} {w w1 w2 : World} (h : Ext w w1) (k : Keeps S w1 w2) (hS : ∀ b, b < w.heap.size → S b) : Ext w w2 := Ext.then h k fun i hi hn => hn (hS i hi)
theorem at_write {S : Nat → Prop} {w : World} {r : Nat} {R : Rck} (h : RackAt S w r R) (i s : Int) (a : Option Addr) (n c : Nat) (l : List Nat) (hb : BytesAt w a n l) :
    Calls Tryd.prog 24 #[.pointer (some ⟨r, 0, none⟩), .int .i64 i, .int .i64 s, .slice a n c] w fun e w' => e = .returned (oErr (R.write i s l).1) ∧ RackAt S w' r (R.write i s l).2 ∧ Keeps S w w' := by
  obtain ⟨h0, K, rfl, h2, h3⟩ := h
  refine (rwrite_c h2 i s a n c l hb).mono ?_
  rintro e w' ⟨rfl, K', ht⟩
  exact ⟨rfl, ht.at_ h0 h3⟩
theorem at_flush {S : Nat → Prop} {w : World} {r : Nat} {R : Rck} (h : RackAt S w r R) (i : Int) :
    Calls Tryd.prog 26 #[.pointer (some ⟨r, 0, none⟩), .int .i64 i] w fun e w' => e = .returned (oErr (R.flush i).1) ∧ RackAt S w' r (R.flush i).2 ∧ Keeps S w w' := by
  obtain ⟨h0, K, rfl, h2, h3⟩ := h
  refine (rflush_c h2 i).mono ?_
  rintro e w' ⟨rfl, K', ht⟩
  exact ⟨rfl, ht.at_ h0 h3⟩
theorem at_read {S : Nat → Prop} {w : World} {r : Nat} {R : Rck} (h : RackAt S w r R) (i s : Int) :
    Calls Tryd.prog 32 #[.pointer (some ⟨r, 0, none⟩), .int .i64 i, .int .i64 s] w (RReadPost w R i s) := by
  obtain ⟨h0, K, rfl, h2, h3⟩ := h
  exact rread_c h2 i s
theorem at_get {S : Nat → Prop} {w : World} {r : Nat} {R : Rck} (h : RackAt S w r R) (i s kind slot stripe : Int) :
    Calls Tryd.prog 29 #[.pointer (some ⟨r, 0, none⟩), .int .i64 i, .int .i64 s, .int .i64 kind, .int .i64 slot, .int .i64 stripe] w (RGetPost w R i s kind slot stripe) := by
  obtain ⟨h0, K, rfl, h2, h3⟩ := h
  exact rget_c h2 i s kind slot stripe
theorem at_off {S : Nat → Prop} {w : World} {r : Nat} {R : Rck} (h : RackAt S w r R) :
    Calls Tryd.prog 27 #[.pointer (some ⟨r, 0, none⟩)] w fun e w' => e = .returned (.bool R.off) ∧ w = w' := by
  obtain ⟨h0, K, rfl, h2, h3⟩ := h
  exact roff_c h2
theorem at_up {S : Nat → Prop} {w : World} {r : Nat} {R : Rck} (h : RackAt S w r R) (i : Int) :
    Calls Tryd.prog 37 #[.pointer (some ⟨r, 0, none⟩), .int .i64 i] w fun e w' => e = .returned (.bool (R.up i)) ∧ w = w' := by
  obtain ⟨h0, K, rfl, h2, h3⟩ := h
  exact rup_c h2 i
theorem at_n {S : Nat → Prop} {w : World} {r : Nat} {R : Rck} (h : RackAt S w r R) :
    Calls Tryd.prog 83 #[.pointer (some ⟨r, 0, none⟩)] w fun e w' => e = .returned (.int .i64 R.l.length) ∧ w = w' := by
  obtain ⟨h0, K, rfl, h2, h3⟩ := h
  rw [h2.len]
  exact rn_c h2
theorem at_sectors {S : Nat → Prop} {w : World} {r : Nat} {R : Rck} (h : RackAt S w r R) :
    Calls Tryd.prog 69 #[.pointer (some ⟨r, 0, none⟩)] w fun e w' => e = .returned (.int .i64 R.sectors) ∧ w = w' := by
  obtain ⟨h0, K, rfl, h2, h3⟩ := h
  rw [h2.sectors_eq]
  exact rsectors_c h2
theorem at_arm {S : Nat → Prop} {w : World} {r : Nat} {R : Rck} (h : RackAt S w r R) (n : Int) (hn : n ≤ 9223372036854775807) :
    Calls Tryd.prog 23 #[.pointer (some ⟨r, 0, none⟩), .int .i64 n] w fun e w' => e = .returned (.tuple #[]) ∧ RackAt S w' r (R.arm n) ∧ Keeps S w w' := by
  obtain ⟨h0, K, rfl, h2, h3⟩ := h
  refine (rarm_c h2 n hn).mono ?_
  rintro e w' ⟨rfl, h4, h5⟩
  exact ⟨rfl, (RackTo.asked h4 h5).at_ h0 h3⟩
theorem at_die {S : Nat → Prop} {w : World} {r : Nat} {R : Rck} (h : RackAt S w r R) (i : Int) :
    Calls Tryd.prog 35 #[.pointer (some ⟨r, 0, none⟩), .int .i64 i] w fun e w' => e = .returned (.bool (R.has i)) ∧ RackAt S w' r (R.die i) ∧ Keeps S w w' := by
  obtain ⟨h0, K, rfl, h2, h3⟩ := h
  refine (rdie_c h2 i).mono ?_
  rintro e w' ⟨rfl, K', ht⟩
  exact ⟨rfl, ht.at_ h0 h3⟩
theorem at_replace {S : Nat → Prop} {w : World} {r : Nat} {R : Rck} (h : RackAt S w r R) (i : Int) :
    Calls Tryd.prog 38 #[.pointer (some ⟨r, 0, none⟩), .int .i64 i] w fun e w' => e = .returned (.bool (R.has i)) ∧ RackAt S w' r (R.replace i) ∧ Keeps S w w' := by
  obtain ⟨h0, K, rfl, h2, h3⟩ := h
  refine (rreplace_c h2 i).mono ?_
  rintro e w' ⟨rfl, K', ht⟩
  exact ⟨rfl, ht.at_ h0 h3⟩
theorem at_boot {S : Nat → Prop} {w : World} {r : Nat} {R : Rck} (h : RackAt S w r R) (a : Option Addr) (n c : Nat) (bits : List Nat) (hb : BitsAt w a n bits) (hs : ∀ p, a = some p → 0 < n → S p.block) :
    Calls Tryd.prog 28 #[.pointer (some ⟨r, 0, none⟩), .slice a n c] w fun e w' => e = .returned (.tuple #[]) ∧ RackAt S w' r (R.boot bits) ∧ Keeps S w w' := by
  obtain ⟨h0, K, rfl, h2, h3⟩ := h
  refine (rboot_c h2 a n c bits hb (fun p hp hn hf => h3 _ hf (hs p hp hn))).mono ?_
  rintro e w' ⟨rfl, K', ht⟩
  exact ⟨rfl, ht.at_ h0 h3⟩
theorem at_new (n m : Nat) (hn : 1 ≤ n) (hn8 : n ≤ 8) (hm : 1 ≤ m) (hm2 : m ≤ 128) (w : World) :
    Calls Tryd.prog 20 #[.int .i64 n, .int .i64 m] w fun e w' => ∃ r, e = .returned (.tuple #[.pointer (some ⟨r, 0, none⟩), .nilIface]) ∧ RackAt (fun b => b < w.heap.size) w' r (Rck.new n m) ∧ Ext w w' := by
  refine (rnew_c n m hn hn8 hm hm2 w).mono ?_
  rintro e w' ⟨K, rfl, h1, h2, h3, _, _⟩
  exact ⟨K.r, rfl, ⟨fun b hb => Nat.lt_of_lt_of_le hb h3.size, K, rfl, h1, fun b hb hs => by have := h2 b hb; omega⟩, h3⟩
section
variable {P : Program} {ops : Array Oper} {S : World → World → Prop}
/-- One operation whose run is known. -/
theorem wpSQ_run {w : World} {K : Act → Prop} {a : Act} {o : Oper} {rest : List Oper} (v : Value) (hw : Region.wanted o (yielded ops a.tmps) = true) (h : ∀ x : SW S w, (execOp a.eval o).run P x.w = .ok (.value v) x.w)
    (hK : wpSQ S P ops w K rest (a.put o.dst v)) : wpSQ S P ops w K (o :: rest) a := by
  have h0 : wpSQ S P ops w K (o :: rest) a = if Region.wanted o (yielded ops a.tmps) then ∃ v, (∀ x : SW S w, o.quietAt P a (S x.w) x.w v) ∧ wpSQ S P ops w K rest (a.put o.dst v) else wpSQ S P ops w K rest (a.put o.dst undef) := rfl
  rw [h0, if_pos hw]
  refine ⟨v, fun x => ?_, hK⟩
  unfold Oper.quietAt
  rw [h x]
  exact ⟨rfl, rfl⟩
theorem wpSQ_load_agg {w : World} {K : Act → Prop} {a : Act} {o : Oper} {rest : List Oper} (ty : TypeId) (y : Operand) (ho : o.op = .load ty y) (ad : Addr) (hx : a.eval y = .pointer (some ad)) (A : Array Value) (hw : Region.wanted o (yielded ops a.tmps) = true)
    (ht : AggType P ty A.size) (hc : ∀ x : SW S w, ∀ j v, A.toList[j]? = some v → x.w.cell? (ad.add j) = some v) (hK : wpSQ S P ops w K rest (a.put o.dst (.agg A))) : wpSQ S P ops w K (o :: rest) a := by
  refine wpSQ_run (.agg A) hw (fun x => ?_) hK
  have hl := run_loadVar_agg (P := P) x.w ty ad A ht (hc x)
  unfold execOp
  simp only [ho, hx, Instr.loadAt, Instr.sureAddr, Sem.run_bind, Sem.run_pure, Result.andThen_ok, hl]
theorem wpSQ_eql {w : World} {K : Act → Prop} {a : Act} {o : Oper} {rest : List Oper} (op : BinOp) (ty ty' : TypeId) (y z : Operand) (ho : o.op = .binOp op ty y z ty') (A B : Array Value) (hy : a.eval y = .agg A) (hz : a.eval z = .agg B) (v : Value) (hw : Region.wanted o (yielded ops a.tmps) = true)
    (hg : ∀ w, (eqGuard op ty y z (.agg A) (.agg B)).run P w = .ok () w) (hb : ∀ w, (binOp op ty (.agg A) (.agg B)).run P w = .ok v w) (hK : wpSQ S P ops w K rest (a.put o.dst v)) : wpSQ S P ops w K (o :: rest) a := by
  refine wpSQ_run v hw (fun x => ?_) hK
  unfold execOp
  simp only [ho, hy, hz, Sem.run_bind, hg, hb, Result.andThen_ok]
  rfl
end
end Go.Proofs.YtkmgdglmlmodmaaDoor
