/- Texts of one proof, joined: SuperPure, SupA, SupB, SupC, SupD, SupE, SupF. -/
import Derived.Test.YtdbjojnejkklhaaDoorPartD
import Derived.Test.YtdbjojnejkklhaaDoorPartG
import Derived.Test.YtdbjojnejkklhaaDoorPartA
import Derived.Test.YtdbjojnejkklhaaDoorPartB
import Derived.Test.YtdbjojnejkklhaaDoorPartF
import Derived.Test.YtdbjojnejkklhaaDoorPartC
set_option linter.unusedVariables false
set_option linter.unusedSimpArgs false
/- Superblocks as plain data. No program stands here. -/
namespace Go.Proofs.YtdbjojnejkklhaaDoor
set_option linter.unusedVariables false
instance : DecidableEq Frm := fun f g => decidable_of_iff (f.kind = g.kind ∧ f.slot = g.slot ∧ f.stripe = g.stripe ∧ f.gen = g.gen ∧ f.data = g.data) (by cases f; cases g; simp)
structure Cfg where
  id : Int
  k : Int
  n : Int
  stripes : Int
  slots : Int
namespace Cfg
def zero : Cfg := ⟨0, 0, 0, 0, 0⟩
theorem ext_iff' (a b : Cfg) : a = b ↔ a.id = b.id ∧ a.k = b.k ∧ a.n = b.n ∧ a.stripes = b.stripes ∧ a.slots = b.slots := by
  cases a; cases b; simp
instance : DecidableEq Cfg := fun a b => decidable_of_iff _ (ext_iff' a b).symm
def right (c : Cfg) : Bool := Frm.isIn c.id 1 2147483647 && Frm.isIn c.n 1 8 && Frm.isIn c.k 1 c.n && Frm.isIn c.stripes 1 64 && Frm.isIn c.slots 1 4
def sectors (c : Cfg) : Int := 1 + c.slots * c.k + c.stripes
structure Good (c : Cfg) : Prop where
  id0 : 1 ≤ c.id
  id1 : c.id ≤ 2147483647
  n1 : c.n ≤ 8
  k0 : 1 ≤ c.k
  k1 : c.k ≤ c.n
  st0 : 1 ≤ c.stripes
  st1 : c.stripes ≤ 64
  sl0 : 1 ≤ c.slots
  sl1 : c.slots ≤ 4
theorem right_iff (c : Cfg) : c.right = true ↔ c.Good := by
  unfold right Frm.isIn
  simp only [Bool.and_eq_true, decide_eq_true_eq]
  exact ⟨fun ⟨⟨⟨⟨⟨h1, h2⟩, h3, h4⟩, h5, h6⟩, h7, h8⟩, h9, h10⟩ => ⟨h1, h2, h4, h5, h6, h7, h8, h9, h10⟩, fun h => ⟨⟨⟨⟨⟨h.id0, h.id1⟩, Int.le_trans h.k0 h.k1, h.n1⟩, h.k0, h.k1⟩, h.st0, h.st1⟩, h.sl0, h.sl1⟩⟩
/-- The bytes of one. -/
def bytes (c : Cfg) : List Nat := Frm.low 4 c.id.toNat ++ [c.k.toNat, c.n.toNat, c.stripes.toNat, c.slots.toNat]
theorem bytes_len (c : Cfg) : c.bytes.length = 8 := by simp [bytes, Frm.low_len]
/-- The superblock's frame of a disk. -/
def block (c : Cfg) (i : Int) : Frm := ⟨1, i, 0, 1, c.bytes ++ List.replicate 100 0⟩
theorem bytes_byte (c : Cfg) (h : c.Good) : ∀ x ∈ c.bytes, x < 256 := by
  intro x hx
  unfold bytes at hx
  obtain ⟨h1, h2, h3, h4, h5, h6, h7, h8, h9⟩ := h
  rw [List.mem_append] at hx
  rcases hx with hx | hx
  · exact Frm.low_byte _ _ x hx
  · simp only [List.mem_cons, List.not_mem_nil, or_false] at hx
    rcases hx with rfl | rfl | rfl | rfl <;> omega
theorem block_ok (c : Cfg) (i : Int) (h : c.Good) : (c.block i).Ok := ⟨by simp [block, bytes_len], fun x hx => by
  unfold block at hx
  rcases List.mem_append.1 hx with hx | hx
  · exact bytes_byte c h x hx
  · rw [(List.mem_replicate.1 hx).2]; omega⟩
theorem block_right (c : Cfg) (i : Nat) (hi : i < 8) : (c.block i).right = true := by
  have h1 : (c.block i).kind = 1 := rfl
  have h2 : (c.block i).slot = i := rfl
  have h3 : (c.block i).stripe = 0 := rfl
  have h4 : (c.block i).gen = 1 := rfl
  exact Frm.right_of (by omega) (by omega) (by omega) (by omega) (by omega) (by omega) (by omega) (by omega)
/-- What a frame's bytes say. -/
def parse (l : List Nat) : Cfg := ⟨(Frm.num (l.take 4) : Nat), (nth l 4 : Nat), (nth l 5 : Nat), (nth l 6 : Nat), (nth l 7 : Nat)⟩
theorem parse_app (c : Cfg) (h : c.Good) (l : List Nat) : parse (c.bytes ++ l) = c := by
  obtain ⟨h1, h2, h3, h4, h5, h6, h7, h8, h9⟩ := h
  have e : c.bytes ++ l = Frm.low 4 c.id.toNat ++ ([c.k.toNat, c.n.toNat, c.stripes.toNat, c.slots.toNat] ++ l) := by unfold bytes; rw [List.append_assoc]
  have hl := Frm.low_len 4 c.id.toNat
  have ht : (c.bytes ++ l).take 4 = Frm.low 4 c.id.toNat := by rw [e, List.take_append_of_le_length (by omega), List.take_of_length_le (by omega)]
  have hn : ∀ j, nth (c.bytes ++ l) (4 + j) = nth ([c.k.toNat, c.n.toNat, c.stripes.toNat, c.slots.toNat] ++ l) j := fun j => by
    rw [e]; unfold nth
    simp [List.getD_eq_getElem?_getD, List.getElem?_append_right, hl]
  rw [ext_iff']
  unfold parse
  refine ⟨?_, ?_, ?_, ?_, ?_⟩
  · show ((Frm.num ((c.bytes ++ l).take 4) : Nat) : Int) = c.id
    rw [ht, Frm.num_low, Nat.mod_eq_of_lt (by omega)]; omega
  · show ((nth (c.bytes ++ l) (4 + 0) : Nat) : Int) = c.k
    rw [hn]; show ((c.k.toNat : Nat) : Int) = c.k; omega
  · show ((nth (c.bytes ++ l) (4 + 1) : Nat) : Int) = c.n
    rw [hn]; show ((c.n.toNat : Nat) : Int) = c.n; omega
  · show ((nth (c.bytes ++ l) (4 + 2) : Nat) : Int) = c.stripes
    rw [hn]; show ((c.stripes.toNat : Nat) : Int) = c.stripes; omega
  · show ((nth (c.bytes ++ l) (4 + 3) : Nat) : Int) = c.slots
    rw [hn]; show ((c.slots.toNat : Nat) : Int) = c.slots; omega
/-- The configuration that a disk's frame tells, if it is just that. -/
def told (f : Frm) (i : Int) : Option Cfg := if (parse f.data).right = true ∧ f = (parse f.data).block i then some (parse f.data) else none
end Cfg
def sSuperPut : ByteArray := ⟨#[115, 117, 112, 101, 114, 46, 80, 117, 116]⟩
def sSuperFind : ByteArray := ⟨#[115, 117, 112, 101, 114, 46, 70, 105, 110, 100]⟩
namespace Rck
def fits (r : Rck) (c : Cfg) : Bool := c.right && decide (c.n = (r.l.length : Int)) && decide (c.sectors ≤ (r.sectors : Int))
/-- A disk's superblock is written and flushed. -/
def superPut (r : Rck) (c : Cfg) (i : Int) : Option Err × Rck :=
  if r.fits c = true then
    if (r.write i 0 (c.block i).put).1 = none then (((r.write i 0 (c.block i).put).2.flush i).1.map (.fault sSuperPut i), ((r.write i 0 (c.block i).put).2.flush i).2)
    else ((r.write i 0 (c.block i).put).1.map (.fault sSuperPut i), (r.write i 0 (c.block i).put).2)
  else (some (.fault sSuperPut i (.no 1)), r)
/-- What a disk's superblock tells. -/
def superGet (r : Rck) (i : Int) : Option Cfg := (r.get i 0 1 i 0).bind fun f => Cfg.told f i
/-- The first one of those that are told, and how many are the same. -/
def count : Cfg × Nat → Option Cfg → Cfg × Nat
  | (c, n), none => (c, n)
  | (c, n), some x => if x = (if n = 0 then x else c) then (if n = 0 then x else c, n + 1) else (if n = 0 then x else c, n)
def counted (r : Rck) (m : Nat) : Cfg × Nat := (List.range m).foldl (fun a (i : Nat) => count a (r.superGet (i : Int))) (Cfg.zero, 0)
theorem counted_succ (r : Rck) (m : Nat) : r.counted (m + 1) = count (r.counted m) (r.superGet (m : Int)) := by
  unfold counted; rw [List.range_succ, List.foldl_append]; rfl
def superFind (r : Rck) : Cfg × Option Err :=
  if (r.counted r.l.length).2 = 0 ∨ ((r.counted r.l.length).2 : Int) < (r.counted r.l.length).1.k ∨ r.fits (r.counted r.l.length).1 = false then (Cfg.zero, some (.fault sSuperFind ((r.counted r.l.length).2 : Int) (.no 7)))
  else ((r.counted r.l.length).1, none)
end Rck
theorem Cfg.told_block (c : Cfg) (h : c.Good) (i : Int) : Cfg.told (c.block i) i = some c := by
  unfold Cfg.told
  have e : Cfg.parse (c.block i).data = c := Cfg.parse_app c h _
  rw [e, if_pos ⟨(Cfg.right_iff c).2 h, rfl⟩]
/-- On a live rack. -/
structure Super (R : Rck) (c : Cfg) (m : Nat) : Prop where
  live : Live R c.n.toNat m
  good : c.Good
  fit : c.sectors ≤ (m : Int)
namespace Super
variable {R : Rck} {c : Cfg} {m : Nat}
theorem fits (h : Super R c m) : R.fits c = true := by
  unfold Rck.fits
  have hg := h.good
  rw [(Cfg.right_iff c).2 hg, h.live.len, h.live.sectors, decide_eq_true h.fit, decide_eq_true (by have := hg.k0; have := hg.k1; omega)]; rfl
theorem m1 (h : Super R c m) : 1 ≤ m := by
  have h1 := h.fit
  unfold Cfg.sectors at h1
  have := h.good.st0
  have h2 : 0 ≤ c.slots * c.k := Int.mul_nonneg (by have := h.good.sl0; omega) (by have := h.good.k0; omega)
  omega
theorem n8 (h : Super R c m) : c.n.toNat ≤ 8 := by have := h.good.n1; omega
/-- What a disk is behind it. -/
def disk (D : Dsk) (b : List Nat) : Dsk := (D.write 0 b).flush
theorem put (h : Super R c m) {i : Nat} (hi : i < c.n.toNat) (ha : (R.dsk i).dead = false) : R.superPut c i = (none, R.setD i (disk (R.dsk i) (c.block i).bytes)) := by
  have hr := Cfg.block_right c i (by have := h.n8; omega)
  have hb := Frm.bytes_len _ (Cfg.block_ok c i h.good)
  have hp : (c.block (i : Int)).put = (c.block (i : Int)).bytes := by unfold Frm.put; rw [if_pos hr]
  have hw := h.live.write (s := 0) hi ha (by have := h.m1; omega) hb
  obtain ⟨h1, h2⟩ := h.live.setD ((R.dsk i).write 0 (c.block i).bytes) (by rw [Dsk.write_len]; exact h.live.secs i hi) hi
  have hw' : R.write (i : Int) 0 (c.block (i : Int)).bytes = (none, R.setD i ((R.dsk i).write 0 (c.block i).bytes)) := hw
  have hf := h1.flush hi (by rw [h2, if_pos rfl]; exact ha)
  rw [h2, if_pos rfl] at hf
  unfold Rck.superPut
  rw [if_pos h.fits, hp, hw', if_pos rfl]
  show (Option.map _ ((R.setD (↑i) ((R.dsk ↑i).write 0 (c.block ↑i).bytes)).flush ↑i).1, ((R.setD (↑i) ((R.dsk ↑i).write 0 (c.block ↑i).bytes)).flush ↑i).2) = _
  rw [hf]
  show (none, _) = _
  congr 1
  unfold Rck.setD disk
  simp
theorem get (h : Live R c.n.toNat m) (hm : 1 ≤ m) {i : Nat} (hi : i < c.n.toNat) (hi8 : i < 8) (ha : (R.dsk i).dead = false) {d : Cfg} (hd : d.Good) (hr : (R.dsk i).read 0 = (d.block i).bytes) : R.superGet i = some d := by
  unfold Rck.superGet
  have e := h.get (s := 0) hi (by omega) ha 1 i 0
  rw [hr, Frm.get_bytes _ (Cfg.block_ok d i hd) (Cfg.block_right d i hi8)] at e
  have e2 : R.get (i : Int) 0 1 (i : Int) 0 = some (d.block i) := e.trans (if_pos ⟨rfl, rfl, fun _ => rfl⟩)
  rw [e2]
  exact Cfg.told_block d hd i
end Super
end Go.Proofs.YtdbjojnejkklhaaDoor

/- super: a configuration as the program's value; within, Right, Sectors. -/
namespace Go.Proofs.YtdbjojnejkklhaaDoor
set_option linter.unusedVariables false
open Go Go.RowKit
namespace Cfg
/-- A configuration's cells. -/
def cl (c : Cfg) : List Value := [.int .i64 c.id, .int .i64 c.k, .int .i64 c.n, .int .i64 c.stripes, .int .i64 c.slots]
@[irreducible] def A (c : Cfg) : Array Value := (cl c).toArray
theorem A_def (c : Cfg) : A c = (cl c).toArray := by unfold A; rfl
theorem A_size (c : Cfg) : (A c).size = 5 := by rw [A_def]; rfl
theorem A0 (c : Cfg) : (A c)[0]? = some (.int .i64 c.id) := by rw [A_def]; rfl
theorem A1 (c : Cfg) : (A c)[1]? = some (.int .i64 c.k) := by rw [A_def]; rfl
theorem A2 (c : Cfg) : (A c)[2]? = some (.int .i64 c.n) := by rw [A_def]; rfl
theorem A3 (c : Cfg) : (A c)[3]? = some (.int .i64 c.stripes) := by rw [A_def]; rfl
theorem A4 (c : Cfg) : (A c)[4]? = some (.int .i64 c.slots) := by rw [A_def]; rfl
theorem A_one (c : Cfg) : ∀ v ∈ (A c).toList, v.oneCell' = true := by
  intro v hv
  rw [A_def] at hv
  simp only [cl, List.mem_cons, List.not_mem_nil, or_false] at hv
  rcases hv with rfl | rfl | rfl | rfl | rfl <;> rfl
end Cfg
theorem aggCfg : AggType Tryd.prog 59 5 := ⟨by kernel_rfl, by kernel_rfl⟩
theorem zero_cfg (w : World) : Sem.run Tryd.prog (zeroValue 59) w = .ok (.agg (Cfg.A Cfg.zero)) w := by kernel_rfl
theorem built_cfg0 : Tryd.prog.built 59 [] = some (Cfg.A Cfg.zero) := by kernel_rfl
theorem built_cfg (c : Cfg) : Tryd.prog.built 59 [(0, .int .i64 c.id), (1, .int .i64 c.k), (2, .int .i64 c.n), (3, .int .i64 c.stripes), (4, .int .i64 c.slots)] = some (Cfg.A c) := by kernel_rfl
theorem swithin_c (n lo hi : Int) (w : World) :
    Calls Tryd.prog 72 #[.int .i64 n, .int .i64 lo, .int .i64 hi] w fun e w' => e = .returned (.bool (Frm.isIn n lo hi)) ∧ w = w' := by
  by_cases h : lo ≤ n
  · have h1 : decide (lo ≤ n) = true := by simp [h]
    have HI : Hid (Frm.isIn n lo hi = decide (n ≤ hi)) := hid (by simp [Frm.isIn, h])
    rw [HI.out]
    go_enter Tryd.func72, Tryd.ntmps72
    go_wp2
    go_ret
    exact ⟨rfl, rfl⟩
  · have h1 : decide (lo ≤ n) = false := by simp [h]
    have HI : Hid (Frm.isIn n lo hi = false) := hid (by simp [Frm.isIn, h])
    rw [HI.out]
    go_enter Tryd.func72, Tryd.ntmps72
    go_wp2
    go_ret
    exact ⟨rfl, rfl⟩
set_option maxRecDepth 100000 in
set_option maxHeartbeats 2000000 in
theorem sright_c (c : Cfg) (w : World) :
    Calls Tryd.prog 37 #[.agg (Cfg.A c)] w fun e w' => e = .returned (.bool c.right) ∧ Ext w w' := by
  have a0 := Cfg.A0 c
  have a1 := Cfg.A1 c
  have a2 := Cfg.A2 c
  have a3 := Cfg.A3 c
  have a4 := Cfg.A4 c
  have HR : Hid (c.right = (Frm.isIn c.id 1 2147483647 && Frm.isIn c.n 1 8 && Frm.isIn c.k 1 c.n && Frm.isIn c.stripes 1 64 && Frm.isIn c.slots 1 4)) := hid rfl
  rw [HR.out]
  clear HR
  obtain ⟨id, k, n, st, sl⟩ := c
  simp only at a0 a1 a2 a3 a4 ⊢
  generalize Cfg.A _ = A at *
  rcases h0 : Frm.isIn id 1 2147483647 with _ | _
  · rw [Bool.false_and, Bool.false_and, Bool.false_and, Bool.false_and]
    go_enter Tryd.func37, Tryd.ntmps37
    go_wp2_with (go_at_call 72; refine (swithin_c _ _ _ _).mono ?_; rintro e w' ⟨rfl, rfl⟩)
    go_ret
    exact ⟨rfl, (Ext.refl w).alloc _⟩
  · rcases h1 : Frm.isIn n 1 8 with _ | _
    · rw [Bool.true_and, Bool.false_and, Bool.false_and, Bool.false_and]
      go_enter Tryd.func37, Tryd.ntmps37
      go_wp2_with (go_at_call 72; refine (swithin_c _ _ _ _).mono ?_; rintro e w' ⟨rfl, rfl⟩)
      go_ret
      exact ⟨rfl, (Ext.refl w).alloc _⟩
    · rcases h2 : Frm.isIn k 1 n with _ | _
      · rw [Bool.true_and, Bool.true_and, Bool.false_and, Bool.false_and]
        go_enter Tryd.func37, Tryd.ntmps37
        go_wp2_with (go_at_call 72; refine (swithin_c _ _ _ _).mono ?_; rintro e w' ⟨rfl, rfl⟩)
        go_ret
        exact ⟨rfl, (Ext.refl w).alloc _⟩
      · rcases h3 : Frm.isIn st 1 64 with _ | _
        · rw [Bool.true_and, Bool.true_and, Bool.true_and, Bool.false_and]
          go_enter Tryd.func37, Tryd.ntmps37
          go_wp2_with (go_at_call 72; refine (swithin_c _ _ _ _).mono ?_; rintro e w' ⟨rfl, rfl⟩)
          go_ret
          exact ⟨rfl, (Ext.refl w).alloc _⟩
        · rcases h4 : Frm.isIn sl 1 4 with _ | _
          · rw [Bool.true_and, Bool.true_and, Bool.true_and, Bool.true_and]
            go_enter Tryd.func37, Tryd.ntmps37
            go_wp2_with (go_at_call 72; refine (swithin_c _ _ _ _).mono ?_; rintro e w' ⟨rfl, rfl⟩)
            go_ret
            exact ⟨rfl, (Ext.refl w).alloc _⟩
          · rw [Bool.true_and, Bool.true_and, Bool.true_and, Bool.true_and]
            go_enter Tryd.func37, Tryd.ntmps37
            go_wp2_with (go_at_call 72; refine (swithin_c _ _ _ _).mono ?_; rintro e w' ⟨rfl, rfl⟩)
            go_ret
            exact ⟨rfl, (Ext.refl w).alloc _⟩

theorem sectors_bd (c : Cfg) (h : c.Good) : 0 ≤ c.slots * c.k ∧ c.slots * c.k ≤ 32 := by
  obtain ⟨h1, h2, h3, h4, h5, h6, h7, h8, h9⟩ := h
  have e1 : 0 ≤ c.slots * c.k := Int.mul_nonneg (by omega) (by omega)
  have e2 : c.slots * c.k ≤ 4 * c.k := Int.mul_le_mul_of_nonneg_right h9 (by omega)
  omega
set_option maxRecDepth 100000 in
theorem ssectors_c (c : Cfg) (h : c.Good) (w : World) :
    Calls Tryd.prog 35 #[.agg (Cfg.A c)] w fun e w' => e = .returned (.int .i64 c.sectors) ∧ Ext w w' := by
  have a1 := Cfg.A1 c
  have a3 := Cfg.A3 c
  have a4 := Cfg.A4 c
  obtain ⟨b0, b1⟩ := sectors_bd c h
  have b2 := h.st0
  have b3 := h.st1
  have HR : Hid (c.sectors = 1 + c.slots * c.k + c.stripes) := hid rfl
  rw [HR.out]
  clear HR h
  obtain ⟨id, k, n, st, sl⟩ := c
  simp only at a1 a3 a4 b0 b1 b2 b3 ⊢
  generalize Cfg.A _ = A at *
  obtain ⟨p, hp⟩ : ∃ p, sl * k = p := ⟨_, rfl⟩
  rw [hp] at b0 b1 ⊢
  have hw : wrap64 (sl * k) = p := by rw [hp]; unfold wrap64; omega
  have w2 : wrap64 (1 + p) = 1 + p := by unfold wrap64; omega
  have w3 : wrap64 (1 + p + st) = 1 + p + st := by unfold wrap64; omega
  clear hp b0 b1 b2 b3
  go_enter Tryd.func35, Tryd.ntmps35
  go_wp2
  go_ret
  exact ⟨ret_int (by simp only [hw, w2, w3]), (Ext.refl w).alloc _⟩
end Go.Proofs.YtdbjojnejkklhaaDoor

/- super.block: the superblock's frame of a disk. -/
namespace Go.Proofs.YtdbjojnejkklhaaDoor
set_option linter.unusedVariables false
open Go Go.RowKit
theorem part_step (l : List Nat) (n j : Nat) (h : j < n) (hl : j < l.length) : (l.take j ++ List.replicate (n - j) 0).set j (nth l j) = l.take (j + 1) ++ List.replicate (n - (j + 1)) 0 := by
  have e : n - j = (n - (j + 1)) + 1 := by omega
  have ht : (l.take j).length = j := by simp; omega
  rw [e, List.replicate_succ, List.set_append_right _ _ (by omega), ht, Nat.sub_self, List.set_cons_zero]
  have e2 : l.take (j + 1) = l.take j ++ [nth l j] := by
    rw [List.take_add_one, List.getElem?_eq_getElem hl]
    unfold nth
    simp [List.getD_eq_getElem?_getD, hl]
  rw [e2, List.append_assoc]; rfl
theorem nth_right (a b : List Nat) (n j : Nat) (h : a.length = n) : nth (a ++ b) (n + j) = nth b j := by
  unfold nth
  rw [List.getD_eq_getElem?_getD, List.getD_eq_getElem?_getD, List.getElem?_append_right (by omega), show n + j - a.length = j by omega]
theorem Frm.A_put (f : Frm) (j x : Nat) : (Frm.A f).setIfInBounds (4 + j) (.int .u8 x) = Frm.A { f with data := f.data.set j x } := by
  rw [Frm.A_def, Frm.A_def]
  unfold Frm.cl
  rw [List.setIfInBounds_toArray, List.set_append_right _ _ (by simp)]
  simp [bv, List.map_set]
def FBlk (w : World) (g : Nat) (f : Frm) : Prop := w.heap[g]? = some (.cells (Frm.A f) 42 (0, 0))
theorem FBlk.set {w : World} {g : Nat} {f : Frm} (h : FBlk w g f) (j x : Nat) : FBlk (w.setCell ⟨g, 4 + j, none⟩ (.int .u8 x)) g { f with data := f.data.set j x } := by
  have := block_set h (i := 4 + j) (.int .u8 (x : Int))
  rw [Frm.A_put] at this
  exact this
namespace Cfg
def full (c : Cfg) : List Nat := c.bytes ++ List.replicate 100 0
theorem full_len (c : Cfg) : c.full.length = 108 := by unfold full; simp [bytes_len]
/-- The superblock's frame, its first j bytes of data being there. -/
def sf (c : Cfg) (i : Int) (j : Nat) : Frm := ⟨1, i, 0, 1, c.full.take j ++ List.replicate (108 - j) 0⟩
theorem sf_ok (c : Cfg) (i : Int) (j : Nat) (h : c.Good) (hj : j ≤ 108) : (c.sf i j).Ok := by
  have hb := (block_ok c i h).byte
  refine ⟨by simp [sf, full_len]; omega, fun x hx => ?_⟩
  rcases List.mem_append.1 hx with hx | hx
  · exact hb x (List.mem_of_mem_take hx)
  · rw [(List.mem_replicate.1 hx).2]; omega
theorem sf_start (c : Cfg) (i : Int) : c.sf i 0 = ⟨1, i, 0, 1, List.replicate 108 0⟩ := rfl
theorem sf_end (c : Cfg) (i : Int) : c.sf i 8 = c.block i := by
  unfold sf block full
  rw [List.take_append_of_le_length (by rw [bytes_len]; omega), List.take_of_length_le (by rw [bytes_len]; omega)]
theorem sf_step (c : Cfg) (i : Int) (j : Nat) (hj : j < 8) : { c.sf i j with data := (c.sf i j).data.set j (nth c.full j) } = c.sf i (j + 1) := by
  have := part_step c.full 108 j (by omega) (by rw [full_len]; omega)
  unfold sf
  rw [this]
theorem full_id (c : Cfg) (j : Nat) (hj : j < 4) : nth c.full j = c.id.toNat / 2 ^ (8 * j) % 256 := by
  unfold full bytes
  rw [List.append_assoc, ← low_nth 4 c.id.toNat j hj]
  unfold nth
  simp [List.getD_eq_getElem?_getD, List.getElem?_append_left, Frm.low_len, hj]
theorem full_id_int (c : Cfg) (h : c.Good) (j : Nat) (hj : j < 4) : c.id / 2 ^ (8 * j) % 256 = ((nth c.full j : Nat) : Int) := by
  rw [full_id c j hj]
  obtain ⟨m, hm⟩ := Int.eq_ofNat_of_zero_le (show 0 ≤ c.id by have := h.id0; omega)
  rw [hm, Int.toNat_natCast, Int.natCast_emod, Int.natCast_ediv, Int.natCast_pow]; rfl
theorem full_more (c : Cfg) (j : Nat) (hj : j < 4) : nth c.full (4 + j) = nth [c.k.toNat, c.n.toNat, c.stripes.toNat, c.slots.toNat] j := by
  unfold full bytes
  rw [List.append_assoc, nth_right _ _ 4 j (Frm.low_len _ _)]
  have h : j = 0 ∨ j = 1 ∨ j = 2 ∨ j = 3 := by omega
  rcases h with rfl | rfl | rfl | rfl <;> rfl
/-- The numbers behind the identity. -/
def nums (c : Cfg) : Array Value := #[.int .i64 c.k, .int .i64 c.n, .int .i64 c.stripes, .int .i64 c.slots]
theorem nums_at (c : Cfg) (h : c.Good) (j : Nat) (hj : j < 4) : ∃ v : Int, c.nums[j]? = some (.int .i64 v) ∧ v % 256 = ((nth c.full (4 + j) : Nat) : Int) := by
  have e := full_more c j hj
  obtain ⟨h1, h2, h3, h4, h5, h6, h7, h8, h9⟩ := h
  have h : j = 0 ∨ j = 1 ∨ j = 2 ∨ j = 3 := by omega
  rcases h with rfl | rfl | rfl | rfl
  · exact ⟨c.k, rfl, by rw [e]; show c.k % 256 = ((c.k.toNat : Nat) : Int); omega⟩
  · exact ⟨c.n, rfl, by rw [e]; show c.n % 256 = ((c.n.toNat : Nat) : Int); omega⟩
  · exact ⟨c.stripes, rfl, by rw [e]; show c.stripes % 256 = ((c.stripes.toNat : Nat) : Int); omega⟩
  · exact ⟨c.slots, rfl, by rw [e]; show c.slots % 256 = ((c.slots.toNat : Nat) : Int); omega⟩
end Cfg
theorem built_three (k s g : Int) : Tryd.prog.built 42 [(0, .int .i64 k), (1, .int .i64 s), (3, .int .i64 g)] = some (Frm.A ⟨k, s, 0, g, List.replicate 108 0⟩) := by kernel_rfl
def SBlockPost (w : World) (c : Cfg) (i : Int) (e : Ending) (w' : World) : Prop := e = .returned (.agg (Frm.A (c.block i))) ∧ Ext w w'
structure SBlk (w : World) (c : Cfg) (i : Int) (j : Nat) (wr : World) : Prop where
  ext : Ext w wr
  cfg : wr.heap[w.heap.size]? = some (.cells (Cfg.A c) 59 (0, 0))
  res : FBlk wr (w.heap.size + 1) Frm.zero
  own : FBlk wr (w.heap.size + 1 + 1) (c.sf i j)
theorem SBlk.more {w wr wr' : World} {c : Cfg} {i : Int} {j : Nat} (h : SBlk w c i j wr) (e : Ext wr wr') : SBlk w c i j wr' := ⟨Ext.trans h.ext e, e.at h.cfg, e.at h.res, e.at h.own⟩
theorem SBlk.set {w wr : World} {c : Cfg} {i : Int} {j : Nat} (h : SBlk w c i j wr) (hj : j < 8) (x : Nat) (hx : x = nth c.full j) : SBlk w c i (j + 1) (wr.setCell ⟨w.heap.size + 1 + 1, 4 + j, none⟩ (.int .u8 x)) := by
  refine ⟨Only.setCell (F := fun _ => False) h.ext (.inl (by show _ ≤ w.heap.size + 1 + 1; omega)) _, (block_set_other _ (by omega)).trans h.cfg, (block_set_other _ (by omega)).trans h.res, ?_⟩
  have := h.own.set j x
  rw [hx, Cfg.sf_step c i j hj] at this
  rw [hx]; exact this
set_option maxRecDepth 100000 in
set_option maxHeartbeats 2000000 in
theorem sblock_c (c : Cfg) (hg : c.Good) (i : Int) (w : World) : Calls Tryd.prog 69 #[.agg (Cfg.A c), .int .i64 i] w (SBlockPost w c i) := by
  have hz := zero_frame
  have HZ := hid (Frm.A_size _ zero_ok)
  have HCZ := hid (Cfg.A_size c)
  have HB : Hid (Tryd.prog.built 42 [(0, .int .i64 1), (1, .int .i64 i), (3, .int .i64 1)] = some (Frm.A (c.sf i 0))) := hid (built_three 1 i 1)
  have HS0 := hid (Frm.A_size _ (Cfg.sf_ok c i 0 hg (by omega)))
  have HG := hid hg
  clear hg
  have hr : (((w.alloc (.cells (Cfg.A c) 59)).alloc (.cells (Frm.A Frm.zero) 42)).alloc (.cells (Frm.A Frm.zero) 42)).heap[w.heap.size + 1 + 1]? = some (.cells (Frm.A Frm.zero) 42 (0, 0)) := by
    have e : ((w.alloc (.cells (Cfg.A c) 59)).alloc (.cells (Frm.A Frm.zero) 42)).heap.size = w.heap.size + 1 + 1 := by simp
    rw [← e]; exact heap_alloc_new _ _
  go_enter Tryd.func69, Tryd.ntmps69
  go_wp2_with (first
    | (refine wpList_build_eq rfl 42 _ rfl (Frm.A (c.sf i 0)) ?_ ?_; (simp only [List.map_toArray, List.map_cons, List.map_nil, Act.eval]; simp only [Array.getD_eq_getD_getElem?, List.getElem?_toArray, List.getElem?_cons_succ, List.getElem?_cons_zero, Option.getD_some]; exact HB.out))
    | (refine wpList_store_whole rfl 42 _ _ rfl (w.heap.size + 1 + 1) rfl (Frm.A (c.sf i 0)) _ rfl 42 ?_ hr ?_ ?_ ?_; (rw [HS0.out]; exact aggFrame); (rw [HS0.out, HZ.out]); exact Frm.A_one _))
  have HS : Hid (SBlk w c i 0 ((((w.alloc (.cells (Cfg.A c) 59)).alloc (.cells (Frm.A Frm.zero) 42)).alloc (.cells (Frm.A Frm.zero) 42)).setRow (w.heap.size + 1 + 1) (Frm.A (c.sf i 0)))) := hid (by
    have e2 : ((w.alloc (.cells (Cfg.A c) 59)).alloc (.cells (Frm.A Frm.zero) 42)).heap.size = w.heap.size + 1 + 1 := by simp
    have e1 : (w.alloc (.cells (Cfg.A c) 59)).heap.size = w.heap.size + 1 := by simp
    rw [← e2, setRow_alloc]
    refine ⟨(((Ext.refl w).alloc _).alloc _).alloc _, ?_, ?_, by rw [← e2]; exact heap_alloc_new _ _⟩
    · rw [heap_alloc_old _ _ (by simp; omega), heap_alloc_old _ _ (by simp)]; exact heap_alloc_new _ _
    · unfold FBlk; rw [heap_alloc_old _ _ (by simp), ← e1]; exact heap_alloc_new _ _)
  clear hr
  go_loopw [11] (fun v wr => ∃ j : Nat, v = .int .i64 j ∧ j ≤ 4 ∧ SBlk w c i j wr) (fun v _ => 4 - (intOf v).toNat)
  case atStart => exact ⟨0, rfl, by omega, HS.out⟩
  case round =>
    clear HS
    obtain ⟨j, rfl, hj, hst⟩ := hrel
    by_cases hlt : j < 4
    · have i0 : (0 : Int) ≤ (j : Int) := by omega
      have i1 : (j : Int) < 4 := by omega
      have c0 : wr.cell? ⟨w.heap.size, 0, none⟩ = some (.int .i64 c.id) := (cell_at hst.cfg).trans (Cfg.A0 c)
      have c1 : wr.cell? ⟨w.heap.size + 1 + 1, 4 + j, none⟩ = some (.int .u8 (nth (c.sf i j).data j)) := (cell_at hst.own).trans (Frm.A4 _ _ (by rw [(Cfg.sf_ok c i j HG.out (by omega)).len]; omega))
      have f1 : wr.frozen? ⟨w.heap.size + 1 + 1, 4 + j, none⟩ = false := free_at hst.own
      have HST := hid hst
      clear hst
      --M1
      go_wp2
      go_roundw
      case rel => exact ⟨j + 1, by go_num, by omega, by rw [Cfg.full_id_int c HG.out j hlt]; exact HST.out.set (by omega) _ rfl⟩
      case measure => simp [intOf]; omega
    · obtain rfl : j = 4 := by omega
      rw [show ((4 : Nat) : Int) = 4 from rfl]
      have c1 : wr.cell? ⟨w.heap.size, 1, none⟩ = some (.int .i64 c.k) := (cell_at hst.cfg).trans (Cfg.A1 c)
      have c2 : wr.cell? ⟨w.heap.size, 2, none⟩ = some (.int .i64 c.n) := (cell_at hst.cfg).trans (Cfg.A2 c)
      have c3 : wr.cell? ⟨w.heap.size, 3, none⟩ = some (.int .i64 c.stripes) := (cell_at hst.cfg).trans (Cfg.A3 c)
      have c4 : wr.cell? ⟨w.heap.size, 4, none⟩ = some (.int .i64 c.slots) := (cell_at hst.cfg).trans (Cfg.A4 c)
      go_wp2_with fail
      have HS : Hid (SBlk w c i (4 + 0) (wr.alloc (.cells c.nums 3)) ∧ (wr.alloc (.cells c.nums 3)).heap[wr.heap.size]? = some (.cells c.nums 3 (0, 0)) ∧ w.heap.size + 1 + 1 < wr.heap.size) := hid ⟨hst.more ((Ext.refl wr).alloc _), heap_alloc_new _ _, lt_of_block hst.own⟩
      rw [show (#[Value.int .i64 c.k, .int .i64 c.n, .int .i64 c.stripes, .int .i64 c.slots] : Array Value) = c.nums from rfl]
      clear c1 c2 c3 c4 hst
      generalize wr.alloc (.cells c.nums 3) = v0 at *
      generalize wr.heap.size = g at *
      go_loopw [35] (fun v wr => ∃ j : Nat, v = .int .i64 j ∧ j ≤ 4 ∧ SBlk w c i (4 + j) wr ∧ wr.heap[g]? = some (.cells c.nums 3 (0, 0)) ∧ w.heap.size + 1 + 1 < g) (fun v _ => 4 - (intOf v).toNat)
      case atStart => exact ⟨0, rfl, by omega, HS.out.1, HS.out.2.1, HS.out.2.2⟩
      case round =>
        clear HS
        obtain ⟨j, rfl, hj, hst, hn, hgt⟩ := hrel
        by_cases hlt : j < 4
        · have i0 : (0 : Int) ≤ (j : Int) := by omega
          have i1 : (j : Int) < 4 := by omega
          obtain ⟨v, hv, hv2⟩ := Cfg.nums_at c HG.out j hlt
          have c0 : wr.cell? ⟨g, j, none⟩ = some (.int .i64 v) := (cell_at hn).trans hv
          have c1 : wr.cell? ⟨w.heap.size + 1 + 1, 4 + (4 + j), none⟩ = some (.int .u8 (nth (c.sf i (4 + j)).data (4 + j))) := (cell_at hst.own).trans (Frm.A4 _ _ (by rw [(Cfg.sf_ok c i (4 + j) HG.out (by omega)).len]; omega))
          have f1 : wr.frozen? ⟨w.heap.size + 1 + 1, 4 + (4 + j), none⟩ = false := free_at hst.own
          have HST := hid hst; have HN := hid hn; have HGT := hid hgt
          clear hst hn hgt hv
          go_wp2
          go_roundw
          case rel => exact ⟨j + 1, by go_num, by omega, HST.out.set (by omega) _ rfl, (block_set_other _ (by have := HGT.out; omega)).trans HN.out, HGT.out⟩
          case measure => simp [intOf]; omega
        · obtain rfl : j = 4 := by omega
          rw [show ((4 : Nat) : Int) = 4 from rfl]
          have HS8 := hid (Frm.A_size _ (Cfg.sf_ok c i 8 HG.out (by omega)))
          have hb' : wr.heap[w.heap.size + 1 + 1]? = some (.cells (Frm.A (c.sf i 8)) 42 (0, 0)) := hst.own
          have hr' : wr.heap[w.heap.size + 1]? = some (.cells (Frm.A Frm.zero) 42 (0, 0)) := hst.res
          have HX := hid hst.ext
          have HE := hid (Cfg.sf_end c i)
          clear hst hn
          go_wp2_with (first
            | (refine wpList_load_agg rfl 42 _ rfl ⟨w.heap.size + 1 + 1, 0, none⟩ rfl (Frm.A (c.sf i 8)) ?_ ?_ ?_; (rw [HS8.out]; exact aggFrame); exact agg_cells hb')
            | (refine wpList_store_whole rfl 42 _ _ rfl (w.heap.size + 1) rfl (Frm.A (c.sf i 8)) _ rfl 42 ?_ hr' ?_ ?_ ?_; (rw [HS8.out]; exact aggFrame); (rw [HS8.out, HZ.out]); exact Frm.A_one _))
          refine bodyPost_ret (results_cell_row Tryd.results69 _ _ (w.heap.size + 1) _ (Frm.A (c.sf i 8)) _ _ rfl (setRow_heap _ _ _ _ _ _ hr') Tryd.underlying42 rfl (by rw [HS8.out]; exact aggFrame.2)) rfl ?_
          exact ⟨by rw [HE.out], Ext.then HX.out (only_setRow _ _ _) (fun i hi => by omega)⟩
end Go.Proofs.YtdbjojnejkklhaaDoor

/- super: two configurations compared; Fits, Put. -/
namespace Go.Proofs.YtdbjojnejkklhaaDoor
set_option linter.unusedVariables false
open Go Go.RowKit
def Cfg.eqB (a b : Cfg) : Bool := a.id == b.id && (a.k == b.k && (a.n == b.n && (a.stripes == b.stripes && a.slots == b.slots)))
theorem Cfg.eqB_iff (a b : Cfg) : a.eqB b = true ↔ a = b := by
  rw [Cfg.ext_iff']; simp [Cfg.eqB]
theorem Cfg.eqB_self (a : Cfg) : a.eqB a = true := (Cfg.eqB_iff a a).2 rfl
theorem Cfg.eqB_eq (a b : Cfg) : a.eqB b = decide (a = b) := by
  rw [Bool.eq_iff_iff, Cfg.eqB_iff]; simp
theorem cfg_stood : Tryd.prog.stoodInHeld 59 = false := by kernel_rfl
theorem cfg_list : (Tryd.prog.fieldsOf 59).toList = [fld "Id" 3 0 0, fld "K" 3 1 8, fld "N" 3 2 16, fld "Stripes" 3 3 24, fld "Slots" 3 4 32] := by unfold Program.fieldsOf; rw [Tryd.underlying59]; rfl
theorem cfg_fields : Tryd.prog.underlying 59 = some (.struct (Tryd.prog.fieldsOf 59)) := by unfold Program.fieldsOf; rw [Tryd.underlying59]
set_option maxHeartbeats 400000 in
theorem cfg_eqIn (d : Nat) (f g : Cfg) (w : World) : (Op.equalIn (d + 2) 59 (.agg (Cfg.A f)) (.agg (Cfg.A g))).run Tryd.prog w = .ok (f.eqB g) w := by
  rw [run_equalIn_struct w (d + 1) 59 (Cfg.A f) (Cfg.A g) cfg_fields cfg_stood]
  rw [cfg_list]
  have q0 := run_part_plain (P := Tryd.prog) w plainI (Cfg.A0 f)
  have q1 := run_part_plain (P := Tryd.prog) w plainI (Cfg.A1 f)
  have q2 := run_part_plain (P := Tryd.prog) w plainI (Cfg.A2 f)
  have q3 := run_part_plain (P := Tryd.prog) w plainI (Cfg.A3 f)
  have q4 := run_part_plain (P := Tryd.prog) w plainI (Cfg.A4 f)
  have r0 := run_part_plain (P := Tryd.prog) w plainI (Cfg.A0 g)
  have r1 := run_part_plain (P := Tryd.prog) w plainI (Cfg.A1 g)
  have r2 := run_part_plain (P := Tryd.prog) w plainI (Cfg.A2 g)
  have r3 := run_part_plain (P := Tryd.prog) w plainI (Cfg.A3 g)
  have r4 := run_part_plain (P := Tryd.prog) w plainI (Cfg.A4 g)
  have e : ∀ a b : Int, (Op.equalIn (d + 1) 3 (.int .i64 a) (.int .i64 b)).run Tryd.prog w = .ok (a == b) w := fun a b => run_equalIn_int (P := Tryd.prog) w d 3 .i64 .i64 a b Tryd.underlying3
  refine (eqFields_step (by decide) q0 r0 (e _ _)).trans ?_
  rcases h0 : f.id == g.id with _ | _
  · have hb : f.eqB g = false := by unfold Cfg.eqB; simp only [h0]; rfl
    rw [hb]; rfl
  rw [if_pos rfl]
  refine (eqFields_step (by decide) q1 r1 (e _ _)).trans ?_
  rcases h1 : f.k == g.k with _ | _
  · have hb : f.eqB g = false := by unfold Cfg.eqB; simp only [h0, h1]; rfl
    rw [hb]; rfl
  rw [if_pos rfl]
  refine (eqFields_step (by decide) q2 r2 (e _ _)).trans ?_
  rcases h2 : f.n == g.n with _ | _
  · have hb : f.eqB g = false := by unfold Cfg.eqB; simp only [h0, h1, h2]; rfl
    rw [hb]; rfl
  rw [if_pos rfl]
  refine (eqFields_step (by decide) q3 r3 (e _ _)).trans ?_
  rcases h3 : f.stripes == g.stripes with _ | _
  · have hb : f.eqB g = false := by unfold Cfg.eqB; simp only [h0, h1, h2, h3]; rfl
    rw [hb]; rfl
  rw [if_pos rfl]
  refine (eqFields_step (by decide) q4 r4 (e _ _)).trans ?_
  have hb : f.eqB g = (f.slots == g.slots) := by unfold Cfg.eqB; simp only [h0, h1, h2, h3]; rfl
  rw [hb]
  cases f.slots == g.slots <;> rfl
theorem cfg_eqAt (D : Nat) (hD : ∃ d, D = d + 2) (f g : Cfg) (w : World) : (Op.equalIn D 59 (.agg (Cfg.A f)) (.agg (Cfg.A g))).run Tryd.prog w = .ok (f.eqB g) w := by
  obtain ⟨d, rfl⟩ := hD
  exact cfg_eqIn d f g w
theorem cfg_eql (f g : Cfg) (w : World) : (binOp .eql 59 (.agg (Cfg.A f)) (.agg (Cfg.A g))).run Tryd.prog w = .ok (.bool (f.eqB g)) w := by
  rw [run_eql_struct]
  rw [cfg_eqAt 10000 ⟨9998, by omega⟩ f g w]; rfl
theorem cfg_neq (f g : Cfg) (w : World) : (binOp .neq 59 (.agg (Cfg.A f)) (.agg (Cfg.A g))).run Tryd.prog w = .ok (.bool (!f.eqB g)) w := by
  rw [run_neq_struct]
  rw [cfg_eqAt 10000 ⟨9998, by omega⟩ f g w]; rfl
theorem cfg_guardB : Tryd.prog.eqGuardType Tryd.prog.depth 59 = false := by kernel_rfl
theorem cfg_guard (op : BinOp) (x y : Operand) (xs ys : Array Value) (w : World) : (eqGuard op 59 x y (.agg xs) (.agg ys)).run Tryd.prog w = .ok () w := run_eqGuard_agg w op 59 x y xs ys cfg_guardB
theorem cfg_agg (c : Cfg) : AggType Tryd.prog 59 (Cfg.A c).size := by rw [Cfg.A_size]; exact aggCfg
set_option maxRecDepth 100000 in
set_option maxHeartbeats 1200000 in
theorem sfits_c {S : Nat → Prop} {w : World} {r : Nat} {R : Rck} (h : RackAt S w r R) (c : Cfg) :
    Calls Tryd.prog 39 #[.pointer (some ⟨r, 0, none⟩), .agg (Cfg.A c)] w fun e w' => e = .returned (.bool (R.fits c)) ∧ Ext w w' := by
  obtain ⟨W0, hW0⟩ : ∃ W, w.alloc (.cells (Cfg.A c) 59) = W := ⟨_, rfl⟩
  have X0 : Ext w W0 := hW0 ▸ (Ext.refl w).alloc _
  have xd : Ext W0 W0.drew := (Ext.refl W0).drew
  have hc : W0.heap[w.heap.size]? = some (.cells (Cfg.A c) 59 (0, 0)) := hW0 ▸ heap_alloc_new _ _
  have lc : Hid (∀ x : SW Ext W0.drew, ∀ j v, (Cfg.A c).toList[j]? = some v → x.w.cell? ((⟨w.heap.size, 0, none⟩ : Addr).add j) = some v) := hid fun x => agg_cells ((Ext.trans xd x.ext).at hc)
  have c2 : ∀ x : SW Ext W0.drew, x.w.cell? ⟨w.heap.size, 2, none⟩ = some (.int .i64 c.n) := fun x => (cell_at ((Ext.trans xd x.ext).at hc)).trans (Cfg.A2 c)
  have rc : Hid (∀ x : SW Ext W0.drew, Calls Tryd.prog 37 #[.agg (Cfg.A c)] x.w fun e w'' => e = .returned (.bool c.right) ∧ Ext x.w w'') := hid fun x => sright_c c x.w
  have nc : Hid (∀ x : SW Ext W0.drew, Calls Tryd.prog 70 #[.pointer (some ⟨r, 0, none⟩)] x.w fun e w'' => e = .returned (.int .i64 R.l.length) ∧ Ext x.w w'') := hid fun x =>
    (at_n (h.ext (Ext.trans X0 (Ext.trans xd x.ext)))).mono fun e w'' he => ⟨he.1, he.2 ▸ Ext.refl _⟩
  have sc : Hid (∀ x : SW Ext W0.drew, Calls Tryd.prog 51 #[.pointer (some ⟨r, 0, none⟩)] x.w fun e w'' => e = .returned (.int .i64 R.sectors) ∧ Ext x.w w'') := hid fun x =>
    (at_sectors (h.ext (Ext.trans X0 (Ext.trans xd x.ext)))).mono fun e w'' he => ⟨he.1, he.2 ▸ Ext.refl _⟩
  have HX0 := hid X0
  have HF : Hid (R.fits c = (c.right && decide (c.n = (R.l.length : Int)) && decide (c.sectors ≤ (R.sectors : Int)))) := hid rfl
  have HAG := hid (cfg_agg c)
  clear h hc X0
  go_enter Tryd.func39, Tryd.ntmps39
  go_wp2_with fail
  refine wp_region_rely_tail (S := Ext) 16 (.fin [0, 1, 2, 3, 4, 5, 6, 7, 8, 9, 10, 11, 12, 13, 14, 15]) (by kernel_rfl) (by kernel_rfl) (fun _ _ d _ _ h => by cases d <;> exact h) ?_
  rw [wpS]
  simp only [opsAt, List.map_cons, List.map_nil, Array.getD_eq_getD_getElem?, List.getElem?_toArray, List.getElem?_cons_succ, List.getElem?_cons_zero, Option.getD_some]
  refine wpSQ_load_agg 59 _ rfl ⟨w.heap.size, 0, none⟩ rfl (Cfg.A c) rfl HAG.out lc.out ?_
  --M1
  rcases hr : c.right with _ | _
  · rw [hr] at rc
    have hf : R.fits c = false := by rw [HF.out, hr]; rfl
    have HFI := hid hf; clear hf
    (refine wpSQ_step (fun K hK => ?_); go_simp; first | (refine hK _ ?_; clear hK K) | (apply Exists.intro; refine ⟨fun x => ?_, hK _ ?_⟩; (exact rc.out x); clear hK K))
    (refine wpSQ_step (fun K hK => ?_); go_simp; first | (refine hK _ ?_; clear hK K) | (apply Exists.intro; refine ⟨fun x => ?_, hK _ ?_⟩; (fail); clear hK K))
    iterate 5 (refine wpSQ_skip rfl ?_)
    iterate 2 ((refine wpSQ_step (fun K hK => ?_); go_simp; first | (refine hK _ ?_; clear hK K) | (apply Exists.intro; refine ⟨fun x => ?_, hK _ ?_⟩; (fail); clear hK K)))
    iterate 5 (refine wpSQ_skip rfl ?_)
    (refine wpSQ_step (fun K hK => ?_); go_simp; first | (refine hK _ ?_; clear hK K) | (apply Exists.intro; refine ⟨fun x => ?_, hK _ ?_⟩; (fail); clear hK K))
    refine wpSQ_nil ?_
    intro W hW
    go_wp2
    go_ret
    exact ⟨ret_bool HFI.out.symm, Ext.trans HX0.out (Ext.trans xd hW)⟩
  · rw [hr] at rc
    have hg := (Cfg.right_iff c).1 hr
    rcases hn : c.n == (R.l.length : Int) with _ | _
    · have hf : R.fits c = false := by rw [HF.out, hr, decide_eq_false (by simpa using hn)]; rfl
      have HFI := hid hf; clear hf
      clear hr hg
      (refine wpSQ_step (fun K hK => ?_); go_simp; first | (refine hK _ ?_; clear hK K) | (apply Exists.intro; refine ⟨fun x => ?_, hK _ ?_⟩; (exact rc.out x); clear hK K))
      iterate 4 ((refine wpSQ_step (fun K hK => ?_); go_simp; first | (refine hK _ ?_; clear hK K) | (apply Exists.intro; refine ⟨fun x => ?_, hK _ ?_⟩; (fail); clear hK K)))
      (refine wpSQ_step (fun K hK => ?_); go_simp; first | (refine hK _ ?_; clear hK K) | (apply Exists.intro; refine ⟨fun x => ?_, hK _ ?_⟩; (exact nc.out x); clear hK K))
      iterate 3 ((refine wpSQ_step (fun K hK => ?_); go_simp; first | (refine hK _ ?_; clear hK K) | (apply Exists.intro; refine ⟨fun x => ?_, hK _ ?_⟩; (fail); clear hK K)))
      iterate 5 (refine wpSQ_skip rfl ?_)
      (refine wpSQ_step (fun K hK => ?_); go_simp; first | (refine hK _ ?_; clear hK K) | (apply Exists.intro; refine ⟨fun x => ?_, hK _ ?_⟩; (fail); clear hK K))
      refine wpSQ_nil ?_
      intro W hW
      go_wp2
      go_ret
      exact ⟨ret_bool HFI.out.symm, Ext.trans HX0.out (Ext.trans xd hW)⟩
    · have hf : R.fits c = decide (c.sectors ≤ (R.sectors : Int)) := by rw [HF.out, hr, decide_eq_true (by simpa using hn)]; rfl
      have HFI := hid hf; clear hf
      have ss : Hid (∀ x : SW Ext W0.drew, Calls Tryd.prog 35 #[.agg (Cfg.A c)] x.w fun e w'' => e = .returned (.int .i64 c.sectors) ∧ Ext x.w w'') := hid fun x => ssectors_c c hg x.w
      clear hr hg
      (refine wpSQ_step (fun K hK => ?_); go_simp; first | (refine hK _ ?_; clear hK K) | (apply Exists.intro; refine ⟨fun x => ?_, hK _ ?_⟩; (exact rc.out x); clear hK K))
      iterate 4 ((refine wpSQ_step (fun K hK => ?_); go_simp; first | (refine hK _ ?_; clear hK K) | (apply Exists.intro; refine ⟨fun x => ?_, hK _ ?_⟩; (fail); clear hK K)))
      (refine wpSQ_step (fun K hK => ?_); go_simp; first | (refine hK _ ?_; clear hK K) | (apply Exists.intro; refine ⟨fun x => ?_, hK _ ?_⟩; (exact nc.out x); clear hK K))
      iterate 3 ((refine wpSQ_step (fun K hK => ?_); go_simp; first | (refine hK _ ?_; clear hK K) | (apply Exists.intro; refine ⟨fun x => ?_, hK _ ?_⟩; (fail); clear hK K)))
      refine wpSQ_load_agg 59 _ rfl ⟨w.heap.size, 0, none⟩ rfl (Cfg.A c) rfl HAG.out lc.out ?_
      (refine wpSQ_step (fun K hK => ?_); go_simp; first | (refine hK _ ?_; clear hK K) | (apply Exists.intro; refine ⟨fun x => ?_, hK _ ?_⟩; (exact ss.out x); clear hK K))
      (refine wpSQ_step (fun K hK => ?_); go_simp; first | (refine hK _ ?_; clear hK K) | (apply Exists.intro; refine ⟨fun x => ?_, hK _ ?_⟩; (fail); clear hK K))
      (refine wpSQ_step (fun K hK => ?_); go_simp; first | (refine hK _ ?_; clear hK K) | (apply Exists.intro; refine ⟨fun x => ?_, hK _ ?_⟩; (exact sc.out x); clear hK K))
      iterate 2 ((refine wpSQ_step (fun K hK => ?_); go_simp; first | (refine hK _ ?_; clear hK K) | (apply Exists.intro; refine ⟨fun x => ?_, hK _ ?_⟩; (fail); clear hK K)))
      refine wpSQ_nil ?_
      intro W hW
      go_wp2
      go_ret
      exact ⟨ret_bool HFI.out.symm, Ext.trans HX0.out (Ext.trans xd hW)⟩
end Go.Proofs.YtdbjojnejkklhaaDoor

/- super.Put: the superblock of a disk is written and flushed. -/
namespace Go.Proofs.YtdbjojnejkklhaaDoor
set_option linter.unusedVariables false
open Go Go.RowKit
theorem Rck.fits_good {R : Rck} {c : Cfg} (h : R.fits c = true) : c.Good := by
  unfold Rck.fits at h
  simp only [Bool.and_eq_true] at h
  exact (Cfg.right_iff c).1 h.1.1
def SPutPost (S : Nat → Prop) (w : World) (r : Nat) (R : Rck) (c : Cfg) (i : Int) (e : Ending) (w' : World) : Prop :=
  e = .returned (oErr (R.superPut c i).1) ∧ RackAt S w' r (R.superPut c i).2 ∧ Keeps S w w'
set_option maxRecDepth 100000 in
set_option maxHeartbeats 1200000 in
theorem sput_c {S : Nat → Prop} {w : World} {r : Nat} {R : Rck} (h : RackAt S w r R) (c : Cfg) (i : Int) :
    Calls Tryd.prog 33 #[.pointer (some ⟨r, 0, none⟩), .agg (Cfg.A c), .int .i64 i] w (SPutPost S w r R c i) := by
  obtain ⟨W0, hW0⟩ : ∃ W, w.alloc (.cells (Cfg.A c) 59) = W := ⟨_, rfl⟩
  have X0 : Ext w W0 := hW0 ▸ (Ext.refl w).alloc _
  have hc : W0.heap[w.heap.size]? = some (.cells (Cfg.A c) 59 (0, 0)) := hW0 ▸ heap_alloc_new _ _
  have HX0 := hid X0
  have H0 := hid (h.ext X0)
  have HC := hid hc
  have HAG := hid (cfg_agg c)
  clear X0 h hc
  rcases hf : R.fits c with _ | _
  · have HP : Hid (R.superPut c i = (some (.fault sSuperPut i (.no 1)), R)) := hid (by unfold Rck.superPut; rw [hf]; rfl)
    have HFI := hid hf
    clear hf
    go_enter Tryd.func33, Tryd.ntmps33
    go_wp2_with (refine wpList_load_agg rfl 59 _ rfl ⟨w.heap.size, 0, none⟩ rfl (Cfg.A c) HAG.out (agg_cells HC.out) ?_)
    refine (sfits_c H0.out c).mono ?_
    rintro e w2 ⟨rfl, x2⟩
    rw [HFI.out]
    have X2 := hid (Ext.trans HX0.out x2)
    have H2 := hid (H0.out.ext x2)
    clear x2
    go_wp2_with fail
    refine (wrap_err sSuperPut i (.no 1) w2).mono ?_
    rintro e w3 ⟨rfl, rfl⟩
    go_wp2
    go_ret
    exact ⟨by rw [HP.out]; rfl, by rw [HP.out]; exact H2.out, Ext.only X2.out⟩
  · have HG := hid (Rck.fits_good hf)
    have HFI := hid hf
    have HFO := hid (Cfg.block_ok c i HG.out)
    have HP : Hid (R.superPut c i = if (R.write i 0 (c.block i).put).1 = none then (((R.write i 0 (c.block i).put).2.flush i).1.map (.fault sSuperPut i), ((R.write i 0 (c.block i).put).2.flush i).2)
      else ((R.write i 0 (c.block i).put).1.map (.fault sSuperPut i), (R.write i 0 (c.block i).put).2)) := hid (by unfold Rck.superPut; rw [if_pos hf])
    clear hf
    go_enter Tryd.func33, Tryd.ntmps33
    go_wp2_with (refine wpList_load_agg rfl 59 _ rfl ⟨w.heap.size, 0, none⟩ rfl (Cfg.A c) HAG.out (agg_cells HC.out) ?_)
    refine (sfits_c H0.out c).mono ?_
    rintro e w2 ⟨rfl, x2⟩
    rw [HFI.out]
    have X2 := hid (Ext.trans HX0.out x2)
    have H2 := hid (H0.out.ext x2)
    have HC2 := hid (x2.at HC.out)
    clear x2
    go_wp2_with (refine wpList_load_agg rfl 59 _ rfl ⟨w.heap.size, 0, none⟩ rfl (Cfg.A c) HAG.out (agg_cells HC2.out) ?_)
    refine (sblock_c c HG.out i w2).mono ?_
    rintro e w3 ⟨rfl, x3⟩
    have X3 := hid (Ext.trans X2.out x3)
    have H3 := hid (H2.out.ext x3)
    clear x3
    go_wp2_with fail
    refine (fput_b (c.block i) w3 HFO.out).mono ?_
    rintro e w4 ⟨a, n, rfl, hb, _, x4⟩
    have X4 := hid (Ext.trans X3.out x4)
    have H4 := hid (H3.out.ext x4)
    have HB := hid hb
    clear hb x4
    go_wp2_with fail
    refine (at_write H4.out i 0 a n n _ HB.out).mono ?_
    rintro e w5 ⟨rfl, h5, k5⟩
    rcases hw : R.write i 0 (c.block i).put with ⟨o, R1⟩
    rw [hw] at h5 HP
    simp only at h5 ⊢
    have H5 := hid h5
    have K5 : Hid (Keeps S w w5) := hid (Only.trans (Ext.only X4.out) k5 fun _ _ x => x)
    clear h5 k5 hw
    rcases o with _ | er
    · have HP2 : Hid (R.superPut c i = ((R1.flush i).1.map (.fault sSuperPut i), (R1.flush i).2)) := hid (by rw [HP.out]; rfl)
      clear HP
      simp only [oErr]
      go_wp2_with fail
      refine (at_flush H5.out i).mono ?_
      rintro e w6 ⟨rfl, h6, k6⟩
      rcases hw : R1.flush i with ⟨o, R2⟩
      rw [hw] at h6 HP2
      simp only at h6 ⊢
      have H6 := hid h6
      have K6 : Hid (Keeps S w w6) := hid (Only.trans K5.out k6 fun _ _ x => x)
      clear h6 k6 hw
      rcases o with _ | er
      · simp only [oErr]
        go_wp2_with fail
        refine (wrap_nil sSuperPut i w6).mono ?_
        rintro e w7 ⟨rfl, rfl⟩
        go_wp2
        go_ret
        exact ⟨by rw [HP2.out]; rfl, by rw [HP2.out]; exact H6.out, K6.out⟩
      · simp only [oErr]
        go_wp2_with fail
        refine (wrap_err sSuperPut i er w6).mono ?_
        rintro e w7 ⟨rfl, rfl⟩
        go_wp2
        go_ret
        exact ⟨by rw [HP2.out]; rfl, by rw [HP2.out]; exact H6.out, K6.out⟩
    · have HP2 : Hid (R.superPut c i = (some (.fault sSuperPut i er), R1)) := hid (by rw [HP.out]; rfl)
      clear HP
      simp only [oErr]
      obtain ⟨t2, v2, hq⟩ : ∃ t v, er.val = .iface t v := by cases er <;> exact ⟨_, _, rfl⟩
      have HW := hid (wrap_err sSuperPut i er w5)
      rw [hq] at HW ⊢
      clear hq
      go_wp2_with fail
      refine HW.out.mono ?_
      rintro e w7 ⟨rfl, rfl⟩
      go_wp2
      go_ret
      exact ⟨by rw [HP2.out]; rfl, by rw [HP2.out]; exact H5.out, K5.out⟩
end Go.Proofs.YtdbjojnejkklhaaDoor

/- super.Get: what a disk's superblock tells. -/
namespace Go.Proofs.YtdbjojnejkklhaaDoor
set_option linter.unusedVariables false
open Go Go.RowKit
theorem RackAt.got_ok {S : Nat → Prop} {w : World} {r : Nat} {R : Rck} (h : RackAt S w r R) {i s k sl st : Int} {f : Frm} (hf : R.get i s k sl st = some f) : f.Ok := by
  obtain ⟨_, K, _, h2, _⟩ := h
  unfold Rck.get at hf
  rcases hr : R.read i s with _ | l
  · rw [hr] at hf; cases hf
  · have hr' : R.readE i s = none := by
      unfold Rck.read at hr
      split at hr
      · assumption
      · cases hr
    have hl : l = (R.dsk i).read s.toNat := by
      unfold Rck.read at hr
      rw [if_pos hr'] at hr
      cases hr; rfl
    rw [hr] at hf
    rcases hg : Frm.get l with _ | g
    · simp only [Option.bind_some, hg] at hf; cases hf
    · simp only [Option.bind_some, hg] at hf
      split at hf
      · cases hf; exact Frm.get_ok (fun x hx => (h2.bytes hr').2 x (hl ▸ hx)) hg
      · cases hf
theorem Frm.nth_bd {l : List Nat} (h : ∀ x ∈ l, x < 256) (i : Nat) : ((nth l i : Nat) : Int) ≤ 255 := by
  unfold nth
  rw [List.getD_eq_getElem?_getD]
  rcases hi : l[i]? with _ | x
  · simp
  · have := h x (List.mem_of_getElem? hi)
    simp; omega
namespace Cfg
/-- What has been read of the frame's data. -/
def pj (l : List Nat) (j : Nat) : Cfg := ⟨Frm.numI (l.take j), (nth l 4 : Nat), (nth l 5 : Nat), (nth l 6 : Nat), (nth l 7 : Nat)⟩
theorem pj_end (l : List Nat) (h : ∀ x ∈ l, x < 256) : pj l 4 = parse l := by
  unfold pj parse Frm.numI
  have h1 := Frm.num_bd (l.take 4) (fun x hx => h x (List.mem_of_mem_take hx))
  have h2 : (256 : Nat) ^ (l.take 4).length ≤ 256 ^ 4 := Nat.pow_le_pow_right (by omega) (by simp; omega)
  have h3 : (256 : Nat) ^ 4 = 4294967296 := by decide
  have : wrap64 ((Frm.num (l.take 4) : Nat) : Int) = ((Frm.num (l.take 4) : Nat) : Int) := by unfold wrap64; omega
  rw [this]
theorem A_id (c : Cfg) (x : Int) : (A c).setIfInBounds 0 (.int .i64 x) = A { c with id := x } := by
  rw [A_def, A_def]; rfl
end Cfg
def CBlk (w : World) (g : Nat) (c : Cfg) : Prop := w.heap[g]? = some (.cells (Cfg.A c) 59 (0, 0))
theorem CBlk.id {w : World} {g : Nat} {c : Cfg} (h : CBlk w g c) (x : Int) : CBlk (w.setCell ⟨g, 0, none⟩ (.int .i64 x)) g { c with id := x } := by
  have := block_set h (i := 0) (.int .i64 x)
  rw [Cfg.A_id] at this
  exact this
theorem built_cfg4 (k n s t : Int) : Tryd.prog.built 59 [(1, .int .i64 k), (2, .int .i64 n), (3, .int .i64 s), (4, .int .i64 t)] = some (Cfg.A ⟨0, k, n, s, t⟩) := by kernel_rfl
structure SGet (w : World) (g : Nat) (f : Frm) (j : Nat) (wr : World) : Prop where
  ext : Ext w wr
  res : CBlk wr w.heap.size Cfg.zero
  frm : FBlk wr g f
  own : CBlk wr (g + 1) (Cfg.pj f.data j)
  new : w.heap.size < g
theorem SGet.more {w wr wr' : World} {g : Nat} {f : Frm} {j : Nat} (h : SGet w g f j wr) (e : Ext wr wr') : SGet w g f j wr' := ⟨Ext.trans h.ext e, e.at h.res, e.at h.frm, e.at h.own, h.new⟩
theorem SGet.step {w wr : World} {g : Nat} {f : Frm} {j : Nat} (h : SGet w g f j wr) (x : Int) (hx : x = Frm.numI (f.data.take (j + 1))) : SGet w g f (j + 1) (wr.setCell ⟨g + 1, 0, none⟩ (.int .i64 x)) := by
  have hn := h.new
  refine ⟨Only.setCell (F := fun _ => False) h.ext (.inl (by show _ ≤ g + 1; omega)) _, (block_set_other _ (by omega)).trans h.res, (block_set_other _ (by omega)).trans h.frm, ?_, hn⟩
  have := h.own.id x
  rw [hx] at this ⊢
  exact this
def toldO (o : Option Cfg) : Value := .tuple #[.agg (Cfg.A (o.getD Cfg.zero)), .bool o.isSome]
def SGetPost (w : World) (R : Rck) (i : Int) (e : Ending) (w' : World) : Prop := e = .returned (toldO (R.superGet i)) ∧ Ext w w'
set_option maxRecDepth 100000 in
set_option maxHeartbeats 2000000 in
theorem sget_c {S : Nat → Prop} {w : World} {r : Nat} {R : Rck} (h : RackAt S w r R) (i : Int) :
    Calls Tryd.prog 43 #[.pointer (some ⟨r, 0, none⟩), .int .i64 i] w (SGetPost w R i) := by
  have hz := zero_frame
  have hzc := zero_cfg
  have HZ := hid (Frm.A_size _ zero_ok)
  have HCS := hid Cfg.A_size
  obtain ⟨W0, hW0⟩ : ∃ W, w.alloc (.cells (Cfg.A Cfg.zero) 59) = W := ⟨_, rfl⟩
  have X0 : Ext w W0 := hW0 ▸ (Ext.refl w).alloc _
  have HC0 := hid (show W0.heap[w.heap.size]? = some (.cells (Cfg.A Cfg.zero) 59 (0, 0)) from hW0 ▸ heap_alloc_new _ _)
  have HX0 := hid X0
  have H0 := hid (h.ext X0)
  have hbz := built_cfg0
  rcases hg : R.get i 0 1 i 0 with _ | f
  · have HS : Hid (R.superGet i = none) := hid (by unfold Rck.superGet; rw [hg]; rfl)
    have HG := hid hg
    clear X0 h hg
    go_enter Tryd.func43, Tryd.ntmps43
    go_wp2_with fail
    refine (at_get H0.out i 0 1 i 0).mono ?_
    rintro e w1 ⟨rfl, x1⟩
    rw [HG.out]
    simp only [gotO, Option.getD_none, Option.isSome_none]
    have HC1 := hid (Ext.at ((Ext.refl w1).alloc (.cells (Frm.A Frm.zero) 42)) (x1.at HC0.out))
    have X1 := hid ((Ext.trans HX0.out x1).alloc (.cells (Frm.A Frm.zero) 42))
    have hbs : (w1.alloc (.cells (Frm.A Frm.zero) 42)).heap[w1.heap.size]? = some (.cells (Frm.A Frm.zero) 42 (0, 0)) := block_alloc
    clear x1
    go_wp2_with (first
      | (refine wpList_store_whole rfl 42 _ _ rfl w1.heap.size rfl (Frm.A Frm.zero) _ rfl 42 ?_ hbs ?_ ?_ ?_; (rw [HZ.out]; exact aggFrame); (rfl); exact Frm.A_one _)
      | (rw [setRow_alloc]; refine wpList_store_whole rfl 59 _ _ rfl w.heap.size rfl (Cfg.A Cfg.zero) _ rfl 59 ?_ HC1.out ?_ ?_ ?_; (rw [HCS.out]; exact aggCfg); (rfl); exact Cfg.A_one _))
    refine bodyPost_ret (run_results_agg Tryd.results43 rfl (by rw [HCS.out]; exact aggCfg) (setRow_heap _ _ _ _ _ _ HC1.out)) rfl ?_
    exact ⟨by rw [HS.out]; rfl, Ext.then X1.out (only_setRow _ _ _) (fun i hi => by omega)⟩
  · have hok := h.got_ok hg
    have HS : Hid (R.superGet i = Cfg.told f i) := hid (by unfold Rck.superGet; rw [hg]; rfl)
    have HG := hid hg
    have HOK := hid hok
    have HFS := hid (Frm.A_size f hok)
    have hlen := hok.len
    have b4 := Frm.nth_bd hok.byte 4
    have b5 := Frm.nth_bd hok.byte 5
    have b6 := Frm.nth_bd hok.byte 6
    have b7 := Frm.nth_bd hok.byte 7
    have HB4 : Hid (Tryd.prog.built 59 [(1, .int .i64 (nth f.data 4 : Nat)), (2, .int .i64 (nth f.data 5 : Nat)), (3, .int .i64 (nth f.data 6 : Nat)), (4, .int .i64 (nth f.data 7 : Nat))] = some (Cfg.A (Cfg.pj f.data 0))) := hid (by
      rw [built_cfg4]; unfold Cfg.pj; rw [List.take_zero, numI_nil])
    have hb4 := HB4.out
    clear X0 h hg hok
    go_enter Tryd.func43, Tryd.ntmps43
    go_wp2_with fail
    refine (at_get H0.out i 0 1 i 0).mono ?_
    rintro e w1 ⟨rfl, x1⟩
    rw [HG.out]
    simp only [gotO, Option.getD_some, Option.isSome_some]
    have HC1 : Hid (((w1.alloc (.cells (Frm.A f) 42)).alloc (.cells (Cfg.A Cfg.zero) 59)).heap[w.heap.size]? = some (.cells (Cfg.A Cfg.zero) 59 (0, 0))) := hid (Ext.at (((Ext.refl w1).alloc _).alloc _) (x1.at HC0.out))
    have X1 := hid (Ext.trans HX0.out x1)
    have hbs : (w1.alloc (.cells (Frm.A Frm.zero) 42)).heap[w1.heap.size]? = some (.cells (Frm.A Frm.zero) 42 (0, 0)) := block_alloc
    have hcs : ((w1.alloc (.cells (Frm.A f) 42)).alloc (.cells (Cfg.A Cfg.zero) 59)).heap[w1.heap.size + 1]? = some (.cells (Cfg.A Cfg.zero) 59 (0, 0)) := by
      have e : (w1.alloc (.cells (Frm.A f) 42)).heap.size = w1.heap.size + 1 := by simp
      rw [← e]; exact heap_alloc_new _ _
    have c4 : ((w1.alloc (.cells (Frm.A Frm.zero) 42)).setRow w1.heap.size (Frm.A f)).cell? ⟨w1.heap.size, 8, none⟩ = some (.int .u8 (nth f.data 4 : Nat)) := by rw [setRow_alloc]; exact (cell_at block_alloc).trans (Frm.A4 f 4 (by omega))
    have c5 : ((w1.alloc (.cells (Frm.A Frm.zero) 42)).setRow w1.heap.size (Frm.A f)).cell? ⟨w1.heap.size, 9, none⟩ = some (.int .u8 (nth f.data 5 : Nat)) := by rw [setRow_alloc]; exact (cell_at block_alloc).trans (Frm.A4 f 5 (by omega))
    have c6 : ((w1.alloc (.cells (Frm.A Frm.zero) 42)).setRow w1.heap.size (Frm.A f)).cell? ⟨w1.heap.size, 10, none⟩ = some (.int .u8 (nth f.data 6 : Nat)) := by rw [setRow_alloc]; exact (cell_at block_alloc).trans (Frm.A4 f 6 (by omega))
    have c7 : ((w1.alloc (.cells (Frm.A Frm.zero) 42)).setRow w1.heap.size (Frm.A f)).cell? ⟨w1.heap.size, 11, none⟩ = some (.int .u8 (nth f.data 7 : Nat)) := by rw [setRow_alloc]; exact (cell_at block_alloc).trans (Frm.A4 f 7 (by omega))
    have HSZ : Hid (w.heap.size + 1 ≤ w1.heap.size) := hid (by have := x1.size; have := lt_of_block HC0.out; omega)
    clear x1
    go_wp2_with (first
      | (refine wpList_store_whole rfl 42 _ _ rfl w1.heap.size rfl (Frm.A f) _ rfl 42 ?_ hbs ?_ ?_ ?_; (rw [HFS.out]; exact aggFrame); (rw [HFS.out, HZ.out]); exact Frm.A_one _)
      | (refine wpList_build_eq rfl 59 _ rfl (Cfg.A (Cfg.pj f.data 0)) ?_ ?_; (simp only [List.map_toArray, List.map_cons, List.map_nil, Act.eval]; simp only [Array.getD_eq_getD_getElem?, List.getElem?_toArray, List.getElem?_cons_succ, List.getElem?_cons_zero, Option.getD_some]; exact HB4.out))
      | (rw [setRow_alloc]; refine wpList_store_whole rfl 59 _ _ rfl (w1.heap.size + 1) rfl (Cfg.A (Cfg.pj f.data 0)) _ rfl 59 ?_ hcs ?_ ?_ ?_; (rw [HCS.out]; exact aggCfg); (rw [HCS.out, HCS.out]); exact Cfg.A_one _))
    have HST : Hid (SGet w w1.heap.size f 0 (((w1.alloc (.cells (Frm.A f) 42)).alloc (.cells (Cfg.A Cfg.zero) 59)).setRow (w1.heap.size + 1) (Cfg.A (Cfg.pj f.data 0)))) := hid (by
      have e : (w1.alloc (.cells (Frm.A f) 42)).heap.size = w1.heap.size + 1 := by simp
      have q := lt_of_block HC1.out
      have q1 := X1.out.size
      have q2 := lt_of_block HC0.out
      have hlt : w.heap.size < w1.heap.size := by have := HSZ.out; omega
      rw [← e, setRow_alloc]
      refine ⟨(Ext.trans X1.out ((Ext.refl w1).alloc _)).alloc _, ?_, ?_, by rw [← e]; exact heap_alloc_new _ _, hlt⟩
      · have := HC1.out
        unfold CBlk
        rw [heap_alloc_old _ _ (by simp; omega)] at this ⊢
        exact this
      · unfold FBlk; rw [heap_alloc_old _ _ (by simp)]; exact heap_alloc_new _ _)
    clear c4 c5 c6 c7 hbs hcs HC1 hb4
    generalize ((w1.alloc (.cells (Frm.A f) 42)).alloc (.cells (Cfg.A Cfg.zero) 59)).setRow (w1.heap.size + 1) (Cfg.A (Cfg.pj f.data 0)) = v0 at *
    generalize w1.heap.size = g at *
    go_loopw [37] (fun v wr => ∃ j : Nat, v = .int .i64 j ∧ j ≤ 4 ∧ SGet w g f j wr) (fun v _ => 4 - (intOf v).toNat)
    case atStart => exact ⟨0, rfl, by omega, HST.out⟩
    case round =>
      clear HST
      obtain ⟨j, rfl, hj, hst⟩ := hrel
      by_cases hlt : j < 4
      · have i0 : (0 : Int) ≤ (j : Int) := by omega
        have i1 : (j : Int) < 4 := by omega
        have i2 : (j : Int) < 108 := by omega
        have HST := hid hst
        have xd : Ext wr wr.drew := (Ext.refl wr).drew
        have bj := Frm.nth_bd HOK.out.byte j
        have c0 : ∀ x : SW Ext wr.drew, x.w.cell? ⟨g + 1, 0, none⟩ = some (.int .i64 (Frm.numI (f.data.take j))) := fun x => (cell_at ((Ext.trans xd x.ext).at HST.out.own)).trans (Cfg.A0 _)
        have c1 : ∀ x : SW Ext wr.drew, x.w.cell? ⟨g, 4 + j, none⟩ = some (.int .u8 (nth f.data j : Nat)) := fun x => (cell_at ((Ext.trans xd x.ext).at HST.out.frm)).trans (Frm.A4 f j (by omega))
        have HNT := hid (numI_take f.data j (by omega) (by omega) HOK.out.byte)
        clear hst b4 b5 b6 b7
        go_wp2_with fail
        refine wp_region_rely_tail (S := Ext) 12 (.fin [0, 1, 2, 3, 4, 5, 6, 7, 8, 9, 10, 11]) (by kernel_rfl) (by kernel_rfl) (fun _ _ d _ _ h => by cases d <;> exact h) ?_
        rw [wpS]
        simp only [opsAt, List.map_cons, List.map_nil, Array.getD_eq_getD_getElem?, List.getElem?_toArray, List.getElem?_cons_succ, List.getElem?_cons_zero, Option.getD_some]
        iterate 12 ((refine wpSQ_step (fun K hK => ?_); go_simp; first | (refine hK _ ?_; clear hK K) | (apply Exists.intro; refine ⟨fun x => ?_, hK _ ?_⟩; (fail); clear hK K)))
        refine wpSQ_nil ?_
        intro W hW
        have HS2 := hid (HST.out.more (Ext.trans xd hW))
        have f1 : W.frozen? ⟨g + 1, 0, none⟩ = false := free_at HS2.out.own
        have c2 : W.cell? ⟨g + 1, 0, none⟩ = some (.int .i64 (Frm.numI (f.data.take j))) := (cell_at HS2.out.own).trans (Cfg.A0 _)
        clear c0 c1 hW
        go_wp2
        go_roundw
        case rel => exact ⟨j + 1, by go_num, by omega, HS2.out.step _ (by rw [Nat.min_eq_left (by omega)]; exact HNT.out)⟩
        case measure => simp [intOf]; omega
      · obtain rfl : j = 4 := by omega
        rw [show ((4 : Nat) : Int) = 4 from rfl]
        have hown := hst.own
        rw [Cfg.pj_end _ HOK.out.byte] at hown
        have hfrm := hst.frm
        have xd : Ext wr wr.drew := (Ext.refl wr).drew
        have HX := hid hst.ext
        have hT : Cfg.told f i = if (Cfg.parse f.data).right = true ∧ f = (Cfg.parse f.data).block i then some (Cfg.parse f.data) else none := rfl
        generalize Cfg.parse f.data = c at *
        have HT := hid (HS.out.trans hT)
        have HRES := hid hst.res
        have HOWN := hid hown
        have lc : Hid (∀ x : SW Ext wr.drew, ∀ j v, (Cfg.A c).toList[j]? = some v → x.w.cell? ((⟨g + 1, 0, none⟩ : Addr).add j) = some v) := hid fun x => agg_cells ((Ext.trans xd x.ext).at hown)
        have lf : Hid (∀ x : SW Ext wr.drew, ∀ j v, (Frm.A f).toList[j]? = some v → x.w.cell? ((⟨g, 0, none⟩ : Addr).add j) = some v) := hid fun x => agg_cells ((Ext.trans xd x.ext).at hfrm)
        have rc : Hid (∀ x : SW Ext wr.drew, Calls Tryd.prog 37 #[.agg (Cfg.A c)] x.w fun e w'' => e = .returned (.bool c.right) ∧ Ext x.w w'') := hid fun x => sright_c c x.w
        have HAG := hid (cfg_agg c)
        clear hown hfrm hT hst HS b4 b5 b6 b7 HB4
        go_wp2_with fail
        refine wp_region_rely_all (S := Ext) (.fin [0, 1, 2, 3, 4, 5, 6, 7, 8, 9]) (by kernel_rfl) (by kernel_rfl) (fun _ _ d _ _ h => by cases d <;> exact h) ?_
        rw [wpS]
        simp only [opsAt, List.map_cons, List.map_nil, Array.getD_eq_getD_getElem?, List.getElem?_toArray, List.getElem?_cons_succ, List.getElem?_cons_zero, Option.getD_some]
        refine wpSQ_load_agg 59 _ rfl ⟨g + 1, 0, none⟩ rfl (Cfg.A c) rfl HAG.out lc.out ?_
        rcases hr : c.right with _ | _
        · have HN : Hid (R.superGet i = none) := hid (by rw [HT.out, if_neg (fun q => by rw [hr] at q; exact absurd q.1 (by simp))])
          rw [hr] at rc
          clear hr
          (refine wpSQ_step (fun K hK => ?_); go_simp; first | (refine hK _ ?_; clear hK K) | (apply Exists.intro; refine ⟨fun x => ?_, hK _ ?_⟩; (exact rc.out x); clear hK K))
          iterate 2 ((refine wpSQ_step (fun K hK => ?_); go_simp; first | (refine hK _ ?_; clear hK K) | (apply Exists.intro; refine ⟨fun x => ?_, hK _ ?_⟩; (fail); clear hK K)))
          iterate 5 (refine wpSQ_skip rfl ?_)
          (refine wpSQ_step (fun K hK => ?_); go_simp; first | (refine hK _ ?_; clear hK K) | (apply Exists.intro; refine ⟨fun x => ?_, hK _ ?_⟩; (fail); clear hK K))
          refine wpSQ_nil ?_
          intro W hW
          have hres : W.heap[w.heap.size]? = some (.cells (Cfg.A Cfg.zero) 59 (0, 0)) := (Ext.trans xd hW).at HRES.out
          have HXW := hid (Ext.trans HX.out (Ext.trans xd hW))
          clear hW lc lf rc
          go_wp2_with (refine wpList_store_whole rfl 59 _ _ rfl w.heap.size rfl (Cfg.A Cfg.zero) _ rfl 59 ?_ hres ?_ ?_ ?_; (rw [HCS.out]; exact aggCfg); (rfl); exact Cfg.A_one _)
          refine bodyPost_ret (run_results_agg Tryd.results43 rfl (by rw [HCS.out]; exact aggCfg) (setRow_heap _ _ _ _ _ _ hres)) rfl ?_
          exact ⟨by rw [HN.out]; rfl, Ext.then HXW.out (only_setRow _ _ _) (fun i hi => by omega)⟩
        · have hgood := (Cfg.right_iff c).1 hr
          rw [hr] at rc
          have bc : Hid (∀ x : SW Ext wr.drew, Calls Tryd.prog 69 #[.agg (Cfg.A c), .int .i64 i] x.w fun e w'' => e = .returned (.agg (Frm.A (c.block i))) ∧ Ext x.w w'') := hid fun x => sblock_c c hgood i x.w
          have HBO := hid (Cfg.block_ok c i hgood)
          have HNE := hid (frame_neq f (c.block i) HOK.out HBO.out)
          by_cases he : f = c.block i
          · have HN : Hid (R.superGet i = some c) := hid (by rw [HT.out, if_pos ⟨hr, he⟩])
            rw [show (!f.eqB (c.block i)) = false from by rw [(Frm.eqB_iff _ _).2 he]; rfl] at HNE
            clear hr hgood he
            (refine wpSQ_step (fun K hK => ?_); go_simp; first | (refine hK _ ?_; clear hK K) | (apply Exists.intro; refine ⟨fun x => ?_, hK _ ?_⟩; (exact rc.out x); clear hK K))
            iterate 2 ((refine wpSQ_step (fun K hK => ?_); go_simp; first | (refine hK _ ?_; clear hK K) | (apply Exists.intro; refine ⟨fun x => ?_, hK _ ?_⟩; (fail); clear hK K)))
            refine wpSQ_load_agg 42 _ rfl ⟨g, 0, none⟩ rfl (Frm.A f) rfl (by rw [HFS.out]; exact aggFrame) lf.out ?_
            refine wpSQ_load_agg 59 _ rfl ⟨g + 1, 0, none⟩ rfl (Cfg.A c) rfl HAG.out lc.out ?_
            (refine wpSQ_step (fun K hK => ?_); go_simp; first | (refine hK _ ?_; clear hK K) | (apply Exists.intro; refine ⟨fun x => ?_, hK _ ?_⟩; (fail); clear hK K))
            (refine wpSQ_step (fun K hK => ?_); go_simp; first | (refine hK _ ?_; clear hK K) | (apply Exists.intro; refine ⟨fun x => ?_, hK _ ?_⟩; (exact bc.out x); clear hK K))
            refine wpSQ_eql .neq 42 _ _ _ rfl (Frm.A f) (Frm.A (c.block i)) rfl rfl (.bool false) rfl (fun w => frame_guard _ _ _ _ _ w) HNE.out ?_
            (refine wpSQ_step (fun K hK => ?_); go_simp; first | (refine hK _ ?_; clear hK K) | (apply Exists.intro; refine ⟨fun x => ?_, hK _ ?_⟩; (fail); clear hK K))
            refine wpSQ_nil ?_
            intro W hW
            have hres : W.heap[w.heap.size]? = some (.cells (Cfg.A Cfg.zero) 59 (0, 0)) := (Ext.trans xd hW).at HRES.out
            have hown : W.heap[g + 1]? = some (.cells (Cfg.A c) 59 (0, 0)) := (Ext.trans xd hW).at HOWN.out
            have HXW := hid (Ext.trans HX.out (Ext.trans xd hW))
            clear hW lc lf rc bc
            go_wp2_with (first
              | (refine wpList_load_agg rfl 59 _ rfl ⟨g + 1, 0, none⟩ rfl (Cfg.A c) HAG.out (agg_cells hown) ?_)
              | (refine wpList_store_whole rfl 59 _ _ rfl w.heap.size rfl (Cfg.A c) _ rfl 59 ?_ hres ?_ ?_ ?_; (rw [HCS.out]; exact aggCfg); (rw [HCS.out, HCS.out]); exact Cfg.A_one _))
            refine bodyPost_ret (run_results_agg Tryd.results43 rfl (by rw [HCS.out]; exact aggCfg) (setRow_heap _ _ _ _ _ _ hres)) rfl ?_
            exact ⟨by rw [HN.out]; rfl, Ext.then HXW.out (only_setRow _ _ _) (fun i hi => by omega)⟩
          · have HN : Hid (R.superGet i = none) := hid (by rw [HT.out, if_neg (fun q => he q.2)])
            rw [show (!f.eqB (c.block i)) = true from by
              rcases hq : f.eqB (c.block i) with _ | _
              · rfl
              · exact absurd ((Frm.eqB_iff _ _).1 hq) he] at HNE
            clear hr hgood he
            (refine wpSQ_step (fun K hK => ?_); go_simp; first | (refine hK _ ?_; clear hK K) | (apply Exists.intro; refine ⟨fun x => ?_, hK _ ?_⟩; (exact rc.out x); clear hK K))
            iterate 2 ((refine wpSQ_step (fun K hK => ?_); go_simp; first | (refine hK _ ?_; clear hK K) | (apply Exists.intro; refine ⟨fun x => ?_, hK _ ?_⟩; (fail); clear hK K)))
            refine wpSQ_load_agg 42 _ rfl ⟨g, 0, none⟩ rfl (Frm.A f) rfl (by rw [HFS.out]; exact aggFrame) lf.out ?_
            refine wpSQ_load_agg 59 _ rfl ⟨g + 1, 0, none⟩ rfl (Cfg.A c) rfl HAG.out lc.out ?_
            (refine wpSQ_step (fun K hK => ?_); go_simp; first | (refine hK _ ?_; clear hK K) | (apply Exists.intro; refine ⟨fun x => ?_, hK _ ?_⟩; (fail); clear hK K))
            (refine wpSQ_step (fun K hK => ?_); go_simp; first | (refine hK _ ?_; clear hK K) | (apply Exists.intro; refine ⟨fun x => ?_, hK _ ?_⟩; (exact bc.out x); clear hK K))
            refine wpSQ_eql .neq 42 _ _ _ rfl (Frm.A f) (Frm.A (c.block i)) rfl rfl (.bool true) rfl (fun w => frame_guard _ _ _ _ _ w) HNE.out ?_
            (refine wpSQ_step (fun K hK => ?_); go_simp; first | (refine hK _ ?_; clear hK K) | (apply Exists.intro; refine ⟨fun x => ?_, hK _ ?_⟩; (fail); clear hK K))
            refine wpSQ_nil ?_
            intro W hW
            have hres : W.heap[w.heap.size]? = some (.cells (Cfg.A Cfg.zero) 59 (0, 0)) := (Ext.trans xd hW).at HRES.out
            have HXW := hid (Ext.trans HX.out (Ext.trans xd hW))
            clear hW lc lf rc
            go_wp2_with (refine wpList_store_whole rfl 59 _ _ rfl w.heap.size rfl (Cfg.A Cfg.zero) _ rfl 59 ?_ hres ?_ ?_ ?_; (rw [HCS.out]; exact aggCfg); (rfl); exact Cfg.A_one _)
            refine bodyPost_ret (run_results_agg Tryd.results43 rfl (by rw [HCS.out]; exact aggCfg) (setRow_heap _ _ _ _ _ _ hres)) rfl ?_
            exact ⟨by rw [HN.out]; rfl, Ext.then HXW.out (only_setRow _ _ _) (fun i hi => by omega)⟩
end Go.Proofs.YtdbjojnejkklhaaDoor

/- super.Find: the configuration of a rack's disks. -/
namespace Go.Proofs.YtdbjojnejkklhaaDoor
set_option linter.unusedVariables false
open Go Go.RowKit
theorem Rck.counted_le (R : Rck) (m : Nat) : (R.counted m).2 ≤ m := by
  induction m with
  | zero => exact Nat.le_refl 0
  | succ m ih =>
    rw [Rck.counted_succ]
    rcases hc : R.counted m with ⟨c, n⟩
    rw [hc] at ih
    rcases R.superGet (m : Int) with _ | x
    · show n ≤ m + 1; have : n ≤ m := ih; omega
    · have h1 : n ≤ m := ih
      have h2 : ∀ (p : Prop) [Decidable p] (a b : Cfg), (if p then (a, n + 1) else (b, n)).2 ≤ m + 1 := fun p _ a b => by
        split
        · show n + 1 ≤ m + 1; omega
        · show n ≤ m + 1; omega
      exact h2 _ _ _
theorem RackAt.n8 {S : Nat → Prop} {w : World} {r : Nat} {R : Rck} (h : RackAt S w r R) : R.l.length ≤ 8 := by
  obtain ⟨_, K, _, h2, _⟩ := h
  have := h2.small
  rw [h2.len]; omega
structure SFnd (w : World) (c : Cfg) (wr : World) : Prop where
  ext : Ext w wr
  res : CBlk wr w.heap.size Cfg.zero
  own : CBlk wr (w.heap.size + 1) c
theorem SFnd.more {w wr wr' : World} {c : Cfg} (h : SFnd w c wr) (e : Ext wr wr') : SFnd w c wr' := ⟨Ext.trans h.ext e, e.at h.res, e.at h.own⟩
theorem SFnd.put {w wr : World} {c : Cfg} (h : SFnd w c wr) (x : Cfg) : SFnd w x (wr.setRow (w.heap.size + 1) (Cfg.A x)) :=
  ⟨Ext.then h.ext (only_setRow _ _ _) (fun i hi => by omega), by
    have := (only_setRow wr (w.heap.size + 1) (Cfg.A x)).at h.res (by omega)
    exact this, setRow_heap _ _ _ _ _ _ h.own⟩
def SFindPost (w : World) (R : Rck) (e : Ending) (w' : World) : Prop := e = .returned (.tuple #[.agg (Cfg.A R.superFind.1), oErr R.superFind.2]) ∧ Ext w w'
set_option maxRecDepth 100000 in
set_option maxHeartbeats 3000000 in
theorem sfind_c {S : Nat → Prop} {w : World} {r : Nat} {R : Rck} (h : RackAt S w r R) :
    Calls Tryd.prog 34 #[.pointer (some ⟨r, 0, none⟩)] w (SFindPost w R) := by
  have hzc := zero_cfg
  have hbz := built_cfg0
  have HCS := hid Cfg.A_size
  have H := hid h
  have h8 := h.n8
  clear h
  go_enter Tryd.func34, Tryd.ntmps34
  go_wp2_with fail
  have X0 : Ext w ((w.alloc (.cells (Cfg.A Cfg.zero) 59)).alloc (.cells (Cfg.A Cfg.zero) 59)) := ((Ext.refl w).alloc _).alloc _
  have HS : Hid (SFnd w (R.counted 0).1 ((w.alloc (.cells (Cfg.A Cfg.zero) 59)).alloc (.cells (Cfg.A Cfg.zero) 59))) := hid ⟨X0, by
    unfold CBlk; rw [heap_alloc_old _ _ (by simp)]; exact heap_alloc_new _ _, by
    have e : (w.alloc (.cells (Cfg.A Cfg.zero) 59)).heap.size = w.heap.size + 1 := by simp
    unfold CBlk; rw [← e]; exact heap_alloc_new _ _⟩
  refine (at_n (H.out.ext X0)).mono ?_
  rintro e w2 ⟨rfl, rfl⟩
  clear X0
  generalize (w.alloc (.cells (Cfg.A Cfg.zero) 59)).alloc (.cells (Cfg.A Cfg.zero) 59) = v0 at *
  obtain ⟨N, hN⟩ : ∃ N, R.l.length = N := ⟨_, rfl⟩
  have HN := hid hN
  rw [hN] at h8 ⊢
  clear hN
  go_wp2
  go_loopw [5, 11] (fun v i wr => ∃ j : Nat, i = .int .i64 j ∧ v = .int .i64 (R.counted j).2 ∧ j ≤ N ∧ SFnd w (R.counted j).1 wr) (fun _ i _ => N - (intOf i).toNat)
  case atStart => exact ⟨0, rfl, rfl, by omega, HS.out⟩
  case round =>
    clear HS
    obtain ⟨j, rfl, rfl, hj, hst⟩ := hrel
    have HST := hid hst
    have hsucc := R.counted_succ j
    have hle := R.counted_le j
    have hfind : R.l.length = j → R.superFind = (if (R.counted j).2 = 0 ∨ ((R.counted j).2 : Int) < (R.counted j).1.k ∨ R.fits (R.counted j).1 = false then (Cfg.zero, some (.fault sSuperFind ((R.counted j).2 : Int) (.no 7))) else ((R.counted j).1, none)) := fun e => by unfold Rck.superFind; rw [e]
    clear hst
    generalize R.counted j = cn at *
    obtain ⟨c, n⟩ := cn
    simp only at hle HST hfind ⊢
    by_cases hlt : j < N
    · clear hfind
      have i0 : (0 : Int) ≤ (j : Int) := by omega
      have i1 : (j : Int) < (N : Int) := by omega
      have n0 : (0 : Int) ≤ (n : Int) := by omega
      have n1 : (n : Int) ≤ 8 := by omega
      go_wp2_with fail
      refine (sget_c (H.out.ext HST.out.ext) j).mono ?_
      rintro e w3 ⟨rfl, x3⟩
      rcases ho : R.superGet (j : Int) with _ | x
      · rw [ho] at hsucc
        have HSU := hid hsucc
        clear ho hsucc
        simp only [toldO, Option.getD_none, Option.isSome_none]
        have HS3 := hid ((HST.out.more x3).more ((Ext.refl w3).alloc (.cells (Cfg.A Cfg.zero) 59)))
        have hbs : (w3.alloc (.cells (Cfg.A Cfg.zero) 59)).heap[w3.heap.size]? = some (.cells (Cfg.A Cfg.zero) 59 (0, 0)) := block_alloc
        clear x3
        go_wp2_with (refine wpList_store_whole rfl 59 _ _ rfl w3.heap.size rfl (Cfg.A Cfg.zero) _ rfl 59 ?_ hbs ?_ ?_ ?_; (rw [HCS.out]; exact aggCfg); (rfl); exact Cfg.A_one _)
        rw [setRow_alloc]
        go_roundw
        case rel => exact ⟨j + 1, by go_num, by rw [HSU.out]; rfl, by omega, by rw [HSU.out]; exact HS3.out⟩
        case measure => simp [intOf]; omega
      · rw [ho] at hsucc
        clear ho
        simp only [toldO, Option.getD_some, Option.isSome_some]
        have HS3 := hid ((HST.out.more x3).more ((Ext.refl w3).alloc (.cells (Cfg.A x) 59)))
        have hbs : (w3.alloc (.cells (Cfg.A Cfg.zero) 59)).heap[w3.heap.size]? = some (.cells (Cfg.A Cfg.zero) 59 (0, 0)) := block_alloc
        have HX3 : Hid ((w3.alloc (.cells (Cfg.A x) 59)).heap[w3.heap.size]? = some (.cells (Cfg.A x) 59 (0, 0))) := hid block_alloc
        have HLT : Hid (w.heap.size + 1 < w3.heap.size) := hid (by have := lt_of_block (x3.at HST.out.own); omega)
        clear x3
        by_cases hn0 : n = 0
        · subst hn0
          have HSU : Hid (R.counted (j + 1) = (x, 1)) := hid (by rw [hsucc]; simp [Rck.count])
          have HE := hid (cfg_eql x x)
          rw [Cfg.eqB_self] at HE
          clear hsucc n0 n1
          rw [show ((0 : Nat) : Int) = 0 from rfl]
          have HS4 := hid (HS3.out.put x)
          have HX4 : Hid (((w3.alloc (.cells (Cfg.A x) 59)).setRow (w.heap.size + 1) (Cfg.A x)).heap[w3.heap.size]? = some (.cells (Cfg.A x) 59 (0, 0))) := hid ((only_setRow _ _ _).at HX3.out (by have := HLT.out; omega))
          go_wp2_with (first
            | (refine wpList_store_whole rfl 59 _ _ rfl w3.heap.size rfl (Cfg.A x) _ rfl 59 ?_ hbs ?_ ?_ ?_; (rw [HCS.out]; exact aggCfg); (rw [HCS.out, HCS.out]); exact Cfg.A_one _)
            | (rw [setRow_alloc]; refine wpList_load_agg rfl 59 _ rfl ⟨w3.heap.size, 0, none⟩ rfl (Cfg.A x) (cfg_agg x) (agg_cells HX3.out) ?_)
            | (refine wpList_store_whole rfl 59 _ _ rfl (w.heap.size + 1) rfl (Cfg.A x) _ rfl 59 ?_ HS3.out.own ?_ ?_ ?_; (rw [HCS.out]; exact aggCfg); (rw [HCS.out, HCS.out]); exact Cfg.A_one _)
            | (refine wpListG_load_agg 59 _ rfl ⟨w3.heap.size, 0, none⟩ rfl (Cfg.A x) rfl (cfg_agg x) (agg_cells HX4.out) ?_)
            | (refine wpListG_load_agg 59 _ rfl ⟨w.heap.size + 1, 0, none⟩ rfl (Cfg.A x) rfl (cfg_agg x) (agg_cells HS4.out.own) ?_)
            | (refine wpListG_eql .eql 59 _ _ _ rfl (Cfg.A x) (Cfg.A x) rfl rfl (.bool true) rfl (cfg_guard _ _ _ _ _ _) (HE.out _) ?_))
          go_roundw
          case rel => exact ⟨j + 1, by go_num, by rw [HSU.out]; rfl, by omega, by rw [HSU.out]; exact HS4.out⟩
          case measure => simp [intOf]; omega
        · have n2 : ((n : Int) == 0) = false := by simp; omega
          have HE := hid (cfg_eql x c)
          have HS3' : Hid (SFnd w c ((w3.alloc (.cells (Cfg.A Cfg.zero) 59)).setRow w3.heap.size (Cfg.A x))) := hid (by rw [setRow_alloc]; exact HS3.out)
          by_cases hxc : x = c
          · rw [(Cfg.eqB_iff _ _).2 hxc] at HE
            have HSU : Hid (R.counted (j + 1) = (c, n + 1)) := hid (by rw [hsucc]; simp [Rck.count, hn0, hxc])
            clear hsucc hxc hn0
            go_wp2_with (first
              | (refine wpList_store_whole rfl 59 _ _ rfl w3.heap.size rfl (Cfg.A x) _ rfl 59 ?_ hbs ?_ ?_ ?_; (rw [HCS.out]; exact aggCfg); (rw [HCS.out, HCS.out]); exact Cfg.A_one _)
              | (rw [setRow_alloc]; refine wpListG_load_agg 59 _ rfl ⟨w3.heap.size, 0, none⟩ rfl (Cfg.A x) rfl (cfg_agg x) (agg_cells HX3.out) ?_)
              | (refine wpListG_load_agg 59 _ rfl ⟨w.heap.size + 1, 0, none⟩ rfl (Cfg.A c) rfl (cfg_agg c) (agg_cells HS3.out.own) ?_)
              | (refine wpListG_eql .eql 59 _ _ _ rfl (Cfg.A x) (Cfg.A c) rfl rfl (.bool true) rfl (cfg_guard _ _ _ _ _ _) (HE.out _) ?_))
            go_roundw
            case rel => exact ⟨j + 1, by go_num, by rw [HSU.out]; go_num, by omega, by rw [HSU.out]; exact HS3.out⟩
            case measure => simp [intOf]; omega
          · rw [show x.eqB c = false from by
              rcases hq : x.eqB c with _ | _
              · rfl
              · exact absurd ((Cfg.eqB_iff _ _).1 hq) hxc] at HE
            have HSU : Hid (R.counted (j + 1) = (c, n)) := hid (by rw [hsucc]; simp [Rck.count, hn0, hxc])
            clear hsucc hxc hn0
            go_wp2_with (first
              | (refine wpList_store_whole rfl 59 _ _ rfl w3.heap.size rfl (Cfg.A x) _ rfl 59 ?_ hbs ?_ ?_ ?_; (rw [HCS.out]; exact aggCfg); (rw [HCS.out, HCS.out]); exact Cfg.A_one _)
              | (rw [setRow_alloc]; refine wpListG_load_agg 59 _ rfl ⟨w3.heap.size, 0, none⟩ rfl (Cfg.A x) rfl (cfg_agg x) (agg_cells HX3.out) ?_)
              | (refine wpListG_load_agg 59 _ rfl ⟨w.heap.size + 1, 0, none⟩ rfl (Cfg.A c) rfl (cfg_agg c) (agg_cells HS3.out.own) ?_)
              | (refine wpListG_eql .eql 59 _ _ _ rfl (Cfg.A x) (Cfg.A c) rfl rfl (.bool false) rfl (cfg_guard _ _ _ _ _ _) (HE.out _) ?_))
            go_roundw
            case rel => exact ⟨j + 1, by go_num, by rw [HSU.out], by omega, by rw [HSU.out]; exact HS3.out⟩
            case measure => simp [intOf]; omega
    · obtain rfl : N = j := by omega
      have hf := hfind HN.out
      have HX := hid HST.out.ext
      have HRES : Hid (wr.heap[w.heap.size]? = some (.cells (Cfg.A Cfg.zero) 59 (0, 0))) := hid HST.out.res
      have HOWN : Hid (wr.heap[w.heap.size + 1]? = some (.cells (Cfg.A c) 59 (0, 0))) := hid HST.out.own
      clear hfind hsucc
      by_cases hn0 : n = 0
      · have HF : Hid (R.superFind = (Cfg.zero, some (.fault sSuperFind (n : Int) (.no 7)))) := hid (by rw [hf, if_pos (.inl hn0)])
        subst hn0
        clear hf
        rw [show ((0 : Nat) : Int) = 0 from rfl] at HF ⊢
        go_wp2_with fail
        refine (wrap_err sSuperFind 0 (.no 7) wr).mono ?_
        rintro e w7 ⟨rfl, rfl⟩
        go_wp2_with (refine wpList_store_whole rfl 59 _ _ rfl w.heap.size rfl (Cfg.A Cfg.zero) _ rfl 59 ?_ HRES.out ?_ ?_ ?_; (rw [HCS.out]; exact aggCfg); (rfl); exact Cfg.A_one _)
        refine bodyPost_ret (run_results_agg Tryd.results34 rfl (by rw [HCS.out]; exact aggCfg) (setRow_heap _ _ _ _ _ _ HRES.out)) rfl ?_
        exact ⟨by rw [HF.out]; rfl, Ext.then HX.out (only_setRow _ _ _) (fun i hi => by omega)⟩
      · have n2 : ((n : Int) == 0) = false := by simp; omega
        have c1 : wr.cell? ⟨w.heap.size + 1, 1, none⟩ = some (.int .i64 c.k) := (cell_at HOWN.out).trans (Cfg.A1 c)
        by_cases hk : (n : Int) < c.k
        · have HF : Hid (R.superFind = (Cfg.zero, some (.fault sSuperFind (n : Int) (.no 7)))) := hid (by rw [hf, if_pos (.inr (.inl hk))])
          clear hf hn0
          go_wp2_with fail
          refine (wrap_err sSuperFind n (.no 7) wr).mono ?_
          rintro e w7 ⟨rfl, rfl⟩
          go_wp2_with (refine wpList_store_whole rfl 59 _ _ rfl w.heap.size rfl (Cfg.A Cfg.zero) _ rfl 59 ?_ HRES.out ?_ ?_ ?_; (rw [HCS.out]; exact aggCfg); (rfl); exact Cfg.A_one _)
          refine bodyPost_ret (run_results_agg Tryd.results34 rfl (by rw [HCS.out]; exact aggCfg) (setRow_heap _ _ _ _ _ _ HRES.out)) rfl ?_
          exact ⟨by rw [HF.out]; rfl, Ext.then HX.out (only_setRow _ _ _) (fun i hi => by omega)⟩
        · rcases hft : R.fits c with _ | _
          · have HF : Hid (R.superFind = (Cfg.zero, some (.fault sSuperFind (n : Int) (.no 7)))) := hid (by rw [hf, if_pos (.inr (.inr hft))])
            have HFT := hid hft
            clear hf hn0 hft
            go_wp2_with (refine wpListG_load_agg 59 _ rfl ⟨w.heap.size + 1, 0, none⟩ rfl (Cfg.A c) rfl (cfg_agg c) (agg_cells HOWN.out) ?_)
            refine (sfits_c (H.out.ext HX.out) c).mono ?_
            rintro e w6 ⟨rfl, x6⟩
            rw [HFT.out]
            have HRES := hid (x6.at HRES.out)
            have HX := hid (Ext.trans HX.out x6)
            clear x6 c1
            go_wp2_with fail
            refine (wrap_err sSuperFind n (.no 7) w6).mono ?_
            rintro e w7 ⟨rfl, rfl⟩
            go_wp2_with (refine wpList_store_whole rfl 59 _ _ rfl w.heap.size rfl (Cfg.A Cfg.zero) _ rfl 59 ?_ HRES.out ?_ ?_ ?_; (rw [HCS.out]; exact aggCfg); (rfl); exact Cfg.A_one _)
            refine bodyPost_ret (run_results_agg Tryd.results34 rfl (by rw [HCS.out]; exact aggCfg) (setRow_heap _ _ _ _ _ _ HRES.out)) rfl ?_
            exact ⟨by rw [HF.out]; rfl, Ext.then HX.out (only_setRow _ _ _) (fun i hi => by omega)⟩
          · have HF : Hid (R.superFind = (c, none)) := hid (by rw [hf, if_neg]; intro q; rcases q with q | q | q; exact hn0 q; exact hk q; rw [hft] at q; cases q)
            have HFT := hid hft
            clear hf hn0 hft
            go_wp2_with (refine wpListG_load_agg 59 _ rfl ⟨w.heap.size + 1, 0, none⟩ rfl (Cfg.A c) rfl (cfg_agg c) (agg_cells HOWN.out) ?_)
            refine (sfits_c (H.out.ext HX.out) c).mono ?_
            rintro e w6 ⟨rfl, x6⟩
            rw [HFT.out]
            have HRES := hid (x6.at HRES.out)
            have HOWN := hid (x6.at HOWN.out)
            have HX := hid (Ext.trans HX.out x6)
            clear x6 c1
            go_wp2_with (first
              | (refine wpList_load_agg rfl 59 _ rfl ⟨w.heap.size + 1, 0, none⟩ rfl (Cfg.A c) (cfg_agg c) (agg_cells HOWN.out) ?_)
              | (refine wpList_store_whole rfl 59 _ _ rfl w.heap.size rfl (Cfg.A c) _ rfl 59 ?_ HRES.out ?_ ?_ ?_; (rw [HCS.out]; exact aggCfg); (rw [HCS.out, HCS.out]); exact Cfg.A_one _))
            refine bodyPost_ret (run_results_agg Tryd.results34 rfl (by rw [HCS.out]; exact aggCfg) (setRow_heap _ _ _ _ _ _ HRES.out)) rfl ?_
            exact ⟨by rw [HF.out]; rfl, Ext.then HX.out (only_setRow _ _ _) (fun i hi => by omega)⟩
end Go.Proofs.YtdbjojnejkklhaaDoor
