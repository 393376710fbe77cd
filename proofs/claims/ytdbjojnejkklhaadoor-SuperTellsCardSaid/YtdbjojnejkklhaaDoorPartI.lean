/- Texts of one proof, joined: SuperLive, SupG, FewPure, WSuperRuns. -/
import Derived.Test.YtdbjojnejkklhaaDoorPartH
import Derived.Test.YtdbjojnejkklhaaDoorPartG
import Derived.Test.YtdbjojnejkklhaaDoorPartA
import Derived.Test.YtdbjojnejkklhaaDoorPartF
set_option linter.unusedVariables false
set_option linter.unusedSimpArgs false
/- Superblocks on live racks: what each disk tells, as plain data. No program stands here. -/
namespace Go.Proofs.YtdbjojnejkklhaaDoor
set_option linter.unusedVariables false
/-- What a disk tells at a place. -/
def Dsk.told (D : Dsk) (i : Nat) : Option Cfg :=
  if D.dead then none else (match Frm.get (D.read 0) with
    | some f => if f.kind = 1 ∧ f.slot = i ∧ (0 ≤ (0 : Int) → f.stripe = 0) then some f else none
    | none => none).bind fun f => Cfg.told f i
theorem Live.superGet {R : Rck} {n m : Nat} (h : Live R n m) (hm : 1 ≤ m) {i : Nat} (hi : i < n) : R.superGet i = (R.dsk i).told i := by
  unfold Rck.superGet Dsk.told
  rcases hd : (R.dsk i).dead with _ | _
  · have e : R.get (i : Int) 0 1 (i : Int) 0 = _ := h.get (s := 0) hi (by omega) hd 1 i 0
    rw [e]; rfl
  · have e : R.get (i : Int) 0 1 (i : Int) 0 = none := h.get_dead (s := 0) hi (by omega) hd 1 i 0
    rw [e]; rfl
namespace Dsk
theorem told_none (D : Dsk) (i : Nat) (h : D.dead = false) (hr : Frm.get (D.read 0) = none) : D.told i = none := by
  unfold told; rw [h, hr]; rfl
theorem told_new (m i : Nat) (hm : 1 ≤ m) : (Dsk.new m).told i = none := told_none _ i rfl (by rw [new_read m 0 (by omega)]; exact zeros_get)
theorem told_dead (D : Dsk) (i : Nat) (h : D.dead = true) : D.told i = none := by unfold told; rw [h]; rfl
theorem told_of (D : Dsk) (i : Nat) (h : D.dead = false) (f : Frm) (hf : f.Ok) (hr : f.right = true) (hb : D.read 0 = f.bytes) : D.told i = if f.kind = 1 ∧ f.slot = i ∧ f.stripe = 0 then Cfg.told f i else none := by
  unfold told
  rw [h, hb, Frm.get_bytes f hf hr, if_neg (by simp)]
  show ((if f.kind = 1 ∧ f.slot = i ∧ (0 ≤ (0 : Int) → f.stripe = 0) then some f else none).bind fun f => Cfg.told f i) = _
  by_cases q : f.kind = 1 ∧ f.slot = i ∧ f.stripe = 0
  · rw [if_pos q, if_pos ⟨q.1, q.2.1, fun _ => q.2.2⟩]; rfl
  · rw [if_neg q, if_neg (fun x => q ⟨x.1, x.2.1, x.2.2 (Int.le_refl 0)⟩)]; rfl
theorem disk_read (D : Dsk) (b : List Nat) (h : 1 ≤ D.l.length) : (Super.disk D b).read 0 = b := by
  unfold Super.disk
  rw [flush_read _ _ (by rw [write_len]; omega), write_read, if_pos rfl]
theorem disk_len (D : Dsk) (b : List Nat) : (Super.disk D b).l.length = D.l.length := by unfold Super.disk; rw [flush_len, write_len]
theorem disk_dead (D : Dsk) (b : List Nat) : (Super.disk D b).dead = D.dead := by unfold Super.disk; rw [flush_dead]; rfl
theorem disk_waits (D : Dsk) (b : List Nat) (i : Nat) : (Super.disk D b).waits i = none := by unfold Super.disk; exact Apart.flush_waits _ i
theorem disk_rot (D : Dsk) (b : List Nat) (i : Nat) (h : D.rot i = false) : (Super.disk D b).rot i = false := by unfold Super.disk; exact Apart.flush_rot _ i h
theorem told_disk (D : Dsk) (h : 1 ≤ D.l.length) (ha : D.dead = false) (c : Cfg) (hc : c.Good) (i : Nat) (hi : i < 8) : (Super.disk D (c.block i).bytes).told i = some c := by
  rw [told_of _ i (by rw [disk_dead]; exact ha) (c.block i) (Cfg.block_ok c i hc) (Cfg.block_right c i hi) (disk_read D _ h), if_pos ⟨rfl, rfl, rfl⟩]
  exact Cfg.told_block c hc i
theorem told_rot (D : Dsk) (h : 1 ≤ D.l.length) (ha : D.dead = false) (c : Cfg) (hc : c.Good) (i : Nat) (hi : i < 8) (k x : Nat) (hk : k ≤ 124) (hx : x < 4294967296) (h0 : x ≠ 0) : ((Super.disk D (c.block i).bytes).rotted 0 k x).told i = none := by
  refine told_none _ i (by rw [rotted_dead, disk_dead]; exact ha) ?_
  rw [rotted_read _ _ _ _ _ (by rw [disk_len]; omega) (disk_waits _ _ 0), if_pos rfl, disk_read D _ h]
  exact Frm.get_rot _ (Cfg.block_ok c i hc) (Cfg.block_right c i hi) k x hk hx h0
end Dsk
namespace SRuns
def C : Cfg := ⟨9, 2, 3, 1, 1⟩
theorem C_good : C.Good := by constructor <;> decide
def R0 : Rck := Rck.new 3 4
def D (i : Nat) : Dsk := Super.disk (Dsk.new 4) (C.block i).bytes
def R1 : Rck := R0.setD (1 : Nat) (D 1)
def R2 : Rck := R1.setD (2 : Nat) (D 2)
theorem l0 : Live R0 3 4 := Live.new 3 4 (by omega)
theorem D_len (i : Nat) : (D i).l.length = 4 := by unfold D; rw [Dsk.disk_len]; exact Dsk.new_len 4
theorem D_dead (i : Nat) : (D i).dead = false := by unfold D; rw [Dsk.disk_dead]; rfl
theorem l1 : Live R1 3 4 ∧ ∀ j : Nat, R1.dsk j = if j = 1 then D 1 else R0.dsk j := l0.setD (i := 1) (D 1) (D_len 1) (by omega)
theorem l2 : Live R2 3 4 ∧ ∀ j : Nat, R2.dsk j = if j = 2 then D 2 else R1.dsk j := l1.1.setD (i := 2) (D 2) (D_len 2) (by omega)
theorem put1 : R0.superPut C 1 = (none, R1) := by
  have h : Super R0 C 4 := ⟨l0, C_good, by decide⟩
  have e : R0.dsk (1 : Nat) = Dsk.new 4 := Live.new_dsk 3 4 1 (by omega)
  have := h.put (i := 1) (by decide) (by rw [e]; rfl)
  rw [e] at this
  exact this
theorem put2 : R1.superPut C 2 = (none, R2) := by
  have h : Super R1 C 4 := ⟨l1.1, C_good, by decide⟩
  have e : R1.dsk (2 : Nat) = Dsk.new 4 := by rw [l1.2, if_neg (by omega)]; exact Live.new_dsk 3 4 2 (by omega)
  have := h.put (i := 2) (by decide) (by rw [e]; rfl)
  rw [e] at this
  exact this
theorem fits2 {R : Rck} (h : Live R 3 4) : R.fits C = true := Super.fits (m := 4) ⟨h, C_good, by decide⟩
theorem d0 : R2.dsk (0 : Nat) = Dsk.new 4 := by rw [l2.2, if_neg (by omega), l1.2, if_neg (by omega)]; exact Live.new_dsk 3 4 0 (by omega)
theorem d1 : R2.dsk (1 : Nat) = D 1 := by rw [l2.2, if_neg (by omega), l1.2, if_pos rfl]
theorem d2 : R2.dsk (2 : Nat) = D 2 := by rw [l2.2, if_pos rfl]
theorem told_D (i : Nat) (hi : i < 8) : (D i).told i = some C := by
  unfold D
  exact Dsk.told_disk _ (by rw [Dsk.new_len]; omega) rfl C C_good i hi
theorem cnt {R : Rck} (h : Live R 3 4) (x y z : Option Cfg) (h0 : (R.dsk (0 : Nat)).told 0 = x) (h1 : (R.dsk (1 : Nat)).told 1 = y) (h2 : (R.dsk (2 : Nat)).told 2 = z) : R.counted 3 = Rck.count (Rck.count (Rck.count (Cfg.zero, 0) x) y) z := by
  rw [Rck.counted_succ, Rck.counted_succ, Rck.counted_succ, h.superGet (by omega) (by omega), h.superGet (by omega) (by omega), h.superGet (by omega) (by omega), h0, h1, h2]
  rfl
theorem find2 : R2.superFind = (C, none) := by
  have hc : R2.counted 3 = (C, 2) := by
    rw [cnt l2.1 none (some C) (some C) (by rw [d0]; exact Dsk.told_new 4 0 (by omega)) (by rw [d1]; exact told_D 1 (by omega)) (by rw [d2]; exact told_D 2 (by omega))]
    simp [Rck.count]
  unfold Rck.superFind
  rw [l2.1.len, hc, if_neg]
  intro q
  rcases q with q | q | q
  · exact absurd q (by decide)
  · exact absurd q (by decide)
  · rw [show (C, 2).1 = C from rfl, fits2 l2.1] at q; cases q
theorem find3 : (R2.die 2).superFind = (Cfg.zero, some (.fault sSuperFind 1 (.no 7))) := by
  have hl := l2.1.setD (i := 2) (R2.dsk (2 : Nat)).die (by rw [Dsk.die_len]; exact l2.1.secs 2 (by omega)) (by omega)
  have e : R2.die 2 = R2.setD (2 : Nat) (R2.dsk (2 : Nat)).die := l2.1.die (i := 2) (by omega)
  rw [e]
  generalize R2.setD (2 : Nat) (R2.dsk (2 : Nat)).die = R at *
  have hc : R.counted 3 = (C, 1) := by
    rw [cnt hl.1 none (some C) none (by rw [hl.2, if_neg (by omega), d0]; exact Dsk.told_new 4 0 (by omega)) (by rw [hl.2, if_neg (by omega), d1]; exact told_D 1 (by omega)) (by rw [hl.2, if_pos rfl]; exact Dsk.told_dead _ 2 rfl)]
    simp [Rck.count]
  unfold Rck.superFind
  rw [hl.1.len, hc, if_pos (.inr (.inl (by decide)))]
  rfl
end SRuns
end Go.Proofs.YtdbjojnejkklhaaDoor

/- stavekeep: configurations of numbers. -/
namespace Go.Proofs.YtdbjojnejkklhaaDoor
set_option linter.unusedVariables false
open Go Go.RowKit
def keepCfg (k n stripes slots : Int) : Cfg := ⟨7, within k 1 4, within n (within k 1 4) 6, within stripes 1 6, within slots 1 3⟩
theorem keepCfg_good (k n stripes slots : Int) : (keepCfg k n stripes slots).Good := by
  obtain ⟨a0, a1⟩ := within_bd k 1 4 (by omega)
  obtain ⟨b0, b1⟩ := within_bd n (within k 1 4) 6 (by omega)
  obtain ⟨c0, c1⟩ := within_bd stripes 1 6 (by omega)
  obtain ⟨d0, d1⟩ := within_bd slots 1 3 (by omega)
  exact ⟨by show (1 : Int) ≤ 7; omega, by show (7 : Int) ≤ 2147483647; omega, by show within n (within k 1 4) 6 ≤ 8; omega, a0, b0, c0, by show within stripes 1 6 ≤ 64; omega, d0, by show within slots 1 3 ≤ 4; omega⟩
theorem built_cfg3 (i k s t : Int) : Tryd.prog.built 59 [(0, .int .i64 i), (1, .int .i64 k), (3, .int .i64 s), (4, .int .i64 t)] = some (Cfg.A ⟨i, k, 0, s, t⟩) := by kernel_rfl
theorem Cfg.A_n (c : Cfg) (x : Int) : (Cfg.A c).setIfInBounds 2 (.int .i64 x) = Cfg.A { c with n := x } := by
  rw [Cfg.A_def, Cfg.A_def]; rfl
def KCfgPost (w : World) (c : Cfg) (e : Ending) (w' : World) : Prop := e = .returned (.agg (Cfg.A c)) ∧ Ext w w'
set_option maxRecDepth 100000 in
set_option maxHeartbeats 1000000 in
theorem kconfig_c (k n stripes slots : Int) (w : World) : Calls Tryd.prog 42 #[.int .i64 k, .int .i64 n, .int .i64 stripes, .int .i64 slots] w (KCfgPost w (keepCfg k n stripes slots)) := by
  have hzc := zero_cfg
  have HCS := hid Cfg.A_size
  have HK : Hid (keepCfg k n stripes slots = ⟨7, within k 1 4, within n (within k 1 4) 6, within stripes 1 6, within slots 1 3⟩) := hid rfl
  rw [HK.out]
  clear HK
  obtain ⟨a0, a1⟩ := within_bd k 1 4 (by omega)
  have HWK := hid (within_c k 1 4)
  generalize within k 1 4 = kk at *
  have hb3 := built_cfg3
  go_enter Tryd.func42, Tryd.ntmps42
  go_wp2_with fail
  refine (HWK.out _ (by omega) (by omega) (by omega)).mono ?_
  rintro e w2 ⟨rfl, rfl⟩
  go_wp2_with fail
  refine (within_c stripes 1 6 _ (by omega) (by omega) (by omega)).mono ?_
  rintro e w2 ⟨rfl, rfl⟩
  go_wp2_with fail
  refine (within_c slots 1 3 _ (by omega) (by omega) (by omega)).mono ?_
  rintro e w2 ⟨rfl, rfl⟩
  generalize within stripes 1 6 = st at *
  generalize within slots 1 3 = sl at *
  have e1 : (w.alloc (.cells (Cfg.A Cfg.zero) 59)).heap.size = w.heap.size + 1 := by simp
  have hbs : ((w.alloc (.cells (Cfg.A Cfg.zero) 59)).alloc (.cells (Cfg.A Cfg.zero) 59)).heap[w.heap.size + 1]? = some (.cells (Cfg.A Cfg.zero) 59 (0, 0)) := by rw [← e1]; exact heap_alloc_new _ _
  have HB3 : Hid (Tryd.prog.built 59 [(0, .int .i64 7), (1, .int .i64 kk), (3, .int .i64 st), (4, .int .i64 sl)] = some (Cfg.A ⟨7, kk, 0, st, sl⟩)) := hid (built_cfg3 7 kk st sl)
  clear hb3
  have c1 : (((w.alloc (.cells (Cfg.A Cfg.zero) 59)).alloc (.cells (Cfg.A Cfg.zero) 59)).setRow (w.heap.size + 1) (Cfg.A ⟨7, kk, 0, st, sl⟩)).cell? ⟨w.heap.size + 1, 1, none⟩ = some (.int .i64 kk) := (cell_at (setRow_heap _ _ _ _ _ _ hbs)).trans (Cfg.A1 _)
  go_wp2_with (first
    | (refine wpList_build_eq rfl 59 _ rfl (Cfg.A ⟨7, kk, 0, st, sl⟩) ?_ ?_; (simp only [List.map_toArray, List.map_cons, List.map_nil, Act.eval]; simp only [Array.getD_eq_getD_getElem?, List.getElem?_toArray, List.getElem?_cons_succ, List.getElem?_cons_zero, Option.getD_some]; exact HB3.out))
    | (refine wpList_store_whole rfl 59 _ _ rfl (w.heap.size + 1) rfl (Cfg.A ⟨7, kk, 0, st, sl⟩) _ rfl 59 ?_ hbs ?_ ?_ ?_; (rw [HCS.out]; exact aggCfg); (rw [HCS.out, HCS.out]); exact Cfg.A_one _))
  have HO : Hid (CBlk (((w.alloc (.cells (Cfg.A Cfg.zero) 59)).alloc (.cells (Cfg.A Cfg.zero) 59)).setRow (w.heap.size + 1) (Cfg.A ⟨7, kk, 0, st, sl⟩)) (w.heap.size + 1) ⟨7, kk, 0, st, sl⟩) := hid (setRow_heap _ _ _ _ _ _ hbs)
  have HR : Hid (CBlk (((w.alloc (.cells (Cfg.A Cfg.zero) 59)).alloc (.cells (Cfg.A Cfg.zero) 59)).setRow (w.heap.size + 1) (Cfg.A ⟨7, kk, 0, st, sl⟩)) w.heap.size Cfg.zero) := hid (by
    have := (only_setRow ((w.alloc (.cells (Cfg.A Cfg.zero) 59)).alloc (.cells (Cfg.A Cfg.zero) 59)) (w.heap.size + 1) (Cfg.A ⟨7, kk, 0, st, sl⟩)).at (k := w.heap.size) (o := .cells (Cfg.A Cfg.zero) 59) (by rw [heap_alloc_old _ _ (by simp)]; exact heap_alloc_new _ _) (by omega)
    exact this)
  have HX : Hid (Ext w (((w.alloc (.cells (Cfg.A Cfg.zero) 59)).alloc (.cells (Cfg.A Cfg.zero) 59)).setRow (w.heap.size + 1) (Cfg.A ⟨7, kk, 0, st, sl⟩))) := hid (Ext.then (((Ext.refl w).alloc _).alloc _) (only_setRow _ _ _) (fun i hi => by omega))
  clear hbs c1 HB3
  generalize ((w.alloc (.cells (Cfg.A Cfg.zero) 59)).alloc (.cells (Cfg.A Cfg.zero) 59)).setRow (w.heap.size + 1) (Cfg.A ⟨7, kk, 0, st, sl⟩) = W at *
  refine (within_c n kk 6 W (by omega) (by omega) (by omega)).mono ?_
  rintro e w2 ⟨rfl, rfl⟩
  generalize within n kk 6 = nn at *
  have c2 : W.cell? ⟨w.heap.size + 1, 2, none⟩ = some (.int .i64 0) := (cell_at HO.out).trans (Cfg.A2 _)
  have f2 : W.frozen? ⟨w.heap.size + 1, 2, none⟩ = false := free_at HO.out
  have HO2 : Hid ((W.setCell ⟨w.heap.size + 1, 2, none⟩ (.int .i64 nn)).heap[w.heap.size + 1]? = some (.cells (Cfg.A ⟨7, kk, nn, st, sl⟩) 59 (0, 0))) := hid (by
    have := block_set HO.out (i := 2) (.int .i64 nn)
    rw [Cfg.A_n] at this
    exact this)
  have HR2 : Hid ((W.setCell ⟨w.heap.size + 1, 2, none⟩ (.int .i64 nn)).heap[w.heap.size]? = some (.cells (Cfg.A Cfg.zero) 59 (0, 0))) := hid ((block_set_other _ (by omega)).trans HR.out)
  have HX2 : Hid (Ext w (W.setCell ⟨w.heap.size + 1, 2, none⟩ (.int .i64 nn))) := hid (Only.setCell (F := fun _ => False) HX.out (.inl (by show _ ≤ w.heap.size + 1; omega)) _)
  go_wp2_with (first
    | (refine wpList_load_agg rfl 59 _ rfl ⟨w.heap.size + 1, 0, none⟩ rfl (Cfg.A ⟨7, kk, nn, st, sl⟩) (cfg_agg _) (agg_cells HO2.out) ?_)
    | (refine wpList_store_whole rfl 59 _ _ rfl w.heap.size rfl (Cfg.A ⟨7, kk, nn, st, sl⟩) _ rfl 59 ?_ HR2.out ?_ ?_ ?_; (rw [HCS.out]; exact aggCfg); (rw [HCS.out, HCS.out]); exact Cfg.A_one _))
  refine bodyPost_ret (results_cell_row Tryd.results42 _ _ w.heap.size _ (Cfg.A ⟨7, kk, nn, st, sl⟩) _ _ rfl (setRow_heap _ _ _ _ _ _ HR2.out) Tryd.underlying59 rfl (by rw [HCS.out]; exact aggCfg.2)) rfl ?_
  exact ⟨rfl, Ext.then HX2.out (only_setRow _ _ _) (fun i hi => by omega)⟩
end Go.Proofs.YtdbjojnejkklhaaDoor

/- A rack whose disks bear one superblock, some of them gone or rotten behind that: as plain data. No program stands here. -/
namespace Go.Proofs.YtdbjojnejkklhaaDoor
set_option linter.unusedVariables false
theorem Fill.superPut {n m : Nat} {P : Nat → Dsk} {R : Rck} {d : Nat} {D : Dsk} {c : Cfg} (h : Fill n m P R d D) (hn : n = c.n.toNat) (hc : c.Good) (hm : c.sectors ≤ (m : Int)) (hd : d < n) (hD : D.l.length = m ∧ D.dead = false) :
    ∃ R', R.superPut c d = (none, R') ∧ Fill n m P R' d (Super.disk D (c.block d).bytes) := by
  subst hn
  have hs : Super R c m := ⟨h.live, hc, hm⟩
  refine ⟨_, hs.put hd (by rw [h.here]; exact hD.2), ?_⟩
  rw [h.here]
  exact h.next hd _ (by rw [Dsk.disk_len]; exact hD.1)
theorem Fill.die {n m : Nat} {P : Nat → Dsk} {R : Rck} {d : Nat} {D : Dsk} (h : Fill n m P R d D) (hd : d < n) (hD : D.l.length = m) : Fill n m P (R.die d) d D.die := by
  rw [h.live.die hd, h.here]
  exact h.next hd _ (by rw [Dsk.die_len]; exact hD)
theorem Fill.rot {n m : Nat} {P : Nat → Dsk} {R : Rck} {d : Nat} {D : Dsk} (h : Fill n m P R d D) (hd : d < n) (hD : D.l.length = m ∧ D.dead = false ∧ D.rot 0 = false) (k x : Nat) (hk : k ≤ 124) (hx : x ≠ 0) (hm : 1 ≤ m) : Fill n m P (R.rot d 0 k x) d (D.rotted 0 k x) := by
  have ok : (R.dsk d).rotOk 0 k x = true := by
    unfold Dsk.rotOk
    rw [h.here, hD.1, hD.2.1, show (0 : Int).toNat = 0 from rfl, hD.2.2]
    simp
    omega
  rw [h.live.rot hd, if_pos ok, h.here]
  exact h.next hd _ (by rw [Dsk.rotted_len]; exact hD.1)
namespace Few
def bit (G j : Nat) : Bool := G / 2 ^ j % 2 == 1
def B (c : Cfg) (m j : Nat) : Dsk := Super.disk (Dsk.new m) (c.block j).bytes
def P (c : Cfg) (m G : Nat) (how : Bool) (j : Nat) : Dsk := if bit G j then (if how then (B c m j).die else (B c m j).rotted 0 j 7) else B c m j
def left (G : Nat) : Nat → Nat
  | 0 => 0
  | i + 1 => left G i + if bit G i then 0 else 1
theorem left_le (G i : Nat) : left G i ≤ i := by
  induction i with
  | zero => exact Nat.le_refl 0
  | succ i ih =>
    show left G i + (if bit G i then 0 else 1) ≤ i + 1
    split <;> omega
theorem B_ok (c : Cfg) (m j : Nat) : (B c m j).l.length = m ∧ (B c m j).dead = false ∧ (B c m j).rot 0 = false := by
  unfold B
  exact ⟨by rw [Dsk.disk_len, Dsk.new_len], by rw [Dsk.disk_dead]; rfl, Dsk.disk_rot _ _ 0 rfl⟩
theorem told_B (c : Cfg) (hc : c.Good) (m j : Nat) (hm : 1 ≤ m) (hj : j < 8) : (B c m j).told j = some c := by
  unfold B
  exact Dsk.told_disk _ (by rw [Dsk.new_len]; exact hm) rfl c hc j hj
theorem told_P (c : Cfg) (hc : c.Good) (m G : Nat) (how : Bool) (j : Nat) (hm : 1 ≤ m) (hj : j < 8) : (P c m G how j).told j = if bit G j then none else some c := by
  unfold P
  split
  · split
    · exact Dsk.told_dead _ j rfl
    · unfold B
      exact Dsk.told_rot _ (by rw [Dsk.new_len]; exact hm) rfl c hc j hj j 7 (by omega) (by omega) (by omega)
  · exact told_B c hc m j hm hj
theorem counted {c : Cfg} (hc : c.Good) {m G n : Nat} {how : Bool} (hm : 1 ≤ m) (hn : n ≤ 8) {R : Rck} (h : Filled n m (P c m G how) R n) (i : Nat) (hi : i ≤ n) : R.counted i = (if left G i = 0 then Cfg.zero else c, left G i) := by
  induction i with
  | zero => rfl
  | succ i ih =>
    rw [Rck.counted_succ, ih (by omega), h.live.superGet hm (by omega), h.done i (by omega), told_P c hc m G how i hm (by omega)]
    show _ = (if left G i + (if bit G i then 0 else 1) = 0 then Cfg.zero else c, left G i + if bit G i then 0 else 1)
    rcases hb : bit G i with _ | _
    · simp only [Bool.false_eq_true, if_false]
      by_cases h0 : left G i = 0
      · simp [Rck.count, h0]
      · simp [Rck.count, h0]
    · simp [Rck.count]
theorem find {c : Cfg} (hc : c.Good) {m G : Nat} {how : Bool} (hm : c.sectors ≤ (m : Int)) {R : Rck} (h : Filled c.n.toNat m (P c m G how) R c.n.toNat) :
    R.superFind = if c.k ≤ (left G c.n.toNat : Int) then (c, none) else (Cfg.zero, some (.fault sSuperFind (left G c.n.toNat : Int) (.no 7))) := by
  have hs : Super R c m := ⟨h.live, hc, hm⟩
  have hcnt := counted hc hs.m1 hs.n8 h c.n.toNat (Nat.le_refl _)
  have hk := hc.k0
  unfold Rck.superFind
  rw [h.live.len, hcnt]
  generalize left G c.n.toNat = L at *
  by_cases hL : c.k ≤ (L : Int)
  · have h0 : L ≠ 0 := by omega
    rw [if_pos hL, if_neg]
    · rw [if_neg h0]
    · simp only [h0, if_false, false_or]
      intro q
      rcases q with q | q
      · omega
      · rw [hs.fits] at q; cases q
  · rw [if_neg hL, if_pos]
    by_cases h0 : L = 0
    · exact .inl h0
    · refine .inr (.inl ?_)
      show (L : Int) < (if L = 0 then Cfg.zero else c).k
      rw [if_neg h0]; omega
end Few
end Go.Proofs.YtdbjojnejkklhaaDoor

/- The walk of SuperRuns. -/
namespace Go.Proofs.YtdbjojnejkklhaaDoor
set_option linter.unusedVariables false
open Go Go.RowKit
open SRuns in
set_option maxRecDepth 100000 in
set_option maxHeartbeats 2000000 in
theorem superRuns_c (w : World) (hg : EtLaid w) : Calls Tryd.prog 7 #[] w fun e w' => e = .returned (.bool true) ∧ Ext w w' := by
  have HG := hid hg
  have hzc := zero_cfg
  have HCS := hid Cfg.A_size
  have HB : Hid (Tryd.prog.built 59 [(0, .int .i64 9), (1, .int .i64 2), (2, .int .i64 3), (3, .int .i64 1), (4, .int .i64 1)] = some (Cfg.A C)) := hid (built_cfg C)
  clear hg
  obtain ⟨W1, hW1⟩ : ∃ W, w.alloc (.cells (Cfg.A C) 59) = W := ⟨_, rfl⟩
  have X1 := hid (show Ext w W1 from hW1 ▸ (Ext.refl w).alloc _)
  have HC := hid (show W1.heap[w.heap.size]? = some (.cells (Cfg.A C) 59 (0, 0)) from hW1 ▸ heap_alloc_new _ _)
  have HLT := hid (lt_of_block HC.out)
  have hbs : (w.alloc (.cells (Cfg.A Cfg.zero) 59)).heap[w.heap.size]? = some (.cells (Cfg.A Cfg.zero) 59 (0, 0)) := block_alloc
  go_enter Tryd.func7, Tryd.ntmps7
  go_wp2_with (first
    | (refine wpList_build_eq rfl 59 _ rfl (Cfg.A C) ?_ ?_; (simp only [List.map_toArray, List.map_cons, List.map_nil, Act.eval]; exact HB.out))
    | (refine wpList_store_whole rfl 59 _ _ rfl w.heap.size rfl (Cfg.A C) _ rfl 59 ?_ hbs ?_ ?_ ?_; (rw [HCS.out]; exact aggCfg); (rw [HCS.out, HCS.out]); exact Cfg.A_one _))
  rw [setRow_alloc, hW1]
  refine (at_new 3 4 (by omega) (by omega) (by omega) (by omega) W1).mono ?_
  rintro e w2 ⟨r, rfl, h2, x2⟩
  have H2 := hid (show RackAt (fun b => b < W1.heap.size) w2 r R0 from h2)
  have X2 := hid (Ext.trans X1.out x2)
  have HC2 := hid (x2.at HC.out)
  clear h2 x2 hbs
  --M1
  go_wp2_with (refine wpListG_load_agg 59 _ rfl ⟨w.heap.size, 0, none⟩ rfl (Cfg.A C) rfl (cfg_agg C) (agg_cells HC2.out) ?_)
  refine (sput_c H2.out C 1).mono ?_
  rintro e w3 ⟨rfl, h3, k3⟩
  rw [put1] at h3 ⊢
  simp only [oErr]
  have H3 := hid h3
  have X3 := hid (Keeps.ext X2.out k3 fun q hq => Nat.lt_of_lt_of_le hq X1.out.size)
  have HC3 := hid (k3.at HC2.out fun q => q HLT.out)
  clear h3 k3
  go_wp2_with (refine wpListG_load_agg 59 _ rfl ⟨w.heap.size, 0, none⟩ rfl (Cfg.A C) rfl (cfg_agg C) (agg_cells HC3.out) ?_)
  refine (sput_c H3.out C 2).mono ?_
  rintro e w4 ⟨rfl, h4, k4⟩
  rw [put2] at h4 ⊢
  simp only [oErr]
  have H4 := hid h4
  have X4 := hid (Keeps.ext X3.out k4 fun q hq => Nat.lt_of_lt_of_le hq X1.out.size)
  have HC4 := hid (k4.at HC3.out fun q => q HLT.out)
  clear h4 k4
  go_wp2_with fail
  refine (sfind_c H4.out).mono ?_
  rintro e w5 ⟨rfl, x5⟩
  rw [find2]
  simp only [oErr]
  have H5 : Hid (RackAt (fun b => b < W1.heap.size ∨ b = w5.heap.size) (w5.alloc (.cells (Cfg.A C) 59)) r R2) := hid (H4.out.more (x5.alloc _) fun b hb => by
    have q := x5.size
    have q2 : (w5.alloc (.cells (Cfg.A C) 59)).heap.size = w5.heap.size + 1 := by simp
    have q3 := H4.out.there
    rcases hb with hb | rfl
    · exact ⟨by have := q3 b hb; omega, .inl hb⟩
    · exact ⟨by omega, .inr q⟩)
  have X5 := hid (Ext.trans X4.out (x5.alloc (.cells (Cfg.A C) 59)))
  have HC5 := hid (Ext.at (x5.alloc (.cells (Cfg.A C) 59)) HC4.out)
  have HD5 : Hid ((w5.alloc (.cells (Cfg.A C) 59)).heap[w5.heap.size]? = some (.cells (Cfg.A C) 59 (0, 0))) := hid block_alloc
  have hbs : (w5.alloc (.cells (Cfg.A Cfg.zero) 59)).heap[w5.heap.size]? = some (.cells (Cfg.A Cfg.zero) 59 (0, 0)) := block_alloc
  clear x5
  go_wp2_with (refine wpList_store_whole rfl 59 _ _ rfl w5.heap.size rfl (Cfg.A C) _ rfl 59 ?_ hbs ?_ ?_ ?_; (rw [HCS.out]; exact aggCfg); (rw [HCS.out, HCS.out]); exact Cfg.A_one _)
  rw [setRow_alloc]
  clear hbs
  generalize w5.heap.size = g5 at *
  generalize w5.alloc (.cells (Cfg.A C) 59) = v5 at *
  refine (at_die H5.out 2).mono ?_
  rintro e w6 ⟨rfl, h6, k6⟩
  obtain ⟨b6, hb6⟩ : ∃ b, R2.has 2 = b := ⟨_, rfl⟩
  rw [hb6]
  clear hb6
  have H6 := hid h6
  have X6 := hid (Keeps.ext X5.out k6 fun q hq => .inl (Nat.lt_of_lt_of_le hq X1.out.size))
  have HC6 := hid (k6.at HC5.out fun q => q (.inl HLT.out))
  have HD6 := hid (k6.at HD5.out fun q => q (.inr rfl))
  clear h6 k6
  go_wp2_with fail
  refine (sfind_c H6.out).mono ?_
  rintro e w7 ⟨rfl, x7⟩
  rw [find3]
  simp only [oErr]
  have X7 := hid (Ext.trans X6.out (x7.alloc (.cells (Cfg.A Cfg.zero) 59)))
  have HC7 := hid (Ext.at (x7.alloc (.cells (Cfg.A Cfg.zero) 59)) HC6.out)
  have HD7 := hid (Ext.at (x7.alloc (.cells (Cfg.A Cfg.zero) 59)) HD6.out)
  have hbs : (w7.alloc (.cells (Cfg.A Cfg.zero) 59)).heap[w7.heap.size]? = some (.cells (Cfg.A Cfg.zero) 59 (0, 0)) := block_alloc
  have HE := hid (cfg_eql C C)
  rw [Cfg.eqB_self] at HE
  have HER : Hid ((Err.fault sSuperFind 1 (.no 7)).kind = 7) := hid rfl
  obtain ⟨er, hre⟩ : ∃ er, Err.fault sSuperFind 1 (.no 7) = er := ⟨_, rfl⟩
  rw [hre] at HER ⊢
  clear x7 hre
  go_wp2_with (first
    | (refine wpList_store_whole rfl 59 _ _ rfl w7.heap.size rfl (Cfg.A Cfg.zero) _ rfl 59 ?_ hbs ?_ ?_ ?_; (rw [HCS.out]; exact aggCfg); (rfl); exact Cfg.A_one _)
    | (rw [setRow_alloc]; refine wpListG_load_agg 59 _ rfl ⟨g5, 0, none⟩ rfl (Cfg.A C) rfl (cfg_agg C) (agg_cells HD7.out) ?_)
    | (refine wpListG_load_agg 59 _ rfl ⟨w.heap.size, 0, none⟩ rfl (Cfg.A C) rfl (cfg_agg C) (agg_cells HC7.out) ?_)
    | (refine wpListG_eql .eql 59 _ _ _ rfl (Cfg.A C) (Cfg.A C) rfl rfl (.bool true) rfl (cfg_guard _ _ _ _ _ _) (HE.out _) ?_))
  clear hbs
  refine (kind_err er _ (HG.out.only X7.out (fun x => x))).mono ?_
  rintro e w8 ⟨rfl, x8⟩
  rw [HER.out]
  have X8 := hid (Ext.trans X7.out x8)
  have HC8 := hid (Ext.at x8 HC7.out)
  clear x8
  go_wp2_with (refine wpListG_load_agg 59 _ rfl ⟨w.heap.size, 0, none⟩ rfl (Cfg.A C) rfl (cfg_agg C) (agg_cells HC8.out) ?_)
  refine (ssectors_c C C_good w8).mono ?_
  rintro e w9 ⟨rfl, x9⟩
  rw [show C.sectors = 4 from rfl]
  have X9 := hid (Ext.trans X8.out x9)
  clear x9
  go_wp2
  go_ret
  exact ⟨rfl, X9.out⟩
end Go.Proofs.YtdbjojnejkklhaaDoor
