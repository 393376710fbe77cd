/- Texts of one proof, joined: VsAdd, JourG, JourH, JourI, JourJ. -/
import Derived.Test.YtmjembnciffgfaaDoorPartI
import Derived.Test.YtmjembnciffgfaaDoorPartB
import Derived.Great.BuildSlice
set_option linter.unusedVariables false
set_option linter.unusedSimpArgs false
/- A slice literal of one value, and an append of it. -/
namespace Go
theorem fill_one {Z A : Array Value} {sz : Nat} {v : Value} (hv : v.cells = A) (hA : A.size = sz) (hZ : Z.size = sz) : Instr.fill (fun i => some (i * sz, sz)) Z [(0, v)] = some A := by
  have hs : v.cells.size = sz := by rw [hv]; exact hA
  unfold Instr.fill
  simp only [hs, Nat.zero_mul]
  rw [if_neg (by simp; omega)]
  simp only [Instr.fill]
  congr 1
  rw [hv]
  apply Array.ext_getElem?
  intro i
  have h := fold_set 0 A.toList 0 Z i
  simp only [Nat.zero_add] at h
  rw [← Array.foldl_toList, Array.toList_zipIdx]
  simp only [Nat.zero_add]
  refine h.trans ?_
  rw [Array.length_toList, hZ, hA]
  by_cases hi : i < sz
  · rw [if_pos ⟨Nat.zero_le _, hi, hi⟩]; simp
  · rw [if_neg (fun q => hi q.2.2), Array.getElem?_eq_none (by omega), Array.getElem?_eq_none (by omega)]
theorem wpList_buildSlice_one {P : Program} {ops : Array Oper} {rest : List Oper} {o : Oper} {a : Act} {w : World} {Q : Exit → Act → World → Prop} (hg : o.guard = none) (t e : TypeId) (x : Operand) (ho : o.op = .buildSlice t 1 #[(0, x)])
    (A : Array Value) (v z : Value) (sz by_ : Nat) (hu : P.underlying t = some (.slice e)) (hi : (P.info? e).map (fun i => (i.zero, i.size, i.bytes)) = some (some z, sz, by_)) (h0 : 0 < sz) (hs : sz ≤ 16777216) (hx : a.eval x = v) (hv : v.cells = A) (hA : A.size = sz)
    (h : wpList P ops Q rest (a.put o.dst (.slice (some ⟨w.heap.size, 0, none⟩) 1 1)) (w.alloc (.cells A e))) : wpList P ops Q (o :: rest) a w := by
  cases hie : P.info? e with
  | none => rw [hie] at hi; cases hi
  | some ie =>
    rw [hie] at hi
    simp only [Option.map_some, Option.some.injEq, Prod.mk.injEq] at hi
    obtain ⟨hz, hsz, _⟩ := hi
    refine wpList_buildSlice hg t e 1 _ ho A ie z hu hie hz (by rw [hsz]; omega) (by rw [hsz]; omega) ?_ h
    rw [hsz]
    have e1 : ((#[(0, x)] : Array (Nat × Operand)).map fun (i, x) => (i, a.eval x)).toList = [(0, v)] := by simp [hx]
    rw [e1]
    exact fill_one hv hA (by simp)
end Go
namespace Go.Proofs.YtmjembnciffgfaaDoor
set_option linter.unusedVariables false
open Go Go.RowKit
/-- 'out = append(out, x)', x a value of its own. -/
theorem OwnVs.add {w : World} {B sz : Nat} {ty : TypeId} {v : Value} {l : List (Array Value)} (h : OwnVs w B ty sz v l) {tsl : TypeId} {z : Value} {by_ : Nat} (hu : Tryd.prog.underlying tsl = some (.slice ty)) (hi : (Tryd.prog.info? ty).map (fun i => (i.zero, i.size, i.bytes)) = some (some z, sz, by_)) (hz : z.cells.size = sz) (h0 : 0 < sz)
    (x : Array Value) (hx : x.size = sz) (h1 : ∀ u ∈ x.toList, u.oneCell' = true) (hl : l.length < 1000) (hby : by_ ≤ 1000000) (hB : B ≤ w.heap.size) :
    ∃ v' w', (Builtin.append_ #[tsl, tsl] tsl #[v, .slice (some ⟨w.heap.size, 0, none⟩) 1 1]).run Tryd.prog (w.alloc (.cells x ty)) = .ok v' w' ∧ OwnVs w' B ty sz v' (l ++ [x]) ∧
      Only (fun b => v.ownBlock = some b) w w' ∧ (∀ w0, w0.heap.size ≤ B → Ext w0 w → Ext w0 w') := by
  have hxt : Ext w (w.alloc (.cells x ty)) := (Ext.refl w).alloc _
  obtain ⟨v', w', e1, e2, e3, e4, _⟩ := (h.ext hxt).push hu hi hz h0 x hx h1 ⟨w.heap.size, 0, none⟩ (agg_cells block_alloc) 1 hl hby (by simp; omega)
  exact ⟨v', w', e1, e2, Only.trans (Ext.only hxt) e3 (fun _ _ h => h), fun w0 hw0 hx0 => e4 w0 hw0 (hx0.alloc _)⟩
end Go.Proofs.YtmjembnciffgfaaDoor

/- journal.goods: the good frames of a slot's place, of all disks. -/
namespace Go.Proofs.YtmjembnciffgfaaDoor
set_option linter.unusedVariables false
open Go Go.RowKit
theorem infoFr : (Tryd.prog.info? 78).map (fun i => (i.zero, i.size, i.bytes)) = some (some (.agg (Frm.A Frm.zero)), 112, 144) := by kernel_rfl
def Rck.jgoodsTo (R : Rck) (c : Cfg) (slot : Int) (i j : Nat) : List Frm := (List.range j).filterMap fun d => R.jgood c d slot i
theorem Rck.jgoodsTo_succ (R : Rck) (c : Cfg) (slot : Int) (i j : Nat) : R.jgoodsTo c slot i (j + 1) = R.jgoodsTo c slot i j ++ (R.jgood c j slot i).toList := by
  unfold jgoodsTo
  rw [List.range_succ, List.filterMap_append]
  rcases h : R.jgood c j slot i with _ | f <;> simp [h]
theorem Rck.jgoodsTo_len (R : Rck) (c : Cfg) (slot : Int) (i j : Nat) : (R.jgoodsTo c slot i j).length ≤ j := by
  unfold jgoodsTo
  have := List.length_filterMap_le (fun d => R.jgood c d slot i) (List.range j)
  simpa using this
theorem RackAt.jgood_ok {S : Nat → Prop} {w : World} {r : Nat} {R : Rck} (h : RackAt S w r R) {c : Cfg} {d : Nat} {slot : Int} {i : Nat} {f : Frm} (hf : R.jgood c d slot i = some f) : f.Ok := by
  unfold Rck.jgood at hf
  rcases hg : R.get d (Rck.jsec c slot i) 2 i (-1) with _ | g
  · rw [hg] at hf; cases hf
  · rw [hg] at hf
    simp only [Option.bind_some] at hf
    split at hf
    · cases hf
    · cases hf; exact h.got_ok hg
theorem RackAt.jgoods_ok {S : Nat → Prop} {w : World} {r : Nat} {R : Rck} (h : RackAt S w r R) {c : Cfg} {slot : Int} {i : Nat} : ∀ f ∈ R.jgoods c slot i, f.Ok := fun f hf => by
  unfold Rck.jgoods at hf
  obtain ⟨d, _, hd⟩ := List.mem_filterMap.1 hf
  exact h.jgood_ok hd
def JGoodsPost (w : World) (l : List Frm) (e : Ending) (w' : World) : Prop := ∃ v, e = .returned v ∧ OwnVs w' w.heap.size 78 112 v (l.map Frm.A) ∧ Ext w w'
set_option maxRecDepth 100000 in
set_option maxHeartbeats 1000000 in
theorem jgoods_c {S : Nat → Prop} {w : World} {r : Nat} {R : Rck} (h : RackAt S w r R) (c : Cfg) (hc : c.Good) (slot : Int) (h0 : 0 ≤ slot) (h1 : slot < c.slots) (i : Nat) (hi : i < 8) :
    Calls Tryd.prog 30 #[.pointer (some ⟨r, 0, none⟩), .agg (Cfg.A c), .int .i64 slot, .int .i64 i] w (JGoodsPost w (R.jgoods c slot i)) := by
  have hz := zero_frame
  have HZ := hid (Frm.A_size _ zero_ok)
  obtain ⟨W0, hW0⟩ : ∃ W, w.alloc (.cells (Cfg.A c) 23) = W := ⟨_, rfl⟩
  have HX0 := hid (show Ext w W0 from hW0 ▸ (Ext.refl w).alloc _)
  have HC0 := hid (show W0.heap[w.heap.size]? = some (.cells (Cfg.A c) 23 (0, 0)) from hW0 ▸ heap_alloc_new _ _)
  have hsz0 : W0.heap.size = w.heap.size + 1 := by rw [← hW0]; simp
  have H0 := hid (h.ext HX0.out)
  obtain ⟨n, hn⟩ : ∃ n : Nat, c.n = n := ⟨c.n.toNat, by have := hc.k0; have := hc.k1; omega⟩
  have hn8 : n ≤ 8 := by have := hc.n1; omega
  have HG := hid (fun (d : Nat) (wr : World) (hx : Ext W0 wr) => jgood_c (H0.out.ext hx) c hc d slot h0 h1 i hi)
  have HALL : Hid (R.jgoodsTo c slot i n = R.jgoods c slot i) := hid (by unfold Rck.jgoodsTo Rck.jgoods; rw [hn]; rfl)
  have HOK := hid (fun (d : Nat) (f : Frm) (hf : R.jgood c d slot i = some f) => H0.out.jgood_ok hf)
  have c2 : W0.cell? ⟨w.heap.size, 2, none⟩ = some (.int .i64 n) := (cell_at HC0.out).trans (by rw [← hn]; exact Cfg.A2 c)
  clear h hc h0 h1 hi hn
  go_enter Tryd.func30, Tryd.ntmps30
  go_wp2
  clear c2
  go_loopw [15, 9] (fun t v wr => ∃ j : Nat, t = .int .i64 j ∧ j ≤ n ∧ OwnVs wr (w.heap.size + 1) 78 112 v ((R.jgoodsTo c slot i j).map Frm.A) ∧ Ext W0 wr) (fun t _ _ => n - (intOf t).toNat)
  case atStart => exact ⟨0, rfl, by omega, OwnVs.nil _ _ _ _, Ext.refl _⟩
  case round =>
    obtain ⟨j, rfl, hj, hown, hx⟩ := hrel
    by_cases hlt : j < n
    · have HGJ := hid (HG.out j wr hx)
      have HCR := hid (hx.at HC0.out)
      have HS := hid (R.jgoodsTo_succ c slot i j)
      have hlen := R.jgoodsTo_len c slot i j
      have HL := hid (show ((R.jgoodsTo c slot i j).map Frm.A).length < 1000 by rw [List.length_map]; omega)
      have HO := hid hown; have HX := hid hx
      have HLT := hid (show w.heap.size + 1 ≤ wr.heap.size from by rw [← hsz0]; exact hx.size)
      clear hown hx hlen
      go_wp2_with (guard_target = wpList _ _ _ ({ dst := some _, op := Op.load _ _, type := _, pos := _, after := _, guard := none } :: _) _ _; refine wpList_load_agg rfl 23 _ rfl ⟨w.heap.size, 0, none⟩ rfl (Cfg.A c) (cfg_agg c) (agg_cells HCR.out) ?_)
      refine HGJ.out.mono ?_
      rintro e w1 ⟨rfl, x1⟩
      have HX1 := hid (Ext.trans HX.out x1)
      have HO1 := hid (HO.out.ext x1)
      have HLT1 := hid (Nat.le_trans HLT.out x1.size)
      clear x1 HGJ HO HX HLT HCR
      have hbs : (w1.alloc (.cells (Frm.A Frm.zero) 78)).heap[w1.heap.size]? = some (.cells (Frm.A Frm.zero) 78 (0, 0)) := block_alloc
      rcases hg : R.jgood c j slot i with _ | f
      · rw [hg] at HS
        simp only [gotO, Option.getD_none, Option.isSome_none]
        have HS2 : Hid (R.jgoodsTo c slot i (j + 1) = R.jgoodsTo c slot i j) := hid (by rw [HS.out]; simp)
        clear hg HS
        go_wp2_with (guard_target = wpList _ _ _ ({ dst := none, op := Op.store _ _ _, type := _, pos := _, after := _, guard := none } :: _) _ _; refine wpList_store_whole rfl 78 _ _ rfl w1.heap.size rfl (Frm.A Frm.zero) _ rfl 78 ?_ hbs ?_ ?_ ?_; (rw [HZ.out]; exact aggFrame); (rfl); exact Frm.A_one _; rw [setRow_alloc])
        go_roundw
        case rel => exact ⟨j + 1, by go_num, by omega, by rw [HS2.out]; exact HO1.out.ext ((Ext.refl w1).alloc _), HX1.out.alloc _⟩
        case measure => simp [intOf]; omega
      · have hfo := HOK.out j f hg
        have HFS := hid (Frm.A_size f hfo)
        rw [hg] at HS
        simp only [gotO, Option.getD_some, Option.isSome_some]
        obtain ⟨W2, hW2⟩ : ∃ W, w1.alloc (.cells (Frm.A f) 78) = W := ⟨_, rfl⟩
        have x2 : Ext w1 W2 := hW2 ▸ (Ext.refl w1).alloc _
        have hb2 : W2.heap[w1.heap.size]? = some (.cells (Frm.A f) 78 (0, 0)) := hW2 ▸ heap_alloc_new _ _
        obtain ⟨v', W3, hap, hown3, _, hx3⟩ := (HO1.out.ext x2).add (tsl := 75) Tryd.underlying75 infoFr HZ.out (by omega) (Frm.A f) HFS.out (Frm.A_one f) HL.out (by omega) (Nat.le_trans HLT1.out x2.size)
        have HO3 : Hid (OwnVs W3 (w.heap.size + 1) 78 112 v' ((R.jgoodsTo c slot i (j + 1)).map Frm.A)) := hid (by rw [HS.out]; simpa using hown3)
        have HX3 : Hid (Ext W0 W3) := hid (hx3 W0 (by rw [hsz0]; exact Nat.le_refl _) (Ext.trans HX1.out x2))
        have HW2 := hid hW2
        have HB2 := hid hb2
        clear hg HS hown3 hx3 x2 hb2 hfo hW2
        go_wp2_with (first
          | (guard_target = wpList _ _ _ ({ dst := none, op := Op.store _ _ _, type := _, pos := _, after := _, guard := none } :: _) _ _; refine wpList_store_whole rfl 78 _ _ rfl w1.heap.size rfl (Frm.A f) _ rfl 78 ?_ hbs ?_ ?_ ?_; (rw [HFS.out]; exact aggFrame); (rw [HFS.out, HZ.out]); exact Frm.A_one _; rw [setRow_alloc, HW2.out])
          | (guard_target = wpList _ _ _ ({ dst := some _, op := Op.load _ _, type := _, pos := _, after := _, guard := none } :: _) _ _; refine wpList_load_agg rfl 78 _ rfl ⟨w1.heap.size, 0, none⟩ rfl (Frm.A f) (by rw [HFS.out]; exact aggFrame) (agg_cells HB2.out) ?_)
          | (guard_target = wpList _ _ _ ({ dst := some _, op := Op.buildSlice _ _ _, type := _, pos := _, after := _, guard := none } :: _) _ _; refine wpList_buildSlice_one rfl 75 78 _ rfl (Frm.A f) _ _ 112 144 Tryd.underlying75 infoFr (by omega) (by omega) rfl rfl HFS.out ?_)
          | (at_builtin; refine wpList_append_run rfl _ _ _ rfl _ _ _ _ rfl rfl hap ?_))
        go_roundw
        case rel => exact ⟨j + 1, by go_num, by omega, HO3.out, HX3.out⟩
        case measure => simp [intOf]; omega
    · obtain rfl : n = j := by omega
      rw [HALL.out] at hown
      have HO := hid hown; have HX := hid (Ext.trans HX0.out hx)
      clear hown hx
      go_wp2
      go_ret
      exact ⟨_, rfl, HO.out.down (by omega), HX.out⟩
end Go.Proofs.YtmjembnciffgfaaDoor

/- journal.whole: the record with a number, of the good frames of each place. -/
namespace Go.Proofs.YtmjembnciffgfaaDoor
set_option linter.unusedVariables false
open Go Go.RowKit
theorem infoBlk : (Tryd.prog.info? 69).map (fun i => (i.zero, i.size, i.bytes)) = some (some (.agg (bA z108)), 108, 108) := by kernel_rfl
theorem aggData : AggType Tryd.prog 68 108 := ⟨by kernel_rfl, by kernel_rfl⟩
/-- Lists of frames, as they stand in memory. -/
def LsAt (w : World) (a : Option Addr) (ls : List (List Frm)) : Prop := ∀ i fs, ls[i]? = some fs → ∃ g b c, a = some ⟨g, 0, none⟩ ∧ w.cell? ⟨g, i, none⟩ = some (.slice (some ⟨b, 0, none⟩) fs.length c) ∧ fs.length ≤ c ∧ VsAt w b 112 (fs.map Frm.A)
theorem LsAt.ext {w w' : World} {a : Option Addr} {ls : List (List Frm)} (h : LsAt w a ls) (e : Ext w w') : LsAt w' a ls := fun i fs hi => by
  obtain ⟨g, b, c, h1, h2, h3, h4⟩ := h i fs hi
  exact ⟨g, b, c, h1, e.cell h2, h3, h4.ext e⟩
theorem BlksAt.of_vs {w : World} {g : Nat} {l : List (List Nat)} (hl : ∀ b ∈ l, b.length = 108) (h : VsAt w g 108 (l.map bA)) : BlksAt w (some ⟨g, 0, none⟩) l := fun i b hb => by
  refine ⟨g, rfl, fun j hj => h i (bA b) (by rw [List.getElem?_map, hb]; rfl) j _ ?_⟩
  have := bA_get b j (by rw [hl b (List.mem_of_getElem? hb)]; exact hj)
  simpa using this
/-- The record under way. -/
structure WSt (w0 wr : World) (g : Nat) (seq : Int) (x : Rcd) : Prop where
  ext : Ext w0 wr
  seq : x.seq = seq
  ok : ∀ b ∈ x.blocks, b.length = 108
  ex : ∃ a c, wr.heap[g]? = some (.cells (x.V a c) 32 (0, 0)) ∧ OwnVs wr (g + 1) 69 108 (.slice a x.blocks.length c) (x.blocks.map bA)
theorem WSt.more {w0 wr wr' : World} {g : Nat} {seq : Int} {x : Rcd} (h : WSt w0 wr g seq x) (e : Ext wr wr') : WSt w0 wr' g seq x := by
  obtain ⟨h1, h2, h3, a, c, h4, h5⟩ := h
  exact ⟨Ext.trans h1 e, h2, h3, a, c, e.at h4, h5.ext e⟩
theorem WSt.lt {w0 wr : World} {g : Nat} {seq : Int} {x : Rcd} (h : WSt w0 wr g seq x) : g < wr.heap.size := by
  obtain ⟨_, _, _, a, c, h4, _⟩ := h
  exact lt_of_block h4
theorem WSt.take {w0 W : World} {g : Nat} {seq : Int} {x : Rcd} (h : WSt w0 W g seq x) (hg : w0.heap.size ≤ g) (f : Frm) (hf : f.Ok) (hl : x.blocks.length < 1000) :
    ∃ va vc W3 a' c' W4, W.cell? ⟨g, 1, none⟩ = some (.int .i64 x.stripe) ∧ W.frozen? ⟨g, 1, none⟩ = false ∧ W.setCell ⟨g, 1, none⟩ (.int .i64 f.stripe) = W3 ∧ Only (fun k => k = g) W W3 ∧
      W3.cell? ⟨g, 2, none⟩ = some (.slice va x.blocks.length vc) ∧
      (Builtin.append_ #[29, 29] 29 #[.slice va x.blocks.length vc, .slice (some ⟨W3.heap.size, 0, none⟩) 1 1]).run Tryd.prog (W3.alloc (.cells (bA f.data) 69)) = .ok (.slice a' (x.blocks.length + 1) c') W4 ∧
      W4.cell? ⟨g, 2, none⟩ = some (.slice va x.blocks.length vc) ∧ W4.frozen? ⟨g, 2, none⟩ = false ∧
      WSt w0 (W4.setCell ⟨g, 2, none⟩ (.slice a' (x.blocks.length + 1) c')) g seq ⟨seq, f.stripe, x.blocks ++ [f.data]⟩ := by
  obtain ⟨h1, h2, h3, va, vc, h4, h5⟩ := h
  obtain ⟨W3, hW3⟩ : ∃ W3, W.setCell ⟨g, 1, none⟩ (.int .i64 f.stripe) = W3 := ⟨_, rfl⟩
  have o3 : Only (fun k => k = g) W W3 := hW3 ▸ Only.setCell (F := fun k => k = g) (Only.refl _ W) (.inr rfl) _
  have hb3 := block_set h4 (i := 1) (.int .i64 f.stripe)
  rw [hW3] at hb3
  have hsz3 : g + 1 ≤ W3.heap.size := lt_of_block hb3
  have hv3 : OwnVs W3 (g + 1) 69 108 (.slice va x.blocks.length vc) (x.blocks.map bA) := h5.only o3 fun b hb e => by have := (h5.lt b hb).1; omega
  have x3 : Ext w0 W3 := hW3 ▸ Only.setCell (F := fun _ => False) h1 (.inl hg) _
  obtain ⟨v', W4, hap, hown, ho, hx⟩ := hv3.add (tsl := 29) Tryd.underlying29 infoBlk (by show (bA z108).size = 108; rw [bA_size]; simp [z108]) (by omega) (bA f.data) (by rw [bA_size]; exact hf.len) (bA_one _) (by rw [List.length_map]; exact hl) (by omega) hsz3
  obtain ⟨a', c', hv', _⟩ := hown.slice
  have hn : (x.blocks.map bA ++ [bA f.data]).length = x.blocks.length + 1 := by simp
  rw [hn] at hv'
  subst hv'
  have hb4 := ho.at hb3 (fun e => by have := (hv3.lt g e).1; omega)
  refine ⟨va, vc, W3, a', c', W4, (cell_at h4).trans rfl, free_at h4, hW3, o3, (cell_at hb3).trans rfl, hap, (cell_at hb4).trans rfl, free_at hb4, ?_, rfl, ?_, a', c', ?_, ?_⟩
  · exact Only.setCell (F := fun _ => False) (hx w0 (by omega) x3) (.inl hg) _
  · intro b hb
    rcases List.mem_append.1 hb with hb | hb
    · exact h3 b hb
    · rw [List.mem_singleton.1 hb]; exact hf.len
  · have := block_set hb4 (i := 2) (.slice a' (x.blocks.length + 1) c')
    rw [this, ← h2]
    simp [Rcd.V]
  · have o5 : Only (fun k => k = g) W4 (W4.setCell ⟨g, 2, none⟩ (.slice a' (x.blocks.length + 1) c')) := Only.setCell (F := fun k => k = g) (Only.refl _ W4) (.inr rfl) _
    have := hown.only o5 fun b hb e => by have := (hown.lt b hb).1; omega
    simpa using this
/-- What the record that is told is. -/
def JWholePost (w : World) (o : Option Rcd) (e : Ending) (w' : World) : Prop :=
  ∃ a c, e = .returned (.tuple #[.agg ((o.getD Rcd.none_).V a c), .bool o.isSome]) ∧ Ext w w' ∧ BlksAt w' a (o.getD Rcd.none_).blocks ∧ ∀ p, a = some p → w.heap.size ≤ p.block
theorem wholeFrom_nil (seq : Int) (i : Nat) (x : Rcd) : wholeFrom seq i x [] = some x := by unfold wholeFrom; rfl
theorem wholeFrom_none {seq : Int} {i : Nat} {x : Rcd} {fs : List Frm} {l : List (List Frm)} (h : pickF seq i x.stripe fs = none) : wholeFrom seq i x (fs :: l) = none := by unfold wholeFrom; rw [h]
theorem wholeFrom_some {seq : Int} {i : Nat} {x : Rcd} {fs : List Frm} {l : List (List Frm)} {f : Frm} (h : pickF seq i x.stripe fs = some f) : wholeFrom seq i x (fs :: l) = wholeFrom seq (i + 1) ⟨seq, f.stripe, x.blocks ++ [f.data]⟩ l := by
  conv => lhs; unfold wholeFrom
  rw [h]
theorem pickF_drop {seq : Int} {i : Nat} {st : Int} {fs : List Frm} {j : Nat} {f : Frm} (h : fs[j]? = some f) : pickF seq i st (fs.drop j) = if f.gen = seq ∧ (i = 0 ∨ f.stripe = st) then some f else pickF seq i st (fs.drop (j + 1)) := by
  have hlt := (List.getElem?_eq_some_iff.1 h).1
  have e : fs.drop j = f :: fs.drop (j + 1) := by
    rw [List.drop_eq_getElem_cons hlt]
    congr 1
    exact (List.getElem?_eq_some_iff.1 h).2
  rw [e]
  unfold pickF
  rw [List.find?_cons]
  by_cases q : f.gen = seq ∧ (i = 0 ∨ f.stripe = st)
  · rw [if_pos q]
    have : (decide (f.gen = seq) && (decide (i = 0) || decide (f.stripe = st))) = true := by simpa using q
    rw [this]
  · rw [if_neg q]
    have : (decide (f.gen = seq) && (decide (i = 0) || decide (f.stripe = st))) = false := by
      rw [← Bool.not_eq_true]; simpa using q
    rw [this]
theorem agg_rec (x : Rcd) (a : Option Addr) (c : Nat) : AggType Tryd.prog 32 (x.V a c).size := ⟨by kernel_rfl, by kernel_rfl⟩
theorem V_one (x : Rcd) (a : Option Addr) (c : Nat) : ∀ v ∈ (x.V a c).toList, v.oneCell' = true := by
  intro v hv
  unfold Rcd.V at hv
  simp only [List.mem_cons, List.not_mem_nil, or_false] at hv
  rcases hv with rfl | rfl | rfl <;> rfl
theorem zero_rec (w : World) : Sem.run Tryd.prog (zeroValue 32) w = .ok (.agg (Rcd.none_.V none 0)) w := by kernel_rfl
theorem built_rec0 : Tryd.prog.built 32 [] = some (Rcd.none_.V none 0) := by kernel_rfl
theorem built_rec1 (seq : Int) : Tryd.prog.built 32 [(0, .int .i64 seq)] = some ((⟨seq, 0, []⟩ : Rcd).V none 0) := by kernel_rfl
attribute [local irreducible] wpSQ
set_option maxRecDepth 100000 in
set_option maxHeartbeats 2000000 in
theorem jwhole_c (ls : List (List Frm)) (seq : Int) (a : Option Addr) (cp : Nat) (w : World) (hl : LsAt w a ls) (hlen : ls.length ≤ 8) (hcp : ls.length ≤ cp) (hok : ∀ fs ∈ ls, fs.length ≤ 8 ∧ ∀ f ∈ fs, f.Ok) :
    Calls Tryd.prog 31 #[.slice a ls.length cp, .int .i64 seq] w (JWholePost w (whole seq ls)) := by
  have hz := zero_rec
  have hzf := zero_frame
  have HZF := hid (Frm.A_size _ zero_ok)
  have hb0 := built_rec0
  have hb1 := built_rec1 seq
  obtain ⟨W0, hW0⟩ : ∃ W, w.alloc (.cells (Rcd.none_.V none 0) 32) = W := ⟨_, rfl⟩
  have x0 : Ext w W0 := hW0 ▸ (Ext.refl w).alloc _
  have hr0 : W0.heap[w.heap.size]? = some (.cells (Rcd.none_.V none 0) 32 (0, 0)) := hW0 ▸ heap_alloc_new _ _
  have hsz0 : W0.heap.size = w.heap.size + 1 := by rw [← hW0]; simp
  obtain ⟨W1, hW1⟩ : ∃ W, W0.alloc (.cells ((⟨seq, 0, []⟩ : Rcd).V none 0) 32) = W := ⟨_, rfl⟩
  have x1 : Ext W0 W1 := hW1 ▸ (Ext.refl W0).alloc _
  have HST : Hid (WSt W0 W1 (w.heap.size + 1) seq ⟨seq, 0, []⟩) := hid ⟨x1, rfl, by simp, none, 0, by rw [← hsz0]; exact hW1 ▸ heap_alloc_new _ _, OwnVs.nil _ _ _ _⟩
  have hbs : (W0.alloc (.cells (Rcd.none_.V none 0) 32)).heap[W0.heap.size]? = some (.cells (Rcd.none_.V none 0) 32 (0, 0)) := block_alloc
  have HX0 := hid x0
  have HR0 := hid hr0
  have HL := hid (hl.ext x0)
  have HOK := hid hok
  have HW : Hid (whole seq ls = wholeFrom seq 0 ⟨seq, 0, []⟩ (ls.drop 0)) := hid (by rw [List.drop_zero]; rfl)
  have HW1 := hid hW1
  have hlen8 : (ls.length : Int) ≤ 8 := by omega
  clear x0 x1 hr0 hl hok hW1
  go_enter Tryd.func31, Tryd.ntmps31
  go_wp2_with (first
    | (guard_target = wpList _ _ _ ({ dst := none, op := Op.store _ _ _, type := _, pos := _, after := _, guard := none } :: _) _ _; rw [hsz0] at hbs; refine wpList_store_whole rfl 32 _ _ rfl (w.heap.size + 1) rfl ((⟨seq, 0, []⟩ : Rcd).V none 0) _ rfl 32 (agg_rec _ _ _) hbs rfl (V_one _ _ _) ?_; rw [← hsz0, setRow_alloc, HW1.out])
    | (guard_target = wpList _ _ _ ({ dst := some _, op := Op.build _ _, type := _, pos := _, after := _, guard := none } :: _) _ _; refine wpList_build_eq rfl 32 _ rfl ((⟨seq, 0, []⟩ : Rcd).V none 0) ?_ ?_; (simp only [List.map_toArray, List.map_cons, List.map_nil, Act.eval]; simp only [Array.getD_eq_getD_getElem?, List.getElem?_toArray, List.getElem?_cons_succ, List.getElem?_cons_zero, Option.getD_some]; exact hb1)))
  clear hb1 hbs
  go_loopw [16] (fun t wr => ∃ (i : Nat) (x : Rcd), t = .int .i64 i ∧ i ≤ ls.length ∧ WSt W0 wr (w.heap.size + 1) seq x ∧ whole seq ls = wholeFrom seq i x (ls.drop i) ∧ x.blocks.length = i) (fun t _ => ls.length - (intOf t).toNat)
  case atStart => exact ⟨0, _, rfl, by omega, HST.out, HW.out, rfl⟩
  case round =>
    clear HST HW
    obtain ⟨i, x, rfl, hi, hst, hw, hbl⟩ := hrel
    have HBL := hid hbl
    have hbl8 : x.blocks.length ≤ 8 := by omega
    clear hbl
    by_cases hlt : i < ls.length
    · have i0 : (0 : Int) ≤ (i : Int) := by omega
      have i1 : (i : Int) < (ls.length : Int) := by omega
      obtain ⟨fs, hfs⟩ : ∃ fs, ls[i]? = some fs := ⟨ls[i], List.getElem?_eq_getElem hlt⟩
      obtain ⟨g, b, cc, rfl, hcell, hcc, hat⟩ := HL.out i fs hfs
      obtain ⟨hf8, hfok⟩ := HOK.out fs (List.mem_of_getElem? hfs)
      have hdrop : ls.drop i = fs :: ls.drop (i + 1) := by
        rw [List.drop_eq_getElem_cons hlt]
        congr 1
        exact (List.getElem?_eq_some_iff.1 hfs).2
      have HW2 : Hid (whole seq ls = wholeFrom seq i x (fs :: ls.drop (i + 1))) := hid (by rw [hw, hdrop])
      have c1 : wr.cell? ⟨g, i, none⟩ = some (.slice (some ⟨b, 0, none⟩) fs.length cc) := Ext.cell hst.ext hcell
      have HAT := hid hat
      have HFOK := hid hfok
      have HST := hid hst
      have hfl8 : (fs.length : Int) ≤ 8 := by omega
      have HG := hid (show W0.heap.size ≤ w.heap.size + 1 from by omega)
      clear hw hst hcell hat hfok hdrop hfs
      go_wp2
      clear c1
      go_loopw [23, 9] (fun t v wq => ∃ (j : Nat), t = .int .i64 j ∧ j ≤ fs.length ∧ ((v = .bool false ∧ WSt W0 wq (w.heap.size + 1) seq x ∧ pickF seq i x.stripe fs = pickF seq i x.stripe (fs.drop j)) ∨ (v = .bool true ∧ ∃ f, pickF seq i x.stripe fs = some f ∧ WSt W0 wq (w.heap.size + 1) seq ⟨seq, f.stripe, x.blocks ++ [f.data]⟩))) (fun t _ _ => fs.length - (intOf t).toNat)
      case atStart => exact ⟨0, rfl, by omega, .inl ⟨rfl, HST.out, by rw [List.drop_zero]⟩⟩
      case round =>
        clear HST
        obtain ⟨j, rfl, hj, hor⟩ := hrel
        by_cases hjt : j < fs.length
        · have j0 : (0 : Int) ≤ (j : Int) := by omega
          have j1 : (j : Int) < (fs.length : Int) := by omega
          obtain ⟨f, hfj⟩ : ∃ f, fs[j]? = some f := ⟨fs[j], List.getElem?_eq_getElem hjt⟩
          have hfo := HFOK.out f (List.mem_of_getElem? hfj)
          have HFS := hid (Frm.A_size f hfo)
          have HFO := hid hfo
          have HPD := hid (fun st => pickF_drop (seq := seq) (i := i) (st := st) hfj)
          have hxq : Ext W0 wr := by
            rcases hor with ⟨_, h, _⟩ | ⟨_, _, _, h⟩
            · exact h.ext
            · exact h.ext
          have HFA : Hid (∀ q v, (Frm.A f).toList[q]? = some v → wr.cell? ((⟨b, j * 112, none⟩ : Addr).add q) = some v) := hid (fun q v hv => by
            have := HAT.out j (Frm.A f) (by rw [List.getElem?_map, hfj]; rfl) q v hv
            have e : (⟨b, j * 112, none⟩ : Addr).add q = ⟨b, j * 112 + q, none⟩ := by unfold Addr.add; split <;> simp_all
            rw [e]; exact Ext.cell hxq this)
          have hbf : (wr.alloc (.cells (Frm.A Frm.zero) 78)).heap[wr.heap.size]? = some (.cells (Frm.A Frm.zero) 78 (0, 0)) := block_alloc
          obtain ⟨W2, hW2⟩ : ∃ W, wr.alloc (.cells (Frm.A f) 78) = W := ⟨_, rfl⟩
          have x2 : Ext wr W2 := hW2 ▸ (Ext.refl wr).alloc _
          have hb2 : W2.heap[wr.heap.size]? = some (.cells (Frm.A f) 78 (0, 0)) := hW2 ▸ heap_alloc_new _ _
          have HX2 := hid x2
          have HB2 := hid hb2
          have HW2' := hid hW2
          clear hfo hfj hxq x2 hb2 hW2
          rcases hor with ⟨rfl, hst, hpk⟩ | ⟨rfl, f0, hpk, hst⟩
          · have c3 : W2.cell? ⟨wr.heap.size, 3, none⟩ = some (.int .i64 f.gen) := (cell_at HB2.out).trans (Frm.A3 f)
            have c2 : W2.cell? ⟨wr.heap.size, 2, none⟩ = some (.int .i64 f.stripe) := (cell_at HB2.out).trans (Frm.A2 f)
            have cg : W2.cell? ⟨w.heap.size + 1, 1, none⟩ = some (.int .i64 x.stripe) := by
              obtain ⟨_, _, _, ya, yc, h4, _⟩ := hst.more HX2.out
              exact (cell_at h4).trans rfl
            have HLT := hid (hst.lt)
            by_cases q1 : f.gen = seq
            case neg =>
              have ab : (f.gen != seq) = true := by simpa using q1
              have hpd := HPD.out x.stripe
              rw [if_neg (fun z => q1 z.1)] at hpd
              have HP := hid (hpk.trans hpd)
              have HS2 := hid (hst.more HX2.out)
              clear hpk hpd hst q1
              go_wp2_with (first
                | (guard_target = wpList _ _ _ ({ dst := some _, op := Op.load _ _, type := _, pos := _, after := _, guard := none } :: _) _ _; refine wpList_load_agg rfl 78 _ rfl ⟨b, j * 112, none⟩ rfl (Frm.A f) (by rw [HFS.out]; exact aggFrame) HFA.out ?_)
                | (guard_target = wpList _ _ _ ({ dst := none, op := Op.store _ _ _, type := _, pos := _, after := _, guard := none } :: _) _ _; refine wpList_store_whole rfl 78 _ _ rfl wr.heap.size rfl (Frm.A f) _ rfl 78 ?_ hbf ?_ ?_ ?_; (rw [HFS.out]; exact aggFrame); (rw [HFS.out, HZF.out]); exact Frm.A_one _; rw [setRow_alloc, HW2'.out]))
              go_roundw
              case rel => exact ⟨j + 1, by go_num, by omega, .inl ⟨rfl, HS2.out, HP.out⟩⟩
              case measure => simp [intOf]; omega
            have ab : (f.gen != seq) = false := by simpa using q1
            by_cases q0 : i = 0
            case pos =>
              have hpd := HPD.out x.stripe
              rw [if_pos ⟨q1, .inl q0⟩] at hpd
              have iz : ¬ (0 : Int) < (i : Int) := by omega
              clear q1 q0
              have hpk2 : pickF seq i x.stripe fs = some f := hpk.trans hpd
              have HPK := hid hpk2
              have HS2 := hid (hst.more HX2.out)
              have HBLN := hid (show x.blocks.length < 1000 by omega)
              clear hst hpk hpk2 hpd HPD
              go_wp2_with (first
                | (guard_target = wpList _ _ _ ({ dst := some _, op := Op.load _ _, type := _, pos := _, after := _, guard := none } :: _) _ _; refine wpList_load_agg rfl 78 _ rfl ⟨b, j * 112, none⟩ rfl (Frm.A f) (by rw [HFS.out]; exact aggFrame) HFA.out ?_)
                | (guard_target = wpList _ _ _ ({ dst := none, op := Op.store _ _ _, type := _, pos := _, after := _, guard := none } :: _) _ _; refine wpList_store_whole rfl 78 _ _ rfl wr.heap.size rfl (Frm.A f) _ rfl 78 ?_ hbf ?_ ?_ ?_; (rw [HFS.out]; exact aggFrame); (rw [HFS.out, HZF.out]); exact Frm.A_one _; rw [setRow_alloc, HW2'.out]))
              refine wp_region_rely_tail (S := Ext) 3 (.fin [0, 1, 2]) (by kernel_rfl) (by kernel_rfl) (fun _ _ d _ _ h => by cases d <;> exact h) ?_
              have xd : Ext W2 W2.drew := (Ext.refl W2).drew
              have c0 : ∀ y : SW Ext W2.drew, y.w.cell? ⟨wr.heap.size, 2, none⟩ = some (.int .i64 f.stripe) := fun y => (cell_at ((Ext.trans xd y.ext).at HB2.out)).trans (Frm.A2 f)
              rw [wpS]
              simp only [opsAt, List.map_cons, List.map_nil, Array.getD_eq_getD_getElem?, List.getElem?_toArray, List.getElem?_cons_succ, List.getElem?_cons_zero, Option.getD_some]
              iterate 3 ((refine wpSQ_step (fun K hK => ?_); go_simp; first | (refine hK _ ?_; clear hK K) | (apply Exists.intro; refine ⟨fun x => ?_, hK _ ?_⟩; (fail); clear hK K)))
              refine wpSQ_nil ?_
              intro W hW
              have HXW := hid (Ext.trans xd hW)
              clear c0 hW c3 c2 cg
              obtain ⟨va, vc, W3, a', c', W4, q1, q2, q3, q4, q5, q6, q7, q8, q9⟩ := (HS2.out.more HXW.out).take HG.out f HFO.out HBLN.out
              have hb4 : W3.heap[wr.heap.size]? = some (.cells (Frm.A f) 78 (0, 0)) := q4.at (HXW.out.at HB2.out) (fun e => by have := HLT.out; omega)
              have HDA : Hid (∀ q v, (bA f.data).toList[q]? = some v → W3.cell? ((⟨wr.heap.size, 4, none⟩ : Addr).add q) = some v) := hid (fun q v hv => by
                have e : (⟨wr.heap.size, 4, none⟩ : Addr).add q = ⟨wr.heap.size, 4 + q, none⟩ := by unfold Addr.add; split <;> simp_all
                rw [e, cell_at hb4]
                have hq : q < 108 := by
                  rcases Nat.lt_or_ge q 108 with h | h
                  · exact h
                  · rw [List.getElem?_eq_none (by rw [Array.length_toList, bA_size, HFO.out.len]; exact h)] at hv; cases hv
                have h1 := bA_get f.data q (by rw [HFO.out.len]; exact hq)
                rw [Array.getElem?_toList] at hv
                rw [h1] at hv
                rw [← hv]
                exact Frm.A4 f q (by rw [HFO.out.len]; exact hq))
              have HDS := hid (show (bA f.data).size = 108 by rw [bA_size]; exact HFO.out.len)
              have HQ9 := hid q9
              clear q4 q9 hb4
              go_wp2_with (first
                | (guard_target = wpList _ _ _ ({ dst := some _, op := Op.load _ _, type := _, pos := _, after := _, guard := none } :: _) _ _; refine wpList_load_agg rfl 68 _ rfl ⟨wr.heap.size, 4, none⟩ rfl (bA f.data) (by rw [HDS.out]; exact aggData) HDA.out ?_)
                | (guard_target = wpList _ _ _ ({ dst := some _, op := Op.buildSlice _ _ _, type := _, pos := _, after := _, guard := none } :: _) _ _; refine wpList_buildSlice_one rfl 29 69 _ rfl (bA f.data) _ _ 108 108 Tryd.underlying29 infoBlk (by omega) (by omega) rfl rfl HDS.out ?_)
                | (at_builtin; refine wpList_append_run rfl _ _ _ rfl _ _ _ _ rfl rfl q6 ?_))
              go_roundw
              case rel => exact ⟨j + 1, by go_num, by omega, .inr ⟨rfl, f, HPK.out, HQ9.out⟩⟩
              case measure => simp [intOf]; omega
            have iz : (0 : Int) < (i : Int) := by omega
            by_cases q2 : f.stripe = x.stripe
            case pos =>
              have hpd := HPD.out x.stripe
              rw [if_pos ⟨q1, .inr q2⟩] at hpd
              have ac : (f.stripe != x.stripe) = false := by simpa using q2
              clear q1 q2
              have hpk2 : pickF seq i x.stripe fs = some f := hpk.trans hpd
              have HPK := hid hpk2
              have HS2 := hid (hst.more HX2.out)
              have HBLN := hid (show x.blocks.length < 1000 by omega)
              clear hst hpk hpk2 hpd HPD
              go_wp2_with (first
                | (guard_target = wpList _ _ _ ({ dst := some _, op := Op.load _ _, type := _, pos := _, after := _, guard := none } :: _) _ _; refine wpList_load_agg rfl 78 _ rfl ⟨b, j * 112, none⟩ rfl (Frm.A f) (by rw [HFS.out]; exact aggFrame) HFA.out ?_)
                | (guard_target = wpList _ _ _ ({ dst := none, op := Op.store _ _ _, type := _, pos := _, after := _, guard := none } :: _) _ _; refine wpList_store_whole rfl 78 _ _ rfl wr.heap.size rfl (Frm.A f) _ rfl 78 ?_ hbf ?_ ?_ ?_; (rw [HFS.out]; exact aggFrame); (rw [HFS.out, HZF.out]); exact Frm.A_one _; rw [setRow_alloc, HW2'.out]))
              refine wp_region_rely_tail (S := Ext) 3 (.fin [0, 1, 2]) (by kernel_rfl) (by kernel_rfl) (fun _ _ d _ _ h => by cases d <;> exact h) ?_
              have xd : Ext W2 W2.drew := (Ext.refl W2).drew
              have c0 : ∀ y : SW Ext W2.drew, y.w.cell? ⟨wr.heap.size, 2, none⟩ = some (.int .i64 f.stripe) := fun y => (cell_at ((Ext.trans xd y.ext).at HB2.out)).trans (Frm.A2 f)
              rw [wpS]
              simp only [opsAt, List.map_cons, List.map_nil, Array.getD_eq_getD_getElem?, List.getElem?_toArray, List.getElem?_cons_succ, List.getElem?_cons_zero, Option.getD_some]
              iterate 3 ((refine wpSQ_step (fun K hK => ?_); go_simp; first | (refine hK _ ?_; clear hK K) | (apply Exists.intro; refine ⟨fun x => ?_, hK _ ?_⟩; (fail); clear hK K)))
              refine wpSQ_nil ?_
              intro W hW
              have HXW := hid (Ext.trans xd hW)
              clear c0 hW c3 c2 cg
              obtain ⟨va, vc, W3, a', c', W4, q1, q2, q3, q4, q5, q6, q7, q8, q9⟩ := (HS2.out.more HXW.out).take HG.out f HFO.out HBLN.out
              have hb4 : W3.heap[wr.heap.size]? = some (.cells (Frm.A f) 78 (0, 0)) := q4.at (HXW.out.at HB2.out) (fun e => by have := HLT.out; omega)
              have HDA : Hid (∀ q v, (bA f.data).toList[q]? = some v → W3.cell? ((⟨wr.heap.size, 4, none⟩ : Addr).add q) = some v) := hid (fun q v hv => by
                have e : (⟨wr.heap.size, 4, none⟩ : Addr).add q = ⟨wr.heap.size, 4 + q, none⟩ := by unfold Addr.add; split <;> simp_all
                rw [e, cell_at hb4]
                have hq : q < 108 := by
                  rcases Nat.lt_or_ge q 108 with h | h
                  · exact h
                  · rw [List.getElem?_eq_none (by rw [Array.length_toList, bA_size, HFO.out.len]; exact h)] at hv; cases hv
                have h1 := bA_get f.data q (by rw [HFO.out.len]; exact hq)
                rw [Array.getElem?_toList] at hv
                rw [h1] at hv
                rw [← hv]
                exact Frm.A4 f q (by rw [HFO.out.len]; exact hq))
              have HDS := hid (show (bA f.data).size = 108 by rw [bA_size]; exact HFO.out.len)
              have HQ9 := hid q9
              clear q4 q9 hb4
              go_wp2_with (first
                | (guard_target = wpList _ _ _ ({ dst := some _, op := Op.load _ _, type := _, pos := _, after := _, guard := none } :: _) _ _; refine wpList_load_agg rfl 68 _ rfl ⟨wr.heap.size, 4, none⟩ rfl (bA f.data) (by rw [HDS.out]; exact aggData) HDA.out ?_)
                | (guard_target = wpList _ _ _ ({ dst := some _, op := Op.buildSlice _ _ _, type := _, pos := _, after := _, guard := none } :: _) _ _; refine wpList_buildSlice_one rfl 29 69 _ rfl (bA f.data) _ _ 108 108 Tryd.underlying29 infoBlk (by omega) (by omega) rfl rfl HDS.out ?_)
                | (at_builtin; refine wpList_append_run rfl _ _ _ rfl _ _ _ _ rfl rfl q6 ?_))
              go_roundw
              case rel => exact ⟨j + 1, by go_num, by omega, .inr ⟨rfl, f, HPK.out, HQ9.out⟩⟩
              case measure => simp [intOf]; omega
            have ac : (f.stripe != x.stripe) = true := by simpa using q2
            have hpd := HPD.out x.stripe
            rw [if_neg (fun z => by rcases z.2 with h | h; exact q0 h; exact q2 h)] at hpd
            have HP := hid (hpk.trans hpd)
            have HS2 := hid (hst.more HX2.out)
            clear hpk hpd hst q1 q2
            go_wp2_with (first
              | (guard_target = wpList _ _ _ ({ dst := some _, op := Op.load _ _, type := _, pos := _, after := _, guard := none } :: _) _ _; refine wpList_load_agg rfl 78 _ rfl ⟨b, j * 112, none⟩ rfl (Frm.A f) (by rw [HFS.out]; exact aggFrame) HFA.out ?_)
              | (guard_target = wpList _ _ _ ({ dst := none, op := Op.store _ _ _, type := _, pos := _, after := _, guard := none } :: _) _ _; refine wpList_store_whole rfl 78 _ _ rfl wr.heap.size rfl (Frm.A f) _ rfl 78 ?_ hbf ?_ ?_ ?_; (rw [HFS.out]; exact aggFrame); (rw [HFS.out, HZF.out]); exact Frm.A_one _; rw [setRow_alloc, HW2'.out]))
            go_roundw
            case rel => exact ⟨j + 1, by go_num, by omega, .inl ⟨rfl, HS2.out, HP.out⟩⟩
            case measure => simp [intOf]; omega
          · have HP := hid hpk
            have HS2 := hid (hst.more HX2.out)
            clear hpk hst HPD
            go_wp2_with (first
              | (guard_target = wpList _ _ _ ({ dst := some _, op := Op.load _ _, type := _, pos := _, after := _, guard := none } :: _) _ _; refine wpList_load_agg rfl 78 _ rfl ⟨b, j * 112, none⟩ rfl (Frm.A f) (by rw [HFS.out]; exact aggFrame) HFA.out ?_)
              | (guard_target = wpList _ _ _ ({ dst := none, op := Op.store _ _ _, type := _, pos := _, after := _, guard := none } :: _) _ _; refine wpList_store_whole rfl 78 _ _ rfl wr.heap.size rfl (Frm.A f) _ rfl 78 ?_ hbf ?_ ?_ ?_; (rw [HFS.out]; exact aggFrame); (rw [HFS.out, HZF.out]); exact Frm.A_one _; rw [setRow_alloc, HW2'.out]))
            go_roundw
            case rel => exact ⟨j + 1, by go_num, by omega, .inr ⟨rfl, f0, HP.out, HS2.out⟩⟩
            case measure => simp [intOf]; omega
        · obtain rfl : fs.length = j := by omega
          rcases hor with ⟨rfl, hst, hpk⟩ | ⟨rfl, f0, hpk, hst⟩
          · have hno : whole seq ls = none := by
              rw [HW2.out]
              refine wholeFrom_none ?_
              rw [hpk, List.drop_length]; rfl
            have HNO := hid hno
            have HR := hid (Ext.at hst.ext HR0.out)
            have HX := hid (Ext.trans HX0.out hst.ext)
            clear hpk hst hno
            go_wp2_with (first
              | (guard_target = wpList _ _ _ ({ dst := none, op := Op.store _ _ _, type := _, pos := _, after := _, guard := none } :: _) _ _; refine wpList_store_whole rfl 32 _ _ rfl w.heap.size rfl (Rcd.none_.V none 0) _ rfl 32 (agg_rec _ _ _) HR.out rfl (V_one _ _ _) ?_)
              | (guard_target = wpList _ _ _ ({ dst := some _, op := Op.build _ _, type := _, pos := _, after := _, guard := none } :: _) _ _; refine wpList_build_eq rfl 32 _ rfl (Rcd.none_.V none 0) ?_ ?_; exact hb0))
            refine bodyPost_ret (run_results_agg Tryd.results31 rfl (agg_rec _ _ _) (setRow_heap _ _ _ _ _ _ HR.out)) rfl ?_
            exact ⟨none, 0, by rw [HNO.out]; rfl, Ext.then HX.out (only_setRow _ _ _) (fun i hi => by omega), by rw [HNO.out]; intro i b hb; simp [Rcd.none_] at hb, by intro p hp; cases hp⟩
          · have HW3 : Hid (whole seq ls = wholeFrom seq (i + 1) ⟨seq, f0.stripe, x.blocks ++ [f0.data]⟩ (ls.drop (i + 1))) := hid (by rw [HW2.out]; exact wholeFrom_some hpk)
            have HST := hid hst
            clear hpk hst
            go_wp2
            go_roundw
            case rel => exact ⟨i + 1, _, by go_num, by omega, HST.out, HW3.out, by simp [HBL.out]⟩
            case measure => simp [intOf]; omega
    · obtain rfl : ls.length = i := by omega
      have hyes : whole seq ls = some x := by rw [hw, List.drop_length, wholeFrom_nil]
      have HY := hid hyes
      have HR := hid (Ext.at hst.ext HR0.out)
      have HX := hid (Ext.trans HX0.out hst.ext)
      obtain ⟨_, _, hbo, ya, yc, h4, h5⟩ := hst
      have H4 := hid h4
      have H5 := hid h5
      have HBO := hid hbo
      clear hw hyes h4 h5 hbo
      go_wp2_with (first
        | (guard_target = wpList _ _ _ ({ dst := some _, op := Op.load _ _, type := _, pos := _, after := _, guard := none } :: _) _ _; refine wpList_load_agg rfl 32 _ rfl ⟨w.heap.size + 1, 0, none⟩ rfl (x.V ya yc) (agg_rec _ _ _) (agg_cells H4.out) ?_)
        | (guard_target = wpList _ _ _ ({ dst := none, op := Op.store _ _ _, type := _, pos := _, after := _, guard := none } :: _) _ _; refine wpList_store_whole rfl 32 _ _ rfl w.heap.size rfl (x.V ya yc) _ rfl 32 (agg_rec _ _ _) HR.out rfl (V_one _ _ _) ?_))
      refine bodyPost_ret (run_results_agg Tryd.results31 rfl (agg_rec _ _ _) (setRow_heap _ _ _ _ _ _ HR.out)) rfl ?_
      have e1 : Only (fun k => k = w.heap.size) wr (wr.setRow w.heap.size (x.V ya yc)) := only_setRow _ _ _
      obtain ⟨a2, c2, e2, h⟩ := (H5.out.only e1 (fun b hb e => by have := (H5.out.lt b hb).1; omega)).slice
      simp only [List.length_map] at e2
      cases e2
      refine ⟨ya, yc, by rw [HY.out]; rfl, Ext.then HX.out (only_setRow _ _ _) (fun i hi => by omega), ?_, ?_⟩
      · rw [HY.out]
        rcases h with ⟨h0, rfl⟩ | ⟨g2, rfl, _, _, _, hv⟩
        · have : x.blocks = [] := by simpa using h0
          intro i b hb
          simp [this] at hb
        · exact BlksAt.of_vs HBO.out hv
      · intro p hp
        rcases h with ⟨h0, rfl⟩ | ⟨g2, rfl, hg2, _⟩
        · cases hp
        · cases hp; show w.heap.size ≤ g2; omega
end Go.Proofs.YtmjembnciffgfaaDoor

/- journal.Slot: what a slot tells. -/
namespace Go
theorem wpList_max_int {P : Program} {ops : Array Oper} {rest : List Oper} {o : Oper} {a : Act} {w : World} {Q : Exit → Act → World → Prop} (hgd : o.guard = none) (x y : Operand) (t : TypeId)
    (ho : o.op = .call { callee := .builtin .max, args := #[x, y], argTypes := #[t, t] }) (m n : Int) (hx : a.eval x = .int .i64 m) (hy : a.eval y = .int .i64 n)
    (h : wpList P ops Q rest (a.put o.dst (.int .i64 (max m n))) w) : wpList P ops Q (o :: rest) a w :=
  wpList_plain hgd fun _ hK => by
    have e : (if n > m then n else m) = max m n := by split <;> omega
    have hr : (Builtin.max_ #[t, t] o.type #[.int .i64 m, .int .i64 n]).run P w = .ok (.int .i64 (max m n)) w := by
      rw [← e]
      simp [Builtin.max_, Builtin.max2]
    unfold Oper.wp
    simp [execOp, ho, resolve, invoke, builtin, hx, hy, hr, Result.andThen]
    exact hK _ _ h
theorem run_results_agg4 {P : Program} {fn : Func} {p u v x : Tmp} {ty t : TypeId} {g : Nat} {A : Array Value} {tmps : Array Value} {w : World} (h : fn.results = #[.cell p ty, .tmp u, .tmp v, .tmp x]) (hp : tmps.getD p undef = .pointer (some ⟨g, 0, none⟩))
    (ht : AggType P ty A.size) (hg : w.heap[g]? = some (.cells A t (0, 0))) : (results fn tmps).run P w = .ok (.tuple #[.agg A, tmps.getD u undef, tmps.getD v undef, tmps.getD x undef]) w := by
  have hl := run_loadVar_agg (P := P) w ty ⟨g, 0, none⟩ A ht (fun j v hv => by
    have e : (⟨g, 0, none⟩ : Addr).add j = ⟨g, j, none⟩ := by unfold Addr.add; split <;> simp_all
    rw [e]; simp only [World.cell?, hg]
    simpa using hv)
  have hp' : tmps[p]?.getD undef = .pointer (some ⟨g, 0, none⟩) := by rw [← Array.getD_eq_getD_getElem?]; exact hp
  simp only [results, h]
  simp [Sem.run_bind, Result.andThen, hp', asAddr, hl]
end Go
namespace Go.Proofs.YtmjembnciffgfaaDoor
set_option linter.unusedVariables false
open Go Go.RowKit
theorem infoFrs : (Tryd.prog.info? 75).map (fun i => (i.zero, i.size, i.bytes)) = some (some (.slice none 0 0), 1, 24) := by kernel_rfl
theorem OwnVs.apart {w : World} {B1 B2 sz1 sz2 : Nat} {t1 t2 : TypeId} {v1 v2 : Value} {l1 l2 : List (Array Value)} (h1 : OwnVs w B1 t1 sz1 v1 l1) (h2 : OwnVs w B2 t2 sz2 v2 l2) (hn : t1 ≠ t2) {b : Nat} (e1 : v1.ownBlock = some b) : v2.ownBlock ≠ some b := by
  intro e2
  rcases h1.own.2 with ⟨q, _⟩ | ⟨g, c, cur, q1, _, q3, _⟩
  · rw [q] at e1; cases e1
  · rcases h2.own.2 with ⟨q, _⟩ | ⟨g2, c2, cur2, p1, _, p3, _⟩
    · rw [q] at e2; cases e2
    · rw [q1] at e1; rw [p1] at e2
      cases e1; cases e2
      rw [q3] at p3
      injection p3 with p3
      injection p3 with _ p4 _
      exact hn p4
/-- Lists of frames of the call's own, as their slices. -/
def FrsAt (w : World) (hs : List (Array Value)) (ls : List (List Frm)) : Prop := hs.length = ls.length ∧ ∀ (i : Nat) (fs : List Frm), ls[i]? = some fs → ∃ b c, hs[i]? = some #[Value.slice (some ⟨b, 0, none⟩) fs.length c] ∧ fs.length ≤ c ∧ OwnVs w 0 78 112 (.slice (some ⟨b, 0, none⟩) fs.length c) (fs.map Frm.A)
theorem FrsAt.nil (w : World) : FrsAt w [] [] := ⟨rfl, fun i fs h => by simp at h⟩
theorem FrsAt.only {F : Nat → Prop} {w w' : World} {hs : List (Array Value)} {ls : List (List Frm)} (h : FrsAt w hs ls) (e : Only F w w') (hn : ∀ v b, OwnVs w 0 78 112 v [] ∨ (∃ l, OwnVs w 0 78 112 v l) → v.ownBlock = some b → ¬ F b) : FrsAt w' hs ls := ⟨h.1, fun i fs hi => by
  obtain ⟨b, c, h1, h2, h3⟩ := h.2 i fs hi
  exact ⟨b, c, h1, h2, h3.only e fun b' hb => hn _ b' (.inr ⟨_, h3⟩) hb⟩⟩
theorem FrsAt.ext {w w' : World} {hs : List (Array Value)} {ls : List (List Frm)} (h : FrsAt w hs ls) (e : Ext w w') : FrsAt w' hs ls := h.only e fun _ _ _ _ x => x
theorem FrsAt.snoc {w : World} {hs : List (Array Value)} {ls : List (List Frm)} (h : FrsAt w hs ls) {b c : Nat} {fs : List Frm} (hc : fs.length ≤ c) (h3 : OwnVs w 0 78 112 (.slice (some ⟨b, 0, none⟩) fs.length c) (fs.map Frm.A)) : FrsAt w (hs ++ [#[Value.slice (some ⟨b, 0, none⟩) fs.length c]]) (ls ++ [fs]) := by
  refine ⟨by simp [h.1], fun i gs hi => ?_⟩
  rcases Nat.lt_or_ge i ls.length with hlt | hge
  · rw [List.getElem?_append_left hlt] at hi
    obtain ⟨b', c', q1, q2, q3⟩ := h.2 i gs hi
    exact ⟨b', c', by rw [List.getElem?_append_left (by rw [h.1]; exact hlt)]; exact q1, q2, q3⟩
  · rw [List.getElem?_append_right hge] at hi
    obtain ⟨e, rfl⟩ : i - ls.length = 0 ∧ gs = fs := by
      rcases hd : i - ls.length with _ | k
      · rw [hd] at hi; simp at hi; exact ⟨rfl, hi.symm⟩
      · rw [hd] at hi; simp at hi
    exact ⟨b, c, by rw [List.getElem?_append_right (by rw [h.1]; exact hge), h.1, e]; rfl, hc, h3⟩
theorem LsAt.of_frs {w : World} {g : Nat} {hs : List (Array Value)} {ls : List (List Frm)} (hv : VsAt w g 1 hs) (h : FrsAt w hs ls) : LsAt w (some ⟨g, 0, none⟩) ls := fun i fs hi => by
  obtain ⟨b, c, q1, q2, q3⟩ := h.2 i fs hi
  obtain ⟨a2, c2, e2, h2⟩ := q3.slice
  simp only [List.length_map] at e2
  refine ⟨g, b, c, rfl, ?_, q2, ?_⟩
  · have := hv i _ q1 0 _ rfl
    simpa using this
  · cases e2
    rcases h2 with ⟨_, e⟩ | ⟨g2, e, _, _, _, hvs⟩
    · cases e
    · cases e; exact hvs
def JSlotPost (w : World) (q : Rcd × Bool × Int × Option Err) (e : Ending) (w' : World) : Prop :=
  ∃ a c, e = .returned (.tuple #[.agg (q.1.V a c), .bool q.2.1, .int .i64 q.2.2.1, oErr q.2.2.2]) ∧ Ext w w' ∧ BlksAt w' a q.1.blocks ∧ ∀ p, a = some p → w.heap.size ≤ p.block
theorem newestF_take {m : Int} {fs : List Frm} {j : Nat} {f : Frm} (h : fs[j]? = some f) : newestF m (fs.take (j + 1)) = max (newestF m (fs.take j)) f.gen := by
  unfold newestF
  rw [List.take_add_one, h, Option.toList_some, List.foldl_append]; rfl
theorem Rck.jall_take (R : Rck) (c : Cfg) (slot : Int) {i : Nat} (h : i < c.k.toNat) : (R.jall c slot).take (i + 1) = (R.jall c slot).take i ++ [R.jgoods c slot i] := by
  rw [List.take_add_one, Rck.jall_at h]; rfl
theorem built_loss (slot : Int) : Tryd.prog.built 40 [(0, .int .i64 slot), (2, .int .i64 1)] = some #[.int .i64 slot, .int .i64 0, .int .i64 1] := by kernel_rfl
end Go.Proofs.YtmjembnciffgfaaDoor

/- journal.Slot: what a slot tells. -/
namespace Go.Proofs.YtmjembnciffgfaaDoor
set_option linter.unusedVariables false
open Go Go.RowKit
set_option maxRecDepth 100000 in
set_option maxHeartbeats 4000000 in
theorem jslot_c {S : Nat → Prop} {w : World} {r : Nat} {R : Rck} (h : RackAt S w r R) (c : Cfg) (slot : Int) :
    Calls Tryd.prog 13 #[.pointer (some ⟨r, 0, none⟩), .agg (Cfg.A c), .int .i64 slot] w (JSlotPost w (R.jslot c slot)) := by
  have hz := zero_rec
  have hzf := zero_frame
  have HZF := hid (Frm.A_size _ zero_ok)
  have hb0 := built_rec0
  have HBL := hid (built_loss slot)
  obtain ⟨W0, hW0⟩ : ∃ W, w.alloc (.cells (Cfg.A c) 23) = W := ⟨_, rfl⟩
  have x0 : Ext w W0 := hW0 ▸ (Ext.refl w).alloc _
  have hc0 : W0.heap[w.heap.size]? = some (.cells (Cfg.A c) 23 (0, 0)) := hW0 ▸ heap_alloc_new _ _
  have hsz0 : W0.heap.size = w.heap.size + 1 := by rw [← hW0]; simp
  obtain ⟨W1, hW1⟩ : ∃ W, W0.alloc (.cells (Rcd.none_.V none 0) 32) = W := ⟨_, rfl⟩
  have x1 : Ext W0 W1 := hW1 ▸ (Ext.refl W0).alloc _
  have hr1 : W1.heap[w.heap.size + 1]? = some (.cells (Rcd.none_.V none 0) 32 (0, 0)) := by rw [← hsz0]; exact hW1 ▸ heap_alloc_new _ _
  have HX1 := hid (Ext.trans x0 x1)
  have HC1 := hid (Ext.at x1 hc0)
  have HD1 := hid hr1
  have H1 := hid (h.ext HX1.out)
  have HKN := hid (fun hk : R.jknown c slot = true => (show c.Good ∧ 0 ≤ slot ∧ slot < c.slots from by
    unfold Rck.jknown at hk
    simp only [Bool.and_eq_true, decide_eq_true_eq] at hk
    have hf := hk.1.1
    unfold Rck.fits at hf
    simp only [Bool.and_eq_true, decide_eq_true_eq] at hf
    exact ⟨(Cfg.right_iff c).1 hf.1.1, hk.1.2, hk.2⟩))
  clear x0 x1 hc0 hr1 h
  go_enter Tryd.func13, Tryd.ntmps13
  go_wp2_with (guard_target = wpList _ _ _ ({ dst := some _, op := Op.load _ _, type := _, pos := _, after := _, guard := none } :: _) _ _; refine wpList_load_agg rfl 23 _ rfl ⟨w.heap.size, 0, none⟩ rfl (Cfg.A c) (cfg_agg c) (agg_cells HC1.out) ?_)
  refine (jknown_c H1.out c slot).mono ?_
  rintro e w2 ⟨rfl, x2⟩
  have HX2 := hid (Ext.trans HX1.out x2)
  have HC2 := hid (Ext.at x2 HC1.out)
  have HD2 := hid (Ext.at x2 HD1.out)
  have H2 := hid (H1.out.ext x2)
  clear x2
  rcases hk : R.jknown c slot with _ | _
  · have HV : Hid (R.jslot c slot = (Rcd.none_, false, 0, some (.fault sJSlot slot (.no 1)))) := hid (by unfold Rck.jslot; rw [hk]; rfl)
    have HW := hid (wrap_err sJSlot slot (.no 1) w2)
    simp only [Err.val] at HW
    clear hk HKN
    go_wp2_with (guard_target = wpList _ _ _ ({ dst := some _, op := Op.build _ _, type := _, pos := _, after := _, guard := none } :: _) _ _; refine wpList_build_eq rfl 32 _ rfl (Rcd.none_.V none 0) ?_ ?_; exact hb0)
    refine HW.out.mono ?_
    rintro e w3 ⟨rfl, rfl⟩
    go_wp2_with (guard_target = wpList _ _ _ ({ dst := none, op := Op.store _ _ _, type := _, pos := _, after := _, guard := none } :: _) _ _; refine wpList_store_whole rfl 32 _ _ rfl (w.heap.size + 1) rfl (Rcd.none_.V none 0) _ rfl 32 (agg_rec _ _ _) HD2.out rfl (V_one _ _ _) ?_)
    refine bodyPost_ret (run_results_agg4 Tryd.results13 rfl (agg_rec _ _ _) (setRow_heap _ _ _ _ _ _ HD2.out)) rfl ?_
    exact ⟨none, 0, by rw [HV.out]; rfl, Ext.then HX2.out (only_setRow _ _ _) (fun i hi => by omega), by rw [HV.out]; intro i b hb; simp [Rcd.none_] at hb, by intro p hp; cases hp⟩
  · obtain ⟨g1, g2, g3⟩ := HKN.out hk
    obtain ⟨k, hkk⟩ : ∃ k : Nat, c.k = k := ⟨c.k.toNat, by have := g1.k0; omega⟩
    have hkt : c.k.toNat = k := by omega
    have hk8 : k ≤ 8 := by have := g1.k1; have := g1.n1; omega
    have hk1 : 1 ≤ k := by have := g1.k0; omega
    have hn8 : c.n.toNat ≤ 8 := by have := g1.n1; omega
    have HK := hid hk
    have HG := hid (fun (i : Nat) (hi : i < 8) (wr : World) (hx : Ext w2 wr) => jgoods_c (H2.out.ext hx) c g1 slot g2 g3 i hi)
    have HOK := hid (fun (i : Nat) => (H2.out.jgoods_ok (c := c) (slot := slot) (i := i)))
    have HLEN := hid (fun (i : Nat) => (show (R.jgoods c slot i).length ≤ 8 from by
      have := R.jgoodsTo_len c slot i c.n.toNat
      have e : R.jgoodsTo c slot i c.n.toNat = R.jgoods c slot i := rfl
      rw [e] at this; omega))
    have HKT := hid hkt
    have HSZ := hid (show w.heap.size + 1 < w2.heap.size from lt_of_block HD2.out)
    have c1 : w2.cell? ⟨w.heap.size, 1, none⟩ = some (.int .i64 k) := (cell_at HC2.out).trans (by rw [← hkk]; exact Cfg.A1 c)
    clear hk HKN g1 g2 g3 hkk hkt hn8
    go_wp2
    clear c1
    go_loopw [29, 10, 11] (fun t m v wr => ∃ (i : Nat) (hs : List (Array Value)), t = .int .i64 i ∧ i ≤ k ∧ m = .int .i64 (newest ((R.jall c slot).take i)) ∧ OwnVs wr w2.heap.size 75 1 v hs ∧ FrsAt wr hs ((R.jall c slot).take i) ∧ (∀ j, j < i → R.jgoods c slot j ≠ []) ∧ Ext w2 wr) (fun t _ _ _ => k - (intOf t).toNat)
    case atStart => exact ⟨0, [], rfl, by omega, rfl, OwnVs.nil _ _ _ _, FrsAt.nil _, fun j hj => absurd hj (Nat.not_lt_zero _), Ext.refl _⟩
    case round =>
      obtain ⟨i, hs, rfl, hi, rfl, hown, hfr, hne, hx⟩ := hrel
      by_cases hlt : i < k
      · have HGI := hid (HG.out i (by omega) wr hx)
        have HCR := hid (hx.at HC2.out)
        have HDR := hid (hx.at HD2.out)
        have HX := hid hx
        have HOWN := hid hown
        have HFR := hid hfr
        have HNE := hid hne
        have hti := R.jall_take c slot (i := i) (by rw [HKT.out]; exact hlt)
        have HTI := hid hti
        have hlenf := HLEN.out i
        have HOKF := hid (HOK.out i)
        clear hx hown hfr hne hti
        go_wp2_with (guard_target = wpList _ _ _ ({ dst := some _, op := Op.load _ _, type := _, pos := _, after := _, guard := none } :: _) _ _; refine wpList_load_agg rfl 23 _ rfl ⟨w.heap.size, 0, none⟩ rfl (Cfg.A c) (cfg_agg c) (agg_cells HCR.out) ?_)
        refine HGI.out.mono ?_
        rintro e w3 ⟨vf, rfl, hof, x3⟩
        obtain ⟨m0, hm0⟩ : ∃ m, newest ((R.jall c slot).take i) = m := ⟨_, rfl⟩
        have HM0 := hid hm0
        rw [hm0]
        have HNEW := hid (fun fs (e : R.jgoods c slot i = fs) => (show newest ((R.jall c slot).take (i + 1)) = newestF m0 fs from by
          rw [HTI.out, e, ← HM0.out]; unfold newest; rw [List.foldl_append]; rfl))
        have HGE := hid (show ∀ fs, R.jgoods c slot i = fs → (R.jall c slot).take (i + 1) = (R.jall c slot).take i ++ [fs] from fun fs e => by rw [HTI.out, e])
        have HLOST := hid (fun (e : R.jgoods c slot i = []) => Rck.jslot_lost HK.out (by rw [HKT.out]; exact hlt) e)
        clear hm0 HM0 HTI
        generalize hfs : R.jgoods c slot i = fs at hof hlenf HOKF
        have HNEW2 := hid (HNEW.out fs hfs)
        have HGE2 := hid (HGE.out fs hfs)
        have HFS := hid hfs
        obtain ⟨fa, fc, rfl, hsl⟩ := hof.slice
        simp only [List.length_map] at hsl ⊢
        have hof2 := hof.down (Nat.zero_le _)
        rw [List.length_map] at hof2
        have HOF := hid hof2
        have HX3 := hid (Ext.trans HX.out x3)
        have HXR := hid x3
        clear HNEW HGE hfs hof hof2 x3
        rcases fs with _ | ⟨f0, fs0⟩
        · have HV : Hid (R.jslot c slot = (Rcd.none_, false, 0, some (.fault sJSlot slot (.loss slot 0 1)))) := hid (HLOST.out HFS.out)
          have HD3 := hid (HXR.out.at HDR.out)
          have HW := hid (wrap_err sJSlot slot (.loss slot 0 1) w3)
          simp only [Err.val] at HW
          clear HLOST hsl
          go_wp2_with (first
            | (guard_target = wpList _ _ _ ({ dst := some _, op := Op.build _ _, type := _, pos := _, after := _, guard := none } :: _) _ _; refine wpList_build_eq rfl 32 _ rfl (Rcd.none_.V none 0) ?_ ?_; exact hb0)
            | (guard_target = wpList _ _ _ ({ dst := some _, op := Op.build _ _, type := _, pos := _, after := _, guard := none } :: _) _ _; refine wpList_build_eq rfl 40 _ rfl #[.int .i64 slot, .int .i64 0, .int .i64 1] ?_ ?_; (simp only [List.map_toArray, List.map_cons, List.map_nil, Act.eval]; simp only [Array.getD_eq_getD_getElem?, List.getElem?_toArray, List.getElem?_cons_succ, List.getElem?_cons_zero, Option.getD_some]; exact HBL.out)))
          refine HW.out.mono ?_
          rintro e w4 ⟨rfl, rfl⟩
          go_wp2_with (guard_target = wpList _ _ _ ({ dst := none, op := Op.store _ _ _, type := _, pos := _, after := _, guard := none } :: _) _ _; refine wpList_store_whole rfl 32 _ _ rfl (w.heap.size + 1) rfl (Rcd.none_.V none 0) _ rfl 32 (agg_rec _ _ _) HD3.out rfl (V_one _ _ _) ?_)
          refine bodyPost_ret (run_results_agg4 Tryd.results13 rfl (agg_rec _ _ _) (setRow_heap _ _ _ _ _ _ HD3.out)) rfl ?_
          exact ⟨none, 0, by rw [HV.out]; rfl, Ext.then (Ext.trans HX2.out HX3.out) (only_setRow _ _ _) (fun i hi => by omega), by rw [HV.out]; intro i b hb; simp [Rcd.none_] at hb, by intro p hp; cases hp⟩
        · obtain ⟨b, rfl, hcc, hat⟩ : ∃ b, fa = some ⟨b, 0, none⟩ ∧ (f0 :: fs0).length ≤ fc ∧ VsAt w3 b 112 ((f0 :: fs0).map Frm.A) := by
            rcases hsl with ⟨q, _⟩ | ⟨b, q, _, _, q2, q3⟩
            · simp at q
            · exact ⟨b, q, by simpa using q2, q3⟩
          have HGNE := hid (show R.jgoods c slot i ≠ [] from by rw [HFS.out]; simp)
          clear HLOST HFS hsl
          obtain ⟨fs, hfs⟩ : ∃ fs, f0 :: fs0 = fs := ⟨_, rfl⟩
          have hpos : 0 < fs.length := by rw [← hfs]; simp
          rw [hfs] at hat HOF HNEW2 HGE2 HOKF hlenf hcc ⊢
          clear hfs
          have h0 : ((fs.length : Int) == 0) = false := by rw [beq_eq_false_iff_ne]; omega
          have hfl8 : (fs.length : Int) ≤ 8 := by omega
          have HAT := hid hat
          clear hat
          go_wp2
          go_loopw [48, 10] (fun t m wq => ∃ (j : Nat), t = .int .i64 j ∧ j ≤ fs.length ∧ m = .int .i64 (newestF m0 (fs.take j)) ∧ Ext w3 wq) (fun t _ _ => fs.length - (intOf t).toNat)
          case atStart => exact ⟨0, rfl, by omega, rfl, Ext.refl _⟩
          case round =>
            obtain ⟨j, rfl, hj, rfl, hxq⟩ := hrel
            by_cases hjt : j < fs.length
            · have j0 : (0 : Int) ≤ (j : Int) := by omega
              have j1 : (j : Int) < (fs.length : Int) := by omega
              obtain ⟨f, hfj⟩ : ∃ f, fs[j]? = some f := ⟨fs[j], List.getElem?_eq_getElem hjt⟩
              have hfo := HOKF.out f (List.mem_of_getElem? hfj)
              have HFSZ := hid (Frm.A_size f hfo)
              have HNT := hid (newestF_take (m := m0) hfj)
              have HFA : Hid (∀ q v, (Frm.A f).toList[q]? = some v → wr.cell? ((⟨b, j * 112, none⟩ : Addr).add q) = some v) := hid (fun q v hv => by
                have := HAT.out j (Frm.A f) (by rw [List.getElem?_map, hfj]; rfl) q v hv
                have e : (⟨b, j * 112, none⟩ : Addr).add q = ⟨b, j * 112 + q, none⟩ := by unfold Addr.add; split <;> simp_all
                rw [e]; exact Ext.cell hxq this)
              have hbf : (wr.alloc (.cells (Frm.A Frm.zero) 78)).heap[wr.heap.size]? = some (.cells (Frm.A Frm.zero) 78 (0, 0)) := block_alloc
              have c3 : (wr.alloc (.cells (Frm.A f) 78)).cell? ⟨wr.heap.size, 3, none⟩ = some (.int .i64 f.gen) := (cell_at block_alloc).trans (Frm.A3 f)
              have HXQ := hid hxq
              generalize newestF m0 (fs.take j) = mj at *
              clear hxq hfo hfj
              go_wp2_with (first
                | (guard_target = wpList _ _ _ ({ dst := some _, op := Op.load _ _, type := _, pos := _, after := _, guard := none } :: _) _ _; refine wpList_load_agg rfl 78 _ rfl ⟨b, j * 112, none⟩ rfl (Frm.A f) (by rw [HFSZ.out]; exact aggFrame) HFA.out ?_)
                | (guard_target = wpList _ _ _ ({ dst := none, op := Op.store _ _ _, type := _, pos := _, after := _, guard := none } :: _) _ _; refine wpList_store_whole rfl 78 _ _ rfl wr.heap.size rfl (Frm.A f) _ rfl 78 ?_ hbf ?_ ?_ ?_; (rw [HFSZ.out]; exact aggFrame); (rw [HFSZ.out, HZF.out]); exact Frm.A_one _; rw [setRow_alloc])
                | (guard_target = wpList _ _ _ ({ dst := some _, op := Op.call _, type := _, pos := _, after := _, guard := none } :: _) _ _; refine wpList_max_int rfl _ _ 3 rfl mj f.gen rfl rfl ?_))
              go_roundw
              case rel => exact ⟨j + 1, by go_num, by omega, by rw [HNT.out], HXQ.out.alloc _⟩
              case measure => simp [intOf]; omega
            · obtain rfl : fs.length = j := by omega
              rw [List.take_length, ← HNEW2.out]
              have hown2 := (HOWN.out.ext HXR.out).ext hxq
              have hszr : w2.heap.size ≤ wr.heap.size := Nat.le_trans HX3.out.size hxq.size
              obtain ⟨v', W4, hap, hown4, ho4, hx4⟩ := hown2.add (tsl := 74) Tryd.underlying74 infoFrs rfl (by omega) #[Value.slice (some ⟨b, 0, none⟩) fs.length fc] rfl (by intro u hu; simp at hu; subst hu; rfl) (by
                have := HFR.out.1
                rw [this, List.length_take]; omega) (by omega) hszr
              have hfr4 : FrsAt W4 (hs ++ [#[Value.slice (some ⟨b, 0, none⟩) fs.length fc]]) ((R.jall c slot).take (i + 1)) := by
                rw [HGE2.out]
                refine FrsAt.only (((HFR.out.ext HXR.out).ext hxq).snoc hcc (HOF.out.ext hxq)) ho4 fun v b hv hb e => ?_
                rcases hv with hv | ⟨l, hv⟩
                · exact hv.apart hown2 (by decide) hb e
                · exact hv.apart hown2 (by decide) hb e
              have HO4 := hid hown4
              have HF4 := hid hfr4
              have HX4 := hid (hx4 w2 (Nat.le_refl _) (Ext.trans HX3.out hxq))
              clear hown2 hown4 ho4 hx4 hfr4 hxq
              go_wp2_with (first
                | (guard_target = wpList _ _ _ ({ dst := some _, op := Op.buildSlice _ _ _, type := _, pos := _, after := _, guard := none } :: _) _ _; refine wpList_buildSlice_one rfl 74 75 _ rfl #[Value.slice (some ⟨b, 0, none⟩) fs.length fc] _ _ 1 24 Tryd.underlying74 infoFrs (by omega) (by omega) rfl rfl rfl ?_)
                | (at_builtin; refine wpList_append_run rfl _ _ _ rfl _ _ _ _ rfl rfl hap ?_))
              go_roundw
              case rel => exact ⟨i + 1, _, by go_num, by omega, rfl, HO4.out, HF4.out, fun j hj => by
                by_cases e : j = i
                · rw [e]; exact HGNE.out
                · exact HNE.out j (by omega), HX4.out⟩
              case measure => simp [intOf]; omega
      · obtain rfl : k = i := by omega
        have hall : (R.jall c slot).take k = R.jall c slot := List.take_of_length_le (by rw [Rck.jall_len, HKT.out]; exact Nat.le_refl _)
        rw [hall] at hfr ⊢
        have hlen : hs.length = k := by rw [hfr.1, Rck.jall_len, HKT.out]
        obtain ⟨la, lc, rfl, hsl⟩ := hown.slice
        obtain ⟨g, rfl, hcap, hvs⟩ : ∃ g, la = some ⟨g, 0, none⟩ ∧ hs.length ≤ lc ∧ VsAt wr g 1 hs := by
          rcases hsl with ⟨q, _⟩ | ⟨g, q, _, _, q2, q3⟩
          · rw [q] at hlen; simp at hlen; omega
          · exact ⟨g, q, q2, q3⟩
        have hls := LsAt.of_frs hvs hfr
        have hll : (R.jall c slot).length = hs.length := hfr.1.symm
        obtain ⟨m0, hm0⟩ : ∃ m, newest (R.jall c slot) = m := ⟨_, rfl⟩
        have HV := hid (Rck.jslot_there HK.out (fun i hi => hne i (by rw [HKT.out] at hi; exact hi)) hm0)
        rw [hm0]
        have HWC := hid (jwhole_c (R.jall c slot) m0 (some ⟨g, 0, none⟩) lc wr hls (by omega) (by omega) (fun fs hfs => by
          obtain ⟨i, hi, rfl⟩ := Rck.jall_mem.1 hfs
          exact ⟨HLEN.out i, fun f hf => HOK.out i f hf⟩))
        rw [hll, hlen] at HWC
        rw [hlen]
        have HDR := hid (hx.at HD2.out)
        have HX := hid (Ext.trans HX2.out hx)
        have HLT := hid (Nat.lt_of_lt_of_le HSZ.out hx.size)
        clear hall hfr hsl hown hvs hls hll hm0 hne hx hcap hlen
        go_wp2_with fail
        refine HWC.out.mono ?_
        rintro e w4 ⟨ra, rc, rfl, x4, hbl, hbb⟩
        obtain ⟨o, ho⟩ : ∃ o, whole m0 (R.jall c slot) = o := ⟨_, rfl⟩
        rw [ho] at hbl HV ⊢
        have HBK := hid hbl
        have HBB := hid hbb
        have HD4 : Hid ((w4.alloc (.cells ((o.getD Rcd.none_).V ra rc) 32)).heap[w.heap.size + 1]? = some (.cells (Rcd.none_.V none 0) 32 (0, 0))) := hid (Ext.at ((Ext.refl w4).alloc _) (x4.at HDR.out))
        have HX4 := hid ((Ext.trans HX.out x4).alloc (.cells ((o.getD Rcd.none_).V ra rc) 32))
        have hbs : (w4.alloc (.cells (Rcd.none_.V none 0) 32)).heap[w4.heap.size]? = some (.cells (Rcd.none_.V none 0) 32 (0, 0)) := block_alloc
        have HX5 := hid x4
        have HBN : Hid ((w4.alloc (.cells ((o.getD Rcd.none_).V ra rc) 32)).heap[w4.heap.size]? = some (.cells ((o.getD Rcd.none_).V ra rc) 32 (0, 0))) := hid block_alloc
        clear ho hbl hbb x4
        go_wp2_with (first
          | (guard_target = wpList _ _ _ ({ dst := none, op := Op.store _ _ _, type := _, pos := _, after := _, guard := none } :: _) _ _; have hb0' := hbs; clear hbs; refine wpList_store_whole rfl 32 _ _ rfl w4.heap.size rfl ((o.getD Rcd.none_).V ra rc) _ rfl 32 (agg_rec _ _ _) hb0' rfl (V_one _ _ _) ?_; rw [setRow_alloc])
          | (guard_target = wpList _ _ _ ({ dst := none, op := Op.store _ _ _, type := _, pos := _, after := _, guard := none } :: _) _ _; refine wpList_store_whole rfl 32 _ _ rfl (w.heap.size + 1) rfl ((o.getD Rcd.none_).V ra rc) _ rfl 32 (agg_rec _ _ _) HD4.out rfl (V_one _ _ _) ?_)
          | (guard_target = wpList _ _ _ ({ dst := some _, op := Op.load _ _, type := _, pos := _, after := _, guard := none } :: _) _ _; refine wpList_load_agg rfl 32 _ rfl ⟨w4.heap.size, 0, none⟩ rfl ((o.getD Rcd.none_).V ra rc) (agg_rec _ _ _) (agg_cells HBN.out) ?_))
        refine bodyPost_ret (run_results_agg4 Tryd.results13 rfl (agg_rec _ _ _) (setRow_heap _ _ _ _ _ _ HD4.out)) rfl ?_
        refine ⟨ra, rc, by rw [HV.out]; rfl, Ext.then HX4.out (only_setRow _ _ _) (fun i hi => by omega), ?_, fun p hp => by
          have := HBB.out p hp
          have := HX.out.size
          have := HLT.out
          omega⟩
        rw [HV.out]
        intro i bb hb
        obtain ⟨g', hg', hcell⟩ := HBK.out i bb hb
        refine ⟨g', hg', fun j hj => ?_⟩
        have h1 : (w4.alloc (.cells ((o.getD Rcd.none_).V ra rc) 32)).cell? ⟨g', i * 108 + j, none⟩ = some (.int .u8 (nth bb j)) := Ext.cell ((Ext.refl w4).alloc _) (hcell j hj)
        refine (only_setRow _ _ _).cell h1 (fun e => ?_)
        have q1 : wr.heap.size ≤ g' := HBB.out _ hg'
        have q2 := HLT.out
        have q3 : g' = w.heap.size + 1 := e
        omega
end Go.Proofs.YtmjembnciffgfaaDoor
