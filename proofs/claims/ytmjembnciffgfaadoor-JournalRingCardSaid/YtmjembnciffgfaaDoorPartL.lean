/- Texts of one proof, joined: WJournalRuns, KFix, WJournalOne, Rely3, JourLeaf. -/
import Derived.Test.YtmjembnciffgfaaDoorPartK
import Derived.Test.YtmjembnciffgfaaDoorPartH
import Derived.Test.YtmjembnciffgfaaDoorPartA
set_option linter.unusedVariables false
set_option linter.unusedSimpArgs false
/- The walk of JournalRuns. -/
namespace Go.Proofs.YtmjembnciffgfaaDoor
set_option linter.unusedVariables false
open Go Go.RowKit
theorem wpListG_build_eq {P : Program} {ops : Array Oper} {rest : List Oper} {o : Oper} {a : Act} {w : World} {Q : Exit → Act → World → Prop} (t : TypeId) (parts : Array (Nat × Operand)) (ho : o.op = .build t parts) (A : Array Value) (hw : Region.wanted o (yielded ops a.tmps) = true)
    (hb : P.built t (parts.map fun (i, x) => (i, a.eval x)).toList = some A) (h : wpList P ops Q rest (a.put o.dst (.agg A)) w) : wpList P ops Q (o :: rest) a w := by
  refine wpList_run (.agg A) hw ?_ h
  unfold execOp
  simp only [ho, Sem.run_bind, run_build w t _ A hb, Result.andThen_ok]
  rfl
open Runs10 in
set_option maxRecDepth 100000 in
set_option maxHeartbeats 4000000 in
theorem journalRuns_c (w : World) (hg : EtLaid w) : Calls Tryd.prog 3 #[] w fun e w' => e = .returned (.bool true) ∧ Ext w w' := by
  have HG := hid hg
  have hzc := zero_cfg
  have hzr := zero_rec
  have hzl := zero_loss
  have HCS := hid Cfg.A_size
  have HB : Hid (Tryd.prog.built 23 [(0, .int .i64 9), (1, .int .i64 1), (2, .int .i64 2), (3, .int .i64 1), (4, .int .i64 2)] = some (Cfg.A Runs10.c)) := hid (built_cfg Runs10.c)
  obtain ⟨R1, R2, R3, hall⟩ := Runs10.all
  have HALL := hid hall
  clear hg hall
  obtain ⟨C, hC⟩ : ∃ C, Runs10.c = C := ⟨_, rfl⟩
  have HCC := hid hC
  have HK : Hid (C.k.toNat = 1) := hid (by rw [← hC]; rfl)
  obtain ⟨X, hX⟩ : ∃ X, Runs10.x = X := ⟨_, rfl⟩
  have HXX := hid hX
  have HXE : Hid (X = recOf C 3 0 5) := hid (by rw [← hX, ← hC]; rfl)
  rw [hC] at HB
  obtain ⟨W1, hW1⟩ : ∃ W, w.alloc (.cells (Cfg.A C) 23) = W := ⟨_, rfl⟩
  have X1 := hid (show Ext w W1 from hW1 ▸ (Ext.refl w).alloc _)
  have HC := hid (show W1.heap[w.heap.size]? = some (.cells (Cfg.A C) 23 (0, 0)) from hW1 ▸ heap_alloc_new _ _)
  have hbs : (w.alloc (.cells (Cfg.A Cfg.zero) 23)).heap[w.heap.size]? = some (.cells (Cfg.A Cfg.zero) 23 (0, 0)) := block_alloc
  clear hC hX
  go_enter Tryd.func3, Tryd.ntmps3
  go_wp2_with (first
    | (guard_target = wpList _ _ _ ({ dst := some _, op := Op.build _ _, type := _, pos := _, after := _, guard := none } :: _) _ _; refine wpList_build_eq rfl 23 _ rfl (Cfg.A C) ?_ ?_; (simp only [List.map_toArray, List.map_cons, List.map_nil, Act.eval]; exact HB.out))
    | (guard_target = wpList _ _ _ ({ dst := none, op := Op.store _ _ _, type := _, pos := _, after := _, guard := none } :: _) _ _; refine wpList_store_whole rfl 23 _ _ rfl w.heap.size rfl (Cfg.A C) _ rfl 23 ?_ hbs ?_ ?_ ?_; (rw [HCS.out]; exact aggCfg); (rw [HCS.out, HCS.out]); exact Cfg.A_one _))
  rw [setRow_alloc, hW1]
  refine (at_new 2 4 (by omega) (by omega) (by omega) (by omega) W1).mono ?_
  rintro e w2 ⟨r, rfl, h2, x2⟩
  have J2 : JE w w2 (fun b => b < W1.heap.size) r (Rck.new 2 4) w.heap.size C [] := ⟨h2, Ext.trans X1.out x2, fun b hb => Nat.lt_of_lt_of_le hb X1.out.size, x2.at HC.out, lt_of_block HC.out, fun p hp => by simp at hp⟩
  have HJ2 := hid J2
  clear h2 x2 hbs J2 HC X1
  go_wp2_with fail
  refine (kblocks_c 1 (by omega) 5 w2).mono ?_
  rintro e w3 ⟨v, rfl, hown, x3⟩
  obtain ⟨a, cp, rfl, hbk, hab⟩ := kblocks_at (fun b hb => by obtain ⟨n, rfl⟩ := blocksOf_mem hb; exact blockOf_len n) hown
  have hxb : X.blocks = blocksOf 1 5 := by rw [HXE.out]; show blocksOf C.k.toNat 5 = _; rw [HK.out]
  have J4 := HJ2.out.put x3 X a cp (by rw [hxb]; exact hbk) (fun p hp => by
    obtain ⟨_, c2, q, h⟩ := hown.slice
    rw [List.length_map] at q
    cases q
    rcases h with ⟨_, q⟩ | ⟨g, q, hg, _⟩
    · rw [q] at hp; cases hp
    · rw [q] at hp; cases hp; exact hg)
  have HBX : Hid (Tryd.prog.built 32 [(0, .int .i64 3), (2, .slice a (blocksOf 1 5).length cp)] = some (X.V a cp)) := hid (by
    have := built_recOfB C 3 5 a cp
    rw [HK.out] at this
    rw [this, HXE.out])
  obtain ⟨W4, hW4⟩ : ∃ W, w3.alloc (.cells (X.V a cp) 32) = W := ⟨_, rfl⟩
  rw [hW4] at J4
  obtain ⟨S4, hS4⟩ : ∃ S, wideS (fun b => b < W1.heap.size) w2 W4 = S := ⟨_, rfl⟩
  rw [hS4] at J4
  have HJ4 := hid J4
  have HA4 := hid (show ∀ g, a = some ⟨g, 0, none⟩ → S4 g from fun g hg => ((J4.recs _ List.mem_cons_self).own (by show X.blocks ≠ []; rw [hxb]; simp [blocksOf]) g hg))
  have hbs : (w3.alloc (.cells (Rcd.none_.V none 0) 32)).heap[w3.heap.size]? = some (.cells (Rcd.none_.V none 0) 32 (0, 0)) := block_alloc
  have HW4 := hid hW4
  clear hown x3 hbk hab J4 hW4 hS4 HJ2 hxb
  generalize (blocksOf 1 5).length = n1 at *
  go_wp2_with (first
    | (guard_target = wpList _ _ _ ({ dst := some _, op := Op.build _ _, type := _, pos := _, after := _, guard := none } :: _) _ _; refine wpList_build_eq rfl 32 _ rfl (X.V a cp) ?_ ?_; (simp only [List.map_toArray, List.map_cons, List.map_nil, Act.eval]; simp only [Array.getD_eq_getD_getElem?, List.getElem?_toArray, List.getElem?_cons_succ, List.getElem?_cons_zero, Option.getD_some]; exact HBX.out))
    | (guard_target = wpList _ _ _ ({ dst := none, op := Op.store _ _ _, type := _, pos := _, after := _, guard := none } :: _) _ _; have hb0 := hbs; clear hbs; refine wpList_store_whole rfl 32 _ _ rfl w3.heap.size rfl (X.V a cp) _ rfl 32 (agg_rec _ _ _) hb0 rfl (V_one _ _ _) ?_; rw [setRow_alloc, HW4.out])
    | (guard_target = wpList _ _ _ ({ dst := some _, op := Op.load _ _, type := _, pos := _, after := _, guard := some _ } :: _) _ _; refine wpListG_load_agg 23 _ rfl ⟨w.heap.size, 0, none⟩ rfl (Cfg.A C) rfl (cfg_agg C) (agg_cells HJ4.out.cfg) ?_))
  refine (jblank_c HJ4.out.rack C 0).mono ?_
  rintro e w5 ⟨rfl, h5, k5⟩
  rw [show (Rck.new 2 4).jblank C 0 = (none, R1) from by rw [← HCC.out]; exact HALL.out.b0] at h5 ⊢
  simp only [oErr]
  have HJ5 := hid (HJ4.out.keep h5 k5)
  clear h5 k5 HJ4
  go_wp2_with (guard_target = wpList _ _ _ ({ dst := some _, op := Op.load _ _, type := _, pos := _, after := _, guard := some _ } :: _) _ _; refine wpListG_load_agg 23 _ rfl ⟨w.heap.size, 0, none⟩ rfl (Cfg.A C) rfl (cfg_agg C) (agg_cells HJ5.out.cfg) ?_)
  refine (jblank_c HJ5.out.rack C 1).mono ?_
  rintro e w6 ⟨rfl, h6, k6⟩
  rw [show R1.jblank C 1 = (none, R2) from by rw [← HCC.out]; exact HALL.out.b1] at h6 ⊢
  simp only [oErr]
  have HJ6 := hid (HJ5.out.keep h6 k6)
  clear h6 k6 HJ5
  go_wp2_with (first
    | (guard_target = wpList _ _ _ ({ dst := some _, op := Op.load _ _, type := _, pos := _, after := _, guard := some _ } :: _) _ _; refine wpListG_load_agg 23 _ rfl ⟨w.heap.size, 0, none⟩ rfl (Cfg.A C) rfl (cfg_agg C) (agg_cells HJ6.out.cfg) ?_)
    | (guard_target = wpList _ _ _ ({ dst := some _, op := Op.load _ _, type := _, pos := _, after := _, guard := some _ } :: _) _ _; refine wpListG_load_agg 32 _ rfl ⟨w3.heap.size, 0, none⟩ rfl (X.V a cp) rfl (agg_rec _ _ _) (agg_cells (HJ6.out.recs _ List.mem_cons_self).blk) ?_))
  refine (jlog_c HJ6.out.rack C X (by rw [HXE.out]; exact recOf_ok _ _ _ _) a cp (HJ6.out.recs _ List.mem_cons_self).bks HA4.out).mono ?_
  rintro e w7 ⟨rfl, h7, k7⟩
  rw [show R2.jlog C X = (none, R3) from by rw [← HCC.out, ← HXX.out]; exact HALL.out.lg] at h7 ⊢
  simp only [oErr]
  have HJ7 := hid (HJ6.out.keep h7 k7)
  clear h7 k7 HJ6
  go_wp2_with (guard_target = wpList _ _ _ ({ dst := some _, op := Op.load _ _, type := _, pos := _, after := _, guard := none } :: _) _ _; refine wpList_load_agg rfl 23 _ rfl ⟨w.heap.size, 0, none⟩ rfl (Cfg.A C) (cfg_agg C) (agg_cells HJ7.out.cfg) ?_)
  refine (jslot_c HJ7.out.rack C 1).mono ?_
  rintro e w8 ⟨a8, c8, rfl, x8, b8, l8⟩
  rw [show R3.jslot C 1 = (X, true, 3, none) from by rw [← HCC.out, ← HXX.out]; exact HALL.out.s1] at b8 ⊢
  simp only [oErr]
  have J8 := HJ7.out.put x8 X a8 c8 b8 l8
  obtain ⟨W8, hW8⟩ : ∃ W, w8.alloc (.cells (X.V a8 c8) 32) = W := ⟨_, rfl⟩
  rw [hW8] at J8
  obtain ⟨S8, hS8⟩ : ∃ S, wideS S4 w7 W8 = S := ⟨_, rfl⟩
  rw [hS8] at J8
  have HJ8 := hid J8
  have HW8 := hid hW8
  have hbs : (w8.alloc (.cells (Rcd.none_.V none 0) 32)).heap[w8.heap.size]? = some (.cells (Rcd.none_.V none 0) 32 (0, 0)) := block_alloc
  clear x8 b8 l8 J8 hW8 hS8 HJ7 HA4 HBX
  go_wp2_with (first
    | (guard_target = wpList _ _ _ ({ dst := none, op := Op.store _ _ _, type := _, pos := _, after := _, guard := none } :: _) _ _; have hb0 := hbs; clear hbs; refine wpList_store_whole rfl 32 _ _ rfl w8.heap.size rfl (X.V a8 c8) _ rfl 32 (agg_rec _ _ _) hb0 rfl (V_one _ _ _) ?_; rw [setRow_alloc, HW8.out])
    | (guard_target = wpList _ _ _ ({ dst := some _, op := Op.load _ _, type := _, pos := _, after := _, guard := none } :: _) _ _; refine wpList_load_agg rfl 23 _ rfl ⟨w.heap.size, 0, none⟩ rfl (Cfg.A C) (cfg_agg C) (agg_cells HJ8.out.cfg) ?_))
  refine (jslot_c HJ8.out.rack C 0).mono ?_
  rintro e w9 ⟨a9, c9, rfl, x9, b9, l9⟩
  rw [show R3.jslot C 0 = (⟨0, 0, [List.replicate 108 0]⟩, true, 0, none) from by rw [← HCC.out]; exact HALL.out.s0] at b9 ⊢
  simp only [oErr]
  have J9 := HJ8.out.put x9 ⟨0, 0, [List.replicate 108 0]⟩ a9 c9 b9 l9
  obtain ⟨Z, hZ⟩ : ∃ Z : Rcd, ⟨0, 0, [List.replicate 108 0]⟩ = Z := ⟨_, rfl⟩
  have HZS : Hid (Z.seq = 0) := hid (by rw [← hZ])
  rw [hZ] at J9 ⊢
  obtain ⟨W9, hW9⟩ : ∃ W, w9.alloc (.cells (Z.V a9 c9) 32) = W := ⟨_, rfl⟩
  rw [hW9] at J9
  obtain ⟨S9, hS9⟩ : ∃ S, wideS S8 W8 W9 = S := ⟨_, rfl⟩
  rw [hS9] at J9
  have HJ9 := hid J9
  have HW9 := hid hW9
  have hbs : (w9.alloc (.cells (Rcd.none_.V none 0) 32)).heap[w9.heap.size]? = some (.cells (Rcd.none_.V none 0) 32 (0, 0)) := block_alloc
  clear x9 b9 l9 J9 hW9 hS9 HJ8 HW8 hZ
  go_wp2_with (guard_target = wpList _ _ _ ({ dst := none, op := Op.store _ _ _, type := _, pos := _, after := _, guard := none } :: _) _ _; have hb0 := hbs; clear hbs; refine wpList_store_whole rfl 32 _ _ rfl w9.heap.size rfl (Z.V a9 c9) _ rfl 32 (agg_rec _ _ _) hb0 rfl (V_one _ _ _) ?_; rw [setRow_alloc, HW9.out])
  refine (at_rot HJ9.out.rack 0 2 0 1 (by omega)).mono ?_
  rintro e w10 ⟨rfl, h10, k10⟩
  rw [HALL.out.r0]
  have HJ10 := hid (HJ9.out.keep h10 k10)
  clear h10 k10 HJ9
  go_wp2_with fail
  refine (at_rot HJ10.out.rack 1 2 0 1 (by omega)).mono ?_
  rintro e w11 ⟨rfl, h11, k11⟩
  rw [HALL.out.r1]
  have HJ11 := hid (HJ10.out.keep h11 k11)
  clear h11 k11 HJ10
  go_wp2_with (guard_target = wpList _ _ _ ({ dst := some _, op := Op.load _ _, type := _, pos := _, after := _, guard := none } :: _) _ _; refine wpList_load_agg rfl 23 _ rfl ⟨w.heap.size, 0, none⟩ rfl (Cfg.A C) (cfg_agg C) (agg_cells HJ11.out.cfg) ?_)
  refine (jslot_c HJ11.out.rack C 1).mono ?_
  rintro e w12 ⟨a12, c12, rfl, x12, b12, l12⟩
  rw [show ((R3.rot 0 2 0 1).rot 1 2 0 1).jslot C 1 = (Rcd.none_, false, 0, some (.fault sJSlot 1 (.loss 1 0 1))) from by rw [← HCC.out]; exact HALL.out.s2] at b12 ⊢
  obtain ⟨er, her⟩ : ∃ er, Err.fault sJSlot 1 (.loss 1 0 1) = er := ⟨_, rfl⟩
  have HLO : Hid (er.lost = true ∧ er.lossOf = (1, 0, 1)) := hid (by rw [← her]; exact ⟨rfl, rfl⟩)
  rw [her]
  simp only [oErr]
  have HJ12 := hid (HJ11.out.more (x12.alloc (.cells (Rcd.none_.V a12 c12) 32)))
  obtain ⟨W12, hW12⟩ : ∃ W, w12.alloc (.cells (Rcd.none_.V a12 c12) 32) = W := ⟨_, rfl⟩
  rw [hW12] at HJ12
  have HW12 := hid hW12
  have hbs : (w12.alloc (.cells (Rcd.none_.V none 0) 32)).heap[w12.heap.size]? = some (.cells (Rcd.none_.V none 0) 32 (0, 0)) := block_alloc
  obtain ⟨et, ev, hev⟩ := er.iface
  have HEV := hid hev
  rw [hev]
  clear x12 b12 l12 hW12 HJ11 her hev
  go_wp2_with (first
    | (guard_target = wpList _ _ _ ({ dst := none, op := Op.store _ _ _, type := _, pos := _, after := _, guard := none } :: _) _ _; have hb0 := hbs; clear hbs; refine wpList_store_whole rfl 32 _ _ rfl w12.heap.size rfl (Rcd.none_.V a12 c12) _ rfl 32 (agg_rec _ _ _) hb0 rfl (V_one _ _ _) ?_; rw [setRow_alloc, HW12.out])
    | (go_at_call 15; fail))
  refine Calls.mono (by rw [← HEV.out]; exact lost_yes er HLO.out.1 _ (HG.out.only HJ12.out.ext (fun x => x))) ?_
  rintro e w13 ⟨rfl, x13⟩
  rw [HLO.out.2]
  simp only [lostV]
  have HJ13 := hid (HJ12.out.more (x13.alloc (.cells (lcells (1, 0, 1)) 40)))
  obtain ⟨W13, hW13⟩ : ∃ W, w13.alloc (.cells (lcells (1, 0, 1)) 40) = W := ⟨_, rfl⟩
  have HN13 := hid (show W13.heap[w13.heap.size]? = some (.cells (lcells (1, 0, 1)) 40 (0, 0)) from hW13 ▸ heap_alloc_new _ _)
  rw [hW13] at HJ13
  have HW13 := hid hW13
  have hbs : (w13.alloc (.cells (lcells (0, 0, 0)) 40)).heap[w13.heap.size]? = some (.cells (lcells (0, 0, 0)) 40 (0, 0)) := block_alloc
  clear x13 hW13 HJ12 HW12 HEV
  go_wp2_with (first
    | (guard_target = wpList _ _ _ ({ dst := none, op := Op.store _ _ _, type := _, pos := _, after := _, guard := none } :: _) _ _; have hb0 := hbs; clear hbs; refine wpList_store_whole rfl 40 _ _ rfl w13.heap.size rfl (lcells (1, 0, 1)) _ rfl 40 (agg_loss _) hb0 rfl (lcells_one _) ?_; rw [setRow_alloc, HW13.out])
    | (guard_target = wpList _ _ _ ({ dst := some _, op := Op.load _ _, type := _, pos := _, after := _, guard := none } :: _) _ _; refine wpList_load_agg rfl 32 _ rfl ⟨w8.heap.size, 0, none⟩ rfl (X.V a8 c8) (agg_rec _ _ _) (agg_cells (HJ13.out.recs ⟨w8.heap.size, X, a8, c8⟩ (by simp)).blk) ?_)
    | (guard_target = wpList _ _ _ ({ dst := some _, op := Op.load _ _, type := _, pos := _, after := _, guard := none } :: _) _ _; refine wpList_load_agg rfl 32 _ rfl ⟨w3.heap.size, 0, none⟩ rfl (X.V a cp) (agg_rec _ _ _) (agg_cells (HJ13.out.recs ⟨w3.heap.size, X, a, cp⟩ (by simp)).blk) ?_))
  refine (record_c X (by rw [HXE.out]; exact recOf_ok _ _ _ _) (by rw [HXE.out]; show (blocksOf C.k.toNat 5).length ≤ 8; rw [HK.out, blocksOf_len]; omega) a8 a c8 cp W13 (HJ13.out.recs ⟨w8.heap.size, X, a8, c8⟩ (by simp)).bks (HJ13.out.recs ⟨w3.heap.size, X, a, cp⟩ (by simp)).bks).mono ?_
  rintro e w14 ⟨rfl, x14⟩
  have hz14 : w14.cell? ⟨w9.heap.size, 0, none⟩ = some (.int .i64 0) := (cell_at ((HJ13.out.recs ⟨w9.heap.size, Z, a9, c9⟩ (by simp)).ext x14).blk).trans (by rw [← HZS.out]; rfl)
  have HL14 := hid (x14.at HN13.out)
  have HX14 := hid (Ext.trans HJ13.out.ext x14)
  have HBL := hid (built_lossL 1)
  clear x14
  go_wp2_with (first
    | (guard_target = wpList _ _ _ ({ dst := some _, op := Op.load _ _, type := _, pos := _, after := _, guard := some _ } :: _) _ _; refine wpListG_load_agg 40 _ rfl ⟨w13.heap.size, 0, none⟩ rfl (lcells (1, 0, 1)) rfl (agg_loss _) (agg_cells HL14.out) ?_)
    | (guard_target = wpList _ _ _ ({ dst := some _, op := Op.build _ _, type := _, pos := _, after := _, guard := some _ } :: _) _ _; refine wpListG_build_eq 40 _ rfl (lcells (1, 0, 1)) rfl ?_ ?_; (simp only [List.map_toArray, List.map_cons, List.map_nil, Act.eval]; exact HBL.out))
    | (guard_target = wpList _ _ _ ({ dst := some _, op := Op.binOp _ _ _ _ _, type := _, pos := _, after := _, guard := some _ } :: _) _ _; refine wpListG_eql .eql 40 _ _ _ rfl (lcells (1, 0, 1)) (lcells (1, 0, 1)) rfl rfl (.bool true) rfl (loss_guard _ _ _ _ _ _) (loss_eql _ _) ?_))
  go_ret
  exact ⟨rfl, HX14.out⟩
end Go.Proofs.YtmjembnciffgfaaDoor

/- stavekeep: a configuration with just so many stripes and slots. -/
namespace Go.Proofs.YtmjembnciffgfaaDoor
set_option linter.unusedVariables false
open Go Go.RowKit
theorem built_cfg3 (i k s t : Int) : Tryd.prog.built 23 [(0, .int .i64 i), (1, .int .i64 k), (3, .int .i64 s), (4, .int .i64 t)] = some (Cfg.A ⟨i, k, 0, s, t⟩) := by kernel_rfl
theorem Cfg.A_n (c : Cfg) (x : Int) : (Cfg.A c).setIfInBounds 2 (.int .i64 x) = Cfg.A { c with n := x } := by
  rw [Cfg.A_def, Cfg.A_def]; rfl
def KCfgPost (w : World) (c : Cfg) (e : Ending) (w' : World) : Prop := e = .returned (.agg (Cfg.A c)) ∧ Ext w w'
def CBlk (w : World) (g : Nat) (c : Cfg) : Prop := w.heap[g]? = some (.cells (Cfg.A c) 23 (0, 0))
def keepFixed (k n stripes slots : Int) : Cfg := ⟨7, within k 1 4, within n (within k 1 4) 6, stripes, slots⟩
set_option maxRecDepth 100000 in
set_option maxHeartbeats 1000000 in
theorem kfixed_c (k n stripes slots : Int) (w : World) : Calls Tryd.prog 17 #[.int .i64 k, .int .i64 n, .int .i64 stripes, .int .i64 slots] w (KCfgPost w (keepFixed k n stripes slots)) := by
  have hzc := zero_cfg
  have HCS := hid Cfg.A_size
  have HK : Hid (keepFixed k n stripes slots = ⟨7, within k 1 4, within n (within k 1 4) 6, stripes, slots⟩) := hid rfl
  rw [HK.out]
  clear HK
  obtain ⟨a0, a1⟩ := within_bd k 1 4 (by omega)
  have HWK := hid (within_c k 1 4)
  generalize within k 1 4 = kk at *
  have hb3 := built_cfg3
  go_enter Tryd.func17, Tryd.ntmps17
  go_wp2_with fail
  refine (HWK.out _ (by omega) (by omega) (by omega)).mono ?_
  rintro e w2 ⟨rfl, rfl⟩
  generalize hst : stripes = st at *
  generalize hsl : slots = sl at *
  clear hst hsl
  have e1 : (w.alloc (.cells (Cfg.A Cfg.zero) 23)).heap.size = w.heap.size + 1 := by simp
  have hbs : ((w.alloc (.cells (Cfg.A Cfg.zero) 23)).alloc (.cells (Cfg.A Cfg.zero) 23)).heap[w.heap.size + 1]? = some (.cells (Cfg.A Cfg.zero) 23 (0, 0)) := by rw [← e1]; exact heap_alloc_new _ _
  have HB3 : Hid (Tryd.prog.built 23 [(0, .int .i64 7), (1, .int .i64 kk), (3, .int .i64 st), (4, .int .i64 sl)] = some (Cfg.A ⟨7, kk, 0, st, sl⟩)) := hid (built_cfg3 7 kk st sl)
  clear hb3
  have c1 : (((w.alloc (.cells (Cfg.A Cfg.zero) 23)).alloc (.cells (Cfg.A Cfg.zero) 23)).setRow (w.heap.size + 1) (Cfg.A ⟨7, kk, 0, st, sl⟩)).cell? ⟨w.heap.size + 1, 1, none⟩ = some (.int .i64 kk) := (cell_at (setRow_heap _ _ _ _ _ _ hbs)).trans (Cfg.A1 _)
  go_wp2_with (first
    | (refine wpList_build_eq rfl 23 _ rfl (Cfg.A ⟨7, kk, 0, st, sl⟩) ?_ ?_; (simp only [List.map_toArray, List.map_cons, List.map_nil, Act.eval]; simp only [Array.getD_eq_getD_getElem?, List.getElem?_toArray, List.getElem?_cons_succ, List.getElem?_cons_zero, Option.getD_some]; exact HB3.out))
    | (refine wpList_store_whole rfl 23 _ _ rfl (w.heap.size + 1) rfl (Cfg.A ⟨7, kk, 0, st, sl⟩) _ rfl 23 ?_ hbs ?_ ?_ ?_; (rw [HCS.out]; exact aggCfg); (rw [HCS.out, HCS.out]); exact Cfg.A_one _))
  have HO : Hid (CBlk (((w.alloc (.cells (Cfg.A Cfg.zero) 23)).alloc (.cells (Cfg.A Cfg.zero) 23)).setRow (w.heap.size + 1) (Cfg.A ⟨7, kk, 0, st, sl⟩)) (w.heap.size + 1) ⟨7, kk, 0, st, sl⟩) := hid (setRow_heap _ _ _ _ _ _ hbs)
  have HR : Hid (CBlk (((w.alloc (.cells (Cfg.A Cfg.zero) 23)).alloc (.cells (Cfg.A Cfg.zero) 23)).setRow (w.heap.size + 1) (Cfg.A ⟨7, kk, 0, st, sl⟩)) w.heap.size Cfg.zero) := hid (by
    have := (only_setRow ((w.alloc (.cells (Cfg.A Cfg.zero) 23)).alloc (.cells (Cfg.A Cfg.zero) 23)) (w.heap.size + 1) (Cfg.A ⟨7, kk, 0, st, sl⟩)).at (k := w.heap.size) (o := .cells (Cfg.A Cfg.zero) 23) (by rw [heap_alloc_old _ _ (by simp)]; exact heap_alloc_new _ _) (by omega)
    exact this)
  have HX : Hid (Ext w (((w.alloc (.cells (Cfg.A Cfg.zero) 23)).alloc (.cells (Cfg.A Cfg.zero) 23)).setRow (w.heap.size + 1) (Cfg.A ⟨7, kk, 0, st, sl⟩))) := hid (Ext.then (((Ext.refl w).alloc _).alloc _) (only_setRow _ _ _) (fun i hi => by omega))
  clear hbs c1 HB3
  generalize ((w.alloc (.cells (Cfg.A Cfg.zero) 23)).alloc (.cells (Cfg.A Cfg.zero) 23)).setRow (w.heap.size + 1) (Cfg.A ⟨7, kk, 0, st, sl⟩) = W at *
  refine (within_c n kk 6 W (by omega) (by omega) (by omega)).mono ?_
  rintro e w2 ⟨rfl, rfl⟩
  generalize within n kk 6 = nn at *
  have c2 : W.cell? ⟨w.heap.size + 1, 2, none⟩ = some (.int .i64 0) := (cell_at HO.out).trans (Cfg.A2 _)
  have f2 : W.frozen? ⟨w.heap.size + 1, 2, none⟩ = false := free_at HO.out
  have HO2 : Hid ((W.setCell ⟨w.heap.size + 1, 2, none⟩ (.int .i64 nn)).heap[w.heap.size + 1]? = some (.cells (Cfg.A ⟨7, kk, nn, st, sl⟩) 23 (0, 0))) := hid (by
    have := block_set HO.out (i := 2) (.int .i64 nn)
    rw [Cfg.A_n] at this
    exact this)
  have HR2 : Hid ((W.setCell ⟨w.heap.size + 1, 2, none⟩ (.int .i64 nn)).heap[w.heap.size]? = some (.cells (Cfg.A Cfg.zero) 23 (0, 0))) := hid ((block_set_other _ (by omega)).trans HR.out)
  have HX2 : Hid (Ext w (W.setCell ⟨w.heap.size + 1, 2, none⟩ (.int .i64 nn))) := hid (Only.setCell (F := fun _ => False) HX.out (.inl (by show _ ≤ w.heap.size + 1; omega)) _)
  go_wp2_with (first
    | (refine wpList_load_agg rfl 23 _ rfl ⟨w.heap.size + 1, 0, none⟩ rfl (Cfg.A ⟨7, kk, nn, st, sl⟩) (cfg_agg _) (agg_cells HO2.out) ?_)
    | (refine wpList_store_whole rfl 23 _ _ rfl w.heap.size rfl (Cfg.A ⟨7, kk, nn, st, sl⟩) _ rfl 23 ?_ HR2.out ?_ ?_ ?_; (rw [HCS.out]; exact aggCfg); (rw [HCS.out, HCS.out]); exact Cfg.A_one _))
  refine bodyPost_ret (results_cell_row Tryd.results17 _ _ w.heap.size _ (Cfg.A ⟨7, kk, nn, st, sl⟩) _ _ rfl (setRow_heap _ _ _ _ _ _ HR2.out) Tryd.underlying23 rfl (by rw [HCS.out]; exact aggCfg.2)) rfl ?_
  exact ⟨rfl, Ext.then HX2.out (only_setRow _ _ _) (fun i hi => by omega)⟩
theorem keepFixed_good (k n stripes slots : Int) (h1 : 1 ≤ stripes) (h2 : stripes ≤ 64) (h3 : 1 ≤ slots) (h4 : slots ≤ 4) : (keepFixed k n stripes slots).Good := by
  obtain ⟨a0, a1⟩ := within_bd k 1 4 (by omega)
  obtain ⟨b0, b1⟩ := within_bd n (within k 1 4) 6 (by omega)
  exact ⟨by show (1 : Int) ≤ 7; omega, by show (7 : Int) ≤ 2147483647; omega, by show within n (within k 1 4) 6 ≤ 8; omega, a0, b0, h1, h2, h3, h4⟩
theorem keepFixed_k4 (k n stripes slots : Int) : (keepFixed k n stripes slots).k ≤ 4 := (within_bd k 1 4 (by omega)).2
theorem keepFixed_n6 (k n stripes slots : Int) : (keepFixed k n stripes slots).n ≤ 6 := by
  obtain ⟨a0, a1⟩ := within_bd k 1 4 (by omega)
  exact (within_bd n (within k 1 4) 6 (by omega)).2
theorem sectors_nat (c : Cfg) (h : c.Good) : ∃ m : Nat, c.sectors = (m : Int) ∧ 1 ≤ m ∧ m ≤ 128 := by
  have b0 : 0 ≤ c.slots * c.k := Int.mul_nonneg (by have := h.sl0; omega) (by have := h.k0; omega)
  have b1 : c.slots * c.k ≤ 4 * 8 := Int.mul_le_mul h.sl1 (by have := h.k1; have := h.n1; omega) (by have := h.k0; omega) (by omega)
  have b2 := h.st0
  have b3 := h.st1
  have e : c.sectors = 1 + c.slots * c.k + c.stripes := rfl
  refine ⟨c.sectors.toNat, ?_, ?_, ?_⟩ <;> omega
end Go.Proofs.YtmjembnciffgfaaDoor

/- The walk of JournalOne. -/
namespace Go.Proofs.YtmjembnciffgfaaDoor
set_option linter.unusedVariables false
open Go Go.RowKit
/-- Numbers that came in. -/
theorem IsRow.ints {w : World} {a : Option Addr} {len cap : Nat} {z : List Int} (h : IsRow .i64 w a len cap z) : ∀ i, i < len → ∃ b off v, a = some ⟨b, off, none⟩ ∧ w.cell? ⟨b, off + i, none⟩ = some (.int .i64 v) := by
  intro i hi
  rcases h with ⟨rfl, rfl, rfl, rfl⟩ | ⟨x, rfl, hlc, hm, hz, hc, hw⟩
  · omega
  · have h1 := hc i (by omega)
    obtain ⟨b, off, sp⟩ := x
    rcases sp with _ | sp
    · have e : (⟨b, off, none⟩ : Addr).add i = ⟨b, off + i, none⟩ := by unfold Addr.add; split <;> simp_all
      rw [e] at h1
      exact ⟨b, off, _, rfl, h1⟩
    · exfalso
      have h0 := hc 0 (by omega)
      unfold World.cell? Addr.add at h0
      split at h0 <;> simp_all
set_option maxRecDepth 100000 in
set_option maxHeartbeats 4000000 in
theorem journalOne_c (k n keep a0 : Int) (ia : Option Addr) (len cap : Nat) (z : List Int) (w : World) (hg : EtLaid w) (hl : IsRow .i64 w ia len cap z) :
    Calls Tryd.prog 6 #[.int .i64 k, .int .i64 n, .int .i64 keep, .int .i64 a0, .slice ia len cap] w fun e w' => e = .returned (.bool true) ∧ Ext w w' := by
  have HI := hid hl.ints
  clear hl
  have HG := hid hg
  have hzc := zero_cfg
  have hzr := zero_rec
  have hzl := zero_loss
  have HCS := hid Cfg.A_size
  clear hg
  go_enter Tryd.func6, Tryd.ntmps6
  go_wp2_with fail
  refine (kfixed_c k n 2 2 _).mono ?_
  rintro e w1 ⟨rfl, x1⟩
  have HGD := hid (show (keepFixed k n 2 2).Good from keepFixed_good k n 2 2 (by omega) (by omega) (by omega) (by omega))
  have HK4 := hid (keepFixed_k4 k n 2 2)
  have HN6 := hid (keepFixed_n6 k n 2 2)
  have HST := hid (show (keepFixed k n 2 2).stripes = 2 from rfl)
  have HSL := hid (show (keepFixed k n 2 2).slots = 2 from rfl)
  generalize keepFixed k n 2 2 = c at *
  obtain ⟨W1, hW1⟩ : ∃ W, w1.alloc (.cells (Cfg.A c) 23) = W := ⟨_, rfl⟩
  have X1 := hid (show Ext w W1 from hW1 ▸ x1.alloc _)
  have HC := hid (show W1.heap[w1.heap.size]? = some (.cells (Cfg.A c) 23 (0, 0)) from hW1 ▸ heap_alloc_new _ _)
  have hbs : (w1.alloc (.cells (Cfg.A Cfg.zero) 23)).heap[w1.heap.size]? = some (.cells (Cfg.A Cfg.zero) 23 (0, 0)) := block_alloc
  clear x1
  go_wp2_with (guard_target = wpList _ _ _ ({ dst := none, op := Op.store _ _ _, type := _, pos := _, after := _, guard := none } :: _) _ _; refine wpList_store_whole rfl 23 _ _ rfl w1.heap.size rfl (Cfg.A c) _ rfl 23 ?_ hbs ?_ ?_ ?_; (rw [HCS.out]; exact aggCfg); (rw [HCS.out, HCS.out]); exact Cfg.A_one _)
  rw [setRow_alloc, hW1]
  clear hbs hW1
  have HLT := hid (lt_of_block HC.out)
  generalize w1.heap.size = g at *
  obtain ⟨m, hm, m1, m128⟩ := sectors_nat c HGD.out
  obtain ⟨nn, hn⟩ : ∃ nn : Nat, c.n = nn := ⟨c.n.toNat, by have := HGD.out.k0; have := HGD.out.k1; omega⟩
  obtain ⟨kk, hk⟩ : ∃ kk : Nat, c.k = kk := ⟨c.k.toNat, by have := HGD.out.k0; omega⟩
  have HNT := hid (show c.n.toNat = nn by omega)
  have HKT := hid (show c.k.toNat = kk by omega)
  have n1 : 1 ≤ nn := by have := HGD.out.k0; have := HGD.out.k1; omega
  have n8 : nn ≤ 6 := by have := HN6.out; omega
  have k1 : 1 ≤ kk := by have := HGD.out.k0; omega
  have k4 : kk ≤ 4 := by have := HK4.out; omega
  have HM := hid hm; have HN := hid hn; have HK := hid hk
  have xd : Ext W1 W1.drew := (Ext.refl W1).drew
  have lc : Hid (∀ x : SW Ext W1.drew, ∀ j v, (Cfg.A c).toList[j]? = some v → x.w.cell? ((⟨g, 0, none⟩ : Addr).add j) = some v) := hid fun x => agg_cells ((Ext.trans xd x.ext).at HC.out)
  have c2 : ∀ x : SW Ext W1.drew, x.w.cell? ⟨g, 2, none⟩ = some (.int .i64 nn) := fun x => (cell_at ((Ext.trans xd x.ext).at HC.out)).trans (by rw [Cfg.A2, HN.out])
  have sc : Hid (∀ x : SW Ext W1.drew, Calls Tryd.prog 19 #[.agg (Cfg.A c)] x.w fun e w'' => e = .returned (.int .i64 m) ∧ Ext x.w w'') := hid fun x => by
    have := ksectors_c c HGD.out x.w
    rw [HM.out] at this
    exact this
  have HAG := hid (cfg_agg c)
  clear hm hn hk
  refine wp_region_rely_all (S := Ext) (.one [0, 1, 2, 3] 4 (.fin [5, 6, 7, 8, 9])) (by kernel_rfl) (by kernel_rfl) (fun _ _ d _ _ h => by cases d <;> exact h) ?_
  rw [wpS]
  simp only [opsAt, List.map_cons, List.map_nil, Array.getD_eq_getD_getElem?, List.getElem?_toArray, List.getElem?_cons_succ, List.getElem?_cons_zero, Option.getD_some]
  iterate 2 ((refine wpSQ_step (fun K hK => ?_); go_simp; first | (refine hK _ ?_; clear hK K) | (apply Exists.intro; refine ⟨fun x => ?_, hK _ ?_⟩; (fail); clear hK K)))
  refine wpSQ_load_agg 23 _ rfl ⟨g, 0, none⟩ rfl (Cfg.A c) rfl HAG.out lc.out ?_
  (refine wpSQ_step (fun K hK => ?_); go_simp; first | (refine hK _ ?_; clear hK K) | (apply Exists.intro; refine ⟨fun x => ?_, hK _ ?_⟩; (exact sc.out x); clear hK K))
  refine wpSQ_nil ?_
  intro V1 hV1
  refine wpS_loud fun K hK => ?_
  go_wp2_with fail
  refine (at_new nn m n1 (by omega) m1 m128 V1).mono ?_
  rintro e w2 ⟨r, rfl, h2, x2⟩
  go_wp2
  refine hK _ _ x2 ?_
  clear hK K
  rw [wpS]
  simp only [opsAt, List.map_cons, List.map_nil, Array.getD_eq_getD_getElem?, List.getElem?_toArray, List.getElem?_cons_succ, List.getElem?_cons_zero, Option.getD_some]
  iterate 5 ((refine wpSQ_step (fun K hK => ?_); go_simp; first | (refine hK _ ?_; clear hK K) | (apply Exists.intro; refine ⟨fun x => ?_, hK _ ?_⟩; (fail); clear hK K)))
  refine wpSQ_nil ?_
  intro V2 hV2
  have J2 : JE w V2 (fun b => b < W1.heap.size) r (Rck.new nn m) g c [] := ⟨(h2.less fun b hb => Nat.lt_of_lt_of_le hb (Ext.trans xd hV1).size).ext hV2, Ext.trans X1.out (Ext.trans xd (Ext.trans hV1 (Ext.trans x2 hV2))), fun b hb => Nat.lt_of_lt_of_le hb X1.out.size, (Ext.trans xd (Ext.trans hV1 (Ext.trans x2 hV2))).at HC.out, HLT.out, fun p hp => by simp at hp⟩
  have HJ2 := hid J2
  have RJ0 : RJ (Rck.new nn m) c m (fun _ => none) := by
    have := RJ.new HGD.out (m := m) (by rw [HM.out]; exact Int.le_refl _)
    rw [HNT.out] at this
    exact this
  have HRJ0 := hid RJ0
  clear h2 x2 hV1 hV2 lc c2 sc xd J2 X1 HC HLT RJ0
  have c1 : V2.cell? ⟨g, 1, none⟩ = some (.int .i64 kk) := (cell_at HJ2.out.cfg).trans (by rw [Cfg.A1, HK.out])
  go_wp2_with (go_at_call 10; fail)
  clear c1
  refine (kblocks_c kk (by omega) a0 V2).mono ?_
  rintro e w3 ⟨v, rfl, hown, x3⟩
  obtain ⟨a, cp, rfl, hbk, hab⟩ := kblocks_at (fun b hb => by obtain ⟨n, rfl⟩ := blocksOf_mem hb; exact blockOf_len n) hown
  obtain ⟨X, hX⟩ : ∃ X, recOf c 4 1 a0 = X := ⟨_, rfl⟩
  have HXE := hid hX
  have hxb : X.blocks = blocksOf kk a0 := by rw [← hX, ← HKT.out]; rfl
  have J4 := HJ2.out.put x3 X a cp (by rw [hxb]; exact hbk) (fun p hp => by
    obtain ⟨_, c2, q, h⟩ := hown.slice
    rw [List.length_map] at q
    cases q
    rcases h with ⟨_, q⟩ | ⟨g, q, hg, _⟩
    · rw [q] at hp; cases hp
    · rw [q] at hp; cases hp; exact hg)
  have HBX : Hid (Tryd.prog.built 32 [(0, .int .i64 4), (1, .int .i64 1), (2, .slice a (blocksOf kk a0).length cp)] = some (X.V a cp)) := hid (by
    have := built_recOfC c 4 1 a0 a cp
    rw [HKT.out] at this
    rw [this, hX])
  obtain ⟨W4, hW4⟩ : ∃ W, w3.alloc (.cells (X.V a cp) 32) = W := ⟨_, rfl⟩
  rw [hW4] at J4
  obtain ⟨S4, hS4⟩ : ∃ S, wideS (fun b => b < W1.heap.size) V2 W4 = S := ⟨_, rfl⟩
  rw [hS4] at J4
  have HJ4 := hid J4
  have HXN := hid (show X.blocks ≠ [] by
    rw [hxb]; intro q
    have := congrArg List.length q
    rw [blocksOf_len] at this; simp at this; omega)
  have HXL := hid (show (X.blocks.length : Int) = c.k by rw [← hX]; exact recOf_len HGD.out _ _ _)
  have HXS := hid (show X.seq = 4 by rw [← hX]; rfl)
  have HXT := hid (show X.stripe = 1 by rw [← hX]; rfl)
  have HXO := hid (show X.Ok by rw [← hX]; exact recOf_ok _ _ _ _)
  have HA4 := hid (show ∀ g, a = some ⟨g, 0, none⟩ → S4 g from fun g hg => (J4.recs _ List.mem_cons_self).own HXN.out g hg)
  have hbs : (w3.alloc (.cells (Rcd.none_.V none 0) 32)).heap[w3.heap.size]? = some (.cells (Rcd.none_.V none 0) 32 (0, 0)) := block_alloc
  have HW4 := hid hW4
  clear hown x3 hbk hab J4 hW4 hS4 hX
  generalize (blocksOf kk a0).length = n1 at *
  go_wp2_with (first
    | (guard_target = wpList _ _ _ ({ dst := some _, op := Op.build _ _, type := _, pos := _, after := _, guard := none } :: _) _ _; refine wpList_build_eq rfl 32 _ rfl (X.V a cp) ?_ ?_; (simp only [List.map_toArray, List.map_cons, List.map_nil, Act.eval]; simp only [Array.getD_eq_getD_getElem?, List.getElem?_toArray, List.getElem?_cons_succ, List.getElem?_cons_zero, Option.getD_some]; exact HBX.out))
    | (guard_target = wpList _ _ _ ({ dst := none, op := Op.store _ _ _, type := _, pos := _, after := _, guard := none } :: _) _ _; have hb0 := hbs; clear hbs; refine wpList_store_whole rfl 32 _ _ rfl w3.heap.size rfl (X.V a cp) _ rfl 32 (agg_rec _ _ _) hb0 rfl (V_one _ _ _) ?_; rw [setRow_alloc, HW4.out])
    | (guard_target = wpList _ _ _ ({ dst := some _, op := Op.load _ _, type := _, pos := _, after := _, guard := some _ } :: _) _ _; refine wpListG_load_agg 23 _ rfl ⟨g, 0, none⟩ rfl (Cfg.A c) rfl (cfg_agg c) (agg_cells HJ4.out.cfg) ?_)
    | (guard_target = wpList _ _ _ ({ dst := some _, op := Op.load _ _, type := _, pos := _, after := _, guard := some _ } :: _) _ _; refine wpListG_load_agg 32 _ rfl ⟨w3.heap.size, 0, none⟩ rfl (X.V a cp) rfl (agg_rec _ _ _) (agg_cells (HJ4.out.recs ⟨w3.heap.size, X, a, cp⟩ (by simp)).blk) ?_))
  refine (jlog_c HJ4.out.rack c X HXO.out a cp (HJ4.out.recs ⟨w3.heap.size, X, a, cp⟩ (by simp)).bks HA4.out).mono ?_
  rintro e w5 ⟨rfl, h5, k5⟩
  obtain ⟨hfit, ht0, _, R5, hlog, hrj⟩ := HRJ0.out.log (x := X) (t := 0) (by rw [HXS.out, HSL.out]; decide) HXO.out (by rw [HXT.out]; decide) (by rw [HXT.out, HST.out]; decide) (by rw [HXS.out]; decide) (by rw [HXS.out]; decide) HXL.out
  rw [hlog] at h5 ⊢
  simp only [oErr]
  have HJ5 := hid (HJ4.out.keep h5 k5)
  have HRJ5 := hid hrj
  clear h5 k5 HJ4 hlog hrj hfit
  have c2 : w5.cell? ⟨g, 2, none⟩ = some (.int .i64 nn) := (cell_at HJ5.out.cfg).trans (by rw [Cfg.A2, HN.out])
  have hw1 : wrap64 ((nn : Int) - 1) = (nn : Int) - 1 := by unfold wrap64; omega
  go_wp2_with fail
  refine (within_c keep 0 ((nn : Int) - 1) _ (by omega) (by omega) (by omega)).mono ?_
  rintro e w6 ⟨rfl, rfl⟩
  obtain ⟨l0, l1⟩ := within_bd keep 0 ((nn : Int) - 1) (by omega)
  obtain ⟨lf, hlf⟩ := Int.eq_ofNat_of_zero_le l0
  have hlfn : lf < nn := by omega
  rw [hlf]
  have HO0 := hid (One.start HRJ5.out (upd_at _ _ _) (left := lf) (by rw [HNT.out]; exact hlfn))
  clear l0 l1 hlf hw1 c2
  go_wp2
  generalize hf5 : upd (fun _ => none) 0 X = f5 at *
  go_loopw [16] (fun t wr => ∃ i : Nat, t = .int .i64 i ∧ i ≤ nn ∧ ∃ R, One R c m f5 X lf i ∧ JE w wr S4 r R g c [⟨w3.heap.size, X, a, cp⟩]) (fun t _ => nn - (intOf t).toNat)
  case atStart => exact ⟨0, rfl, by omega, R5, HO0.out, HJ5.out⟩
  case round =>
    clear HO0 HJ5 HRJ5
    obtain ⟨i, rfl, hi, R, hone, hj⟩ := hrel
    have HJR := hid hj
    have HON := hid hone
    have c2 : wr.cell? ⟨g, 2, none⟩ = some (.int .i64 nn) := (cell_at hj.cfg).trans (by rw [Cfg.A2, HN.out])
    clear hj hone
    by_cases hlt : i < nn
    · have HLTN := hid (show i < c.n.toNat by rw [HNT.out]; exact hlt)
      by_cases hli : i < len
      · obtain ⟨ib, ioff, vi, rfl, hci⟩ := HI.out i hli
        have ci : wr.cell? ⟨ib, ioff + i, none⟩ = some (.int .i64 vi) := Ext.cell HJR.out.ext hci
        have i0 : (0 : Int) ≤ (i : Int) := by omega
        have i1 : (i : Int) < (len : Int) := by omega
        clear hci
        go_wp2_with (go_at_call 18; fail)
        refine (within_c vi 0 3 _ (by omega) (by omega) (by omega)).mono ?_
        rintro e w7 ⟨rfl, rfl⟩
        obtain ⟨q0, q1⟩ := within_bd vi 0 3 (by omega)
        generalize within vi 0 3 = ww at *
        by_cases hil : i = lf
        · have hil' : ((i : Int) == (lf : Int)) = true := by simp [hil]
          have HNX := hid (HON.out.skip HLTN.out)
          go_wp2
          go_roundw
          case rel => exact ⟨i + 1, by go_num, by omega, R, HNX.out, HJR.out⟩
          case measure => simp [intOf]; omega
        have hil' : ((i : Int) == (lf : Int)) = false := by rw [beq_eq_false_iff_ne]; omega
        clear c2 ci
        by_cases w1' : ww = 1
        · subst w1'
          go_wp2_with fail
          refine (at_die HJR.out.rack i).mono ?_
          rintro e w8 ⟨rfl, h8, k8⟩
          have HJ8 := hid (HJR.out.keep h8 k8)
          have HNX := hid (HON.out.die HLTN.out hil)
          clear h8 k8
          go_wp2
          go_roundw
          case rel => exact ⟨i + 1, by go_num, by omega, _, HNX.out, HJ8.out⟩
          case measure => simp [intOf]; omega
        by_cases w2' : ww = 2
        · subst w2'
          go_wp2_with fail
          refine (at_replace HJR.out.rack i).mono ?_
          rintro e w8 ⟨rfl, h8, k8⟩
          have HJ8 := hid (HJR.out.keep h8 k8)
          have HNX := hid (HON.out.replace HLTN.out hil)
          clear h8 k8
          go_wp2
          go_roundw
          case rel => exact ⟨i + 1, by go_num, by omega, _, HNX.out, HJ8.out⟩
          case measure => simp [intOf]; omega
        by_cases w3' : ww = 3
        · subst w3'
          go_wp2_with fail
          refine (at_rot HJR.out.rack i 1 3 9 (by omega)).mono ?_
          rintro e w8 ⟨rfl, h8, k8⟩
          obtain ⟨bb, hbb⟩ : ∃ bb, R.rotOk i 1 3 9 = bb := ⟨_, rfl⟩
          rw [hbb]
          have HJ8 := hid (HJR.out.keep h8 k8)
          have HNX := hid (HON.out.rot HLTN.out hil)
          clear h8 k8 hbb
          go_wp2
          go_roundw
          case rel => exact ⟨i + 1, by go_num, by omega, _, HNX.out, HJ8.out⟩
          case measure => simp [intOf]; omega
        have b1 : (ww == 1) = false := by simpa using w1'
        have b2 : (ww == 2) = false := by simpa using w2'
        have b3 : (ww == 3) = false := by simpa using w3'
        have HNX := hid (HON.out.skip HLTN.out)
        go_wp2
        go_roundw
        case rel => exact ⟨i + 1, by go_num, by omega, R, HNX.out, HJR.out⟩
        case measure => simp [intOf]; omega
      · have i1 : ¬ (i : Int) < (len : Int) := by omega
        have HNX := hid (HON.out.skip HLTN.out)
        by_cases hil : i = lf
        · have hil' : ((i : Int) == (lf : Int)) = true := by simp [hil]
          go_wp2
          go_roundw
          case rel => exact ⟨i + 1, by go_num, by omega, R, HNX.out, HJR.out⟩
          case measure => simp [intOf]; omega
        have hil' : ((i : Int) == (lf : Int)) = false := by rw [beq_eq_false_iff_ne]; omega
        go_wp2
        go_roundw
        case rel => exact ⟨i + 1, by go_num, by omega, R, HNX.out, HJR.out⟩
        case measure => simp [intOf]; omega
    · obtain rfl : nn = i := by omega
      have HSLOT := hid ((HNT.out ▸ HON.out : One R c m f5 X lf c.n.toNat).slot HXL.out)
      go_wp2_with (guard_target = wpList _ _ _ ({ dst := some _, op := Op.load _ _, type := _, pos := _, after := _, guard := none } :: _) _ _; refine wpList_load_agg rfl 23 _ rfl ⟨g, 0, none⟩ rfl (Cfg.A c) (cfg_agg c) (agg_cells HJR.out.cfg) ?_)
      refine (jslot_c HJR.out.rack c 0).mono ?_
      rintro e w8 ⟨a8, c8, rfl, x8, b8, l8⟩
      rw [HSLOT.out, HXS.out] at b8 ⊢
      simp only [oErr]
      have J8 := HJR.out.put x8 X a8 c8 b8 l8
      obtain ⟨W8, hW8⟩ : ∃ W, w8.alloc (.cells (X.V a8 c8) 32) = W := ⟨_, rfl⟩
      rw [hW8] at J8
      have HJ8 := hid J8
      have HW8 := hid hW8
      have hbs : (w8.alloc (.cells (Rcd.none_.V none 0) 32)).heap[w8.heap.size]? = some (.cells (Rcd.none_.V none 0) 32 (0, 0)) := block_alloc
      clear x8 b8 l8 J8 hW8 HA4 HBX c2
      go_wp2_with (first
        | (guard_target = wpList _ _ _ ({ dst := none, op := Op.store _ _ _, type := _, pos := _, after := _, guard := none } :: _) _ _; have hb0 := hbs; clear hbs; refine wpList_store_whole rfl 32 _ _ rfl w8.heap.size rfl (X.V a8 c8) _ rfl 32 (agg_rec _ _ _) hb0 rfl (V_one _ _ _) ?_; rw [setRow_alloc, HW8.out])
        | (guard_target = wpList _ _ _ ({ dst := some _, op := Op.load _ _, type := _, pos := _, after := _, guard := some _ } :: _) _ _; refine wpListG_load_agg 32 _ rfl ⟨w3.heap.size, 0, none⟩ rfl (X.V a cp) rfl (agg_rec _ _ _) (agg_cells (HJ8.out.recs ⟨w3.heap.size, X, a, cp⟩ (by simp)).blk) ?_)
        | (guard_target = wpList _ _ _ ({ dst := some _, op := Op.load _ _, type := _, pos := _, after := _, guard := some _ } :: _) _ _; refine wpListG_load_agg 32 _ rfl ⟨w8.heap.size, 0, none⟩ rfl (X.V a8 c8) rfl (agg_rec _ _ _) (agg_cells (HJ8.out.recs ⟨w8.heap.size, X, a8, c8⟩ (by simp)).blk) ?_))
      refine (record_c X HXO.out (by have := HXL.out; have := HK.out; omega) a a8 cp c8 W8 (HJ8.out.recs ⟨w3.heap.size, X, a, cp⟩ (by simp)).bks (HJ8.out.recs ⟨w8.heap.size, X, a8, c8⟩ (by simp)).bks).mono ?_
      rintro e w9 ⟨rfl, x9⟩
      have HX9 := hid (Ext.trans HJ8.out.ext x9)
      clear x9
      go_wp2_with (go_at_call 3; fail)
      refine (journalRuns_c w9 (HG.out.only HX9.out (fun x => x))).mono ?_
      rintro e w10 ⟨rfl, x10⟩
      have HX10 := hid (Ext.trans HX9.out x10)
      clear x10
      go_wp2
      go_ret
      exact ⟨rfl, HX10.out⟩
end Go.Proofs.YtmjembnciffgfaaDoor

/- A region that draws its order, walked along a tree in which up to three loud operations may come up at once. -/
namespace Go.Proofs.YtmjembnciffgfaaDoor
set_option linter.unusedVariables false
set_option linter.unusedSectionVars false
open Go
section
variable {P : Program} {ops : Array Oper} {Q : Exit → Act → World → Prop} {md : Region.Mode} {E S : World → World → Prop} [hE : Pre E] [hS : Pre S] [hES : Within2 E S]
inductive TTree where
  | fin (ps : List Nat)
  | one (ps : List Nat) (i : Nat) (k : TTree)
  | two (ps : List Nat) (i j : Nat) (k l : TTree)
  | three (ps : List Nat) (i j h : Nat) (k l m : TTree)
def wpT (E S : World → World → Prop) (P : Program) (ops : Array Oper) (Q : Exit → Act → World → Prop) (T : Act → World → Prop) : TTree → Act → World → Prop
  | .fin ps, a, w => wpSQ E S P ops w (fun a' => ∀ w', E w w' → T a' w') (opsAt ops ps) a
  | .one ps i k, a, w => wpSQ E S P ops w (fun a' => ∀ w', E w w' → wpList P ops (Exit.then (fun a'' w'' => S w' w'' ∧ wpT E S P ops Q T k a'' w'') Q) [ops.getD i default] a' w') (opsAt ops ps) a
  | .two ps i j k l, a, w => wpSQ E S P ops w (fun a' => ∀ w', E w w' → wpList P ops (Exit.then (fun a'' w'' => S w' w'' ∧ wpT E S P ops Q T k a'' w'') Q) [ops.getD i default] a' w' ∧ wpList P ops (Exit.then (fun a'' w'' => S w' w'' ∧ wpT E S P ops Q T l a'' w'') Q) [ops.getD j default] a' w') (opsAt ops ps) a
  | .three ps i j h k l m, a, w => wpSQ E S P ops w (fun a' => ∀ w', E w w' → wpList P ops (Exit.then (fun a'' w'' => S w' w'' ∧ wpT E S P ops Q T k a'' w'') Q) [ops.getD i default] a' w' ∧ wpList P ops (Exit.then (fun a'' w'' => S w' w'' ∧ wpT E S P ops Q T l a'' w'') Q) [ops.getD j default] a' w' ∧ wpList P ops (Exit.then (fun a'' w'' => S w' w'' ∧ wpT E S P ops Q T m a'' w'') Q) [ops.getD h default] a' w') (opsAt ops ps) a
theorem wpT_loud {a : Act} {w' : World} {o : Oper} {k : TTree} {T : Act → World → Prop}
    (h : ∀ K : Act → World → Prop, (∀ a w, S w' w → wpT E S P ops Q T k a w → K a w) → wpList P ops (Exit.then K Q) [o] a w') : wpList P ops (Exit.then (fun a'' w'' => S w' w'' ∧ wpT E S P ops Q T k a'' w'') Q) [o] a w' :=
  h _ (fun _ _ h1 h2 => ⟨h1, h2⟩)
def tB (md : Region.Mode) (ops : Array Oper) (n : Nat) (g : Array Bool → Bool) : TTree → Array Bool → Bool
  | .fin ps, listed => mixPureB md ops g ps listed && ps.all (decide <| · < n)
  | .one ps i k, listed => mixPureB md ops (fun l => decide (Region.ready md ops l = [i]) && tB md ops n g k (l.setIfInBounds i true)) ps listed && ps.all (decide <| · < n) && decide (i < n)
  | .two ps i j k m, listed => mixPureB md ops (fun l => decide (Region.ready md ops l = [i, j]) && tB md ops n g k (l.setIfInBounds i true) && tB md ops n g m (l.setIfInBounds j true)) ps listed && ps.all (decide <| · < n) && decide (i < n) && decide (j < n)
  | .three ps i j h k m t, listed => mixPureB md ops (fun l => decide (Region.ready md ops l = [i, j, h]) && tB md ops n g k (l.setIfInBounds i true) && tB md ops n g m (l.setIfInBounds j true) && tB md ops n g t (l.setIfInBounds h true)) ps listed && ps.all (decide <| · < n) && decide (i < n) && decide (j < n) && decide (h < n)
def tLen : TTree → Option Nat
  | .fin ps => some ps.length
  | .one ps _ k => (tLen k).map fun n => ps.length + (n + 1)
  | .two ps _ _ k l => match tLen k, tLen l with
    | some n, some m => if n = m then some (ps.length + (n + 1)) else none
    | _, _ => none
  | .three ps _ _ _ k l t => match tLen k, tLen l, tLen t with
    | some n, some m, some q => if n = m ∧ n = q then some (ps.length + (n + 1)) else none
    | _, _, _ => none
theorem t_any {n : Nat} {g : Array Bool → Bool} {T : Act → World → Prop} (hs : Region.noSelect ops = true) (hQ : ∀ c (a : Act) d v w, Q (.panic c) (a.put d v) w → Q (.panic c) a w)
    (hwait : ∀ i, i < n → ∀ listed, HeadInv md ops n listed → listed.getD i true = false → ∀ j ∈ Region.ready md ops listed, j < n)
    (hdone : ∀ listed, g listed = true → ∀ j ∈ Region.ready md ops listed, n ≤ j) : ∀ (t : TTree) (N : Nat) (listed : Array Bool) (a : Act) (w : World), HeadInv md ops n listed →
    tLen t = some N → tB md ops n g t listed = true → wpT E S P ops Q T t a w → sAny E S P md ops Q n (fun l a w => g l = true ∧ ∀ w', E w w' → T a w') N listed a w
  | .fin ps, N, listed, a, w, inv, hN, hB, h => by
    obtain rfl : ps.length = N := by simpa [tLen] using hN
    simp only [tB, Bool.and_eq_true] at hB
    exact s_pure (f := 0) (k := g) (K := fun a' => ∀ w', E w w' → T a' w') hs hQ hwait (fun _ _ _ _ e h => ⟨h.1, fun w' e' => h.2 w' (hE.trans e e')⟩) (fun l a w h => hdone l h.1) (fun l a _ hg hk => by unfold sAny; exact ⟨hg, hk⟩) ps listed a inv hB.1 hB.2 h
  | .one ps i k, N, listed, a, w, inv, hN, hB, h => by
    simp only [tLen, Option.map_eq_some_iff] at hN
    obtain ⟨m, hm, rfl⟩ := hN
    simp only [tB, Bool.and_eq_true, decide_eq_true_eq] at hB
    refine s_pure (f := m + 1) hs hQ hwait (fun _ _ _ _ e h => ⟨h.1, fun w' e' => h.2 w' (hE.trans e e')⟩) (fun l a w h => hdone l h.1) ?_ ps listed a inv hB.1.1 hB.1.2 h
    intro l a inv hl hk
    simp only [Bool.and_eq_true, decide_eq_true_eq] at hl
    obtain ⟨hr, hB'⟩ := hl
    refine ⟨by rw [hr]; simp, fun j hj => ?_⟩
    rw [hr] at hj
    obtain rfl : j = i := by simpa using hj
    have hj' : j ∈ Region.ready md ops l := by rw [hr]; simp
    exact ⟨hB.2, fun w' hw' => loudS hj' (fun a' w'' h' => ⟨h'.1, t_any hs hQ hwait hdone k m _ a' w'' (inv.set hj' hB.2) hm hB' h'.2⟩) (hk w' hw')⟩
  | .two ps i j k m, N, listed, a, w, inv, hN, hB, h => by
    simp only [tLen] at hN
    split at hN
    · rename_i n1 n2 hn hn'
      split at hN
      · rename_i e
        subst e
        cases hN
        simp only [tB, Bool.and_eq_true, decide_eq_true_eq] at hB
        refine s_pure (f := n1 + 1) hs hQ hwait (fun _ _ _ _ e h => ⟨h.1, fun w' e' => h.2 w' (hE.trans e e')⟩) (fun l a w h => hdone l h.1) ?_ ps listed a inv hB.1.1.1 hB.1.1.2 h
        intro l a inv hl hk
        simp only [Bool.and_eq_true, decide_eq_true_eq] at hl
        obtain ⟨⟨hr, hB1⟩, hB2⟩ := hl
        refine ⟨by rw [hr]; simp, fun q hq => ?_⟩
        have hq' := hq
        rw [hr] at hq
        have hq : q = i ∨ q = j := by simpa using hq
        rcases hq with rfl | rfl
        · exact ⟨hB.1.2, fun w' hw' => loudS hq' (fun a' w'' h' => ⟨h'.1, t_any hs hQ hwait hdone k _ _ a' w'' (inv.set hq' hB.1.2) hn hB1 h'.2⟩) (hk w' hw').1⟩
        · exact ⟨hB.2, fun w' hw' => loudS hq' (fun a' w'' h' => ⟨h'.1, t_any hs hQ hwait hdone m _ _ a' w'' (inv.set hq' hB.2) hn' hB2 h'.2⟩) (hk w' hw').2⟩
      · cases hN
    · cases hN
  | .three ps i j h k m t, N, listed, a, w, inv, hN, hB, hh => by
    simp only [tLen] at hN
    split at hN
    · rename_i n1 n2 n3 hn hn' hn''
      split at hN
      · rename_i e
        obtain ⟨e, e'⟩ := e
        subst e; subst e'
        cases hN
        simp only [tB, Bool.and_eq_true, decide_eq_true_eq] at hB
        refine s_pure (f := n1 + 1) hs hQ hwait (fun _ _ _ _ e h => ⟨h.1, fun w' e' => h.2 w' (hE.trans e e')⟩) (fun l a w h => hdone l h.1) ?_ ps listed a inv hB.1.1.1.1 hB.1.1.1.2 hh
        intro l a inv hl hk
        simp only [Bool.and_eq_true, decide_eq_true_eq] at hl
        obtain ⟨⟨⟨hr, hB1⟩, hB2⟩, hB3⟩ := hl
        refine ⟨by rw [hr]; simp, fun q hq => ?_⟩
        have hq' := hq
        rw [hr] at hq
        have hq : q = i ∨ q = j ∨ q = h := by simpa using hq
        rcases hq with rfl | rfl | rfl
        · exact ⟨hB.1.1.2, fun w' hw' => loudS hq' (fun a' w'' h' => ⟨h'.1, t_any hs hQ hwait hdone k _ _ a' w'' (inv.set hq' hB.1.1.2) hn hB1 h'.2⟩) (hk w' hw').1⟩
        · exact ⟨hB.1.2, fun w' hw' => loudS hq' (fun a' w'' h' => ⟨h'.1, t_any hs hQ hwait hdone m _ _ a' w'' (inv.set hq' hB.1.2) hn' hB2 h'.2⟩) (hk w' hw').2.1⟩
        · exact ⟨hB.2, fun w' hw' => loudS hq' (fun a' w'' h' => ⟨h'.1, t_any hs hQ hwait hdone t _ _ a' w'' (inv.set hq' hB.2) hn'' hB3 h'.2⟩) (hk w' hw').2.2⟩
      · cases hN
    · cases hN

/-- With a tail, from number n on, in one order. -/
theorem wp_region_tree_tail {id : Nat} {a : Act} {w : World} {l : List Oper} (n : Nat) (t : TTree) (hm : P.follows .mixedOrders = true)
    (hB : (Region.noSelect l.toArray && decide (n < l.toArray.size) && Region.sinkB .any l.toArray n && Region.chainB .any l.toArray n && decide (tLen t = some n) &&
      tB .any l.toArray n (Region.seqB .any l.toArray (l.toArray.size - n) n) t (Array.replicate l.toArray.size false)) = true)
    (hQ : ∀ c (a : Act) d v w, Q (.panic c) (a.put d v) w → Q (.panic c) a w)
    (h : wpT E S P l.toArray Q (wpList P l.toArray Q (l.drop n)) t a w.drew) : (Code.region id l.toArray true).wp P Q a w := by
  simp only [Bool.and_eq_true, decide_eq_true_eq] at hB
  obtain ⟨⟨⟨⟨⟨h1, hn⟩, hs⟩, hc⟩, hN⟩, hB⟩ := hB
  refine wp_region_any hm ?_
  have hdl : (l.drop n).length = l.toArray.size - n := by simp
  have H := t_any (P := P) (Q := Q) (md := .any) (n := n) (T := wpList P l.toArray Q (l.drop n)) h1 hQ
    (fun i hi listed inv hun j hj => by
      rcases Nat.lt_or_ge j n with h | h
      · exact h
      · exact absurd hj (tail_waits hs hc hn inv _ i rfl hi hun j h))
    (fun listed hg => seqB_ready hg) t n _ a w.drew invS0 hN hB h
  have := sAny_wp (g := l.toArray.size - n) (fun listed a' w' hL => by
    have := wpAny_of_seq (P := P) (md := .any) (Q' := Q) (l.drop n) n listed a' w' (fun j => by simp [List.getElem?_drop]) (by rw [hdl]; exact hL.1) (hL.2 w' (hE.refl w'))
    rwa [hdl] at this) _ _ _ _ H
  rw [show n + (l.toArray.size - n) = l.toArray.size by omega] at this
  exact this
/-- Without a tail. -/
theorem wp_region_tree_all {id : Nat} {a : Act} {w : World} {l : List Oper} (t : TTree) (hm : P.follows .mixedOrders = true)
    (hB : (Region.noSelect l.toArray && decide (tLen t = some l.toArray.size) &&
      tB .any l.toArray l.toArray.size (fun x => (Region.ready .any l.toArray x).isEmpty) t (Array.replicate l.toArray.size false)) = true)
    (hQ : ∀ c (a : Act) d v w, Q (.panic c) (a.put d v) w → Q (.panic c) a w)
    (h : wpT E S P l.toArray Q (fun a w => Q .normal a w) t a w.drew) : (Code.region id l.toArray true).wp P Q a w := by
  simp only [Bool.and_eq_true, decide_eq_true_eq] at hB
  obtain ⟨⟨h1, hN⟩, hB⟩ := hB
  refine wp_region_any hm ?_
  have H := t_any (P := P) (Q := Q) (md := .any) (n := l.toArray.size) (T := fun a w => Q .normal a w) h1 hQ
    (fun i hi listed inv hun j hj => by
      obtain ⟨_, o, ho, _⟩ := mem_ready.1 hj
      exact (Array.getElem?_eq_some_iff.1 ho).1)
    (fun listed hg j hj => by
      have : Region.ready .any l.toArray listed = [] := by simpa using hg
      rw [this] at hj; cases hj) t _ _ a w.drew invS0 hN hB h
  have := sAny_wp (g := 0) (fun listed a' w' hL => (⟨by simpa using hL.1, hL.2 w' (hE.refl w')⟩ : wpAny P .any l.toArray Q 0 listed a' w')) _ _ _ _ H
  exact this
end
end Go.Proofs.YtmjembnciffgfaaDoor

/- Records that a drawn region laid down, in whatever order. -/
namespace Go.Proofs.YtmjembnciffgfaaDoor
set_option linter.unusedVariables false
open Go Go.RowKit
/-- Numbers of 64 bits that came in. -/
theorem IsRow.bits {w : World} {a : Option Addr} {len cap : Nat} {z : List Int} (h : IsRow .u64 w a len cap z) : BitsAt w a len ((z.take len).map Int.toNat) := by
  rcases h with ⟨rfl, rfl, rfl, rfl⟩ | ⟨x, rfl, hlc, hm, hz, hc, hw⟩
  · exact ⟨rfl, by simp, .inl rfl⟩
  · have hb : ∀ i, i < z.length → 0 ≤ z.getD i 0 ∧ z.getD i 0 ≤ 18446744073709551615 := fun i hi => by
      have e : z.getD i 0 = z[i] := by simp [hi]
      rw [e]; exact bounds_u64 (hw _ (List.getElem_mem hi))
    refine ⟨by simp; omega, fun y hy => ?_, ?_⟩
    · obtain ⟨q, hq, rfl⟩ := List.mem_map.1 hy
      have := bounds_u64 (hw q (List.mem_of_mem_take hq)); omega
    · by_cases h0 : len = 0
      · exact .inl h0
      · have h1 := hc 0 (by omega)
        obtain ⟨b, off, sp⟩ := x
        rcases sp with _ | sp
        · refine .inr ⟨b, off, rfl, fun i hi => ?_⟩
          have := hc i (by omega)
          have e : (⟨b, off, none⟩ : Addr).add i = ⟨b, off + i, none⟩ := by unfold Addr.add; split <;> simp_all
          rw [e] at this
          rw [this]
          have h2 := hb i (by omega)
          have e3 : ((z.take len).map Int.toNat).getD i 0 = (z.getD i 0).toNat := by
            have : i < z.length := by omega
            simp [List.getD_eq_getElem?_getD, List.getElem?_take, hi, this]
          rw [e3]
          congr 2; omega
        · exfalso
          unfold World.cell? Addr.add at h1
          split at h1 <;> simp_all
theorem BlksAt.lt {w : World} {a : Option Addr} {l : List (List Nat)} (h : BlksAt w a l) (hn : l ≠ []) : ∀ g, a = some ⟨g, 0, none⟩ → g < w.heap.size := fun g hg => by
  rcases hl : l with _ | ⟨b, l'⟩
  · exact absurd hl hn
  · obtain ⟨g', hg', hc⟩ := h 0 b (by rw [hl]; rfl)
    rw [hg'] at hg
    cases hg
    exact World.block_lt_of_cell? w _ (hc 0 (by omega))
/-- A record in a block, what lies behind a mark. -/
structure RecN (B : Nat) (w : World) (p : RecP) : Prop where
  blk : w.heap[p.g]? = some (.cells (p.x.V p.a p.cp) 32 (0, 0))
  at_ : B ≤ p.g
  bks : BlksAt w p.a p.x.blocks
  own : ∀ g, p.a = some ⟨g, 0, none⟩ → B ≤ g
theorem RecN.ok {B : Nat} {w0 w : World} {p : RecP} (h : RecN B w p) (hB : w0.heap.size = B) (S : Nat → Prop) : RecOk (wideS S w0 w) w p :=
  ⟨h.blk, .inr ⟨by rw [hB]; exact h.at_, lt_of_block h.blk⟩, h.bks, fun q g hg => .inr ⟨by rw [hB]; exact h.own g hg, h.bks.lt q g hg⟩⟩
theorem JE.lay {w0 w w' : World} {S : Nat → Prop} {r : Nat} {R : Rck} {gc : Nat} {c : Cfg} {L : List RecP} (h : JE w0 w S r R gc c L) (e : Ext w w') (M : List RecP) (hM : ∀ p ∈ M, RecN w.heap.size w' p) :
    JE w0 w' (wideS S w w') r R gc c (M ++ L) := by
  have hw := h.wide e
  exact ⟨hw.rack, hw.ext, hw.low, hw.cfg, hw.cfgS, fun p hp => (List.mem_append.1 hp).elim (fun q => (hM p q).ok rfl S) (hw.recs p)⟩
end Go.Proofs.YtmjembnciffgfaaDoor
