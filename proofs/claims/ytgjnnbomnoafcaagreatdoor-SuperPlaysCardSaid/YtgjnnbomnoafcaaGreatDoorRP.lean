/- Texts of one proof, joined: RfCfg, RfFits, RfSupA, RfSupB, RfSupC, RfSupD, RfFind. -/
import Derived.Test.YtgjnnbomnoafcaaGreatDoorRH
import Derived.Test.YtgjnnbomnoafcaaGreatDoorRM
import Derived.Test.YtgjnnbomnoafcaaGreatDoorRN
import Derived.Test.YtgjnnbomnoafcaaGreatDoorRL
import Derived.Test.YtgjnnbomnoafcaaGreatDoorRB
import Derived.Test.YtgjnnbomnoafcaaGreatDoorRO
set_option linter.unusedVariables false
set_option linter.unusedSimpArgs false
/- The reference: right configurations, their sectors. -/
namespace Go.Proofs.YtgjnnbomnoafcaaGreatDoor
set_option linter.unusedVariables false
open Go Go.RowKit
theorem Cfg.right_conj (id k n st sl : Int) : (⟨id, k, n, st, sl⟩ : Cfg).right = true ↔ (1 ≤ id) ∧ (id < 2147483648) ∧ (1 ≤ k) ∧ (k ≤ n) ∧ (n ≤ 8) ∧ (1 ≤ st) ∧ (st ≤ 64) ∧ (1 ≤ sl) ∧ (sl ≤ 4) := by
  rw [Cfg.right_iff]
  exact ⟨fun h => by obtain ⟨h1, h2, h3, h4, h5, h6, h7, h8, h9⟩ := h; simp only at h1 h2 h3 h4 h5 h6 h7 h8 h9; omega, fun h => by constructor <;> simp only <;> omega⟩
set_option maxRecDepth 100000 in
set_option maxHeartbeats 4000000 in
theorem refright_c (c : Cfg) (w : World) :
    Calls Tryz.prog 137 #[.agg (Cfg.A c)] w fun e w' => e = .returned (.bool c.right) ∧ Ext w w' := by
  have a0 := Cfg.A0 c
  have a1 := Cfg.A1 c
  have a2 := Cfg.A2 c
  have a3 := Cfg.A3 c
  have a4 := Cfg.A4 c
  obtain ⟨id, k, n, st, sl⟩ := c
  obtain ⟨b, hb⟩ : ∃ b, (⟨id, k, n, st, sl⟩ : Cfg).right = b := ⟨_, rfl⟩
  have HC := hid (Cfg.right_conj id k n st sl)
  have HT : Hid ((1 ≤ id) → (id < 2147483648) → (1 ≤ k) → (k ≤ n) → (n ≤ 8) → (1 ≤ st) → (st ≤ 64) → (1 ≤ sl) → (sl ≤ 4) → b = true) := hid fun q0 q1 q2 q3 q4 q5 q6 q7 q8 => by rw [← hb]; exact HC.out.2 ⟨q0, q1, q2, q3, q4, q5, q6, q7, q8⟩
  have HF : Hid (¬ ((1 ≤ id) ∧ (id < 2147483648) ∧ (1 ≤ k) ∧ (k ≤ n) ∧ (n ≤ 8) ∧ (1 ≤ st) ∧ (st ≤ 64) ∧ (1 ≤ sl) ∧ (sl ≤ 4)) → b = false) := hid fun q => by
    rw [← hb]
    rcases hq : (⟨id, k, n, st, sl⟩ : Cfg).right with _ | _
    · rfl
    · exact absurd (HC.out.1 hq) q
  rw [hb]
  simp only at a0 a1 a2 a3 a4
  clear hb HC
  generalize Cfg.A _ = A at *
  by_cases q0 : 1 ≤ id
  · by_cases q1 : id < 2147483648
    · by_cases q2 : 1 ≤ k
      · by_cases q3 : k ≤ n
        · by_cases q4 : n ≤ 8
          · by_cases q5 : 1 ≤ st
            · by_cases q6 : st ≤ 64
              · by_cases q7 : 1 ≤ sl
                · by_cases q8 : sl ≤ 4
                  · have HV := hid (HT.out q0 q1 q2 q3 q4 q5 q6 q7 q8)
                    go_enter Tryz.func137, Tryz.ntmps137
                    go_wp2
                    go_ret
                    exact ⟨ret_bool HV.out.symm, (Ext.refl w).alloc _⟩
                  · have HV := hid (HF.out (fun e => q8 (by have := e; omega)))
                    go_enter Tryz.func137, Tryz.ntmps137
                    go_wp2
                    go_ret
                    exact ⟨ret_bool HV.out.symm, (Ext.refl w).alloc _⟩
                · have HV := hid (HF.out (fun e => q7 (by have := e; omega)))
                  go_enter Tryz.func137, Tryz.ntmps137
                  go_wp2
                  go_ret
                  exact ⟨ret_bool HV.out.symm, (Ext.refl w).alloc _⟩
              · have HV := hid (HF.out (fun e => q6 (by have := e; omega)))
                go_enter Tryz.func137, Tryz.ntmps137
                go_wp2
                go_ret
                exact ⟨ret_bool HV.out.symm, (Ext.refl w).alloc _⟩
            · have HV := hid (HF.out (fun e => q5 (by have := e; omega)))
              go_enter Tryz.func137, Tryz.ntmps137
              go_wp2
              go_ret
              exact ⟨ret_bool HV.out.symm, (Ext.refl w).alloc _⟩
          · have HV := hid (HF.out (fun e => q4 (by have := e; omega)))
            go_enter Tryz.func137, Tryz.ntmps137
            go_wp2
            go_ret
            exact ⟨ret_bool HV.out.symm, (Ext.refl w).alloc _⟩
        · have HV := hid (HF.out (fun e => q3 (by have := e; omega)))
          go_enter Tryz.func137, Tryz.ntmps137
          go_wp2
          go_ret
          exact ⟨ret_bool HV.out.symm, (Ext.refl w).alloc _⟩
      · have HV := hid (HF.out (fun e => q2 (by have := e; omega)))
        go_enter Tryz.func137, Tryz.ntmps137
        go_wp2
        go_ret
        exact ⟨ret_bool HV.out.symm, (Ext.refl w).alloc _⟩
    · have HV := hid (HF.out (fun e => q1 (by have := e; omega)))
      go_enter Tryz.func137, Tryz.ntmps137
      go_wp2
      go_ret
      exact ⟨ret_bool HV.out.symm, (Ext.refl w).alloc _⟩
  · have HV := hid (HF.out (fun e => q0 (by have := e; omega)))
    go_enter Tryz.func137, Tryz.ntmps137
    go_wp2
    go_ret
    exact ⟨ret_bool HV.out.symm, (Ext.refl w).alloc _⟩
set_option maxRecDepth 100000 in
theorem refsectors_c (c : Cfg) (h : c.Good) (w : World) :
    Calls Tryz.prog 183 #[.agg (Cfg.A c)] w fun e w' => e = .returned (.int .i64 c.sectors) ∧ Ext w w' := by
  have a1 := Cfg.A1 c
  have a3 := Cfg.A3 c
  have a4 := Cfg.A4 c
  obtain ⟨b0, b1⟩ := sectors_bd c h
  have b2 := h.st0
  have b3 := h.st1
  have HR : Hid (c.sectors = 1 + c.slots * c.k + c.stripes) := hid rfl
  rw [HR.out]
  clear HR h
  obtain ⟨id, k, n, st, sl⟩ := c
  simp only at a1 a3 a4 b0 b1 b2 b3 ⊢
  generalize Cfg.A _ = A at *
  obtain ⟨p, hp⟩ : ∃ p, sl * k = p := ⟨_, rfl⟩
  rw [hp] at b0 b1 ⊢
  have hw : wrap64 (sl * k) = p := by rw [hp]; unfold wrap64; omega
  have w2 : wrap64 (1 + p) = 1 + p := by unfold wrap64; omega
  have w3 : wrap64 (1 + p + st) = 1 + p + st := by unfold wrap64; omega
  clear hp b0 b1 b2 b3
  go_enter Tryz.func183, Tryz.ntmps183
  go_wp2
  go_ret
  exact ⟨ret_int (by simp only [hw, w2, w3]), (Ext.refl w).alloc _⟩
end Go.Proofs.YtgjnnbomnoafcaaGreatDoor

/- The reference's rack: what fits it. -/
namespace Go.Proofs.YtgjnnbomnoafcaaGreatDoor
set_option linter.unusedVariables false
open Go Go.RowKit
attribute [local irreducible] wpSQ
set_option maxRecDepth 100000 in
set_option maxHeartbeats 2000000 in
theorem rffits_c {S : Nat → Prop} {w : World} {p : Nat} {R : Rck} (h : FRackAt S w p R) (hn1 : 1 ≤ R.l.length) (c : Cfg) :
    Calls Tryz.prog 132 #[.pointer (some ⟨p, 0, none⟩), .agg (Cfg.A c)] w fun e w' => e = .returned (.bool (R.fits c)) ∧ Ext w w' := by
  obtain ⟨W0, hW0⟩ : ∃ W, w.alloc (.cells (Cfg.A c) 74) = W := ⟨_, rfl⟩
  have X0 : Ext w W0 := hW0 ▸ (Ext.refl w).alloc _
  have xd : Ext W0 W0.drew := (Ext.refl W0).drew
  have hc : W0.heap[w.heap.size]? = some (.cells (Cfg.A c) 74 (0, 0)) := hW0 ▸ heap_alloc_new _ _
  have lc : Hid (∀ x : SW Ext W0.drew, ∀ j v, (Cfg.A c).toList[j]? = some v → x.w.cell? ((⟨w.heap.size, 0, none⟩ : Addr).add j) = some v) := hid fun x => agg_cells ((Ext.trans xd x.ext).at hc)
  have c2 : ∀ x : SW Ext W0.drew, x.w.cell? ⟨w.heap.size, 2, none⟩ = some (.int .i64 c.n) := fun x => (cell_at ((Ext.trans xd x.ext).at hc)).trans (Cfg.A2 c)
  obtain ⟨b, _, cc, d, K, e1, rfl, e2a, rfl, hF, -, -⟩ := fat_disk h (j := 0) hn1
  have e2 : w.cell? ⟨b, 0, none⟩ = some (.pointer (some ⟨K.p, 0, none⟩)) := e2a
  clear e2a
  obtain ⟨b2, cc2, e3⟩ : ∃ b2 cc2, w.cell? ⟨K.p, 0, none⟩ = some (.slice (some ⟨b2, 0, none⟩) R.sectors cc2) := ⟨K.lb, K.c, by
    have q : w.cell? ⟨K.p, 0, none⟩ = some (.slice (some ⟨K.lb, 0, none⟩) K.n K.c) := cell_at hF.own
    have e : R.sectors = K.n := hF.len
    rw [e]; exact q⟩
  obtain ⟨d, hd⟩ : ∃ d, K.p = d := ⟨_, rfl⟩
  obtain ⟨n, hn⟩ : ∃ n, R.l.length = n := ⟨_, rfl⟩
  obtain ⟨m, hm⟩ : ∃ m, R.sectors = m := ⟨_, rfl⟩
  rw [hd] at e2 e3
  rw [hn] at e1 hn1
  rw [hm] at e3
  have r1 : ∀ x : SW Ext W0.drew, x.w.cell? ⟨p, 0, none⟩ = some (.slice (some ⟨b, 0, none⟩) n cc) := fun x => Ext.cell (Ext.trans X0 (Ext.trans xd x.ext)) e1
  have r2 : ∀ x : SW Ext W0.drew, x.w.cell? ⟨b, 0, none⟩ = some (.pointer (some ⟨d, 0, none⟩)) := fun x => Ext.cell (Ext.trans X0 (Ext.trans xd x.ext)) e2
  have r3 : ∀ x : SW Ext W0.drew, x.w.cell? ⟨d, 0, none⟩ = some (.slice (some ⟨b2, 0, none⟩) m cc2) := fun x => Ext.cell (Ext.trans X0 (Ext.trans xd x.ext)) e3
  have n0 : (0 : Int) < (n : Int) := by omega
  have n00 : 0 < n := by omega
  have rc : Hid (∀ x : SW Ext W0.drew, Calls Tryz.prog 137 #[.agg (Cfg.A c)] x.w fun e w'' => e = .returned (.bool c.right) ∧ Ext x.w w'') := hid fun x => refright_c c x.w
  have HX0 := hid X0
  have HF : Hid (R.fits c = (c.right && decide (c.n = (n : Int)) && decide (c.sectors ≤ (m : Int)))) := hid (by rw [← hn, ← hm]; rfl)
  have HAG := hid (cfg_agg c)
  clear h hc X0 e1 e2 e3 hF hd hn hm
  go_enter Tryz.func132, Tryz.ntmps132
  go_wp2_with fail
  refine wp_region_rely_tail (S := Ext) 27 (.fin [0, 1, 2, 3, 4, 5, 6, 7, 8, 9, 10, 11, 12, 13, 14, 15, 16, 17, 18, 19, 20, 21, 22, 23, 24, 25, 26]) (by kernel_rfl) (by kernel_rfl) (fun _ _ d _ _ h => by cases d <;> exact h) ?_
  rw [wpS]
  simp only [opsAt, List.map_cons, List.map_nil, Array.getD_eq_getD_getElem?, List.getElem?_toArray, List.getElem?_cons_succ, List.getElem?_cons_zero, Option.getD_some]
  refine wpSQ_load_agg 74 _ rfl ⟨w.heap.size, 0, none⟩ rfl (Cfg.A c) rfl HAG.out lc.out ?_
  rcases hr : c.right with _ | _
  · rw [hr] at rc
    have HFI := hid (show R.fits c = false by rw [HF.out, hr]; rfl)
    (refine wpSQ_step (fun K hK => ?_); go_simp; first | (refine hK _ ?_; clear hK K) | (apply Exists.intro; refine ⟨fun x => ?_, hK _ ?_⟩; (exact rc.out x); clear hK K))
    (refine wpSQ_step (fun K hK => ?_); go_simp; first | (refine hK _ ?_; clear hK K) | (apply Exists.intro; refine ⟨fun x => ?_, hK _ ?_⟩; (fail); clear hK K))
    iterate 8 ((refine wpSQ_pass rfl (fun K hK => ?_); go_simp; refine hK _ ?_; clear hK K))
    iterate 2 ((refine wpSQ_step (fun K hK => ?_); go_simp; first | (refine hK _ ?_; clear hK K) | (apply Exists.intro; refine ⟨fun x => ?_, hK _ ?_⟩; (fail); clear hK K)))
    iterate 13 ((refine wpSQ_pass rfl (fun K hK => ?_); go_simp; refine hK _ ?_; clear hK K))
    (refine wpSQ_step (fun K hK => ?_); go_simp; first | (refine hK _ ?_; clear hK K) | (apply Exists.intro; refine ⟨fun x => ?_, hK _ ?_⟩; (fail); clear hK K))
    refine wpSQ_nil ?_
    intro W hW
    go_wp2
    go_ret
    exact ⟨ret_bool HFI.out.symm, Ext.trans HX0.out (Ext.trans xd hW)⟩
  · rw [hr] at rc
    have hg := (Cfg.right_iff c).1 hr
    rcases hn : c.n == (n : Int) with _ | _
    · have HFI := hid (show R.fits c = false by rw [HF.out, hr, decide_eq_false (by simpa using hn)]; rfl)
      clear hr hg
      (refine wpSQ_step (fun K hK => ?_); go_simp; first | (refine hK _ ?_; clear hK K) | (apply Exists.intro; refine ⟨fun x => ?_, hK _ ?_⟩; (exact rc.out x); clear hK K))
      iterate 9 ((refine wpSQ_step (fun K hK => ?_); go_simp; first | (refine hK _ ?_; clear hK K) | (apply Exists.intro; refine ⟨fun x => ?_, hK _ ?_⟩; (fail); clear hK K)))
      iterate 2 ((refine wpSQ_step (fun K hK => ?_); go_simp; first | (refine hK _ ?_; clear hK K) | (apply Exists.intro; refine ⟨fun x => ?_, hK _ ?_⟩; (fail); clear hK K)))
      iterate 13 ((refine wpSQ_pass rfl (fun K hK => ?_); go_simp; refine hK _ ?_; clear hK K))
      (refine wpSQ_step (fun K hK => ?_); go_simp; first | (refine hK _ ?_; clear hK K) | (apply Exists.intro; refine ⟨fun x => ?_, hK _ ?_⟩; (fail); clear hK K))
      refine wpSQ_nil ?_
      intro W hW
      go_wp2
      go_ret
      exact ⟨ret_bool HFI.out.symm, Ext.trans HX0.out (Ext.trans xd hW)⟩
    · have HFI := hid (show R.fits c = decide (c.sectors ≤ (m : Int)) by rw [HF.out, hr, decide_eq_true (by simpa using hn)]; rfl)
      have ss : Hid (∀ x : SW Ext W0.drew, Calls Tryz.prog 183 #[.agg (Cfg.A c)] x.w fun e w'' => e = .returned (.int .i64 c.sectors) ∧ Ext x.w w'') := hid fun x => refsectors_c c hg x.w
      clear hr hg
      (refine wpSQ_step (fun K hK => ?_); go_simp; first | (refine hK _ ?_; clear hK K) | (apply Exists.intro; refine ⟨fun x => ?_, hK _ ?_⟩; (exact rc.out x); clear hK K))
      iterate 9 ((refine wpSQ_step (fun K hK => ?_); go_simp; first | (refine hK _ ?_; clear hK K) | (apply Exists.intro; refine ⟨fun x => ?_, hK _ ?_⟩; (fail); clear hK K)))
      iterate 2 ((refine wpSQ_step (fun K hK => ?_); go_simp; first | (refine hK _ ?_; clear hK K) | (apply Exists.intro; refine ⟨fun x => ?_, hK _ ?_⟩; (fail); clear hK K)))
      refine wpSQ_load_agg 74 _ rfl ⟨w.heap.size, 0, none⟩ rfl (Cfg.A c) rfl HAG.out lc.out ?_
      (refine wpSQ_step (fun K hK => ?_); go_simp; first | (refine hK _ ?_; clear hK K) | (apply Exists.intro; refine ⟨fun x => ?_, hK _ ?_⟩; (exact ss.out x); clear hK K))
      iterate 12 ((refine wpSQ_step (fun K hK => ?_); go_simp; first | (refine hK _ ?_; clear hK K) | (apply Exists.intro; refine ⟨fun x => ?_, hK _ ?_⟩; (fail); clear hK K)))
      refine wpSQ_nil ?_
      intro W hW
      go_wp2
      go_ret
      exact ⟨ret_bool HFI.out.symm, Ext.trans HX0.out (Ext.trans xd hW)⟩
end Go.Proofs.YtgjnnbomnoafcaaGreatDoor

/- The reference's superblock: a few bytes copied into a frame's data. -/
namespace Go.Proofs.YtgjnnbomnoafcaaGreatDoor
set_option linter.unusedVariables false
open Go Go.RowKit
/-- Some bytes copied to the head of a frame's data. -/
theorem copy_part (W : World) (g : Nat) (f : Frm) (hf : f.Ok) (hg : W.heap[g]? = some (.cells (Frm.A f) 42 (0, 0))) (b off n : Nat) (l : List Nat) (hl : l.length = n) (hn : n ≤ 108) (h : BytesAt W (some ⟨b, off, none⟩) n l) (c c' : Nat) :
    Sem.run Tryz.prog (Builtin.copy_ #[38, 38] 3 #[.slice (some ⟨g, 4, none⟩) 108 c, .slice (some ⟨b, off, none⟩) n c']) W = .ok (.int .i64 (n : Nat)) (W.setRow g (Frm.A { f with data := l ++ f.data.drop n })) := by
  obtain ⟨i0, hi, hz0, hz1, hz2⟩ := info_parts info8
  have hr := run_copy_row (P := Tryz.prog) W 38 38 3 5 g 4 108 c ⟨b, off, none⟩ n c' (Frm.A f) 42 (l.map bv)
    Tryz.underlying38 (by rw [hi]; exact congrArg some hz1) hg (by rw [List.length_map, hl]; exact (Nat.min_eq_left hn).symm)
    (by
      intro j v hv
      rw [List.getElem?_map] at hv
      have hj : j < l.length := by
        rcases Nat.lt_or_ge j l.length with h' | h'
        · exact h'
        · rw [List.getElem?_eq_none h'] at hv; cases hv
      rw [List.getElem?_eq_getElem hj] at hv
      have e : (⟨b, off, none⟩ : Addr).add j = ⟨b, off + j, none⟩ := by unfold Addr.add; split <;> simp_all
      rw [e, h.get j (by omega), nth_eq hj]
      exact hv)
    (by rw [Frm.A_size f hf, List.length_map]; omega) (by intro v hv; obtain ⟨x, _, rfl⟩ := List.mem_map.1 hv; rfl)
  rw [hr, List.length_map, hl]
  refine congrArg (fun X => Result.ok (Value.int .i64 (n : Nat)) (W.setRow g X)) ?_
  have hd := hf.len
  rw [Frm.A_def, Frm.A_def]
  unfold Frm.cl
  apply Array.ext'
  simp [List.map_drop, Nat.add_comm]
end Go.Proofs.YtgjnnbomnoafcaaGreatDoor

/- The reference's superblock: its frame. -/
namespace Go.Proofs.YtgjnnbomnoafcaaGreatDoor
set_option linter.unusedVariables false
open Go Go.RowKit
attribute [local irreducible] wpSQ
theorem four_bytes {w : World} {b k n s l : Nat} (hb : ∀ x ∈ [k, n, s, l], x < 256) (h : w.heap[b]? = some (.cells #[.int .u8 k, .int .u8 n, .int .u8 s, .int .u8 l] 5 (0, 0))) : BytesAt w (some ⟨b, 0, none⟩) 4 [k, n, s, l] := by
  refine ⟨rfl, by omega, hb, .inr ⟨b, 0, rfl, fun i hi => ?_⟩⟩
  have h4 : i = 0 ∨ i = 1 ∨ i = 2 ∨ i = 3 := by omega
  rcases h4 with rfl | rfl | rfl | rfl <;> exact (cell_at h).trans rfl
theorem OwnBy.base {w : World} {B B' : Nat} {v : Value} {l : List Nat} (h : OwnBy w B v l) (hB : B' ≤ B) : OwnBy w B' v l := by
  unfold OwnBy at h ⊢
  obtain ⟨h1, h2 | ⟨g, cap, cur, e, h3⟩⟩ := h
  · exact ⟨h1, .inl h2⟩
  · exact ⟨h1, .inr ⟨g, cap, cur, e, by first | exact ⟨Nat.le_trans hB h3.1, h3.2⟩ | exact ⟨h3.1, Nat.le_trans hB h3.2.1, h3.2.2⟩ | exact ⟨h3.1, h3.2.1, Nat.le_trans hB h3.2.2.1, h3.2.2.2⟩⟩⟩
theorem Cfg.sf_four (c : Cfg) (i : Int) : { c.sf i 0 with data := (Frm.low 4 c.id.toNat ++ [c.k.toNat, c.n.toNat, c.stripes.toNat, c.slots.toNat]) ++ (c.sf i 0).data.drop 8 } = c.block i := by
  unfold Cfg.sf Cfg.block Cfg.bytes
  simp [List.append_assoc]
set_option maxRecDepth 100000 in
set_option maxHeartbeats 4000000 in
theorem fsuper_c (c : Cfg) (hg : c.Good) (i : Int) (w : World) : Calls Tryz.prog 134 #[.agg (Cfg.A c), .int .i64 i] w (SBlockPost w c i) := by
  have hz := zero_frame
  have HZ := hid (Frm.A_size _ zero_ok)
  have HCZ := hid (Cfg.A_size c)
  have HB : Hid (Tryz.prog.built 42 [(0, .int .i64 1), (1, .int .i64 i), (3, .int .i64 1)] = some (Frm.A (c.sf i 0))) := hid (built_three 1 i 1)
  have HS0 := hid (Frm.A_size _ (Cfg.sf_ok c i 0 hg (by omega)))
  have HG := hid hg
  clear hg
  have hr : (((w.alloc (.cells (Cfg.A c) 74)).alloc (.cells (Frm.A Frm.zero) 42)).alloc (.cells (Frm.A Frm.zero) 42)).heap[w.heap.size + 1 + 1]? = some (.cells (Frm.A Frm.zero) 42 (0, 0)) := by
    have e : ((w.alloc (.cells (Cfg.A c) 74)).alloc (.cells (Frm.A Frm.zero) 42)).heap.size = w.heap.size + 1 + 1 := by simp
    rw [← e]; exact heap_alloc_new _ _
  go_enter Tryz.func134, Tryz.ntmps134
  go_wp2_with (first
    | (refine wpList_build_eq rfl 42 _ rfl (Frm.A (c.sf i 0)) ?_ ?_; (simp only [List.map_toArray, List.map_cons, List.map_nil, Act.eval]; simp only [Array.getD_eq_getD_getElem?, List.getElem?_toArray, List.getElem?_cons_succ, List.getElem?_cons_zero, Option.getD_some]; exact HB.out))
    | (refine wpList_store_whole rfl 42 _ _ rfl (w.heap.size + 1 + 1) rfl (Frm.A (c.sf i 0)) _ rfl 42 ?_ hr ?_ ?_ ?_; (rw [HS0.out]; exact aggFrame); (rw [HS0.out, HZ.out]); exact Frm.A_one _))
  have HS : Hid (SBlk w c i 0 ((((w.alloc (.cells (Cfg.A c) 74)).alloc (.cells (Frm.A Frm.zero) 42)).alloc (.cells (Frm.A Frm.zero) 42)).setRow (w.heap.size + 1 + 1) (Frm.A (c.sf i 0)))) := hid (by
    have e2 : ((w.alloc (.cells (Cfg.A c) 74)).alloc (.cells (Frm.A Frm.zero) 42)).heap.size = w.heap.size + 1 + 1 := by simp
    have e1 : (w.alloc (.cells (Cfg.A c) 74)).heap.size = w.heap.size + 1 := by simp
    rw [← e2, setRow_alloc]
    refine ⟨(((Ext.refl w).alloc _).alloc _).alloc _, ?_, ?_, by rw [← e2]; exact heap_alloc_new _ _⟩
    · rw [heap_alloc_old _ _ (by simp; omega), heap_alloc_old _ _ (by simp)]; exact heap_alloc_new _ _
    · unfold FBlk; rw [heap_alloc_old _ _ (by simp), ← e1]; exact heap_alloc_new _ _)
  clear hr
  obtain ⟨id, e0, l0⟩ : ∃ m : Nat, c.id = (m : Int) ∧ m < 2147483648 := ⟨c.id.toNat, by have := HG.out.id0; omega, by have := HG.out.id1; omega⟩
  obtain ⟨k, e1, l1⟩ : ∃ m : Nat, c.k = (m : Int) ∧ m < 256 := ⟨c.k.toNat, by have := HG.out.k0; omega, by have := HG.out.k1; have := HG.out.n1; omega⟩
  obtain ⟨n, e2, l2⟩ : ∃ m : Nat, c.n = (m : Int) ∧ m < 256 := ⟨c.n.toNat, by have := HG.out.k0; have := HG.out.k1; omega, by have := HG.out.n1; omega⟩
  obtain ⟨st, e3, l3⟩ : ∃ m : Nat, c.stripes = (m : Int) ∧ m < 256 := ⟨c.stripes.toNat, by have := HG.out.st0; omega, by have := HG.out.st1; omega⟩
  obtain ⟨sl, e4, l4⟩ : ∃ m : Nat, c.slots = (m : Int) ∧ m < 256 := ⟨c.slots.toNat, by have := HG.out.sl0; omega, by have := HG.out.sl1; omega⟩
  have HFOUR : Hid ({ c.sf i 0 with data := (Frm.low 4 id ++ [k, n, st, sl]) ++ (c.sf i 0).data.drop 8 } = c.block i) := hid (by
    have := Cfg.sf_four c i
    rw [e0, e1, e2, e3, e4] at this
    exact this)
  have HOK0 := hid (Cfg.sf_ok c i 0 HG.out (by omega))
  have HOKB := hid (Cfg.block_ok c i HG.out)
  have HSB := hid (Frm.A_size _ HOKB.out)
  have HL0 := hid l0
  have HBY : Hid (∀ x ∈ [k, n, st, sl], x < 256) := hid (by intro x hx; simp only [List.mem_cons, List.not_mem_nil, or_false] at hx; rcases hx with rfl | rfl | rfl | rfl <;> assumption)
  obtain ⟨F0, hF0⟩ : ∃ F, c.sf i 0 = F := ⟨_, rfl⟩
  rw [hF0] at HS HFOUR HOK0 HS0 HB
  obtain ⟨W3, hW3⟩ : ∃ W, (((w.alloc (.cells (Cfg.A c) 74)).alloc (.cells (Frm.A Frm.zero) 42)).alloc (.cells (Frm.A Frm.zero) 42)).setRow (w.heap.size + 1 + 1) (Frm.A F0) = W := ⟨_, rfl⟩
  rw [hF0, hW3]
  have HSW : Hid (Ext w W3 ∧ W3.heap[w.heap.size]? = some (.cells (Cfg.A c) 74 (0, 0)) ∧ FBlk W3 (w.heap.size + 1) Frm.zero ∧ FBlk W3 (w.heap.size + 1 + 1) F0) := hid (by
    have q := HS.out
    rw [hW3] at q
    exact ⟨q.ext, q.cfg, q.res, by rw [← hF0]; exact q.own⟩)
  obtain ⟨g, hgq⟩ : ∃ g, w.heap.size = g := ⟨_, rfl⟩
  rw [hgq] at HSW
  have HGQ := hid hgq
  rw [hgq]
  have xd : Ext W3 W3.drew := (Ext.refl W3).drew
  have cA : ∀ x : SW (Only fun b => g + 1 + 1 ≤ b) W3.drew, x.w.heap[g]? = some (.cells (Cfg.A c) 74 (0, 0)) := fun x => x.ext.at (xd.at HSW.out.2.1) (fun q => absurd q (by omega))
  have d0 : ∀ x : SW (Only fun b => g + 1 + 1 ≤ b) W3.drew, x.w.cell? ⟨g, 0, none⟩ = some (.int .i64 id) := fun x => by rw [← e0]; exact (cell_at (cA x)).trans (Cfg.A0 c)
  have d1 : ∀ x : SW (Only fun b => g + 1 + 1 ≤ b) W3.drew, x.w.cell? ⟨g, 1, none⟩ = some (.int .i64 k) := fun x => by rw [← e1]; exact (cell_at (cA x)).trans (Cfg.A1 c)
  have d2 : ∀ x : SW (Only fun b => g + 1 + 1 ≤ b) W3.drew, x.w.cell? ⟨g, 2, none⟩ = some (.int .i64 n) := fun x => by rw [← e2]; exact (cell_at (cA x)).trans (Cfg.A2 c)
  have d3 : ∀ x : SW (Only fun b => g + 1 + 1 ≤ b) W3.drew, x.w.cell? ⟨g, 3, none⟩ = some (.int .i64 st) := fun x => by rw [← e3]; exact (cell_at (cA x)).trans (Cfg.A3 c)
  have d4 : ∀ x : SW (Only fun b => g + 1 + 1 ≤ b) W3.drew, x.w.cell? ⟨g, 4, none⟩ = some (.int .i64 sl) := fun x => by rw [← e4]; exact (cell_at (cA x)).trans (Cfg.A4 c)
  have v0 : IntKind.u64.wrap (id : Int) = (id : Int) := by rw [IntKind.wrap_u64]; omega
  have v1 : IntKind.u8.wrap (k : Int) = (k : Int) := by rw [IntKind.wrap_u8]; omega
  have v2 : IntKind.u8.wrap (n : Int) = (n : Int) := by rw [IntKind.wrap_u8]; omega
  have v3 : IntKind.u8.wrap (st : Int) = (st : Int) := by rw [IntKind.wrap_u8]; omega
  have v4 : IntKind.u8.wrap (sl : Int) = (sl : Int) := by rw [IntKind.wrap_u8]; omega
  clear hF0 hW3 hgq cA HS e0 e1 e2 e3 e4 l0 l1 l2 l3 l4
  refine wp_region_tree_all (E := Ext) (S := Only fun b => g + 1 + 1 ≤ b) (.two [0, 1, 2, 3, 4, 6, 7, 8, 9, 10, 11, 12, 13, 14, 15, 16, 17] 5 18 (.one [] 18 (.one [] 19 (.one [] 20 (.fin [])))) (.one [] 5 (.one [] 19 (.one [] 20 (.fin []))))) (by kernel_rfl) (by kernel_rfl) (fun _ _ d _ _ h => by cases d <;> exact h) ?_
  rw [wpT]
  simp only [opsAt, List.map_cons, List.map_nil, Array.getD_eq_getD_getElem?, List.getElem?_toArray, List.getElem?_cons_succ, List.getElem?_cons_zero, Option.getD_some]
  iterate 17 ((refine wpSQ_step (fun K hK => ?_); go_simp; first | (refine hK _ ?_; clear hK K) | (apply Exists.intro; refine ⟨fun x => ?_, hK _ ?_⟩; (fail); clear hK K)))
  refine wpSQ_nil ?_
  intro U0 hU0
  have X0 := hid (show Ext W3 U0 from Ext.trans xd hU0)
  clear hU0 d0 d1 d2 d3 d4 xd v0 v1 v2 v3 v4
  have HSZ : Hid (g + 1 + 1 < W3.heap.size) := hid (lt_of_block HSW.out.2.2.2)
  refine ⟨?_, ?_⟩
  · refine wpT_loud fun K hK => ?_
    go_wp2_with fail
    refine (fnum_b [] 0 4 rfl (by omega) (by simp) none 0 id 4 rfl (by have := HL0.out; omega) (by omega) U0 (bytes_nil _)).mono ?_
    rintro e W1 ⟨aN, cN, rfl, _, hbN, x1⟩
    rw [List.nil_append] at hbN
    have HBN := hid (show OwnBy W1 W3.heap.size (.slice aN 4 cN) (Frm.low 4 id) from by
      have q := hbN
      exact q.base X0.out.size)
    clear hbN
    go_wp2
    refine hK _ _ (Ext.only x1) ?_
    clear hK K
    rw [wpT]
    simp only [opsAt, List.map_cons, List.map_nil, Array.getD_eq_getD_getElem?, List.getElem?_toArray, List.getElem?_cons_succ, List.getElem?_cons_zero, Option.getD_some]
    refine wpSQ_nil ?_
    intro U1 hU1
    have X1 := hid (Ext.trans X0.out (Ext.trans x1 hU1))
    replace HBN := hid (HBN.out.ext hU1)

    refine wpT_loud fun K hK => ?_
    obtain ⟨W2, hW2⟩ : ∃ W, U1.alloc (.cells #[.int .u8 k, .int .u8 n, .int .u8 st, .int .u8 sl] 5) = W := ⟨_, rfl⟩
    have x2 : Ext U1 W2 := hW2 ▸ (Ext.refl _).alloc _
    have hc2 : W2.heap[U1.heap.size]? = some (.cells #[.int .u8 k, .int .u8 n, .int .u8 st, .int .u8 sl] 5 (0, 0)) := hW2 ▸ heap_alloc_new _ _
    have HBB := hid (show BytesAt W2 (some ⟨U1.heap.size, 0, none⟩) 4 [k, n, st, sl] from four_bytes HBY.out hc2)
    have HWB := hid hW2
    clear hW2 hc2
    go_wp2
    rw [HWB.out]
    refine hK _ _ (Ext.only x2) ?_
    clear hK K
    obtain ⟨gb, hgb⟩ : ∃ b, U1.heap.size = b := ⟨_, rfl⟩
    rw [hgb] at HBB ⊢
    clear hgb HWB
    rw [wpT]
    simp only [opsAt, List.map_cons, List.map_nil, Array.getD_eq_getD_getElem?, List.getElem?_toArray, List.getElem?_cons_succ, List.getElem?_cons_zero, Option.getD_some]
    refine wpSQ_nil ?_
    intro U2 hU2
    have X2 := hid (Ext.trans X1.out (Ext.trans x2 hU2))
    replace HBB := hid (HBB.out.ext hU2)
    replace HBN := hid (HBN.out.ext (Ext.trans x2 hU2))

    clear hU1 hU2 x1 x2
    obtain ⟨v', W4, hap, hown, hon, hx4⟩ := HBN.out.push HBB.out (by omega) (by rw [Frm.low_len]; simp) X2.out.size
    have HAP := hid hap
    have HO4 := hid hown
    have HON := hid hon
    have HX4 := hid (hx4 W3 (Nat.le_refl _) X2.out)
    have HLT := hid HBN.out.lt
    clear hap hown hon hx4
    refine wpT_loud fun K hK => ?_
    go_wp2_with (at_builtin; refine wpList_append_run rfl _ _ _ rfl _ _ _ _ rfl rfl HAP.out ?_)
    refine hK _ _ (HON.out.mono fun b _ e => by have := (HLT.out b e).1; have := HSZ.out; omega) ?_
    clear hK K
    rw [wpT]
    simp only [opsAt, List.map_cons, List.map_nil, Array.getD_eq_getD_getElem?, List.getElem?_toArray, List.getElem?_cons_succ, List.getElem?_cons_zero, Option.getD_some]
    refine wpSQ_nil ?_
    intro U4 hU4
    have X4 := hid (Ext.trans HX4.out hU4)
    have HO := hid (HO4.out.ext hU4)
    clear hU4
    obtain ⟨aP, cP, rfl, hbP, _, haP⟩ := HO.out.slice (by intro x hx; rcases List.mem_append.1 hx with q | q; exact Frm.low_byte _ _ x q; exact HBY.out x q) (by simp [Frm.low_len])
    rw [show (Frm.low 4 id ++ [k, n, st, sl]).length = 8 by simp [Frm.low_len]] at hbP ⊢
    obtain ⟨bP, rfl⟩ : ∃ b, aP = some ⟨b, 0, none⟩ := by
      rcases hbP.cells with h | ⟨b, off, rfl, _⟩
      · omega
      · exact ⟨b, by rw [(haP b off rfl).1]⟩
    have hown := X4.out.at HSW.out.2.2.2
    have hcp := copy_part U4 (g + 1 + 1) F0 HOK0.out hown bP 0 8 (Frm.low 4 id ++ [k, n, st, sl]) (by simp [Frm.low_len]) (by omega) hbP 108 cP
    rw [HFOUR.out] at hcp
    have HOWN := hid hown
    clear hown hbP haP
    refine wpT_loud fun K hK => ?_
    go_wp2
    refine hK _ _ ((only_setRow U4 (g + 1 + 1) (Frm.A (c.block i))).mono (fun b _ e => by subst e; exact Nat.le_refl _)) ?_
    clear hK K hcp
    rw [wpT]
    simp only [opsAt, List.map_cons, List.map_nil, Array.getD_eq_getD_getElem?, List.getElem?_toArray, List.getElem?_cons_succ, List.getElem?_cons_zero, Option.getD_some]
    refine wpSQ_nil ?_
    intro U5 hU5
    have HB5 := hid (hU5.at (setRow_heap U4 (g + 1 + 1) _ (Frm.A (c.block i)) _ _ HOWN.out))
    have OU := hid (Only.ext (only_setRow U4 (g + 1 + 1) (Frm.A (c.block i))) hU5)
    have HR5 := hid (OU.out.at (X4.out.at HSW.out.2.2.1) (fun q => absurd q (by omega)))
    have XW5 := hid (Ext.then (Ext.trans HSW.out.1 X4.out) OU.out (fun b hb e => by have := HGQ.out; subst e; omega))
    clear hU5
    have hb' := HB5.out
    have hr' := HR5.out
    go_wp2_with (first
      | (refine wpList_load_agg rfl 42 _ rfl ⟨g + 1 + 1, 0, none⟩ rfl (Frm.A (c.block i)) ?_ ?_ ?_; (rw [HSB.out]; exact aggFrame); exact agg_cells hb')
      | (refine wpList_store_whole rfl 42 _ _ rfl (g + 1) rfl (Frm.A (c.block i)) _ rfl 42 ?_ hr' ?_ ?_ ?_; (rw [HSB.out]; exact aggFrame); (rw [HSB.out, HZ.out]); exact Frm.A_one _))
    refine bodyPost_ret (results_cell_row Tryz.results134 _ _ (g + 1) _ (Frm.A (c.block i)) _ _ rfl (setRow_heap _ _ _ _ _ _ hr') Tryz.underlying42 rfl (by rw [HSB.out]; exact aggFrame.2)) rfl ?_
    exact ⟨rfl, Ext.then XW5.out (only_setRow _ _ _) (fun b hb e => by have := HGQ.out; subst e; omega)⟩
  · refine wpT_loud fun K hK => ?_
    obtain ⟨W1, hW1⟩ : ∃ W, U0.alloc (.cells #[.int .u8 k, .int .u8 n, .int .u8 st, .int .u8 sl] 5) = W := ⟨_, rfl⟩
    have x1 : Ext U0 W1 := hW1 ▸ (Ext.refl _).alloc _
    have hc1 : W1.heap[U0.heap.size]? = some (.cells #[.int .u8 k, .int .u8 n, .int .u8 st, .int .u8 sl] 5 (0, 0)) := hW1 ▸ heap_alloc_new _ _
    have HBB := hid (show BytesAt W1 (some ⟨U0.heap.size, 0, none⟩) 4 [k, n, st, sl] from four_bytes HBY.out hc1)
    have HWB := hid hW1
    clear hW1 hc1
    go_wp2
    rw [HWB.out]
    refine hK _ _ (Ext.only x1) ?_
    clear hK K
    obtain ⟨gb, hgb⟩ : ∃ b, U0.heap.size = b := ⟨_, rfl⟩
    rw [hgb] at HBB ⊢
    clear hgb HWB
    rw [wpT]
    simp only [opsAt, List.map_cons, List.map_nil, Array.getD_eq_getD_getElem?, List.getElem?_toArray, List.getElem?_cons_succ, List.getElem?_cons_zero, Option.getD_some]
    refine wpSQ_nil ?_
    intro U1 hU1
    have X1 := hid (Ext.trans X0.out (Ext.trans x1 hU1))
    replace HBB := hid (HBB.out.ext hU1)

    refine wpT_loud fun K hK => ?_
    go_wp2_with fail
    refine (fnum_b [] 0 4 rfl (by omega) (by simp) none 0 id 4 rfl (by have := HL0.out; omega) (by omega) U1 (bytes_nil _)).mono ?_
    rintro e W2 ⟨aN, cN, rfl, _, hbN, x2⟩
    rw [List.nil_append] at hbN
    have HBN := hid (show OwnBy W2 W3.heap.size (.slice aN 4 cN) (Frm.low 4 id) from by
      have q := hbN
      exact q.base X1.out.size)
    clear hbN
    go_wp2
    refine hK _ _ (Ext.only x2) ?_
    clear hK K
    rw [wpT]
    simp only [opsAt, List.map_cons, List.map_nil, Array.getD_eq_getD_getElem?, List.getElem?_toArray, List.getElem?_cons_succ, List.getElem?_cons_zero, Option.getD_some]
    refine wpSQ_nil ?_
    intro U2 hU2
    have X2 := hid (Ext.trans X1.out (Ext.trans x2 hU2))
    replace HBN := hid (HBN.out.ext hU2)
    replace HBB := hid (HBB.out.ext (Ext.trans x2 hU2))

    clear hU1 hU2 x1 x2
    obtain ⟨v', W4, hap, hown, hon, hx4⟩ := HBN.out.push HBB.out (by omega) (by rw [Frm.low_len]; simp) X2.out.size
    have HAP := hid hap
    have HO4 := hid hown
    have HON := hid hon
    have HX4 := hid (hx4 W3 (Nat.le_refl _) X2.out)
    have HLT := hid HBN.out.lt
    clear hap hown hon hx4
    refine wpT_loud fun K hK => ?_
    go_wp2_with (at_builtin; refine wpList_append_run rfl _ _ _ rfl _ _ _ _ rfl rfl HAP.out ?_)
    refine hK _ _ (HON.out.mono fun b _ e => by have := (HLT.out b e).1; have := HSZ.out; omega) ?_
    clear hK K
    rw [wpT]
    simp only [opsAt, List.map_cons, List.map_nil, Array.getD_eq_getD_getElem?, List.getElem?_toArray, List.getElem?_cons_succ, List.getElem?_cons_zero, Option.getD_some]
    refine wpSQ_nil ?_
    intro U4 hU4
    have X4 := hid (Ext.trans HX4.out hU4)
    have HO := hid (HO4.out.ext hU4)
    clear hU4
    obtain ⟨aP, cP, rfl, hbP, _, haP⟩ := HO.out.slice (by intro x hx; rcases List.mem_append.1 hx with q | q; exact Frm.low_byte _ _ x q; exact HBY.out x q) (by simp [Frm.low_len])
    rw [show (Frm.low 4 id ++ [k, n, st, sl]).length = 8 by simp [Frm.low_len]] at hbP ⊢
    obtain ⟨bP, rfl⟩ : ∃ b, aP = some ⟨b, 0, none⟩ := by
      rcases hbP.cells with h | ⟨b, off, rfl, _⟩
      · omega
      · exact ⟨b, by rw [(haP b off rfl).1]⟩
    have hown := X4.out.at HSW.out.2.2.2
    have hcp := copy_part U4 (g + 1 + 1) F0 HOK0.out hown bP 0 8 (Frm.low 4 id ++ [k, n, st, sl]) (by simp [Frm.low_len]) (by omega) hbP 108 cP
    rw [HFOUR.out] at hcp
    have HOWN := hid hown
    clear hown hbP haP
    refine wpT_loud fun K hK => ?_
    go_wp2
    refine hK _ _ ((only_setRow U4 (g + 1 + 1) (Frm.A (c.block i))).mono (fun b _ e => by subst e; exact Nat.le_refl _)) ?_
    clear hK K hcp
    rw [wpT]
    simp only [opsAt, List.map_cons, List.map_nil, Array.getD_eq_getD_getElem?, List.getElem?_toArray, List.getElem?_cons_succ, List.getElem?_cons_zero, Option.getD_some]
    refine wpSQ_nil ?_
    intro U5 hU5
    have HB5 := hid (hU5.at (setRow_heap U4 (g + 1 + 1) _ (Frm.A (c.block i)) _ _ HOWN.out))
    have OU := hid (Only.ext (only_setRow U4 (g + 1 + 1) (Frm.A (c.block i))) hU5)
    have HR5 := hid (OU.out.at (X4.out.at HSW.out.2.2.1) (fun q => absurd q (by omega)))
    have XW5 := hid (Ext.then (Ext.trans HSW.out.1 X4.out) OU.out (fun b hb e => by have := HGQ.out; subst e; omega))
    clear hU5
    have hb' := HB5.out
    have hr' := HR5.out
    go_wp2_with (first
      | (refine wpList_load_agg rfl 42 _ rfl ⟨g + 1 + 1, 0, none⟩ rfl (Frm.A (c.block i)) ?_ ?_ ?_; (rw [HSB.out]; exact aggFrame); exact agg_cells hb')
      | (refine wpList_store_whole rfl 42 _ _ rfl (g + 1) rfl (Frm.A (c.block i)) _ rfl 42 ?_ hr' ?_ ?_ ?_; (rw [HSB.out]; exact aggFrame); (rw [HSB.out, HZ.out]); exact Frm.A_one _))
    refine bodyPost_ret (results_cell_row Tryz.results134 _ _ (g + 1) _ (Frm.A (c.block i)) _ _ rfl (setRow_heap _ _ _ _ _ _ hr') Tryz.underlying42 rfl (by rw [HSB.out]; exact aggFrame.2)) rfl ?_
    exact ⟨rfl, Ext.then XW5.out (only_setRow _ _ _) (fun b hb e => by have := HGQ.out; subst e; omega)⟩
end Go.Proofs.YtgjnnbomnoafcaaGreatDoor

/- The reference's rack: PutSuper. -/
namespace Go.Proofs.YtgjnnbomnoafcaaGreatDoor
set_option linter.unusedVariables false
open Go Go.RowKit
theorem Rck.write_kind {R : Rck} {i s : Int} {b : List Nat} {er : Err} (h : (R.write i s b).1 = some er) : er.kind ≠ 0 := by
  unfold Rck.write at h
  split at h
  · cases h
  · rename_i hm
    simp only [Option.some.injEq] at h
    subst h
    exact hm
def FSPutPost (S : Nat → Prop) (w : World) (r : Nat) (R : Rck) (c : Cfg) (i : Int) (e : Ending) (w' : World) : Prop :=
  e = .returned (.int .i64 (okind (R.superPut c i).1)) ∧ FRackAt S w' r (R.superPut c i).2 ∧ Keeps S w w'
set_option maxRecDepth 100000 in
set_option maxHeartbeats 1200000 in
theorem fsput_c {S : Nat → Prop} {w : World} {r : Nat} {R : Rck} (h : FRackAt S w r R) (hn1 : 1 ≤ R.l.length) (c : Cfg) (i : Int) :
    Calls Tryz.prog 46 #[.pointer (some ⟨r, 0, none⟩), .agg (Cfg.A c), .int .i64 i] w (FSPutPost S w r R c i) := by
  obtain ⟨W0, hW0⟩ : ∃ W, w.alloc (.cells (Cfg.A c) 74) = W := ⟨_, rfl⟩
  have X0 : Ext w W0 := hW0 ▸ (Ext.refl w).alloc _
  have hc : W0.heap[w.heap.size]? = some (.cells (Cfg.A c) 74 (0, 0)) := hW0 ▸ heap_alloc_new _ _
  have HX0 := hid X0
  have H0 := hid (h.ext X0)
  have HC := hid hc
  have HAG := hid (cfg_agg c)
  have HN := hid hn1
  clear X0 h hc hn1
  rcases hf : R.fits c with _ | _
  · have HP : Hid (R.superPut c i = (some (.fault sSuperPut i (.no 1)), R)) := hid (by unfold Rck.superPut; rw [hf]; rfl)
    have HFI := hid hf
    clear hf
    go_enter Tryz.func46, Tryz.ntmps46
    go_wp2_with (refine wpList_load_agg rfl 74 _ rfl ⟨w.heap.size, 0, none⟩ rfl (Cfg.A c) HAG.out (agg_cells HC.out) ?_)
    refine (rffits_c H0.out HN.out c).mono ?_
    rintro e w2 ⟨rfl, x2⟩
    rw [HFI.out]
    have X2 := hid (Ext.trans HX0.out x2)
    have H2 := hid (H0.out.ext x2)
    clear x2
    go_wp2
    go_ret
    exact ⟨by rw [HP.out]; rfl, by rw [HP.out]; exact H2.out, Ext.only X2.out⟩
  · have HG := hid (Rck.fits_good hf)
    have HFI := hid hf
    have HFO := hid (Cfg.block_ok c i HG.out)
    have HP : Hid (R.superPut c i = if (R.write i 0 (c.block i).put).1 = none then (((R.write i 0 (c.block i).put).2.flush i).1.map (.fault sSuperPut i), ((R.write i 0 (c.block i).put).2.flush i).2)
      else ((R.write i 0 (c.block i).put).1.map (.fault sSuperPut i), (R.write i 0 (c.block i).put).2)) := hid (by unfold Rck.superPut; rw [if_pos hf])
    clear hf
    go_enter Tryz.func46, Tryz.ntmps46
    go_wp2_with (refine wpList_load_agg rfl 74 _ rfl ⟨w.heap.size, 0, none⟩ rfl (Cfg.A c) HAG.out (agg_cells HC.out) ?_)
    refine (rffits_c H0.out HN.out c).mono ?_
    rintro e w2 ⟨rfl, x2⟩
    rw [HFI.out]
    have X2 := hid (Ext.trans HX0.out x2)
    have H2 := hid (H0.out.ext x2)
    have HC2 := hid (x2.at HC.out)
    clear x2
    go_wp2_with (refine wpList_load_agg rfl 74 _ rfl ⟨w.heap.size, 0, none⟩ rfl (Cfg.A c) HAG.out (agg_cells HC2.out) ?_)
    refine (fsuper_c c HG.out i w2).mono ?_
    rintro e w3 ⟨rfl, x3⟩
    have X3 := hid (Ext.trans X2.out x3)
    have H3 := hid (H2.out.ext x3)
    clear x3
    go_wp2_with fail
    refine (fputf_c (c.block i) w3 HFO.out).mono ?_
    rintro e w4 ⟨a, n, cc, rfl, hb, x4⟩
    have X4 := hid (Ext.trans X3.out x4)
    have H4 := hid (H3.out.ext x4)
    have HB := hid hb
    clear hb x4
    go_wp2_with fail
    refine (fat_write H4.out i 0 a n cc _ HB.out).mono ?_
    rintro e w5 ⟨rfl, h5, k5⟩
    have HK := hid (fun er (q : (R.write i 0 (c.block i).put).1 = some er) => Rck.write_kind q)
    rcases hw : R.write i 0 (c.block i).put with ⟨o, R1⟩
    rw [hw] at h5 HP HK
    simp only at h5 HK ⊢
    have H5 := hid h5
    have K5 : Hid (Keeps S w w5) := hid (Only.trans (Ext.only X4.out) k5 fun _ _ x => x)
    clear h5 k5 hw
    rcases o with _ | er
    · have HP2 : Hid (R.superPut c i = ((R1.flush i).1.map (.fault sSuperPut i), (R1.flush i).2)) := hid (by rw [HP.out]; rfl)
      clear HP HK
      simp only [okind]
      go_wp2_with fail
      refine (fat_flush H5.out i).mono ?_
      rintro e w6 ⟨rfl, h6, k6⟩
      have K6 : Hid (Keeps S w w6) := hid (Only.trans K5.out k6 fun _ _ x => x)
      have H6 := hid h6
      have HV : Hid (okind (R1.flush i).1 = okind (R.superPut c i).1) := hid (by rw [HP2.out]; cases (R1.flush i).1 <;> rfl)
      rw [HV.out]
      clear h6 k6
      obtain ⟨v, hv⟩ : ∃ v, okind (R.superPut c i).1 = v := ⟨_, rfl⟩
      have HVV := hid hv
      rw [hv]
      clear hv
      go_wp2
      go_ret
      exact ⟨by rw [HVV.out]; rfl, by rw [HP2.out]; exact H6.out, K6.out⟩
    · have HP2 : Hid (R.superPut c i = (some (.fault sSuperPut i er), R1)) := hid (by rw [HP.out]; rfl)
      have hk := HK.out er rfl
      clear HP HK
      have HE : Hid (okind (R.superPut c i).1 = er.kind) := hid (by rw [HP2.out]; rfl)
      simp only [okind]
      generalize er.kind = k at *
      have hk0 : (k != 0) = true := by simp [hk]
      clear hk
      go_wp2
      go_ret
      exact ⟨by rw [HE.out]; rfl, by rw [HP2.out]; exact H5.out, K5.out⟩
end Go.Proofs.YtgjnnbomnoafcaaGreatDoor

/- The reference's rack: Super, what a disk's superblock tells. -/
namespace Go.Proofs.YtgjnnbomnoafcaaGreatDoor
set_option linter.unusedVariables false
open Go Go.RowKit
attribute [local irreducible] wpSQ
set_option maxRecDepth 100000 in
set_option maxHeartbeats 4000000 in
theorem fspget_c {S : Nat → Prop} {w : World} {r : Nat} {R : Rck} (h : FRackAt S w r R) (i : Int) (hok : ∀ f, R.get i 0 1 i 0 = some f → f.Ok) :
    Calls Tryz.prog 49 #[.pointer (some ⟨r, 0, none⟩), .int .i64 i] w (SPGetPost w R i) := by
  have hz := zero_frame
  have hzc := zero_cfg
  have HZ := hid (Frm.A_size _ zero_ok)
  have HCS := hid Cfg.A_size
  obtain ⟨W0, hW0⟩ : ∃ W, w.alloc (.cells (Cfg.A Cfg.zero) 74) = W := ⟨_, rfl⟩
  have X0 : Ext w W0 := hW0 ▸ (Ext.refl w).alloc _
  have HC0 := hid (show W0.heap[w.heap.size]? = some (.cells (Cfg.A Cfg.zero) 74 (0, 0)) from hW0 ▸ heap_alloc_new _ _)
  have HX0 := hid X0
  have H0 := hid (h.ext X0)
  have hbz := built_cfg0
  have HGOT := hid hok
  clear X0 h hok
  rcases hg : R.get i 0 1 i 0 with _ | f
  · have HS : Hid (R.superGet i = none) := hid (by unfold Rck.superGet; rw [hg]; rfl)
    have HG := hid hg
    clear hg
    go_enter Tryz.func49, Tryz.ntmps49
    go_wp2_with fail
    refine (fat_get H0.out i 0 1 i 0).mono ?_
    rintro e w1 ⟨rfl, x1⟩
    rw [HG.out]
    simp only [gotO, Option.getD_none, Option.isSome_none, Option.getD_some, Option.isSome_some]
    obtain ⟨WA, hWA⟩ : ∃ W, w1.alloc (.cells (Frm.A Frm.zero) 42) = W := ⟨_, rfl⟩
    have HBA := hid (show WA.heap[w1.heap.size]? = some (.cells (Frm.A Frm.zero) 42 (0, 0)) from hWA ▸ heap_alloc_new _ _)
    have XA := hid (Ext.trans HX0.out (Ext.trans x1 (show Ext w1 WA from hWA ▸ (Ext.refl w1).alloc _)))
    have hba : (w1.alloc (.cells (Frm.A Frm.zero) 42)).heap[w1.heap.size]? = some (.cells (Frm.A Frm.zero) 42 (0, 0)) := block_alloc
    have HWA := hid hWA
    have HRA := hid (Ext.at (Ext.trans x1 (show Ext w1 WA from hWA ▸ (Ext.refl w1).alloc _)) HC0.out)
    have HLT : Hid (w.heap.size < w1.heap.size) := hid (by have := x1.size; have := lt_of_block HC0.out; omega)
    obtain ⟨pa, hpa⟩ : ∃ g, w1.heap.size = g := ⟨_, rfl⟩
    have HGP := hid hpa
    rw [hpa] at HBA HLT
    clear hWA hpa x1

    have hres := HRA.out
    go_wp2_with (first
      | (guard_target = wpList _ _ _ ({ dst := none, op := Op.store _ _ _, type := _, pos := _, after := _, guard := none } :: _) _ _; have hb0 := hba; clear hba; refine wpList_store_whole rfl 42 _ _ rfl w1.heap.size rfl (Frm.A Frm.zero) _ rfl 42 (by rw [HZ.out]; exact aggFrame) hb0 (by rw [HZ.out]) (Frm.A_one _) ?_; rw [setRow_alloc, HWA.out, HGP.out])
      | (refine wpList_store_whole rfl 74 _ _ rfl w.heap.size rfl (Cfg.A Cfg.zero) _ rfl 74 ?_ hres ?_ ?_ ?_; (rw [HCS.out]; exact aggCfg); (rfl); exact Cfg.A_one _))
    refine bodyPost_ret (run_results_agg Tryz.results49 rfl (by rw [HCS.out Cfg.zero]; exact aggCfg) (setRow_heap _ _ _ _ _ _ hres)) rfl ?_
    exact ⟨by rw [HS.out]; rfl, Ext.then XA.out (only_setRow _ _ _) (fun i hi => by omega)⟩
  · have hok := HGOT.out f hg
    have HS : Hid (R.superGet i = Cfg.told f i) := hid (by unfold Rck.superGet; rw [hg]; rfl)
    have HG := hid hg
    have HOK := hid hok
    have HFS := hid (Frm.A_size f hok)
    clear hg hok
    go_enter Tryz.func49, Tryz.ntmps49
    go_wp2_with fail
    refine (fat_get H0.out i 0 1 i 0).mono ?_
    rintro e w1 ⟨rfl, x1⟩
    rw [HG.out]
    simp only [gotO, Option.getD_none, Option.isSome_none, Option.getD_some, Option.isSome_some]
    obtain ⟨WA, hWA⟩ : ∃ W, w1.alloc (.cells (Frm.A f) 42) = W := ⟨_, rfl⟩
    have HBA := hid (show WA.heap[w1.heap.size]? = some (.cells (Frm.A f) 42 (0, 0)) from hWA ▸ heap_alloc_new _ _)
    have XA := hid (Ext.trans HX0.out (Ext.trans x1 (show Ext w1 WA from hWA ▸ (Ext.refl w1).alloc _)))
    have hba : (w1.alloc (.cells (Frm.A Frm.zero) 42)).heap[w1.heap.size]? = some (.cells (Frm.A Frm.zero) 42 (0, 0)) := block_alloc
    have HWA := hid hWA
    have HRA := hid (Ext.at (Ext.trans x1 (show Ext w1 WA from hWA ▸ (Ext.refl w1).alloc _)) HC0.out)
    have HLT : Hid (w.heap.size < w1.heap.size) := hid (by have := x1.size; have := lt_of_block HC0.out; omega)
    obtain ⟨pa, hpa⟩ : ∃ g, w1.heap.size = g := ⟨_, rfl⟩
    have HGP := hid hpa
    rw [hpa] at HBA HLT
    clear hWA hpa x1

    have c3 : WA.cell? ⟨pa, 3, none⟩ = some (.int .i64 f.gen) := (cell_at HBA.out).trans (Frm.A3 f)
    rcases hgen : (f.gen != 1) with _ | _
    · have HG1 : Hid (f.gen = 1) := hid (by simpa using hgen)
      go_wp2_with (guard_target = wpList _ _ _ ({ dst := none, op := Op.store _ _ _, type := _, pos := _, after := _, guard := none } :: _) _ _; have hb0 := hba; clear hba; refine wpList_store_whole rfl 42 _ _ rfl w1.heap.size rfl (Frm.A f) _ rfl 42 (by rw [HFS.out]; exact aggFrame) hb0 (by rw [HFS.out, HZ.out]) (Frm.A_one _) ?_; rw [setRow_alloc, HWA.out, HGP.out])
      clear c3 hgen
      have hbyte := HOK.out.byte
      have hlen := HOK.out.len
      have xd : Ext WA WA.drew := (Ext.refl WA).drew
      have cF : Hid (∀ x : SW (Only fun b => WA.heap.size ≤ b) WA.drew, x.w.heap[pa]? = some (.cells (Frm.A f) 42 (0, 0))) := hid fun x => x.ext.at (xd.at HBA.out) (fun q => absurd (lt_of_block HBA.out) (Nat.not_lt.2 q))
      have d4 : ∀ x : SW (Only fun b => WA.heap.size ≤ b) WA.drew, x.w.cell? ⟨pa, 8, none⟩ = some (.int .u8 (nth f.data 4 : Nat)) := fun x => (cell_at (cF.out x)).trans (Frm.A4 f 4 (by omega))
      have d5 : ∀ x : SW (Only fun b => WA.heap.size ≤ b) WA.drew, x.w.cell? ⟨pa, 9, none⟩ = some (.int .u8 (nth f.data 5 : Nat)) := fun x => (cell_at (cF.out x)).trans (Frm.A4 f 5 (by omega))
      have d6 : ∀ x : SW (Only fun b => WA.heap.size ≤ b) WA.drew, x.w.cell? ⟨pa, 10, none⟩ = some (.int .u8 (nth f.data 6 : Nat)) := fun x => (cell_at (cF.out x)).trans (Frm.A4 f 6 (by omega))
      have d7 : ∀ x : SW (Only fun b => WA.heap.size ≤ b) WA.drew, x.w.cell? ⟨pa, 11, none⟩ = some (.int .u8 (nth f.data 7 : Nat)) := fun x => (cell_at (cF.out x)).trans (Frm.A4 f 7 (by omega))
      have b4 := Frm.nth_bd hbyte 4
      have b5 := Frm.nth_bd hbyte 5
      have b6 := Frm.nth_bd hbyte 6
      have b7 := Frm.nth_bd hbyte 7
      have HNB : Hid (Frm.num (f.data.take 4) < 4294967296) := hid (by
        have h1 := Frm.num_bd (f.data.take 4) (fun x hx => hbyte x (List.mem_of_mem_take hx))
        have h2 : (256 : Nat) ^ (f.data.take 4).length ≤ 256 ^ 4 := Nat.pow_le_pow_right (by omega) (by simp; omega)
        have h3 : (256 : Nat) ^ 4 = 4294967296 := by decide
        omega)
      have cB : Hid (∀ x : SW (Only fun b => WA.heap.size ≤ b) WA.drew, Calls Tryz.prog 136 #[.slice (some ⟨pa, 4, none⟩) 4 108] x.w fun e w'' => e = .returned (.int .u64 (Frm.num (f.data.take 4) : Nat)) ∧ Ext x.w w'') := hid fun x =>
        (fbig_c pa 4 4 108 (f.data.take 4) x.w (by simp; omega) (by omega) (fun y hy => hbyte y (List.mem_of_mem_take hy)) (fun j hj => by
          have := (cell_at (cF.out x)).trans (Frm.A4 f j (by omega))
          rw [this]; unfold nth; simp [List.getD_eq_getElem?_getD, List.getElem?_take, hj])).mono fun e w'' z => ⟨z.1, z.2 ▸ Ext.refl _⟩
      have HBT : Hid (Tryz.prog.built 74 [(0, .int .i64 (Frm.num (f.data.take 4) : Nat)), (1, .int .i64 (nth f.data 4 : Nat)), (2, .int .i64 (nth f.data 5 : Nat)), (3, .int .i64 (nth f.data 6 : Nat)), (4, .int .i64 (nth f.data 7 : Nat))] = some (Cfg.A (Cfg.parse f.data))) := hid (built_cfg (Cfg.parse f.data))
      obtain ⟨nb, hnb⟩ : ∃ m, Frm.num (f.data.take 4) = m := ⟨_, rfl⟩
      rw [hnb] at cB HBT HNB
      have vB : IntKind.i64.wrap ((nb : Nat) : Int) = ((nb : Nat) : Int) := by rw [IntKind.wrap_i64]; have := HNB.out; omega
      have v4 : IntKind.i64.wrap ((nth f.data 4 : Nat) : Int) = ((nth f.data 4 : Nat) : Int) := by rw [IntKind.wrap_i64]; omega
      have v5 : IntKind.i64.wrap ((nth f.data 5 : Nat) : Int) = ((nth f.data 5 : Nat) : Int) := by rw [IntKind.wrap_i64]; omega
      have v6 : IntKind.i64.wrap ((nth f.data 6 : Nat) : Int) = ((nth f.data 6 : Nat) : Int) := by rw [IntKind.wrap_i64]; omega
      have v7 : IntKind.i64.wrap ((nth f.data 7 : Nat) : Int) = ((nth f.data 7 : Nat) : Int) := by rw [IntKind.wrap_i64]; omega
      have hT : Cfg.told f i = if (Cfg.parse f.data).right = true ∧ f = (Cfg.parse f.data).block i then some (Cfg.parse f.data) else none := rfl
      obtain ⟨c, hcq⟩ : ∃ c, Cfg.parse f.data = c := ⟨_, rfl⟩
      rw [hcq] at HBT hT
      have HT := hid (HS.out.trans hT)
      clear hT hcq hnb hbyte hlen HS
      refine wp_region_calm_all (E := Ext) (S := Only fun b => WA.heap.size ≤ b) (.one [0, 1, 2, 3, 4, 5, 6, 7, 8, 9, 10, 11, 12, 13, 14, 15, 16, 17, 18, 19, 20] 21 (.one [] 22 (.fin []))) (by kernel_rfl) (by kernel_rfl) (fun _ _ d _ _ h => by cases d <;> exact h) ?_
      rw [wpS]
      simp only [opsAt, List.map_cons, List.map_nil, Array.getD_eq_getD_getElem?, List.getElem?_toArray, List.getElem?_cons_succ, List.getElem?_cons_zero, Option.getD_some]
      iterate 2 ((refine wpSQ_step (fun K hK => ?_); go_simp; first | (refine hK _ ?_; clear hK K) | (apply Exists.intro; refine ⟨fun x => ?_, hK _ ?_⟩; (fail); clear hK K)))
      (refine wpSQ_step (fun K hK => ?_); go_simp; first | (refine hK _ ?_; clear hK K) | (apply Exists.intro; refine ⟨fun x => ?_, hK _ ?_⟩; (exact cB.out x); clear hK K))
      iterate 17 ((refine wpSQ_step (fun K hK => ?_); go_simp; first | (refine hK _ ?_; clear hK K) | (apply Exists.intro; refine ⟨fun x => ?_, hK _ ?_⟩; (fail); clear hK K)))
      refine wpSQ_build rfl 74 _ rfl (Cfg.A c) (by simp only [List.map_toArray, List.map_cons, List.map_nil, Act.eval]; simp only [Array.getD_eq_getD_getElem?, List.getElem?_toArray, List.getElem?_cons_succ, List.getElem?_cons_zero, Option.getD_some]; exact HBT.out) ?_
      refine wpSQ_nil ?_
      intro U0 hU0
      have E0 := hid (show Ext WA U0 from Ext.trans xd hU0)
      clear hU0 d4 d5 d6 d7 cB cF HBT vB v4 v5 v6 v7 b4 b5 b6 b7 xd
      refine wpS_loud fun K hK => ?_
      go_wp2
      refine hK _ _ (Ext.only ((Ext.refl U0).alloc _)) ?_
      clear hK K
      have x1 : Ext U0 (U0.alloc (.cells (Cfg.A Cfg.zero) 74)) := (Ext.refl _).alloc _
      have CB := hid (show (U0.alloc (.cells (Cfg.A Cfg.zero) 74)).heap[U0.heap.size]? = some (.cells (Cfg.A Cfg.zero) 74 (0, 0)) from heap_alloc_new _ _)
      rw [wpS]
      simp only [opsAt, List.map_cons, List.map_nil, Array.getD_eq_getD_getElem?, List.getElem?_toArray, List.getElem?_cons_succ, List.getElem?_cons_zero, Option.getD_some]
      refine wpSQ_nil ?_
      intro U1 hU1
      have E1 := hid (Ext.trans E0.out (Ext.trans x1 hU1))
      have CB1 := hid (hU1.at CB.out)
      have SZ := hid (show WA.heap.size ≤ U0.heap.size from E0.out.size)
      obtain ⟨p8, hp8⟩ : ∃ p, U0.heap.size = p := ⟨_, rfl⟩
      rw [hp8] at CB1 SZ ⊢
      clear hU1 x1 CB hp8
      refine wpS_loud fun K hK => ?_
      go_wp2_with (guard_target = wpList _ _ _ ({ dst := none, op := Op.store _ _ _, type := _, pos := _, after := _, guard := none } :: _) _ _; refine wpList_store_whole rfl 74 _ _ rfl p8 rfl (Cfg.A c) _ rfl 74 (by rw [HCS.out]; exact aggCfg) CB1.out (by rw [HCS.out, HCS.out]) (Cfg.A_one _) ?_)
      refine hK _ _ ((only_setRow U1 p8 (Cfg.A c)).mono (fun b _ e => by subst e; exact SZ.out)) ?_
      clear hK K
      rw [wpS]
      simp only [opsAt, List.map_cons, List.map_nil, Array.getD_eq_getD_getElem?, List.getElem?_toArray, List.getElem?_cons_succ, List.getElem?_cons_zero, Option.getD_some]
      refine wpSQ_nil ?_
      intro U2 hU2
      have OU := hid (Only.ext (only_setRow U1 p8 (Cfg.A c)) hU2)
      have HOWN := hid (hU2.at (setRow_heap U1 p8 _ (Cfg.A c) _ _ CB1.out))
      have HFR := hid (OU.out.at (E1.out.at HBA.out) (fun q => by have q : pa = p8 := q; have := lt_of_block HBA.out; have := SZ.out; omega))
      have HRES := hid (OU.out.at (E1.out.at HRA.out) (fun q => by have q : w.heap.size = p8 := q; have := HLT.out; have := lt_of_block HBA.out; have := SZ.out; omega))
      have HX := hid (show Ext w U2 from Ext.then (Ext.trans XA.out E1.out) OU.out (fun b hb e => by have e : b = p8 := e; have := HLT.out; have := lt_of_block HBA.out; have := SZ.out; omega))
      clear hU2
      obtain ⟨wr, hwr⟩ : ∃ W, U2 = W := ⟨_, rfl⟩
      rw [hwr] at HOWN HFR HRES HX ⊢
      clear hwr OU
      have xd : Ext wr wr.drew := (Ext.refl wr).drew
      have lc : Hid (∀ x : SW Ext wr.drew, ∀ j v, (Cfg.A c).toList[j]? = some v → x.w.cell? ((⟨p8, 0, none⟩ : Addr).add j) = some v) := hid fun x => agg_cells ((Ext.trans xd x.ext).at HOWN.out)
      have lf : Hid (∀ x : SW Ext wr.drew, ∀ j v, (Frm.A f).toList[j]? = some v → x.w.cell? ((⟨pa, 0, none⟩ : Addr).add j) = some v) := hid fun x => agg_cells ((Ext.trans xd x.ext).at HFR.out)
      have rc : Hid (∀ x : SW Ext wr.drew, Calls Tryz.prog 137 #[.agg (Cfg.A c)] x.w fun e w'' => e = .returned (.bool c.right) ∧ Ext x.w w'') := hid fun x => refright_c c x.w
      have HAG := hid (cfg_agg c)
      go_wp2_with fail
      refine wp_region_rely_all (S := Ext) (.fin [0, 1, 2, 3, 4, 5, 6, 7, 8, 9]) (by kernel_rfl) (by kernel_rfl) (fun _ _ d _ _ h => by cases d <;> exact h) ?_
      rw [wpS]
      simp only [opsAt, List.map_cons, List.map_nil, Array.getD_eq_getD_getElem?, List.getElem?_toArray, List.getElem?_cons_succ, List.getElem?_cons_zero, Option.getD_some]
      refine wpSQ_load_agg 74 _ rfl ⟨p8, 0, none⟩ rfl (Cfg.A c) rfl HAG.out lc.out ?_
      rcases hr : c.right with _ | _
      · have HN : Hid (R.superGet i = none) := hid (by rw [HT.out, if_neg (fun q => by rw [hr] at q; exact absurd q.1 (by simp))])
        rw [hr] at rc
        clear hr
        (refine wpSQ_step (fun K hK => ?_); go_simp; first | (refine hK _ ?_; clear hK K) | (apply Exists.intro; refine ⟨fun x => ?_, hK _ ?_⟩; (exact rc.out x); clear hK K))
        iterate 2 ((refine wpSQ_step (fun K hK => ?_); go_simp; first | (refine hK _ ?_; clear hK K) | (apply Exists.intro; refine ⟨fun x => ?_, hK _ ?_⟩; (fail); clear hK K)))
        iterate 5 (refine wpSQ_skip rfl ?_)
        (refine wpSQ_step (fun K hK => ?_); go_simp; first | (refine hK _ ?_; clear hK K) | (apply Exists.intro; refine ⟨fun x => ?_, hK _ ?_⟩; (fail); clear hK K))
        refine wpSQ_nil ?_
        intro W hW
        have hres : W.heap[w.heap.size]? = some (.cells (Cfg.A Cfg.zero) 74 (0, 0)) := (Ext.trans xd hW).at HRES.out
        have HXW := hid (Ext.trans HX.out (Ext.trans xd hW))
        clear hW lc lf rc
        go_wp2_with (refine wpList_store_whole rfl 74 _ _ rfl w.heap.size rfl (Cfg.A Cfg.zero) _ rfl 74 ?_ hres ?_ ?_ ?_; (rw [HCS.out]; exact aggCfg); (rfl); exact Cfg.A_one _)
        refine bodyPost_ret (run_results_agg Tryz.results49 rfl (by rw [HCS.out Cfg.zero]; exact aggCfg) (setRow_heap _ _ _ _ _ _ hres)) rfl ?_
        exact ⟨by rw [HN.out]; rfl, Ext.then HXW.out (only_setRow _ _ _) (fun i hi => by omega)⟩
      · have hgood := (Cfg.right_iff c).1 hr
        rw [hr] at rc
        have bc : Hid (∀ x : SW Ext wr.drew, Calls Tryz.prog 134 #[.agg (Cfg.A c), .int .i64 i] x.w fun e w'' => e = .returned (.agg (Frm.A (c.block i))) ∧ Ext x.w w'') := hid fun x => fsuper_c c hgood i x.w
        have HBO := hid (Cfg.block_ok c i hgood)
        have HNE := hid (frame_neq (c.block i) f HBO.out HOK.out)
        by_cases he : f = c.block i
        · have HN : Hid (R.superGet i = some c) := hid (by rw [HT.out, if_pos ⟨hr, he⟩])
          rw [show (!(c.block i).eqB f) = false from by rw [(Frm.eqB_iff _ _).2 he.symm]; rfl] at HNE
          clear hr hgood he
          (refine wpSQ_step (fun K hK => ?_); go_simp; first | (refine hK _ ?_; clear hK K) | (apply Exists.intro; refine ⟨fun x => ?_, hK _ ?_⟩; (exact rc.out x); clear hK K))
          iterate 2 ((refine wpSQ_step (fun K hK => ?_); go_simp; first | (refine hK _ ?_; clear hK K) | (apply Exists.intro; refine ⟨fun x => ?_, hK _ ?_⟩; (fail); clear hK K)))
          refine wpSQ_load_agg 74 _ rfl ⟨p8, 0, none⟩ rfl (Cfg.A c) rfl HAG.out lc.out ?_
          (refine wpSQ_step (fun K hK => ?_); go_simp; first | (refine hK _ ?_; clear hK K) | (apply Exists.intro; refine ⟨fun x => ?_, hK _ ?_⟩; (fail); clear hK K))
          (refine wpSQ_step (fun K hK => ?_); go_simp; first | (refine hK _ ?_; clear hK K) | (apply Exists.intro; refine ⟨fun x => ?_, hK _ ?_⟩; (exact bc.out x); clear hK K))
          refine wpSQ_load_agg 42 _ rfl ⟨pa, 0, none⟩ rfl (Frm.A f) rfl (by rw [HFS.out]; exact aggFrame) lf.out ?_
          refine wpSQ_eql .neq 42 _ _ _ rfl (Frm.A (c.block i)) (Frm.A f) rfl rfl (.bool false) rfl (fun w => frame_guard _ _ _ _ _ w) HNE.out ?_
          (refine wpSQ_step (fun K hK => ?_); go_simp; first | (refine hK _ ?_; clear hK K) | (apply Exists.intro; refine ⟨fun x => ?_, hK _ ?_⟩; (fail); clear hK K))
          refine wpSQ_nil ?_
          intro W hW
          have hres : W.heap[w.heap.size]? = some (.cells (Cfg.A Cfg.zero) 74 (0, 0)) := (Ext.trans xd hW).at HRES.out
          have hown : W.heap[p8]? = some (.cells (Cfg.A c) 74 (0, 0)) := (Ext.trans xd hW).at HOWN.out
          have HXW := hid (Ext.trans HX.out (Ext.trans xd hW))
          clear hW lc lf rc bc
          go_wp2_with (first
            | (refine wpList_load_agg rfl 74 _ rfl ⟨p8, 0, none⟩ rfl (Cfg.A c) HAG.out (agg_cells hown) ?_)
            | (refine wpList_store_whole rfl 74 _ _ rfl w.heap.size rfl (Cfg.A c) _ rfl 74 ?_ hres ?_ ?_ ?_; (rw [HCS.out]; exact aggCfg); (rw [HCS.out, HCS.out]); exact Cfg.A_one _))
          refine bodyPost_ret (run_results_agg Tryz.results49 rfl (by rw [HCS.out c]; exact aggCfg) (setRow_heap _ _ _ _ _ _ hres)) rfl ?_
          exact ⟨by rw [HN.out]; rfl, Ext.then HXW.out (only_setRow _ _ _) (fun i hi => by omega)⟩
        · have HN : Hid (R.superGet i = none) := hid (by rw [HT.out, if_neg (fun q => he q.2)])
          rw [show (!(c.block i).eqB f) = true from by
            rcases hq : (c.block i).eqB f with _ | _
            · rfl
            · exact absurd ((Frm.eqB_iff _ _).1 hq).symm he] at HNE
          clear hr hgood he
          (refine wpSQ_step (fun K hK => ?_); go_simp; first | (refine hK _ ?_; clear hK K) | (apply Exists.intro; refine ⟨fun x => ?_, hK _ ?_⟩; (exact rc.out x); clear hK K))
          iterate 2 ((refine wpSQ_step (fun K hK => ?_); go_simp; first | (refine hK _ ?_; clear hK K) | (apply Exists.intro; refine ⟨fun x => ?_, hK _ ?_⟩; (fail); clear hK K)))
          refine wpSQ_load_agg 74 _ rfl ⟨p8, 0, none⟩ rfl (Cfg.A c) rfl HAG.out lc.out ?_
          (refine wpSQ_step (fun K hK => ?_); go_simp; first | (refine hK _ ?_; clear hK K) | (apply Exists.intro; refine ⟨fun x => ?_, hK _ ?_⟩; (fail); clear hK K))
          (refine wpSQ_step (fun K hK => ?_); go_simp; first | (refine hK _ ?_; clear hK K) | (apply Exists.intro; refine ⟨fun x => ?_, hK _ ?_⟩; (exact bc.out x); clear hK K))
          refine wpSQ_load_agg 42 _ rfl ⟨pa, 0, none⟩ rfl (Frm.A f) rfl (by rw [HFS.out]; exact aggFrame) lf.out ?_
          refine wpSQ_eql .neq 42 _ _ _ rfl (Frm.A (c.block i)) (Frm.A f) rfl rfl (.bool true) rfl (fun w => frame_guard _ _ _ _ _ w) HNE.out ?_
          (refine wpSQ_step (fun K hK => ?_); go_simp; first | (refine hK _ ?_; clear hK K) | (apply Exists.intro; refine ⟨fun x => ?_, hK _ ?_⟩; (fail); clear hK K))
          refine wpSQ_nil ?_
          intro W hW
          have hres : W.heap[w.heap.size]? = some (.cells (Cfg.A Cfg.zero) 74 (0, 0)) := (Ext.trans xd hW).at HRES.out
          have HXW := hid (Ext.trans HX.out (Ext.trans xd hW))
          clear hW lc lf rc bc
          go_wp2_with (refine wpList_store_whole rfl 74 _ _ rfl w.heap.size rfl (Cfg.A Cfg.zero) _ rfl 74 ?_ hres ?_ ?_ ?_; (rw [HCS.out]; exact aggCfg); (rfl); exact Cfg.A_one _)
          refine bodyPost_ret (run_results_agg Tryz.results49 rfl (by rw [HCS.out Cfg.zero]; exact aggCfg) (setRow_heap _ _ _ _ _ _ hres)) rfl ?_
          exact ⟨by rw [HN.out]; rfl, Ext.then HXW.out (only_setRow _ _ _) (fun i hi => by omega)⟩
    · have HN : Hid (R.superGet i = none) := hid (by
        rw [HS.out]; unfold Cfg.told
        rw [if_neg]
        rintro ⟨_, q⟩
        rw [q] at hgen
        simp [Cfg.block] at hgen)
      have hres := HRA.out
      go_wp2_with (first
        | (guard_target = wpList _ _ _ ({ dst := none, op := Op.store _ _ _, type := _, pos := _, after := _, guard := none } :: _) _ _; have hb0 := hba; clear hba; refine wpList_store_whole rfl 42 _ _ rfl w1.heap.size rfl (Frm.A f) _ rfl 42 (by rw [HFS.out]; exact aggFrame) hb0 (by rw [HFS.out, HZ.out]) (Frm.A_one _) ?_; rw [setRow_alloc, HWA.out, HGP.out])
        | (refine wpList_store_whole rfl 74 _ _ rfl w.heap.size rfl (Cfg.A Cfg.zero) _ rfl 74 ?_ hres ?_ ?_ ?_; (rw [HCS.out]; exact aggCfg); (rfl); exact Cfg.A_one _))
      refine bodyPost_ret (run_results_agg Tryz.results49 rfl (by rw [HCS.out Cfg.zero]; exact aggCfg) (setRow_heap _ _ _ _ _ _ hres)) rfl ?_
      exact ⟨by rw [HN.out]; rfl, Ext.then XA.out (only_setRow _ _ _) (fun i hi => by omega)⟩
end Go.Proofs.YtgjnnbomnoafcaaGreatDoor

/- The reference's rack: Find. -/
namespace Go.Proofs.YtgjnnbomnoafcaaGreatDoor
set_option linter.unusedVariables false
open Go Go.RowKit
def FFindPost (w : World) (R : Rck) (e : Ending) (w' : World) : Prop := e = .returned (.tuple #[.agg (Cfg.A R.superFind.1), .int .i64 (okind R.superFind.2)]) ∧ Ext w w'
set_option maxRecDepth 100000 in
set_option maxHeartbeats 2000000 in
theorem ffind_c {S : Nat → Prop} {w : World} {r : Nat} {R : Rck} (h : FRackAt S w r R) (h1 : 1 ≤ R.l.length) (h8 : R.l.length ≤ 8) (hok : ∀ (i : Int) f, R.get i 0 1 i 0 = some f → f.Ok) :
    Calls Tryz.prog 51 #[.pointer (some ⟨r, 0, none⟩)] w (FFindPost w R) := by
  have hzc := zero_cfg
  have hbz := built_cfg0
  have HCS := hid Cfg.A_size
  have H := hid h
  have HOK := hid hok; have H1 := hid h1
  clear h hok h1
  go_enter Tryz.func51, Tryz.ntmps51
  have X0 : Ext w ((w.alloc (.cells (Cfg.A Cfg.zero) 74)).alloc (.cells (Cfg.A Cfg.zero) 74)) := ((Ext.refl w).alloc _).alloc _
  have HS : Hid (SFnd w (R.counted 0).1 ((w.alloc (.cells (Cfg.A Cfg.zero) 74)).alloc (.cells (Cfg.A Cfg.zero) 74))) := hid ⟨X0, by
    unfold CBlk; rw [heap_alloc_old _ _ (by simp)]; exact heap_alloc_new _ _, by
    have e : (w.alloc (.cells (Cfg.A Cfg.zero) 74)).heap.size = w.heap.size + 1 := by simp
    unfold CBlk; rw [← e]; exact heap_alloc_new _ _⟩
  clear X0
  obtain ⟨v0, hv0⟩ : ∃ W, (w.alloc (.cells (Cfg.A Cfg.zero) 74)).alloc (.cells (Cfg.A Cfg.zero) 74) = W := ⟨_, rfl⟩
  rw [hv0] at HS
  obtain ⟨N, hN⟩ : ∃ N, R.l.length = N := ⟨_, rfl⟩
  have HN := hid hN
  obtain ⟨gl, cl, hnl⟩ := fat_n (H.out.ext HS.out.ext)
  rw [hN] at h8 hnl
  clear hN
  go_wp2_with fail
  clear hnl hv0
  go_loopw [5, 14] (fun v i wr => ∃ j : Nat, i = .int .i64 j ∧ v = .int .i64 (R.counted j).2 ∧ j ≤ N ∧ SFnd w (R.counted j).1 wr) (fun _ i _ => N - (intOf i).toNat)
  case atStart => exact ⟨0, rfl, rfl, by omega, HS.out⟩
  case round =>
    clear HS
    obtain ⟨j, rfl, rfl, hj, hst⟩ := hrel
    have HST := hid hst
    have hsucc := R.counted_succ j
    have hle := R.counted_le j
    have hfind : R.l.length = j → R.superFind = (if (R.counted j).2 = 0 ∨ ((R.counted j).2 : Int) < (R.counted j).1.k ∨ R.fits (R.counted j).1 = false then (Cfg.zero, some (.fault sSuperFind ((R.counted j).2 : Int) (.no 7))) else ((R.counted j).1, none)) := fun e => by unfold Rck.superFind; rw [e]
    clear hst
    generalize R.counted j = cn at *
    obtain ⟨c, n⟩ := cn
    simp only at hle HST hfind ⊢
    by_cases hlt : j < N
    · clear hfind
      have i0 : (0 : Int) ≤ (j : Int) := by omega
      have i1 : (j : Int) < (N : Int) := by omega
      have n0 : (0 : Int) ≤ (n : Int) := by omega
      have n1 : (n : Int) ≤ 8 := by omega
      go_wp2_with fail
      refine (fspget_c (H.out.ext HST.out.ext) j (HOK.out j)).mono ?_
      rintro e w3 ⟨rfl, x3⟩
      rcases ho : R.superGet (j : Int) with _ | x
      · rw [ho] at hsucc
        have HSU := hid hsucc
        clear ho hsucc
        simp only [toldO, Option.getD_none, Option.isSome_none]
        have HS3 := hid ((HST.out.more x3).more ((Ext.refl w3).alloc (.cells (Cfg.A Cfg.zero) 74)))
        have hbs : (w3.alloc (.cells (Cfg.A Cfg.zero) 74)).heap[w3.heap.size]? = some (.cells (Cfg.A Cfg.zero) 74 (0, 0)) := block_alloc
        clear x3
        go_wp2_with (refine wpList_store_whole rfl 74 _ _ rfl w3.heap.size rfl (Cfg.A Cfg.zero) _ rfl 74 ?_ hbs ?_ ?_ ?_; (rw [HCS.out]; exact aggCfg); (rfl); exact Cfg.A_one _)
        rw [setRow_alloc]
        go_roundw
        case rel => exact ⟨j + 1, by go_num, by rw [HSU.out]; rfl, by omega, by rw [HSU.out]; exact HS3.out⟩
        case measure => simp [intOf]; omega
      · rw [ho] at hsucc
        clear ho
        simp only [toldO, Option.getD_some, Option.isSome_some]
        have HS3 := hid ((HST.out.more x3).more ((Ext.refl w3).alloc (.cells (Cfg.A x) 74)))
        have hbs : (w3.alloc (.cells (Cfg.A Cfg.zero) 74)).heap[w3.heap.size]? = some (.cells (Cfg.A Cfg.zero) 74 (0, 0)) := block_alloc
        have HX3 : Hid ((w3.alloc (.cells (Cfg.A x) 74)).heap[w3.heap.size]? = some (.cells (Cfg.A x) 74 (0, 0))) := hid block_alloc
        have HLT : Hid (w.heap.size + 1 < w3.heap.size) := hid (by have := lt_of_block (x3.at HST.out.own); omega)
        clear x3
        by_cases hn0 : n = 0
        · subst hn0
          have HSU : Hid (R.counted (j + 1) = (x, 1)) := hid (by rw [hsucc]; simp [Rck.count])
          have HE := hid (cfg_eql x x)
          rw [Cfg.eqB_self] at HE
          clear hsucc n0 n1
          rw [show ((0 : Nat) : Int) = 0 from rfl]
          have HS4 := hid (HS3.out.put x)
          have HX4 : Hid (((w3.alloc (.cells (Cfg.A x) 74)).setRow (w.heap.size + 1) (Cfg.A x)).heap[w3.heap.size]? = some (.cells (Cfg.A x) 74 (0, 0))) := hid ((only_setRow _ _ _).at HX3.out (by have := HLT.out; omega))
          go_wp2_with (first
            | (refine wpList_store_whole rfl 74 _ _ rfl w3.heap.size rfl (Cfg.A x) _ rfl 74 ?_ hbs ?_ ?_ ?_; (rw [HCS.out]; exact aggCfg); (rw [HCS.out, HCS.out]); exact Cfg.A_one _)
            | (rw [setRow_alloc]; refine wpList_load_agg rfl 74 _ rfl ⟨w3.heap.size, 0, none⟩ rfl (Cfg.A x) (cfg_agg x) (agg_cells HX3.out) ?_)
            | (refine wpList_store_whole rfl 74 _ _ rfl (w.heap.size + 1) rfl (Cfg.A x) _ rfl 74 ?_ HS3.out.own ?_ ?_ ?_; (rw [HCS.out]; exact aggCfg); (rw [HCS.out, HCS.out]); exact Cfg.A_one _)
            | (refine wpListG_load_agg 74 _ rfl ⟨w3.heap.size, 0, none⟩ rfl (Cfg.A x) rfl (cfg_agg x) (agg_cells HX4.out) ?_)
            | (refine wpListG_load_agg 74 _ rfl ⟨w.heap.size + 1, 0, none⟩ rfl (Cfg.A x) rfl (cfg_agg x) (agg_cells HS4.out.own) ?_)
            | (refine wpListG_eql .eql 74 _ _ _ rfl (Cfg.A x) (Cfg.A x) rfl rfl (.bool true) rfl (cfg_guard _ _ _ _ _ _) (HE.out _) ?_))
          go_roundw
          case rel => exact ⟨j + 1, by go_num, by rw [HSU.out]; rfl, by omega, by rw [HSU.out]; exact HS4.out⟩
          case measure => simp [intOf]; omega
        · have n2 : ((n : Int) == 0) = false := by simp; omega
          have HE := hid (cfg_eql x c)
          have HS3' : Hid (SFnd w c ((w3.alloc (.cells (Cfg.A Cfg.zero) 74)).setRow w3.heap.size (Cfg.A x))) := hid (by rw [setRow_alloc]; exact HS3.out)
          by_cases hxc : x = c
          · rw [(Cfg.eqB_iff _ _).2 hxc] at HE
            have HSU : Hid (R.counted (j + 1) = (c, n + 1)) := hid (by rw [hsucc]; simp [Rck.count, hn0, hxc])
            clear hsucc hxc hn0
            go_wp2_with (first
              | (refine wpList_store_whole rfl 74 _ _ rfl w3.heap.size rfl (Cfg.A x) _ rfl 74 ?_ hbs ?_ ?_ ?_; (rw [HCS.out]; exact aggCfg); (rw [HCS.out, HCS.out]); exact Cfg.A_one _)
              | (rw [setRow_alloc]; refine wpListG_load_agg 74 _ rfl ⟨w3.heap.size, 0, none⟩ rfl (Cfg.A x) rfl (cfg_agg x) (agg_cells HX3.out) ?_)
              | (refine wpListG_load_agg 74 _ rfl ⟨w.heap.size + 1, 0, none⟩ rfl (Cfg.A c) rfl (cfg_agg c) (agg_cells HS3.out.own) ?_)
              | (refine wpListG_eql .eql 74 _ _ _ rfl (Cfg.A x) (Cfg.A c) rfl rfl (.bool true) rfl (cfg_guard _ _ _ _ _ _) (HE.out _) ?_))
            go_roundw
            case rel => exact ⟨j + 1, by go_num, by rw [HSU.out]; go_num, by omega, by rw [HSU.out]; exact HS3.out⟩
            case measure => simp [intOf]; omega
          · rw [show x.eqB c = false from by
              rcases hq : x.eqB c with _ | _
              · rfl
              · exact absurd ((Cfg.eqB_iff _ _).1 hq) hxc] at HE
            have HSU : Hid (R.counted (j + 1) = (c, n)) := hid (by rw [hsucc]; simp [Rck.count, hn0, hxc])
            clear hsucc hxc hn0
            go_wp2_with (first
              | (refine wpList_store_whole rfl 74 _ _ rfl w3.heap.size rfl (Cfg.A x) _ rfl 74 ?_ hbs ?_ ?_ ?_; (rw [HCS.out]; exact aggCfg); (rw [HCS.out, HCS.out]); exact Cfg.A_one _)
              | (rw [setRow_alloc]; refine wpListG_load_agg 74 _ rfl ⟨w3.heap.size, 0, none⟩ rfl (Cfg.A x) rfl (cfg_agg x) (agg_cells HX3.out) ?_)
              | (refine wpListG_load_agg 74 _ rfl ⟨w.heap.size + 1, 0, none⟩ rfl (Cfg.A c) rfl (cfg_agg c) (agg_cells HS3.out.own) ?_)
              | (refine wpListG_eql .eql 74 _ _ _ rfl (Cfg.A x) (Cfg.A c) rfl rfl (.bool false) rfl (cfg_guard _ _ _ _ _ _) (HE.out _) ?_))
            go_roundw
            case rel => exact ⟨j + 1, by go_num, by rw [HSU.out], by omega, by rw [HSU.out]; exact HS3.out⟩
            case measure => simp [intOf]; omega
    · obtain rfl : N = j := by omega
      have hf := hfind HN.out
      have HX := hid HST.out.ext
      have HRES : Hid (wr.heap[w.heap.size]? = some (.cells (Cfg.A Cfg.zero) 74 (0, 0))) := hid HST.out.res
      have HOWN : Hid (wr.heap[w.heap.size + 1]? = some (.cells (Cfg.A c) 74 (0, 0))) := hid HST.out.own
      clear hfind hsucc
      by_cases hn0 : n = 0
      · have HF : Hid (R.superFind = (Cfg.zero, some (.fault sSuperFind (n : Int) (.no 7)))) := hid (by rw [hf, if_pos (.inl hn0)])
        subst hn0
        clear hf
        rw [show ((0 : Nat) : Int) = 0 from rfl] at HF ⊢
        go_wp2_with (refine wpList_store_whole rfl 74 _ _ rfl w.heap.size rfl (Cfg.A Cfg.zero) _ rfl 74 ?_ HRES.out ?_ ?_ ?_; (rw [HCS.out]; exact aggCfg); (rfl); exact Cfg.A_one _)
        refine bodyPost_ret (run_results_agg Tryz.results51 rfl (by rw [HCS.out]; exact aggCfg) (setRow_heap _ _ _ _ _ _ HRES.out)) rfl ?_
        exact ⟨by rw [HF.out]; rfl, Ext.then HX.out (only_setRow _ _ _) (fun i hi => by omega)⟩
      · have n2 : ((n : Int) == 0) = false := by simp; omega
        have c1 : wr.cell? ⟨w.heap.size + 1, 1, none⟩ = some (.int .i64 c.k) := (cell_at HOWN.out).trans (Cfg.A1 c)
        by_cases hk : (n : Int) < c.k
        · have HF : Hid (R.superFind = (Cfg.zero, some (.fault sSuperFind (n : Int) (.no 7)))) := hid (by rw [hf, if_pos (.inr (.inl hk))])
          clear hf hn0
          go_wp2_with (refine wpList_store_whole rfl 74 _ _ rfl w.heap.size rfl (Cfg.A Cfg.zero) _ rfl 74 ?_ HRES.out ?_ ?_ ?_; (rw [HCS.out]; exact aggCfg); (rfl); exact Cfg.A_one _)
          refine bodyPost_ret (run_results_agg Tryz.results51 rfl (by rw [HCS.out]; exact aggCfg) (setRow_heap _ _ _ _ _ _ HRES.out)) rfl ?_
          exact ⟨by rw [HF.out]; rfl, Ext.then HX.out (only_setRow _ _ _) (fun i hi => by omega)⟩
        · rcases hft : R.fits c with _ | _
          · have HF : Hid (R.superFind = (Cfg.zero, some (.fault sSuperFind (n : Int) (.no 7)))) := hid (by rw [hf, if_pos (.inr (.inr hft))])
            have HFT := hid hft
            clear hf hn0 hft
            go_wp2_with (refine wpListG_load_agg 74 _ rfl ⟨w.heap.size + 1, 0, none⟩ rfl (Cfg.A c) rfl (cfg_agg c) (agg_cells HOWN.out) ?_)
            refine (rffits_c (H.out.ext HX.out) H1.out c).mono ?_
            rintro e w6 ⟨rfl, x6⟩
            rw [HFT.out]
            have HRES := hid (x6.at HRES.out)
            have HX := hid (Ext.trans HX.out x6)
            clear x6 c1
            go_wp2_with (refine wpList_store_whole rfl 74 _ _ rfl w.heap.size rfl (Cfg.A Cfg.zero) _ rfl 74 ?_ HRES.out ?_ ?_ ?_; (rw [HCS.out]; exact aggCfg); (rfl); exact Cfg.A_one _)
            refine bodyPost_ret (run_results_agg Tryz.results51 rfl (by rw [HCS.out]; exact aggCfg) (setRow_heap _ _ _ _ _ _ HRES.out)) rfl ?_
            exact ⟨by rw [HF.out]; rfl, Ext.then HX.out (only_setRow _ _ _) (fun i hi => by omega)⟩
          · have HF : Hid (R.superFind = (c, none)) := hid (by rw [hf, if_neg]; intro q; rcases q with q | q | q; exact hn0 q; exact hk q; rw [hft] at q; cases q)
            have HFT := hid hft
            clear hf hn0 hft
            go_wp2_with (refine wpListG_load_agg 74 _ rfl ⟨w.heap.size + 1, 0, none⟩ rfl (Cfg.A c) rfl (cfg_agg c) (agg_cells HOWN.out) ?_)
            refine (rffits_c (H.out.ext HX.out) H1.out c).mono ?_
            rintro e w6 ⟨rfl, x6⟩
            rw [HFT.out]
            have HRES := hid (x6.at HRES.out)
            have HOWN := hid (x6.at HOWN.out)
            have HX := hid (Ext.trans HX.out x6)
            clear x6 c1
            go_wp2_with (first
              | (refine wpList_load_agg rfl 74 _ rfl ⟨w.heap.size + 1, 0, none⟩ rfl (Cfg.A c) (cfg_agg c) (agg_cells HOWN.out) ?_)
              | (refine wpList_store_whole rfl 74 _ _ rfl w.heap.size rfl (Cfg.A c) _ rfl 74 ?_ HRES.out ?_ ?_ ?_; (rw [HCS.out]; exact aggCfg); (rw [HCS.out, HCS.out]); exact Cfg.A_one _))
            refine bodyPost_ret (run_results_agg Tryz.results51 rfl (by rw [HCS.out]; exact aggCfg) (setRow_heap _ _ _ _ _ _ HRES.out)) rfl ?_
            exact ⟨by rw [HF.out]; rfl, Ext.then HX.out (only_setRow _ _ _) (fun i hi => by omega)⟩
end Go.Proofs.YtgjnnbomnoafcaaGreatDoor
