/- Texts of one proof, joined: TapeCut, TapeKeep. -/
import Derived.Test.YtbdfjiedceaoiaaGreatPBC
import Derived.Test.YtbdfjiedceaoiaaGreatPA
set_option linter.unusedVariables false
set_option linter.unusedSimpArgs false
namespace Go.Proofs.YtbdfjiedceaoiaaGreat
set_option linter.unusedVariables false
open Go.Proofs.YtbdfjiedceaoiaaGreat.GT (cnt Played Opened Shut)
theorem Dsk.die_same {D E : Dsk} (h : E.l.length = D.l.length) : E.die = D.die := by
 unfold Dsk.die Dsk.blank
 rw [h]
theorem Worn.gone {m : Nat} {D E : Dsk} (h : Worn m D E) : Worn m D E.die := by
 refine .die (Dsk.die_same ?_)
 cases h with
 | same h => rw [h]
 | die h => rw [h, Dsk.die_len]
 | replace h => rw [h, Dsk.replace_len]
 | rot s a _ _ h => rw [h, Dsk.rotted_len]
section
variable {R0 R : Rck} {n m : Nat} {L : List Nat}
theorem Tnt.die_any (h : Tnt R0 R n m L) {d : Nat} (hd : d < n) : ∃ L', Tnt R0 (R.die (d : Nat)) n m L' ∧ L.length ≤ L'.length + 1 := by
 by_cases hm : d ∈ L
 ·
  obtain ⟨x, hx, e⟩ := List.getElem_of_mem hm
  have h2 := h.die hx
  rw [e] at h2
  exact ⟨_, h2, by rw [List.length_eraseIdx, if_pos hx]; omega⟩
 ·
  obtain ⟨l1, k1⟩ : Live (R.setD (d : Nat) ((R.dsk (d : Nat)).die)) n m ∧ ∀ e : Nat, (R.setD (d : Nat) ((R.dsk (d : Nat)).die)).dsk (e : Nat) = if e = d then (R.dsk (d : Nat)).die else R.dsk (e : Nat) := h.live.setD _ (by rw [Dsk.die_len]; exact h.live.secs _ hd) hd
  rw [h.live.die hd]
  refine ⟨L, ⟨l1, h.nodup, h.lt, fun e he => ?_, fun e he => ?_⟩, by omega⟩
  ·
   rw [k1, if_neg (fun q : e = d => hm (q ▸ he))]; exact h.same e he
  ·
   rw [k1]
   by_cases q : e = d
   ·
    rw [if_pos q, q]
    exact (h.worn d hd).gone
   ·
    rw [if_neg q]; exact h.worn e he
end
structure TG (R : Rck) (c : Cfg) (m : Nat) (cur : Int) (L : List (List (List Nat))) : Prop where
 ex : ∃ j f F, GF R c m F (fun s x => j s = some x) (fun t y => f t = some y) ∧ TI c cur j f L
structure TS (R : Rck) (c : Cfg) (m : Nat) (L : List (List (List Nat))) (co : Option (List (List Nat))) : Prop where
 ex : ∃ cur j f, TI c cur j f L ∧ cur < 1152921504606846970 ∧ ((co = none ∧ ∃ F, GF R c m F (fun s x => j s = some x) fun t y => f t = some y) ∨ ∃ es a, co = some es ∧ Tp.fits c.k.toNat es ∧ (∀ x ∈ es, ∀ y ∈ x, y < 256) ∧ L.length < c.stripes.toNat ∧ Pnd c cur ⟨cur + 1, (L.length : Nat), Tp.chunks c.k.toNat (Tp.pack es)⟩ a ∧ Cr R c m j f ⟨cur + 1, (L.length : Nat), Tp.chunks c.k.toNat (Tp.pack es)⟩ a)
section
variable {R : Rck} {c : Cfg} {m : Nat} {cur : Int} {L : List (List (List Nat))}
theorem TG.ts (h : TG R c m cur L) (hcur : cur < 1152921504606846970) : TS R c m L none := by
 obtain ⟨j, f, F, g, t⟩ := h.ex
 exact ⟨cur, j, f, t, hcur, .inl ⟨rfl, F, g⟩⟩
theorem TG.append (h : TG R c m cur L) (k4 : c.k ≤ 4) (n6 : c.n ≤ 6) (hcur : cur < 1152921504606846960) (hlt : L.length < c.stripes.toNat) {es : List (List Nat)} (hf : Tp.fits c.k.toNat es) (hb : ∀ x ∈ es, ∀ y ∈ x, y < 256) :
  ∃ o R' v' n', Vol.tappend ⟨c, cur, false⟩ R L.length es = ⟨o, R', v', n'⟩ ∧ ((o = none ∧ v' = ⟨c, cur + 1, false⟩ ∧ n' = L.length + 1 ∧ TG R' c m (cur + 1) (L ++ [es])) ∨ (∃ e, o = some e ∧ TS R' c m L (some es))) := by
 obtain ⟨j, f, F, g, t⟩ := h.ex
 have hst := g.good.st0
 obtain ⟨a, hp, q⟩ := g.commit t.vi k4 n6 (by omega) (s := L.length) hlt (l := Tp.chunks c.k.toNat (Tp.pack es)) (Tp.chunks_blocks (Tp.pack_byte hb))
 unfold Vol.tappend
 simp only
 rw [if_pos hf, if_neg (by omega)]
 rcases q with ⟨R', F', e, g', v', _⟩ | ⟨_, R', e, cr⟩
 ·
  rw [e]
  exact ⟨none, R', _, _, rfl, .inl ⟨rfl, rfl, rfl, ⟨_, _, F', g', t.put v' hlt hf hb⟩⟩⟩
 ·
  rw [e]
  exact ⟨_, R', _, _, rfl, .inr ⟨_, rfl, ⟨cur, j, f, t, by omega, .inr ⟨es, a, rfl, hf, hb, hlt, hp, cr⟩⟩⟩⟩
theorem TI.armed {j : Nat → Option Rcd} {f : Strs} (t : TI c cur j f L) (h : VH R c m true j f) (hm : (m : Int) = c.sectors) (k : Int) : TG (R.arm k) c m cur L := ⟨j, f, _, h.armed t.vi hm k, t⟩
theorem TS.topen {R1 : Rck} {co : Option (List (List Nat))} {bits : List Nat} {Lx : List Nat} (h : TS R c m L co) (hc : c.Good) (hm : (m : Int) = c.sectors) (k4 : c.k ≤ 4) (n6 : c.n ≤ 6) (t : Tnt (R.boot bits) R1 c.n.toNat m Lx) (hL : c.k.toNat ≤ Lx.length) :
  ∃ R2 v L', R1.topen = (none, R2, v, L') ∧ ReadsOk R1 ∧ (L' = L ∨ ∃ es, co = some es ∧ L' = L ++ [es]) := by
 obtain ⟨cur, j, f, ti, hcur, ⟨rfl, F, g⟩ | ⟨es, a, rfl, hf, hb, hlt, hp, cr⟩⟩ := h.ex
 ·
  have hv : VH (R.boot bits) c m true j f := (GH.vh g.gh).boot bits
  rcases hv.reopen ti.vi hm k4 n6 (by omega) t with ⟨e, R', _, _, hn⟩ | ⟨R', cur', e1, hr⟩
  ·
   exact absurd hL hn
  ·
   obtain ⟨a1, a2⟩ := ti.topen hc e1 hr
   exact ⟨R', _, L, a1, a2, .inl rfl⟩
 ·
  obtain ⟨R', cur', f', e1, hs, hr⟩ := cr.reopen_worn hc hm k4 n6 ti.vi hp t hL
  rcases hs with rfl | rfl
  ·
   obtain ⟨a1, a2⟩ := ti.topen hc e1 hr
   exact ⟨R', _, L, a1, a2, .inl rfl⟩
  ·
   have hv := ti.vi.commit hc hp
   have ti2 : TI c (cur + 1) _ _ (L ++ [es]) := ti.put hv hlt hf hb
   obtain ⟨a1, a2⟩ := ti2.topen hc e1 hr
   exact ⟨R', _, _, a1, a2, .inr ⟨es, rfl, rfl⟩⟩
theorem TS.after {co : Option (List (List Nat))} {cl : List (List Nat)} (h : TS R c m L co) (hco : ∀ es, co = some es → es = cl) (hc : c.Good) (hm : (m : Int) = c.sectors) (k4 : c.k ≤ 4) (n6 : c.n ≤ 6) (bits : List Nat) :
  Live (R.boot bits) c.n.toNat m ∧ ∀ R9 Lx, Tnt (R.boot bits) R9 c.n.toNat m Lx → c.k.toNat ≤ Lx.length → ∃ R2 v' L', R9.topen = (none, R2, v', L') ∧ ReadsOk R9 ∧ (L' = L ∨ (cl ≠ [] ∧ L' = L ++ [cl])) := by
 refine ⟨?_, fun R9 Lx t hL => ?_⟩
 ·
  obtain ⟨cur, j, f, ti, hcur, ⟨rfl, F, g⟩ | ⟨es, a, rfl, hf, hb, hlt, hp, cr⟩⟩ := h.ex
  ·
   have hv : VH (R.boot bits) c m true j f := (GH.vh g.gh).boot bits
   exact hv.pow.live
  ·
   obtain ⟨_, _, gt, _, _, _⟩ := cr.boot hc (by omega) ti.vi hp bits
   exact gt.live
 ·
  obtain ⟨R2, v, L', e1, e2, e3⟩ := h.topen hc hm k4 n6 t hL
  refine ⟨R2, v, L', e1, e2, ?_⟩
  rcases e3 with e3 | ⟨es, q, e3⟩
  ·
   exact .inl e3
  ·
   have := hco es q
   subst this
   obtain ⟨cur, j, f, ti, hcur, ⟨q2, _⟩ | ⟨es2, a, q2, hf, _⟩⟩ := h.ex
   ·
    rw [q] at q2; cases q2
   ·
    rw [q] at q2; cases q2
    exact .inr ⟨hf.2.1, e3⟩
end
end Go.Proofs.YtbdfjiedceaoiaaGreat
namespace Go.Proofs.YtbdfjiedceaoiaaGreat
set_option linter.unusedVariables false
open Go Go.RowKit
theorem wpListG_append_run {P : Program} {ops : Array Oper} {rest : List Oper} {o : Oper} {a : Act} {w : World} {Q : Exit → Act → World → Prop} (s x : Operand) (t : TypeId)
  (ho : o.op = .call { callee := .builtin .append, args := #[s, x], argTypes := #[t, t] }) (v1 v2 v : Value) (w' : World) (hw : Region.wanted o (yielded ops a.tmps) = true) (hs : a.eval s = v1) (hx : a.eval x = v2)
  (hrun : Sem.run P (Builtin.append_ #[t, t] o.type #[v1, v2]) w = .ok v w') (hK : wpList P ops Q rest (a.put o.dst v) w') : wpList P ops Q (o :: rest) a w :=
 wpList_step fun K h => by
  simp only [hw, if_true]
  exact wp_append_run s x t ho v1 v2 v w' hs hx hrun (h _ _ hK)
theorem append_one (W : World) (g x : Nat) (hg : W.heap[g]? = some (.cells #[.int .u8 (x : Int)] 5 (0, 0))) (a : Option Addr) (n c : Nat) (l : List Nat) (h : BytesAt W a n l) (hn : n ≤ 1000) :
  ∃ b cap W', Sem.run Tryz.prog (Builtin.append_ #[24, 24] 24 #[.slice (some ⟨g, 0, none⟩) 1 1, .slice a n c]) W = .ok (.slice (some ⟨b, 0, none⟩) (1 + n) cap) W' ∧
   W'.ownsRow 0 5 1 (.slice (some ⟨b, 0, none⟩) (1 + n) cap) (1 + n) ((x :: l).map bv) ∧ Only (fun k => k = g) W W' ∧ (b = g ∨ b = W.heap.size) := by
 obtain ⟨i0, hi, hz0, hz1, hz2⟩ := info_parts info8
 have hlt := lt_of_block hg
 have hown : W.ownsRow g 5 1 (.slice (some ⟨g, 0, none⟩) 1 1) 1 [bv x] := ⟨rfl, .inr ⟨g, 1, #[bv x], rfl, Nat.le_refl _, hg, Nat.le_refl _, by decide, rfl, rfl⟩⟩
 have hl := h.len
 by_cases h0 : n = 0
 ·
  subst h0
  obtain rfl := List.length_eq_zero_iff.1 hl
  refine ⟨g, 1, W, ?_, owns_base hown, Only.refl _ _, .inl rfl⟩
  cases a <;> simp [loadCells, loadCellsFrom, Builtin.append_, run_underlying Tryz.underlying24, sizeOf, typeInfo, hi, Builtin.lenOf, Builtin.firstCells, storeCells]
 ·
  rcases h.cells with h1 | ⟨b, off, rfl, hc⟩
  ·
   exact (h0 h1).elim
  ·
   obtain ⟨b', cap, W', h1, h2, h3, h4, h5⟩ := run_append_lies (P := Tryz.prog) W 24 24 g 5 i0 (.int .u8 0) 1 1 Tryz.underlying24 hi hz0 hz1 hz2 rfl (by omega)
    (.slice (some ⟨g, 0, none⟩) 1 1) 1 [bv x] hown ⟨b, off, none⟩ n c (l.map bv) (by simp [hl])
    (by
     intro j v hv
     rw [List.getElem?_map] at hv
     have hj : j < l.length := by
      rcases Nat.lt_or_ge j l.length with h' | h'
      ·
       exact h'
      ·
       rw [List.getElem?_eq_none h'] at hv; cases hv
     rw [List.getElem?_eq_getElem hj] at hv
     have e : (⟨b, off, none⟩ : Addr).add j = ⟨b, off + j, none⟩ := by unfold Addr.add; split <;> simp_all
     rw [e, hc j (by omega), Za3 hj]
     exact hv)
    (by intro v hv; obtain ⟨x, _, rfl⟩ := List.mem_map.1 hv; rfl) (by omega)
    (by have := h.small; simp [maxLen]; omega) (by have := h.small; omega) (by omega) _ rfl
   refine ⟨b', cap, W', h1, owns_base h2, ⟨h3.os, h3.tape, h3.output, h3.size, fun k hk hn => h3.block k hk (by simpa [Value.ownBlock] using hn)⟩, ?_⟩
   rcases h4 with h4 | h4
   ·
    exact .inl (by simpa [Value.ownBlock] using h4.symm)
   ·
    exact .inr h4
theorem EntsIn.one {S : Nat → Prop} {w : World} {b1 b2 n : Nat} {x : List Nat} {T' : TypeId} {fz : Nat × Nat} (h2 : w.heap[b2]? = some (.cells (entV b1 x.length n) T' fz)) (hb : BytesAt w (some ⟨b1, 0, none⟩) x.length x) (s1 : S b1) (s2 : S b2) : EntsIn S w (some ⟨b2, 0, none⟩) [x] := fun i y hy => by
 rcases i with _ | i
 ·
  cases hy
  exact ⟨b2, 0, some ⟨b1, 0, none⟩, n, rfl, s2, (Zaf h2).trans rfl, hb, fun q hq => by cases hq; exact s1⟩
 ·
  simp at hy
structure TKeep (P : Nat → Prop) (w : World) (B : Nat) (v : Value) (L : List (List (List Nat))) (ad : Nat → Option Addr) (cp : Nat → Nat) : Prop where
 own : OwnVs w B 25 1 v ((List.range L.length).map fun i => tapV (ad i) (L.getD i []).length (cp i))
 ownP : ∀ b, v.ownBlock = some b → P b
 at_ : ∀ i, i < L.length → EntsIn (fun b => P b ∧ b < w.heap.size ∧ v.ownBlock ≠ some b) w (ad i) (L.getD i [])
 len : ∀ i, i < L.length → (L.getD i []).length ≤ 140737488355328
namespace TKeep
variable {P Q : Nat → Prop} {w w' : World} {B : Nat} {v : Value} {L : List (List (List Nat))} {ad : Nat → Option Addr} {cp : Nat → Nat}
theorem nil (P : Nat → Prop) (w : World) (B : Nat) : TKeep P w B (.slice none 0 0) [] (fun _ => none) fun _ => 0 := ⟨OwnVs.nil _ _ _ _, fun b (e : (none : Option Nat) = some b) => (by cases e), fun i hi => by simp at hi, fun i hi => by simp at hi⟩
theorem mono (H : TKeep P w B v L ad cp) (h : ∀ b, P b → Q b) : TKeep Q w B v L ad cp := ⟨H.own, fun b e => h b (H.ownP b e), fun i hi => (H.at_ i hi).mono fun b hb => ⟨h b hb.1, hb.2⟩, H.len⟩
theorem only {F : Nat → Prop} (H : TKeep P w B v L ad cp) (e : Only F w w') (hF : ∀ b, P b → ¬ F b) : TKeep P w' B v L ad cp :=
 ⟨H.own.only e fun b hb => hF b (H.ownP b hb), H.ownP, fun i hi => ((H.at_ i hi).only e fun b hb => hF b hb.1).mono fun b hb => ⟨hb.1, Nat.lt_of_lt_of_le hb.2.1 e.size, hb.2.2⟩, H.len⟩
theorem ext (H : TKeep P w B v L ad cp) (e : Ext w w') : TKeep P w' B v L ad cp := H.only e fun _ _ x => x
theorem push (H : TKeep P w B v L ad cp) {a : Option Addr} {c : Nat} {es : List (List Nat)} (hb : EntsIn (fun b => P b ∧ b < w.heap.size ∧ v.ownBlock ≠ some b) w a es) (hes : es.length ≤ 140737488355328) (hq : L.length < 900) (hB : B ≤ w.heap.size) :
  ∃ v' w' ad' cp', (Builtin.append_ #[35, 35] 35 #[v, .slice (some ⟨w.heap.size, 0, none⟩) 1 1]).run Tryz.prog (w.alloc (.cells (tapV a es.length c) 25)) = .ok v' w' ∧ TKeep (fun b => P b ∨ (w.heap.size ≤ b ∧ b < w'.heap.size)) w' B v' (L ++ [es]) ad' cp' ∧ Only (fun b => v.ownBlock = some b) w w' := by
 have hx : Ext w (w.alloc (.cells (tapV a es.length c) 25)) := (Ext.refl w).alloc _
 have hs1 : (w.alloc (.cells (tapV a es.length c) 25)).heap.size = w.heap.size + 1 := by simp
 obtain ⟨v', w', e1, e2, e3, e4, e5⟩ := (H.own.ext hx).push (tsl := 35) Tryz.underlying35 infoRows rfl (by omega) (tapV a es.length c) rfl (by intro u hu; simp [tapV] at hu; subst hu; rfl) ⟨w.heap.size, 0, none⟩ (Zah Zad) 1 (by simp; omega) (by omega) (by simp; omega)
 have ho : Only (fun b => v.ownBlock = some b) w w' := Only.trans (Ext.only hx) e3 (fun _ _ h => h)
 have hl1 : (L ++ [es]).length = L.length + 1 := by simp
 have g1 : ∀ i, i < L.length → (L ++ [es]).getD i [] = L.getD i [] := fun i hi => by
  rw [List.getD_eq_getElem?_getD, List.getD_eq_getElem?_getD, List.getElem?_append_left hi]
 have g2 : (L ++ [es]).getD L.length [] = es := by
  rw [List.getD_eq_getElem?_getD, List.getElem?_append_right (Nat.le_refl _), Nat.sub_self]; rfl
 have hown : ∀ b, b < w.heap.size → v.ownBlock ≠ some b → v'.ownBlock ≠ some b := fun b hb hn => by
  rcases e5 with q5 | q5
  ·
   rw [q5]; exact hn
  ·
   rw [q5]; intro hv
   have hv : (w.alloc (.cells (tapV a es.length c) 25)).heap.size = b := by simpa using hv
   omega
 refine ⟨v', w', fun i => if i < L.length then ad i else a, fun i => if i < L.length then cp i else c, e1, ⟨?_, fun b hv => ?_, fun i hi => ?_, fun i hi => ?_⟩, ho⟩
 ·
  have el : ((List.range (L ++ [es]).length).map fun i => tapV (if i < L.length then ad i else a) ((L ++ [es]).getD i []).length (if i < L.length then cp i else c)) = ((List.range L.length).map fun i => tapV (ad i) (L.getD i []).length (cp i)) ++ [tapV a es.length c] := by
   rw [hl1, List.range_succ, List.map_append]
   have e1 : ((List.range L.length).map fun i => tapV (if i < L.length then ad i else a) ((L ++ [es]).getD i []).length (if i < L.length then cp i else c)) = (List.range L.length).map fun i => tapV (ad i) (L.getD i []).length (cp i) := List.map_congr_left fun i hi => by
    have := List.mem_range.1 hi
    rw [if_pos this, if_pos this, g1 i this]
   rw [e1, List.map_cons, List.map_nil, if_neg (Nat.lt_irrefl _), if_neg (Nat.lt_irrefl _), g2]
  rw [el]; exact e2
 ·
  have h9 := (e2.lt b hv).2
  rcases e5 with q5 | q5
  ·
   rw [q5] at hv; exact .inl (H.ownP b hv)
  ·
   rw [q5] at hv
   have hv : (w.alloc (.cells (tapV a es.length c) 25)).heap.size = b := by simpa using hv
   exact .inr ⟨by omega, h9⟩
 ·
  rw [hl1] at hi
  by_cases hiq : i < L.length
  ·
   rw [if_pos hiq, g1 i hiq]
   refine ((H.at_ i hiq).only ho fun b hb => hb.2.2).mono fun b hb => ⟨.inl hb.1, by have := ho.size; omega, hown b hb.2.1 hb.2.2⟩
  ·
   rw [if_neg hiq]
   have : i = L.length := by omega
   subst this
   rw [g2]
   exact (hb.only ho fun b hb => hb.2.2).mono fun b hb => ⟨.inl hb.1, by have := ho.size; omega, hown b hb.2.1 hb.2.2⟩
 ·
  rw [hl1] at hi
  by_cases hiq : i < L.length
  ·
   rw [g1 i hiq]; exact H.len i hiq
  ·
   have : i = L.length := by omega
   subst this
   rw [g2]; exact hes
theorem slice (H : TKeep P w B v L ad cp) : ∃ a c, v = .slice a L.length c ∧ TapesAt w a L := by
 obtain ⟨a, c, e, z⟩ := H.own.slice
 rw [List.length_map, List.length_range] at e
 rcases z with ⟨z, rfl⟩ | ⟨g, rfl, hg1, hg2, hc, hv⟩
 ·
  have h0 := congrArg List.length z
  rw [List.length_map, List.length_range] at h0
  have h1 : L = [] := List.length_eq_zero_iff.1 (by simpa using h0)
  subst h1
  exact ⟨none, c, e, fun i x hx => by simp at hx⟩
 ·
  refine ⟨_, c, e, fun i x hx => ?_⟩
  have hi : i < L.length := (List.getElem?_eq_some_iff.1 hx).1
  have hg : L.getD i [] = x := by rw [List.getD_eq_getElem?_getD, hx]; rfl
  have h1 := hv i (tapV (ad i) x.length (cp i)) (by rw [List.getElem?_map, List.getElem?_range hi]; show some (tapV (ad i) (L.getD i []).length (cp i)) = _; rw [hg]) 0 _ rfl
  have h2 := H.at_ i hi
  have h3 := H.len i hi
  rw [hg] at h2 h3
  exact ⟨g, 0, ad i, cp i, rfl, by rw [Nat.zero_add]; simpa using h1, h3, h2.ents⟩
end TKeep
theorem TX.pokes {w0 w w' : World} {S F : Nat → Prop} {r gc g t u : Nat} {R : Rck} {c : Cfg} {v : Vol} (h : TX w0 w S r R gc c g v t u) (e : Only F w w') (hF : ∀ b, F b → S b ∧ w0.heap.size ≤ b ∧ b ≠ gc ∧ b ≠ g ∧ b ≠ t) : TX w0 w' (wideS S w w') r R gc c g v t u :=
 ⟨⟨⟨h.vx.ve.rack.pokes e fun b hb => (hF b hb).1, Ext.then h.ext e fun i hi hf => by have := (hF i hf).2.1; omega, fun b hb => .inl (h.vx.ve.low b hb)⟩, e.at h.vx.cfg (fun q => (hF _ q).2.2.1 rfl), .inl h.vx.cfgS, e.at h.vx.vol (fun q => (hF _ q).2.2.2.1 rfl), .inl h.vx.gS, h.vx.gw, h.vx.ne⟩, e.at h.tape (fun q => (hF _ q).2.2.2.2 rfl), .inl h.tS, h.tw, h.tc, h.tg⟩
end Go.Proofs.YtbdfjiedceaoiaaGreat
