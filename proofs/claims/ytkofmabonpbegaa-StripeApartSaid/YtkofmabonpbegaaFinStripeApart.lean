/- The statement StripeApart: for every input the call of stavelaw's StripeApart answers true, and its arguments read behind it as they read before. No condition. -/
/- Texts of one proof, joined: StrApart, BSame, WStripeApart, LawStripeApart. -/
import Derived.Test.YtkofmabonpbegaaPartO
import Derived.Test.YtkofmabonpbegaaPartQ
import Derived.Test.YtkofmabonpbegaaPartA
import Derived.Test.YtkofmabonpbegaaPartJ
import Derived.Test.YtkofmabonpbegaaRows
import Derived.WalkKit
import Derived.ProofKit
import Derived.OpenShut
import Derived.ShutString
set_option linter.unusedVariables false
set_option linter.unusedSimpArgs false
/- StripeApart: all stripes written; what was read, kept in a slice of slices. -/
namespace Go.Proofs.Ytkofmabonpbegaa
set_option linter.unusedVariables false
open Go Go.RowKit
/-- A rack whose disks are all well. -/
def AP (R : Rck) (c : Cfg) (m : Nat) (f : Strs) : Prop := ∃ B, SR R c m f allU B ∧ ∀ d j, B d j = false
namespace AP
variable {R : Rck} {c : Cfg} {m : Nat} {f : Strs}
theorem new {c : Cfg} (hc : c.Good) {m : Nat} (hm : c.sectors ≤ (m : Int)) : AP (Rck.new c.n.toNat m) c m (fun _ => none) := ⟨_, SR.new hc hm, fun _ _ => rfl⟩
theorem put (h : AP R c m f) {s : Nat} {gen : Int} {l : List (List Nat)} (hx : SFit c s gen l) : ∃ R', R.sput c (s : Int) gen l = (none, R') ∧ AP R' c m (updS f s (gen, l)) ∧ ∀ d j, d < c.n.toNat → j < m → j ≠ ssecN c s → (R'.dsk d).read j = (R.dsk d).read j := by
  obtain ⟨B, h1, h2⟩ := h
  obtain ⟨R', e, h3⟩ := h1.put (fun _ _ => rfl) hx
  exact ⟨R', e, ⟨_, h3, fun d j => by rw [h2]; rfl⟩, fun d j hd hj hne => h1.put_read hx e hd hj hne⟩
theorem get (h : AP R c m f) (k4 : c.k ≤ 4) (n6 : c.n ≤ 6) {s : Nat} {gen : Int} {l : List (List Nat)} (hf : f s = some (gen, l)) : R.sget c (s : Int) = (l, gen, none) := by
  obtain ⟨B, h1, h2⟩ := h
  refine h1.get k4 n6 hf ?_
  rw [List.filter_eq_self.2 fun d _ => by unfold SR.isG allU; rw [h2]; rfl, List.length_range]
  have := h1.good.k1; have := h1.good.k0
  omega
theorem readE (h : AP R c m f) {d j : Nat} (hd : d < c.n.toNat) (hj : j < m) : R.readE d j = none := by
  obtain ⟨B, h1, _⟩ := h
  exact h1.live.readE hd (h1.dsk d hd).dead hj
theorem sectors (h : AP R c m f) : R.sectors = m := by
  obtain ⟨B, h1, _⟩ := h
  have hn : 0 < c.n.toNat := by have := h1.good.k0; have := h1.good.k1; omega
  exact (h1.dsk 0 hn).len
end AP
/-- The stripes below i. -/
def apF (k : Nat) (i : Nat) : Strs := fun s => if s < i then some (2 + (s : Int), blocksOf k s) else none
theorem apF_succ (k i : Nat) : updS (apF k i) i (2 + (i : Int), blocksOf k i) = apF k (i + 1) := by
  funext s
  unfold updS apF
  by_cases e : s = i
  · subst e; rw [if_pos rfl, if_pos (by omega)]
  · rw [if_neg e]
    by_cases q : s < i
    · rw [if_pos q, if_pos (by omega)]
    · rw [if_neg q, if_neg (by omega)]
theorem apF_zero (k : Nat) : apF k 0 = fun _ => none := by
  funext s; unfold apF; rw [if_neg (by omega)]
theorem apF_at (k s : Nat) {i : Nat} (h : s < i) : apF k i s = some (2 + (s : Int), blocksOf k s) := if_pos h
/-- A slice of slices of 128 bytes. -/
def secV (b c : Nat) : Array Value := #[.slice (some ⟨b, 0, none⟩) 128 c]
structure HadAt (w : World) (B : Nat) (v : Value) (q : Nat) (h : Nat → List Nat) (bk cp : Nat → Nat) : Prop where
  own : OwnVs w B 45 1 v ((List.range q).map fun i => secV (bk i) (cp i))
  at_ : ∀ i, i < q → BytesAt w (some ⟨bk i, 0, none⟩) 128 (h i)
  lo : ∀ i, i < q → B ≤ bk i
  hi : ∀ i, i < q → bk i < w.heap.size
  ne : ∀ i, i < q → v.ownBlock ≠ some (bk i)
namespace HadAt
variable {w w' : World} {B : Nat} {v : Value} {q : Nat} {h : Nat → List Nat} {bk cp : Nat → Nat}
theorem nil (w : World) (B : Nat) (h : Nat → List Nat) : HadAt w B (.slice none 0 0) 0 h (fun _ => 0) fun _ => 0 := ⟨OwnVs.nil _ _ _ _, fun i hi => by omega, fun i hi => by omega, fun i hi => by omega, fun i hi => by omega⟩
theorem ext (H : HadAt w B v q h bk cp) (e : Ext w w') : HadAt w' B v q h bk cp := ⟨H.own.ext e, fun i hi => (H.at_ i hi).ext e, H.lo, fun i hi => Nat.lt_of_lt_of_le (H.hi i hi) e.size, H.ne⟩
theorem only {F : Nat → Prop} (H : HadAt w B v q h bk cp) (e : Only F w w') (hF : ∀ b, b < w.heap.size → B ≤ b → ¬ F b) : HadAt w' B v q h bk cp :=
  ⟨H.own.only e fun b hb => hF b (H.own.lt b hb).2 (H.own.lt b hb).1, fun i hi => (H.at_ i hi).only e fun k _ hk => by
    obtain ⟨p, hp, rfl⟩ := hk
    cases hp
    exact hF _ (H.hi i hi) (H.lo i hi), H.lo, fun i hi => Nat.lt_of_lt_of_le (H.hi i hi) e.size, H.ne⟩
theorem congr (H : HadAt w B v q h bk cp) {h' : Nat → List Nat} (e : ∀ i, i < q → h i = h' i) : HadAt w B v q h' bk cp := ⟨H.own, fun i hi => e i hi ▸ H.at_ i hi, H.lo, H.hi, H.ne⟩
theorem push (H : HadAt w B v q h bk cp) {W : World} (e : Ext w W) {b c : Nat} (hb : BytesAt W (some ⟨b, 0, none⟩) 128 (h q)) (hbl : w.heap.size ≤ b) (hq : q < 900) (hB : B ≤ w.heap.size) :
    ∃ v' w' bk' cp', (Builtin.append_ #[43, 43] 43 #[v, .slice (some ⟨W.heap.size, 0, none⟩) 1 1]).run Try.prog (W.alloc (.cells (secV b c) 45)) = .ok v' w' ∧ HadAt w' B v' (q + 1) h bk' cp' ∧ (∀ w0, w0.heap.size ≤ B → Ext w0 W → Ext w0 w') := by
  have hbW : b < W.heap.size := hb.lt b (by omega) ⟨_, rfl, rfl⟩
  have hx : Ext W (W.alloc (.cells (secV b c) 45)) := (Ext.refl W).alloc _
  have hs1 : (W.alloc (.cells (secV b c) 45)).heap.size = W.heap.size + 1 := by simp
  obtain ⟨v', w', e1, e2, e3, e4, e5⟩ := ((H.own.ext e).ext hx).push (tsl := 43) Try.underlying43 infoRow rfl (by omega) (secV b c) rfl (by intro u hu; simp [secV] at hu; subst hu; rfl) ⟨W.heap.size, 0, none⟩ (agg_cells block_alloc) 1 (by simp; omega) (by omega) (by have := e.size; simp; omega)
  have ho : Only (fun b => v.ownBlock = some b) W w' := Only.trans (Ext.only hx) e3 (fun _ _ h => h)
  refine ⟨v', w', fun i => if i < q then bk i else b, fun i => if i < q then cp i else c, e1, ⟨?_, fun i hi => ?_, fun i hi => ?_, fun i hi => ?_, fun i hi => ?_⟩, fun w0 hw0 hx0 => e4 w0 hw0 (hx0.alloc _)⟩
  · have el : ((List.range (q + 1)).map fun i => secV (if i < q then bk i else b) (if i < q then cp i else c)) = ((List.range q).map fun i => secV (bk i) (cp i)) ++ [secV b c] := by
      rw [List.range_succ, List.map_append]
      have e1 : ((List.range q).map fun i => secV (if i < q then bk i else b) (if i < q then cp i else c)) = (List.range q).map fun i => secV (bk i) (cp i) := List.map_congr_left fun i hi => by
        have := List.mem_range.1 hi
        rw [if_pos this, if_pos this]
      rw [e1]
      simp
    rw [el]; exact e2
  · by_cases hiq : i < q
    · rw [if_pos hiq]
      refine ((H.at_ i hiq).ext e).only ho fun k _ hk => ?_
      obtain ⟨p, hp, rfl⟩ := hk
      cases hp
      exact H.ne i hiq
    · rw [if_neg hiq]
      have : i = q := by omega
      subst this
      refine hb.only ho fun k _ hk hv => ?_
      obtain ⟨p, hp, rfl⟩ := hk
      cases hp
      have := (H.own.lt _ hv).2
      have h2 : (⟨b, 0, none⟩ : Addr).block = b := rfl
      omega
  · by_cases hiq : i < q
    · rw [if_pos hiq]; exact H.lo i hiq
    · rw [if_neg hiq]; omega
  · have := ho.size
    have := e.size
    by_cases hiq : i < q
    · rw [if_pos hiq]; have := H.hi i hiq; omega
    · rw [if_neg hiq]; omega
  · by_cases hiq : i < q
    · rw [if_pos hiq]
      rcases e5 with q5 | q5
      · rw [q5]; exact H.ne i hiq
      · rw [q5]; intro hv
        have hv : (W.alloc (.cells (secV b c) 45)).heap.size = bk i := by simpa using hv
        have := H.hi i hiq; have := e.size
        omega
    · rw [if_neg hiq]
      rcases e5 with q5 | q5
      · rw [q5]; intro hv
        have := (H.own.lt b hv).2
        omega
      · rw [q5]; intro hv
        have hv : (W.alloc (.cells (secV b c) 45)).heap.size = b := by simpa using hv
        omega
/-- As a slice. -/
theorem slice (H : HadAt w B v q h bk cp) (hq : 0 < q) : ∃ g c, v = .slice (some ⟨g, 0, none⟩) q c ∧ ∀ i, i < q → w.cell? ⟨g, i, none⟩ = some (.slice (some ⟨bk i, 0, none⟩) 128 (cp i)) := by
  obtain ⟨a, c, e, z⟩ := H.own.slice
  rw [List.length_map, List.length_range] at e
  rcases z with ⟨z, _⟩ | ⟨g, rfl, _, _, _, hv⟩
  · have := congrArg List.length z
    simp at this; omega
  · refine ⟨g, c, e, fun i hi => ?_⟩
    have := hv i (secV (bk i) (cp i)) (by simp [hi]) 0 _ rfl
    simpa using this
end HadAt
theorem SE.less {w0 w : World} {S T : Nat → Prop} {r : Nat} {R : Rck} {gc : Nat} {c : Cfg} {L : List (Option Addr × List (List Nat))} (h : SE w0 w T r R gc c L) (hT : ∀ b, S b → T b) (hl : ∀ b, b < w0.heap.size → S b) (hg : S gc) : SE w0 w S r R gc c [] :=
  ⟨h.rack.less hT, h.ext, hl, h.cfg, hg, fun p hp => by simp at hp⟩
end Go.Proofs.Ytkofmabonpbegaa

/- stavebook.Same of two lists of bytes. -/
namespace Go.Proofs.Ytkofmabonpbegaa
set_option linter.unusedVariables false
open Go.RowKit Go
set_option maxHeartbeats 400000 in
theorem same_some (b off n c b' off' n' c' : Nat) (l l' : List Nat) (w : World) (h1 : n ≤ 140737488355328) (h2 : n' ≤ 140737488355328)
    (hl : l.length = n) (hl' : l'.length = n') (hc : ∀ i, i < n → w.cell? ⟨b, off + i, none⟩ = some (.int .u8 (nth l i)))
    (hc' : ∀ i, i < n' → w.cell? ⟨b', off' + i, none⟩ = some (.int .u8 (nth l' i))) (hb : ∀ i, nth l i < 256) (hb' : ∀ i, nth l' i < 256) (hn : n = n') :
    Calls Try.prog 19 #[.slice (some ⟨b, off, none⟩) n c, .slice (some ⟨b', off', none⟩) n' c'] w fun e w' => e = .returned (.bool (decide (l = l'))) ∧ Ext w w' := by
  subst hn
  have HC := hid hc; have HC' := hid hc'; have HB := hid hb; have HB' := hid hb'; have HL := hid hl; have HL' := hid hl'
  clear hc hc' hb hb' hl hl'
  go_enter Try.func19, Try.ntmps19
  go_wp2
  go_loopw [5] (fun i wr => ∃ k m : Nat, k ≤ n ∧ i = .int .i64 k ∧ wr = w.drewN m ∧ ∀ j, j < k → nth l j = nth l' j) (fun i _ => n - (intOf i).toNat)
  case atStart => exact ⟨0, 0, by omega, rfl, rfl, fun j h => by omega⟩
  case round =>
    obtain ⟨k, m, hk, rfl, rfl, he⟩ := hrel
    have HE := hid he
    clear he
    have hm : ∀ j, j < k → nth l j = nth l' j := HE.out
    by_cases hlt : k < n
    · have HS : Hid (nth l k = nth l' k → ∀ j, j < k + 1 → nth l j = nth l' j) := by
        refine hid fun hq j hj => ?_
        by_cases e : j = k
        · rw [e]; exact hq
        · exact hm j (by omega)
      have HN : Hid (nth l k ≠ nth l' k → decide (l = l') = false) := hid fun hq => by
        rw [decide_eq_false_iff_not]; intro e; rw [e] at hq; exact hq rfl
      clear hm HE
      have c1 := HC.out k hlt
      have c2 := HC'.out k hlt
      have b1 := HB.out k
      have b2 := HB'.out k
      by_cases hq : nth l k = nth l' k
      · have hq2 : ((nth l k : Int) != (nth l' k : Int)) = false := by simp [hq]
        have HQ := hid hq; clear hq
        generalize nth l k = x at *
        generalize nth l' k = y at *
        go_wp2
        go_quiet (fail)
        go_wp2
        go_roundw
        case rel =>
          exact ⟨k + 1, _, by omega, by go_num, rfl, HS.out HQ.out⟩
        case measure => simp [intOf]; omega
      · have hq2 : ((nth l k : Int) != (nth l' k : Int)) = true := bne_iff_ne.2 (by omega)
        have HD := hid (HN.out hq)
        clear hq HN HS
        generalize nth l k = x at *
        generalize nth l' k = y at *
        go_wp2
        go_quiet (fail)
        go_wp2
        go_ret
        exact ⟨ret_bool HD.out.symm, ((Ext.refl w).drewN _).drewN _⟩
    · have HD : Hid (decide (l = l') = true) := by
        refine hid ?_
        rw [decide_eq_true_iff]
        exact ext_nth (by rw [HL.out, HL'.out]) (fun i hi => hm i (by rw [HL.out] at hi; omega))
      clear hm HE
      go_wp2
      go_ret
      exact ⟨ret_bool HD.out.symm, (Ext.refl w).drewN _⟩

theorem same_none (a : Option Addr) (c : Nat) (a' : Option Addr) (c' : Nat) (w : World) :
    Calls Try.prog 19 #[.slice a 0 c, .slice a' 0 c'] w fun e w' => e = .returned (.bool true) ∧ Ext w w' := by
  go_enter Try.func19, Try.ntmps19
  go_wp2
  go_loopw [5] (fun i wr => i = .int .i64 0 ∧ wr = w) (fun _ _ => 0)
  case atStart => exact ⟨rfl, rfl⟩
  case round =>
    obtain ⟨rfl, rfl⟩ := hrel
    go_wp2
    go_ret
    exact ⟨rfl, Ext.refl _⟩
theorem same_unlike (a : Option Addr) (n c : Nat) (a' : Option Addr) (n' c' : Nat) (w : World) (hn : n ≠ n') :
    Calls Try.prog 19 #[.slice a n c, .slice a' n' c'] w fun e w' => e = .returned (.bool false) ∧ Ext w w' := by
  have hq : ((n : Int) != (n' : Int)) = true := bne_iff_ne.2 (by omega)
  clear hn
  go_enter Try.func19, Try.ntmps19
  go_wp2
  go_ret
  exact ⟨rfl, Ext.refl _⟩
theorem same_c {a a' : Option Addr} {n n' : Nat} {l l' : List Nat} (c c' : Nat) {w : World} (h : BytesAt w a n l) (h' : BytesAt w a' n' l') :
    Calls Try.prog 19 #[.slice a n c, .slice a' n' c'] w fun e w' => e = .returned (.bool (decide (l = l'))) ∧ Ext w w' := by
  by_cases hn : n = n'
  · subst hn
    by_cases h0 : n = 0
    · subst h0
      have e1 := List.length_eq_zero_iff.1 h.len
      have e2 := List.length_eq_zero_iff.1 h'.len
      subst e1 e2
      exact same_none a c a' c' w
    · rcases h.cells with h1 | ⟨b, off, rfl, hc⟩
      · exact (h0 h1).elim
      · rcases h'.cells with h1 | ⟨b', off', rfl, hc'⟩
        · exact (h0 h1).elim
        · exact same_some b off n c b' off' n c' l l' w h.small h'.small h.len h'.len hc hc' (nth_lt h.byte) (nth_lt h'.byte) rfl
  · have e : decide (l = l') = false := by
      rw [decide_eq_false_iff_not]; intro e; exact hn (by rw [← h.len, ← h'.len, e])
    rw [e]
    exact same_unlike a n c a' n' c' w hn
end Go.Proofs.Ytkofmabonpbegaa

/- The walk of StripeApart. -/
namespace Go.Proofs.Ytkofmabonpbegaa
set_option linter.unusedVariables false
open Go Go.RowKit
set_option maxRecDepth 100000 in
set_option maxHeartbeats 1500000 in
theorem stripeApart_c (k n s a0 : Int) (w0 : (Lit.int .i64 k).wf = true) (w1 : (Lit.int .i64 n).wf = true) (w2 : (Lit.int .i64 s).wf = true) (w3 : (Lit.int .i64 a0).wf = true) (w : World) :
    Calls Try.prog 4 #[.int .i64 k, .int .i64 n, .int .i64 s, .int .i64 a0] w fun e w' => e = .returned (.bool true) ∧ Ext w w' := by
  clear w0 w1 w2 w3
  have hzc := zero_cfg
  have HCS := hid Cfg.A_size
  go_enter Try.func4, Try.ntmps4
  go_wp2_with fail
  refine (kfixed_c k n 4 2 _).mono ?_
  rintro e w1 ⟨rfl, x1⟩
  have HGD := hid (show (keepFixed k n 4 2).Good from keepFixed_good k n 4 2 (by omega) (by omega) (by omega) (by omega))
  have HK4 := hid (keepFixed_k4 k n 4 2)
  have HN6 := hid (keepFixed_n6 k n 4 2)
  have HST := hid (show (keepFixed k n 4 2).stripes = 4 from rfl)
  have HSL := hid (show (keepFixed k n 4 2).slots = 2 from rfl)
  generalize keepFixed k n 4 2 = c at *
  obtain ⟨W1, hW1⟩ : ∃ W, w1.alloc (.cells (Cfg.A c) 23) = W := ⟨_, rfl⟩
  have X1 := hid (show Ext w W1 from hW1 ▸ x1.alloc _)
  have HC := hid (show W1.heap[w1.heap.size]? = some (.cells (Cfg.A c) 23 (0, 0)) from hW1 ▸ heap_alloc_new _ _)
  have hbs : (w1.alloc (.cells (Cfg.A Cfg.zero) 23)).heap[w1.heap.size]? = some (.cells (Cfg.A Cfg.zero) 23 (0, 0)) := block_alloc
  clear x1
  go_wp2_with (guard_target = wpList _ _ _ ({ dst := none, op := Op.store _ _ _, type := _, pos := _, after := _, guard := none } :: _) _ _; refine wpList_store_whole rfl 23 _ _ rfl w1.heap.size rfl (Cfg.A c) _ rfl 23 ?_ hbs ?_ ?_ ?_; (rw [HCS.out]; exact aggCfg); (rw [HCS.out, HCS.out]); exact Cfg.A_one _)
  rw [setRow_alloc, hW1]
  clear hbs hW1
  have HLT := hid (lt_of_block HC.out)
  generalize w1.heap.size = g at *
  obtain ⟨m, hm, m1, m128⟩ := sectors_nat c HGD.out
  obtain ⟨nn, hn⟩ : ∃ nn : Nat, c.n = nn := ⟨c.n.toNat, by have := HGD.out.k0; have := HGD.out.k1; omega⟩
  obtain ⟨kk, hk⟩ : ∃ kk : Nat, c.k = kk := ⟨c.k.toNat, by have := HGD.out.k0; omega⟩
  have HNT := hid (show c.n.toNat = nn by omega)
  have HKT := hid (show c.k.toNat = kk by omega)
  have n1 : 1 ≤ nn := by have := HGD.out.k0; have := HGD.out.k1; omega
  have n8 : nn ≤ 6 := by have := HN6.out; omega
  have k1 : 1 ≤ kk := by have := HGD.out.k0; omega
  have k4 : kk ≤ 4 := by have := HK4.out; omega
  have HKN := hid (show kk ≤ nn by have := HGD.out.k1; omega)
  have HM := hid hm; have HN := hid hn; have HK := hid hk
  have xd : Ext W1 W1.drew := (Ext.refl W1).drew
  have lc : Hid (∀ x : SW Ext W1.drew, ∀ j v, (Cfg.A c).toList[j]? = some v → x.w.cell? ((⟨g, 0, none⟩ : Addr).add j) = some v) := hid fun x => agg_cells ((Ext.trans xd x.ext).at HC.out)
  have c2 : ∀ x : SW Ext W1.drew, x.w.cell? ⟨g, 2, none⟩ = some (.int .i64 nn) := fun x => (cell_at ((Ext.trans xd x.ext).at HC.out)).trans (by rw [Cfg.A2, HN.out])
  have sc : Hid (∀ x : SW Ext W1.drew, Calls Try.prog 15 #[.agg (Cfg.A c)] x.w fun e w'' => e = .returned (.int .i64 m) ∧ Ext x.w w'') := hid fun x => by
    have := ksectors_c c HGD.out x.w
    rw [HM.out] at this
    exact this
  have HAG := hid (cfg_agg c)
  clear hm hn hk
  refine wp_region_rely_all (S := Ext) (.one [0, 1, 2, 3] 4 (.fin [5, 6, 7, 8, 9])) (by kernel_rfl) (by kernel_rfl) (fun _ _ d _ _ h => by cases d <;> exact h) ?_
  rw [wpS]
  simp only [opsAt, List.map_cons, List.map_nil, Array.getD_eq_getD_getElem?, List.getElem?_toArray, List.getElem?_cons_succ, List.getElem?_cons_zero, Option.getD_some]
  iterate 2 ((refine wpSQ_step (fun K hK => ?_); go_simp; first | (refine hK _ ?_; clear hK K) | (apply Exists.intro; refine ⟨fun x => ?_, hK _ ?_⟩; (fail); clear hK K)))
  refine wpSQ_load_agg 23 _ rfl ⟨g, 0, none⟩ rfl (Cfg.A c) rfl HAG.out lc.out ?_
  (refine wpSQ_step (fun K hK => ?_); go_simp; first | (refine hK _ ?_; clear hK K) | (apply Exists.intro; refine ⟨fun x => ?_, hK _ ?_⟩; (exact sc.out x); clear hK K))
  refine wpSQ_nil ?_
  intro V1 hV1
  refine wpS_loud fun K hK => ?_
  go_wp2_with fail
  refine (at_new nn m n1 (by omega) m1 m128 V1).mono ?_
  rintro e w2 ⟨r, rfl, h2, x2⟩
  go_wp2
  refine hK _ _ x2 ?_
  clear hK K
  rw [wpS]
  simp only [opsAt, List.map_cons, List.map_nil, Array.getD_eq_getD_getElem?, List.getElem?_toArray, List.getElem?_cons_succ, List.getElem?_cons_zero, Option.getD_some]
  iterate 5 ((refine wpSQ_step (fun K hK => ?_); go_simp; first | (refine hK _ ?_; clear hK K) | (apply Exists.intro; refine ⟨fun x => ?_, hK _ ?_⟩; (fail); clear hK K)))
  refine wpSQ_nil ?_
  intro V2 hV2
  obtain ⟨S0, hS0⟩ : ∃ S : Nat → Prop, (fun b => b < W1.heap.size) = S := ⟨_, rfl⟩
  have HJ2 := hid (show SE w V2 S0 r (Rck.new nn m) g c [] from hS0 ▸ ⟨(h2.less fun b hb => Nat.lt_of_lt_of_le hb (Ext.trans xd hV1).size).ext hV2, Ext.trans X1.out (Ext.trans xd (Ext.trans hV1 (Ext.trans x2 hV2))), fun b hb => Nat.lt_of_lt_of_le hb X1.out.size, (Ext.trans xd (Ext.trans hV1 (Ext.trans x2 hV2))).at HC.out, HLT.out, fun p hp => by simp at hp⟩)
  have HSR0 : Hid (SR (Rck.new nn m) c m (fun _ => none) allU fun _ => noB) := hid (by
    have := SR.new HGD.out (m := m) (by rw [HM.out]; exact Int.le_refl _)
    rw [HNT.out] at this
    exact this)
  clear h2 x2 hV1 hV2 lc c2 sc xd X1 HC HLT hS0
  have HAP0 : Hid (AP (Rck.new nn m) c m (apF kk 0)) := hid (by
    rw [apF_zero]
    have := AP.new HGD.out (m := m) (by rw [HM.out]; exact Int.le_refl _)
    rw [HNT.out] at this
    exact this)
  have HLOW := hid (show ∀ b, b < w.heap.size → S0 b from HJ2.out.low)
  have HGS := hid HJ2.out.cfgS
  clear HSR0
  go_wp2
  go_loopw [12] (fun t wr => ∃ i : Nat, t = .int .i64 i ∧ i ≤ 4 ∧ ∃ R, AP R c m (apF kk i) ∧ SE w wr S0 r R g c []) (fun t _ => 4 - (intOf t).toNat)
  case atStart => exact ⟨0, rfl, by omega, _, HAP0.out, HJ2.out⟩
  case round =>
    clear HAP0 HJ2
    obtain ⟨i, rfl, hi, R, hap, hj⟩ := hrel
    have HJR := hid hj; have HAP := hid hap
    clear hj hap
    by_cases hlt : i < 4
    · have i4 : (i : Int) < 4 := by omega
      obtain ⟨la, hla⟩ : ∃ l, blocksOf kk i = l := ⟨_, rfl⟩
      obtain ⟨R1, hput, hap1, _⟩ := HAP.out.put (SFit.of (c := c) (s := i) (gen := 2 + (i : Int)) (n := i) (by rw [HST.out]; show i < 4; exact hlt) (by omega) (by omega))
      rw [HKT.out, hla] at hput hap1
      have HPUT := hid hput
      have HAP1 := hid (show AP R1 c m (apF kk (i + 1)) from by rw [← apF_succ, hla]; exact hap1)
      have LA8 := hid (hla ▸ blocksOf_108 kk i)
      have LAB := hid (hla ▸ blocksOf_bytes kk i)
      have HLA := hid hla
      have xd : Ext wr wr.drew := (Ext.refl wr).drew
      have HJD := hid (HJR.out.more xd)
      have lc : Hid (∀ y : SW (Only fun b => ¬ S0 b) wr.drew, ∀ j v, (Cfg.A c).toList[j]? = some v → y.w.cell? ((⟨g, 0, none⟩ : Addr).add j) = some v) := hid fun y => agg_cells (y.ext.at HJD.out.cfg (fun q => q HJD.out.cfgS))
      have ck : ∀ y : SW (Only fun b => ¬ S0 b) wr.drew, y.w.cell? ⟨g, 1, none⟩ = some (.int .i64 kk) := fun y => (cell_at (y.ext.at HJD.out.cfg (fun q => q HJD.out.cfgS))).trans (by rw [Cfg.A1, HK.out])
      have hw1 : wrap64 (2 + (i : Int)) = 2 + (i : Int) := by unfold wrap64; omega
      have hw2 : IntKind.i64.wrap (2 + (i : Int)) = 2 + (i : Int) := by rw [IntKind.wrap_i64]; omega
      clear xd hput hap1 hla HJR
      go_wp2_with fail
      refine wp_region_calm_all (E := Ext) (S := Only fun b => ¬ S0 b) (.one [0, 1, 2, 3, 4, 5, 6, 7] 8 (.one [] 9 (.fin [10]))) (by kernel_rfl) (by kernel_rfl) (fun _ _ d _ _ h => by cases d <;> exact h) ?_
      rw [wpS]
      simp only [opsAt, List.map_cons, List.map_nil, Array.getD_eq_getD_getElem?, List.getElem?_toArray, List.getElem?_cons_succ, List.getElem?_cons_zero, Option.getD_some]
      (refine wpSQ_step (fun K hK => ?_); go_simp; first | (refine hK _ ?_; clear hK K) | (apply Exists.intro; refine ⟨fun x => ?_, hK _ ?_⟩; (fail); clear hK K))
      refine wpSQ_load_agg 23 _ rfl ⟨g, 0, none⟩ rfl (Cfg.A c) rfl (cfg_agg c) lc.out ?_
      iterate 6 ((refine wpSQ_step (fun K hK => ?_); go_simp; first | (refine hK _ ?_; clear hK K) | (apply Exists.intro; refine ⟨fun x => ?_, hK _ ?_⟩; (fail); clear hK K)))
      refine wpSQ_nil ?_
      intro V3 hV3
      have HJ3 := hid (HJD.out.more hV3)
      clear lc ck hV3 HJD
      refine wpS_loud fun Q1 hQ1 => ?_
      go_wp2_with fail
      refine (kblocks_c kk (by omega) i V3).mono ?_
      rintro e w4 ⟨v, rfl, hown, x4⟩
      rw [HLA.out] at hown
      obtain ⟨a, ca, rfl, hbk, hab⟩ := kblocks_at LA8.out hown
      have HJ4 := hid (HJ3.out.put x4 la a hbk hab)
      clear hown hbk hab
      go_wp2
      refine hQ1 _ _ (Ext.only x4) ?_
      clear hQ1 Q1 x4
      rw [wpS]
      simp only [opsAt, List.map_cons, List.map_nil, Array.getD_eq_getD_getElem?, List.getElem?_toArray, List.getElem?_cons_succ, List.getElem?_cons_zero, Option.getD_some]
      refine wpSQ_nil ?_
      intro V4 hV4
      have HJ5 := hid (HJ4.out.more hV4)
      clear hV4 HJ4
      refine wpS_loud fun Q2 hQ2 => ?_
      go_wp2_with fail
      refine (strput_c HJ5.out.rack c i (2 + (i : Int)) la LA8.out LAB.out a ca (HJ5.out.recs (a, la) (by simp)).bks).mono ?_
      rintro e w6 ⟨rfl, h6, k6⟩
      rw [HPUT.out] at h6 ⊢
      simp only [oErr]
      have HJ6 := hid (HJ5.out.keep h6 k6)
      have HK6 := hid (show Only (fun b => ¬ S0 b) V4 w6 from Only.trans (Only.refl _ V4) k6 (fun b _ hb q => hb (.inl q)))
      clear h6 k6 HJ5
      go_wp2
      refine hQ2 _ _ HK6.out ?_
      clear hQ2 Q2
      rw [wpS]
      simp only [opsAt, List.map_cons, List.map_nil, Array.getD_eq_getD_getElem?, List.getElem?_toArray, List.getElem?_cons_succ, List.getElem?_cons_zero, Option.getD_some]
      (refine wpSQ_step (fun K hK => ?_); go_simp; first | (refine hK _ ?_; clear hK K) | (apply Exists.intro; refine ⟨fun x => ?_, hK _ ?_⟩; (fail); clear hK K))
      refine wpSQ_nil ?_
      intro V6 hV6
      have HJ7 := hid ((HJ6.out.more hV6).less (S := S0) (fun b hb => .inl hb) HLOW.out HGS.out)
      clear hV6 HJ6 HK6 HJ3
      go_wp2
      go_roundw
      case rel => exact ⟨i + 1, by go_num, by omega, R1, HAP1.out, HJ7.out⟩
      case measure => simp [intOf]; omega
    · obtain rfl : i = 4 := by omega
      rw [show ((4 : Nat) : Int) = 4 from rfl]
      obtain ⟨W7, hW7⟩ : ∃ W, W = wr := ⟨_, rfl⟩
      have HU := hid HJR.out.under
      have hbd : nn * m ≤ 768 := Nat.le_trans (Nat.mul_le_mul n8 m128) (by omega)
      have HBD := hid hbd
      obtain ⟨hf, hhf⟩ : ∃ hf : Nat → List Nat, (fun q => (R.dsk ((q / m : Nat) : Int)).read (q % m)) = hf := ⟨_, rfl⟩
      have HHF := hid (show ∀ d i : Nat, i < m → hf (d * m + i) = (R.dsk (d : Int)).read i from fun d i hi => by
        rw [← hhf]
        show (R.dsk (((d * m + i) / m : Nat) : Int)).read ((d * m + i) % m) = _
        have e1 : (d * m + i) / m = d := by rw [Nat.mul_comm, Nat.mul_add_div (by omega), Nat.div_eq_of_lt hi]; rfl
        have e2 : (d * m + i) % m = i := by rw [Nat.mul_comm, Nat.mul_add_mod, Nat.mod_eq_of_lt hi]
        rw [e1, e2])
      have HDM := hid (show ∀ d : Nat, d < nn → d * m + m ≤ 768 from fun d hd => by
        have := Nat.mul_le_mul_right m (show d + 1 ≤ nn by omega)
        rw [Nat.add_mul] at this
        omega)
      clear hbd hhf
      subst hW7
      go_wp2
      go_loopw [14, 13] (fun t v wd => ∃ d : Nat, t = .int .i64 d ∧ d ≤ nn ∧ ∃ bk cp, HadAt wd W7.heap.size v (d * m) hf bk cp ∧ Ext W7 wd) (fun t _ _ => nn - (intOf t).toNat)
      case atStart => exact ⟨0, rfl, by omega, _, _, by rw [Nat.zero_mul]; exact HadAt.nil _ _ _, Ext.refl _⟩
      case round =>
        obtain ⟨d, rfl, hd, bk, cp, hh, hx⟩ := hrel
        have c2 : wr.cell? ⟨g, 2, none⟩ = some (.int .i64 nn) := (cell_at (hx.at HJR.out.cfg)).trans (by rw [Cfg.A2, HN.out])
        by_cases hdl : d < nn
        · have HH := hid hh; have HX := hid hx
          clear hh hx
          go_wp2
          go_loopw [15, 13] (fun t v wd => ∃ i : Nat, t = .int .i64 i ∧ i ≤ m ∧ ∃ bk cp, HadAt wd W7.heap.size v (d * m + i) hf bk cp ∧ Ext W7 wd) (fun t _ _ => m - (intOf t).toNat)
          case atStart => exact ⟨0, rfl, by omega, bk, cp, HH.out, HX.out⟩
          case round =>
            clear HH HX c2
            obtain ⟨i, rfl, hi, bk, cp, hh, hx⟩ := hrel
            have HJI := hid (HJR.out.more hx)
            have HH := hid hh; have HX := hid hx
            clear hh hx
            go_wp2_with fail
            refine (at_sectors HJI.out.rack).mono ?_
            rintro e w8 ⟨rfl, rfl⟩
            rw [HAP.out.sectors]
            by_cases him : i < m
            · have h1 : (i : Int) < (m : Int) := by omega
              go_wp2_with fail
              refine (at_read HJI.out.rack d i).mono ?_
              rintro e w9 (⟨er, he, rfl, x9⟩ | ⟨he, p, rfl, hp, hs, x9⟩)
              · rw [HAP.out.readE (by rw [HNT.out]; exact hdl) him] at he; cases he
              have hsz := Nat.le_trans HX.out.size (Nat.le_refl wr.heap.size)
              obtain ⟨v', w10, bk', cp', hap, hh', hx'⟩ := HH.out.push (W := w9) x9 (b := p.blk) (c := p.cap) (by rw [HHF.out d i him]; simpa using hs.bytes) hp (by have := HDM.out d hdl; omega) hsz
              have HAPP := hid hap
              have HH2 := hid hh'
              have HX2 := hid (hx' W7 (Nat.le_refl _) (Ext.trans HX.out x9))
              have HSV := hid (show (secV p.blk p.cap).size = 1 from rfl)
              clear he hp hs x9 hap hh' hx' hsz HH HX HJI
              go_wp2_with (first
                | (guard_target = wpList _ _ _ ({ dst := some _, op := Op.buildSlice _ _ _, type := _, pos := _, after := _, guard := none } :: _) _ _; refine wpList_buildSlice_one rfl 43 45 _ rfl (secV p.blk p.cap) _ _ 1 24 Try.underlying43 infoRow (by omega) (by omega) rfl rfl HSV.out ?_)
                | (at_builtin; refine wpList_append_run rfl _ _ _ rfl _ _ _ _ rfl rfl HAPP.out ?_))
              go_roundw
              case rel => exact ⟨i + 1, by go_num, by omega, bk', cp', HH2.out, HX2.out⟩
              case measure => simp [intOf]; omega
            · obtain rfl : m = i := by omega
              have HH2 := hid (show HadAt wr W7.heap.size _ ((d + 1) * m) hf bk cp from by rw [Nat.add_mul, Nat.one_mul]; exact HH.out)
              go_wp2
              go_roundw
              case rel => exact ⟨d + 1, by go_num, by omega, bk, cp, HH2.out, HX.out⟩
              case measure => simp [intOf]; omega
        · obtain rfl : nn = d := by omega
          obtain ⟨N, hN⟩ : ∃ N, nn * m = N := ⟨_, rfl⟩
          rw [hN] at hh
          obtain ⟨hg0, hc0, rfl, hcells⟩ := hh.slice (by rw [← hN]; exact Nat.mul_pos (by omega) (by omega))
          have HNM := hid hN
          have N8 : (N : Int) ≤ 768 := by have := HBD.out; rw [hN] at this; omega
          clear hN
          have HH := hid hh
          obtain ⟨S8, hS8⟩ : ∃ S, wideS S0 W7 wr = S := ⟨_, rfl⟩
          have HJ8 := hid (hS8 ▸ HJR.out.wide hx)
          have HS8 := hid (show ∀ b, W7.heap.size ≤ b → b < wr.heap.size → S8 b from fun b h1 h2 => hS8 ▸ .inr ⟨h1, h2⟩)
          have HHG := hid (hh.own.lt hg0 rfl)
          have HCE := hid hcells
          clear hh hx hcells hS8 HJR
          go_wp2_with fail
          refine (within_c s 0 3 wr (by omega) (by omega) (by omega)).mono ?_
          rintro e w9 ⟨rfl, rfl⟩
          obtain ⟨s0, s1⟩ := within_bd s 0 3 (by omega)
          obtain ⟨x, hx⟩ := Int.eq_ofNat_of_zero_le s0
          rw [hx]
          have hx4 : x < 4 := by omega
          clear s0 s1 hx
          obtain ⟨la, hla⟩ : ∃ l, blocksOf kk a0 = l := ⟨_, rfl⟩
          obtain ⟨R5, hput, hap5, hrd⟩ := HAP.out.put (SFit.of (c := c) (s := x) (gen := 9) (n := a0) (by rw [HST.out]; show x < 4; exact hx4) (by omega) (by omega))
          rw [HKT.out, hla] at hput hap5
          have HPUT := hid hput
          have HAP5 := hid hap5
          have HRD := hid hrd
          have LA8 := hid (hla ▸ blocksOf_108 kk a0)
          have LAB := hid (hla ▸ blocksOf_bytes kk a0)
          have LAN := hid (show la.length ≤ 8 by rw [← hla, blocksOf_len]; omega)
          have HLA := hid hla
          have HX4 := hid hx4
          have xd : Ext wr wr.drew := (Ext.refl wr).drew
          have HJD := hid (HJ8.out.more xd)
          have lc : Hid (∀ y : SW (Only fun b => ¬ S8 b) wr.drew, ∀ j v, (Cfg.A c).toList[j]? = some v → y.w.cell? ((⟨g, 0, none⟩ : Addr).add j) = some v) := hid fun y => agg_cells (y.ext.at HJD.out.cfg (fun q => q HJD.out.cfgS))
          have ck : ∀ y : SW (Only fun b => ¬ S8 b) wr.drew, y.w.cell? ⟨g, 1, none⟩ = some (.int .i64 kk) := fun y => (cell_at (y.ext.at HJD.out.cfg (fun q => q HJD.out.cfgS))).trans (by rw [Cfg.A1, HK.out])
          have HXD := hid xd
          clear xd hput hap5 hrd hla c2
          go_wp2_with fail
          refine wp_region_calm_all (E := Ext) (S := Only fun b => ¬ S8 b) (.one [0, 1, 2, 3, 4, 5] 6 (.one [] 7 (.fin [8]))) (by kernel_rfl) (by kernel_rfl) (fun _ _ d _ _ h => by cases d <;> exact h) ?_
          rw [wpS]
          simp only [opsAt, List.map_cons, List.map_nil, Array.getD_eq_getD_getElem?, List.getElem?_toArray, List.getElem?_cons_succ, List.getElem?_cons_zero, Option.getD_some]
          (refine wpSQ_step (fun K hK => ?_); go_simp; first | (refine hK _ ?_; clear hK K) | (apply Exists.intro; refine ⟨fun x => ?_, hK _ ?_⟩; (fail); clear hK K))
          refine wpSQ_load_agg 23 _ rfl ⟨g, 0, none⟩ rfl (Cfg.A c) rfl (cfg_agg c) lc.out ?_
          iterate 4 ((refine wpSQ_step (fun K hK => ?_); go_simp; first | (refine hK _ ?_; clear hK K) | (apply Exists.intro; refine ⟨fun x => ?_, hK _ ?_⟩; (fail); clear hK K)))
          refine wpSQ_nil ?_
          intro V3 hV3
          have HJ9 := hid (HJD.out.more hV3)
          have HX9 := hid (Ext.trans HXD.out hV3)
          clear lc ck hV3 HJD
          refine wpS_loud fun Q1 hQ1 => ?_
          go_wp2_with fail
          refine (kblocks_c kk (by omega) a0 V3).mono ?_
          rintro e w4 ⟨v, rfl, hown, x4⟩
          rw [HLA.out] at hown
          obtain ⟨a, ca, rfl, hbk, hab⟩ := kblocks_at LA8.out hown
          have HJ10 := hid (HJ9.out.put x4 la a hbk hab)
          have HX10 := hid (Ext.trans HX9.out x4)
          clear hown hbk hab
          go_wp2
          refine hQ1 _ _ (Ext.only x4) ?_
          clear hQ1 Q1 x4
          rw [wpS]
          simp only [opsAt, List.map_cons, List.map_nil, Array.getD_eq_getD_getElem?, List.getElem?_toArray, List.getElem?_cons_succ, List.getElem?_cons_zero, Option.getD_some]
          refine wpSQ_nil ?_
          intro V4 hV4
          have HJ11 := hid (HJ10.out.more hV4)
          have HX11 := hid (Ext.trans HX10.out hV4)
          clear hV4 HJ10
          refine wpS_loud fun Q2 hQ2 => ?_
          go_wp2_with fail
          refine (strput_c HJ11.out.rack c x 9 la LA8.out LAB.out a ca (HJ11.out.recs (a, la) (by simp)).bks).mono ?_
          rintro e w6 ⟨rfl, h6, k6⟩
          rw [HPUT.out] at h6 ⊢
          simp only [oErr]
          have HJ12 := hid (HJ11.out.keep h6 k6)
          have HK12 := hid (show Only (fun b => ¬ S8 b) V4 w6 from Only.trans (Only.refl _ V4) k6 (fun b _ hb q => hb (.inl q)))
          clear h6 k6 HJ11
          go_wp2
          refine hQ2 _ _ HK12.out ?_
          clear hQ2 Q2
          rw [wpS]
          simp only [opsAt, List.map_cons, List.map_nil, Array.getD_eq_getD_getElem?, List.getElem?_toArray, List.getElem?_cons_succ, List.getElem?_cons_zero, Option.getD_some]
          (refine wpSQ_step (fun K hK => ?_); go_simp; first | (refine hK _ ?_; clear hK K) | (apply Exists.intro; refine ⟨fun x => ?_, hK _ ?_⟩; (fail); clear hK K))
          refine wpSQ_nil ?_
          intro V6 hV6
          have HJV := hid (HJ12.out.more hV6)
          have HKV := hid (show Only (fun b => ¬ S8 b) wr V6 from Only.ext (Only.trans (Ext.only HX11.out) HK12.out (fun _ _ q => q)) hV6)
          have HHV := hid (HH.out.only HKV.out fun b h1 h2 q => q (HS8.out b h2 h1))
          have HCV := hid (show ∀ i, i < N → V6.cell? ⟨hg0, i, none⟩ = some (.slice (some ⟨bk i, 0, none⟩) 128 (cp i)) from fun i hi => Only.cell HKV.out (HCE.out i hi) fun q => q (HS8.out hg0 HHG.out.1 HHG.out.2))
          generalize wideS S8 V3 w4 = S9 at *
          clear hV6 HJ12 HK12 HJ9 HH HCE HKV HX9 HX10 HX11 HXD HJ8
          have HSEC : Hid ((1 : Int) + 2 * kk + x = (ssecN c x : Nat)) := hid (by unfold ssecN; rw [HSL.out, HKT.out]; simp)
          go_wp2
          go_loopw [20, 19] (fun t mm wd => ∃ d q : Nat, t = .int .i64 d ∧ d ≤ nn ∧ mm = .int .i64 q ∧ q = d * m ∧ Ext V6 wd) (fun t _ _ => nn - (intOf t).toNat)
          case atStart => exact ⟨0, 0, rfl, by omega, rfl, by omega, Ext.refl _⟩
          case round =>
            obtain ⟨d, q, rfl, hd, rfl, hq, hx⟩ := hrel
            have c2 : wr.cell? ⟨g, 2, none⟩ = some (.int .i64 nn) := (cell_at (hx.at HJV.out.cfg)).trans (by rw [Cfg.A2, HN.out])
            by_cases hdl : d < nn
            · have HX := hid hx
              have HQ := hid hq
              clear hx hq
              go_wp2
              go_loopw [21, 19] (fun t mm wd => ∃ i q : Nat, t = .int .i64 i ∧ i ≤ m ∧ mm = .int .i64 q ∧ q = d * m + i ∧ Ext V6 wd) (fun t _ _ => m - (intOf t).toNat)
              case atStart => exact ⟨0, q, rfl, by omega, rfl, by have := HQ.out; omega, HX.out⟩
              case round =>
                clear HX c2 HQ
                obtain ⟨i, q, rfl, hi, rfl, hq, hx⟩ := hrel
                have HJI := hid (HJV.out.more hx)
                have HHI := hid (HHV.out.ext hx)
                have HQ := hid hq
                have HX := hid hx
                have ck : wr.cell? ⟨g, 1, none⟩ = some (.int .i64 kk) := (cell_at HJI.out.cfg).trans (by rw [Cfg.A1, HK.out])
                clear hq
                go_wp2_with fail
                refine (at_sectors HJI.out.rack).mono ?_
                rintro e w8 ⟨rfl, rfl⟩
                rw [HAP5.out.sectors]
                by_cases him : i < m
                · have h1 : (i : Int) < (m : Int) := by omega
                  have hq1 : q < N := by
                    have h2 := Nat.mul_le_mul_right m (show d + 1 ≤ nn by omega)
                    rw [Nat.add_mul, HNM.out] at h2
                    have := HQ.out
                    omega
                  have ch : wr.cell? ⟨hg0, q, none⟩ = some (.slice (some ⟨bk q, 0, none⟩) 128 (cp q)) := Ext.cell hx (HCV.out q hq1)
                  clear hx
                  go_wp2_with fail
                  refine (at_read HJI.out.rack d i).mono ?_
                  rintro e w9 (⟨er, he, rfl, x9⟩ | ⟨he, p, rfl, hp, hs, x9⟩)
                  · rw [HAP5.out.readE (by rw [HNT.out]; exact hdl) him] at he; cases he
                  have ck9 : w9.cell? ⟨g, 1, none⟩ = some (.int .i64 kk) := Ext.cell x9 ck
                  have ch9 : w9.cell? ⟨hg0, q, none⟩ = some (.slice (some ⟨bk q, 0, none⟩) 128 (cp q)) := Ext.cell x9 ch
                  have q0 : (0 : Int) ≤ (q : Int) := by omega
                  have q1 : (q : Int) < (N : Int) := by omega
                  have HB1 := hid hs.bytes
                  have HB2 := hid ((HHI.out.at_ q hq1).ext x9)
                  have HX9 := hid (Ext.trans HX.out x9)
                  by_cases hne : i = ssecN c x
                  · have hb : ((i : Int) != 1 + 2 * (kk : Int) + (x : Int)) = false := by rw [HSEC.out, hne]; simp
                    clear he hp hs x9 ck ch hne HHI
                    go_wp2
                    go_roundw
                    case rel => exact ⟨i + 1, q + 1, by go_num, by omega, by go_num, by have := HQ.out; omega, HX9.out⟩
                    case measure => simp [intOf]; omega
                  · have hb : ((i : Int) != 1 + 2 * (kk : Int) + (x : Int)) = true := by rw [HSEC.out, bne_iff_ne]; omega
                    have HEQ := hid (show (R5.dsk (d : Int)).read ((i : Int)).toNat = hf q from by
                      rw [HQ.out, HHF.out d i him, Int.toNat_natCast]
                      exact HRD.out d i (by rw [HNT.out]; exact hdl) him hne)
                    clear he hp hs x9 ck ch hne HHI
                    go_wp2_with (go_at_call 19; fail)
                    refine (same_c _ _ HB1.out HB2.out).mono ?_
                    rintro e w10 ⟨rfl, x10⟩
                    rw [decide_eq_true HEQ.out]
                    have HX10 := hid (Ext.trans HX9.out x10)
                    clear x10
                    go_wp2
                    go_roundw
                    case rel => exact ⟨i + 1, q + 1, by go_num, by omega, by go_num, by have := HQ.out; omega, HX10.out⟩
                    case measure => simp [intOf]; omega
                · obtain rfl : m = i := by omega
                  have HQ2 := hid (show q = (d + 1) * m by rw [Nat.add_mul, Nat.one_mul]; exact HQ.out)
                  go_wp2
                  go_roundw
                  case rel => exact ⟨d + 1, q, by go_num, by omega, rfl, HQ2.out, HX.out⟩
                  case measure => simp [intOf]; omega
            · obtain rfl : nn = d := by omega
              have HX := hid hx
              clear hx hq
              go_wp2
              go_loopw [24] (fun t wd => ∃ i : Nat, t = .int .i64 i ∧ i ≤ 4 ∧ Ext V6 wd) (fun t _ => 4 - (intOf t).toNat)
              case atStart => exact ⟨0, rfl, by omega, HX.out⟩
              case round =>
                clear HX c2
                obtain ⟨i, rfl, hi, hx⟩ := hrel
                have HJI := hid (HJV.out.more hx)
                have HX := hid hx
                clear hx
                by_cases hlt : i < 4
                · have i4 : (i : Int) < 4 := by omega
                  go_wp2_with (guard_target = wpList _ _ _ ({ dst := some _, op := Op.load _ _, type := _, pos := _, after := _, guard := none } :: _) _ _; refine wpList_load_agg rfl 23 _ rfl ⟨g, 0, none⟩ rfl (Cfg.A c) (cfg_agg c) (agg_cells HJI.out.cfg) ?_)
                  refine (sget_c HJI.out.rack c i).mono ?_
                  rintro e w9 ⟨v, rfl, hown, x9⟩
                  have c1 : w9.cell? ⟨g, 1, none⟩ = some (.int .i64 kk) := (cell_at (x9.at HJI.out.cfg)).trans (by rw [Cfg.A1, HK.out])
                  by_cases hix : i = x
                  · rw [show R5.sget c i = (la, 9, none) from HAP5.out.get HK4.out HN6.out (by rw [hix]; exact updS_at _ _ _)] at hown ⊢
                    obtain ⟨za, zc, rfl, hbk, _⟩ := kblocks_at LA8.out hown
                    have HBK := hid hbk
                    have HX9 := hid (Ext.trans HX.out x9)
                    have hb1 : ((i : Int) != (x : Int)) = false := by rw [hix]; simp
                    have hb2 : ((i : Int) == (x : Int)) = true := by rw [hix]; simp
                    simp only [oErr]
                    clear hown x9 hbk hix
                    go_wp2_with (go_at_call 7; fail)
                    refine (kblocks_c kk (by omega) a0 w9).mono ?_
                    rintro e w10 ⟨v, rfl, hown, x10⟩
                    rw [HLA.out] at hown
                    obtain ⟨ya, yc, rfl, hbk2, _⟩ := kblocks_at LA8.out hown
                    have HBK1 := hid (HBK.out.ext x10)
                    have HBK2 := hid hbk2
                    have HX10 := hid (Ext.trans HX9.out x10)
                    clear hown x10 hbk2 c1
                    go_wp2_with (go_at_call 13; fail)
                    refine (sameblk_c la LA8.out LAN.out za ya zc yc _ HBK1.out HBK2.out).mono ?_
                    rintro e w11 ⟨rfl, x11⟩
                    have HX11 := hid (Ext.trans HX10.out x11)
                    clear x11
                    go_wp2
                    go_roundw
                    case rel => exact ⟨i + 1, by go_num, by omega, HX11.out⟩
                    case measure => simp [intOf]; omega
                  · obtain ⟨li, hli⟩ : ∃ l, blocksOf kk i = l := ⟨_, rfl⟩
                    have LI8 := hid (hli ▸ blocksOf_108 kk i)
                    have LIN := hid (show li.length ≤ 8 by rw [← hli, blocksOf_len]; omega)
                    have HLI := hid hli
                    rw [show R5.sget c i = (li, 2 + (i : Int), none) from HAP5.out.get HK4.out HN6.out (by rw [updS_other _ _ hix, apF_at kk i hlt, hli])] at hown ⊢
                    obtain ⟨za, zc, rfl, hbk, _⟩ := kblocks_at LI8.out hown
                    have HBK := hid hbk
                    have HX9 := hid (Ext.trans HX.out x9)
                    have hb1 : ((i : Int) != (x : Int)) = true := by rw [bne_iff_ne]; omega
                    have hb2 : ((i : Int) == (x : Int)) = false := by rw [beq_eq_false_iff_ne]; omega
                    have hb3 : ((2 + (i : Int)) != (2 + (i : Int))) = false := by simp
                    simp only [oErr]
                    clear hown x9 hbk hix hli
                    go_wp2_with (go_at_call 7; fail)
                    refine (kblocks_c kk (by omega) i w9).mono ?_
                    rintro e w10 ⟨v, rfl, hown, x10⟩
                    rw [HLI.out] at hown
                    obtain ⟨ya, yc, rfl, hbk2, _⟩ := kblocks_at LI8.out hown
                    have HBK1 := hid (HBK.out.ext x10)
                    have HBK2 := hid hbk2
                    have HX10 := hid (Ext.trans HX9.out x10)
                    clear hown x10 hbk2 c1
                    go_wp2_with (go_at_call 13; fail)
                    refine (sameblk_c li LI8.out LIN.out za ya zc yc _ HBK1.out HBK2.out).mono ?_
                    rintro e w11 ⟨rfl, x11⟩
                    have HX11 := hid (Ext.trans HX10.out x11)
                    clear x11
                    go_wp2
                    go_roundw
                    case rel => exact ⟨i + 1, by go_num, by omega, HX11.out⟩
                    case measure => simp [intOf]; omega
                · obtain rfl : i = 4 := by omega
                  rw [show ((4 : Nat) : Int) = 4 from rfl]
                  have HX2 := hid (Ext.trans HJV.out.ext HX.out)
                  go_wp2_with (go_at_call 3; fail)
                  refine (stripeRuns_c _).mono ?_
                  rintro e w12 ⟨rfl, x12⟩
                  have HX12 := hid (Ext.trans HX2.out x12)
                  clear x12
                  go_wp2
                  go_ret
                  exact ⟨rfl, HX12.out⟩
end Go.Proofs.Ytkofmabonpbegaa

/- The statement StripeApart: for every input the call of stavelaw's StripeApart answers true, and its arguments read behind it as they read before. No condition. -/
namespace Go.Proofs.Ytkofmabonpbegaa.stripeApart
open Go.ChangeShapes Go.WideShapes Go.ChangeAt Go.RowKit
open Go.ChangeMaps (open_string shut_string)
set_option linter.unusedVariables false      -- a walk need not use every 'w<i>' (that an integer argument fits its kind)

theorem own : ownKnob Try.prog.godebug = none := by kernel_rfl

theorem walk (a0 : Int) (a1 : Int) (a2 : Int) (a3 : Int) (w0 : (Lit.int .i64 a0).wf = true) (w1 : (Lit.int .i64 a1).wf = true) (w2 : (Lit.int .i64 a2).wf = true) (w3 : (Lit.int .i64 a3).wf = true) (w : World) :
    Calls Try.prog 4 #[.int .i64 a0, .int .i64 a1, .int .i64 a2, .int .i64 a3] w fun e w' => e = .returned (.bool true) ∧ Below w.heap.size w w' :=
  (stripeApart_c a0 a1 a2 a3 w0 w1 w2 w3 w).mono fun _ _ ⟨he, hx⟩ => ⟨he, hx.below⟩

set_option maxRecDepth 100000 in
theorem lifted (os : Os) (started : os.Started) (H : Type) (enc : TypeId × Value → H) :
    ReturnsInHanded {} Try.checked os 4 .any (Rows.stripeApartSpec.pre6 enc Try.prog Try.f4 Rows.stripeApartRow.domain false) (Rows.stripeApartSpec.post enc Try.prog Try.f4 false true false false) := by
  refine returnsInHanded_of_change (C := Try.checked) own started (by kernel_rfl) Try.func4
    (ChangeSpec.witness6 (enc := enc) (C := Try.checked) false ⟨#[], #[.int .i64 0, .int .i64 0, .int .i64 0, .int .i64 0], []⟩ 8 (by kernel_rfl) (by kernel_rfl) (by kernel_rfl) (by kernel_rfl)) ?_
  intro W base args ds gs before hval0 hW hcnd _
  have hval : ∀ (j : Nat) t v, Try.f4.params[j]? = some t → args[j]? = some v → Value.okWide Try.prog W .any base t v := hval0
  have hW' := hW
  obtain ⟨p, q, hA0, hV, rfl, hfz, hnd⟩ := hW
  have hA : DataW.TrodAll enc Try.prog W 0 (fun _ => true) true Try.f4.params.toList args.toList ds p := hA0
  rw [Try.params4] at hA hval
  obtain ⟨v0, vs0, d0, ds0, p0, q0, hargs, rfl, rfl, h0, r0⟩ := trodAll_cons hA
  obtain ⟨v1, vs1, d1, ds1, p1, q1, rfl, rfl, rfl, h1, r1⟩ := trodAll_cons r0
  obtain ⟨v2, vs2, d2, ds2, p2, q2, rfl, rfl, rfl, h2, r2⟩ := trodAll_cons r1
  obtain ⟨v3, vs3, d3, ds3, p3, q3, rfl, rfl, rfl, h3, r3⟩ := trodAll_cons r2
  obtain ⟨rfl, rfl, rfl⟩ := trodAll_nil r3
  obtain rfl : args = #[v0, v1, v2, v3] := by cases args; simp_all
  obtain ⟨rfl, rfl⟩ := trodVars_none hV
  obtain ⟨a0, rfl, rfl, rfl, w0⟩ := open_int Try.underlying3 (hval 0 3 v0 rfl rfl) h0
  obtain ⟨a1, rfl, rfl, rfl, w1⟩ := open_int Try.underlying3 (hval 1 3 v1 rfl rfl) h1
  obtain ⟨a2, rfl, rfl, rfl, w2⟩ := open_int Try.underlying3 (hval 2 3 v2 rfl rfl) h2
  obtain ⟨a3, rfl, rfl, rfl, w3⟩ := open_int Try.underlying3 (hval 3 3 v3 rfl rfl) h3
  clear hA0 hval0
  simp only [List.append_nil] at hW'
  refine (walk a0 a1 a2 a3 w0 w1 w2 w3 W).mono fun e W' ⟨he, hg⟩ => ?_
  subst he
  exact ⟨_, rfl, _, _, _, [], _, [], hW', trodAll_mk1 (shut_bool Try.underlying4 _), (trodAll_cons_mk (shut_int Try.underlying3 w0) (trodAll_cons_mk (shut_int Try.underlying3 w1) (trodAll_cons_mk (shut_int Try.underlying3 w2) (trodAll_cons_mk (shut_int Try.underlying3 w3) trodAll_mk0)))), rfl, hg.frame _, fun h => by cases h⟩

theorem over : Rows.stripeApartRow.holds Try.pinned (OpenSpec.ofChange Rows.stripeApartSpec) :=
  OpenClaim.holds_of_wide 4 Try.f4 rfl rfl rfl rfl rfl rfl rfl ⟨rfl, rfl, rfl, rfl, rfl⟩ rfl rfl rfl rfl rfl (by kernel_rfl) Try.func4 (by kernel_rfl)
    (of_decide_eq_true (by kernel_rfl)) (by unfold Func.isWrapper; first | (rw [if_pos (by decide +kernel)]; kernel_rfl) | (rw [if_neg (by decide +kernel)]; exact ⟨rfl, rfl⟩))
    (fun os started H enc _ => lifted os started H enc)

theorem proved : Rows.StripeApartSaid :=
  over
#print axioms proved
end Go.Proofs.Ytkofmabonpbegaa.stripeApart
