/- The statement SuperTells, as its tied card: for every input the call of stavelaw9's SuperTells answers true, and its arguments read behind it as they read before. No condition of our own. -/
/- Texts of one proof, joined: RefDisk, RefRack, RefCfg, RefFits, WSuperTells, CfgArg, LawSuperTells. -/
import Derived.Test.YtdbjojnejkklhaaDoorPartE
import Derived.Test.YtdbjojnejkklhaaDoorPartF
import Derived.Test.YtdbjojnejkklhaaDoorPartD
import Derived.ArgAppend
import Derived.Test.YtdbjojnejkklhaaDoorPartH
import Derived.Test.YtdbjojnejkklhaaDoorPartI
import Derived.Test.YtdbjojnejkklhaaDoorPartA
import Derived.WalkKit
import Derived.ProofKit
import Derived.OpenShut
import Derived.Deep.Fields
import Derived.SevenTiedAt
import Derived.Test.YtdbjojnejkklhaaDoorCards
import Derived.Test.YtdbjojnejkklhaaDoorTie
import Derived.Test.YtdbjojnejkklhaaDoorPartC
import Derived.ShutString
import Derived.ChangeOld
import Derived.Below
set_option linter.unusedVariables false
set_option linter.unusedSimpArgs false
/- The document's own answer: a new disk. -/
namespace Go.Proofs.YtdbjojnejkklhaaDoor
set_option linter.unusedVariables false
open Go Go.RowKit
/-- 'append(l, x)', x lying anywhere, one cell an element. -/
theorem push1 {t e : TypeId} {z : Value} {bytes : Nat} (ht : Tryd.prog.underlying t = some (.slice e)) (hinfo : (Tryd.prog.info? e).map (fun i => (i.zero, i.size, i.bytes)) = some (some z, 1, bytes)) (hz : z.cells.size = 1) (hby : bytes ≤ 40)
    {w : World} {B : Nat} {v : Value} {l : List Value} {n : Nat} (h : w.ownsRow B e 1 v n l) (x : Value) (hx : x.oneCell' = true) (g : Nat) (hg : w.cell? ⟨g, 0, none⟩ = some x) (hn : n < 1000000) (hB : B ≤ w.heap.size) :
    ∃ v' w', (Builtin.append_ #[t, t] t #[v, .slice (some ⟨g, 0, none⟩) 1 1]).run Tryd.prog w = .ok v' w' ∧ w'.ownsRow B e 1 v' (n + 1) (l ++ [x]) ∧
      Only (fun b => v.ownBlock = some b) w w' ∧ (v'.ownBlock = v.ownBlock ∨ v'.ownBlock = some w.heap.size) := by
  obtain ⟨i0, hi, hz0, hz1, hz2⟩ := info_parts hinfo
  obtain ⟨v', w', h1, h2, h3, _, h5⟩ := run_append_own_at (P := Tryd.prog) (w := w) B t t e i0 z 1 bytes ht hi hz0 hz1 hz2 hz (by decide)
    v n _ h ⟨g, 0, none⟩ 1 1 [x] rfl
    (by
      intro j u hu
      have hj : j = 0 := by
        rcases j with _ | j
        · rfl
        · simp at hu
      subst hj
      have e : (⟨g, 0, none⟩ : Addr).add 0 = ⟨g, 0, none⟩ := rfl
      rw [e, hg]
      simpa using hu)
    (by intro u hu; simp at hu; subst hu; exact hx) (by unfold maxLen; omega)
    (by have : (n + 1) * bytes ≤ (n + 1) * 40 := Nat.mul_le_mul_left _ hby; omega) hB
  exact ⟨v', w', h1, h2, (Only.refl (fun b => v.ownBlock = some b) w).grown h3 (fun k _ e => e), h5⟩
/-- What an append to v, and what is new, may leave: v's own row is there, as long as it was. -/
def KeepRow (v : Value) (w w' : World) : Prop :=
  Only (fun b => v.ownBlock = some b) w w' ∧ ∀ g cur E, v.ownBlock = some g → w.heap[g]? = some (.cells cur E (0, 0)) → ∃ cur', w'.heap[g]? = some (.cells cur' E (0, 0)) ∧ cur'.size = cur.size
theorem KeepRow.ext {v : Value} {w w' : World} (h : Ext w w') : KeepRow v w w' := ⟨Ext.only h, fun g cur E _ hg => ⟨cur, Ext.at h hg, rfl⟩⟩
instance KeepRow.pre (v : Value) : Pre (KeepRow v) := ⟨fun w => KeepRow.ext (Ext.refl w), fun h k => ⟨Only.trans h.1 k.1 (fun _ _ x => x), fun g cur E hv hg => by
  obtain ⟨c1, h1, h2⟩ := h.2 g cur E hv hg
  obtain ⟨c3, h3, h4⟩ := k.2 g c1 E hv h1
  exact ⟨c3, h3, h4.trans h2⟩⟩⟩
theorem KeepRow.row {v : Value} {w w' : World} (k : KeepRow v w w') {B n : Nat} {e : TypeId} {l : List Value} (h : w.ownsRow B e 1 v n l) : ∃ l', w'.ownsRow B e 1 v n l' := by
  rcases h.2 with ⟨h1, h2⟩ | ⟨g, cap, cur, h1, h2, h3, h4, h5, h6, h7⟩
  · exact ⟨l, h.1, .inl ⟨h1, h2⟩⟩
  · obtain ⟨c1, q1, q2⟩ := k.2 g cur e (by rw [h1]; rfl) h3
    exact ⟨c1.toList.take (n * 1), by simp; omega, .inr ⟨g, cap, c1, h1, h2, q1, h4, h5, by omega, rfl⟩⟩
theorem push_keep {t e : TypeId} {z : Value} {bytes : Nat} (ht : Tryd.prog.underlying t = some (.slice e)) (hinfo : (Tryd.prog.info? e).map (fun i => (i.zero, i.size, i.bytes)) = some (some z, 1, bytes)) (hz : z.cells.size = 1) (hby : bytes ≤ 40)
    {w : World} {B : Nat} {v : Value} {l : List Value} {n : Nat} (h : w.ownsRow B e 1 v n l) (x : Value) (hx : x.oneCell' = true) (g : Nat) (hg : w.cell? ⟨g, 0, none⟩ = some x) (hn : n < 1000000) (hB : B ≤ w.heap.size) :
    ∃ v' w', (Builtin.append_ #[t, t] t #[v, .slice (some ⟨g, 0, none⟩) 1 1]).run Tryd.prog w = .ok v' w' ∧ KeepRow v w w' ∧ (∀ w2, KeepRow v w' w2 → ∃ l', w2.ownsRow B e 1 v' (n + 1) l') := by
  have hnews : ∀ (j : Nat) (u : Value), [x][j]? = some u → w.cell? ((⟨g, 0, none⟩ : Addr).add j) = some u := by
    intro j u hu
    have hj : j = 0 := by
      rcases j with _ | j
      · rfl
      · simp at hu
    subst hj
    have e : (⟨g, 0, none⟩ : Addr).add 0 = ⟨g, 0, none⟩ := rfl
    rw [e, hg]
    simpa using hu
  have h1x : ∀ u ∈ [x], u.oneCell' = true := by intro u hu; simp at hu; subst hu; exact hx
  rcases h.2 with ⟨h1, h2⟩ | ⟨b, cap, cur, h1, h2, h3, h4, h5, h6, h7⟩
  · obtain ⟨v', w', q1, q2, q3, q4⟩ := push1 ht hinfo hz hby h x hx g hg hn hB
    have hv : v.ownBlock = none := by rw [h1]; rfl
    have hE : Ext w w' := q3.mono fun i _ hi => by rw [hv] at hi; cases hi
    refine ⟨v', w', q1, KeepRow.ext hE, fun w2 k => ⟨_, ownsRow_ext q2 (k.1.mono fun i _ hi => by rw [hv] at hi; cases hi)⟩⟩
  · subst h1
    obtain ⟨i0, hi, hz0, hz1, hz2⟩ := info_parts hinfo
    by_cases hr : n + 1 ≤ cap
    · have hrun := run_append_room_cells (P := Tryd.prog) w t t e i0 ht hi b 0 n cap ⟨g, 0, none⟩ 1 1 [x] (by rw [hz1]; rfl) hnews h1x hr
        (fun j hj => by rw [cell_at h3]; simp at hj; subst hj; rw [hz1]; simp; omega) (fun j _ => free_at h3)
      refine ⟨_, _, hrun, ?_, fun w2 k => ?_⟩
      · rw [hz1, show 0 + n * 1 = n by omega]
        refine ⟨Only.setCell (F := fun b1 => (Value.slice (some ⟨b, 0, none⟩) n cap).ownBlock = some b1) (Only.refl _ w) (p := ⟨b, n, none⟩) (.inr rfl) x, fun g' cur' E hv hg' => ?_⟩
        have e1 : b = g' := by simpa [Value.ownBlock] using hv
        subst e1
        exact ⟨_, block_set hg' x, by simp⟩
      · rw [hz1, show 0 + n * 1 = n by omega] at k
        obtain ⟨c1, q1, q2⟩ := k.2 b (cur.setIfInBounds n x) e rfl (block_set h3 x)
        have q3 : c1.size = cap := by rw [q2]; simp; omega
        exact ⟨c1.toList.take ((n + 1) * 1), by simp; omega, .inr ⟨b, cap, c1, rfl, h2, q1, hr, h5, by omega, rfl⟩⟩
    · have hcells : ∀ (j : Nat) (u : Value), l[j]? = some u → w.cell? ((⟨b, 0, none⟩ : Addr).add j) = some u := fun j u hu => h.cells (g := b) rfl j u hu
      obtain ⟨v', w', q1, q2, q3⟩ := run_append_arg_grows (P := Tryd.prog) w t t e i0 z 1 bytes ht hi hz0 hz1 hz2 hz (by decide) ⟨b, 0, none⟩ n cap l h.1 hcells ⟨g, 0, none⟩ 1 1 [x] rfl hnews (by omega) (by unfold maxLen; omega)
        (by have : (n + 1) * bytes ≤ (n + 1) * 40 := Nat.mul_le_mul_left _ hby; omega)
      have hE : Ext w w' := (Only.refl (fun _ => False) w).grown q3 (fun k _ e => by cases e)
      have hbl := lt_of_block h3
      refine ⟨v', w', q1, KeepRow.ext hE, fun w2 k => ?_⟩
      rcases q2.2 with ⟨_, h0⟩ | ⟨g2, c2, cur2, r1, r2, r3, r4⟩
      · omega
      · exact ⟨_, q2.1, .inr ⟨g2, c2, cur2, r1, by omega, k.1.at r3 (fun hq => by
          have : b = g2 := by simpa [Value.ownBlock] using hq
          omega), r4⟩⟩
theorem infoB : (Tryd.prog.info? 30).map (fun i => (i.zero, i.size, i.bytes)) = some (some (.slice none 0 0), 1, 24) := by kernel_rfl
theorem infoD : (Tryd.prog.info? 111).map (fun i => (i.zero, i.size, i.bytes)) = some (some (.pointer none), 1, 8) := by kernel_rfl
def RDiskPost (w : World) (n : Nat) (e : Ending) (w' : World) : Prop :=
  ∃ p b c, e = .returned (.tuple #[.pointer (some ⟨p, 0, none⟩), .int .i64 0]) ∧ w'.cell? ⟨p, 0, none⟩ = some (.slice (some ⟨b, 0, none⟩) n c) ∧ w.heap.size ≤ p ∧ Ext w w'
def RDRel (w : World) (p : Nat) (A : Value → Array Value) (j : Nat) (wr : World) : Prop :=
  ∃ v l, wr.heap[p]? = some (.cells (A v) 118 (0, 0)) ∧ wr.ownsRow (p + 1) 30 1 v j l ∧ Ext w wr
set_option maxRecDepth 100000 in
set_option maxHeartbeats 1000000 in
theorem rdisk_c (n : Nat) (h1 : 1 ≤ n) (h2 : n ≤ 128) (w : World) : Calls Tryd.prog 71 #[.int .i64 n] w (RDiskPost w n) := by
  have i1 : ¬ (n : Int) < 1 := by omega
  have i2 : ¬ (128 : Int) < (n : Int) := by omega
  have hmm := @run_makeMap Tryd.prog
  go_enter Tryd.func71, Tryd.ntmps71
  go_wp2
  have HS : Hid (RDRel w (w.heap.size + 1 + 1) (fun v => #[v, .map (some w.heap.size), .map (some (w.heap.size + 1)), .bool false]) 0 (((w.alloc (.map #[] 0)).alloc (.map #[] 0)).alloc (.cells #[.slice none 0 0, .map (some w.heap.size), .map (some (w.heap.size + 1)), .bool false] 118))) := hid ⟨.slice none 0 0, [], by
    have e2 : ((w.alloc (.map #[] 0)).alloc (.map #[] 0)).heap.size = w.heap.size + 1 + 1 := by simp
    rw [← e2]; exact heap_alloc_new _ _, World.ownsRow_nil _ _ _ _, (((Ext.refl w).alloc _).alloc _).alloc _⟩
  obtain ⟨A, hA⟩ : ∃ A : Value → Array Value, (fun v => #[v, .map (some w.heap.size), .map (some (w.heap.size + 1)), .bool false]) = A := ⟨_, rfl⟩
  have hA0 : ∀ v, (A v)[0]? = some v := fun v => by rw [← hA]; rfl
  have hA1 : ∀ u v, (A u).setIfInBounds 0 v = A v := fun u v => by rw [← hA]; rfl
  have HA0 := hid hA0; have HA1 := hid hA1
  rw [hA] at HS
  have hp : w.heap.size ≤ w.heap.size + 1 + 1 := by omega
  clear hA hmm hA0 hA1
  generalize ((w.alloc (.map #[] 0)).alloc (.map #[] 0)).alloc (.cells #[.slice none 0 0, .map (some w.heap.size), .map (some (w.heap.size + 1)), .bool false] 118) = W0 at *
  generalize w.heap.size + 1 + 1 = p at *
  go_loopw [5] (fun i wr => ∃ j : Nat, i = .int .i64 j ∧ j ≤ n ∧ RDRel w p A j wr) (fun i _ => n - (intOf i).toNat)
  case atStart => exact ⟨0, rfl, by omega, HS.out⟩
  case round =>
    clear HS
    obtain ⟨j, rfl, hj, v, l, hc, hown, hx⟩ := hrel
    have HC := hid hc; have HO := hid hown; have HX := hid hx
    by_cases hlt : j < n
    · have j0 : (0 : Int) ≤ (j : Int) := by omega
      have j1 : (j : Int) < (n : Int) := by omega
      have xd : Ext wr wr.drew := (Ext.refl wr).drew
      have c0 : ∀ x : SW (KeepRow v) wr.drew, x.w.cell? ⟨p, 0, none⟩ = some v := fun x => (cell_at ((show KeepRow v wr.drew x.w from x.ext).1.at (Ext.at xd HC.out) (fun hb => by have := (HO.out.lt _ hb).1; omega))).trans (HA0.out v)
      have hms := make_sector
      clear hc hown hx
      go_wp2_with fail
      refine wp_region_rely_tail (S := KeepRow v) 8 (.one [0, 1, 2, 3, 4] 5 (.one [] 6 (.one [] 7 (.fin [])))) (by kernel_rfl) (by kernel_rfl) (fun _ _ d _ _ h => by cases d <;> exact h) ?_
      rw [wpS]
      simp only [opsAt, List.map_cons, List.map_nil, Array.getD_eq_getD_getElem?, List.getElem?_toArray, List.getElem?_cons_succ, List.getElem?_cons_zero, Option.getD_some]
      iterate 5 ((refine wpSQ_step (fun K hK => ?_); go_simp; first | (refine hK _ ?_; clear hK K) | (apply Exists.intro; refine ⟨fun x => ?_, hK _ ?_⟩; (fail); clear hK K)))
      refine wpSQ_nil ?_
      intro V1 hV1
      refine wpS_loud fun K hK => ?_
      go_wp2
      refine hK _ _ (KeepRow.ext ((Ext.refl V1).alloc _)) ?_
      clear hK K hms c0
      rw [wpS]
      simp only [opsAt, List.map_nil]
      refine wpSQ_nil ?_
      intro V2 hV2
      refine wpS_loud fun K hK => ?_
      go_wp2
      refine hK _ _ (KeepRow.ext ((Ext.refl V2).alloc _)) ?_
      clear hK K
      rw [wpS]
      simp only [opsAt, List.map_nil]
      refine wpSQ_nil ?_
      intro V3 hV3
      refine wpS_loud fun K hK => ?_
      have k3 : KeepRow v wr V3 := Pre.trans (KeepRow.ext xd) (Pre.trans hV1 (Pre.trans (KeepRow.ext ((Ext.refl V1).alloc _)) (Pre.trans hV2 (Pre.trans (KeepRow.ext ((Ext.refl V2).alloc _)) hV3))))
      have hown2 : ∀ b, v.ownBlock = some b → p < b := fun b hb => by have := (HO.out.lt b hb).1; omega
      have hg : V3.cell? ⟨V2.heap.size, 0, none⟩ = some (.slice (some ⟨V1.heap.size, 0, none⟩) 128 128) := by
        have h0 : (V2.alloc (.cells #[.slice (some ⟨V1.heap.size, 0, none⟩) 128 128] 30)).heap[V2.heap.size]? = some (.cells #[.slice (some ⟨V1.heap.size, 0, none⟩) 128 128] 30 (0, 0)) := heap_alloc_new _ _
        have k2 : KeepRow v wr V2 := Pre.trans (KeepRow.ext xd) (Pre.trans hV1 (Pre.trans (KeepRow.ext ((Ext.refl V1).alloc _)) hV2))
        exact cell_at (hV3.1.at h0 (fun hb => by have := (HO.out.lt _ hb).2; have := k2.1.size; omega))
      have hc3 : V3.heap[p]? = some (.cells (A v) 118 (0, 0)) := k3.1.at HC.out (fun hb => by have := hown2 _ hb; omega)
      have hB3 : p + 1 ≤ V3.heap.size := lt_of_block hc3
      obtain ⟨l3, hr3⟩ := k3.row HO.out
      obtain ⟨v', W4, hap, hk4, hrow4⟩ := push_keep (t := 114) (e := 30) Tryd.underlying114 infoB rfl (by omega) hr3 (.slice (some ⟨V1.heap.size, 0, none⟩) 128 128) rfl V2.heap.size hg (by omega) hB3
      have HAP := hid hap
      have HROW := hid hrow4
      have HK4 := hid (Pre.trans k3 hk4)
      have HKS := hid hk4
      obtain ⟨a', ln', cp', rfl⟩ : ∃ a ln cp, v' = .slice a ln cp := by
        obtain ⟨_, q⟩ := hrow4 W4 (KeepRow.ext (Ext.refl W4))
        rcases q.2 with ⟨h1, _⟩ | ⟨g, c, cur, h1, _⟩
        · exact ⟨_, _, _, h1⟩
        · exact ⟨_, _, _, h1⟩
      clear hg hB3 hap hrow4 hk4 k3 hV1 hV2 hV3 hr3 hc3
      refine wpList_append_run rfl _ _ _ rfl _ _ _ _ rfl rfl HAP.out ?_
      --M3
      go_wp2
      refine hK _ _ HKS.out ?_
      clear hK K
      rw [wpS]
      simp only [opsAt, List.map_nil]
      refine wpSQ_nil ?_
      intro W5 hW5
      have k5 : KeepRow v wr W5 := Pre.trans HK4.out hW5
      obtain ⟨l5, hr5⟩ := HROW.out W5 hW5
      have hc5 : W5.heap[p]? = some (.cells (A v) 118 (0, 0)) := k5.1.at HC.out (fun hb => by have := hown2 _ hb; omega)
      have c5 : W5.cell? ⟨p, 0, none⟩ = some v := (cell_at hc5).trans (HA0.out _)
      have f5 : W5.frozen? ⟨p, 0, none⟩ = false := free_at hc5
      have HF : Hid (RDRel w p A (j + 1) (W5.setCell ⟨p, 0, none⟩ (.slice a' ln' cp'))) := hid ⟨_, _, by
        have := block_set hc5 (i := 0) (.slice a' ln' cp')
        rw [HA1.out] at this
        exact this, by
        refine ⟨hr5.1, ?_⟩
        rcases hr5.2 with h' | ⟨g, c, cur, h1, h2, h3, h4⟩
        · exact .inl h'
        · exact .inr ⟨g, c, cur, h1, h2, (block_set_other _ (by omega)).trans h3, h4⟩, Only.setCell (F := fun _ => False) (Ext.then HX.out k5.1 (fun i hi hb => by have := hown2 _ hb; omega)) (.inl hp) _⟩
      clear hc5 hr5 k5 hW5
      go_wp2
      go_roundw
      case rel => exact ⟨j + 1, by go_num, by omega, HF.out⟩
      case measure => simp [intOf]; omega
    · obtain rfl : n = j := by omega
      obtain ⟨b, c, rfl⟩ : ∃ b c, v = .slice (some ⟨b, 0, none⟩) n c := by
        rcases hown.2 with ⟨_, h0⟩ | ⟨g, c, cur, h1, _⟩
        · omega
        · exact ⟨g, c, h1⟩
      have c0 : wr.cell? ⟨p, 0, none⟩ = some (.slice (some ⟨b, 0, none⟩) n c) := (cell_at hc).trans (HA0.out _)
      have HC0 := hid c0
      clear hc hown hx c0
      go_wp2
      go_ret2
      exact ⟨p, b, c, rfl, HC0.out, hp, HX.out⟩
end Go.Proofs.YtdbjojnejkklhaaDoor

/- The document's own answer: a new rack; right configurations; what fits. -/
namespace Go.Proofs.YtdbjojnejkklhaaDoor
set_option linter.unusedVariables false
open Go Go.RowKit
def Fst (p m : Nat) (v : Value) (l : List Value) (wr : World) : Prop := ∀ q, l[0]? = some q → ∃ d b c, q = .pointer (some ⟨d, 0, none⟩) ∧ wr.cell? ⟨d, 0, none⟩ = some (.slice (some ⟨b, 0, none⟩) m c) ∧ v.ownBlock ≠ some d ∧ d < wr.heap.size ∧ p < d
def RRRel (w : World) (p m : Nat) (j : Nat) (wr : World) : Prop :=
  ∃ v l, wr.heap[p]? = some (.cells #[v, .int .i64 (-1), .bool false] 110 (0, 0)) ∧ wr.ownsRow (p + 1) 111 1 v j l ∧ Ext w wr ∧ Fst p m v l wr
structure RRackAt (w : World) (p n m : Nat) : Prop where
  ex : ∃ b c d b2 c2, w.cell? ⟨p, 0, none⟩ = some (.slice (some ⟨b, 0, none⟩) n c) ∧ w.cell? ⟨b, 0, none⟩ = some (.pointer (some ⟨d, 0, none⟩)) ∧ w.cell? ⟨d, 0, none⟩ = some (.slice (some ⟨b2, 0, none⟩) m c2)
theorem RRackAt.ext {w w' : World} {p n m : Nat} (h : RRackAt w p n m) (e : Ext w w') : RRackAt w' p n m := by
  obtain ⟨b, c, d, b2, c2, h1, h2, h3⟩ := h.ex
  exact ⟨b, c, d, b2, c2, Ext.cell e h1, Ext.cell e h2, Ext.cell e h3⟩
def RRackPost (w : World) (n m : Nat) (e : Ending) (w' : World) : Prop := ∃ p, e = .returned (.tuple #[.pointer (some ⟨p, 0, none⟩), .int .i64 0]) ∧ RRackAt w' p n m ∧ Ext w w'
set_option maxRecDepth 100000 in
set_option maxHeartbeats 1000000 in
theorem rrack_c (n m : Nat) (h1 : 1 ≤ n) (h8 : n ≤ 8) (hm : 1 ≤ m) (hm2 : m ≤ 128) (w : World) : Calls Tryd.prog 36 #[.int .i64 n, .int .i64 m] w (RRackPost w n m) := by
  have i1 : ¬ (n : Int) < 1 := by omega
  have i2 : ¬ (8 : Int) < (n : Int) := by omega
  have HS : Hid (RRRel w w.heap.size m 0 (w.alloc (.cells #[.slice none 0 0, .int .i64 (-1), .bool false] 110))) := hid ⟨.slice none 0 0, [], heap_alloc_new _ _, World.ownsRow_nil _ _ _ _, (Ext.refl w).alloc _, fun q hq => by simp at hq⟩
  go_enter Tryd.func36, Tryd.ntmps36
  go_wp2
  go_loopw [7] (fun i wr => ∃ j : Nat, i = .int .i64 j ∧ j ≤ n ∧ RRRel w w.heap.size m j wr) (fun i _ => n - (intOf i).toNat)
  case atStart => exact ⟨0, rfl, by omega, HS.out⟩
  case round =>
    clear HS
    obtain ⟨j, rfl, hj, v, l, hc, hown, hx, hf⟩ := hrel
    have HC := hid hc; have HO := hid hown; have HX := hid hx; have HFS := hid hf
    by_cases hlt : j < n
    · have j0 : (0 : Int) ≤ (j : Int) := by omega
      have j1 : (j : Int) < (n : Int) := by omega
      clear hc hown hx hf
      go_wp2_with fail
      refine (rdisk_c m hm hm2 wr).mono ?_
      rintro e w2 ⟨d, b, c, rfl, hd, hdn, x2⟩
      have hc2 : w2.heap[w.heap.size]? = some (.cells #[v, .int .i64 (-1), .bool false] 110 (0, 0)) := Ext.at x2 HC.out
      have c0 : w2.cell? ⟨w.heap.size, 0, none⟩ = some v := cell_at hc2
      have hdl := World.block_lt_of_cell? w2 _ hd
      have xa : Ext w2 (w2.alloc (.cells #[.pointer (some ⟨d, 0, none⟩)] 111)) := (Ext.refl w2).alloc _
      have hsz : (w2.alloc (.cells #[.pointer (some ⟨d, 0, none⟩)] 111)).heap.size = w2.heap.size + 1 := by simp
      have hwl := lt_of_block HC.out
      obtain ⟨v', W3, hap, hown3, ho3, hv3⟩ := push1 (t := 108) (e := 111) Tryd.underlying108 infoD rfl (by omega) (ownsRow_ext (ownsRow_ext HO.out x2) xa) (.pointer (some ⟨d, 0, none⟩)) rfl w2.heap.size (cell_at block_alloc) (by omega) (by have := x2.size; omega)
      have hnv : ∀ q, v.ownBlock = some q → w.heap.size < q ∧ q < wr.heap.size := fun q hq => by have := HO.out.lt q hq; omega
      have hc3 : W3.heap[w.heap.size]? = some (.cells #[v, .int .i64 (-1), .bool false] 110 (0, 0)) := ho3.at (Ext.at xa hc2) (fun hb => by have := (hnv _ hb).1; omega)
      have c3 : W3.cell? ⟨w.heap.size, 0, none⟩ = some v := cell_at hc3
      have f3 : W3.frozen? ⟨w.heap.size, 0, none⟩ = false := free_at hc3
      have hF3 : Fst w.heap.size m v' (l ++ [.pointer (some ⟨d, 0, none⟩)]) W3 := by
        intro q hq
        rcases l with _ | ⟨q0, l⟩
        · simp at hq
          refine ⟨d, b, c, hq.symm, ho3.cell (Ext.cell xa hd) (fun hb => by have := (hnv _ hb).2; have : d < wr.heap.size := this; omega), fun hv => ?_, Nat.lt_of_lt_of_le (show d < w2.heap.size from hdl) (Nat.le_trans xa.size ho3.size), by omega⟩
          rcases hv3 with q2 | q2
          · rw [q2] at hv; have := (hnv _ hv).2; omega
          · rw [q2, hsz] at hv; cases hv; have : w2.heap.size + 1 < w2.heap.size := hdl; omega
        · simp at hq
          obtain ⟨d0, b0, c0', e1, e2, e3, e4, e5⟩ := HFS.out q0 rfl
          subst hq
          refine ⟨d0, b0, c0', e1, ho3.cell (Ext.cell xa (Ext.cell x2 e2)) (fun hb => e3 hb), fun hv => ?_, Nat.lt_of_lt_of_le e4 (Nat.le_trans x2.size (Nat.le_trans xa.size ho3.size)), e5⟩
          rcases hv3 with q2 | q2
          · rw [q2] at hv; exact e3 hv
          · rw [q2, hsz] at hv; cases hv; have := x2.size; omega
      have hX3 : Ext w W3 := Ext.then (Ext.trans HX.out (Ext.trans x2 xa)) ho3 (fun i hi hb => by have := (hnv _ hb).1; omega)
      have hvb : v'.ownBlock ≠ some w.heap.size := fun hb => by have := (hown3.lt _ hb).1; omega
      have HF : Hid (RRRel w w.heap.size m (j + 1) (W3.setCell ⟨w.heap.size, 0, none⟩ v')) := hid ⟨v', _, by
        have := block_set hc3 (i := 0) v'
        exact this, by
        refine ⟨hown3.1, ?_⟩
        rcases hown3.2 with h' | ⟨g, c, cur, h1, h2, h3, h4⟩
        · exact .inl h'
        · exact .inr ⟨g, c, cur, h1, h2, (block_set_other _ (by omega)).trans h3, h4⟩, Only.setCell (F := fun _ => False) hX3 (.inl (Nat.le_refl _)) _, fun q hq => by
        obtain ⟨d0, b0, c0', e1, e2, e3, e4, e5⟩ := hF3 q hq
        refine ⟨d0, b0, c0', e1, ?_, e3, by simpa [World.setCell] using e4, e5⟩
        have hne : d0 ≠ w.heap.size := by omega
        rw [World.cell?_of_block (block_set_other v' hne)]
        exact e2⟩
      have HAP := hid hap
      obtain ⟨a', ln', cp', rfl⟩ : ∃ a ln cp, v' = .slice a ln cp := by
        rcases hown3.2 with ⟨h1, _⟩ | ⟨g, c, cur, h1, _⟩
        · exact ⟨_, _, _, h1⟩
        · exact ⟨_, _, _, h1⟩
      clear hd hdn x2 hc2 hdl xa hsz hap hown3 ho3 hv3 hnv hc3 hF3 hX3 hvb hwl
      go_wp2_with (at_builtin; refine wpList_append_run rfl _ _ _ rfl _ _ _ _ rfl rfl HAP.out ?_)
      go_roundw
      case rel => exact ⟨j + 1, by go_num, by omega, HF.out⟩
      case measure => simp [intOf]; omega
    · obtain rfl : n = j := by omega
      have HR : Hid (RRackAt wr w.heap.size n m) := hid (by
        rcases hown.2 with ⟨_, h0⟩ | ⟨g, c, cur, q1, q2, q3, q4, q5, q6, q7⟩
        · omega
        · have hl : 0 < l.length := by rw [hown.1]; omega
          obtain ⟨d, b2, c2, e1, e2, _, _, _⟩ := hf l[0] (List.getElem?_eq_getElem hl)
          have hcell := hown.cells (g := g) (by rw [q1]; rfl) 0 l[0] (List.getElem?_eq_getElem hl)
          rw [e1] at hcell
          exact ⟨g, c, d, b2, c2, (cell_at hc).trans (by rw [q1]; rfl), hcell, e2⟩)
      clear hc hown hx hf
      go_wp2
      go_ret2
      exact ⟨_, rfl, HR.out, HX.out⟩
end Go.Proofs.YtdbjojnejkklhaaDoor

/- The document's own answer: right configurations, their sectors. -/
namespace Go.Proofs.YtdbjojnejkklhaaDoor
set_option linter.unusedVariables false
open Go Go.RowKit
theorem Cfg.right_conj (id k n st sl : Int) : (⟨id, k, n, st, sl⟩ : Cfg).right = true ↔ (1 ≤ id) ∧ (id < 2147483648) ∧ (1 ≤ k) ∧ (k ≤ n) ∧ (n ≤ 8) ∧ (1 ≤ st) ∧ (st ≤ 64) ∧ (1 ≤ sl) ∧ (sl ≤ 4) := by
  rw [Cfg.right_iff]
  exact ⟨fun h => by obtain ⟨h1, h2, h3, h4, h5, h6, h7, h8, h9⟩ := h; simp only at h1 h2 h3 h4 h5 h6 h7 h8 h9; omega, fun h => by constructor <;> simp only <;> omega⟩
set_option maxRecDepth 100000 in
set_option maxHeartbeats 4000000 in
theorem refright_c (c : Cfg) (w : World) :
    Calls Tryd.prog 38 #[.agg (Cfg.A c)] w fun e w' => e = .returned (.bool c.right) ∧ Ext w w' := by
  have a0 := Cfg.A0 c
  have a1 := Cfg.A1 c
  have a2 := Cfg.A2 c
  have a3 := Cfg.A3 c
  have a4 := Cfg.A4 c
  obtain ⟨id, k, n, st, sl⟩ := c
  obtain ⟨b, hb⟩ : ∃ b, (⟨id, k, n, st, sl⟩ : Cfg).right = b := ⟨_, rfl⟩
  have HC := hid (Cfg.right_conj id k n st sl)
  have HT : Hid ((1 ≤ id) → (id < 2147483648) → (1 ≤ k) → (k ≤ n) → (n ≤ 8) → (1 ≤ st) → (st ≤ 64) → (1 ≤ sl) → (sl ≤ 4) → b = true) := hid fun q0 q1 q2 q3 q4 q5 q6 q7 q8 => by rw [← hb]; exact HC.out.2 ⟨q0, q1, q2, q3, q4, q5, q6, q7, q8⟩
  have HF : Hid (¬ ((1 ≤ id) ∧ (id < 2147483648) ∧ (1 ≤ k) ∧ (k ≤ n) ∧ (n ≤ 8) ∧ (1 ≤ st) ∧ (st ≤ 64) ∧ (1 ≤ sl) ∧ (sl ≤ 4)) → b = false) := hid fun q => by
    rw [← hb]
    rcases hq : (⟨id, k, n, st, sl⟩ : Cfg).right with _ | _
    · rfl
    · exact absurd (HC.out.1 hq) q
  rw [hb]
  simp only at a0 a1 a2 a3 a4
  clear hb HC
  generalize Cfg.A _ = A at *
  by_cases q0 : 1 ≤ id
  · by_cases q1 : id < 2147483648
    · by_cases q2 : 1 ≤ k
      · by_cases q3 : k ≤ n
        · by_cases q4 : n ≤ 8
          · by_cases q5 : 1 ≤ st
            · by_cases q6 : st ≤ 64
              · by_cases q7 : 1 ≤ sl
                · by_cases q8 : sl ≤ 4
                  · have HV := hid (HT.out q0 q1 q2 q3 q4 q5 q6 q7 q8)
                    go_enter Tryd.func38, Tryd.ntmps38
                    go_wp2
                    go_ret
                    exact ⟨ret_bool HV.out.symm, (Ext.refl w).alloc _⟩
                  · have HV := hid (HF.out (fun e => q8 (by have := e; omega)))
                    go_enter Tryd.func38, Tryd.ntmps38
                    go_wp2
                    go_ret
                    exact ⟨ret_bool HV.out.symm, (Ext.refl w).alloc _⟩
                · have HV := hid (HF.out (fun e => q7 (by have := e; omega)))
                  go_enter Tryd.func38, Tryd.ntmps38
                  go_wp2
                  go_ret
                  exact ⟨ret_bool HV.out.symm, (Ext.refl w).alloc _⟩
              · have HV := hid (HF.out (fun e => q6 (by have := e; omega)))
                go_enter Tryd.func38, Tryd.ntmps38
                go_wp2
                go_ret
                exact ⟨ret_bool HV.out.symm, (Ext.refl w).alloc _⟩
            · have HV := hid (HF.out (fun e => q5 (by have := e; omega)))
              go_enter Tryd.func38, Tryd.ntmps38
              go_wp2
              go_ret
              exact ⟨ret_bool HV.out.symm, (Ext.refl w).alloc _⟩
          · have HV := hid (HF.out (fun e => q4 (by have := e; omega)))
            go_enter Tryd.func38, Tryd.ntmps38
            go_wp2
            go_ret
            exact ⟨ret_bool HV.out.symm, (Ext.refl w).alloc _⟩
        · have HV := hid (HF.out (fun e => q3 (by have := e; omega)))
          go_enter Tryd.func38, Tryd.ntmps38
          go_wp2
          go_ret
          exact ⟨ret_bool HV.out.symm, (Ext.refl w).alloc _⟩
      · have HV := hid (HF.out (fun e => q2 (by have := e; omega)))
        go_enter Tryd.func38, Tryd.ntmps38
        go_wp2
        go_ret
        exact ⟨ret_bool HV.out.symm, (Ext.refl w).alloc _⟩
    · have HV := hid (HF.out (fun e => q1 (by have := e; omega)))
      go_enter Tryd.func38, Tryd.ntmps38
      go_wp2
      go_ret
      exact ⟨ret_bool HV.out.symm, (Ext.refl w).alloc _⟩
  · have HV := hid (HF.out (fun e => q0 (by have := e; omega)))
    go_enter Tryd.func38, Tryd.ntmps38
    go_wp2
    go_ret
    exact ⟨ret_bool HV.out.symm, (Ext.refl w).alloc _⟩
set_option maxRecDepth 100000 in
theorem refsectors_c (c : Cfg) (h : c.Good) (w : World) :
    Calls Tryd.prog 41 #[.agg (Cfg.A c)] w fun e w' => e = .returned (.int .i64 c.sectors) ∧ Ext w w' := by
  have a1 := Cfg.A1 c
  have a3 := Cfg.A3 c
  have a4 := Cfg.A4 c
  obtain ⟨b0, b1⟩ := sectors_bd c h
  have b2 := h.st0
  have b3 := h.st1
  have HR : Hid (c.sectors = 1 + c.slots * c.k + c.stripes) := hid rfl
  rw [HR.out]
  clear HR h
  obtain ⟨id, k, n, st, sl⟩ := c
  simp only at a1 a3 a4 b0 b1 b2 b3 ⊢
  generalize Cfg.A _ = A at *
  obtain ⟨p, hp⟩ : ∃ p, sl * k = p := ⟨_, rfl⟩
  rw [hp] at b0 b1 ⊢
  have hw : wrap64 (sl * k) = p := by rw [hp]; unfold wrap64; omega
  have w2 : wrap64 (1 + p) = 1 + p := by unfold wrap64; omega
  have w3 : wrap64 (1 + p + st) = 1 + p + st := by unfold wrap64; omega
  clear hp b0 b1 b2 b3
  go_enter Tryd.func41, Tryd.ntmps41
  go_wp2
  go_ret
  exact ⟨ret_int (by simp only [hw, w2, w3]), (Ext.refl w).alloc _⟩
end Go.Proofs.YtdbjojnejkklhaaDoor

/- The document's own answer: what fits a rack. -/
namespace Go.Proofs.YtdbjojnejkklhaaDoor
set_option linter.unusedVariables false
open Go Go.RowKit
def fitB (c : Cfg) (n m : Nat) : Bool := c.right && decide (c.n = (n : Int)) && decide (c.sectors ≤ (m : Int))
attribute [local irreducible] wpSQ
set_option maxRecDepth 100000 in
set_option maxHeartbeats 2000000 in
theorem reffits_c {w : World} {p n m : Nat} (h : RRackAt w p n m) (hn1 : 1 ≤ n) (c : Cfg) :
    Calls Tryd.prog 40 #[.pointer (some ⟨p, 0, none⟩), .agg (Cfg.A c)] w fun e w' => e = .returned (.bool (fitB c n m)) ∧ Ext w w' := by
  obtain ⟨W0, hW0⟩ : ∃ W, w.alloc (.cells (Cfg.A c) 59) = W := ⟨_, rfl⟩
  have X0 : Ext w W0 := hW0 ▸ (Ext.refl w).alloc _
  have xd : Ext W0 W0.drew := (Ext.refl W0).drew
  have hc : W0.heap[w.heap.size]? = some (.cells (Cfg.A c) 59 (0, 0)) := hW0 ▸ heap_alloc_new _ _
  have lc : Hid (∀ x : SW Ext W0.drew, ∀ j v, (Cfg.A c).toList[j]? = some v → x.w.cell? ((⟨w.heap.size, 0, none⟩ : Addr).add j) = some v) := hid fun x => agg_cells ((Ext.trans xd x.ext).at hc)
  have c2 : ∀ x : SW Ext W0.drew, x.w.cell? ⟨w.heap.size, 2, none⟩ = some (.int .i64 c.n) := fun x => (cell_at ((Ext.trans xd x.ext).at hc)).trans (Cfg.A2 c)
  obtain ⟨b, cc, d, b2, cc2, e1, e2, e3⟩ := h.ex
  have r1 : ∀ x : SW Ext W0.drew, x.w.cell? ⟨p, 0, none⟩ = some (.slice (some ⟨b, 0, none⟩) n cc) := fun x => Ext.cell (Ext.trans X0 (Ext.trans xd x.ext)) e1
  have r2 : ∀ x : SW Ext W0.drew, x.w.cell? ⟨b, 0, none⟩ = some (.pointer (some ⟨d, 0, none⟩)) := fun x => Ext.cell (Ext.trans X0 (Ext.trans xd x.ext)) e2
  have r3 : ∀ x : SW Ext W0.drew, x.w.cell? ⟨d, 0, none⟩ = some (.slice (some ⟨b2, 0, none⟩) m cc2) := fun x => Ext.cell (Ext.trans X0 (Ext.trans xd x.ext)) e3
  have n0 : (0 : Int) < (n : Int) := by omega
  have n00 : 0 < n := by omega
  have rc : Hid (∀ x : SW Ext W0.drew, Calls Tryd.prog 38 #[.agg (Cfg.A c)] x.w fun e w'' => e = .returned (.bool c.right) ∧ Ext x.w w'') := hid fun x => refright_c c x.w
  have HX0 := hid X0
  have HF : Hid (fitB c n m = (c.right && decide (c.n = (n : Int)) && decide (c.sectors ≤ (m : Int)))) := hid rfl
  have HAG := hid (cfg_agg c)
  clear h hc X0 e1 e2 e3
  go_enter Tryd.func40, Tryd.ntmps40
  go_wp2_with fail
  refine wp_region_rely_tail (S := Ext) 27 (.fin [0, 1, 2, 3, 4, 5, 6, 7, 8, 9, 10, 11, 12, 13, 14, 15, 16, 17, 18, 19, 20, 21, 22, 23, 24, 25, 26]) (by kernel_rfl) (by kernel_rfl) (fun _ _ d _ _ h => by cases d <;> exact h) ?_
  rw [wpS]
  simp only [opsAt, List.map_cons, List.map_nil, Array.getD_eq_getD_getElem?, List.getElem?_toArray, List.getElem?_cons_succ, List.getElem?_cons_zero, Option.getD_some]
  refine wpSQ_load_agg 59 _ rfl ⟨w.heap.size, 0, none⟩ rfl (Cfg.A c) rfl HAG.out lc.out ?_
  rcases hr : c.right with _ | _
  · rw [hr] at rc
    have HFI := hid (show fitB c n m = false by rw [HF.out, hr]; rfl)
    (refine wpSQ_step (fun K hK => ?_); go_simp; first | (refine hK _ ?_; clear hK K) | (apply Exists.intro; refine ⟨fun x => ?_, hK _ ?_⟩; (exact rc.out x); clear hK K))
    (refine wpSQ_step (fun K hK => ?_); go_simp; first | (refine hK _ ?_; clear hK K) | (apply Exists.intro; refine ⟨fun x => ?_, hK _ ?_⟩; (fail); clear hK K))
    iterate 8 ((refine wpSQ_pass rfl (fun K hK => ?_); go_simp; refine hK _ ?_; clear hK K))
    iterate 2 ((refine wpSQ_step (fun K hK => ?_); go_simp; first | (refine hK _ ?_; clear hK K) | (apply Exists.intro; refine ⟨fun x => ?_, hK _ ?_⟩; (fail); clear hK K)))
    iterate 13 ((refine wpSQ_pass rfl (fun K hK => ?_); go_simp; refine hK _ ?_; clear hK K))
    (refine wpSQ_step (fun K hK => ?_); go_simp; first | (refine hK _ ?_; clear hK K) | (apply Exists.intro; refine ⟨fun x => ?_, hK _ ?_⟩; (fail); clear hK K))
    refine wpSQ_nil ?_
    intro W hW
    go_wp2
    go_ret
    exact ⟨ret_bool HFI.out.symm, Ext.trans HX0.out (Ext.trans xd hW)⟩
  · rw [hr] at rc
    have hg := (Cfg.right_iff c).1 hr
    rcases hn : c.n == (n : Int) with _ | _
    · have HFI := hid (show fitB c n m = false by rw [HF.out, hr, decide_eq_false (by simpa using hn)]; rfl)
      clear hr hg
      (refine wpSQ_step (fun K hK => ?_); go_simp; first | (refine hK _ ?_; clear hK K) | (apply Exists.intro; refine ⟨fun x => ?_, hK _ ?_⟩; (exact rc.out x); clear hK K))
      iterate 9 ((refine wpSQ_step (fun K hK => ?_); go_simp; first | (refine hK _ ?_; clear hK K) | (apply Exists.intro; refine ⟨fun x => ?_, hK _ ?_⟩; (fail); clear hK K)))
      iterate 2 ((refine wpSQ_step (fun K hK => ?_); go_simp; first | (refine hK _ ?_; clear hK K) | (apply Exists.intro; refine ⟨fun x => ?_, hK _ ?_⟩; (fail); clear hK K)))
      iterate 13 ((refine wpSQ_pass rfl (fun K hK => ?_); go_simp; refine hK _ ?_; clear hK K))
      (refine wpSQ_step (fun K hK => ?_); go_simp; first | (refine hK _ ?_; clear hK K) | (apply Exists.intro; refine ⟨fun x => ?_, hK _ ?_⟩; (fail); clear hK K))
      refine wpSQ_nil ?_
      intro W hW
      go_wp2
      go_ret
      exact ⟨ret_bool HFI.out.symm, Ext.trans HX0.out (Ext.trans xd hW)⟩
    · have HFI := hid (show fitB c n m = decide (c.sectors ≤ (m : Int)) by rw [HF.out, hr, decide_eq_true (by simpa using hn)]; rfl)
      have ss : Hid (∀ x : SW Ext W0.drew, Calls Tryd.prog 41 #[.agg (Cfg.A c)] x.w fun e w'' => e = .returned (.int .i64 c.sectors) ∧ Ext x.w w'') := hid fun x => refsectors_c c hg x.w
      clear hr hg
      (refine wpSQ_step (fun K hK => ?_); go_simp; first | (refine hK _ ?_; clear hK K) | (apply Exists.intro; refine ⟨fun x => ?_, hK _ ?_⟩; (exact rc.out x); clear hK K))
      iterate 9 ((refine wpSQ_step (fun K hK => ?_); go_simp; first | (refine hK _ ?_; clear hK K) | (apply Exists.intro; refine ⟨fun x => ?_, hK _ ?_⟩; (fail); clear hK K)))
      iterate 2 ((refine wpSQ_step (fun K hK => ?_); go_simp; first | (refine hK _ ?_; clear hK K) | (apply Exists.intro; refine ⟨fun x => ?_, hK _ ?_⟩; (fail); clear hK K)))
      refine wpSQ_load_agg 59 _ rfl ⟨w.heap.size, 0, none⟩ rfl (Cfg.A c) rfl HAG.out lc.out ?_
      (refine wpSQ_step (fun K hK => ?_); go_simp; first | (refine hK _ ?_; clear hK K) | (apply Exists.intro; refine ⟨fun x => ?_, hK _ ?_⟩; (exact ss.out x); clear hK K))
      iterate 12 ((refine wpSQ_step (fun K hK => ?_); go_simp; first | (refine hK _ ?_; clear hK K) | (apply Exists.intro; refine ⟨fun x => ?_, hK _ ?_⟩; (fail); clear hK K)))
      refine wpSQ_nil ?_
      intro W hW
      go_wp2
      go_ret
      exact ⟨ret_bool HFI.out.symm, Ext.trans HX0.out (Ext.trans xd hW)⟩
end Go.Proofs.YtdbjojnejkklhaaDoor

/- The walk of SuperTells. -/
namespace Go.Proofs.YtdbjojnejkklhaaDoor
set_option linter.unusedVariables false
open Go Go.RowKit
theorem new_fits (n m : Nat) (hn : 1 ≤ n) (c : Cfg) : (Rck.new n m).fits c = fitB c n m := by
  have h := Live.new n m hn
  unfold Rck.fits fitB
  rw [h.len, h.sectors]
attribute [local irreducible] wpSQ
set_option maxRecDepth 100000 in
set_option maxHeartbeats 2000000 in
theorem superTells_c (c : Cfg) (n s : Int) (w : World) (hg : EtLaid w) :
    Calls Tryd.prog 8 #[.agg (Cfg.A c), .int .i64 n, .int .i64 s] w fun e w' => e = .returned (.bool true) ∧ Ext w w' := by
  have HG := hid hg
  clear hg
  obtain ⟨W0, hW0⟩ : ∃ W, w.alloc (.cells (Cfg.A c) 59) = W := ⟨_, rfl⟩
  have HX0 := hid (show Ext w W0 from hW0 ▸ (Ext.refl w).alloc _)
  have HC := hid (show W0.heap[w.heap.size]? = some (.cells (Cfg.A c) 59 (0, 0)) from hW0 ▸ heap_alloc_new _ _)
  have HAG := hid (cfg_agg c)
  go_enter Tryd.func8, Tryd.ntmps8
  go_wp2_with fail
  refine (within_c n 1 8 W0 (by omega) (by omega) (by omega)).mono ?_
  rintro e w' ⟨rfl, rfl⟩
  obtain ⟨m0, m1⟩ := within_bd n 1 8 (by omega)
  generalize within n 1 8 = mm at *
  obtain ⟨m, rfl⟩ := Int.eq_ofNat_of_zero_le (show 0 ≤ mm by omega)
  go_wp2_with fail
  refine (within_c s 1 40 W0 (by omega) (by omega) (by omega)).mono ?_
  rintro e w' ⟨rfl, rfl⟩
  obtain ⟨s0, s1⟩ := within_bd s 1 40 (by omega)
  generalize within s 1 40 = ss at *
  obtain ⟨t, rfl⟩ := Int.eq_ofNat_of_zero_le (show 0 ≤ ss by omega)
  go_wp2_with fail
  refine (at_new m t (by omega) (by omega) (by omega) (by omega) W0).mono ?_
  rintro e w1 ⟨r, rfl, h1, x1⟩
  go_wp2_with fail
  refine (rrack_c m t (by omega) (by omega) (by omega) (by omega) w1).mono ?_
  rintro e w2 ⟨q, rfl, hq, x2⟩
  have H2 := hid (h1.ext x2)
  have HQ := hid hq
  have X2 := hid (Ext.trans HX0.out (Ext.trans x1 x2))
  have HC2 := hid (Ext.at (Ext.trans x1 x2) HC.out)
  have hm1 : 1 ≤ m := by omega
  have HNF := hid (new_fits m t hm1 c)
  clear h1 x1 x2 hq hW0 m0 m1 s0 s1
  go_wp2_with fail
  have xd : Ext w2 w2.drew := (Ext.refl w2).drew
  have lc : Hid (∀ x : SW Ext w2.drew, ∀ j v, (Cfg.A c).toList[j]? = some v → x.w.cell? ((⟨w.heap.size, 0, none⟩ : Addr).add j) = some v) := hid fun x => agg_cells ((Ext.trans xd x.ext).at HC2.out)
  have rc : Hid (∀ x : SW Ext w2.drew, Calls Tryd.prog 37 #[.agg (Cfg.A c)] x.w fun e w'' => e = .returned (.bool c.right) ∧ Ext x.w w'') := hid fun x => sright_c c x.w
  have rr : Hid (∀ x : SW Ext w2.drew, Calls Tryd.prog 38 #[.agg (Cfg.A c)] x.w fun e w'' => e = .returned (.bool c.right) ∧ Ext x.w w'') := hid fun x => refright_c c x.w
  have fc : Hid (∀ x : SW Ext w2.drew, Calls Tryd.prog 39 #[.pointer (some ⟨r, 0, none⟩), .agg (Cfg.A c)] x.w fun e w'' => e = .returned (.bool (fitB c m t)) ∧ Ext x.w w'') := hid fun x => by
    have := sfits_c (H2.out.ext (Ext.trans xd x.ext)) c
    rw [HNF.out] at this
    exact this
  have fr : Hid (∀ x : SW Ext w2.drew, Calls Tryd.prog 40 #[.pointer (some ⟨q, 0, none⟩), .agg (Cfg.A c)] x.w fun e w'' => e = .returned (.bool (fitB c m t)) ∧ Ext x.w w'') := hid fun x => reffits_c (HQ.out.ext (Ext.trans xd x.ext)) hm1 c
  obtain ⟨fb, hfb⟩ : ∃ b, fitB c m t = b := ⟨_, rfl⟩
  rw [hfb] at fc fr
  obtain ⟨rb, hrb⟩ : ∃ b, c.right = b := ⟨_, rfl⟩
  rw [hrb] at rc rr
  have HRB := hid hrb
  clear hfb hrb
  have f1 : (fb != fb) = false := by simp
  have f2 : (rb != rb) = false := by simp
  refine wp_region_rely_all (S := Ext) (.fin [0, 1, 2, 3, 4, 5, 6, 7, 8, 9, 10, 11, 12, 13, 14, 15, 16, 17, 18, 19, 20, 21]) (by kernel_rfl) (by kernel_rfl) (fun _ _ d _ _ h => by cases d <;> exact h) ?_
  rw [wpS]
  simp only [opsAt, List.map_cons, List.map_nil, Array.getD_eq_getD_getElem?, List.getElem?_toArray, List.getElem?_cons_succ, List.getElem?_cons_zero, Option.getD_some]
  iterate 7 ((refine wpSQ_step (fun K hK => ?_); go_simp; first | (refine hK _ ?_; clear hK K) | (apply Exists.intro; refine ⟨fun x => ?_, hK _ ?_⟩; (fail); clear hK K)))
  refine wpSQ_load_agg 59 _ rfl ⟨w.heap.size, 0, none⟩ rfl (Cfg.A c) rfl HAG.out lc.out ?_
  (refine wpSQ_step (fun K hK => ?_); go_simp; first | (refine hK _ ?_; clear hK K) | (apply Exists.intro; refine ⟨fun x => ?_, hK _ ?_⟩; (exact rc.out x); clear hK K))
  refine wpSQ_load_agg 59 _ rfl ⟨w.heap.size, 0, none⟩ rfl (Cfg.A c) rfl HAG.out lc.out ?_
  (refine wpSQ_step (fun K hK => ?_); go_simp; first | (refine hK _ ?_; clear hK K) | (apply Exists.intro; refine ⟨fun x => ?_, hK _ ?_⟩; (exact rr.out x); clear hK K))
  --M1
  iterate 4 ((refine wpSQ_step (fun K hK => ?_); go_simp; first | (refine hK _ ?_; clear hK K) | (apply Exists.intro; refine ⟨fun x => ?_, hK _ ?_⟩; (fail); clear hK K)))
  refine wpSQ_load_agg 59 _ rfl ⟨w.heap.size, 0, none⟩ rfl (Cfg.A c) rfl HAG.out lc.out ?_
  (refine wpSQ_step (fun K hK => ?_); go_simp; first | (refine hK _ ?_; clear hK K) | (apply Exists.intro; refine ⟨fun x => ?_, hK _ ?_⟩; (exact fc.out x); clear hK K))
  (refine wpSQ_step (fun K hK => ?_); go_simp; first | (refine hK _ ?_; clear hK K) | (apply Exists.intro; refine ⟨fun x => ?_, hK _ ?_⟩; (fail); clear hK K))
  refine wpSQ_load_agg 59 _ rfl ⟨w.heap.size, 0, none⟩ rfl (Cfg.A c) rfl HAG.out lc.out ?_
  (refine wpSQ_step (fun K hK => ?_); go_simp; first | (refine hK _ ?_; clear hK K) | (apply Exists.intro; refine ⟨fun x => ?_, hK _ ?_⟩; (exact fr.out x); clear hK K))
  iterate 2 ((refine wpSQ_step (fun K hK => ?_); go_simp; first | (refine hK _ ?_; clear hK K) | (apply Exists.intro; refine ⟨fun x => ?_, hK _ ?_⟩; (fail); clear hK K)))
  refine wpSQ_nil ?_
  intro W hW
  have X3 := hid (Ext.trans X2.out (Ext.trans xd hW))
  have HC3 := hid (Ext.at (Ext.trans xd hW) HC2.out)
  clear lc rc rr fc fr f1 f2 xd hW
  go_wp2_with fail
  have xd : Ext W W.drew := (Ext.refl W).drew
  have lc : Hid (∀ x : SW Ext W.drew, ∀ j v, (Cfg.A c).toList[j]? = some v → x.w.cell? ((⟨w.heap.size, 0, none⟩ : Addr).add j) = some v) := hid fun x => agg_cells ((Ext.trans xd x.ext).at HC3.out)
  have rc : Hid (∀ x : SW Ext W.drew, Calls Tryd.prog 37 #[.agg (Cfg.A c)] x.w fun e w'' => e = .returned (.bool c.right) ∧ Ext x.w w'') := hid fun x => sright_c c x.w
  have sr : Hid (∀ x : SW Ext W.drew, Calls Tryd.prog 7 #[] x.w fun e w'' => e = .returned (.bool true) ∧ Ext x.w w'') := hid fun x => superRuns_c x.w (HG.out.only (Ext.trans X3.out (Ext.trans xd x.ext)) (fun x => x))
  refine wp_region_rely_tail (S := Ext) 13 (.fin [0, 1, 2, 3, 4, 5, 6, 7, 8, 9, 10, 11, 12]) (by kernel_rfl) (by kernel_rfl) (fun _ _ d _ _ h => by cases d <;> exact h) ?_
  rw [wpS]
  simp only [opsAt, List.map_cons, List.map_nil, Array.getD_eq_getD_getElem?, List.getElem?_toArray, List.getElem?_cons_succ, List.getElem?_cons_zero, Option.getD_some]
  refine wpSQ_load_agg 59 _ rfl ⟨w.heap.size, 0, none⟩ rfl (Cfg.A c) rfl HAG.out lc.out ?_
  rcases rb with _ | _
  · rw [HRB.out] at rc
    (refine wpSQ_step (fun K hK => ?_); go_simp; first | (refine hK _ ?_; clear hK K) | (apply Exists.intro; refine ⟨fun x => ?_, hK _ ?_⟩; (exact rc.out x); clear hK K))
    iterate 2 ((refine wpSQ_step (fun K hK => ?_); go_simp; first | (refine hK _ ?_; clear hK K) | (apply Exists.intro; refine ⟨fun x => ?_, hK _ ?_⟩; (fail); clear hK K)))
    iterate 5 ((refine wpSQ_pass rfl (fun K hK => ?_); go_simp; refine hK _ ?_; clear hK K))
    iterate 2 ((refine wpSQ_step (fun K hK => ?_); go_simp; first | (refine hK _ ?_; clear hK K) | (apply Exists.intro; refine ⟨fun x => ?_, hK _ ?_⟩; (fail); clear hK K)))
    (refine wpSQ_step (fun K hK => ?_); go_simp; first | (refine hK _ ?_; clear hK K) | (apply Exists.intro; refine ⟨fun x => ?_, hK _ ?_⟩; (exact sr.out x); clear hK K))
    (refine wpSQ_step (fun K hK => ?_); go_simp; first | (refine hK _ ?_; clear hK K) | (apply Exists.intro; refine ⟨fun x => ?_, hK _ ?_⟩; (fail); clear hK K))
    refine wpSQ_nil ?_
    intro V hV
    go_wp2
    go_ret
    exact ⟨rfl, Ext.trans X3.out (Ext.trans xd hV)⟩
  · have hgd := (Cfg.right_iff c).1 HRB.out
    rw [HRB.out] at rc
    have s1 : Hid (∀ x : SW Ext W.drew, Calls Tryd.prog 35 #[.agg (Cfg.A c)] x.w fun e w'' => e = .returned (.int .i64 c.sectors) ∧ Ext x.w w'') := hid fun x => ssectors_c c hgd x.w
    have s2 : Hid (∀ x : SW Ext W.drew, Calls Tryd.prog 41 #[.agg (Cfg.A c)] x.w fun e w'' => e = .returned (.int .i64 c.sectors) ∧ Ext x.w w'') := hid fun x => refsectors_c c hgd x.w
    obtain ⟨sec, hsec⟩ : ∃ v, c.sectors = v := ⟨_, rfl⟩
    rw [hsec] at s1 s2
    clear hgd hsec
    (refine wpSQ_step (fun K hK => ?_); go_simp; first | (refine hK _ ?_; clear hK K) | (apply Exists.intro; refine ⟨fun x => ?_, hK _ ?_⟩; (exact rc.out x); clear hK K))
    iterate 2 ((refine wpSQ_step (fun K hK => ?_); go_simp; first | (refine hK _ ?_; clear hK K) | (apply Exists.intro; refine ⟨fun x => ?_, hK _ ?_⟩; (fail); clear hK K)))
    refine wpSQ_load_agg 59 _ rfl ⟨w.heap.size, 0, none⟩ rfl (Cfg.A c) rfl HAG.out lc.out ?_
    (refine wpSQ_step (fun K hK => ?_); go_simp; first | (refine hK _ ?_; clear hK K) | (apply Exists.intro; refine ⟨fun x => ?_, hK _ ?_⟩; (exact s1.out x); clear hK K))
    refine wpSQ_load_agg 59 _ rfl ⟨w.heap.size, 0, none⟩ rfl (Cfg.A c) rfl HAG.out lc.out ?_
    (refine wpSQ_step (fun K hK => ?_); go_simp; first | (refine hK _ ?_; clear hK K) | (apply Exists.intro; refine ⟨fun x => ?_, hK _ ?_⟩; (exact s2.out x); clear hK K))
    --M2
    iterate 3 ((refine wpSQ_step (fun K hK => ?_); go_simp; first | (refine hK _ ?_; clear hK K) | (apply Exists.intro; refine ⟨fun x => ?_, hK _ ?_⟩; (fail); clear hK K)))
    (refine wpSQ_step (fun K hK => ?_); go_simp; first | (refine hK _ ?_; clear hK K) | (apply Exists.intro; refine ⟨fun x => ?_, hK _ ?_⟩; (exact sr.out x); clear hK K))
    (refine wpSQ_step (fun K hK => ?_); go_simp; first | (refine hK _ ?_; clear hK K) | (apply Exists.intro; refine ⟨fun x => ?_, hK _ ?_⟩; (fail); clear hK K))
    refine wpSQ_nil ?_
    intro V hV
    go_wp2
    go_ret
    exact ⟨rfl, Ext.trans X3.out (Ext.trans xd hV)⟩
end Go.Proofs.YtdbjojnejkklhaaDoor

/- A configuration that comes in, and its reading behind the call. -/
namespace Go.Proofs.YtdbjojnejkklhaaDoor
set_option linter.unusedVariables false
open Go Go.ChangeShapes Go.WideShapes Go.ChangeAt Go.RowKit
theorem cfg_cells : Tryd.prog.cellsOf 59 = 5 := by kernel_rfl
theorem int_cells : Tryd.prog.cellsOf 3 = 1 := by kernel_rfl
theorem list5 {α : Type} {l : List α} (h : l.length = 5) : ∃ a b c d e, l = [a, b, c, d, e] := by
  match l, h with
  | [a, b, c, d, e], _ => exact ⟨a, b, c, d, e, rfl⟩
def litI {H : Type} (n : Int) : DataW H := .lit (.int .i64 n)
set_option maxRecDepth 100000 in
theorem open_cfg {H : Type} {enc : TypeId × Value → H} {W : World} {b0 base : Nat} {sp : Nat → Bool} {held : Bool} {r : Reach} {v : Value} {d : DataW H} {p : List MemPlace} (hv : Value.okWide Tryd.prog W r b0 59 v)
    (h : DataW.Trod enc Tryd.prog W base sp held 59 v d p) :
    ∃ a b c e f : Int, v = .agg (Cfg.A ⟨a, b, c, e, f⟩) ∧ d = .agg [litI a, litI b, litI c, litI e, litI f] ∧ p = [] ∧ (Lit.int .i64 a).wf = true ∧ (Lit.int .i64 b).wf = true ∧ (Lit.int .i64 c).wf = true ∧ (Lit.int .i64 e).wf = true ∧ (Lit.int .i64 f).wf = true := by
  obtain ⟨cs, rfl, hsz⟩ := okWide_struct Tryd.underlying59 hv
  obtain ⟨fuel, hf⟩ := h
  rw [cfg_cells] at hsz
  obtain ⟨l⟩ := cs
  have hl5 : l.length = 5 := by simpa using hsz
  obtain ⟨c0, c1, c2, c3, c4, rfl⟩ := list5 hl5
  obtain ⟨xs, n, _, e, hl, hlen, hfd⟩ := DataW.trod_struct Tryd.underlying59 hf
  obtain ⟨y0, y1, y2, y3, y4, rfl⟩ := list5 hlen
  have k0 := hfd 0 _ rfl
  have k1 := hfd 1 _ rfl
  have k2 := hfd 2 _ rfl
  have k3 := hfd 3 _ rfl
  have k4 := hfd 4 _ rfl
  simp [int_cells, Value.cells] at k0 k1 k2 k3 k4
  obtain ⟨n0, q0, r0, w0⟩ := DataW.trod_int Tryd.underlying3 k0
  obtain ⟨n1, q1, r1, w1⟩ := DataW.trod_int Tryd.underlying3 k1
  obtain ⟨n2, q2, r2, w2⟩ := DataW.trod_int Tryd.underlying3 k2
  obtain ⟨n3, q3, r3, w3⟩ := DataW.trod_int Tryd.underlying3 k3
  obtain ⟨n4, q4, r4, w4⟩ := DataW.trod_int Tryd.underlying3 k4
  cases q0; cases q1; cases q2; cases q3; cases q4
  subst r0 r1 r2 r3 r4
  simp at e
  refine ⟨n0, n1, n2, n3, n4, ?_, e.1, e.2, w0, w1, w2, w3, w4⟩
  rw [Cfg.A_def]; rfl
set_option maxRecDepth 100000 in
theorem shut_cfg {H : Type} {enc : TypeId × Value → H} {W : World} {base : Nat} {sp : Nat → Bool} {held : Bool} {a b c e f : Int} (wa : (Lit.int .i64 a).wf = true) (wb : (Lit.int .i64 b).wf = true) (wc : (Lit.int .i64 c).wf = true) (we : (Lit.int .i64 e).wf = true) (wf : (Lit.int .i64 f).wf = true) :
    DataW.Trod enc Tryd.prog W base sp held 59 (.agg (Cfg.A ⟨a, b, c, e, f⟩)) (.agg [litI a, litI b, litI c, litI e, litI f]) [] := by
  have hi := fun (n : Int) (hw : (Lit.int .i64 n).wf = true) => trod_int_mk (enc := enc) (w := W) (base := base) (spare := sp) (held := held) 0 Tryd.underlying3 hw
  have := trod_struct_mk (enc := enc) (w := W) (base := base) (spare := sp) (held := held) (n := 1) (cs := [.int .i64 a, .int .i64 b, .int .i64 c, .int .i64 e, .int .i64 f]) (xs := [(litI a, []), (litI b, []), (litI c, []), (litI e, []), (litI f, [])]) Tryd.underlying59 (by rw [cfg_cells]; rfl)
    (by simp [int_cells, hi a wa, hi b wb, hi c wc, hi e we, hi f wf, litI])
  refine ⟨2, ?_⟩
  rw [Cfg.A_def]
  simpa [Value.cells, Cfg.cl] using this
end Go.Proofs.YtdbjojnejkklhaaDoor

/- The statement SuperTells, as its tied card: for every input the call of stavelaw9's SuperTells answers true, and its arguments read behind it as they read before. No condition of our own. -/
namespace Go.Proofs.YtdbjojnejkklhaaDoor.superTells
open Go.ChangeShapes Go.WideShapes Go.ChangeAt Go.RowKit
open Go.ChangeMaps (open_string shut_string)
set_option linter.unusedVariables false
theorem laidOut : laidOutB Tryd.prog = true := by kernel_rfl
theorem walk (ca cb cc ce cf : Int) (a1 : Int) (a2 : Int) (w : World) (hg : EtLaid w) (w1 : (Lit.int .i64 a1).wf = true) (w2 : (Lit.int .i64 a2).wf = true) :
    Calls Tryd.prog 8 #[.agg (Cfg.A ⟨ca, cb, cc, ce, cf⟩), .int .i64 a1, .int .i64 a2] w fun e w' => e = .returned (.bool true) ∧ Below w.heap.size w w' :=
  (superTells_c ⟨ca, cb, cc, ce, cf⟩ a1 a2 w hg).mono fun _ _ ⟨he, hx⟩ => ⟨he, hx.below⟩
set_option maxRecDepth 100000 in
theorem lifted (os : Os) (started : os.Started) (H : Type) (enc : TypeId × Value → H) :
    ReturnsInHanded {} Tryd.checked os 8 .any (fun w args => (Rows.superTellsSpec.pre enc Tryd.prog Tryd.f8 [] false w args ∧ laidMetH Tryd.prog theLaid w) ∧ sizedMet enc Tryd.prog Tryd.f8 (OpenSpec.ofChange Rows.superTellsSpec) false w args)
      (Rows.superTellsSpec.post enc Tryd.prog Tryd.f8 false true false false) := by
  refine returnsInHanded_of_change_and (C := Tryd.checked) (X := fun w _ => laidMetH Tryd.prog theLaid w) (fun _ _ _ hh h => h.of_heap hh) hOwn started (by kernel_rfl) Tryd.func8
    (ChangeSpec.witness_at (enc := enc) (C := Tryd.checked) (os := os) (X := fun w _ => laidMetH Tryd.prog theLaid w) false (laidWorld os) #[.agg #[.int .i64 0, .int .i64 0, .int .i64 0, .int .i64 0, .int .i64 0], .int .i64 0, .int .i64 0] 8 rfl (by kernel_rfl) (by kernel_rfl) (by kernel_rfl) (by kernel_rfl) (by kernel_rfl) (laidWorld_met os _)) ?_
  intro W base args ds gs before hval0 hW _ _ hL _
  have hval : ∀ (j : Nat) t v, Tryd.f8.params[j]? = some t → args[j]? = some v → Value.okWide Tryd.prog W .any base t v := hval0
  have hW' := hW
  obtain ⟨p, q, hA0, hV, rfl, hfz, hnd⟩ := hW
  have hA : DataW.TrodAll enc Tryd.prog W 0 (fun _ => true) true Tryd.f8.params.toList args.toList ds p := hA0
  rw [Tryd.params8] at hA hval
  obtain ⟨v0, vs0, d0, ds0, p0, q0, hargs, rfl, rfl, h0, r0⟩ := trodAll_cons hA
  obtain ⟨v1, vs1, d1, ds1, p1, q1, rfl, rfl, rfl, h1, r1⟩ := trodAll_cons r0
  obtain ⟨v2, vs2, d2, ds2, p2, q2, rfl, rfl, rfl, h2, r2⟩ := trodAll_cons r1
  obtain ⟨rfl, rfl, rfl⟩ := trodAll_nil r2
  obtain rfl : args = #[v0, v1, v2] := by cases args; simp_all
  obtain ⟨rfl, rfl⟩ := trodVars_none hV
  obtain ⟨ca, cb, cc, ce, cf, rfl, rfl, rfl, wa, wb, wc, we, wf⟩ := open_cfg (hval 0 59 v0 rfl rfl) h0
  obtain ⟨a1, rfl, rfl, rfl, w1⟩ := open_int Tryd.underlying3 (hval 1 3 v1 rfl rfl) h1
  obtain ⟨a2, rfl, rfl, rfl, w2⟩ := open_int Tryd.underlying3 (hval 2 3 v2 rfl rfl) h2
  have hg := etLaid_of hL
  clear hA0 hval0
  simp only [List.append_nil] at hW'
  refine (walk ca cb cc ce cf a1 a2 W hg w1 w2).mono fun e W' ⟨he, bel⟩ => ?_
  subst he
  exact ⟨_, rfl, _, _, _, [], _, [], hW', trodAll_mk1 (shut_bool Tryd.underlying4 _), (trodAll_cons_mk (shut_cfg wa wb wc we wf) (trodAll_cons_mk (shut_int Tryd.underlying3 w1) (trodAll_cons_mk (shut_int Tryd.underlying3 w2) trodAll_mk0))), rfl, bel.frame _, fun h => by cases h⟩
theorem over : Rows.SuperTellsSaid :=
  OpenClaim.holds_of_wide 8 Tryd.f8 rfl rfl rfl rfl rfl rfl rfl ⟨rfl, rfl, rfl, rfl, rfl⟩ rfl rfl rfl rfl rfl (by kernel_rfl) Tryd.func8 (by kernel_rfl)
    (of_decide_eq_true (by kernel_rfl)) (by unfold Func.isWrapper; first | (rw [if_pos (by decide +kernel)]; kernel_rfl) | (rw [if_neg (by decide +kernel)]; exact ⟨rfl, rfl⟩))
    (fun os started H enc _ => lifted os started H enc)
theorem proved : Rows.SuperTellsCardSaid :=
  Claim7.holds_tied_plain_at .later [] [.handle] true (true, "dba68c5c8641de8e0643fe4af85c7b77ef0591640622d3211a00d85201f74fa1") true
    over (fun _ h => by cases h) (by kernel_rfl) (fun _ h => by cases h) superTells_row_tie rfl ⟨rfl, rfl⟩ (by kernel_rfl) rfl
    (fun f fn hf hfn => by
      obtain rfl : f = 8 := Option.some.inj ((show Tryd.prog.funcNamed "stave/stavelaw9.SuperTells" = some 8 by kernel_rfl).symm.trans hf) |>.symm
      obtain rfl : fn = Tryd.f8 := (Option.some.inj (Tryd.func8.symm.trans hfn)).symm
      exact ⟨by kernel_rfl, fun j t ht => by
        rw [Tryd.params8] at ht
        rcases j with _ | _ | _ | j
        · simp at ht; subst ht; kernel_rfl
        · simp at ht; subst ht; kernel_rfl
        · simp at ht; subst ht; kernel_rfl
        · simp at ht⟩)
    (by kernel_rfl)
#print axioms proved
end Go.Proofs.YtdbjojnejkklhaaDoor.superTells
