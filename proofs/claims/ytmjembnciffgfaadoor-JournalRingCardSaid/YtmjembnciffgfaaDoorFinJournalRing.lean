/- The statement JournalRing, as its tied card: for every input the call of stavelaw10's JournalRing answers true, and its arguments read behind it as they read before. No condition of our own. -/
/- Texts of one proof, joined: JourRing, WJournalRing, LawJournalRing. -/
import Derived.Test.YtmjembnciffgfaaDoorPartL
import Derived.Test.YtmjembnciffgfaaDoorPartD
import Derived.Deep.DeepCutAuto
import Derived.Test.YtmjembnciffgfaaDoorCards
import Derived.Test.YtmjembnciffgfaaDoorTie
import Derived.Test.YtmjembnciffgfaaDoorPartC
import Derived.WalkKit
import Derived.ProofKit
import Derived.OpenShut
import Derived.ShutString
import Derived.ChangeOld
import Derived.Below
import Derived.SevenTiedAt
set_option linter.unusedVariables false
set_option linter.unusedSimpArgs false
/- The records with rising numbers, a ring of slots: what the rack has and what the law keeps in its map. -/
namespace Go.Proofs.YtmjembnciffgfaaDoor
set_option linter.unusedVariables false
open Go Go.RowKit
def blankF (s : Nat) (t : Nat) : Option Rcd := if t < s then some Rcd.none_ else none
theorem blankF_zero : blankF 0 = fun _ => none := by funext t; simp [blankF]
theorem blankF_succ (s : Nat) : upd (blankF s) s Rcd.none_ = blankF (s + 1) := by
  funext t
  unfold upd blankF
  by_cases h : t = s
  · subst h; simp
  · rw [if_neg h]
    by_cases h2 : t < s
    · rw [if_pos h2, if_pos (by omega)]
    · rw [if_neg h2, if_neg (by omega)]
/-- Of each slot: nothing was written and the map has nothing, or both have the same record. -/
def Ring (w : World) (S : Nat → Prop) (mb : Nat) (c : Cfg) (sn : Nat) (f : Nat → Option Rcd) (mf : Int → Option Value) : Prop :=
  ∀ t : Nat, t < sn → (f t = some Rcd.none_ ∧ mf (t : Int) = none) ∨ ∃ x a cp, f t = some x ∧ mf (t : Int) = some (.agg (Rcd.V x a cp)) ∧ (x.blocks.length : Int) = c.k ∧ x.Ok ∧ BlksAt w a x.blocks ∧ ∀ g, a = some ⟨g, 0, none⟩ → S g ∧ g ≠ mb
theorem Ring.only {w w' : World} {S F : Nat → Prop} {mb : Nat} {c : Cfg} {sn : Nat} {f : Nat → Option Rcd} {mf : Int → Option Value} (h : Ring w S mb c sn f mf) (e : Only F w w') (hF : ∀ b, S b → b ≠ mb → ¬ F b) : Ring w' S mb c sn f mf := fun t ht => by
  rcases h t ht with q | ⟨x, a, cp, h1, h2, h3, h4, h5, h6⟩
  · exact .inl q
  · exact .inr ⟨x, a, cp, h1, h2, h3, h4, h5.only e fun g hg q => hF g (h6 g hg).1 (h6 g hg).2 q, h6⟩
theorem Ring.sub {w : World} {S T : Nat → Prop} {mb : Nat} {c : Cfg} {sn : Nat} {f : Nat → Option Rcd} {mf : Int → Option Value} (h : Ring w S mb c sn f mf) (hT : ∀ b, S b → T b) : Ring w T mb c sn f mf := fun t ht => by
  rcases h t ht with q | ⟨x, a, cp, h1, h2, h3, h4, h5, h6⟩
  · exact .inl q
  · exact .inr ⟨x, a, cp, h1, h2, h3, h4, h5, fun g hg => ⟨hT _ (h6 g hg).1, (h6 g hg).2⟩⟩
theorem Ring.put {w : World} {S : Nat → Prop} {mb : Nat} {c : Cfg} {sn : Nat} {f : Nat → Option Rcd} {mf : Int → Option Value} (h : Ring w S mb c sn f mf) {t : Nat} {x : Rcd} {a : Option Addr} {cp : Nat} (hl : (x.blocks.length : Int) = c.k) (ok : x.Ok) (hb : BlksAt w a x.blocks)
    (ha : ∀ g, a = some ⟨g, 0, none⟩ → S g ∧ g ≠ mb) : Ring w S mb c sn (upd f t x) (fun j => if j = (t : Int) then some (.agg (Rcd.V x a cp)) else mf j) := fun s hs => by
  by_cases e : s = t
  · subst e
    exact .inr ⟨x, a, cp, upd_at _ _ _, if_pos rfl, hl, ok, hb, ha⟩
  · have e2 : (fun j => if j = (t : Int) then some (Value.agg (Rcd.V x a cp)) else mf j) (s : Int) = mf s := if_neg (by omega)
    rw [upd_other _ _ e, e2]
    exact h s hs
structure RingE (w0 w : World) (r g mb : Nat) (c : Cfg) (m sn : Nat) (S : Nat → Prop) (R : Rck) (f : Nat → Option Rcd) (mf : Int → Option Value) : Prop where
  rj : RJ R c m f
  map : MapI w mb mf
  ring : Ring w S mb c sn f mf
  je : JE w0 w S r R g c []
  at_ : S mb
  ne : g ≠ mb
  new : w0.heap.size ≤ mb
theorem RingE.more {w0 w w' : World} {r g mb : Nat} {c : Cfg} {m sn : Nat} {S : Nat → Prop} {R : Rck} {f : Nat → Option Rcd} {mf : Int → Option Value} (h : RingE w0 w r g mb c m sn S R f mf) (e : Ext w w') : RingE w0 w' r g mb c m sn S R f mf :=
  ⟨h.rj, h.map.same (e.block mb h.map.lt (fun x => x)), h.ring.only e (fun _ _ _ x => x), h.je.more e, h.at_, h.ne, h.new⟩
theorem RingE.next {w0 w U w5 V W : World} {r g mb : Nat} {c : Cfg} {m sn : Nat} {S : Nat → Prop} {R R' : Rck} {f : Nat → Option Rcd} {mf : Int → Option Value} (h : RingE w0 w r g mb c m sn S R f mf) (x1 : Ext w U) {px : Nat} {x : Rcd} {a : Option Addr} {cp : Nat}
    (hr : RecN w.heap.size U ⟨px, x, a, cp⟩) (k : Keeps (wideS S w U) U w5) (h5 : RackAt (wideS S w U) w5 r R') {t : Nat} (hrj : RJ R' c m (upd f t x)) (x6 : Ext w5 V)
    (hm : MapI W mb (fun j => if j = (t : Int) then some (.agg (Rcd.V x a cp)) else mf j)) (o : Only (fun b => b = mb) V W) (hl : (x.blocks.length : Int) = c.k) (ok : x.Ok) (k0 : 0 < c.k) :
    RingE w0 W r g mb c m sn (wideS S w U) R' (upd f t x) (fun j => if j = (t : Int) then some (.agg (Rcd.V x a cp)) else mf j) := by
  have hne : x.blocks ≠ [] := fun q => by rw [q] at hl; simp at hl; omega
  have lmb := h.map.lt
  have hS : wideS S w U mb := .inl h.at_
  have j1 : JE w0 U (wideS S w U) r R g c [] := h.je.wide x1
  have j2 : JE w0 w5 (wideS S w U) r R' g c [] := j1.keep h5 k
  have j3 := j2.more x6
  have own : ∀ q, a = some ⟨q, 0, none⟩ → wideS S w U q ∧ q ≠ mb := fun q hq => by
    have a1 : w.heap.size ≤ q := hr.own q hq
    have a2 : q < U.heap.size := hr.bks.lt hne q hq
    exact ⟨.inr ⟨a1, a2⟩, by omega⟩
  have b5 : BlksAt w5 a x.blocks := hr.bks.only k fun q hq n => n (own q hq).1
  have bV : BlksAt V a x.blocks := b5.ext x6
  have r1 : Ring V (wideS S w U) mb c sn f mf := (((h.ring.only x1 (fun _ _ _ x => x)).sub (T := wideS S w U) fun b hb => .inl hb).only k (fun b hb _ n => n hb)).only x6 (fun _ _ _ x => x)
  have r2 := r1.only o (fun b _ hb e => hb e)
  have bW : BlksAt W a x.blocks := bV.only o fun q hq e => (own q hq).2 e
  refine ⟨hrj, hm, r2.put hl ok bW own, ⟨j3.rack.only o fun b e => e ▸ hS, Ext.then j3.ext o (fun i hi e => by have := h.new; omega), j3.low, o.at j3.cfg h.ne, j3.cfgS, fun p hp => by cases hp⟩, hS, h.ne, h.new⟩
theorem RingE.mapAt {w0 w U w5 V : World} {r g mb : Nat} {c : Cfg} {m sn : Nat} {S : Nat → Prop} {R : Rck} {f : Nat → Option Rcd} {mf : Int → Option Value} (h : RingE w0 w r g mb c m sn S R f mf) (x1 : Ext w U) (k : Keeps (wideS S w U) U w5) (x6 : Ext w5 V) : MapI V mb mf := by
  have l1 := h.map.lt
  have m1 := h.map.same (x1.block mb l1 (fun x => x))
  have m2 := m1.same (k.block mb m1.lt (fun q => q (.inl h.at_)))
  exact m2.same (x6.block mb m2.lt (fun x => x))
theorem RingE.start {w0 w : World} {r g mb : Nat} {c : Cfg} {m sn : Nat} {S : Nat → Prop} {R : Rck} (hr : RJ R c m (blankF sn)) (hm : MapI w mb fun _ => none) (hj : JE w0 w S r R g c []) (h1 : S mb) (h2 : g ≠ mb) (h3 : w0.heap.size ≤ mb) : RingE w0 w r g mb c m sn S R (blankF sn) fun _ => none :=
  ⟨hr, hm, fun t ht => .inl ⟨if_pos ht, rfl⟩, hj, h1, h2, h3⟩
end Go.Proofs.YtmjembnciffgfaaDoor

/- The walk of JournalRing. -/
namespace Go.Proofs.YtmjembnciffgfaaDoor
set_option linter.unusedVariables false
open Go Go.RowKit
set_option maxRecDepth 100000 in
set_option maxHeartbeats 8000000 in
theorem journalRing_c (k n slots : Int) (ia : Option Addr) (len cap : Nat) (z : List Int) (w : World) (hg : EtLaid w) (hl : IsRow .i64 w ia len cap z) :
    Calls Tryd.prog 4 #[.int .i64 k, .int .i64 n, .int .i64 slots, .slice ia len cap] w fun e w' => e = .returned (.bool true) ∧ Ext w w' := by
  have HI := hid hl.ints
  clear hl
  have HG := hid hg
  have hzc := zero_cfg
  have hzr := zero_rec
  have hzl := zero_loss
  have HCS := hid Cfg.A_size
  have hmm := @run_makeMap Tryd.prog
  clear hg
  obtain ⟨p0, p1⟩ := within_bd slots 1 4 (by omega)
  obtain ⟨sn, hsn⟩ := Int.eq_ofNat_of_zero_le (show 0 ≤ within slots 1 4 by omega)
  have HWS := hid hsn
  rw [hsn] at p0 p1
  clear hsn
  go_enter Tryd.func4, Tryd.ntmps4
  go_wp2_with fail
  refine (within_c slots 1 4 w (by omega) (by omega) (by omega)).mono ?_
  rintro e w0 ⟨rfl, rfl⟩
  rw [HWS.out]
  go_wp2_with fail
  refine (kfixed_c k n 3 (sn : Int) _).mono ?_
  rintro e w1 ⟨rfl, x1⟩
  have HGD := hid (show (keepFixed k n 3 (sn : Int)).Good from keepFixed_good k n 3 (sn : Int) (by omega) (by omega) (by omega) (by omega))
  have HK4 := hid (keepFixed_k4 k n 3 (sn : Int))
  have HN6 := hid (keepFixed_n6 k n 3 (sn : Int))
  have HST := hid (show (keepFixed k n 3 (sn : Int)).stripes = 3 from rfl)
  have HSL := hid (show (keepFixed k n 3 (sn : Int)).slots = (sn : Int) from rfl)
  generalize keepFixed k n 3 (sn : Int) = c at *
  obtain ⟨W1, hW1⟩ : ∃ W, w1.alloc (.cells (Cfg.A c) 23) = W := ⟨_, rfl⟩
  have X1 := hid (show Ext w W1 from hW1 ▸ x1.alloc _)
  have HC := hid (show W1.heap[w1.heap.size]? = some (.cells (Cfg.A c) 23 (0, 0)) from hW1 ▸ heap_alloc_new _ _)
  have hbs : (w1.alloc (.cells (Cfg.A Cfg.zero) 23)).heap[w1.heap.size]? = some (.cells (Cfg.A Cfg.zero) 23 (0, 0)) := block_alloc
  clear x1
  go_wp2_with (guard_target = wpList _ _ _ ({ dst := none, op := Op.store _ _ _, type := _, pos := _, after := _, guard := none } :: _) _ _; refine wpList_store_whole rfl 23 _ _ rfl w1.heap.size rfl (Cfg.A c) _ rfl 23 ?_ hbs ?_ ?_ ?_; (rw [HCS.out]; exact aggCfg); (rw [HCS.out, HCS.out]); exact Cfg.A_one _)
  rw [setRow_alloc, hW1]
  clear hbs hW1
  have HLT := hid (lt_of_block HC.out)
  generalize w1.heap.size = g at *
  obtain ⟨m, hm, m1, m128⟩ := sectors_nat c HGD.out
  obtain ⟨nn, hn⟩ : ∃ nn : Nat, c.n = nn := ⟨c.n.toNat, by have := HGD.out.k0; have := HGD.out.k1; omega⟩
  obtain ⟨kk, hk⟩ : ∃ kk : Nat, c.k = kk := ⟨c.k.toNat, by have := HGD.out.k0; omega⟩
  have HNT := hid (show c.n.toNat = nn by omega)
  have HKT := hid (show c.k.toNat = kk by omega)
  have n1 : 1 ≤ nn := by have := HGD.out.k0; have := HGD.out.k1; omega
  have n8 : nn ≤ 6 := by have := HN6.out; omega
  have k1 : 1 ≤ kk := by have := HGD.out.k0; omega
  have k4 : kk ≤ 4 := by have := HK4.out; omega
  have HM := hid hm; have HN := hid hn; have HK := hid hk
  have xd : Ext W1 W1.drew := (Ext.refl W1).drew
  have lc : Hid (∀ x : SW Ext W1.drew, ∀ j v, (Cfg.A c).toList[j]? = some v → x.w.cell? ((⟨g, 0, none⟩ : Addr).add j) = some v) := hid fun x => agg_cells ((Ext.trans xd x.ext).at HC.out)
  have c2 : ∀ x : SW Ext W1.drew, x.w.cell? ⟨g, 2, none⟩ = some (.int .i64 nn) := fun x => (cell_at ((Ext.trans xd x.ext).at HC.out)).trans (by rw [Cfg.A2, HN.out])
  have sc : Hid (∀ x : SW Ext W1.drew, Calls Tryd.prog 19 #[.agg (Cfg.A c)] x.w fun e w'' => e = .returned (.int .i64 m) ∧ Ext x.w w'') := hid fun x => by
    have := ksectors_c c HGD.out x.w
    rw [HM.out] at this
    exact this
  have HAG := hid (cfg_agg c)
  clear hm hn hk
  refine wp_region_rely_all (S := Ext) (.one [0, 1, 2, 3] 4 (.fin [5, 6, 7, 8, 9])) (by kernel_rfl) (by kernel_rfl) (fun _ _ d _ _ h => by cases d <;> exact h) ?_
  rw [wpS]
  simp only [opsAt, List.map_cons, List.map_nil, Array.getD_eq_getD_getElem?, List.getElem?_toArray, List.getElem?_cons_succ, List.getElem?_cons_zero, Option.getD_some]
  iterate 2 ((refine wpSQ_step (fun K hK => ?_); go_simp; first | (refine hK _ ?_; clear hK K) | (apply Exists.intro; refine ⟨fun x => ?_, hK _ ?_⟩; (fail); clear hK K)))
  refine wpSQ_load_agg 23 _ rfl ⟨g, 0, none⟩ rfl (Cfg.A c) rfl HAG.out lc.out ?_
  (refine wpSQ_step (fun K hK => ?_); go_simp; first | (refine hK _ ?_; clear hK K) | (apply Exists.intro; refine ⟨fun x => ?_, hK _ ?_⟩; (exact sc.out x); clear hK K))
  refine wpSQ_nil ?_
  intro V1 hV1
  refine wpS_loud fun K hK => ?_
  go_wp2_with fail
  refine (at_new nn m n1 (by omega) m1 m128 V1).mono ?_
  rintro e w2 ⟨r, rfl, h2, x2⟩
  go_wp2
  refine hK _ _ x2 ?_
  clear hK K
  rw [wpS]
  simp only [opsAt, List.map_cons, List.map_nil, Array.getD_eq_getD_getElem?, List.getElem?_toArray, List.getElem?_cons_succ, List.getElem?_cons_zero, Option.getD_some]
  iterate 5 ((refine wpSQ_step (fun K hK => ?_); go_simp; first | (refine hK _ ?_; clear hK K) | (apply Exists.intro; refine ⟨fun x => ?_, hK _ ?_⟩; (fail); clear hK K)))
  refine wpSQ_nil ?_
  intro V2 hV2
  have J2 : JE w V2 (fun b => b < W1.heap.size) r (Rck.new nn m) g c [] := ⟨(h2.less fun b hb => Nat.lt_of_lt_of_le hb (Ext.trans xd hV1).size).ext hV2, Ext.trans X1.out (Ext.trans xd (Ext.trans hV1 (Ext.trans x2 hV2))), fun b hb => Nat.lt_of_lt_of_le hb X1.out.size, (Ext.trans xd (Ext.trans hV1 (Ext.trans x2 hV2))).at HC.out, HLT.out, fun p hp => by simp at hp⟩
  have HJ2 := hid J2
  have RJ0 : RJ (Rck.new nn m) c m (fun _ => none) := by
    have := RJ.new HGD.out (m := m) (by rw [HM.out]; exact Int.le_refl _)
    rw [HNT.out] at this
    exact this
  have HRJ0 := hid RJ0
  clear h2 x2 hV1 hV2 lc c2 sc xd J2 X1 HC HLT RJ0
  have HSN := hid (show c.slots.toNat = sn by rw [HSL.out]; rfl)
  obtain ⟨S0, hS0⟩ : ∃ S : Nat → Prop, (fun b => b < W1.heap.size) = S := ⟨_, rfl⟩
  rw [hS0] at HJ2
  have HRJ := hid (show RJ (Rck.new nn m) c m (blankF 0) by rw [blankF_zero]; exact HRJ0.out)
  clear HRJ0 hS0
  go_wp2
  go_loopw [12] (fun t wr => ∃ s : Nat, t = .int .i64 s ∧ s ≤ sn ∧ ∃ R, RJ R c m (blankF s) ∧ JE w wr S0 r R g c []) (fun t _ => sn - (intOf t).toNat)
  case atStart => exact ⟨0, rfl, by omega, _, HRJ.out, HJ2.out⟩
  case round =>
    clear HRJ HJ2
    obtain ⟨s, rfl, hs, R, hrj, hj⟩ := hrel
    have HJR := hid hj
    have HRR := hid hrj
    have c4 : wr.cell? ⟨g, 4, none⟩ = some (.int .i64 sn) := (cell_at hj.cfg).trans (by rw [Cfg.A4, HSL.out])
    clear hj hrj
    by_cases hlt : s < sn
    · obtain ⟨R', hb, hrj'⟩ := HRR.out.blank (s := s) (by rw [HSN.out]; exact hlt)
      rw [blankF_succ] at hrj'
      have HB := hid hb
      have HRN := hid hrj'
      clear hb hrj' HRR
      go_wp2_with (guard_target = wpList _ _ _ ({ dst := some _, op := Op.load _ _, type := _, pos := _, after := _, guard := none } :: _) _ _; refine wpList_load_agg rfl 23 _ rfl ⟨g, 0, none⟩ rfl (Cfg.A c) (cfg_agg c) (agg_cells HJR.out.cfg) ?_)
      refine (jblank_c HJR.out.rack c s).mono ?_
      rintro e w5 ⟨rfl, h5, k5⟩
      rw [HB.out] at h5 ⊢
      simp only [oErr]
      have HJ5 := hid (HJR.out.keep h5 k5)
      clear h5 k5 HJR c4
      go_wp2
      go_roundw
      case rel => exact ⟨s + 1, by go_num, by omega, R', HRN.out, HJ5.out⟩
      case measure => simp [intOf]; omega
    · obtain rfl : sn = s := by omega
      go_wp2
      clear c4
      have x7 : Ext wr (wr.alloc (.map #[] 0)) := (Ext.refl wr).alloc _
      obtain ⟨mb, hmb⟩ : ∃ mb, wr.heap.size = mb := ⟨_, rfl⟩
      have hms : (wr.alloc (.map #[] 0)).heap.size = mb + 1 := by rw [← hmb]; simp
      have R0 : RingE w (wr.alloc (.map #[] 0)) r g mb c m sn (wideS S0 wr (wr.alloc (.map #[] 0))) R (blankF sn) fun _ => none :=
        RingE.start HRR.out (hmb ▸ MapI.made wr) (HJR.out.wide x7) (.inr ⟨by omega, by rw [hms]; omega⟩) (by have := HJR.out.rack.there g HJR.out.cfgS; omega) (by rw [← hmb]; exact HJR.out.ext.size)
      have HR0 := hid R0
      rw [hmb]
      clear HRR HJR x7 R0 hmb hms
      go_loopw [14] (fun t wr => ∃ i : Nat, t = .int .i64 i ∧ i ≤ 12 ∧ ∃ S R f mf, RingE w wr r g mb c m sn S R f mf) (fun t _ => 12 - (intOf t).toNat)
      case atStart => exact ⟨0, rfl, by omega, _, _, _, _, HR0.out⟩
      case round =>
        clear HR0
        obtain ⟨i, rfl, hi, S, R, f, mf, hre⟩ := hrel
        have HRE := hid hre
        clear hre
        by_cases hgo : i < len ∧ i < 12
        · obtain ⟨hlen, h12⟩ := hgo
          obtain ⟨ib, ioff, vi, rfl, hci⟩ := HI.out i hlen
          have i0 : (0 : Int) ≤ (i : Int) := by omega
          have i1 : (i : Int) < (len : Int) := by omega
          have i2 : (i : Int) < 12 := by omega
          have hws : wrap64 (2 + (i : Int)) = 2 + (i : Int) := by unfold wrap64; omega
          obtain ⟨st, hst⟩ : ∃ st, within vi 0 2 = st := ⟨_, rfl⟩
          obtain ⟨s0, s1⟩ := within_bd vi 0 2 (by omega)
          rw [hst] at s0 s1
          obtain ⟨X, hX⟩ : ∃ X, recOf c (2 + (i : Int)) st vi = X := ⟨_, rfl⟩
          have HXE := hid hX
          have HXS := hid (show X.seq = 2 + (i : Int) by rw [← hX]; rfl)
          have HXT := hid (show X.stripe = st by rw [← hX]; rfl)
          have HXL := hid (show (X.blocks.length : Int) = c.k by rw [← hX]; exact recOf_len HGD.out _ _ _)
          have HXO := hid (show X.Ok by rw [← hX]; exact recOf_ok _ _ _ _)
          have HXB := hid (show X.blocks = blocksOf kk vi by rw [← hX, ← HKT.out]; rfl)
          have HXN := hid (show X.blocks ≠ [] by
            rw [HXB.out]; intro q
            have := congrArg List.length q
            rw [blocksOf_len] at this; simp at this; omega)
          obtain ⟨t, ht⟩ : ∃ t : Nat, (2 + i) % sn = t := ⟨_, rfl⟩
          have hrem : Int.tmod (2 + (i : Int)) (sn : Int) = (t : Int) := by
            rw [Int.tmod_eq_emod_of_nonneg (by omega), ← ht]; push_cast; rfl
          have hs0 : ¬ (sn : Int) = 0 := by omega
          have hs00 : ¬ sn = 0 := by omega
          have HWK := hid (show IntKind.i64.wrap (2 + (i : Int)) = 2 + (i : Int) by rw [IntKind.wrap_i64]; omega)
          obtain ⟨_, _, _, R', hlog, hrj'⟩ := HRE.out.rj.log (x := X) (t := t) (by rw [HXS.out, HSL.out, ← ht]; push_cast; rfl) HXO.out (by rw [HXT.out]; exact s0) (by rw [HXT.out, HST.out]; omega) (by rw [HXS.out]; omega) (by rw [HXS.out]; omega) HXL.out
          have HLOG := hid hlog
          have HRN := hid hrj'
          have HWA := hid (fun y : SW (Only fun b => wr.heap.size ≤ b) wr.drew => (show Calls Tryd.prog 18 #[.int .i64 vi, .int .i64 0, .int .i64 2] y.w fun e w'' => e = .returned (.int .i64 st) ∧ Ext y.w w'' from hst ▸ (within_c vi 0 2 y.w (by omega) (by omega) (by omega)).mono fun e w'' ⟨h, q⟩ => ⟨h, q ▸ Ext.refl _⟩))
          have hcd : wr.drew.cell? ⟨ib, ioff + i, none⟩ = some (.int .i64 vi) := Ext.cell (HRE.out.je.ext.drew) hci
          have lci := World.block_lt_of_cell? wr.drew _ hcd
          have ci : ∀ y : SW (Only fun b => wr.heap.size ≤ b) wr.drew, y.w.cell? ⟨ib, ioff + i, none⟩ = some (.int .i64 vi) := fun y => Only.cell y.ext hcd (Nat.not_le.2 lci)
          have HLV := hid (lt_of_block HRE.out.je.cfg)
          have ck : ∀ y : SW (Only fun b => wr.heap.size ≤ b) wr.drew, y.w.cell? ⟨g, 1, none⟩ = some (.int .i64 kk) := fun y => (cell_at (y.ext.at (show wr.drew.heap[g]? = _ from HRE.out.je.cfg) (fun q => absurd HLV.out (Nat.not_lt.2 q)))).trans (by rw [Cfg.A1, HK.out])
          clear hlog hrj' hst hX hci hcd lci ht
          go_upto_region 14 with (fail)
          go_cut [15] (fun vx wq => ∃ px a cp, vx = .pointer (some ⟨px, 0, none⟩) ∧ Ext wr wq ∧ RecN wr.heap.size wq ⟨px, X, a, cp⟩)
          case first =>
            refine wp_region_tree_all (E := Ext) (S := Only fun b => wr.heap.size ≤ b) (.two [0, 1, 2, 3, 4, 5, 6, 7, 8, 9, 10, 11, 12] 13 15 (.one [14] 15 (.one [] 16 (.fin []))) (.one [] 13 (.one [14] 16 (.fin [])))) (by kernel_rfl) (by kernel_rfl) (fun _ _ d _ _ h => by cases d <;> exact h) ?_
            rw [wpT]
            simp only [opsAt, List.map_cons, List.map_nil, Array.getD_eq_getD_getElem?, List.getElem?_toArray, List.getElem?_cons_succ, List.getElem?_cons_zero, Option.getD_some]
            (refine wpSQ_step (fun K hK => ?_); go_simp; first | (refine hK _ ?_; clear hK K) | (apply Exists.intro; refine ⟨fun x => ?_, hK _ ?_⟩; (fail); clear hK K))
            (refine wpSQ_step (fun K hK => ?_); go_simp; first | (refine hK _ ?_; clear hK K) | (apply Exists.intro; refine ⟨fun x => ?_, hK _ ?_⟩; (fail); clear hK K))
            (refine wpSQ_step (fun K hK => ?_); go_simp; first | (refine hK _ ?_; clear hK K) | (apply Exists.intro; refine ⟨fun x => ?_, hK _ ?_⟩; (fail); clear hK K))
            (refine wpSQ_step (fun K hK => ?_); go_simp; first | (refine hK _ ?_; clear hK K) | (apply Exists.intro; refine ⟨fun x => ?_, hK _ ?_⟩; (fail); clear hK K))
            (refine wpSQ_step (fun K hK => ?_); go_simp; first | (refine hK _ ?_; clear hK K) | (apply Exists.intro; refine ⟨fun x => ?_, hK _ ?_⟩; (fail); clear hK K))
            (refine wpSQ_step (fun K hK => ?_); go_simp; first | (refine hK _ ?_; clear hK K) | (apply Exists.intro; refine ⟨fun x => ?_, hK _ ?_⟩; (fail); clear hK K))
            (refine wpSQ_step (fun K hK => ?_); go_simp; first | (refine hK _ ?_; clear hK K) | (apply Exists.intro; refine ⟨fun x => ?_, hK _ ?_⟩; (exact HWA.out x); clear hK K))
            (refine wpSQ_step (fun K hK => ?_); go_simp; first | (refine hK _ ?_; clear hK K) | (apply Exists.intro; refine ⟨fun x => ?_, hK _ ?_⟩; (fail); clear hK K))
            (refine wpSQ_step (fun K hK => ?_); go_simp; first | (refine hK _ ?_; clear hK K) | (apply Exists.intro; refine ⟨fun x => ?_, hK _ ?_⟩; (fail); clear hK K))
            (refine wpSQ_step (fun K hK => ?_); go_simp; first | (refine hK _ ?_; clear hK K) | (apply Exists.intro; refine ⟨fun x => ?_, hK _ ?_⟩; (fail); clear hK K))
            (refine wpSQ_step (fun K hK => ?_); go_simp; first | (refine hK _ ?_; clear hK K) | (apply Exists.intro; refine ⟨fun x => ?_, hK _ ?_⟩; (fail); clear hK K))
            (refine wpSQ_step (fun K hK => ?_); go_simp; first | (refine hK _ ?_; clear hK K) | (apply Exists.intro; refine ⟨fun x => ?_, hK _ ?_⟩; (fail); clear hK K))
            (refine wpSQ_step (fun K hK => ?_); go_simp; first | (refine hK _ ?_; clear hK K) | (apply Exists.intro; refine ⟨fun x => ?_, hK _ ?_⟩; (fail); clear hK K))
            refine wpSQ_nil ?_
            intro U0 hU0
            have EX0 := hid (show Ext wr U0 from Ext.trans (Ext.refl wr).drew hU0)
            have SZ0 := hid EX0.out.size
            clear hU0 ck ci HWA
            refine ⟨?_, ?_⟩
            · refine wpT_loud fun K hK => ?_
              go_wp2_with fail
              refine (kblocks_c kk (by omega) vi U0).mono ?_
              rintro e W0 ⟨v, rfl, hown, xw⟩
              obtain ⟨a, cp, rfl, hbk, hab⟩ := kblocks_at (fun b hb => by obtain ⟨n, rfl⟩ := blocksOf_mem hb; exact blockOf_len n) hown
              have HBX : Hid (Tryd.prog.built 32 [(0, .int .i64 (2 + (i : Int))), (1, .int .i64 st), (2, .slice a (blocksOf kk vi).length cp)] = some (X.V a cp)) := hid (by
                have := built_recOfC c (2 + (i : Int)) st vi a cp
                rw [HKT.out] at this
                rw [this, HXE.out])
              have BKX := hid (show BlksAt W0 a X.blocks by rw [HXB.out]; exact hbk)
              have LOX := hid hab
              clear hown hbk hab
              generalize (blocksOf kk vi).length = n1 at *
              go_wp2
              refine hK _ _ (Ext.only xw) ?_
              clear hK K
              rw [wpT]
              simp only [opsAt, List.map_cons, List.map_nil, Array.getD_eq_getD_getElem?, List.getElem?_toArray, List.getElem?_cons_succ, List.getElem?_cons_zero, Option.getD_some]
              refine wpSQ_build rfl 32 _ rfl (X.V a cp) ?_ ?_
              · simp only [List.map_toArray, List.map_cons, List.map_nil, Act.eval]
                simp only [Array.getD_eq_getD_getElem?, List.getElem?_toArray, List.getElem?_cons_succ, List.getElem?_cons_zero, Option.getD_some]
                rw [HWK.out]
                exact HBX.out
              refine wpSQ_nil ?_
              intro U1 hU1
              have XU := hid (Ext.trans xw hU1)
              have EX1 := hid (Ext.trans EX0.out XU.out)
              have SZ1 := hid XU.out.size
              replace BKX := hid (BKX.out.ext hU1)
              have HIX := hid (fun g (hg : a = some ⟨g, 0, none⟩) => (show g < U1.heap.size from BKX.out.lt HXN.out g hg))
              clear hU1 xw XU
              refine wpT_loud fun K hK => ?_
              go_wp2
              refine hK _ _ (Ext.only ((Ext.refl _).alloc _)) ?_
              clear hK K
              have xw : Ext U1 (U1.alloc (.cells (Rcd.none_.V none 0) 32)) := (Ext.refl _).alloc _
              have CBX := hid (show (U1.alloc (.cells (Rcd.none_.V none 0) 32)).heap[U1.heap.size]? = some (.cells (Rcd.none_.V none 0) 32 (0, 0)) from heap_alloc_new _ _)
              rw [wpT]
              simp only [opsAt, List.map_cons, List.map_nil, Array.getD_eq_getD_getElem?, List.getElem?_toArray, List.getElem?_cons_succ, List.getElem?_cons_zero, Option.getD_some]
              refine wpSQ_nil ?_
              intro U2 hU2
              have XU := hid (Ext.trans xw hU2)
              have EX2 := hid (Ext.trans EX1.out XU.out)
              have SZ2 := hid XU.out.size
              have SPX := hid (show U1.heap.size < U2.heap.size from Nat.lt_of_lt_of_le (by simp) hU2.size)
              replace BKX := hid (BKX.out.ext XU.out)
              replace CBX := hid (hU2.at CBX.out)
              clear hU2 xw XU
              refine wpT_loud fun K hK => ?_
              go_wp2_with (guard_target = wpList _ _ _ ({ dst := none, op := Op.store _ _ _, type := _, pos := _, after := _, guard := none } :: _) _ _; refine wpList_store_whole rfl 32 _ _ rfl U1.heap.size rfl (X.V a cp) _ rfl 32 (agg_rec _ _ _) CBX.out rfl (V_one _ _ _) ?_)
              have HOU := hid ((only_setRow U2 U1.heap.size (X.V a cp)).mono (fun i _ h => by subst h; exact (EX1.out.size : wr.heap.size ≤ U1.heap.size)) : Only (fun b => wr.heap.size ≤ b) U2 (U2.setRow U1.heap.size (X.V a cp)))
              refine hK _ _ HOU.out ?_
              have HSX := hid (setRow_heap U2 U1.heap.size _ (X.V a cp) _ _ CBX.out)
              clear hK K HOU
              rw [wpT]
              simp only [opsAt, List.map_cons, List.map_nil, Array.getD_eq_getD_getElem?, List.getElem?_toArray, List.getElem?_cons_succ, List.getElem?_cons_zero, Option.getD_some]
              refine wpSQ_nil ?_
              intro U3 hU3
              have OU := hid (Only.ext (only_setRow U2 U1.heap.size (X.V a cp)) hU3)
              have EX3 := hid (show Ext wr U3 from Ext.then EX2.out OU.out (fun q hq e => by have := EX1.out.size; omega))
              have CFX := hid (hU3.at HSX.out)
              replace BKX := hid (BKX.out.only OU.out (fun g hg e => by have s0 := SZ0.out; have s1 := SZ1.out; have s2 := SZ2.out; have pX := SPX.out; have h1 := LOX.out g hg; have h2 := HIX.out g hg; omega))
              clear hU3 OU HSX CBX
              go_wp2
              go_meet
              case rel =>
                exact ⟨U1.heap.size, a, cp, rfl, EX3.out, CFX.out, EX1.out.size, BKX.out, fun g hg => Nat.le_trans EX0.out.size (LOX.out g hg)⟩
            · refine wpT_loud fun K hK => ?_
              go_wp2
              refine hK _ _ (Ext.only ((Ext.refl _).alloc _)) ?_
              clear hK K
              have xw : Ext U0 (U0.alloc (.cells (Rcd.none_.V none 0) 32)) := (Ext.refl _).alloc _
              have CBX := hid (show (U0.alloc (.cells (Rcd.none_.V none 0) 32)).heap[U0.heap.size]? = some (.cells (Rcd.none_.V none 0) 32 (0, 0)) from heap_alloc_new _ _)
              rw [wpT]
              simp only [opsAt, List.map_cons, List.map_nil, Array.getD_eq_getD_getElem?, List.getElem?_toArray, List.getElem?_cons_succ, List.getElem?_cons_zero, Option.getD_some]
              refine wpSQ_nil ?_
              intro U1 hU1
              have XU := hid (Ext.trans xw hU1)
              have EX1 := hid (Ext.trans EX0.out XU.out)
              have SZ1 := hid XU.out.size
              have SPX := hid (show U0.heap.size < U1.heap.size from Nat.lt_of_lt_of_le (by simp) hU1.size)
              replace CBX := hid (hU1.at CBX.out)
              clear hU1 xw XU
              refine wpT_loud fun K hK => ?_
              go_wp2_with fail
              refine (kblocks_c kk (by omega) vi U1).mono ?_
              rintro e W1 ⟨v, rfl, hown, xw⟩
              obtain ⟨a, cp, rfl, hbk, hab⟩ := kblocks_at (fun b hb => by obtain ⟨n, rfl⟩ := blocksOf_mem hb; exact blockOf_len n) hown
              have HBX : Hid (Tryd.prog.built 32 [(0, .int .i64 (2 + (i : Int))), (1, .int .i64 st), (2, .slice a (blocksOf kk vi).length cp)] = some (X.V a cp)) := hid (by
                have := built_recOfC c (2 + (i : Int)) st vi a cp
                rw [HKT.out] at this
                rw [this, HXE.out])
              have BKX := hid (show BlksAt W1 a X.blocks by rw [HXB.out]; exact hbk)
              have LOX := hid hab
              clear hown hbk hab
              generalize (blocksOf kk vi).length = n1 at *
              go_wp2
              refine hK _ _ (Ext.only xw) ?_
              clear hK K
              rw [wpT]
              simp only [opsAt, List.map_cons, List.map_nil, Array.getD_eq_getD_getElem?, List.getElem?_toArray, List.getElem?_cons_succ, List.getElem?_cons_zero, Option.getD_some]
              refine wpSQ_build rfl 32 _ rfl (X.V a cp) ?_ ?_
              · simp only [List.map_toArray, List.map_cons, List.map_nil, Act.eval]
                simp only [Array.getD_eq_getD_getElem?, List.getElem?_toArray, List.getElem?_cons_succ, List.getElem?_cons_zero, Option.getD_some]
                rw [HWK.out]
                exact HBX.out
              refine wpSQ_nil ?_
              intro U2 hU2
              have XU := hid (Ext.trans xw hU2)
              have EX2 := hid (Ext.trans EX1.out XU.out)
              have SZ2 := hid XU.out.size
              replace BKX := hid (BKX.out.ext hU2)
              have HIX := hid (fun g (hg : a = some ⟨g, 0, none⟩) => (show g < U2.heap.size from BKX.out.lt HXN.out g hg))
              replace CBX := hid (XU.out.at CBX.out)
              clear hU2 xw XU
              refine wpT_loud fun K hK => ?_
              go_wp2_with (guard_target = wpList _ _ _ ({ dst := none, op := Op.store _ _ _, type := _, pos := _, after := _, guard := none } :: _) _ _; refine wpList_store_whole rfl 32 _ _ rfl U0.heap.size rfl (X.V a cp) _ rfl 32 (agg_rec _ _ _) CBX.out rfl (V_one _ _ _) ?_)
              have HOU := hid ((only_setRow U2 U0.heap.size (X.V a cp)).mono (fun i _ h => by subst h; exact (EX0.out.size : wr.heap.size ≤ U0.heap.size)) : Only (fun b => wr.heap.size ≤ b) U2 (U2.setRow U0.heap.size (X.V a cp)))
              refine hK _ _ HOU.out ?_
              have HSX := hid (setRow_heap U2 U0.heap.size _ (X.V a cp) _ _ CBX.out)
              clear hK K HOU
              rw [wpT]
              simp only [opsAt, List.map_cons, List.map_nil, Array.getD_eq_getD_getElem?, List.getElem?_toArray, List.getElem?_cons_succ, List.getElem?_cons_zero, Option.getD_some]
              refine wpSQ_nil ?_
              intro U3 hU3
              have OU := hid (Only.ext (only_setRow U2 U0.heap.size (X.V a cp)) hU3)
              have EX3 := hid (show Ext wr U3 from Ext.then EX2.out OU.out (fun q hq e => by have := EX0.out.size; omega))
              have CFX := hid (hU3.at HSX.out)
              replace BKX := hid (BKX.out.only OU.out (fun g hg e => by have s0 := SZ0.out; have s1 := SZ1.out; have s2 := SZ2.out; have pX := SPX.out; have h1 := LOX.out g hg; have h2 := HIX.out g hg; omega))
              clear hU3 OU HSX CBX
              go_wp2
              go_meet
              case rel =>
                exact ⟨U0.heap.size, a, cp, rfl, EX3.out, CFX.out, EX0.out.size, BKX.out, fun g hg => Nat.le_trans EX1.out.size (LOX.out g hg)⟩
          case rest =>
            obtain ⟨px, a, cp, rfl, xcut, rx⟩ := hcut
            obtain ⟨S4, hS4⟩ : ∃ S', wideS S wr wc = S' := ⟨_, rfl⟩
            have J4 := HRE.out.je.lay xcut [⟨px, X, a, cp⟩] (fun p hp => by
              rcases List.mem_cons.1 hp with rfl | hp
              · exact rx
              · cases hp)
            rw [hS4, List.append_nil] at J4
            have HJ4 := hid J4
            have HRX := hid rx
            have HXC := hid xcut
            have HS4 := hid hS4
            have HA4 := hid (show ∀ g, a = some ⟨g, 0, none⟩ → S4 g from (J4.recs ⟨px, X, a, cp⟩ (by simp)).own HXN.out)
            clear J4 hS4 xcut rx ck ci HWA
            go_wp2_with (first
              | (guard_target = wpList _ _ _ ({ dst := some _, op := Op.load _ _, type := _, pos := _, after := _, guard := none } :: _) _ _; refine wpList_load_agg rfl 23 _ rfl ⟨g, 0, none⟩ rfl (Cfg.A c) (cfg_agg c) (agg_cells HJ4.out.cfg) ?_)
              | (guard_target = wpList _ _ _ ({ dst := some _, op := Op.load _ _, type := _, pos := _, after := _, guard := none } :: _) _ _; refine wpList_load_agg rfl 32 _ rfl ⟨px, 0, none⟩ rfl (X.V a cp) (agg_rec _ _ _) (agg_cells (HJ4.out.recs ⟨px, X, a, cp⟩ (by simp)).blk) ?_))
            refine (jlog_c HJ4.out.rack c X HXO.out a cp (HJ4.out.recs ⟨px, X, a, cp⟩ (by simp)).bks HA4.out).mono ?_
            rintro e w5 ⟨rfl, h5, k5⟩
            rw [HLOG.out] at h5 ⊢
            simp only [oErr]
            have HJ5 := hid (HJ4.out.keep h5 k5)
            have HH5 := hid h5
            have HK5 := hid k5
            have xd5 : Ext w5 w5.drew := (Ext.refl w5).drew
            have cx : ∀ y : SW (Only fun b => b = mb) w5.drew, y.w.cell? ⟨px, 0, none⟩ = some (.int .i64 (2 + (i : Int))) := fun y => (cell_at (y.ext.at (xd5.at (HJ5.out.recs ⟨px, X, a, cp⟩ (by simp)).blk) (fun q => by
              have h1 := HRE.out.map.lt
              have h2 : wr.heap.size ≤ px := HRX.out.at_
              have h3 : px = mb := q
              omega))).trans (by rw [← HXS.out]; rfl)
            have lx : Hid (∀ y : SW (Only fun b => b = mb) w5.drew, ∀ j v, (X.V a cp).toList[j]? = some v → y.w.cell? ((⟨px, 0, none⟩ : Addr).add j) = some v) := hid fun y => agg_cells (y.ext.at (xd5.at (HJ5.out.recs ⟨px, X, a, cp⟩ (by simp)).blk) (fun q => by
              have h1 := HRE.out.map.lt
              have h2 : wr.heap.size ≤ px := HRX.out.at_
              have h3 : px = mb := q
              omega))
            have c4 : ∀ y : SW (Only fun b => b = mb) w5.drew, y.w.cell? ⟨g, 4, none⟩ = some (.int .i64 sn) := fun y => (cell_at (y.ext.at (xd5.at HJ5.out.cfg) HRE.out.ne)).trans (by rw [Cfg.A4, HSL.out])
            clear h5 k5 HJ4 xd5
            go_wp2_with fail
            refine wp_region_calm_all (E := Ext) (S := Only fun b => b = mb) (.one [0, 1, 2, 3, 4, 5, 6] 7 (.fin [])) (by kernel_rfl) (by kernel_rfl) (fun _ _ d _ _ h => by cases d <;> exact h) ?_
            rw [wpS]
            simp only [opsAt, List.map_cons, List.map_nil, Array.getD_eq_getD_getElem?, List.getElem?_toArray, List.getElem?_cons_succ, List.getElem?_cons_zero, Option.getD_some]
            iterate 6 ((refine wpSQ_step (fun K hK => ?_); go_simp; first | (refine hK _ ?_; clear hK K) | (apply Exists.intro; refine ⟨fun x => ?_, hK _ ?_⟩; (fail); clear hK K)))
            refine wpSQ_load_agg 32 _ rfl ⟨px, 0, none⟩ rfl (X.V a cp) rfl (agg_rec _ _ _) lx.out ?_
            refine wpSQ_nil ?_
            intro V6 hV6
            have x56 : Ext w5 V6 := Ext.trans (Ext.refl w5).drew hV6
            have mp6 : MapI V6 mb mf := RingE.mapAt HRE.out HXC.out (HS4.out ▸ HK5.out) x56
            obtain ⟨W7, hrun, hm7, ho7⟩ := mp6.run_set (P := Tryd.prog) (k := 3) (e := 32) Tryd.underlying49 Tryd.underlying3 (t : Int) (.agg (X.V a cp))
            have HN := hid (HRE.out.next HXC.out HRX.out (HS4.out ▸ HK5.out) (HS4.out ▸ HH5.out) HRN.out x56 hm7 ho7 HXL.out HXO.out (by have := HGD.out.k0; omega))
            have HO7 := hid ho7
            clear cx lx c4 hV6 x56 mp6 hm7 ho7
            refine wpS_loud fun Q1 hQ1 => ?_
            go_wp2
            refine hQ1 _ _ HO7.out ?_
            clear hQ1 Q1 hrun
            rw [wpS]
            simp only [opsAt, List.map_nil]
            refine wpSQ_nil ?_
            intro W8 hW8
            have HN8 := hid (HN.out.more hW8)
            clear hW8 HN
            go_wp2
            go_roundw
            case rel => exact ⟨i + 1, by go_num, by omega, _, _, _, _, HN8.out⟩
            case measure => simp [intOf]; omega
        · by_cases hlen : i < len
          · have i1 : (i : Int) < (len : Int) := by omega
            have i2 : ¬ (i : Int) < 12 := by omega
            go_wp2
            go_loopw [16] (fun t wq => ∃ s : Nat, t = .int .i64 s ∧ s ≤ sn ∧ RingE w wq r g mb c m sn S R f mf) (fun t _ => sn - (intOf t).toNat)
            case atStart => exact ⟨0, rfl, by omega, HRE.out⟩
            case round =>
              clear HRE
              obtain ⟨s, rfl, hs, hre⟩ := hrel
              have HRE := hid hre
              have HJE := hid hre.je
              have c4 : wr.cell? ⟨g, 4, none⟩ = some (.int .i64 sn) := (cell_at hre.je.cfg).trans (by rw [Cfg.A4, HSL.out])
              clear hre
              by_cases hlt : s < sn
              · rcases HRE.out.ring s hlt with ⟨hf, hmf⟩ | ⟨X, a, cp, hf, hmf, hl, ok, hb, ha⟩
                · obtain ⟨Z, hZ⟩ : ∃ Z : Rcd, ⟨0, 0, List.replicate c.k.toNat (List.replicate 108 0)⟩ = Z := ⟨_, rfl⟩
                  have HSLOT := hid (show R.jslot c (s : Int) = (Z, true, 0, none) from hZ ▸ HRE.out.rj.slot_none (s := s) (by rw [HSN.out]; exact hlt) hf)
                  have HZ := hid (show Z.seq = 0 ∧ Z.stripe = 0 from by rw [← hZ]; exact ⟨rfl, rfl⟩)
                  have HMF := hid hmf
                  clear hf hmf hZ
                  go_wp2_with (guard_target = wpList _ _ _ ({ dst := some _, op := Op.load _ _, type := _, pos := _, after := _, guard := none } :: _) _ _; refine wpList_load_agg rfl 23 _ rfl ⟨g, 0, none⟩ rfl (Cfg.A c) (cfg_agg c) (agg_cells HJE.out.cfg) ?_)
                  refine (jslot_c HJE.out.rack c s).mono ?_
                  rintro e w17 ⟨a17, c17, rfl, x17, b17, l17⟩
                  rw [HSLOT.out] at b17 ⊢
                  simp only [oErr]
                  have J17 := HJE.out.put x17 Z a17 c17 b17 l17
                  have X17 := hid (x17.alloc (.cells ((Z).V a17 c17) 32))
                  obtain ⟨W17, hW17⟩ : ∃ W, w17.alloc (.cells ((Z).V a17 c17) 32) = W := ⟨_, rfl⟩
                  rw [hW17] at J17 X17
                  have HJ17 := hid J17
                  have HW17 := hid hW17
                  have hbs : (w17.alloc (.cells (Rcd.none_.V none 0) 32)).heap[w17.heap.size]? = some (.cells (Rcd.none_.V none 0) 32 (0, 0)) := block_alloc
                  have hrunL := (HRE.out.more X17.out).map.run_look (P := Tryd.prog) (k := 3) (e := 32) Tryd.underlying49 Tryd.underlying3 (hzr W17) (s : Int) true
                  rw [HMF.out] at hrunL
                  simp only [Option.getD_none, Option.isSome_none, if_true] at hrunL
                  obtain ⟨W18, hW18⟩ : ∃ W, W17.alloc (.cells (Rcd.none_.V none 0) 32) = W := ⟨_, rfl⟩
                  have HW18 := hid hW18
                  have X18 := hid (show Ext W17 W18 from hW18 ▸ (Ext.refl W17).alloc _)
                  have hbs2 : (W17.alloc (.cells (Rcd.none_.V none 0) 32)).heap[W17.heap.size]? = some (.cells (Rcd.none_.V none 0) 32 (0, 0)) := block_alloc
                  have B21 := hid (show W18.heap[W17.heap.size]? = some (.cells (Rcd.none_.V none 0) 32 (0, 0)) from hW18 ▸ block_alloc)
                  have B17 := hid (X18.out.at (HJ17.out.recs ⟨w17.heap.size, Z, a17, c17⟩ (by simp)).blk)
                  have k21 : W18.cell? ⟨W17.heap.size, 0, none⟩ = some (.int .i64 0) := (cell_at B21.out).trans rfl
                  have k17 : W18.cell? ⟨w17.heap.size, 0, none⟩ = some (.int .i64 0) := (cell_at B17.out).trans (by rw [← HZ.out.1]; rfl)
                  have k17b : W18.cell? ⟨w17.heap.size, 1, none⟩ = some (.int .i64 0) := (cell_at B17.out).trans (by rw [← HZ.out.2]; rfl)
                  clear x17 b17 l17 J17 hW17 hW18 c4
                  go_wp2_with (first
                    | (guard_target = wpList _ _ _ ({ dst := none, op := Op.store _ _ _, type := _, pos := _, after := _, guard := none } :: _) _ _; have hb0 := hbs; clear hbs; refine wpList_store_whole rfl 32 _ _ rfl w17.heap.size rfl ((Z).V a17 c17) _ rfl 32 (agg_rec _ _ _) hb0 rfl (V_one _ _ _) ?_; rw [setRow_alloc, HW17.out])
                    | (guard_target = wpList _ _ _ ({ dst := none, op := Op.store _ _ _, type := _, pos := _, after := _, guard := none } :: _) _ _; have hb0 := hbs2; clear hbs2; refine wpList_store_whole rfl 32 _ _ rfl W17.heap.size rfl (Rcd.none_.V none 0) _ rfl 32 (agg_rec _ _ _) hb0 rfl (V_one _ _ _) ?_; rw [setRow_alloc, HW18.out]))
                  have HR9 := hid (HRE.out.more (Ext.trans X17.out X18.out))
                  go_roundw
                  case rel => exact ⟨s + 1, by go_num, by omega, HR9.out⟩
                  case measure => simp [intOf]; omega
                · have HSLOT := hid (show R.jslot c (s : Int) = (X, true, X.seq, none) from HRE.out.rj.slot (s := s) (by rw [HSN.out]; exact hlt) hf hl)
                  have HMF := hid hmf
                  have HOK := hid ok
                  have HLN := hid hl
                  have HBX := hid hb
                  clear hf hmf hl ok hb ha
                  go_wp2_with (guard_target = wpList _ _ _ ({ dst := some _, op := Op.load _ _, type := _, pos := _, after := _, guard := none } :: _) _ _; refine wpList_load_agg rfl 23 _ rfl ⟨g, 0, none⟩ rfl (Cfg.A c) (cfg_agg c) (agg_cells HJE.out.cfg) ?_)
                  refine (jslot_c HJE.out.rack c s).mono ?_
                  rintro e w17 ⟨a17, c17, rfl, x17, b17, l17⟩
                  rw [HSLOT.out] at b17 ⊢
                  simp only [oErr]
                  have J17 := HJE.out.put x17 X a17 c17 b17 l17
                  have X17 := hid (x17.alloc (.cells ((X).V a17 c17) 32))
                  obtain ⟨W17, hW17⟩ : ∃ W, w17.alloc (.cells ((X).V a17 c17) 32) = W := ⟨_, rfl⟩
                  rw [hW17] at J17 X17
                  have HJ17 := hid J17
                  have HW17 := hid hW17
                  have hbs : (w17.alloc (.cells (Rcd.none_.V none 0) 32)).heap[w17.heap.size]? = some (.cells (Rcd.none_.V none 0) 32 (0, 0)) := block_alloc
                  have hrunL := (HRE.out.more X17.out).map.run_look (P := Tryd.prog) (k := 3) (e := 32) Tryd.underlying49 Tryd.underlying3 (hzr W17) (s : Int) true
                  rw [HMF.out] at hrunL
                  simp only [Option.getD_some, Option.isSome_some, if_true] at hrunL
                  obtain ⟨W18, hW18⟩ : ∃ W, W17.alloc (.cells (X.V a cp) 32) = W := ⟨_, rfl⟩
                  have HW18 := hid hW18
                  have X18 := hid (show Ext W17 W18 from hW18 ▸ (Ext.refl W17).alloc _)
                  have hbs2 : (W17.alloc (.cells (Rcd.none_.V none 0) 32)).heap[W17.heap.size]? = some (.cells (Rcd.none_.V none 0) 32 (0, 0)) := block_alloc
                  have B21 := hid (show W18.heap[W17.heap.size]? = some (.cells (X.V a cp) 32 (0, 0)) from hW18 ▸ block_alloc)
                  have B17 := hid (X18.out.at (HJ17.out.recs ⟨w17.heap.size, X, a17, c17⟩ (by simp)).blk)
                  have k21 : W18.cell? ⟨W17.heap.size, 0, none⟩ = some (.int .i64 X.seq) := (cell_at B21.out).trans rfl
                  clear x17 b17 l17 J17 hW17 hW18 c4
                  go_wp2_with (first
                    | (guard_target = wpList _ _ _ ({ dst := none, op := Op.store _ _ _, type := _, pos := _, after := _, guard := none } :: _) _ _; have hb0 := hbs; clear hbs; refine wpList_store_whole rfl 32 _ _ rfl w17.heap.size rfl ((X).V a17 c17) _ rfl 32 (agg_rec _ _ _) hb0 rfl (V_one _ _ _) ?_; rw [setRow_alloc, HW17.out])
                    | (guard_target = wpList _ _ _ ({ dst := none, op := Op.store _ _ _, type := _, pos := _, after := _, guard := none } :: _) _ _; have hb0 := hbs2; clear hbs2; refine wpList_store_whole rfl 32 _ _ rfl W17.heap.size rfl (X.V a cp) _ rfl 32 (agg_rec _ _ _) hb0 rfl (V_one _ _ _) ?_; rw [setRow_alloc, HW18.out])
                    | (guard_target = wpList _ _ _ ({ dst := some _, op := Op.load _ _, type := _, pos := _, after := _, guard := some _ } :: _) _ _; refine wpListG_load_agg 32 _ rfl ⟨w17.heap.size, 0, none⟩ rfl ((X).V a17 c17) rfl (agg_rec _ _ _) (agg_cells B17.out) ?_)
                    | (guard_target = wpList _ _ _ ({ dst := some _, op := Op.load _ _, type := _, pos := _, after := _, guard := some _ } :: _) _ _; refine wpListG_load_agg 32 _ rfl ⟨W17.heap.size, 0, none⟩ rfl (X.V a cp) rfl (agg_rec _ _ _) (agg_cells B21.out) ?_))
                  refine (record_c X HOK.out (by have := HLN.out; have := HK.out; omega) a17 a c17 cp W18 ((HJ17.out.recs ⟨w17.heap.size, X, a17, c17⟩ (by simp)).bks.ext X18.out) ((HBX.out.ext X17.out).ext X18.out)).mono ?_
                  rintro e w19 ⟨rfl, x19⟩
                  have HR9 := hid (HRE.out.more (Ext.trans X17.out (Ext.trans X18.out x19)))
                  clear x19
                  go_wp2
                  go_roundw
                  case rel => exact ⟨s + 1, by go_num, by omega, HR9.out⟩
                  case measure => simp [intOf]; omega
              · obtain rfl : sn = s := by omega
                go_wp2_with (go_at_call 3; fail)
                refine (journalRuns_c wr (HG.out.only HJE.out.ext (fun x => x))).mono ?_
                rintro e w20 ⟨rfl, x20⟩
                have HX20 := hid (Ext.trans HJE.out.ext x20)
                clear x20
                go_wp2
                go_ret
                exact ⟨rfl, HX20.out⟩
          · have i1 : ¬ (i : Int) < (len : Int) := by omega
            go_wp2
            go_loopw [16] (fun t wq => ∃ s : Nat, t = .int .i64 s ∧ s ≤ sn ∧ RingE w wq r g mb c m sn S R f mf) (fun t _ => sn - (intOf t).toNat)
            case atStart => exact ⟨0, rfl, by omega, HRE.out⟩
            case round =>
              clear HRE
              obtain ⟨s, rfl, hs, hre⟩ := hrel
              have HRE := hid hre
              have HJE := hid hre.je
              have c4 : wr.cell? ⟨g, 4, none⟩ = some (.int .i64 sn) := (cell_at hre.je.cfg).trans (by rw [Cfg.A4, HSL.out])
              clear hre
              by_cases hlt : s < sn
              · rcases HRE.out.ring s hlt with ⟨hf, hmf⟩ | ⟨X, a, cp, hf, hmf, hl, ok, hb, ha⟩
                · obtain ⟨Z, hZ⟩ : ∃ Z : Rcd, ⟨0, 0, List.replicate c.k.toNat (List.replicate 108 0)⟩ = Z := ⟨_, rfl⟩
                  have HSLOT := hid (show R.jslot c (s : Int) = (Z, true, 0, none) from hZ ▸ HRE.out.rj.slot_none (s := s) (by rw [HSN.out]; exact hlt) hf)
                  have HZ := hid (show Z.seq = 0 ∧ Z.stripe = 0 from by rw [← hZ]; exact ⟨rfl, rfl⟩)
                  have HMF := hid hmf
                  clear hf hmf hZ
                  go_wp2_with (guard_target = wpList _ _ _ ({ dst := some _, op := Op.load _ _, type := _, pos := _, after := _, guard := none } :: _) _ _; refine wpList_load_agg rfl 23 _ rfl ⟨g, 0, none⟩ rfl (Cfg.A c) (cfg_agg c) (agg_cells HJE.out.cfg) ?_)
                  refine (jslot_c HJE.out.rack c s).mono ?_
                  rintro e w17 ⟨a17, c17, rfl, x17, b17, l17⟩
                  rw [HSLOT.out] at b17 ⊢
                  simp only [oErr]
                  have J17 := HJE.out.put x17 Z a17 c17 b17 l17
                  have X17 := hid (x17.alloc (.cells ((Z).V a17 c17) 32))
                  obtain ⟨W17, hW17⟩ : ∃ W, w17.alloc (.cells ((Z).V a17 c17) 32) = W := ⟨_, rfl⟩
                  rw [hW17] at J17 X17
                  have HJ17 := hid J17
                  have HW17 := hid hW17
                  have hbs : (w17.alloc (.cells (Rcd.none_.V none 0) 32)).heap[w17.heap.size]? = some (.cells (Rcd.none_.V none 0) 32 (0, 0)) := block_alloc
                  have hrunL := (HRE.out.more X17.out).map.run_look (P := Tryd.prog) (k := 3) (e := 32) Tryd.underlying49 Tryd.underlying3 (hzr W17) (s : Int) true
                  rw [HMF.out] at hrunL
                  simp only [Option.getD_none, Option.isSome_none, if_true] at hrunL
                  obtain ⟨W18, hW18⟩ : ∃ W, W17.alloc (.cells (Rcd.none_.V none 0) 32) = W := ⟨_, rfl⟩
                  have HW18 := hid hW18
                  have X18 := hid (show Ext W17 W18 from hW18 ▸ (Ext.refl W17).alloc _)
                  have hbs2 : (W17.alloc (.cells (Rcd.none_.V none 0) 32)).heap[W17.heap.size]? = some (.cells (Rcd.none_.V none 0) 32 (0, 0)) := block_alloc
                  have B21 := hid (show W18.heap[W17.heap.size]? = some (.cells (Rcd.none_.V none 0) 32 (0, 0)) from hW18 ▸ block_alloc)
                  have B17 := hid (X18.out.at (HJ17.out.recs ⟨w17.heap.size, Z, a17, c17⟩ (by simp)).blk)
                  have k21 : W18.cell? ⟨W17.heap.size, 0, none⟩ = some (.int .i64 0) := (cell_at B21.out).trans rfl
                  have k17 : W18.cell? ⟨w17.heap.size, 0, none⟩ = some (.int .i64 0) := (cell_at B17.out).trans (by rw [← HZ.out.1]; rfl)
                  have k17b : W18.cell? ⟨w17.heap.size, 1, none⟩ = some (.int .i64 0) := (cell_at B17.out).trans (by rw [← HZ.out.2]; rfl)
                  clear x17 b17 l17 J17 hW17 hW18 c4
                  go_wp2_with (first
                    | (guard_target = wpList _ _ _ ({ dst := none, op := Op.store _ _ _, type := _, pos := _, after := _, guard := none } :: _) _ _; have hb0 := hbs; clear hbs; refine wpList_store_whole rfl 32 _ _ rfl w17.heap.size rfl ((Z).V a17 c17) _ rfl 32 (agg_rec _ _ _) hb0 rfl (V_one _ _ _) ?_; rw [setRow_alloc, HW17.out])
                    | (guard_target = wpList _ _ _ ({ dst := none, op := Op.store _ _ _, type := _, pos := _, after := _, guard := none } :: _) _ _; have hb0 := hbs2; clear hbs2; refine wpList_store_whole rfl 32 _ _ rfl W17.heap.size rfl (Rcd.none_.V none 0) _ rfl 32 (agg_rec _ _ _) hb0 rfl (V_one _ _ _) ?_; rw [setRow_alloc, HW18.out]))
                  have HR9 := hid (HRE.out.more (Ext.trans X17.out X18.out))
                  go_roundw
                  case rel => exact ⟨s + 1, by go_num, by omega, HR9.out⟩
                  case measure => simp [intOf]; omega
                · have HSLOT := hid (show R.jslot c (s : Int) = (X, true, X.seq, none) from HRE.out.rj.slot (s := s) (by rw [HSN.out]; exact hlt) hf hl)
                  have HMF := hid hmf
                  have HOK := hid ok
                  have HLN := hid hl
                  have HBX := hid hb
                  clear hf hmf hl ok hb ha
                  go_wp2_with (guard_target = wpList _ _ _ ({ dst := some _, op := Op.load _ _, type := _, pos := _, after := _, guard := none } :: _) _ _; refine wpList_load_agg rfl 23 _ rfl ⟨g, 0, none⟩ rfl (Cfg.A c) (cfg_agg c) (agg_cells HJE.out.cfg) ?_)
                  refine (jslot_c HJE.out.rack c s).mono ?_
                  rintro e w17 ⟨a17, c17, rfl, x17, b17, l17⟩
                  rw [HSLOT.out] at b17 ⊢
                  simp only [oErr]
                  have J17 := HJE.out.put x17 X a17 c17 b17 l17
                  have X17 := hid (x17.alloc (.cells ((X).V a17 c17) 32))
                  obtain ⟨W17, hW17⟩ : ∃ W, w17.alloc (.cells ((X).V a17 c17) 32) = W := ⟨_, rfl⟩
                  rw [hW17] at J17 X17
                  have HJ17 := hid J17
                  have HW17 := hid hW17
                  have hbs : (w17.alloc (.cells (Rcd.none_.V none 0) 32)).heap[w17.heap.size]? = some (.cells (Rcd.none_.V none 0) 32 (0, 0)) := block_alloc
                  have hrunL := (HRE.out.more X17.out).map.run_look (P := Tryd.prog) (k := 3) (e := 32) Tryd.underlying49 Tryd.underlying3 (hzr W17) (s : Int) true
                  rw [HMF.out] at hrunL
                  simp only [Option.getD_some, Option.isSome_some, if_true] at hrunL
                  obtain ⟨W18, hW18⟩ : ∃ W, W17.alloc (.cells (X.V a cp) 32) = W := ⟨_, rfl⟩
                  have HW18 := hid hW18
                  have X18 := hid (show Ext W17 W18 from hW18 ▸ (Ext.refl W17).alloc _)
                  have hbs2 : (W17.alloc (.cells (Rcd.none_.V none 0) 32)).heap[W17.heap.size]? = some (.cells (Rcd.none_.V none 0) 32 (0, 0)) := block_alloc
                  have B21 := hid (show W18.heap[W17.heap.size]? = some (.cells (X.V a cp) 32 (0, 0)) from hW18 ▸ block_alloc)
                  have B17 := hid (X18.out.at (HJ17.out.recs ⟨w17.heap.size, X, a17, c17⟩ (by simp)).blk)
                  have k21 : W18.cell? ⟨W17.heap.size, 0, none⟩ = some (.int .i64 X.seq) := (cell_at B21.out).trans rfl
                  clear x17 b17 l17 J17 hW17 hW18 c4
                  go_wp2_with (first
                    | (guard_target = wpList _ _ _ ({ dst := none, op := Op.store _ _ _, type := _, pos := _, after := _, guard := none } :: _) _ _; have hb0 := hbs; clear hbs; refine wpList_store_whole rfl 32 _ _ rfl w17.heap.size rfl ((X).V a17 c17) _ rfl 32 (agg_rec _ _ _) hb0 rfl (V_one _ _ _) ?_; rw [setRow_alloc, HW17.out])
                    | (guard_target = wpList _ _ _ ({ dst := none, op := Op.store _ _ _, type := _, pos := _, after := _, guard := none } :: _) _ _; have hb0 := hbs2; clear hbs2; refine wpList_store_whole rfl 32 _ _ rfl W17.heap.size rfl (X.V a cp) _ rfl 32 (agg_rec _ _ _) hb0 rfl (V_one _ _ _) ?_; rw [setRow_alloc, HW18.out])
                    | (guard_target = wpList _ _ _ ({ dst := some _, op := Op.load _ _, type := _, pos := _, after := _, guard := some _ } :: _) _ _; refine wpListG_load_agg 32 _ rfl ⟨w17.heap.size, 0, none⟩ rfl ((X).V a17 c17) rfl (agg_rec _ _ _) (agg_cells B17.out) ?_)
                    | (guard_target = wpList _ _ _ ({ dst := some _, op := Op.load _ _, type := _, pos := _, after := _, guard := some _ } :: _) _ _; refine wpListG_load_agg 32 _ rfl ⟨W17.heap.size, 0, none⟩ rfl (X.V a cp) rfl (agg_rec _ _ _) (agg_cells B21.out) ?_))
                  refine (record_c X HOK.out (by have := HLN.out; have := HK.out; omega) a17 a c17 cp W18 ((HJ17.out.recs ⟨w17.heap.size, X, a17, c17⟩ (by simp)).bks.ext X18.out) ((HBX.out.ext X17.out).ext X18.out)).mono ?_
                  rintro e w19 ⟨rfl, x19⟩
                  have HR9 := hid (HRE.out.more (Ext.trans X17.out (Ext.trans X18.out x19)))
                  clear x19
                  go_wp2
                  go_roundw
                  case rel => exact ⟨s + 1, by go_num, by omega, HR9.out⟩
                  case measure => simp [intOf]; omega
              · obtain rfl : sn = s := by omega
                go_wp2_with (go_at_call 3; fail)
                refine (journalRuns_c wr (HG.out.only HJE.out.ext (fun x => x))).mono ?_
                rintro e w20 ⟨rfl, x20⟩
                have HX20 := hid (Ext.trans HJE.out.ext x20)
                clear x20
                go_wp2
                go_ret
                exact ⟨rfl, HX20.out⟩
end Go.Proofs.YtmjembnciffgfaaDoor

/- The statement JournalRing, as its tied card: for every input the call of stavelaw10's JournalRing answers true, and its arguments read behind it as they read before. No condition of our own. -/
namespace Go.Proofs.YtmjembnciffgfaaDoor.journalRing
open Go.ChangeShapes Go.WideShapes Go.ChangeAt Go.RowKit
open Go.ChangeMaps (open_string shut_string)
set_option linter.unusedVariables false
theorem laidOut : laidOutB Tryd.prog = true := by kernel_rfl
theorem walk (a0 : Int) (a1 : Int) (a2 : Int) (a3 : Option Addr) (len3 cap3 : Nat) (z3 : List Int) (w : World) (hg : EtLaid w) (w0 : (Lit.int .i64 a0).wf = true) (w1 : (Lit.int .i64 a1).wf = true) (w2 : (Lit.int .i64 a2).wf = true) (w3 : IsRow .i64 w a3 len3 cap3 z3) :
    Calls Tryd.prog 4 #[.int .i64 a0, .int .i64 a1, .int .i64 a2, .slice a3 len3 cap3] w fun e w' => e = .returned (.bool true) ∧ Below w.heap.size w w' :=
  (journalRing_c a0 a1 a2 a3 len3 cap3 z3 w hg w3).mono fun _ _ ⟨he, hx⟩ => ⟨he, hx.below⟩
set_option maxRecDepth 100000 in
theorem lifted (os : Os) (started : os.Started) (H : Type) (enc : TypeId × Value → H) :
    ReturnsInHanded {} Tryd.checked os 4 .any (fun w args => (Rows.journalRingSpec.pre enc Tryd.prog Tryd.f4 [] false w args ∧ laidMetH Tryd.prog theLaid w) ∧ sizedMet enc Tryd.prog Tryd.f4 (OpenSpec.ofChange Rows.journalRingSpec) false w args)
      (Rows.journalRingSpec.post enc Tryd.prog Tryd.f4 false true false false) := by
  refine returnsInHanded_of_change_and (C := Tryd.checked) (X := fun w _ => laidMetH Tryd.prog theLaid w) (fun _ _ _ hh h => h.of_heap hh) hOwn started (by kernel_rfl) Tryd.func4
    (ChangeSpec.witness_at (enc := enc) (C := Tryd.checked) (os := os) (X := fun w _ => laidMetH Tryd.prog theLaid w) false (laidWorld os) #[.int .i64 0, .int .i64 0, .int .i64 0, .slice none 0 0] 8 rfl (by kernel_rfl) (by kernel_rfl) (by kernel_rfl) (by kernel_rfl) (by kernel_rfl) (laidWorld_met os _)) ?_
  intro W base args ds gs before hval0 hW _ _ hL _
  have hval : ∀ (j : Nat) t v, Tryd.f4.params[j]? = some t → args[j]? = some v → Value.okWide Tryd.prog W .any base t v := hval0
  have hW' := hW
  obtain ⟨p, q, hA0, hV, rfl, hfz, hnd⟩ := hW
  have hA : DataW.TrodAll enc Tryd.prog W 0 (fun _ => true) true Tryd.f4.params.toList args.toList ds p := hA0
  rw [Tryd.params4] at hA hval
  obtain ⟨v0, vs0, d0, ds0, p0, q0, hargs, rfl, rfl, h0, r0⟩ := trodAll_cons hA
  obtain ⟨v1, vs1, d1, ds1, p1, q1, rfl, rfl, rfl, h1, r1⟩ := trodAll_cons r0
  obtain ⟨v2, vs2, d2, ds2, p2, q2, rfl, rfl, rfl, h2, r2⟩ := trodAll_cons r1
  obtain ⟨v3, vs3, d3, ds3, p3, q3, rfl, rfl, rfl, h3, r3⟩ := trodAll_cons r2
  obtain ⟨rfl, rfl, rfl⟩ := trodAll_nil r3
  obtain rfl : args = #[v0, v1, v2, v3] := by cases args; simp_all
  obtain ⟨rfl, rfl⟩ := trodVars_none hV
  obtain ⟨a0, rfl, rfl, rfl, w0⟩ := open_int Tryd.underlying3 (hval 0 3 v0 rfl rfl) h0
  obtain ⟨a1, rfl, rfl, rfl, w1⟩ := open_int Tryd.underlying3 (hval 1 3 v1 rfl rfl) h1
  obtain ⟨a2, rfl, rfl, rfl, w2⟩ := open_int Tryd.underlying3 (hval 2 3 v2 rfl rfl) h2
  obtain ⟨a3, len3, cap3, rfl⟩ := okWide_slice Tryd.underlying45 (hval 3 45 v3 rfl rfl)
  have k3 := h3
  have lt3 : ∀ x ∈ p3, x.block < W.heap.size := by obtain ⟨m, hm⟩ := k3; exact DataW.trod_lt m _ _ _ hm
  obtain ⟨z3, w3⟩ : ∃ zs, IsRow .i64 W a3 len3 cap3 zs := by
    obtain ⟨fuel, hf⟩ := h3
    rcases open_ints Tryd.underlying45 Tryd.underlying3 (by kernel_rfl) hf with ⟨hcs, _⟩ | ⟨x, l, c, zs, hcs, _, hl, hm, hz, _, hcell, hwz⟩
    · simp [Value.cells] at hcs
      obtain ⟨rfl, rfl, rfl⟩ := hcs
      exact ⟨[], .inl ⟨rfl, rfl, rfl, rfl⟩⟩
    · simp [Value.cells] at hcs
      obtain ⟨rfl, rfl, rfl⟩ := hcs
      exact ⟨zs, .inr ⟨_, rfl, hl, hm, by simpa using hz, hcell, hwz⟩⟩
  have hg := etLaid_of hL
  clear hA0 hval0
  simp only [List.append_nil] at hW'
  refine (walk a0 a1 a2 a3 len3 cap3 z3 W hg w0 w1 w2 w3).mono fun e W' ⟨he, bel⟩ => ?_
  subst he
  exact ⟨_, rfl, _, _, _, [], _, [], hW', trodAll_mk1 (shut_bool Tryd.underlying4 _), (trodAll_cons_mk (shut_int Tryd.underlying3 w0) (trodAll_cons_mk (shut_int Tryd.underlying3 w1) (trodAll_cons_mk (shut_int Tryd.underlying3 w2) (trodAll_cons_mk (Below.trod laidOut (by kernel_rfl) (of_decide_eq_true (by kernel_rfl)) k3 bel lt3) trodAll_mk0)))), rfl, bel.frame _, fun h => by cases h⟩
theorem over : Rows.JournalRingSaid :=
  OpenClaim.holds_of_wide 4 Tryd.f4 rfl rfl rfl rfl rfl rfl rfl ⟨rfl, rfl, rfl, rfl, rfl⟩ rfl rfl rfl rfl rfl (by kernel_rfl) Tryd.func4 (by kernel_rfl)
    (of_decide_eq_true (by kernel_rfl)) (by unfold Func.isWrapper; first | (rw [if_pos (by decide +kernel)]; kernel_rfl) | (rw [if_neg (by decide +kernel)]; exact ⟨rfl, rfl⟩))
    (fun os started H enc _ => lifted os started H enc)
theorem proved : Rows.JournalRingCardSaid :=
  Claim7.holds_tied_plain_at .later [] [.handle] true (true, "24e5812b948f2c9b85d201dc8badf4eaee7fb8c9a31ded879c271ad3f1c97e3e") true
    over (fun _ h => by cases h) (by kernel_rfl) (fun _ h => by cases h) journalRing_row_tie rfl ⟨rfl, rfl⟩ (by kernel_rfl) rfl
    (fun f fn hf hfn => by
      obtain rfl : f = 4 := Option.some.inj ((show Tryd.prog.funcNamed "stave/stavelaw10.JournalRing" = some 4 by kernel_rfl).symm.trans hf) |>.symm
      obtain rfl : fn = Tryd.f4 := (Option.some.inj (Tryd.func4.symm.trans hfn)).symm
      exact ⟨by kernel_rfl, fun j t ht => by
        rw [Tryd.params4] at ht
        rcases j with _ | _ | _ | _ | j
        · simp at ht; subst ht; kernel_rfl
        · simp at ht; subst ht; kernel_rfl
        · simp at ht; subst ht; kernel_rfl
        · simp at ht; subst ht; kernel_rfl
        · simp at ht⟩)
    (by kernel_rfl)
#print axioms proved
end Go.Proofs.YtmjembnciffgfaaDoor.journalRing
