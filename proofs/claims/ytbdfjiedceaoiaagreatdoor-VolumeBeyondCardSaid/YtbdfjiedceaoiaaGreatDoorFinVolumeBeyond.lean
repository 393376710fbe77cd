/- The statement VolumeBeyond, as its tied card: for every input the call of stavelaw12's VolumeBeyond answers true, and its arguments read behind it as they read before. No condition of our own. -/
/- Texts of one proof, joined: WVolumeBeyond, LawVolumeBeyond. -/
import Derived.Test.YtbdfjiedceaoiaaGreatDoorQW
import Derived.Test.YtbdfjiedceaoiaaGreatDoorQX
import Derived.Test.YtbdfjiedceaoiaaGreatDoorQBA
import Derived.Test.YtbdfjiedceaoiaaGreatDoorQZ
import Derived.Test.YtbdfjiedceaoiaaGreatDoorQJ
import Derived.Test.YtbdfjiedceaoiaaGreatDoorQAC
import Derived.Deep.DeepCutAuto
import Derived.Deep.CutBlock
import Derived.Test.YtbdfjiedceaoiaaGreatDoorCards
import Derived.Test.YtbdfjiedceaoiaaGreatDoorTie
import Derived.Test.YtbdfjiedceaoiaaGreatDoorQC
import Derived.WalkKit
import Derived.ProofKit
import Derived.OpenShut
import Derived.ShutString
import Derived.ChangeOld
import Derived.Below
import Derived.SevenTiedAt
set_option linter.unusedVariables false
set_option linter.unusedSimpArgs false
namespace Go.Proofs.YtbdfjiedceaoiaaGreatDoor
set_option linter.unusedVariables false
open Go Go.RowKit
set_option maxRecDepth 100000 in
set_option maxHeartbeats 2500000 in
theorem volumeBeyond_c (k n stripes slots : Int) (la : Option Addr) (ll lcap : Nat) (lz : List Int) (many : Int) (oa : Option Addr) (olen ocap : Nat) (oz : List Int) (ha : Option Addr) (hlen hcap : Nat) (hz : List Int) (again : Bool) (w : World) (hg : EtLaid w) (hl0 : IsRow .i64 w la ll lcap lz) (ho : IsRow .i64 w oa olen ocap oz) (hh : IsRow .i64 w ha hlen hcap hz) :
  Calls Tryz.prog 4 #[.int .i64 k, .int .i64 n, .int .i64 stripes, .int .i64 slots, .slice la ll lcap, .int .i64 many, .slice oa olen ocap, .slice ha hlen hcap, .bool again] w fun e w' => e = .returned (.bool true) ∧ Ext w w' := by
 have HLO := hid hl0.ints
 have HLW := hid hl0.low
 have HO := hid ho.ints
 have HOL := hid ho.low
 have HH := hid hh.ints
 have HHL := hid hh.low
 clear hl0 ho hh
 have HG := hid hg
 have hzc := Zcj
 have HCS := hid Cfg.A_size
 clear hg
 go_enter Tryz.func4, Tryz.ntmps4
 go_wp2_with fail
 refine (kconfig_c k n stripes slots _).mono ?_
 rintro e w1 ⟨rfl, x1⟩
 have HGD := hid (show (keepCfg k n stripes slots).Good from keepCfg_good k n stripes slots)
 have HK4 := hid (show (keepCfg k n stripes slots).k ≤ 4 from (Zbe k 1 4 (by omega)).2)
 have HN6 := hid (show (keepCfg k n stripes slots).n ≤ 6 from (Zbe n (within k 1 4) 6 (by have := (Zbe k 1 4 (by omega)).2; omega)).2)
 have HS6 := hid (show (keepCfg k n stripes slots).stripes ≤ 6 from (Zbe stripes 1 6 (by omega)).2)
 generalize keepCfg k n stripes slots = c at *
 obtain ⟨ss, hss⟩ : ∃ ss : Nat, c.stripes = ss := ⟨c.stripes.toNat, by have := HGD.out.st0; omega⟩
 have HST := hid hss
 have HSTT := hid (show c.stripes.toNat = ss by omega)
 have ss1 : 1 ≤ ss := by have := HGD.out.st0; omega
 have ss6 : ss ≤ 6 := by have := HS6.out; omega
 clear hss
 obtain ⟨W1, hW1⟩ : ∃ W, w1.alloc (.cells (Cfg.A c) 24) = W := ⟨_, rfl⟩
 have X1 := hid (show Ext w W1 from hW1 ▸ x1.alloc _)
 have HC := hid (show W1.heap[w1.heap.size]? = some (.cells (Cfg.A c) 24 (0, 0)) from hW1 ▸ heap_alloc_new _ _)
 have hbs : (w1.alloc (.cells (Cfg.A Cfg.zero) 24)).heap[w1.heap.size]? = some (.cells (Cfg.A Cfg.zero) 24 (0, 0)) := Zad
 clear x1
 have HW1 := hid hW1
 clear hW1
 obtain ⟨m, hm, m1, m128⟩ := sectors_nat c HGD.out
 obtain ⟨nn, hn⟩ : ∃ nn : Nat, c.n = nn := ⟨c.n.toNat, by have := HGD.out.k0; have := HGD.out.k1; omega⟩
 obtain ⟨kk, hk⟩ : ∃ kk : Nat, c.k = kk := ⟨c.k.toNat, by have := HGD.out.k0; omega⟩
 have HNT := hid (show c.n.toNat = nn by omega)
 have HKT := hid (show c.k.toNat = kk by omega)
 have n1 : 1 ≤ nn := by have := HGD.out.k0; have := HGD.out.k1; omega
 have n8 : nn ≤ 6 := by have := HN6.out; omega
 have k1 : 1 ≤ kk := by have := HGD.out.k0; omega
 have k4 : kk ≤ 4 := by have := HK4.out; omega
 have HKN := hid (show kk ≤ nn by have := HGD.out.k1; omega)
 have HM := hid hm; have HN := hid hn; have HK := hid hk
 obtain ⟨R1, R2, e1, e2, h2, v2⟩ := VH.start HGD.out HK4.out HN6.out (m := m) (by rw [HM.out]; exact Int.le_refl _)
 rw [HNT.out] at e1
 have HV2 := hid h2; have HVV2 := hid v2
 have HE1 := hid e1; have HE2 := hid e2
 clear hm hn hk e1 e2 h2 v2
 go_wp2_with (first
  | (guard_target = wpList _ _ _ (⟨none, Op.store _ _ _, _, _, _, none⟩ :: _) _ _; have hb0 := hbs; clear hbs; refine Zaa rfl 24 _ _ rfl w1.heap.size rfl (Cfg.A c) _ rfl 24 ?_ hb0 ?_ ?_ ?_; (rw [HCS.out]; exact aggCfg); (rw [HCS.out, HCS.out]); exact Cfg.A_one _; rw [Zai, HW1.out])
  | (guard_target = wpList _ _ _ (⟨some _, Op.load _ _, _, _, _, none⟩ :: _) _ _; refine Zac rfl 24 _ rfl ⟨w1.heap.size, 0, none⟩ rfl (Cfg.A c) (Zat c) (Zah HC.out) ?_))
 have HLT := hid (lt_of_block HC.out)
 generalize w1.heap.size = gc at *
 refine (opened_c c HGD.out nn m HN.out HM.out m1 m128 HE1.out HE2.out W1).mono ?_
 rintro e w2 ⟨r, g, T, ho⟩
 obtain rfl := ho.ret
 have HX2 := hid (show VX w w2 T r R2 gc c g ⟨c, 1, false⟩ from ⟨⟨ho.ve.rack, Ext.trans X1.out ho.ve.ext, fun b hb => ho.ve.low b (Nat.lt_of_lt_of_le hb X1.out.size)⟩, ho.ve.ext.at HC.out, ho.ve.low gc HLT.out, ho.vol, ho.gT, Nat.le_trans X1.out.size ho.new, fun q => by have := ho.new; have := HLT.out; omega⟩)
 clear ho HE1 HE2 HC X1 HLT
 obtain ⟨CW, hcw, hcs, hcc⟩ := make_was ss (by omega)
 have HCW := hid (WasAt.new (w := w2) CW hcs hcc)
 have hmw := hcw w2
 have cs0 : w2.cell? ⟨gc, 3, none⟩ = some (.int .i64 ss) := (Zaf HX2.out.cfg).trans ((Cfg.A3 c).trans (by rw [HST.out]))
 have HSG := hid (show g < w2.heap.size from lt_of_block HX2.out.vol)
 have HSC := hid (show gc < w2.heap.size from lt_of_block HX2.out.cfg)
 have HSW := hid (show w.heap.size ≤ w2.heap.size from HX2.out.ext.size)
 clear hcw hcs hcc
 go_upto_block 0 with fail
 clear hmw cs0
 generalize hW3 : w2.alloc _ = W3
 obtain ⟨g0, hg0⟩ : ∃ b, w2.heap.size = b := ⟨_, rfl⟩
 rw [hg0]
 have HCW3 := hid (show WasAt W3 g0 ss (fun _ => []) (fun _ => none) (fun _ => 0) from hW3 ▸ hg0 ▸ HCW.out)
 have x3 : Ext w2 W3 := hW3 ▸ (Ext.refl w2).alloc _
 obtain ⟨S3, hS3⟩ : ∃ S, wideS T w2 W3 = S := ⟨_, rfl⟩
 have HX3 := hid (show VX w W3 S3 r R2 gc c g ⟨c, 1, false⟩ from hS3 ▸ HX2.out.wide x3)
 have HG0 := hid (show w.heap.size ≤ g0 ∧ g0 ≠ gc from ⟨by rw [← hg0]; exact HSW.out, by have := HSC.out; omega⟩)
 have HGG := hid (show g0 ≠ g by have := HSG.out; omega)
 have HOW3 := hid (show WasOwn (fun b => S3 b ∧ b ≠ g) g0 ss (fun _ => []) (fun _ => none) from ⟨⟨hS3 ▸ .inr ⟨by omega, by rw [← hg0, ← hW3]; simp⟩, HGG.out⟩, fun s hs hn => absurd rfl hn⟩)
 clear hW3 hg0 x3 hS3 HX2 HSG HSC HCW HSW
 obtain ⟨CB, hmb, hcb⟩ := make_blocks kk (by omega)
 have HMB := hid hmb; have HCB := hid hcb
 clear hmb hcb
 go_cut [52] (fun t wq => (∃ i : Int, t = .int .i64 i) ∧ ∃ S F a cp, VX w wq S r R2 gc c g ⟨c, 1, false⟩ ∧ WasAt wq g0 ss F a cp ∧ WasOwn (fun b => S b ∧ b ≠ g) g0 ss F a ∧ ∀ s, s < ss → F s = zblks kk)
 case first =>
  go_wp2_with fail
  go_loopw [52] (fun t wq => ∃ i : Nat, t = .int .i64 i ∧ i ≤ ss ∧ ∃ S F a cp, VX w wq S r R2 gc c g ⟨c, 1, false⟩ ∧ WasAt wq g0 ss F a cp ∧ WasOwn (fun b => S b ∧ b ≠ g) g0 ss F a ∧ ∀ s, s < i → F s = zblks kk) (fun t _ => ss - (intOf t).toNat)
  case atStart => exact ⟨0, rfl, by omega, _, _, _, _, HX3.out, HCW3.out, HOW3.out, fun s hs => by omega⟩
  case round =>
   clear HX3 HCW3 HOW3
   obtain ⟨i, rfl, hi, S, F, a, cp, hx, hwa, hwo, hfz⟩ := hrel
   have HX := hid hx; have HWA := hid hwa; have HWO := hid hwo; have HFZ := hid hfz
   clear hx hwa hwo hfz
   by_cases hlt : i < ss
   ·
    have i1 : (i : Int) < (ss : Int) := by omega
    have i0 : (0 : Int) ≤ (i : Int) := by omega
    have ck : wr.cell? ⟨gc, 1, none⟩ = some (.int .i64 kk) := HX.out.c1.trans (by rw [HK.out])
    have hmb := HMB.out wr
    have hcx := (HWA.out.ext ((Ext.refl wr).alloc (.cells CB 49))).cell hlt
    have hfx := (HWA.out.ext ((Ext.refl wr).alloc (.cells CB 49))).free i
    go_wp2_with fail
    generalize hW4 : wr.alloc (.cells CB 49) = W4
    generalize hW5 : W4.setCell _ _ = W5
    have x4 : Ext wr W4 := hW4 ▸ (Ext.refl wr).alloc _
    have hbk : BlksAt W4 (some ⟨wr.heap.size, 0, none⟩) (zblks kk) := zblks_at (hW4 ▸ heap_alloc_new _ _) HCB.out
    have hzl : (zblks kk).length = kk := by simp [zblks]
    obtain ⟨S4, hS4⟩ : ∃ S', wideS S wr W4 = S' := ⟨_, rfl⟩
    have hx4 : VX w W4 S4 r R2 gc c g ⟨c, 1, false⟩ := hS4 ▸ HX.out.wide x4
    have hw4 : WasOwn (fun b => S4 b ∧ b ≠ g) g0 ss F a := HWO.out.mono fun b hb => ⟨hS4 ▸ .inl hb.1, hb.2⟩
    have hlt0 : g0 < wr.heap.size := by
     have := HX.out.ve.rack.there g0 HWO.out.own.1
     exact this
    have hset := (HWA.out.ext x4).set hw4 (s := i) (l := zblks kk) (a' := some ⟨wr.heap.size, 0, none⟩) (c' := kk) hbk (fun b e => by cases e; exact ⟨⟨hS4 ▸ .inr ⟨Nat.le_refl _, by rw [← hW4]; simp⟩, by have := lt_of_block HX.out.vol; omega⟩, by omega⟩)
    rw [hzl] at hset
    have hk5 : Only (fun b => b = g0) W4 W5 := hW5 ▸ Zbn _ _ _ _
    have HX5 := hid (show VX w W5 S4 r R2 gc c g ⟨c, 1, false⟩ from hx4.poke hk5 fun b hb => by
     have hb : b = g0 := hb
     subst hb; exact ⟨hw4.own.1, HG0.out.1, HG0.out.2, HGG.out⟩)
    have HS5 := hid (hW5 ▸ hset)
    have HFZ' := hid (show ∀ s, s < i + 1 → (fun t => if t = i then zblks kk else F t) s = zblks kk from fun s hs => by
     by_cases e : s = i
     ·
      simp only [e, if_true]
     ·
      simp only [e, if_false]; exact HFZ.out s (by omega))
    clear hW4 hW5 x4 hbk hzl hS4 hx4 hw4 hset hk5 ck hmb hcx hfx HX HWA HWO
    go_wp2_with fail
    go_roundw
    case rel => exact ⟨i + 1, by go_num, by omega, S4, _, _, _, HX5.out, HS5.out.1, HS5.out.2, HFZ'.out⟩
    case measure => simp [intOf]; omega
   ·
    have i1 : ¬ (i : Int) < (ss : Int) := by omega
    go_wp2_with fail
    go_meet
    case rel => exact ⟨⟨_, rfl⟩, S, F, a, cp, HX.out, HWA.out, HWO.out, fun s hs => HFZ.out s (by omega)⟩
 case rest =>
  clear HX3 HCW3 HOW3
  obtain ⟨⟨i0, rfl⟩, S, F, a, cp, hx, hwa, hwo, hfz⟩ := hcut
  have HX := hid hx; have HWA := hid hwa; have HWO := hid hwo; have HVI := hid (VI.new HGD.out)
  have HF0 := hid (show ∀ s, s < ss → ∃ gen, VH.fNew c s = some (gen, F s) from fun s hs => ⟨1, by unfold VH.fNew; rw [if_pos (by rw [HSTT.out]; exact hs), hfz s hs, HKT.out]⟩)
  clear hx hwa hwo hfz HVV2
  go_upto_block 2 with fail
  go_cut [24] (fun tj wq => (∃ i : Int, tj = .int .i64 i) ∧ ∃ R S j f cur F a cp, VX w wq S r R gc c g ⟨c, cur, false⟩ ∧ VH R c m true j f ∧ VI c cur j f ∧ WasAt wq g0 ss F a cp ∧ WasOwn (fun b => S b ∧ b ≠ g) g0 ss F a ∧ (∀ s, s < ss → ∃ gen, f s = some (gen, F s)) ∧ cur ≤ 20)
  case first =>
   go_wp2_with fail
   go_loopw [24] (fun t wr => ∃ q : Nat, t = .int .i64 q ∧ q ≤ ll ∧ q ≤ 10 ∧ ∃ R S j f cur F a cp, VX w wr S r R gc c g ⟨c, cur, false⟩ ∧ VH R c m true j f ∧ VI c cur j f ∧ WasAt wr g0 ss F a cp ∧ WasOwn (fun b => S b ∧ b ≠ g) g0 ss F a ∧ (∀ s, s < ss → ∃ gen, f s = some (gen, F s)) ∧ cur ≤ 1 + (q : Int)) (fun t _ => 10 - (intOf t).toNat)
   case atStart => exact ⟨0, rfl, by omega, by omega, _, _, _, _, 1, _, _, _, HX.out, HV2.out, HVI.out, HWA.out, HWO.out, HF0.out, by omega⟩
   case round =>
    clear HX HV2 HVI HWA HWO HF0
    obtain ⟨q, rfl, hq, hq4, R, S, j, f, cur, F, a, cp, hx, hvh, hvi, hwa, hwo, hff, hcu⟩ := hrel
    have HX := hid hx; have HVH := hid hvh; have HVI := hid hvi; have HWA := hid hwa; have HWO := hid hwo; have HFF := hid hff; have HCU := hid hcu
    clear hx hvh hvi hwa hwo hff hcu
    by_cases hqo : q < ll
    ·
     obtain ⟨jb, joff, vj, rfl, hcj⟩ := HLO.out q hqo
     have cj : wr.cell? ⟨jb, joff + q, none⟩ = some (.int .i64 vj) := Ext.cell HX.out.ext hcj
     have q0 : (0 : Int) ≤ (q : Int) := by omega
     have q1 : (q : Int) < (ll : Int) := by omega
     by_cases hqt : q < 10
     ·
      have q2 : (q : Int) < 10 := by omega
      have hljb : jb < w.heap.size := HLW.out ⟨jb, joff, none⟩ rfl (by omega)
      have HJB := hid (show jb ≠ g0 by have := HG0.out.1; omega)
      obtain ⟨s0, s1⟩ := Zbe vj 0 ((ss : Int) - 1) (by omega)
      obtain ⟨sx, hsx⟩ := Int.eq_ofNat_of_zero_le s0
      have hs3 : sx < ss := by omega
      have xd : Ext wr wr.drew := (Ext.refl wr).drew
      have HXD := hid xd
      have HCJ := hid cj
      have wi : Hid (∀ y : SW Ext wr.drew, Calls Tryz.prog 12 #[.int .i64 vj, .int .i64 0, .int .i64 ((ss : Int) - 1)] y.w fun e w'' => e = .returned (.int .i64 (sx : Int)) ∧ Ext y.w w'') := hid fun y => (Zb8 vj 0 ((ss : Int) - 1) y.w (by omega) (by omega) (by omega)).mono fun e w'' q => ⟨by rw [q.1, hsx], q.2 ▸ Ext.refl _⟩
      have cs : ∀ y : SW Ext wr.drew, y.w.cell? ⟨gc, 3, none⟩ = some (.int .i64 ss) := fun y => Ext.cell (Ext.trans HXD.out y.ext) ((Zaf HX.out.cfg).trans ((Cfg.A3 c).trans (by rw [HST.out])))
      have cl : ∀ y : SW Ext wr.drew, y.w.cell? ⟨jb, joff + q, none⟩ = some (.int .i64 vj) := fun y => Ext.cell (Ext.trans HXD.out y.ext) HCJ.out
      have hw1 : wrap64 ((ss : Int) - 1) = (ss : Int) - 1 := by unfold wrap64; omega
      have hw2 : IntKind.i64.wrap ((ss : Int) - 1) = (ss : Int) - 1 := by rw [IntKind.wrap_i64]; omega
      clear hcj hqt hq hq4 s0 s1 hsx xd cj hljb
      go_wp2_with fail
      refine Zao (S := Ext) (.fin [0, 1, 2, 3, 4, 5, 6, 7, 8]) (by kernel_rfl) (by kernel_rfl) (fun _ _ d _ _ h => by cases d <;> exact h) ?_
      rw [wpS]
      simp only [opsAt, opA, opB, opC, opD, opE, opF, opG]
      iterate 7 ((refine Zab (fun K hK => ?_); go_simp; refine hK _ ?_; clear hK K))
      (refine Zab (fun K hK => ?_); go_simp; (apply Exists.intro; refine ⟨fun x => ?_, hK _ ?_⟩; (exact wi.out x); clear hK K))
      (refine Zab (fun K hK => ?_); go_simp; refine hK _ ?_; clear hK K)
      refine Zag ?_
      intro V2 hV2
      have HV2' := hid (Ext.trans HXD.out hV2)
      have xd : Ext V2 V2.drew := (Ext.refl V2).drew
      have HXE := hid (Ext.trans HV2'.out xd)
      clear cs cl hV2 HXD wi hw1 hw2 HV2'
      have ck : ∀ y : SW (Only fun b => b = g0) V2.drew, y.w.cell? ⟨gc, 1, none⟩ = some (.int .i64 kk) := fun y => Only.cell y.ext (Ext.cell HXE.out (HX.out.c1.trans (by rw [HK.out]))) (fun q => HG0.out.2 q.symm)
      have cl : ∀ y : SW (Only fun b => b = g0) V2.drew, y.w.cell? ⟨jb, joff + q, none⟩ = some (.int .i64 vj) := fun y => Only.cell y.ext (Ext.cell HXE.out HCJ.out) HJB.out
      have sx0 : (0 : Int) ≤ (sx : Int) := by omega
      have sx1 : (sx : Int) < (ss : Int) := by omega
      clear xd HCJ
      go_wp2_with fail
      refine Zav (E := Ext) (S := Only fun b => b = g0) (.one [0, 1, 2, 3, 4, 5, 6, 7, 8, 9, 10] 11 (.one [12] 13 (.fin []))) (by kernel_rfl) (by kernel_rfl) (fun _ _ d _ _ h => by cases d <;> exact h) ?_
      rw [wpS]
      simp only [opsAt, opA, opB, opC, opD, opE, opF, opG]
      iterate 11 ((refine Zab (fun K hK => ?_); go_simp; refine hK _ ?_; clear hK K))
      refine Zag ?_
      intro V3 hV3
      have HV3 := hid (Ext.trans HXE.out hV3)
      clear ck cl hV3 HXE
      refine Zaw fun Q1 hQ1 => ?_
      go_wp2_with fail
      refine (kblocks_c kk (by omega) _ V3).mono ?_
      rintro e w6 ⟨v, rfl, hown, x6⟩
      generalize hlb : blocksOf kk _ = lb at hown
      have Lb8 := hid (hlb ▸ blocksOf_108 kk _)
      have LbB := hid (hlb ▸ blocksOf_bytes kk _)
      have LbL := hid (show lb.length = kk by rw [← hlb, Zcd])
      have Lb0 := hid (show lb ≠ [] from fun z => by have := LbL.out; rw [z] at this; simp at this; omega)
      have LbF := hid (show Cd.Blocks c.k.toNat 108 lb by rw [HKT.out, ← hlb]; exact blocksOf_Blocks kk _)
      obtain ⟨a6, c6, rfl, hbk, hab⟩ := kblocks_at Lb8.out hown
      have HX4 := hid (HX.out.more HV3.out)
      have HWA4 := hid (HWA.out.ext HV3.out)
      obtain ⟨S6, hS⟩ : ∃ S', wideS S V3 w6 = S' := ⟨_, rfl⟩
      have HX6 := hid (hS ▸ HX4.out.wide x6)
      have HWA6 := hid (HWA4.out.ext x6)
      have HWO6 := hid (HWO.out.mono (T := fun b => S6 b ∧ b ≠ g) fun b hb => ⟨hS ▸ .inl hb.1, hb.2⟩)
      have HB6 := hid hbk
      have hg0l : g0 < V3.heap.size := Nat.lt_of_lt_of_le (HX.out.ve.rack.there g0 HWO.out.own.1) HV3.out.size
      have HP6 := hid (show ∀ b, a6 = some ⟨b, 0, none⟩ → S6 b ∧ b ≠ g ∧ b ≠ g0 from fun b e => ⟨hS ▸ HX4.out.ve.blk x6 hbk Lb0.out hab b e, by have := hab b e; have := lt_of_block HX4.out.vol; omega, by have := hab b e; omega⟩)
      clear hown hbk hab hS hlb hg0l HX HWA HWO HX4 HWA4
      go_wp2
      refine hQ1 _ _ (Ext.only x6) ?_
      clear hQ1 Q1 x6 HV3
      rw [wpS]
      simp only [opsAt, opA, opB, opC, opD, opE, opF, opG]
      (refine Zab (fun K hK => ?_); go_simp; refine hK _ ?_; clear hK K)
      refine Zag ?_
      intro V4 hV4
      have HX7 := hid (HX6.out.more hV4)
      have HWA7 := hid (HWA6.out.ext hV4)
      have HB7 := hid (HB6.out.ext hV4)
      have hcx := HWA7.out.cell hs3
      have hfx := HWA7.out.free sx
      clear hV4 HX6 HB6 HWA6
      refine Zaw fun Q2 hQ2 => ?_
      go_wp2_with fail
      refine hQ2 _ _ (Zbn _ _ _ _) ?_
      clear hQ2 Q2
      generalize hW9 : V4.setCell _ _ = W9
      have hset := HWA7.out.set HWO6.out (s := sx) (l := lb) (a' := a6) (c' := c6) HB7.out (fun b e => ⟨⟨(HP6.out b e).1, (HP6.out b e).2.1⟩, (HP6.out b e).2.2⟩)
      have hk9 : Only (fun b => b = g0) V4 W9 := hW9 ▸ Zbn _ _ _ _
      have HX9 := hid (show VX w W9 S6 r R gc c g ⟨c, cur, false⟩ from HX7.out.poke hk9 fun b hb => by
       have hb : b = g0 := hb
       subst hb; exact ⟨HWO6.out.own.1, HG0.out.1, HG0.out.2, HWO6.out.own.2⟩)
      have HS9 := hid (by first | exact hW9 ▸ hset | exact hset)
      clear hW9 hset hk9 HX7 HWA7 hcx hfx HB7
      rw [wpS]
      simp only [opsAt, List.map_nil]
      refine Zag ?_
      intro VA hVA
      have HXA := hid (HX9.out.more hVA)
      have HWAA := hid (HS9.out.1.ext hVA)
      have hcA : VA.cell? ⟨g0, sx, none⟩ = some (.slice a6 lb.length c6) := by
       have := HWAA.out.cell hs3
       simpa using this
      have HBA := hid (show BlksAt VA a6 lb from by
       have := HWAA.out.bks sx hs3
       simpa using this)
      obtain ⟨a0, R', hcm, hvh, hvi⟩ := HVH.out.commit_on HVI.out HM.out.symm HK4.out HN6.out (by have := HCU.out; omega) (s := sx) (by rw [HSTT.out]; exact hs3) LbF.out
      have HCM := hid hcm; have HVH' := hid hvh; have HVI' := hid hvi
      have hcur0 : (0 : Int) ≤ cur := by have := HVI.out.vv.cur; omega
      clear hVA hcm hvh hvi HX9
      go_wp2_with fail
      refine (vcommit_c HXA.out.rack HXA.out.vol HXA.out.gS hcur0 sx lb Lb8.out LbB.out a6 c6 HBA.out (fun b e => ⟨(HP6.out b e).1, (HP6.out b e).2.1⟩)).mono ?_
      rintro e w8 h8
      rw [HCM.out] at h8
      obtain rfl := h8.ret
      have HX8 := hid (show VX w w8 S6 r R' gc c g ⟨c, cur + 1, false⟩ from HXA.out.commit h8)
      have HWA8 := hid (HWAA.out.only HS9.out.2 h8.only fun b hb q => q.elim (fun z => z hb.1) hb.2)
      have HFF' := hid (show ∀ s, s < ss → ∃ gen, updS f sx (cur + 1, lb) s = some (gen, (fun t => if t = sx then lb else F t) s) from fun s hs => by
       by_cases e : s = sx
       ·
        subst e; exact ⟨cur + 1, by rw [Zbj]; simp⟩
       ·
        obtain ⟨gen, q⟩ := HFF.out s hs
        exact ⟨gen, by rw [Za8 f _ e, q]; simp [e]⟩)
      simp only [oErr]
      clear h8 HXA HWAA HBA HCM hcA
      go_wp2_with fail
      go_roundw
      case rel => exact ⟨q + 1, by go_num, by omega, by omega, R', S6, _, _, _, _, _, _, HX8.out, HVH'.out, HVI'.out, HWA8.out, HS9.out.2, HFF'.out, by have := HCU.out; omega⟩
      case measure => simp [intOf]; omega
     ·
      have q2 : ¬ (q : Int) < 10 := by omega
      clear hcj
      go_wp2_with fail
      go_meet
      case rel => exact ⟨⟨_, rfl⟩, _, _, _, _, _, _, _, _, HX.out, HVH.out, HVI.out, HWA.out, HWO.out, HFF.out, by have := HCU.out; omega⟩
    ·
     have q1 : ¬ (q : Int) < (ll : Int) := by omega
     go_wp2_with fail
     go_meet
     case rel => exact ⟨⟨_, rfl⟩, _, _, _, _, _, _, _, _, HX.out, HVH.out, HVI.out, HWA.out, HWO.out, HFF.out, by have := HCU.out; omega⟩
  case rest =>
   clear HX HV2 HVI HWA HWO HF0
   obtain ⟨⟨i3, rfl⟩, R, S, j, f, cur, F, a, cp, hx, hvh, hvi, hwa, hwo, hff, hcu⟩ := hcut
   have HX := hid hx; have HVH := hid hvh; have HVI := hid hvi; have HWA := hid hwa; have HWO := hid hwo; have HFF := hid hff; have HCU := hid hcu
   clear hx hvh hvi hwa hwo hff hcu
   have cn2 : wc.cell? ⟨gc, 2, none⟩ = some (.int .i64 nn) := HX.out.c2.trans (by rw [HN.out])
   go_wp2_with fail
   refine (Zb8 many 0 nn _ (by omega) (by omega) (by omega)).mono ?_
   rintro e _ ⟨rfl, rfl⟩
   obtain ⟨q0, q1⟩ := Zbe many 0 nn (by omega)
   obtain ⟨mx, hmx⟩ := Int.eq_ofNat_of_zero_le q0
   rw [hmx]
   have hm8 : mx ≤ 8 := by omega
   clear hmx q0 q1 cn2
   go_wp2_with fail
   refine (taint_c HX.out.rack HVH.out.pow.live (by have := HNT.out; omega) m1 m128 mx hm8 oa olen ocap ha hlen hcap (fun i hi => by
    obtain ⟨b, off, v, e1, e2⟩ := HO.out i hi
    exact ⟨b, off, v, e1, Ext.cell HX.out.ext e2⟩) (fun i hi => by
    obtain ⟨b, off, v, e1, e2⟩ := HH.out i hi
    exact ⟨b, off, v, e1, Ext.cell HX.out.ext e2⟩) (fun p e q => HX.out.ve.low _ (HOL.out p e q)) (fun p e q => HX.out.ve.low _ (HHL.out p e q))).mono ?_
   rintro e w9 ⟨rfl, R9, L, htn, hln, hr9, hk9⟩
   have HX9 := hid (HX.out.keep hr9 hk9)
   have HWA9 := hid (HWA.out.only HWO.out hk9 fun b hb q => q hb.1)
   have HTN := hid htn
   clear htn hln hr9 hk9 HX HWA hm8
   rcases again with _ | _
   case false =>
    have HRD : Hid (∀ u, u < ss → (∃ e, R9.sget c (u : Int) = ([], 0, some e) ∧ Bad e) ∨ ∃ y : Int × List (List Nat), SFit c u y.1 y.2 ∧ R9.sget c (u : Int) = (y.2, y.1, none) ∧ y.2 = F u) := hid fun u hu => by
     rcases HVH.out.worn_get HVI.out HM.out.symm HK4.out HN6.out HTN.out (s := u) (by rw [HSTT.out]; exact hu) with z | ⟨y, y1, y2, y3⟩
     ·
      exact .inl z
     ·
      obtain ⟨gen, z⟩ := HFF.out u hu
      rw [z] at y1; cases y1
      exact .inr ⟨_, y2, y3, rfl⟩
    have HXA := hid HX9.out; have HWAA := hid HWA9.out
    clear HX9 HWA9 HVH HTN
    go_wp2_with fail
    go_loopw [132] (fun t wd => ∃ s : Nat, t = .int .i64 s ∧ s ≤ ss ∧ Ext w9 wd) (fun t _ => ss - (intOf t).toNat)
    case atStart => exact ⟨0, rfl, by omega, Ext.refl _⟩
    case round =>
     obtain ⟨s, rfl, hs, hx⟩ := hrel
     have HX1 := hid hx
     have HXX := hid (HXA.out.more hx)
     clear hx
     by_cases hs3 : s < ss
     ·
      have s1 : (s : Int) < (ss : Int) := by omega
      have s0 : (0 : Int) ≤ (s : Int) := by omega
      rcases HRD.out s hs3 with ⟨er, hsg, hbad⟩ | ⟨⟨gen, ls⟩, hsf, hsg, hls⟩
      ·
       have HR := hid (show Vol.read ⟨c, cur, false⟩ R9 s = ([], 0, some (.fault sVRead s er)) by
        unfold Vol.read; rw [if_neg (by simp), hsg]; rfl)
       have HBD := hid (hbad.fault sVRead s)
       obtain ⟨er2, her⟩ : ∃ e, Err.fault sVRead s er = e := ⟨_, rfl⟩
       rw [her] at HR HBD
       clear hsg hbad her
       go_wp2_with fail
       refine (vread_c HXX.out.rack HXX.out.vol s).mono ?_
       rintro e w11 ⟨v, rfl, hown, x11⟩
       rw [HR.out] at hown ⊢
       simp only at hown ⊢
       obtain ⟨a10, c10, rfl, _, _⟩ := kblocks_at (l := []) (by simp) hown
       have HX2 := hid (Ext.trans HX1.out x11)
       have HXY := hid (HXX.out.more x11)
       obtain ⟨et, ev, hev⟩ := er2.iface
       have HEV := hid hev
       simp only [oErr, List.length_nil]
       rw [hev]
       clear hown x11 HXX HR hev
       go_wp2_with fail
       refine Calls.mono (by rw [← HEV.out]; exact kind_err er2 _ (HG.out.only HXY.out.ext (fun x => x))) ?_
       rintro e w12' ⟨rfl, x12⟩
       have HX3 := hid (Ext.trans HX2.out x12)
       clear x12
       rcases HBD.out with hk | hk
       ·
        rw [hk.1]
        clear hk
        go_wp2_with fail
        go_roundw
        case rel => exact ⟨s + 1, by go_num, by omega, HX3.out⟩
        case measure => simp [intOf]; omega
       ·
        rw [hk.1]
        clear hk
        go_wp2_with fail
        go_roundw
        case rel => exact ⟨s + 1, by go_num, by omega, HX3.out⟩
        case measure => simp [intOf]; omega
      ·
       have hls : ls = F s := hls
       have L8 := hid (fun b hb => hsf.bl.mem_len (b := b) hb)
       have FN := hid (show ls.length ≤ 8 by have h1 : ls.length = c.k.toNat := hsf.bl.n; have := HKT.out; omega)
       have HR := hid (Vol.read_of hsg cur)
       have HLS := hid hls
       clear hsf hsg hls
       go_wp2_with fail
       refine (vread_c HXX.out.rack HXX.out.vol s).mono ?_
       rintro e w11 ⟨v, rfl, hown, x11⟩
       rw [show Vol.read ⟨c, cur, false⟩ R9 s = (ls, gen, none) from HR.out] at hown ⊢
       simp only at hown ⊢
       obtain ⟨a10, c10, rfl, hbk, _⟩ := kblocks_at L8.out hown
       have HX2 := hid (Ext.trans HX1.out x11)
       have HXY := hid (HXX.out.more x11)
       have HWA1 := hid (HWAA.out.ext HX2.out)
       have HB1 := hid hbk
       simp only [oErr]
       clear hown x11 hbk HXX HR
       have hcx : w11.cell? ⟨g0, s, none⟩ = some (.slice (a s) ls.length (cp s)) := by rw [HLS.out]; exact HWA1.out.cell hs3
       go_wp2_with fail
       have SB := hid (sameblk_c ls L8.out FN.out a10 (a s) c10 (cp s) w11 HB1.out (by rw [HLS.out]; exact HWA1.out.bks s hs3))
       rw [HLS.out] at SB
       refine SB.out.mono ?_
       rintro e w12' ⟨rfl, x12⟩
       have HX3 := hid (Ext.trans HX2.out x12)
       clear x12
       go_wp2_with fail
       refine (kind_nil _).mono ?_
       rintro e w13 ⟨rfl, x13⟩
       have HX4 := hid (Ext.trans HX3.out x13)
       clear x13
       go_wp2_with fail
       go_roundw
       case rel => exact ⟨s + 1, by go_num, by omega, HX4.out⟩
       case measure => simp [intOf]; omega
     ·
      have s1 : ¬ (s : Int) < (ss : Int) := by omega
      go_wp2_with fail
      refine (volumeRuns_c _ (HG.out.only HXX.out.ext (fun x => x))).mono ?_
      rintro e w13 ⟨rfl, x13⟩
      have HX13 := hid (Ext.trans HXX.out.ext x13)
      clear x13
      go_wp2
      go_ret
      exact ⟨rfl, HX13.out⟩
   case true =>
    have hre := HVH.out.reopen HVI.out HM.out.symm HK4.out HN6.out (by have := HCU.out; omega) HTN.out
    go_wp2_with fail
    refine (vopen_c HX9.out.rack).mono ?_
    rintro e w12 h12
    rcases hre with ⟨er, R', hop, hbad, _⟩ | ⟨R', cur', hop, hrd⟩
    ·
     rw [hop] at h12
     rcases h12 with ⟨er2, q, hb⟩ | ⟨q, _⟩
     case inr => cases q
     obtain rfl : er = er2 := by simpa using q
     obtain rfl := hb.ret
     have HX12 := hid (HX9.out.keep hb.rack hb.keep)
     have HBD := hid hbad
     simp only [oErr]
     clear hb q hop hbad HX9 HWA9
     go_wp2_with fail
     refine (kind_err er _ (HG.out.only HX12.out.ext (fun x => x))).mono ?_
     rintro e w13 ⟨rfl, x13⟩
     have HX13 := hid (Ext.trans HX12.out.ext x13)
     clear x13 HX12
     rcases HBD.out with hk | hk
     ·
      rw [hk.1]
      clear hk
      go_wp2_with fail
      refine (volumeRuns_c w13 (HG.out.only HX13.out (fun x => x))).mono ?_
      rintro e w14 ⟨rfl, x14⟩
      have HX14 := hid (Ext.trans HX13.out x14)
      clear x14
      go_wp2
      go_ret
      exact ⟨rfl, HX14.out⟩
     ·
      rw [hk.1]
      clear hk
      go_wp2_with fail
      refine (volumeRuns_c w13 (HG.out.only HX13.out (fun x => x))).mono ?_
      rintro e w14 ⟨rfl, x14⟩
      have HX14 := hid (Ext.trans HX13.out x14)
      clear x14
      go_wp2
      go_ret
      exact ⟨rfl, HX14.out⟩
    ·
     rw [hop] at h12
     rcases h12 with ⟨_, q, _⟩ | ⟨_, g12, T12, hok⟩
     ·
      cases q
     obtain rfl := hok.ret
     have HXA := hid (show VX w w12 T12 r R' gc c g12 ⟨c, cur', false⟩ from HX9.out.opened hok)
     have HWAA := hid (HWA9.out.only HWO.out hok.keep fun b hb q => q hb.1)
     have HRD : Hid (∀ u, u < ss → (∃ e, R'.sget c (u : Int) = ([], 0, some e) ∧ Bad e) ∨ ∃ y : Int × List (List Nat), SFit c u y.1 y.2 ∧ R'.sget c (u : Int) = (y.2, y.1, none) ∧ y.2 = F u) := hid fun u hu => by
      obtain ⟨y, y1, y2, y3⟩ := hrd u (by rw [HSTT.out]; exact hu)
      obtain ⟨gen, z⟩ := HFF.out u hu
      rw [z] at y1; cases y1
      exact .inr ⟨_, y2, y3, rfl⟩
     clear hok hop hrd HX9 HWA9 HVH HTN
     go_wp2_with fail
     go_loopw [132] (fun t wd => ∃ s : Nat, t = .int .i64 s ∧ s ≤ ss ∧ Ext w12 wd) (fun t _ => ss - (intOf t).toNat)
     case atStart => exact ⟨0, rfl, by omega, Ext.refl _⟩
     case round =>
      obtain ⟨s, rfl, hs, hx⟩ := hrel
      have HX1 := hid hx
      have HXX := hid (HXA.out.more hx)
      clear hx
      by_cases hs3 : s < ss
      ·
       have s1 : (s : Int) < (ss : Int) := by omega
       have s0 : (0 : Int) ≤ (s : Int) := by omega
       rcases HRD.out s hs3 with ⟨er, hsg, hbad⟩ | ⟨⟨gen, ls⟩, hsf, hsg, hls⟩
       ·
        have HR := hid (show Vol.read ⟨c, cur', false⟩ R' s = ([], 0, some (.fault sVRead s er)) by
         unfold Vol.read; rw [if_neg (by simp), hsg]; rfl)
        have HBD := hid (hbad.fault sVRead s)
        obtain ⟨er2, her⟩ : ∃ e, Err.fault sVRead s er = e := ⟨_, rfl⟩
        rw [her] at HR HBD
        clear hsg hbad her
        go_wp2_with fail
        refine (vread_c HXX.out.rack HXX.out.vol s).mono ?_
        rintro e w11 ⟨v, rfl, hown, x11⟩
        rw [HR.out] at hown ⊢
        simp only at hown ⊢
        obtain ⟨a10, c10, rfl, _, _⟩ := kblocks_at (l := []) (by simp) hown
        have HX2 := hid (Ext.trans HX1.out x11)
        have HXY := hid (HXX.out.more x11)
        obtain ⟨et, ev, hev⟩ := er2.iface
        have HEV := hid hev
        simp only [oErr, List.length_nil]
        rw [hev]
        clear hown x11 HXX HR hev
        go_wp2_with fail
        refine Calls.mono (by rw [← HEV.out]; exact kind_err er2 _ (HG.out.only HXY.out.ext (fun x => x))) ?_
        rintro e w12' ⟨rfl, x12⟩
        have HX3 := hid (Ext.trans HX2.out x12)
        clear x12
        rcases HBD.out with hk | hk
        ·
         rw [hk.1]
         clear hk
         go_wp2_with fail
         go_roundw
         case rel => exact ⟨s + 1, by go_num, by omega, HX3.out⟩
         case measure => simp [intOf]; omega
        ·
         rw [hk.1]
         clear hk
         go_wp2_with fail
         go_roundw
         case rel => exact ⟨s + 1, by go_num, by omega, HX3.out⟩
         case measure => simp [intOf]; omega
       ·
        have hls : ls = F s := hls
        have L8 := hid (fun b hb => hsf.bl.mem_len (b := b) hb)
        have FN := hid (show ls.length ≤ 8 by have h1 : ls.length = c.k.toNat := hsf.bl.n; have := HKT.out; omega)
        have HR := hid (Vol.read_of hsg cur')
        have HLS := hid hls
        clear hsf hsg hls
        go_wp2_with fail
        refine (vread_c HXX.out.rack HXX.out.vol s).mono ?_
        rintro e w11 ⟨v, rfl, hown, x11⟩
        rw [show Vol.read ⟨c, cur', false⟩ R' s = (ls, gen, none) from HR.out] at hown ⊢
        simp only at hown ⊢
        obtain ⟨a10, c10, rfl, hbk, _⟩ := kblocks_at L8.out hown
        have HX2 := hid (Ext.trans HX1.out x11)
        have HXY := hid (HXX.out.more x11)
        have HWA1 := hid (HWAA.out.ext HX2.out)
        have HB1 := hid hbk
        simp only [oErr]
        clear hown x11 hbk HXX HR
        have hcx : w11.cell? ⟨g0, s, none⟩ = some (.slice (a s) ls.length (cp s)) := by rw [HLS.out]; exact HWA1.out.cell hs3
        go_wp2_with fail
        have SB := hid (sameblk_c ls L8.out FN.out a10 (a s) c10 (cp s) w11 HB1.out (by rw [HLS.out]; exact HWA1.out.bks s hs3))
        rw [HLS.out] at SB
        refine SB.out.mono ?_
        rintro e w12' ⟨rfl, x12⟩
        have HX3 := hid (Ext.trans HX2.out x12)
        clear x12
        go_wp2_with fail
        refine (kind_nil _).mono ?_
        rintro e w13 ⟨rfl, x13⟩
        have HX4 := hid (Ext.trans HX3.out x13)
        clear x13
        go_wp2_with fail
        go_roundw
        case rel => exact ⟨s + 1, by go_num, by omega, HX4.out⟩
        case measure => simp [intOf]; omega
      ·
       have s1 : ¬ (s : Int) < (ss : Int) := by omega
       go_wp2_with fail
       refine (volumeRuns_c _ (HG.out.only HXX.out.ext (fun x => x))).mono ?_
       rintro e w13 ⟨rfl, x13⟩
       have HX13 := hid (Ext.trans HXX.out.ext x13)
       clear x13
       go_wp2
       go_ret
       exact ⟨rfl, HX13.out⟩
end Go.Proofs.YtbdfjiedceaoiaaGreatDoor
namespace Go.Proofs.YtbdfjiedceaoiaaGreatDoor.volumeBeyond
open Go.ChangeShapes Go.WideShapes Go.ChangeAt Go.RowKit
open Go.ChangeMaps (open_string shut_string)
set_option linter.unusedVariables false
theorem laidOut : laidOutB Tryz.prog = true := by kernel_rfl
theorem walk (a0 : Int) (a1 : Int) (a2 : Int) (a3 : Int) (a4 : Option Addr) (len4 cap4 : Nat) (z4 : List Int) (a5 : Int) (a6 : Option Addr) (len6 cap6 : Nat) (z6 : List Int) (a7 : Option Addr) (len7 cap7 : Nat) (z7 : List Int) (a8 : Bool) (w : World) (hg : EtLaid w) (w0 : (Lit.int .i64 a0).wf = true) (w1 : (Lit.int .i64 a1).wf = true) (w2 : (Lit.int .i64 a2).wf = true) (w3 : (Lit.int .i64 a3).wf = true) (w4 : IsRow .i64 w a4 len4 cap4 z4) (w5 : (Lit.int .i64 a5).wf = true) (w6 : IsRow .i64 w a6 len6 cap6 z6) (w7 : IsRow .i64 w a7 len7 cap7 z7) :
  Calls Tryz.prog 4 #[.int .i64 a0, .int .i64 a1, .int .i64 a2, .int .i64 a3, .slice a4 len4 cap4, .int .i64 a5, .slice a6 len6 cap6, .slice a7 len7 cap7, .bool a8] w fun e w' => e = .returned (.bool true) ∧ Below w.heap.size w w' :=
 (volumeBeyond_c a0 a1 a2 a3 a4 len4 cap4 z4 a5 a6 len6 cap6 z6 a7 len7 cap7 z7 a8 w hg w4 w6 w7).mono fun _ _ ⟨he, hx⟩ => ⟨he, hx.below⟩
set_option maxRecDepth 100000 in
theorem lifted (os : Os) (started : os.Started) (H : Type) (enc : TypeId × Value → H) :
  ReturnsInHanded {} Tryz.checked os 4 .any (fun w args => (Rows.volumeBeyondSpec.pre enc Tryz.prog Tryz.f4 [] false w args ∧ laidMetH Tryz.prog theLaid w) ∧ sizedMet enc Tryz.prog Tryz.f4 (OpenSpec.ofChange Rows.volumeBeyondSpec) false w args)
   (Rows.volumeBeyondSpec.post enc Tryz.prog Tryz.f4 false true false false) := by
 refine returnsInHanded_of_change_and (C := Tryz.checked) (X := fun w _ => laidMetH Tryz.prog theLaid w) (fun _ _ _ hh h => h.of_heap hh) hOwn started (by kernel_rfl) Tryz.func4
  (ChangeSpec.witness_at (enc := enc) (C := Tryz.checked) (os := os) (X := fun w _ => laidMetH Tryz.prog theLaid w) false (laidWorld os) #[.int .i64 0, .int .i64 0, .int .i64 0, .int .i64 0, .slice none 0 0, .int .i64 0, .slice none 0 0, .slice none 0 0, .bool false] 8 rfl (by kernel_rfl) (by kernel_rfl) (by kernel_rfl) (by kernel_rfl) (by kernel_rfl) (laidWorld_met os _)) ?_
 intro W base args ds gs before hval0 hW _ _ hL _
 have hval : ∀ (j : Nat) t v, Tryz.f4.params[j]? = some t → args[j]? = some v → Value.okWide Tryz.prog W .any base t v := hval0
 have hW' := hW
 obtain ⟨p, q, hA0, hV, rfl, hfz, hnd⟩ := hW
 have hA : DataW.TrodAll enc Tryz.prog W 0 (fun _ => true) true Tryz.f4.params.toList args.toList ds p := hA0
 rw [Tryz.params4] at hA hval
 obtain ⟨v0, vs0, d0, ds0, p0, q0, hargs, rfl, rfl, h0, r0⟩ := trodAll_cons hA
 obtain ⟨v1, vs1, d1, ds1, p1, q1, rfl, rfl, rfl, h1, r1⟩ := trodAll_cons r0
 obtain ⟨v2, vs2, d2, ds2, p2, q2, rfl, rfl, rfl, h2, r2⟩ := trodAll_cons r1
 obtain ⟨v3, vs3, d3, ds3, p3, q3, rfl, rfl, rfl, h3, r3⟩ := trodAll_cons r2
 obtain ⟨v4, vs4, d4, ds4, p4, q4, rfl, rfl, rfl, h4, r4⟩ := trodAll_cons r3
 obtain ⟨v5, vs5, d5, ds5, p5, q5, rfl, rfl, rfl, h5, r5⟩ := trodAll_cons r4
 obtain ⟨v6, vs6, d6, ds6, p6, q6, rfl, rfl, rfl, h6, r6⟩ := trodAll_cons r5
 obtain ⟨v7, vs7, d7, ds7, p7, q7, rfl, rfl, rfl, h7, r7⟩ := trodAll_cons r6
 obtain ⟨v8, vs8, d8, ds8, p8, q8, rfl, rfl, rfl, h8, r8⟩ := trodAll_cons r7
 obtain ⟨rfl, rfl, rfl⟩ := trodAll_nil r8
 obtain rfl : args = #[v0, v1, v2, v3, v4, v5, v6, v7, v8] := by cases args; simp_all
 obtain ⟨rfl, rfl⟩ := trodVars_none hV
 obtain ⟨a0, rfl, rfl, rfl, w0⟩ := open_int Tryz.underlying3 (hval 0 3 v0 rfl rfl) h0
 obtain ⟨a1, rfl, rfl, rfl, w1⟩ := open_int Tryz.underlying3 (hval 1 3 v1 rfl rfl) h1
 obtain ⟨a2, rfl, rfl, rfl, w2⟩ := open_int Tryz.underlying3 (hval 2 3 v2 rfl rfl) h2
 obtain ⟨a3, rfl, rfl, rfl, w3⟩ := open_int Tryz.underlying3 (hval 3 3 v3 rfl rfl) h3
 obtain ⟨a4, len4, cap4, rfl⟩ := okWide_slice Tryz.underlying52 (hval 4 52 v4 rfl rfl)
 have k4 := h4
 have lt4 : ∀ x ∈ p4, x.block < W.heap.size := by obtain ⟨m, hm⟩ := k4; exact DataW.trod_lt m _ _ _ hm
 obtain ⟨z4, w4⟩ : ∃ zs, IsRow .i64 W a4 len4 cap4 zs := by
  obtain ⟨fuel, hf⟩ := h4
  rcases open_ints Tryz.underlying52 Tryz.underlying3 (by kernel_rfl) hf with ⟨hcs, _⟩ | ⟨x, l, c, zs, hcs, _, hl, hm, hz, _, hcell, hwz⟩
  ·
   simp [Value.cells] at hcs
   obtain ⟨rfl, rfl, rfl⟩ := hcs
   exact ⟨[], .inl ⟨rfl, rfl, rfl, rfl⟩⟩
  ·
   simp [Value.cells] at hcs
   obtain ⟨rfl, rfl, rfl⟩ := hcs
   exact ⟨zs, .inr ⟨_, rfl, hl, hm, by simpa using hz, hcell, hwz⟩⟩
 obtain ⟨a5, rfl, rfl, rfl, w5⟩ := open_int Tryz.underlying3 (hval 5 3 v5 rfl rfl) h5
 obtain ⟨a6, len6, cap6, rfl⟩ := okWide_slice Tryz.underlying52 (hval 6 52 v6 rfl rfl)
 have k6 := h6
 have lt6 : ∀ x ∈ p6, x.block < W.heap.size := by obtain ⟨m, hm⟩ := k6; exact DataW.trod_lt m _ _ _ hm
 obtain ⟨z6, w6⟩ : ∃ zs, IsRow .i64 W a6 len6 cap6 zs := by
  obtain ⟨fuel, hf⟩ := h6
  rcases open_ints Tryz.underlying52 Tryz.underlying3 (by kernel_rfl) hf with ⟨hcs, _⟩ | ⟨x, l, c, zs, hcs, _, hl, hm, hz, _, hcell, hwz⟩
  ·
   simp [Value.cells] at hcs
   obtain ⟨rfl, rfl, rfl⟩ := hcs
   exact ⟨[], .inl ⟨rfl, rfl, rfl, rfl⟩⟩
  ·
   simp [Value.cells] at hcs
   obtain ⟨rfl, rfl, rfl⟩ := hcs
   exact ⟨zs, .inr ⟨_, rfl, hl, hm, by simpa using hz, hcell, hwz⟩⟩
 obtain ⟨a7, len7, cap7, rfl⟩ := okWide_slice Tryz.underlying52 (hval 7 52 v7 rfl rfl)
 have k7 := h7
 have lt7 : ∀ x ∈ p7, x.block < W.heap.size := by obtain ⟨m, hm⟩ := k7; exact DataW.trod_lt m _ _ _ hm
 obtain ⟨z7, w7⟩ : ∃ zs, IsRow .i64 W a7 len7 cap7 zs := by
  obtain ⟨fuel, hf⟩ := h7
  rcases open_ints Tryz.underlying52 Tryz.underlying3 (by kernel_rfl) hf with ⟨hcs, _⟩ | ⟨x, l, c, zs, hcs, _, hl, hm, hz, _, hcell, hwz⟩
  ·
   simp [Value.cells] at hcs
   obtain ⟨rfl, rfl, rfl⟩ := hcs
   exact ⟨[], .inl ⟨rfl, rfl, rfl, rfl⟩⟩
  ·
   simp [Value.cells] at hcs
   obtain ⟨rfl, rfl, rfl⟩ := hcs
   exact ⟨zs, .inr ⟨_, rfl, hl, hm, by simpa using hz, hcell, hwz⟩⟩
 obtain ⟨a8, rfl, rfl, rfl⟩ := open_bool Tryz.underlying4 (hval 8 4 v8 rfl rfl) h8
 have hg := etLaid_of hL
 clear hA0 hval0
 simp only [List.append_nil] at hW'
 refine (walk a0 a1 a2 a3 a4 len4 cap4 z4 a5 a6 len6 cap6 z6 a7 len7 cap7 z7 a8 W hg w0 w1 w2 w3 w4 w5 w6 w7).mono fun e W' ⟨he, bel⟩ => ?_
 subst he
 exact ⟨_, rfl, _, _, _, [], _, [], hW', trodAll_mk1 (shut_bool Tryz.underlying4 _), (trodAll_cons_mk (shut_int Tryz.underlying3 w0) (trodAll_cons_mk (shut_int Tryz.underlying3 w1) (trodAll_cons_mk (shut_int Tryz.underlying3 w2) (trodAll_cons_mk (shut_int Tryz.underlying3 w3) (trodAll_cons_mk (Below.trod laidOut (by kernel_rfl) (of_decide_eq_true (by kernel_rfl)) k4 bel lt4) (trodAll_cons_mk (shut_int Tryz.underlying3 w5) (trodAll_cons_mk (Below.trod laidOut (by kernel_rfl) (of_decide_eq_true (by kernel_rfl)) k6 bel lt6) (trodAll_cons_mk (Below.trod laidOut (by kernel_rfl) (of_decide_eq_true (by kernel_rfl)) k7 bel lt7) (trodAll_cons_mk (shut_bool Tryz.underlying4 _) trodAll_mk0))))))))), rfl, bel.frame _, fun h => by cases h⟩
theorem over : Rows.VolumeBeyondSaid :=
 OpenClaim.holds_of_wide 4 Tryz.f4 rfl rfl rfl rfl rfl rfl rfl ⟨rfl, rfl, rfl, rfl, rfl⟩ rfl rfl rfl rfl rfl (by kernel_rfl) Tryz.func4 (by kernel_rfl)
  (of_decide_eq_true (by kernel_rfl)) (by unfold Func.isWrapper; first | (rw [if_pos (by decide +kernel)]; kernel_rfl) | (rw [if_neg (by decide +kernel)]; exact ⟨rfl, rfl⟩))
  (fun os started H enc _ => lifted os started H enc)
theorem proved : Rows.VolumeBeyondCardSaid :=
 Claim7.holds_tied_plain_at .later [] [.handle] true (true, "5099e9f95494a7ac1d1e9109868c047233c143c307eafd73ed71b9c5778ce599") true
  over (fun _ h => by cases h) (by kernel_rfl) (fun _ h => by cases h) volumeBeyond_row_tie rfl ⟨rfl, rfl⟩ (by kernel_rfl) rfl
  (fun f fn hf hfn => by
   obtain rfl : f = 4 := Option.some.inj ((show Tryz.prog.funcNamed "stave/stavelaw12.VolumeBeyond" = some 4 by kernel_rfl).symm.trans hf) |>.symm
   obtain rfl : fn = Tryz.f4 := (Option.some.inj (Tryz.func4.symm.trans hfn)).symm
   exact ⟨by kernel_rfl, fun j t ht => by
    rw [Tryz.params4] at ht
    rcases j with _ | _ | _ | _ | _ | _ | _ | _ | _ | j
    ·
     simp at ht; subst ht; kernel_rfl
    ·
     simp at ht; subst ht; kernel_rfl
    ·
     simp at ht; subst ht; kernel_rfl
    ·
     simp at ht; subst ht; kernel_rfl
    ·
     simp at ht; subst ht; kernel_rfl
    ·
     simp at ht; subst ht; kernel_rfl
    ·
     simp at ht; subst ht; kernel_rfl
    ·
     simp at ht; subst ht; kernel_rfl
    ·
     simp at ht; subst ht; kernel_rfl
    ·
     simp at ht⟩)
  (by kernel_rfl)
#print axioms proved
end Go.Proofs.YtbdfjiedceaoiaaGreatDoor.volumeBeyond
