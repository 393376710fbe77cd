/- The statement TapeOrder, as its tied card: for every input the call of stavelaw14's TapeOrder answers true, and its arguments read behind it as they read before. No condition of our own. -/
/- Texts of one proof, joined: WTapeOrder, LawTapeOrder. -/
import Derived.Test.YtbdfjiedceaoiaaGreatDoorOBD
import Derived.Test.YtbdfjiedceaoiaaGreatDoorOBG
import Derived.Test.YtbdfjiedceaoiaaGreatDoorOBF
import Derived.Test.YtbdfjiedceaoiaaGreatDoorOBC
import Derived.Test.YtbdfjiedceaoiaaGreatDoorOX
import Derived.Test.YtbdfjiedceaoiaaGreatDoorOO
import Derived.Test.YtbdfjiedceaoiaaGreatDoorOAC
import Derived.Test.YtbdfjiedceaoiaaGreatDoorOAA
import Derived.Deep.DeepCutAuto
import Derived.Deep.CutBlock
import Derived.Test.YtbdfjiedceaoiaaGreatDoorCards
import Derived.Test.YtbdfjiedceaoiaaGreatDoorTie
import Derived.Test.YtbdfjiedceaoiaaGreatDoorOC
import Derived.WalkKit
import Derived.ProofKit
import Derived.OpenShut
import Derived.ShutString
import Derived.ChangeOld
import Derived.Below
import Derived.Carry
import Derived.SevenTiedAt
set_option linter.unusedVariables false
set_option linter.unusedSimpArgs false
namespace Go.Proofs.YtbdfjiedceaoiaaGreatDoor
set_option linter.unusedVariables false
open Go Go.RowKit
def orP (S : Nat → Prop) (gv t : Nat) (b : Nat) : Prop := S b ∧ b ≠ gv ∧ b ≠ t
structure Lit3 (w W : World) (b0 b1 b2 q : Nat) : Prop where
 ext : Ext w W
 h0 : W.heap[b0]? = some (.cells (bA [q, 1]) 5 (0, 0))
 h1 : W.heap[b1]? = some (.cells (bA [q, 2]) 5 (0, 0))
 h2 : W.heap[b2]? = some (.cells #[.slice (some ⟨b0, 0, none⟩) 2 2, .slice (some ⟨b1, 0, none⟩) 2 2] 66 (0, 0))
 l0 : w.heap.size ≤ b0
 l1 : w.heap.size ≤ b1
 l2 : w.heap.size ≤ b2
 n0 : b0 ≠ b2
 n1 : b1 ≠ b2
theorem Lit3.mk3 (w : World) (q : Nat) : Lit3 w (((w.alloc (.cells #[.int .u8 (q : Int), .int .u8 1] 5)).alloc (.cells #[.int .u8 (q : Int), .int .u8 2] 5)).alloc (.cells #[.slice (some ⟨w.heap.size, 0, none⟩) 2 2, .slice (some ⟨w.heap.size + 1, 0, none⟩) 2 2] 66)) w.heap.size (w.heap.size + 1) (w.heap.size + 1 + 1) q := by
 have e1 : (w.alloc (.cells #[.int .u8 (q : Int), .int .u8 1] 5)).heap.size = w.heap.size + 1 := by simp
 have e2 : ((w.alloc (.cells #[.int .u8 (q : Int), .int .u8 1] 5)).alloc (.cells #[.int .u8 (q : Int), .int .u8 2] 5)).heap.size = w.heap.size + 1 + 1 := by simp
 refine ⟨(((Ext.refl w).alloc _).alloc _).alloc _, Ext.at (((Ext.refl _).alloc _).alloc _) (by rw [Zb2]; exact Zad), Ext.at ((Ext.refl _).alloc _) (by rw [← e1, Zb2]; exact Zad), by rw [← e2]; exact Zad, by omega, by omega, by omega, by omega, by omega⟩
def orN (w wr wq : World) (b : Nat) : Prop := (wr.heap.size ≤ b ∧ b < wq.heap.size) ∨ b < w.heap.size
def orA (b0 b1 : Nat) (p : Option Addr) (i : Nat) : Option Addr := if i = 0 then some ⟨b0, 0, none⟩ else if i = 1 then some ⟨b1, 0, none⟩ else p
def orC (C : Nat) (i : Nat) : Nat := if i = 0 then 2 else if i = 1 then 2 else C
theorem Lit3.ents {w0 w W : World} {b0 b1 b2 q : Nat} (h : Lit3 w W b0 b1 b2 q) (hq : q < 256) : EntsIn (orN w0 w W) W (some ⟨b2, 0, none⟩) [[q, 1], [q, 2]] := by
 have hb : ∀ z, z < 256 → ∀ y ∈ [q, z], y < 256 := fun z hz y hy => by
  rcases List.mem_cons.1 hy with rfl | hy
  ·
   exact hq
  ·
   have : y = z := by simpa using hy
   omega
 intro i x hx
 rcases i with _ | _ | i
 ·
  cases hx
  exact ⟨b2, 0, some ⟨b0, 0, none⟩, 2, rfl, .inl ⟨h.l2, lt_of_block h.h2⟩, (Zae h.h2).trans rfl, bytes_at h.h0 (hb 1 (by omega)) (by show 2 ≤ 1000; omega), fun p e => by cases e; exact .inl ⟨h.l0, lt_of_block h.h0⟩⟩
 ·
  cases hx
  exact ⟨b2, 0, some ⟨b1, 0, none⟩, 2, rfl, .inl ⟨h.l2, lt_of_block h.h2⟩, (Zae h.h2).trans rfl, bytes_at h.h1 (hb 2 (by omega)) (by show 2 ≤ 1000; omega), fun p e => by cases e; exact .inl ⟨h.l1, lt_of_block h.h1⟩⟩
 ·
  simp at hx
theorem Lit3.more {w0 w W V : World} {b0 b1 b2 q bs : Nat} (h : Lit3 w W b0 b1 b2 q) (hq : q < 256) (hw : w0.heap.size ≤ w.heap.size) (e : Ext W V) {p : Option Addr} {M C : Nat} {x : List Nat} (hx : BytesAt V p M x) (h0 : 0 < M) (hp : ∀ a, p = some a → a.block < w0.heap.size) (hs : V.heap[bs]? = some (.cells (slV p M C) 66 (0, 0))) :
  ∃ v' w' ao co, (Builtin.append_ #[67, 67] 67 #[.slice (some ⟨b2, 0, none⟩) 2 2, .slice (some ⟨bs, 0, none⟩) 1 1]).run Tryz.prog V = .ok v' w' ∧ v' = .slice ao 3 co ∧ EntsIn (orN w0 w w') w' ao [[q, 1], [q, 2], x] ∧ Only (fun b => b = b2) V w' := by
 have hb : ∀ z, z < 256 → ∀ y ∈ [q, z], y < 256 := fun z hz y hy => by
  rcases List.mem_cons.1 hy with rfl | hy
  ·
   exact hq
  ·
   have : y = z := by simpa using hy
   omega
 obtain ⟨v', w', e1, e2, e3, e4⟩ := own_push (own_two (e.at h.h2)) (by show 2 < 900; omega) (Nat.le_of_lt (lt_of_block (e.at h.h2))) hs
 have ho : Only (fun b => b = b2) V w' := Only.trans (Only.refl _ V) e3 fun b _ q => by have q : some b2 = some b := q; exact (Option.some.inj q).symm
 have hl := hx.len
 have h2V := lt_of_block (e.at h.h2)
 have k0 := ho.at (e.at h.h0) h.n0
 have k1 := ho.at (e.at h.h1) h.n1
 obtain ⟨ao, co, hv, hen⟩ := own_ents (S := orN w0 w w') (ad := orA b0 b1 p) (cp := orC C) (es := [[q, 1], [q, 2], x]) (by rw [← hl] at e2; exact e2) (List.cons_ne_nil _ _) (fun b hb => by
  have hlt := (e2.lt b hb).2
  rcases e4 with e4 | e4
  ·
   rw [e4] at hb
   have hb : some b2 = some b := hb
   cases hb
   exact .inl ⟨h.l2, hlt⟩
  ·
   rw [e4] at hb
   cases hb
   exact .inl ⟨by have := h.ext.size; have := e.size; omega, hlt⟩) (fun i y hy => by
  rcases i with _ | _ | _ | i
  ·
   cases hy
   exact ⟨bytes_at k0 (hb 1 (by omega)) (by show 2 ≤ 1000; omega), fun a ea => by cases ea; exact .inl ⟨h.l0, lt_of_block k0⟩⟩
  ·
   cases hy
   exact ⟨bytes_at k1 (hb 2 (by omega)) (by show 2 ≤ 1000; omega), fun a ea => by cases ea; exact .inl ⟨h.l1, lt_of_block k1⟩⟩
  ·
   cases hy
   refine ⟨?_, fun a ea => .inr (hp a ea)⟩
   rw [hl]
   exact hx.only ho fun k _ hk => by
    obtain ⟨a, ha, rfl⟩ := hk
    have := hp a ha
    have := h.l2
    show ¬ a.block = b2
    omega
  ·
   simp at hy)
 exact ⟨v', w', ao, co, e1, hv, hen, ho⟩
set_option maxRecDepth 100000 in
set_option maxHeartbeats 1500000 in
theorem tapeOrder_c (k n : Int) (la : Option Addr) (len cap : Nat) (Z : Nat → List Nat) (at_ : Int) (w : World) (hg : EtLaid w) (hl : NestAt w la len Z) :
  Calls Tryz.prog 6 #[.int .i64 k, .int .i64 n, .slice la len cap, .int .i64 at_] w fun e w' => e = .returned (.bool true) ∧ Ext w w' := by
 have HL := hid hl
 clear hl
 have HG := hid hg
 have hzc := zero_cfg
 have HCS := hid Cfg.A_size
 clear hg
 go_enter Tryz.func6, Tryz.ntmps6
 go_wp2_with fail
 refine (kfixed_c k n 4 1 _).mono ?_
 rintro e w1 ⟨rfl, x1⟩
 have HGD := hid (show (keepFixed k n 4 1).Good from keepFixed_good k n 4 1 (by omega) (by omega) (by omega) (by omega))
 have HK4 := hid (keepFixed_k4 k n 4 1)
 have HN6 := hid (keepFixed_n6 k n 4 1)
 have HST := hid (show (keepFixed k n 4 1).stripes = 4 from rfl)
 have HSL := hid (show (keepFixed k n 4 1).slots = 1 from rfl)
 generalize keepFixed k n 4 1 = c at *
 obtain ⟨W1, hW1⟩ : ∃ W, w1.alloc (.cells (Cfg.A c) 24) = W := ⟨_, rfl⟩
 have X1 := hid (show Ext w W1 from hW1 ▸ x1.alloc _)
 have HC := hid (show W1.heap[w1.heap.size]? = some (.cells (Cfg.A c) 24 (0, 0)) from hW1 ▸ heap_alloc_new _ _)
 have hbs : (w1.alloc (.cells (Cfg.A Cfg.zero) 24)).heap[w1.heap.size]? = some (.cells (Cfg.A Cfg.zero) 24 (0, 0)) := Zad
 clear x1
 go_wp2_with (guard_target = wpList _ _ _ (⟨none, Op.store _ _ _, _, _, _, none⟩ :: _) _ _; refine Zaa rfl 24 _ _ rfl w1.heap.size rfl (Cfg.A c) _ rfl 24 ?_ hbs ?_ ?_ ?_; (rw [HCS.out]; exact aggCfg); (rw [HCS.out, HCS.out]); exact Cfg.A_one _)
 rw [Zai, hW1]
 clear hbs hW1
 have HLT := hid (lt_of_block HC.out)
 generalize w1.heap.size = g at *
 obtain ⟨m, hm, m1, m128⟩ := sectors_nat c HGD.out
 obtain ⟨nn, hn⟩ : ∃ nn : Nat, c.n = nn := ⟨c.n.toNat, by have := HGD.out.k0; have := HGD.out.k1; omega⟩
 obtain ⟨kk, hk⟩ : ∃ kk : Nat, c.k = kk := ⟨c.k.toNat, by have := HGD.out.k0; omega⟩
 have HNT := hid (show c.n.toNat = nn by omega)
 have HKT := hid (show c.k.toNat = kk by omega)
 have n1 : 1 ≤ nn := by have := HGD.out.k0; have := HGD.out.k1; omega
 have n8 : nn ≤ 6 := by have := HN6.out; omega
 have k1 : 1 ≤ kk := by have := HGD.out.k0; omega
 have k4 : kk ≤ 4 := by have := HK4.out; omega
 have HKN := hid (show kk ≤ nn by have := HGD.out.k1; omega)
 have HM := hid hm; have HN := hid hn; have HK := hid hk
 have xd : Ext W1 W1.drew := (Ext.refl W1).drew
 have lc : Hid (∀ x : SW Ext W1.drew, ∀ j v, (Cfg.A c).toList[j]? = some v → x.w.cell? ((⟨g, 0, none⟩ : Addr).add j) = some v) := hid fun x => Zah ((Ext.trans xd x.ext).at HC.out)
 have c2 : ∀ x : SW Ext W1.drew, x.w.cell? ⟨g, 2, none⟩ = some (.int .i64 nn) := fun x => (Zae ((Ext.trans xd x.ext).at HC.out)).trans (by rw [Cfg.A2, HN.out])
 have sc : Hid (∀ x : SW Ext W1.drew, Calls Tryz.prog 26 #[.agg (Cfg.A c)] x.w fun e w'' => e = .returned (.int .i64 m) ∧ Ext x.w w'') := hid fun x => by
  have := ksectors_c c HGD.out x.w
  rw [HM.out] at this
  exact this
 have HAG := hid (Zat c)
 clear hm hn hk
 refine Zal (S := Ext) (.one [0, 1, 2, 3] 4 (.fin [5, 6, 7, 8, 9])) (by kernel_rfl) (by kernel_rfl) (fun _ _ d _ _ h => by cases d <;> exact h) ?_
 rw [wpS]
 simp only [opsAt, opA, opB, opC, opD, opE, opF, opG]
 iterate 2 ((refine Zab (fun K hK => ?_); go_simp; refine hK _ ?_; clear hK K))
 refine Zan 24 _ rfl ⟨g, 0, none⟩ rfl (Cfg.A c) rfl HAG.out lc.out ?_
 (refine Zab (fun K hK => ?_); go_simp; (apply Exists.intro; refine ⟨fun x => ?_, hK _ ?_⟩; (exact sc.out x); clear hK K))
 refine Zag ?_
 intro V1 hV1
 refine Zax fun K hK => ?_
 go_wp2_with fail
 refine (at_new nn m n1 (by omega) m1 m128 V1).mono ?_
 rintro e w2 ⟨r, rfl, h2, x2⟩
 go_wp2
 refine hK _ _ x2 ?_
 clear hK K
 rw [wpS]
 simp only [opsAt, opA, opB, opC, opD, opE, opF, opG]
 iterate 5 ((refine Zab (fun K hK => ?_); go_simp; refine hK _ ?_; clear hK K))
 refine Zag ?_
 intro V2 hV2
 obtain ⟨S0, hS0⟩ : ∃ S : Nat → Prop, (fun b => b < W1.heap.size) = S := ⟨_, rfl⟩
 have HJ2 := hid (show SE w V2 S0 r (Rck.new nn m) g c [] from hS0 ▸ ⟨(h2.less fun b hb => Nat.lt_of_lt_of_le hb (Ext.trans xd hV1).size).ext hV2, Ext.trans X1.out (Ext.trans xd (Ext.trans hV1 (Ext.trans x2 hV2))), fun b hb => Nat.lt_of_lt_of_le hb X1.out.size, (Ext.trans xd (Ext.trans hV1 (Ext.trans x2 hV2))).at HC.out, HLT.out, fun p hp => by simp at hp⟩)
 clear h2 x2 hV1 hV2 lc c2 sc xd X1 HC HLT hS0
 obtain ⟨R1, R2, e1, e2, e3, hv2, ti2⟩ := TI.start HGD.out HK4.out HN6.out (m := m) (by rw [HM.out]; exact Int.le_refl _)
 rw [HNT.out] at e1
 have HE1 := hid e1; have HE2 := hid e2; have HRO := hid e3; have HV2 := hid hv2; have HTI := hid ti2
 have HVE := hid (show VE w V2 S0 r (Rck.new nn m) from ⟨HJ2.out.rack, HJ2.out.ext, HJ2.out.low⟩)
 have HCB := hid (show CBlkAt V2 g c from HJ2.out.cfg)
 have HSG := hid HJ2.out.cfgS
 clear e1 e2 e3 hv2 ti2 HJ2
 go_wp2_with (guard_target = wpList _ _ _ (⟨some _, Op.load _ _, _, _, _, some _⟩ :: _) _ _; refine Zaw 24 _ rfl ⟨g, 0, none⟩ rfl (Cfg.A c) rfl (Zat c) (Zah HCB.out) ?_)
 refine (vmake_c HVE.out.rack c).mono ?_
 rintro e w3 ⟨rfl, h3, k3⟩
 rw [HE1.out] at h3 ⊢
 simp only [oErr]
 have HVF := hid (HVE.out.keep h3 k3)
 have HCD := hid (show CBlkAt w3 g c from k3.at HCB.out fun q => q HSG.out)
 clear h3 k3 HVE HCB
 go_wp2_with fail
 refine (topen_c HVF.out.rack HRO.out).mono ?_
 rintro e w4 h4
 rw [HE2.out] at h4
 rcases h4 with ⟨_, q, _⟩ | ⟨_, gv, t, T, ao, co, hok⟩
 ·
  cases q
 obtain rfl := hok.ret
 have HX4 := hid (show TX w w4 T r R2 g c gv ⟨c, 1, false⟩ t 0 from TX.start HVF.out HCD.out HSG.out hok)
 clear hok HVF HCD HE1 HE2 HRO
 have HBG := hid (show g < w4.heap.size ∧ gv < w4.heap.size ∧ t < w4.heap.size ∧ w.heap.size ≤ w4.heap.size from ⟨lt_of_block HX4.out.vx.cfg, lt_of_block HX4.out.vx.vol, lt_of_block HX4.out.tape, HX4.out.ext.size⟩)
 obtain ⟨B, hB⟩ : ∃ B, w4.heap.size = B := ⟨_, rfl⟩
 have HBW := hid (show B ≤ w4.heap.size by omega)
 rw [hB] at HBG
 clear hB
 go_wp2_with fail
 go_loopw [16, 15] (fun ti tw wr => ∃ q u : Nat, ti = .int .i64 q ∧ q ≤ 6 ∧ u = min q 4 ∧ B ≤ wr.heap.size ∧ ∃ (R : Rck) (S : Nat → Prop) (j : Nat → Option Rcd) (f : Strs) (ad : Nat → Option Addr) (cp : Nat → Nat), TX w wr S r R g c gv ⟨c, 1 + (u : Int), false⟩ t u ∧ VH R c m true j f ∧ TI c (1 + (u : Int)) j f (ordL Z len u) ∧ TKeep (orP S gv t) wr B tw (ordL Z len u) ad cp) (fun ti _ _ => 6 - (intOf ti).toNat)
 case atStart => exact ⟨0, 0, rfl, by omega, rfl, HBW.out, _, _, _, _, _, _, HX4.out, HV2.out, HTI.out, TKeep.nil _ _ _⟩
 case round =>
  clear HX4 HV2 HTI HBW
  obtain ⟨q, u, rfl, hq, hu, hbw, R, S, j, f, ad, cp, hx, hvh, hti, hk⟩ := hrel
  have HU := hid hu; have HBW := hid hbw; have HX := hid hx; have HVH := hid hvh; have HTI := hid hti; have HK := hid hk
  clear hu hbw hx hvh hti hk
  by_cases hlt6 : q < 6
  ·
   have i1 : (q : Int) < 6 := by omega
   have i0 : (0 : Int) ≤ (q : Int) := by omega
   go_upto_region 12 with (fail)
   go_cut [17] (fun tox wq => ∃ b0 b1 b2 : Nat, tox = .slice (some ⟨b2, 0, none⟩) 2 2 ∧ Lit3 wr wq b0 b1 b2 q)
   case first =>
    go_wp2_with fail
    go_meet
    case rel => exact ⟨wr.heap.size, wr.heap.size + 1, wr.heap.size + 1 + 1, rfl, Lit3.mk3 wr q⟩
   case rest =>
    obtain ⟨b0, b1, b2, rfl, h3⟩ := hcut
    generalize wc = W5 at *
    have HL3 := hid h3
    clear h3
    go_upto_region 13 with (fail)
    go_cut [91] (fun tb wq => tb = .bool (decide (q < len ∧ 0 < (Z q).length)) ∧ W5 = wq)
    case first =>
     by_cases hlt : q < len
     ·
      have i2 : (q : Int) < (len : Int) := by omega
      obtain ⟨g0, off, p, C, rfl, hc, _, _, _, _⟩ := HL.out q hlt
      have cl : W5.cell? ⟨g0, off + q, none⟩ = some (.slice p (Z q).length C) := Ext.cell (Ext.trans HX.out.ext HL3.out.ext) hc
      clear hc
      by_cases h0 : 0 < (Z q).length
      ·
       have h0i : (0 : Int) < ((Z q).length : Int) := by omega
       have HD := hid (decide_eq_true (show q < len ∧ 0 < (Z q).length from ⟨hlt, h0⟩))
       go_wp2_with fail
       go_meet
       case rel => exact ⟨by rw [HD.out], rfl⟩
      ·
       have h0i : ((0 : Int) < ((Z q).length : Int)) = False := eq_false (by omega)
       have HD := hid (decide_eq_false (show ¬ (q < len ∧ 0 < (Z q).length) from fun z => h0 z.2))
       go_wp2_with fail
       go_meet
       case rel => exact ⟨by rw [HD.out], rfl⟩
     ·
      have i2 : ¬ (q : Int) < (len : Int) := by omega
      have HD := hid (decide_eq_false (show ¬ (q < len ∧ 0 < (Z q).length) from fun z => hlt z.1))
      go_wp2_with fail
      go_meet
      case rel => exact ⟨by rw [HD.out], rfl⟩
    case rest =>
     obtain ⟨rfl, rfl⟩ := hcut
     obtain ⟨bb, hbb⟩ : ∃ bb, decide (q < len ∧ 0 < (Z q).length) = bb := ⟨_, rfl⟩
     rw [hbb]
     have HBB := hid hbb
     clear hbb
     go_upto_if 91 with (fail)
     go_cut [17] (fun tox wq => ∃ (ao : Option Addr) (co : Nat), tox = .slice ao (ordE Z len q).length co ∧ Ext wr wq ∧ EntsIn (orN w wr wq) wq ao (ordE Z len q))
     case first =>
      rcases bb with _ | _
      ·
       have HNO := hid (of_decide_eq_false HBB.out)
       go_wp2_with fail
       go_meet
       case rel => exact ⟨some ⟨b2, 0, none⟩, 2, by rw [ordE_no HNO.out]; rfl, HL3.out.ext, by rw [ordE_no HNO.out]; exact HL3.out.ents (by omega)⟩
      ·
       have HYE := hid (of_decide_eq_true HBB.out)
       obtain ⟨hlt, hz0⟩ := HYE.out
       have i2 : (q : Int) < (len : Int) := by omega
       obtain ⟨g0, off, p, C, rfl, hc, hzc2, hc63, hpn, hbz⟩ := HL.out q hlt
       have hgl := cell_lt hc
       have hsz := HX.out.ext.size
       have xd : Ext W5 W5.drew := (Ext.refl W5).drew
       have HXD := hid xd
       have cl : ∀ y : SW (Only fun b => wr.heap.size ≤ b) W5.drew, y.w.cell? ⟨g0, off + q, none⟩ = some (.slice p (Z q).length C) := fun y => Only.cell y.ext (Ext.cell (Ext.trans HX.out.ext (Ext.trans HL3.out.ext HXD.out)) hc) (by show ¬ wr.heap.size ≤ g0; omega)
       clear xd hc
       by_cases hml : 60 < (Z q).length
       ·
        have tm : (60 : Int) < ((Z q).length : Int) := by omega
        have hmcI : (60 : Int) ≤ (C : Int) := by omega
        have HMM := hid (show 60 = min (Z q).length 60 by omega)
        have HBP := hid (hbz 60 (by omega) (by omega))
        have hmc : 60 ≤ C := by omega
        have hM0 : 0 < 60 := by omega
        have HPL := hid (show ∀ a, p = some a → a.block < w.heap.size from fun a ea => by
         rcases HBP.out.cells with z | ⟨b, o, eb, hcz⟩
         ·
          omega
         ·
          rw [eb] at ea; cases ea
          exact cell_lt (hcz 0 hM0))
        clear hbz
        go_wp2_with fail
        refine Zav (E := Ext) (S := Only fun b => wr.heap.size ≤ b) (.one [0, 1, 2, 3, 4, 5, 6, 7, 8, 9, 10, 11] 12 (.one [] 13 (.fin [14]))) (by kernel_rfl) (by kernel_rfl) (fun _ _ d _ _ h => by cases d <;> exact h) ?_
        rw [wpS]
        simp only [opsAt, opA, opB, opC, opD, opE, opF, opG]
        iterate 12 ((refine Zab (fun K hK => ?_); go_simp; refine hK _ ?_; clear hK K))
        refine Zag ?_
        intro V1 hV1
        have HX1 := hid (Ext.trans HXD.out hV1)
        clear hV1 cl HXD
        refine Zax fun Q1 hQ1 => ?_
        go_wp2_with fail
        refine hQ1 _ _ (Ext.only ((Ext.refl V1).alloc _)) ?_
        clear hQ1 Q1
        rw [wpS]
        simp only [opsAt, opA, opB, opC, opD, opE, opF, opG]
        refine Zag ?_
        intro V2 hV2
        have hb2' : V2.heap[V1.heap.size]? = some (.cells (slV p 60 C) 66 (0, 0)) := Ext.at hV2 Zad
        have hx12 : Ext V1 V2 := Ext.trans ((Ext.refl V1).alloc _) hV2
        have HX2 := hid (Ext.trans HX1.out hx12)
        obtain ⟨v3, W3, ao3, co3, hap, rfl, hen, hon⟩ := HL3.out.more (w0 := w) (by omega) hsz HX2.out ((HBP.out.ext (Ext.trans HX.out.ext HL3.out.ext)).ext HX2.out) hM0 HPL.out hb2'
        generalize V1.heap.size = b3 at *
        have HAP := hid hap
        have HW3 := hid (show Ext wr W3 from Ext.then (Ext.trans HL3.out.ext HX2.out) hon fun q hq e => by have e : q = b2 := e; have := HL3.out.l2; omega)
        have HEN := hid (show EntsIn (orN w wr W3) W3 ao3 (ordE Z len q) from by
         rw [ordE_yes HYE.out, ← take_min HMM.out]; exact hen)
        have HLE := hid (show 3 = (ordE Z len q).length by rw [ordE_yes HYE.out]; rfl)
        clear hap hen hV2 hx12 hb2' HX1
        refine Zax fun Q2 hQ2 => ?_
        go_wp2_with (at_builtin; refine Zaj rfl _ _ _ rfl _ _ _ _ rfl rfl HAP.out ?_)
        go_wp2
        refine hQ2 _ _ (Only.trans (Only.refl _ V2) hon fun b _ e => by have e : b = b2 := e; have := HL3.out.l2; show wr.heap.size ≤ b; omega) ?_
        clear hQ2 Q2 hon HAP
        rw [wpS]
        simp only [opsAt, opA, opB, opC, opD, opE, opF, opG]
        (refine Zab (fun K hK => ?_); go_simp; refine hK _ ?_; clear hK K)
        refine Zag ?_
        intro V4 hV4
        have HX4' := hid (Ext.trans HW3.out hV4)
        have HE4 := hid ((HEN.out.ext hV4).mono fun b hb => (hb.imp (fun z => ⟨z.1, Nat.lt_of_lt_of_le z.2 hV4.size⟩) id : orN w wr V4 b))
        clear hV4 HEN HW3
        go_wp2
        go_meet
        case rel => exact ⟨ao3, co3, by rw [← HLE.out], HX4'.out, HE4.out⟩
       ·
        have tm : ((60 : Int) < ((Z q).length : Int)) = False := eq_false (by omega)
        have HMM := hid (show (Z q).length = min (Z q).length 60 by omega)
        have HBP := hid (hbz (Z q).length (by omega) (by omega))
        have hmc : (Z q).length ≤ C := by omega
        have hM0 : 0 < (Z q).length := by omega
        have HPL := hid (show ∀ a, p = some a → a.block < w.heap.size from fun a ea => by
         rcases HBP.out.cells with z | ⟨b, o, eb, hcz⟩
         ·
          omega
         ·
          rw [eb] at ea; cases ea
          exact cell_lt (hcz 0 hM0))
        clear hbz
        go_wp2_with fail
        refine Zav (E := Ext) (S := Only fun b => wr.heap.size ≤ b) (.one [0, 1, 2, 3, 4, 5, 6, 7, 8, 9, 10, 11] 12 (.one [] 13 (.fin [14]))) (by kernel_rfl) (by kernel_rfl) (fun _ _ d _ _ h => by cases d <;> exact h) ?_
        rw [wpS]
        simp only [opsAt, opA, opB, opC, opD, opE, opF, opG]
        iterate 12 ((refine Zab (fun K hK => ?_); go_simp; refine hK _ ?_; clear hK K))
        refine Zag ?_
        intro V1 hV1
        have HX1 := hid (Ext.trans HXD.out hV1)
        clear hV1 cl HXD
        refine Zax fun Q1 hQ1 => ?_
        go_wp2_with fail
        refine hQ1 _ _ (Ext.only ((Ext.refl V1).alloc _)) ?_
        clear hQ1 Q1
        rw [wpS]
        simp only [opsAt, opA, opB, opC, opD, opE, opF, opG]
        refine Zag ?_
        intro V2 hV2
        have hb2' : V2.heap[V1.heap.size]? = some (.cells (slV p (Z q).length C) 66 (0, 0)) := Ext.at hV2 Zad
        have hx12 : Ext V1 V2 := Ext.trans ((Ext.refl V1).alloc _) hV2
        have HX2 := hid (Ext.trans HX1.out hx12)
        obtain ⟨v3, W3, ao3, co3, hap, rfl, hen, hon⟩ := HL3.out.more (w0 := w) (by omega) hsz HX2.out ((HBP.out.ext (Ext.trans HX.out.ext HL3.out.ext)).ext HX2.out) hM0 HPL.out hb2'
        generalize V1.heap.size = b3 at *
        have HAP := hid hap
        have HW3 := hid (show Ext wr W3 from Ext.then (Ext.trans HL3.out.ext HX2.out) hon fun q hq e => by have e : q = b2 := e; have := HL3.out.l2; omega)
        have HEN := hid (show EntsIn (orN w wr W3) W3 ao3 (ordE Z len q) from by
         rw [ordE_yes HYE.out, ← take_min HMM.out]; exact hen)
        have HLE := hid (show 3 = (ordE Z len q).length by rw [ordE_yes HYE.out]; rfl)
        clear hap hen hV2 hx12 hb2' HX1
        refine Zax fun Q2 hQ2 => ?_
        go_wp2_with (at_builtin; refine Zaj rfl _ _ _ rfl _ _ _ _ rfl rfl HAP.out ?_)
        go_wp2
        refine hQ2 _ _ (Only.trans (Only.refl _ V2) hon fun b _ e => by have e : b = b2 := e; have := HL3.out.l2; show wr.heap.size ≤ b; omega) ?_
        clear hQ2 Q2 hon HAP
        rw [wpS]
        simp only [opsAt, opA, opB, opC, opD, opE, opF, opG]
        (refine Zab (fun K hK => ?_); go_simp; refine hK _ ?_; clear hK K)
        refine Zag ?_
        intro V4 hV4
        have HX4' := hid (Ext.trans HW3.out hV4)
        have HE4 := hid ((HEN.out.ext hV4).mono fun b hb => (hb.imp (fun z => ⟨z.1, Nat.lt_of_lt_of_le z.2 hV4.size⟩) id : orN w wr V4 b))
        clear hV4 HEN HW3
        go_wp2
        go_meet
        case rel => exact ⟨ao3, co3, by rw [← HLE.out], HX4'.out, HE4.out⟩
     case rest =>
      obtain ⟨ao2, co2, rfl, hxe, hen⟩ := hcut
      generalize wc = W6 at *
      obtain ⟨es, hes⟩ : ∃ es, ordE Z len q = es := ⟨_, rfl⟩
      have HEL := hid (hes ▸ ordE_len Z len q)
      have HFT := hid (show Tp.fits c.k.toNat es from hes ▸ HKT.out ▸ ordE_fits k1 Z len q)
      have HSU := hid (show ordL Z len q ++ [es] = ordL Z len (q + 1) from hes ▸ ordL_succ Z len q)
      rw [hes] at hen ⊢
      have HXE := hid hxe; have HEN := hid hen
      have HBY := hid (show ∀ x ∈ es, ∀ y ∈ x, y < 256 from hen.ents.byte)
      clear hes hxe hen HL3 HBB bb b0 b1
      obtain ⟨S6, hS6⟩ : ∃ S', wideS S wr W6 = S' := ⟨_, rfl⟩
      have HXW := hid (show TX w W6 S6 r R g c gv ⟨c, 1 + (u : Int), false⟩ t u from hS6 ▸ HX.out.wide HXE.out)
      have HKW := hid (show TKeep (orP S6 gv t) W6 B u15 (ordL Z len u) ad cp from (HK.out.ext HXE.out).mono fun b hb => ⟨hS6 ▸ .inl hb.1, hb.2⟩)
      have HEW := hid (show EntsIn (fun b => orP S6 gv t b ∧ b < W6.heap.size ∧ u15.ownBlock ≠ some b) W6 ao2 es from HEN.out.mono fun b hb => by
       have hbg := HBG.out
       rcases hb with hb | hb
       ·
        exact ⟨⟨hS6 ▸ .inr hb, by have := lt_of_block HX.out.vx.vol; omega, by have := lt_of_block HX.out.tape; omega⟩, hb.2, fun e => by have := (HK.out.own.lt b e).2; omega⟩
       ·
        exact ⟨⟨hS6 ▸ .inl (HX.out.vx.ve.low b hb), by have := HX.out.vx.gw; omega, by have := HX.out.tw; omega⟩, by have := HX.out.ext.size; have := HXE.out.size; omega, fun e => by have := (HK.out.own.lt b e).1; omega⟩)
      have HBW6 := hid (show B ≤ W6.heap.size from Nat.le_trans HBW.out HXE.out.size)
      clear hS6 HX HK HEN HXE HBW
      have ta := hid (tappend_c HXW.out.rack HXW.out.vx.vol HXW.out.tape HXW.out.vx.gS HXW.out.tS HXW.out.tg (show (0 : Int) ≤ 1 + (u : Int) by omega) HGD.out (by have := HU.out; omega) es (by have := HEL.out; omega) ao2 co2 HEW.out.ents)
      by_cases hq4 : q < 4
      ·
       obtain rfl : q = u := by have := HU.out; omega
       have i4 : ((4 : Int) ≤ (q : Int)) = False := eq_false (by omega)
       have i5 : (q : Int) < 4 := by omega
       obtain ⟨R', j', f', ha, hv, hti⟩ := HTI.out.append HVH.out HM.out.symm HK4.out HN6.out (by omega) (by rw [ordL_len, HST.out]; show q < 4; omega) (es := es) HFT.out HBY.out
       rw [ordL_len] at ha
       rw [HSU.out] at hti
       rw [show 1 + (q : Int) + 1 = 1 + ((q + 1 : Nat) : Int) by omega] at ha hti
       rw [ha] at ta
       have HVH' := hid hv; have HTI' := hid hti
       clear ha hv hti HVH HTI
       go_wp2_with fail
       refine ta.out.mono ?_
       rintro e w7 h7
       obtain rfl := h7.ret
       have HX7 := hid (HXW.out.app h7)
       have HK7 := hid (HKW.out.only h7.only fun b hb => TX.app_keep h7 b hb)
       have HE7 := hid ((HEW.out.only h7.only fun b hb => TX.app_keep h7 b hb.1).mono fun b hb => (⟨hb.1, Nat.lt_of_lt_of_le hb.2.1 h7.only.size, hb.2.2⟩ : orP S6 gv t b ∧ b < w7.heap.size ∧ _))
       have HB7 := hid (show B ≤ w7.heap.size from Nat.le_trans HBW6.out h7.only.size)
       obtain ⟨v8, w8, ad8, cp8, hap, hk8, hon8⟩ := HK7.out.push (c := co2) HE7.out (by have := HEL.out; omega) (by rw [ordL_len]; omega) HB7.out
       have HAP := hid hap
       have HSV := hid (show (tapV ao2 es.length co2).size = 1 from rfl)
       have HX8 := hid (show TX w w8 (wideS S6 w7 w8) r R' g c gv ⟨c, 1 + ((q + 1 : Nat) : Int), false⟩ t (q + 1) from HX7.out.pokes hon8 fun b hb => by
        have hbg := HBG.out
        have hl := (HK7.out.own.lt b hb).1
        exact ⟨(HK7.out.ownP b hb).1, by omega, by omega, by omega, by omega⟩)
       have HK8 := hid (show TKeep (orP (wideS S6 w7 w8) gv t) w8 B v8 (ordL Z len (q + 1)) ad8 cp8 from by
        have hbg := HBG.out
        have hb7 := HB7.out
        rw [← HSU.out]
        exact hk8.mono fun b hb => hb.elim (fun z => ⟨.inl z.1, z.2⟩) fun z => ⟨.inr z, by omega, by omega⟩)
       have HB8 := hid (show B ≤ w8.heap.size from Nat.le_trans HB7.out hon8.size)
       have tu : Hid (Calls Tryz.prog 33 #[.pointer (some ⟨t, 0, none⟩)] w7 fun e w' => e = .returned (.int .i64 ((q : Int) + 1)) ∧ w7 = w') := hid ((tused_c HX7.out.tape).mono fun e w' z => ⟨by rw [z.1]; rfl, z.2⟩)
       have hw1 : wrap64 ((q : Int) + 1) = (q : Int) + 1 := by unfold wrap64; omega
       simp only [oErr]
       clear h7 ta hap hk8 hon8 HXW HKW HEW HX7 HK7 HE7 HB7 HBW6
       go_wp2_with fail
       refine tu.out.mono ?_
       rintro e _ ⟨rfl, rfl⟩
       go_wp2_with (first
        | (guard_target = wpList _ _ _ (⟨some _, Op.buildSlice _ _ _, _, _, _, none⟩ :: _) _ _; refine Zak rfl 60 67 _ rfl (tapV ao2 es.length co2) _ _ 1 24 Tryz.underlying60 infoRows (by omega) (by omega) rfl rfl HSV.out ?_)
        | (at_builtin; refine Zaj rfl _ _ _ rfl _ _ _ _ rfl rfl HAP.out ?_))
       go_roundw
       case rel => exact ⟨q + 1, q + 1, by go_num, by omega, by omega, HB8.out, R', _, j', f', ad8, cp8, HX8.out, HVH'.out, HTI'.out, HK8.out⟩
       case measure => simp [intOf]; omega
      ·
       obtain rfl : u = 4 := by have := HU.out; omega
       have i4 : (4 : Int) ≤ (q : Int) := by omega
       rw [tappend_full HFT.out (by rw [HST.out]; decide)] at ta
       obtain ⟨er, her⟩ : ∃ er, Err.fault sTAppend ((4 : Nat) : Int) (.no 8) = er := ⟨_, rfl⟩
       have HKE := hid (show er.kind = 8 by rw [← her]; rfl)
       rw [her] at ta
       obtain ⟨et, ev, hev⟩ := er.iface
       have HEV := hid hev
       clear her
       go_wp2_with fail
       refine ta.out.mono ?_
       rintro e w7 h7
       obtain rfl := h7.ret
       have HX7 := hid (HXW.out.app h7)
       have HK7 := hid (HKW.out.only h7.only fun b hb => TX.app_keep h7 b hb)
       have HB7 := hid (show B ≤ w7.heap.size from Nat.le_trans HBW6.out h7.only.size)
       simp only [oErr]
       rw [hev]
       clear h7 ta hev HXW HKW HEW HBW6
       go_wp2_with (go_at_call 17; fail)
       refine Calls.mono (by rw [← HEV.out]; exact kind_err er _ (HG.out.only HX7.out.ext (fun x => x))) ?_
       rintro e w8 ⟨rfl, x8⟩
       rw [HKE.out]
       have HX8 := hid (HX7.out.more x8)
       have HK8 := hid (HK7.out.ext x8)
       have HB8 := hid (show B ≤ w8.heap.size from Nat.le_trans HB7.out x8.size)
       clear x8 HX7 HK7 HB7
       go_wp2_with fail
       go_roundw
       case rel => exact ⟨q + 1, 4, by go_num, by omega, by omega, HB8.out, R, S6, j, f, ad, cp, HX8.out, HVH.out, HTI.out, HK8.out⟩
       case measure => simp [intOf]; omega
  ·
   have i1 : ¬ (q : Int) < 6 := by omega
   obtain rfl : u = 4 := by have := HU.out; omega
   obtain ⟨aw, cw, hsl, htp⟩ := HK.out.slice
   rw [ordL_len] at hsl
   subst hsl
   have HTP := hid htp
   have HGET := hid (fun (s : Nat) (hs : s < 4) => by
    have := HTI.out.get HVH.out HK4.out HN6.out (ordL_get Z len 4 hs)
    rw [ordL_len] at this
    exact this)
   generalize wr = w9 at *
   clear htp HVH HTI HK HBW HU
   go_wp2_with fail
   go_loopw [141] (fun ti wd => ∃ s : Nat, ti = .int .i64 s ∧ s ≤ 4 ∧ Ext w9 wd) (fun ti _ => 4 - (intOf ti).toNat)
   case atStart => exact ⟨0, rfl, by omega, Ext.refl _⟩
   case round =>
    obtain ⟨s, rfl, hs, hx9⟩ := hrel
    have HXX := hid hx9
    clear hx9
    by_cases hs4 : s < 4
    ·
     have s1 : (s : Int) < 4 := by omega
     have s0 : (0 : Int) ≤ (s : Int) := by omega
     obtain ⟨gt1, gt2, gt3⟩ := HGET.out s hs4
     have GT1 := hid gt1; have GT2 := hid gt2; have GT3 := hid gt3
     obtain ⟨g1, off1, p1, cp1, rfl, hc1, _, he1⟩ := HTP.out s _ (ordL_get Z len 4 hs4)
     have HE1 := hid he1
     have cl : wr.cell? ⟨g1, off1 + s, none⟩ = some (.slice p1 (ordE Z len s).length cp1) := Ext.cell HXX.out hc1
     have HEL := hid (ordE_len Z len s)
     generalize ordE Z len s = es at *
     generalize wr = wa at *
     clear gt1 gt2 gt3 hc1 he1
     go_wp2_with fail
     go_loopw [148] (fun ti wd => ∃ i : Nat, ti = .int .i64 i ∧ i ≤ es.length ∧ Ext w9 wd) (fun ti _ => es.length - (intOf ti).toNat)
     case atStart => exact ⟨0, rfl, by omega, HXX.out⟩
     case round =>
      clear HXX cl
      obtain ⟨i, rfl, hi, hx9⟩ := hrel
      have HXX := hid hx9
      have HXC := hid (HX.out.more hx9)
      clear hx9
      by_cases hil : i < es.length
      ·
       have j1 : (i : Int) < (es.length : Int) := by omega
       have j0 : (0 : Int) ≤ (i : Int) := by omega
       obtain ⟨x, hxi⟩ : ∃ x, es[i]? = some x := ⟨_, List.getElem?_eq_getElem hil⟩
       obtain ⟨g2, off2, p2, cp2, rfl, hc2, hb2⟩ := HE1.out i x hxi
       have HB2 := hid (hb2.ext HXX.out)
       have cl : wr.cell? ⟨g2, off2 + i, none⟩ = some (.slice p2 x.length cp2) := Ext.cell HXX.out hc2
       have tg := hid (tget_c HXC.out.rack HXC.out.vx.vol HXC.out.tape (s : Int) (i : Int) GT3.out)
       rw [GT1.out i hil, show es.getD i [] = x by rw [List.getD_eq_getElem?_getD, hxi]; rfl] at tg
       clear hxi hc2 hb2
       go_wp2_with fail
       refine tg.out.mono ?_
       rintro e w10 ⟨x10, a10, c10, rfl, hb10⟩
       have sm := hid (same_c c10 cp2 hb10 (HB2.out.ext x10))
       rw [decide_eq_true rfl] at sm
       have HX10 := hid (Ext.trans HXX.out x10)
       simp only [oErr]
       clear tg x10 hb10 HB2 cl HXC HXX
       go_wp2_with fail
       refine sm.out.mono ?_
       rintro e w11 ⟨rfl, x11⟩
       have HX11 := hid (Ext.trans HX10.out x11)
       clear sm x11 HX10
       go_wp2_with fail
       go_roundw
       case rel => exact ⟨i + 1, by go_num, by omega, HX11.out⟩
       case measure => simp [intOf]; omega
      ·
       have j1 : ¬ (i : Int) < (es.length : Int) := by omega
       obtain ⟨y0, y1⟩ := Zb8 at_ 0 3 (by omega)
       obtain ⟨y, hy⟩ := Int.eq_ofNat_of_zero_le y0
       have wi : Hid (Calls Tryz.prog 12 #[.int .i64 at_, .int .i64 0, .int .i64 3] wr fun e w' => e = .returned (.int .i64 (y : Int)) ∧ wr = w') := hid ((within_c at_ 0 3 wr (by omega) (by omega) (by omega)).mono fun e w' z => ⟨by rw [z.1, hy], z.2⟩)
       have hel := HEL.out
       have hy3 : y ≤ 3 := by omega
       have HW1 := hid (show IntKind.i64.wrap ((es.length : Int) + (y : Int)) = (es.length : Int) + (y : Int) by rw [IntKind.wrap_i64]; omega)
       have tg := hid (tget_c HXC.out.rack HXC.out.vx.vol HXC.out.tape (s : Int) ((es.length : Int) + (y : Int)) GT3.out)
       rw [show Vol.tget ⟨c, 1 + ((4 : Nat) : Int), false⟩ R 4 (s : Int) ((es.length : Int) + (y : Int)) = (some (.fault sTGet s (.no 10)), []) from by
        have := GT2.out (es.length + y) (by omega)
        rw [Int.natCast_add] at this
        exact this] at tg
       obtain ⟨er, her⟩ : ∃ er, Err.fault sTGet (s : Int) (.no 10) = er := ⟨_, rfl⟩
       have HKE := hid (show er.kind = 10 by rw [← her]; rfl)
       rw [her] at tg
       obtain ⟨et, ev, hev⟩ := er.iface
       have HEV := hid hev
       clear her hy y0 y1 hel
       go_wp2_with fail
       refine wi.out.mono ?_
       rintro e _ ⟨rfl, rfl⟩
       have hw1 := HW1.out
       go_wp2_with fail
       refine tg.out.mono ?_
       rintro e w10 ⟨x10, a10, c10, rfl, _⟩
       have HX10 := hid (Ext.trans HXX.out x10)
       simp only [oErr, List.length_nil]
       rw [hev]
       clear tg x10 hev HXX wi hw1
       go_wp2_with (go_at_call 17; fail)
       refine Calls.mono (by rw [← HEV.out]; exact kind_err er _ (HG.out.only (HX.out.more HX10.out).ext (fun x => x))) ?_
       rintro e w11 ⟨rfl, x11⟩
       rw [HKE.out]
       have HX11 := hid (Ext.trans HX10.out x11)
       clear x11 HX10
       go_wp2_with fail
       go_roundw
       case rel => exact ⟨s + 1, by go_num, by omega, HX11.out⟩
       case measure => simp [intOf]; omega
    ·
     have s1 : ¬ (s : Int) < 4 := by omega
     have HXC := hid (HX.out.more HXX.out)
     have tg := hid (tget_c HXC.out.rack HXC.out.vx.vol HXC.out.tape 4 0 (read_out (.inr (by rw [HST.out]; decide))))
     rw [tget_out _ _ _ (.inr (by decide))] at tg
     obtain ⟨er1, her⟩ : ∃ er, Err.fault sTGet 4 (.no 10) = er := ⟨_, rfl⟩
     have HK1 := hid (show er1.kind = 10 by rw [← her]; rfl)
     rw [her] at tg
     clear her
     obtain ⟨et1, ev1, hev1⟩ := er1.iface
     have HEV1 := hid hev1
     go_wp2_with fail
     refine tg.out.mono ?_
     rintro e w10 ⟨x10, a10, c10, rfl, _⟩
     simp only [oErr, List.length_nil]
     rw [hev1]
     have HXD := hid (HXC.out.more x10)
     have tg2 := hid (tget_c HXD.out.rack HXD.out.vx.vol HXD.out.tape (-1) 0 (read_out (.inl (by decide))))
     rw [tget_out _ _ _ (.inl (by decide))] at tg2
     obtain ⟨er2, her⟩ : ∃ er, Err.fault sTGet (-1) (.no 10) = er := ⟨_, rfl⟩
     have HK2 := hid (show er2.kind = 10 by rw [← her]; rfl)
     rw [her] at tg2
     clear her
     obtain ⟨et2, ev2, hev2⟩ := er2.iface
     have HEV2 := hid hev2
     clear tg x10 hev1 HXC HXX
     go_wp2_with fail
     refine tg2.out.mono ?_
     rintro e w11 ⟨x11, a11, c11, rfl, _⟩
     simp only [oErr, List.length_nil]
     rw [hev2]
     have HXE := hid (HXD.out.more x11)
     have ta := hid (tappend_c HXE.out.rack HXE.out.vx.vol HXE.out.tape HXE.out.vx.gS HXE.out.tS HXE.out.tg (show (0 : Int) ≤ 1 + ((4 : Nat) : Int) by decide) HGD.out (by decide) [] (by decide) none 0 (EntsAt.nil _ _))
     rw [tappend_nil, List.length_nil] at ta
     obtain ⟨er3, her⟩ : ∃ er, Err.fault sTAppend ((4 : Nat) : Int) (.no 11) = er := ⟨_, rfl⟩
     have HK3 := hid (show er3.kind = 11 by rw [← her]; rfl)
     rw [her] at ta
     clear her
     obtain ⟨et3, ev3, hev3⟩ := er3.iface
     have HEV3 := hid hev3
     clear tg2 x11 hev2 HXD
     go_wp2_with fail
     refine ta.out.mono ?_
     rintro e w12 h12
     obtain rfl := h12.ret
     have HXF := hid (HXE.out.app h12).ext
     simp only [oErr]
     rw [hev3]
     clear ta h12 hev3 HXE
     go_wp2_with (go_at_call 17; fail)
     refine Calls.mono (by rw [← HEV1.out]; exact kind_err er1 _ (HG.out.only HXF.out (fun x => x))) ?_
     rintro e w13 ⟨rfl, x13⟩
     rw [HK1.out]
     have HXG := hid (Ext.trans HXF.out x13)
     clear x13 HXF
     go_wp2_with (go_at_call 17; fail)
     refine Calls.mono (by rw [← HEV2.out]; exact kind_err er2 _ (HG.out.only HXG.out (fun x => x))) ?_
     rintro e w14 ⟨rfl, x14⟩
     rw [HK2.out]
     have HXH := hid (Ext.trans HXG.out x14)
     clear x14 HXG
     go_wp2_with (go_at_call 17; fail)
     refine Calls.mono (by rw [← HEV3.out]; exact kind_err er3 _ (HG.out.only HXH.out (fun x => x))) ?_
     rintro e w15 ⟨rfl, x15⟩
     rw [HK3.out]
     have HXI := hid (Ext.trans HXH.out x15)
     clear x15 HXH
     go_wp2_with fail
     refine (tapeRuns_c _).mono ?_
     rintro e w16 ⟨rfl, x16⟩
     have HXJ := hid (Ext.trans HXI.out x16)
     clear x16
     go_wp2
     go_ret
     exact ⟨rfl, HXJ.out⟩
end Go.Proofs.YtbdfjiedceaoiaaGreatDoor
namespace Go.Proofs.YtbdfjiedceaoiaaGreatDoor.tapeOrder
open Go.ChangeShapes Go.WideShapes Go.ChangeAt Go.RowKit
open Go.ChangeMaps (open_string shut_string)
set_option linter.unusedVariables false
theorem laidOut : laidOutB Tryz.prog = true := by kernel_rfl
theorem walk (a0 : Int) (a1 : Int) (a2 : Option Addr) (len2 cap2 : Nat) (z2 : Nat → List Nat) (a3 : Int) (w : World) (hg : EtLaid w) (w2 : NestAt w a2 len2 z2) :
  Calls Tryz.prog 6 #[.int .i64 a0, .int .i64 a1, .slice a2 len2 cap2, .int .i64 a3] w fun e w' => e = .returned (.bool true) ∧ Below w.heap.size w w' :=
 (tapeOrder_c a0 a1 a2 len2 cap2 z2 a3 w hg w2).mono fun _ _ ⟨he, hx⟩ => ⟨he, hx.below⟩
set_option maxRecDepth 100000 in
theorem lifted (os : Os) (started : os.Started) (H : Type) (enc : TypeId × Value → H) :
  ReturnsInHanded {} Tryz.checked os 6 .any (fun w args => (Rows.tapeOrderSpec.pre enc Tryz.prog Tryz.f6 [] false w args ∧ laidMetH Tryz.prog theLaid w) ∧ sizedMet enc Tryz.prog Tryz.f6 (OpenSpec.ofChange Rows.tapeOrderSpec) false w args)
   (Rows.tapeOrderSpec.post enc Tryz.prog Tryz.f6 false true false false) := by
 refine returnsInHanded_of_change_and (C := Tryz.checked) (X := fun w _ => laidMetH Tryz.prog theLaid w) (fun _ _ _ hh h => h.of_heap hh) hOwn started (by kernel_rfl) Tryz.func6
  (ChangeSpec.witness_at (enc := enc) (C := Tryz.checked) (os := os) (X := fun w _ => laidMetH Tryz.prog theLaid w) false (laidWorld os) #[.int .i64 0, .int .i64 0, .slice none 0 0, .int .i64 0] 8 rfl (by kernel_rfl) (by kernel_rfl) (by kernel_rfl) (by kernel_rfl) (by kernel_rfl) (laidWorld_met os _)) ?_
 intro W base args ds gs before hval0 hW _ _ hL _
 have hval : ∀ (j : Nat) t v, Tryz.f6.params[j]? = some t → args[j]? = some v → Value.okWide Tryz.prog W .any base t v := hval0
 have hW' := hW
 obtain ⟨p, q, hA0, hV, rfl, hfz, hnd⟩ := hW
 have hA : DataW.TrodAll enc Tryz.prog W 0 (fun _ => true) true Tryz.f6.params.toList args.toList ds p := hA0
 rw [Tryz.params6] at hA hval
 obtain ⟨v0, vs0, d0, ds0, p0, q0, hargs, rfl, rfl, h0, r0⟩ := trodAll_cons hA
 obtain ⟨v1, vs1, d1, ds1, p1, q1, rfl, rfl, rfl, h1, r1⟩ := trodAll_cons r0
 obtain ⟨v2, vs2, d2, ds2, p2, q2, rfl, rfl, rfl, h2, r2⟩ := trodAll_cons r1
 obtain ⟨v3, vs3, d3, ds3, p3, q3, rfl, rfl, rfl, h3, r3⟩ := trodAll_cons r2
 obtain ⟨rfl, rfl, rfl⟩ := trodAll_nil r3
 obtain rfl : args = #[v0, v1, v2, v3] := by cases args; simp_all
 obtain ⟨rfl, rfl⟩ := trodVars_none hV
 obtain ⟨a0, rfl, rfl, rfl, w0⟩ := open_int Tryz.underlying3 (hval 0 3 v0 rfl rfl) h0
 obtain ⟨a1, rfl, rfl, rfl, w1⟩ := open_int Tryz.underlying3 (hval 1 3 v1 rfl rfl) h1
 obtain ⟨a2, len2, cap2, rfl⟩ := okWide_slice Tryz.underlying67 (hval 2 67 v2 rfl rfl)
 have k2 := h2
 have lt2 : ∀ x ∈ p2, x.block < W.heap.size := by obtain ⟨m, hm⟩ := k2; exact DataW.trod_lt m _ _ _ hm
 obtain ⟨z2, w2⟩ : ∃ z, NestAt W a2 len2 z := by
  obtain ⟨fuel, hf⟩ := h2
  rcases Go.Deep.open_int_rows Tryz.underlying67 Tryz.underlying66 Tryz.underlying5 (by kernel_rfl) (by kernel_rfl) hf with ⟨hcs, _⟩ | ⟨x, l, c, A', L', C', Z', hcs, _, hl, _, _, hrows⟩
  ·
   simp [Value.cells] at hcs
   obtain ⟨rfl, rfl, rfl⟩ := hcs
   exact ⟨fun _ => [], NestAt.nil _ _ _⟩
  ·
   simp [Value.cells] at hcs
   obtain ⟨rfl, rfl, rfl⟩ := hcs
   exact ⟨_, nest_of hl hrows⟩
 obtain ⟨a3, rfl, rfl, rfl, w3⟩ := open_int Tryz.underlying3 (hval 3 3 v3 rfl rfl) h3
 have hg := etLaid_of hL
 clear hA0 hval0
 simp only [List.append_nil] at hW'
 refine (walk a0 a1 a2 len2 cap2 z2 a3 W hg w2).mono fun e W' ⟨he, bel⟩ => ?_
 subst he
 exact ⟨_, rfl, _, _, _, [], _, [], hW', trodAll_mk1 (shut_bool Tryz.underlying4 _), (trodAll_cons_mk (shut_int Tryz.underlying3 w0) (trodAll_cons_mk (shut_int Tryz.underlying3 w1) (trodAll_cons_mk (Below.trod laidOut (by kernel_rfl) (of_decide_eq_true (by kernel_rfl)) k2 bel lt2) (trodAll_cons_mk (shut_int Tryz.underlying3 w3) trodAll_mk0)))), rfl, bel.frame _, fun h => by cases h⟩
theorem over : Rows.TapeOrderSaid :=
 OpenClaim.holds_of_wide 6 Tryz.f6 rfl rfl rfl rfl rfl rfl rfl ⟨rfl, rfl, rfl, rfl, rfl⟩ rfl rfl rfl rfl rfl (by kernel_rfl) Tryz.func6 (by kernel_rfl)
  (of_decide_eq_true (by kernel_rfl)) (by unfold Func.isWrapper; first | (rw [if_pos (by decide +kernel)]; kernel_rfl) | (rw [if_neg (by decide +kernel)]; exact ⟨rfl, rfl⟩))
  (fun os started H enc _ => lifted os started H enc)
theorem proved : Rows.TapeOrderCardSaid :=
 Claim7.holds_tied_plain_at .later [] [.handle] true (true, "5099e9f95494a7ac1d1e9109868c047233c143c307eafd73ed71b9c5778ce599") true
  over (fun _ h => by cases h) (by kernel_rfl) (fun _ h => by cases h) tapeOrder_row_tie rfl ⟨rfl, rfl⟩ (by kernel_rfl) rfl
  (fun f fn hf hfn => by
   obtain rfl : f = 6 := Option.some.inj ((show Tryz.prog.funcNamed "stave/stavelaw14.TapeOrder" = some 6 by kernel_rfl).symm.trans hf) |>.symm
   obtain rfl : fn = Tryz.f6 := (Option.some.inj (Tryz.func6.symm.trans hfn)).symm
   exact ⟨by kernel_rfl, fun j t ht => by
    rw [Tryz.params6] at ht
    rcases j with _ | _ | _ | _ | j
    ·
     simp at ht; subst ht; kernel_rfl
    ·
     simp at ht; subst ht; kernel_rfl
    ·
     simp at ht; subst ht; kernel_rfl
    ·
     simp at ht; subst ht; kernel_rfl
    ·
     simp at ht⟩)
  (by kernel_rfl)
#print axioms proved
end Go.Proofs.YtbdfjiedceaoiaaGreatDoor.tapeOrder
