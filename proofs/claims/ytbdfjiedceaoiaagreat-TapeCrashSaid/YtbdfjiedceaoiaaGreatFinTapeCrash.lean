/- The statement TapeCrash: for every input the call of stavelaw's TapeCrash answers true, and its arguments read behind it as they read before. No condition. -/
/- Texts of one proof, joined: WTapeCrash, LawTapeCrash. -/
import Derived.Test.YtbdfjiedceaoiaaGreatPBD
import Derived.Test.YtbdfjiedceaoiaaGreatPBG
import Derived.Test.YtbdfjiedceaoiaaGreatPBF
import Derived.Test.YtbdfjiedceaoiaaGreatPBC
import Derived.Test.YtbdfjiedceaoiaaGreatPX
import Derived.Test.YtbdfjiedceaoiaaGreatPO
import Derived.Test.YtbdfjiedceaoiaaGreatPP
import Derived.Test.YtbdfjiedceaoiaaGreatPBH
import Derived.Deep.DeepCutAuto
import Derived.Deep.CutBlock
import Derived.Test.YtbdfjiedceaoiaaGreatRows
import Derived.WalkKit
import Derived.ProofKit
import Derived.OpenShut
import Derived.ShutString
import Derived.Carry
set_option linter.unusedVariables false
set_option linter.unusedSimpArgs false
namespace Go.Proofs.YtbdfjiedceaoiaaGreat
set_option linter.unusedVariables false
open Go Go.RowKit
def crP (S : Nat → Prop) (g gv t : Nat) (b : Nat) : Prop := S b ∧ b ≠ g ∧ b ≠ gv ∧ b ≠ t
def crL (Z : Nat → List Nat) (n : Nat) : List (List (List Nat)) := (List.range n).map fun i => [i :: (Z i).take 90]
theorem crL_len (Z : Nat → List Nat) (n : Nat) : (crL Z n).length = n := by simp [crL]
theorem crL_succ (Z : Nat → List Nat) (n : Nat) : crL Z n ++ [[n :: (Z n).take 90]] = crL Z (n + 1) := by unfold crL; rw [List.range_succ, List.map_append]; rfl
theorem one_fits {kk : Nat} {x : List Nat} (k1 : 1 ≤ kk) (h1 : 1 ≤ x.length) (h2 : x.length ≤ 91) : Tp.fits kk [x] := by
 have e : Tp.pack [x] = Tp.ent x := by simp [Tp.pack]
 refine ⟨fun y hy => ?_, List.cons_ne_nil _ _, by rw [e, Tp.ent_len]; omega⟩
 simp at hy; subst hy; exact ⟨h1, by omega⟩
set_option maxRecDepth 100000 in
set_option maxHeartbeats 1500000 in
theorem tapeCrash_c (k n : Int) (la : Option Addr) (len cap : Nat) (Z : Nat → List Nat) (fuse : Int) (ia : Option Addr) (ilen icap : Nat) (z : List Int) (oa : Option Addr) (olen ocap : Nat) (oz : List Int) (w : World) (hl : NestAt w la len Z) (hb : IsRow .u64 w ia ilen icap z) (ho : IsRow .i64 w oa olen ocap oz) :
  Calls Tryz.prog 5 #[.int .i64 k, .int .i64 n, .slice la len cap, .int .i64 fuse, .slice ia ilen icap, .slice oa olen ocap] w fun e w' => e = .returned (.bool true) ∧ Ext w w' := by
 have HL := hid hl
 have HBT := hid hb.bits
 have HBL := hid hb.low
 have HO := hid ho.ints
 have HOL := hid ho.low
 generalize (z.take ilen).map Int.toNat = bits at *
 clear hl hb ho
 have hzc := zero_cfg
 have HCS := hid Cfg.A_size
 go_enter Tryz.func5, Tryz.ntmps5
 go_wp2_with fail
 refine (kfixed_c k n 5 2 _).mono ?_
 rintro e w1 ⟨rfl, x1⟩
 have HGD := hid (show (keepFixed k n 5 2).Good from keepFixed_good k n 5 2 (by omega) (by omega) (by omega) (by omega))
 have HK4 := hid (keepFixed_k4 k n 5 2)
 have HN6 := hid (keepFixed_n6 k n 5 2)
 have HST := hid (show (keepFixed k n 5 2).stripes = 5 from rfl)
 have HSL := hid (show (keepFixed k n 5 2).slots = 2 from rfl)
 generalize keepFixed k n 5 2 = c at *
 obtain ⟨W1, hW1⟩ : ∃ W, w1.alloc (.cells (Cfg.A c) 23) = W := ⟨_, rfl⟩
 have X1 := hid (show Ext w W1 from hW1 ▸ x1.alloc _)
 have HC := hid (show W1.heap[w1.heap.size]? = some (.cells (Cfg.A c) 23 (0, 0)) from hW1 ▸ heap_alloc_new _ _)
 have hbs : (w1.alloc (.cells (Cfg.A Cfg.zero) 23)).heap[w1.heap.size]? = some (.cells (Cfg.A Cfg.zero) 23 (0, 0)) := Zad
 clear x1
 go_wp2_with (guard_target = wpList _ _ _ (⟨none, Op.store _ _ _, _, _, _, none⟩ :: _) _ _; refine Zaa rfl 23 _ _ rfl w1.heap.size rfl (Cfg.A c) _ rfl 23 ?_ hbs ?_ ?_ ?_; (rw [HCS.out]; exact aggCfg); (rw [HCS.out, HCS.out]); exact Cfg.A_one _)
 rw [Zaj, hW1]
 clear hbs hW1
 have HLT := hid (lt_of_block HC.out)
 generalize w1.heap.size = g at *
 obtain ⟨m, hm, m1, m128⟩ := sectors_nat c HGD.out
 obtain ⟨nn, hn⟩ : ∃ nn : Nat, c.n = nn := ⟨c.n.toNat, by have := HGD.out.k0; have := HGD.out.k1; omega⟩
 obtain ⟨kk, hk⟩ : ∃ kk : Nat, c.k = kk := ⟨c.k.toNat, by have := HGD.out.k0; omega⟩
 have HNT := hid (show c.n.toNat = nn by omega)
 have HKT := hid (show c.k.toNat = kk by omega)
 have n1 : 1 ≤ nn := by have := HGD.out.k0; have := HGD.out.k1; omega
 have n8 : nn ≤ 6 := by have := HN6.out; omega
 have k1 : 1 ≤ kk := by have := HGD.out.k0; omega
 have k4 : kk ≤ 4 := by have := HK4.out; omega
 have HKN := hid (show kk ≤ nn by have := HGD.out.k1; omega)
 have HM := hid hm; have HN := hid hn; have HKC := hid hk
 have xd : Ext W1 W1.drew := (Ext.refl W1).drew
 have lc : Hid (∀ x : SW Ext W1.drew, ∀ j v, (Cfg.A c).toList[j]? = some v → x.w.cell? ((⟨g, 0, none⟩ : Addr).add j) = some v) := hid fun x => Zah ((Ext.trans xd x.ext).at HC.out)
 have c2 : ∀ x : SW Ext W1.drew, x.w.cell? ⟨g, 2, none⟩ = some (.int .i64 nn) := fun x => (Zaf ((Ext.trans xd x.ext).at HC.out)).trans (by rw [Cfg.A2, HN.out])
 have sc : Hid (∀ x : SW Ext W1.drew, Calls Tryz.prog 18 #[.agg (Cfg.A c)] x.w fun e w'' => e = .returned (.int .i64 m) ∧ Ext x.w w'') := hid fun x => by
  have := ksectors_c c HGD.out x.w
  rw [HM.out] at this
  exact this
 have HAG := hid (Zat c)
 clear hm hn hk
 refine Zal (S := Ext) (.one [0, 1, 2, 3] 4 (.fin [5, 6, 7, 8, 9])) (by kernel_rfl) (by kernel_rfl) (fun _ _ d _ _ h => by cases d <;> exact h) ?_
 rw [wpS]
 simp only [opsAt, opA, opB, opC, opD, opE, opF, opG]
 iterate 2 ((refine Zab (fun K hK => ?_); go_simp; refine hK _ ?_; clear hK K))
 refine Zan 23 _ rfl ⟨g, 0, none⟩ rfl (Cfg.A c) rfl HAG.out lc.out ?_
 (refine Zab (fun K hK => ?_); go_simp; (apply Exists.intro; refine ⟨fun x => ?_, hK _ ?_⟩; (exact sc.out x); clear hK K))
 refine Zae ?_
 intro V1 hV1
 refine Zav fun K hK => ?_
 go_wp2_with fail
 refine (at_new nn m n1 (by omega) m1 m128 V1).mono ?_
 rintro e w2 ⟨r, rfl, h2, x2⟩
 go_wp2
 refine hK _ _ x2 ?_
 clear hK K
 rw [wpS]
 simp only [opsAt, opA, opB, opC, opD, opE, opF, opG]
 iterate 5 ((refine Zab (fun K hK => ?_); go_simp; refine hK _ ?_; clear hK K))
 refine Zae ?_
 intro V2 hV2
 obtain ⟨S0, hS0⟩ : ∃ S : Nat → Prop, (fun b => b < W1.heap.size) = S := ⟨_, rfl⟩
 have HJ2 := hid (show SE w V2 S0 r (Rck.new nn m) g c [] from hS0 ▸ ⟨(h2.less fun b hb => Nat.lt_of_lt_of_le hb (Ext.trans xd hV1).size).ext hV2, Ext.trans X1.out (Ext.trans xd (Ext.trans hV1 (Ext.trans x2 hV2))), fun b hb => Nat.lt_of_lt_of_le hb X1.out.size, (Ext.trans xd (Ext.trans hV1 (Ext.trans x2 hV2))).at HC.out, HLT.out, fun p hp => by simp at hp⟩)
 clear h2 x2 hV1 hV2 lc c2 sc xd X1 HC HLT hS0
 obtain ⟨R1, R2, e1, e2, e3, hv2, ti2⟩ := TI.start HGD.out HK4.out HN6.out (m := m) (by rw [HM.out]; exact Int.le_refl _)
 rw [HNT.out] at e1
 have HE1 := hid e1; have HE2 := hid e2; have HRO := hid e3; have HV2 := hid hv2; have HTI := hid ti2
 have HVE := hid (show VE w V2 S0 r (Rck.new nn m) from ⟨HJ2.out.rack, HJ2.out.ext, HJ2.out.low⟩)
 have HCB := hid (show CBlkAt V2 g c from HJ2.out.cfg)
 have HSG := hid HJ2.out.cfgS
 clear e1 e2 e3 hv2 ti2 HJ2
 go_wp2_with (guard_target = wpList _ _ _ (⟨some _, Op.load _ _, _, _, _, some _⟩ :: _) _ _; refine Zax 23 _ rfl ⟨g, 0, none⟩ rfl (Cfg.A c) rfl (Zat c) (Zah HCB.out) ?_)
 refine (vmake_c HVE.out.rack c).mono ?_
 rintro e w3 ⟨rfl, h3, k3⟩
 rw [HE1.out] at h3 ⊢
 simp only [oErr]
 have HVF := hid (HVE.out.keep h3 k3)
 have HCD := hid (show CBlkAt w3 g c from k3.at HCB.out fun q => q HSG.out)
 clear h3 k3 HVE HCB
 go_wp2_with fail
 refine (topen_c HVF.out.rack HRO.out).mono ?_
 rintro e w4 h4
 rw [HE2.out] at h4
 rcases h4 with ⟨_, q, _⟩ | ⟨_, gv, t, T, ao, co, hok⟩
 ·
  cases q
 obtain rfl := hok.ret
 have HX4 := hid (show TX w w4 T r R2 g c gv ⟨c, 1, false⟩ t 0 from TX.start HVF.out HCD.out HSG.out hok)
 clear hok HVF HCD HE1 HE2 HRO
 go_wp2_with fail
 refine (within_c fuse 0 100 _ (by omega) (by omega) (by omega)).mono ?_
 rintro e _ ⟨rfl, rfl⟩
 obtain ⟨f0, f1⟩ := Zck fuse 0 100 (by omega)
 generalize within fuse 0 100 = Fu at *
 go_wp2_with fail
 refine (at_arm HX4.out.rack Fu (by omega)).mono ?_
 rintro e w5 ⟨rfl, h5, k5⟩
 have HX5 := hid (HX4.out.keep h5 k5)
 have HTG := hid (HTI.out.armed HV2.out HM.out.symm Fu)
 clear h5 k5 HX4 HV2 HTI
 go_upto_block 0 with fail
 go_cut [19, 20, 21] (fun tw tc ti wq => (∃ i : Int, ti = .int .i64 i) ∧ ∃ (L : List (List (List Nat))) (co : List (List Nat)) (ac : Option Addr) (cc : Nat) (R : Rck) (S : Nat → Prop) (v : Vol) (u : Nat) (ad : Nat → Option Addr) (cp : Nat → Nat), tc = .slice ac co.length cc ∧ L.length ≤ 5 ∧ co.length ≤ 1 ∧ TX w wq S r R g c gv v t u ∧ TKeep (crP S g gv t) wq w.heap.size tw L ad cp ∧
   EntsIn (fun b => crP S g gv t b ∧ b < wq.heap.size ∧ tw.ownBlock ≠ some b) wq ac co ∧ Live (R.boot bits) c.n.toNat m ∧ ∀ R9 Lx, Tnt (R.boot bits) R9 c.n.toNat m Lx → c.k.toNat ≤ Lx.length → ∃ R2 v' L', R9.topen = (none, R2, v', L') ∧ ReadsOk R9 ∧ (L' = L ∨ (co ≠ [] ∧ L' = L ++ [co])))
 case first =>
  go_wp2_with fail
  go_loopw [21, 19, 20] (fun ti tw tc wr => ∃ q : Nat, ti = .int .i64 q ∧ tc = .slice none 0 0 ∧ q ≤ len ∧ q ≤ 5 ∧ ∃ (R : Rck) (S : Nat → Prop) (ad : Nat → Option Addr) (cp : Nat → Nat), TX w wr S r R g c gv ⟨c, 1 + (q : Int), false⟩ t q ∧ TG R c m (1 + (q : Int)) (crL Z q) ∧ TKeep (crP S g gv t) wr w.heap.size tw (crL Z q) ad cp) (fun ti _ _ _ => 5 - (intOf ti).toNat)
  case atStart => exact ⟨0, rfl, rfl, by omega, by omega, _, _, _, _, HX5.out, HTG.out, TKeep.nil _ _ _⟩
  case round =>
   clear HX5 HTG
   obtain ⟨q, rfl, rfl, hq, hq5, R, S, ad, cp, hx, htg, hk⟩ := hrel
   have HX := hid hx; have HTG := hid htg; have HK := hid hk
   clear hx htg hk
   by_cases hlt : q < len
   ·
    have i1 : (q : Int) < (len : Int) := by omega
    by_cases hq4 : q < 5
    ·
     have i2 : (q : Int) < 5 := by omega
     have i0 : (0 : Int) ≤ (q : Int) := by omega
     obtain ⟨g0, off, p, C, rfl, hc, hzc2, hc63, hpn, hbz⟩ := HL.out q hlt
     have hgl := cell_lt hc
     have hsz := HX.out.ext.size
     have xd : Ext wr wr.drew := (Ext.refl wr).drew
     have HXD := hid xd
     have cl : ∀ y : SW (Only fun b => wr.heap.size ≤ b) wr.drew, y.w.cell? ⟨g0, off + q, none⟩ = some (.slice p (Z q).length C) := fun y => Only.cell y.ext (Ext.cell (Ext.trans HX.out.ext HXD.out) hc) (by show ¬ wr.heap.size ≤ g0; omega)
     have hu8 : IntKind.u8.wrap (q : Int) = q := by rw [IntKind.wrap_u8]; omega
     clear xd hc
     by_cases hml : 90 < (Z q).length
     ·
      have tm : (90 : Int) < ((Z q).length : Int) := by omega
      have hmcI : (90 : Int) ≤ (C : Int) := by omega
      have HMM := hid (show 90 = min (Z q).length 90 by omega)
      have HBP := hid (hbz 90 (by omega) (by omega))
      have hmc : 90 ≤ C := by omega
      clear hbz
      go_wp2_with fail
      refine Zau (E := Ext) (S := Only fun b => wr.heap.size ≤ b) (.one [0, 1, 3, 4, 5, 6, 7, 8, 9, 10, 11, 12, 13] 2 (.one [] 14 (.one [] 15 (.fin [16])))) (by kernel_rfl) (by kernel_rfl) (fun _ _ d _ _ h => by cases d <;> exact h) ?_
      rw [wpS]
      simp only [opsAt, opA, opB, opC, opD, opE, opF, opG]
      iterate 13 ((refine Zab (fun K hK => ?_); go_simp; refine hK _ ?_; clear hK K))
      refine Zae ?_
      intro V1 hV1
      have HX1 := hid (Ext.trans HXD.out hV1)
      clear hV1 cl HXD hu8
      refine Zav fun Q1 hQ1 => ?_
      go_wp2_with fail
      refine hQ1 _ _ (Ext.only ((Ext.refl V1).alloc _)) ?_
      clear hQ1 Q1
      rw [wpS]
      simp only [opsAt, opA, opB, opC, opD, opE, opF, opG]
      refine Zae ?_
      intro V2 hV2
      have hb2 : V2.heap[V1.heap.size]? = some (.cells #[.int .u8 (q : Int)] 5 (0, 0)) := Ext.at hV2 Zad
      have hx12 : Ext V1 V2 := Ext.trans ((Ext.refl V1).alloc _) hV2
      have hs1 : wr.heap.size ≤ V1.heap.size := HX1.out.size
      generalize V1.heap.size = b1 at *
      obtain ⟨b2, cp2, W2, hap, hown, hon, hge⟩ := append_one V2 b1 q hb2 p 90 C ((Z q).take 90) ((HBP.out.ext HX.out.ext).ext (Ext.trans HX1.out hx12)) (by omega)
      have hb2l : b1 < V2.heap.size := lt_of_block hb2
      have HAP := hid hap
      have HB2 := hid (Zb5 hown (fun y hy => by rcases List.mem_cons.1 hy with rfl | hy <;> first | omega | exact HBP.out.byte y hy) (by omega))
      have HW2 := hid (show Ext wr W2 from Ext.then (Ext.trans HX1.out hx12) hon fun q hq e => by have e : q = b1 := e; omega)
      have HLT := hid (show b2 < W2.heap.size from owns_lt hown)
      have HBN := hid (show wr.heap.size ≤ b2 by omega)
      clear hap hown hV2 hx12 hb2 HX1 hge hb2l
      refine Zav fun Q2 hQ2 => ?_
      go_wp2_with (at_builtin; refine Zai rfl _ _ _ rfl _ _ _ _ rfl rfl HAP.out ?_)
      go_wp2
      refine hQ2 _ _ (Only.trans (Only.refl _ V2) hon fun b _ e => by have e : b = b1 := e; show wr.heap.size ≤ b; omega) ?_
      clear hQ2 Q2 hon HAP
      rw [wpS]
      simp only [opsAt, opA, opB, opC, opD, opE, opF, opG]
      refine Zae ?_
      intro V3 hV3
      have HV3 := hid (Ext.trans HW2.out hV3)
      have HB3 := hid (HB2.out.ext hV3)
      have HLT3 := hid (show b2 < V3.heap.size from Nat.lt_of_lt_of_le HLT.out hV3.size)
      clear hV3 HW2 HB2 HLT
      refine Zav fun Q3 hQ3 => ?_
      go_wp2_with fail
      refine hQ3 _ _ (Ext.only ((Ext.refl V3).alloc _)) ?_
      clear hQ3 Q3
      rw [wpS]
      simp only [opsAt, opA, opB, opC, opD, opE, opF, opG]
      (refine Zab (fun K hK => ?_); go_simp; refine hK _ ?_; clear hK K)
      refine Zae ?_
      intro V5 hV5
      have hb4 : V5.heap[V3.heap.size]? = some (.cells (entV b2 (1 + 90) cp2) 24 (0, 0)) := Ext.at hV5 Zad
      have hx35 : Ext V3 V5 := Ext.trans ((Ext.refl V3).alloc _) hV5
      have HXE := hid (Ext.trans HV3.out hx35)
      have hs3 : wr.heap.size ≤ V3.heap.size := HV3.out.size
      have hs5 : V3.heap.size < V5.heap.size := lt_of_block hb4
      obtain ⟨xs, hxs⟩ : ∃ xs, q :: (Z q).take 90 = xs := ⟨_, rfl⟩
      have hxl : xs.length = 1 + 90 := by rw [← hxs, List.length_cons, List.length_take]; omega
      have HXS := hid (show q :: (Z q).take 90 = xs from by rw [← hxs, take_min HMM.out])
      have HB5 := hid (HB3.out.ext hx35)
      rw [hxs] at HB5
      rw [← hxl] at HB5 hb4
      have HXB := hid (show ∀ y ∈ xs, y < 256 from HB5.out.byte)
      generalize V3.heap.size = b3 at *
      have HENT := hid (show EntsIn (fun b => wr.heap.size ≤ b ∧ b < V5.heap.size) V5 (some ⟨b3, 0, none⟩) [xs] from EntsIn.one hb4 HB5.out ⟨HBN.out, by have := HLT3.out; omega⟩ ⟨hs3, hs5⟩)
      clear hV5 hb4 hx35 hxs HB3 HB5 HLT3 HBN HV3 HBP
      obtain ⟨S5, hS5⟩ : ∃ S', wideS S wr V5 = S' := ⟨_, rfl⟩
      have HXW := hid (show TX w V5 S5 r R g c gv ⟨c, 1 + (q : Int), false⟩ t q from hS5 ▸ HX.out.wide HXE.out)
      have HKW := hid (show TKeep (crP S5 g gv t) V5 w.heap.size u19 (crL Z q) ad cp from (HK.out.ext HXE.out).mono fun b hb => ⟨hS5 ▸ .inl hb.1, hb.2⟩)
      have HEW := hid (show EntsIn (fun b => crP S5 g gv t b ∧ b < V5.heap.size ∧ u19.ownBlock ≠ some b) V5 (some ⟨b3, 0, none⟩) [xs] from HENT.out.mono fun b hb => ⟨⟨hS5 ▸ .inr hb, by have := lt_of_block HX.out.vx.cfg; omega, by have := lt_of_block HX.out.vx.vol; omega, by have := lt_of_block HX.out.tape; omega⟩, hb.2, fun e => by have := (HK.out.own.lt b e).2; omega⟩)
      obtain ⟨o, R', v', n', ha, hcs⟩ := HTG.out.append HK4.out HN6.out (by omega) (by rw [crL_len, HST.out]; show q < 5; omega) (es := [xs]) (by rw [HKT.out]; exact one_fits k1 (by omega) (by omega)) (fun x hx => by simp at hx; subst hx; exact HXB.out)
      rw [crL_len] at ha
      have ta := hid (tappend_c HXW.out.rack HXW.out.vx.vol HXW.out.tape HXW.out.vx.gS HXW.out.tS HXW.out.tg (show (0 : Int) ≤ 1 + (q : Int) by omega) HGD.out (by omega) [xs] (by show 1 ≤ 100; omega) _ 1 HEW.out.ents)
      rw [ha, show ([xs] : List (List Nat)).length = 1 from rfl] at ta
      clear ha HX HK HENT hS5 HXE HMM
      go_wp2_with fail
      refine ta.out.mono ?_
      rintro e w6 h6
      have HX6 := hid (HXW.out.app h6)
      have HK6 := hid (HKW.out.only h6.only fun b hb => TX.app_keep h6 b ⟨hb.1, hb.2.2.1, hb.2.2.2⟩)
      have HE6 := hid ((HEW.out.only h6.only fun b hb => TX.app_keep h6 b ⟨hb.1.1, hb.1.2.2.1, hb.1.2.2.2⟩).mono fun b hb => (⟨hb.1, Nat.lt_of_lt_of_le hb.2.1 h6.only.size, hb.2.2⟩ : crP S5 g gv t b ∧ b < w6.heap.size ∧ _))
      clear HXW HKW HEW ta
      rcases hcs with ⟨rfl, rfl, rfl, htg⟩ | ⟨er, rfl, hts⟩
      ·
       obtain rfl := h6.ret
       have HTN := hid (show TG R' c m (1 + ((q + 1 : Nat) : Int)) (crL Z (q + 1)) from by
        have := htg
        rw [← HXS.out, crL_succ, show 1 + (q : Int) + 1 = 1 + ((q + 1 : Nat) : Int) by omega] at this
        exact this)
       obtain ⟨v8, w8, ad8, cp8, hap, hk8, hon8⟩ := HK6.out.push (c := 1) HE6.out (by show 1 ≤ _; omega) (by rw [crL_len]; omega) HX6.out.ext.size
       rw [show ([xs] : List (List Nat)).length = 1 from rfl] at hap
       have HAP := hid hap
       have HSV := hid (show (tapV (some ⟨b3, 0, none⟩) 1 1).size = 1 from rfl)
       have HX8 := hid (show TX w w8 (wideS S5 w6 w8) r R' g c gv ⟨c, 1 + ((q + 1 : Nat) : Int), false⟩ t (q + 1) from by
        have := HX6.out.pokes hon8 fun b hb => ⟨(HK6.out.ownP b hb).1, (HK6.out.own.lt b hb).1, (HK6.out.ownP b hb).2.1, (HK6.out.ownP b hb).2.2.1, (HK6.out.ownP b hb).2.2.2⟩
        simp only [crL_len] at this
        rw [show 1 + (q : Int) + 1 = 1 + ((q + 1 : Nat) : Int) by omega] at this
        exact this)
       have HK8 := hid (show TKeep (crP (wideS S5 w6 w8) g gv t) w8 w.heap.size v8 (crL Z (q + 1)) ad8 cp8 from by
        rw [← crL_succ, HXS.out]
        exact hk8.mono fun b hb => hb.elim (fun z => ⟨.inl z.1, z.2⟩) fun z => ⟨.inr z, by have := lt_of_block HX6.out.vx.cfg; omega, by have := lt_of_block HX6.out.vx.vol; omega, by have := lt_of_block HX6.out.tape; omega⟩)
       simp only [oErr]
       clear h6 htg hap hk8 hon8 HX6 HK6 HE6 HTG
       go_wp2_with (first
        | (guard_target = wpList _ _ _ (⟨some _, Op.buildSlice _ _ _, _, _, _, none⟩ :: _) _ _; refine Zak rfl 35 25 _ rfl (tapV (some ⟨b3, 0, none⟩) 1 1) _ _ 1 24 Tryz.underlying35 infoRows (by omega) (by omega) rfl rfl HSV.out ?_)
        | (at_builtin; refine Zai rfl _ _ _ rfl _ _ _ _ rfl rfl HAP.out ?_))
       go_roundw
       case rel => exact ⟨q + 1, by go_num, rfl, by omega, by omega, R', _, ad8, cp8, HX8.out, HTN.out, HK8.out⟩
       case measure => simp [intOf]; omega
      ·
       obtain rfl := h6.ret
       have HAF := hid (hts.after (cl := [xs]) (fun es e => by cases e; rfl) HGD.out HM.out.symm HK4.out HN6.out bits)
       obtain ⟨et, ev, hev⟩ := er.iface
       simp only [oErr]
       rw [hev]
       clear h6 hts hev HTG
       go_wp2_with fail
       go_meet
       case rel => exact ⟨⟨_, rfl⟩, crL Z q, [xs], some ⟨b3, 0, none⟩, 1, R', S5, _, _, ad, cp, rfl, by rw [crL_len]; omega, by show 1 ≤ 1; omega, HX6.out, HK6.out, HE6.out, HAF.out.1, HAF.out.2⟩
     ·
      have tm : ((90 : Int) < ((Z q).length : Int)) = False := eq_false (by omega)
      have HMM := hid (show (Z q).length = min (Z q).length 90 by omega)
      have HBP := hid (hbz (Z q).length (by omega) (by omega))
      have hmc : (Z q).length ≤ C := by omega
      clear hbz
      go_wp2_with fail
      refine Zau (E := Ext) (S := Only fun b => wr.heap.size ≤ b) (.one [0, 1, 3, 4, 5, 6, 7, 8, 9, 10, 11, 12, 13] 2 (.one [] 14 (.one [] 15 (.fin [16])))) (by kernel_rfl) (by kernel_rfl) (fun _ _ d _ _ h => by cases d <;> exact h) ?_
      rw [wpS]
      simp only [opsAt, opA, opB, opC, opD, opE, opF, opG]
      iterate 13 ((refine Zab (fun K hK => ?_); go_simp; refine hK _ ?_; clear hK K))
      refine Zae ?_
      intro V1 hV1
      have HX1 := hid (Ext.trans HXD.out hV1)
      clear hV1 cl HXD hu8
      refine Zav fun Q1 hQ1 => ?_
      go_wp2_with fail
      refine hQ1 _ _ (Ext.only ((Ext.refl V1).alloc _)) ?_
      clear hQ1 Q1
      rw [wpS]
      simp only [opsAt, opA, opB, opC, opD, opE, opF, opG]
      refine Zae ?_
      intro V2 hV2
      have hb2 : V2.heap[V1.heap.size]? = some (.cells #[.int .u8 (q : Int)] 5 (0, 0)) := Ext.at hV2 Zad
      have hx12 : Ext V1 V2 := Ext.trans ((Ext.refl V1).alloc _) hV2
      have hs1 : wr.heap.size ≤ V1.heap.size := HX1.out.size
      generalize V1.heap.size = b1 at *
      obtain ⟨b2, cp2, W2, hap, hown, hon, hge⟩ := append_one V2 b1 q hb2 p (Z q).length C ((Z q).take (Z q).length) ((HBP.out.ext HX.out.ext).ext (Ext.trans HX1.out hx12)) (by omega)
      have hb2l : b1 < V2.heap.size := lt_of_block hb2
      have HAP := hid hap
      have HB2 := hid (Zb5 hown (fun y hy => by rcases List.mem_cons.1 hy with rfl | hy <;> first | omega | exact HBP.out.byte y hy) (by omega))
      have HW2 := hid (show Ext wr W2 from Ext.then (Ext.trans HX1.out hx12) hon fun q hq e => by have e : q = b1 := e; omega)
      have HLT := hid (show b2 < W2.heap.size from owns_lt hown)
      have HBN := hid (show wr.heap.size ≤ b2 by omega)
      clear hap hown hV2 hx12 hb2 HX1 hge hb2l
      refine Zav fun Q2 hQ2 => ?_
      go_wp2_with (at_builtin; refine Zai rfl _ _ _ rfl _ _ _ _ rfl rfl HAP.out ?_)
      go_wp2
      refine hQ2 _ _ (Only.trans (Only.refl _ V2) hon fun b _ e => by have e : b = b1 := e; show wr.heap.size ≤ b; omega) ?_
      clear hQ2 Q2 hon HAP
      rw [wpS]
      simp only [opsAt, opA, opB, opC, opD, opE, opF, opG]
      refine Zae ?_
      intro V3 hV3
      have HV3 := hid (Ext.trans HW2.out hV3)
      have HB3 := hid (HB2.out.ext hV3)
      have HLT3 := hid (show b2 < V3.heap.size from Nat.lt_of_lt_of_le HLT.out hV3.size)
      clear hV3 HW2 HB2 HLT
      refine Zav fun Q3 hQ3 => ?_
      go_wp2_with fail
      refine hQ3 _ _ (Ext.only ((Ext.refl V3).alloc _)) ?_
      clear hQ3 Q3
      rw [wpS]
      simp only [opsAt, opA, opB, opC, opD, opE, opF, opG]
      (refine Zab (fun K hK => ?_); go_simp; refine hK _ ?_; clear hK K)
      refine Zae ?_
      intro V5 hV5
      have hb4 : V5.heap[V3.heap.size]? = some (.cells (entV b2 (1 + (Z q).length) cp2) 24 (0, 0)) := Ext.at hV5 Zad
      have hx35 : Ext V3 V5 := Ext.trans ((Ext.refl V3).alloc _) hV5
      have HXE := hid (Ext.trans HV3.out hx35)
      have hs3 : wr.heap.size ≤ V3.heap.size := HV3.out.size
      have hs5 : V3.heap.size < V5.heap.size := lt_of_block hb4
      obtain ⟨xs, hxs⟩ : ∃ xs, q :: (Z q).take (Z q).length = xs := ⟨_, rfl⟩
      have hxl : xs.length = 1 + (Z q).length := by rw [← hxs, List.length_cons, List.length_take]; omega
      have HXS := hid (show q :: (Z q).take 90 = xs from by rw [← hxs, take_min HMM.out])
      have HB5 := hid (HB3.out.ext hx35)
      rw [hxs] at HB5
      rw [← hxl] at HB5 hb4
      have HXB := hid (show ∀ y ∈ xs, y < 256 from HB5.out.byte)
      generalize V3.heap.size = b3 at *
      have HENT := hid (show EntsIn (fun b => wr.heap.size ≤ b ∧ b < V5.heap.size) V5 (some ⟨b3, 0, none⟩) [xs] from EntsIn.one hb4 HB5.out ⟨HBN.out, by have := HLT3.out; omega⟩ ⟨hs3, hs5⟩)
      clear hV5 hb4 hx35 hxs HB3 HB5 HLT3 HBN HV3 HBP
      obtain ⟨S5, hS5⟩ : ∃ S', wideS S wr V5 = S' := ⟨_, rfl⟩
      have HXW := hid (show TX w V5 S5 r R g c gv ⟨c, 1 + (q : Int), false⟩ t q from hS5 ▸ HX.out.wide HXE.out)
      have HKW := hid (show TKeep (crP S5 g gv t) V5 w.heap.size u19 (crL Z q) ad cp from (HK.out.ext HXE.out).mono fun b hb => ⟨hS5 ▸ .inl hb.1, hb.2⟩)
      have HEW := hid (show EntsIn (fun b => crP S5 g gv t b ∧ b < V5.heap.size ∧ u19.ownBlock ≠ some b) V5 (some ⟨b3, 0, none⟩) [xs] from HENT.out.mono fun b hb => ⟨⟨hS5 ▸ .inr hb, by have := lt_of_block HX.out.vx.cfg; omega, by have := lt_of_block HX.out.vx.vol; omega, by have := lt_of_block HX.out.tape; omega⟩, hb.2, fun e => by have := (HK.out.own.lt b e).2; omega⟩)
      obtain ⟨o, R', v', n', ha, hcs⟩ := HTG.out.append HK4.out HN6.out (by omega) (by rw [crL_len, HST.out]; show q < 5; omega) (es := [xs]) (by rw [HKT.out]; exact one_fits k1 (by omega) (by omega)) (fun x hx => by simp at hx; subst hx; exact HXB.out)
      rw [crL_len] at ha
      have ta := hid (tappend_c HXW.out.rack HXW.out.vx.vol HXW.out.tape HXW.out.vx.gS HXW.out.tS HXW.out.tg (show (0 : Int) ≤ 1 + (q : Int) by omega) HGD.out (by omega) [xs] (by show 1 ≤ 100; omega) _ 1 HEW.out.ents)
      rw [ha, show ([xs] : List (List Nat)).length = 1 from rfl] at ta
      clear ha HX HK HENT hS5 HXE HMM
      go_wp2_with fail
      refine ta.out.mono ?_
      rintro e w6 h6
      have HX6 := hid (HXW.out.app h6)
      have HK6 := hid (HKW.out.only h6.only fun b hb => TX.app_keep h6 b ⟨hb.1, hb.2.2.1, hb.2.2.2⟩)
      have HE6 := hid ((HEW.out.only h6.only fun b hb => TX.app_keep h6 b ⟨hb.1.1, hb.1.2.2.1, hb.1.2.2.2⟩).mono fun b hb => (⟨hb.1, Nat.lt_of_lt_of_le hb.2.1 h6.only.size, hb.2.2⟩ : crP S5 g gv t b ∧ b < w6.heap.size ∧ _))
      clear HXW HKW HEW ta
      rcases hcs with ⟨rfl, rfl, rfl, htg⟩ | ⟨er, rfl, hts⟩
      ·
       obtain rfl := h6.ret
       have HTN := hid (show TG R' c m (1 + ((q + 1 : Nat) : Int)) (crL Z (q + 1)) from by
        have := htg
        rw [← HXS.out, crL_succ, show 1 + (q : Int) + 1 = 1 + ((q + 1 : Nat) : Int) by omega] at this
        exact this)
       obtain ⟨v8, w8, ad8, cp8, hap, hk8, hon8⟩ := HK6.out.push (c := 1) HE6.out (by show 1 ≤ _; omega) (by rw [crL_len]; omega) HX6.out.ext.size
       rw [show ([xs] : List (List Nat)).length = 1 from rfl] at hap
       have HAP := hid hap
       have HSV := hid (show (tapV (some ⟨b3, 0, none⟩) 1 1).size = 1 from rfl)
       have HX8 := hid (show TX w w8 (wideS S5 w6 w8) r R' g c gv ⟨c, 1 + ((q + 1 : Nat) : Int), false⟩ t (q + 1) from by
        have := HX6.out.pokes hon8 fun b hb => ⟨(HK6.out.ownP b hb).1, (HK6.out.own.lt b hb).1, (HK6.out.ownP b hb).2.1, (HK6.out.ownP b hb).2.2.1, (HK6.out.ownP b hb).2.2.2⟩
        simp only [crL_len] at this
        rw [show 1 + (q : Int) + 1 = 1 + ((q + 1 : Nat) : Int) by omega] at this
        exact this)
       have HK8 := hid (show TKeep (crP (wideS S5 w6 w8) g gv t) w8 w.heap.size v8 (crL Z (q + 1)) ad8 cp8 from by
        rw [← crL_succ, HXS.out]
        exact hk8.mono fun b hb => hb.elim (fun z => ⟨.inl z.1, z.2⟩) fun z => ⟨.inr z, by have := lt_of_block HX6.out.vx.cfg; omega, by have := lt_of_block HX6.out.vx.vol; omega, by have := lt_of_block HX6.out.tape; omega⟩)
       simp only [oErr]
       clear h6 htg hap hk8 hon8 HX6 HK6 HE6 HTG
       go_wp2_with (first
        | (guard_target = wpList _ _ _ (⟨some _, Op.buildSlice _ _ _, _, _, _, none⟩ :: _) _ _; refine Zak rfl 35 25 _ rfl (tapV (some ⟨b3, 0, none⟩) 1 1) _ _ 1 24 Tryz.underlying35 infoRows (by omega) (by omega) rfl rfl HSV.out ?_)
        | (at_builtin; refine Zai rfl _ _ _ rfl _ _ _ _ rfl rfl HAP.out ?_))
       go_roundw
       case rel => exact ⟨q + 1, by go_num, rfl, by omega, by omega, R', _, ad8, cp8, HX8.out, HTN.out, HK8.out⟩
       case measure => simp [intOf]; omega
      ·
       obtain rfl := h6.ret
       have HAF := hid (hts.after (cl := [xs]) (fun es e => by cases e; rfl) HGD.out HM.out.symm HK4.out HN6.out bits)
       obtain ⟨et, ev, hev⟩ := er.iface
       simp only [oErr]
       rw [hev]
       clear h6 hts hev HTG
       go_wp2_with fail
       go_meet
       case rel => exact ⟨⟨_, rfl⟩, crL Z q, [xs], some ⟨b3, 0, none⟩, 1, R', S5, _, _, ad, cp, rfl, by rw [crL_len]; omega, by show 1 ≤ 1; omega, HX6.out, HK6.out, HE6.out, HAF.out.1, HAF.out.2⟩
    ·
     have i2 : ¬ (q : Int) < 5 := by omega
     have hqe : q = 5 := by omega
     have HAF := hid ((HTG.out.ts (by omega)).after (cl := []) (fun es e => by cases e) HGD.out HM.out.symm HK4.out HN6.out bits)
     go_wp2_with fail
     go_meet
     case rel => exact ⟨⟨_, rfl⟩, crL Z q, [], none, 0, R, S, _, _, ad, cp, rfl, by rw [crL_len]; omega, by simp, HX.out, HK.out, EntsIn.nil _ _ _, HAF.out.1, HAF.out.2⟩
   ·
    have i1 : ¬ (q : Int) < (len : Int) := by omega
    have HAF := hid ((HTG.out.ts (by omega)).after (cl := []) (fun es e => by cases e) HGD.out HM.out.symm HK4.out HN6.out bits)
    go_wp2_with fail
    go_meet
    case rel => exact ⟨⟨_, rfl⟩, crL Z q, [], none, 0, R, S, _, _, ad, cp, rfl, by rw [crL_len]; omega, by simp, HX.out, HK.out, EntsIn.nil _ _ _, HAF.out.1, HAF.out.2⟩
 case rest =>
  clear HX5 HTG
  obtain ⟨⟨i3, rfl⟩, L, co, ac, cc, R, S, v, u, ad, cp, rfl, hL5, hco1, hx, hk, he, hlv, hq⟩ := hcut
  have HX := hid hx; have HK := hid hk; have HE := hid he; have HLV := hid hlv; have HQ := hid hq; have HL5 := hid hL5; have HCO1 := hid hco1
  have HBB : Hid (BitsAt wc ia ilen bits) := hid (HBT.out.only HX.out.ext (fun _ _ _ x => x))
  have HBS := hid (show ∀ p, ia = some p → 0 < ilen → S p.block from fun p e q => HX.out.vx.ve.low _ (HBL.out p e q))
  clear hx hk he hlv hq hL5 hco1
  go_wp2_with fail
  refine (at_boot HX.out.rack ia ilen icap bits HBB.out HBS.out).mono ?_
  rintro e w8 ⟨rfl, h8, k8⟩
  have HX8 := hid (HX.out.keep h8 k8)
  have HK8 := hid (HK.out.only k8 fun b hb q => q hb.1)
  have HE8 := hid ((HE.out.only k8 fun b hb q => q hb.1.1).mono fun b hb => (⟨hb.1, Nat.lt_of_lt_of_le hb.2.1 k8.size, hb.2.2⟩ : crP S g gv t b ∧ b < w8.heap.size ∧ _))
  have HTN0 := hid (show Tnt (R.boot bits) (R.boot bits) nn m (List.range nn) from by
   have := Tnt.start HLV.out
   rw [HNT.out] at this; exact this)
  clear h8 k8 HX HBB HBS HK HE HLV
  go_wp2_with fail
  go_loopw [25] (fun ti wd => ∃ i : Nat, ti = .int .i64 i ∧ i + kk ≤ nn ∧ ∃ (R9 : Rck) (Lx : List Nat), Tnt (R.boot bits) R9 nn m Lx ∧ nn ≤ Lx.length + i ∧ TX w wd S r R9 g c gv v t u ∧ TKeep (crP S g gv t) wd w.heap.size u19 L ad cp ∧ EntsIn (fun b => crP S g gv t b ∧ b < wd.heap.size ∧ u19.ownBlock ≠ some b) wd ac co) (fun ti _ => nn - (intOf ti).toNat)
  case atStart => exact ⟨0, rfl, by have := HKN.out; omega, _, _, HTN0.out, by simp, HX8.out, HK8.out, HE8.out⟩
  case round =>
   clear HX8 HK8 HE8 HTN0
   obtain ⟨i, rfl, hi, R9, Lx, htn, hln, hx, hk, he⟩ := hrel
   have HTN := hid htn; have HLN := hid hln; have HX := hid hx; have HK := hid hk; have HE := hid he
   clear htn hln hx hk he
   have ck : wr.cell? ⟨g, 1, none⟩ = some (.int .i64 kk) := HX.out.vx.c1.trans (by rw [HKC.out])
   have cn : wr.cell? ⟨g, 2, none⟩ = some (.int .i64 nn) := HX.out.vx.c2.trans (by rw [HN.out])
   have hw1 : wrap64 ((nn : Int) - (kk : Int)) = (nn : Int) - (kk : Int) := by unfold wrap64; omega
   have hw2 : IntKind.i64.wrap ((nn : Int) - (kk : Int)) = (nn : Int) - (kk : Int) := by rw [IntKind.wrap_i64]; omega
   by_cases hik : i + kk < nn
   ·
    have d1 : (i : Int) < (nn : Int) - (kk : Int) := by omega
    have i0 : (0 : Int) ≤ (i : Int) := by omega
    by_cases hgo : i < olen
    ·
     have g1 : (i : Int) < (olen : Int) := by omega
     obtain ⟨jb, joff, vj, rfl, hcj⟩ := HO.out i hgo
     have HCJ := hid (show wr.cell? ⟨jb, joff + i, none⟩ = some (.int .i64 vj) from Ext.cell HX.out.ext hcj)
     obtain ⟨s0, s1⟩ := Zck vj 0 ((nn : Int) - 1) (by omega)
     obtain ⟨dx, hdx⟩ := Int.eq_ofNat_of_zero_le s0
     have hd3 : dx < nn := by omega
     have xd : Ext wr wr.drew := (Ext.refl wr).drew
     have HXD := hid xd
     have wi : Hid (∀ y : SW Ext wr.drew, Calls Tryz.prog 20 #[.int .i64 vj, .int .i64 0, .int .i64 ((nn : Int) - 1)] y.w fun e w'' => e = .returned (.int .i64 (dx : Int)) ∧ Ext y.w w'') := hid fun y => (within_c vj 0 ((nn : Int) - 1) y.w (by omega) (by omega) (by omega)).mono fun e w'' q => ⟨by rw [q.1, hdx], q.2 ▸ Ext.refl _⟩
     go_wp2_with fail
     clear hw1 hw2 ck
     have hw1 : wrap64 ((nn : Int) - 1) = (nn : Int) - 1 := by unfold wrap64; omega
     have hw2 : IntKind.i64.wrap ((nn : Int) - 1) = (nn : Int) - 1 := by rw [IntKind.wrap_i64]; omega
     have cn' : ∀ y : SW Ext wr.drew, y.w.cell? ⟨g, 2, none⟩ = some (.int .i64 nn) := fun y => Ext.cell (Ext.trans HXD.out y.ext) cn
     have cl : ∀ y : SW Ext wr.drew, y.w.cell? ⟨jb, joff + i, none⟩ = some (.int .i64 vj) := fun y => Ext.cell (Ext.trans HXD.out y.ext) HCJ.out
     clear xd HCJ cn s0 s1 hdx hcj
     refine Zal (S := Ext) (.fin [0, 1, 2, 3, 4, 5, 6, 7, 8]) (by kernel_rfl) (by kernel_rfl) (fun _ _ d _ _ h => by cases d <;> exact h) ?_
     rw [wpS]
     simp only [opsAt, opA, opB, opC, opD, opE, opF, opG]
     iterate 7 ((refine Zab (fun K hK => ?_); go_simp; refine hK _ ?_; clear hK K))
     (refine Zab (fun K hK => ?_); go_simp; (apply Exists.intro; refine ⟨fun x => ?_, hK _ ?_⟩; (exact wi.out x); clear hK K))
     (refine Zab (fun K hK => ?_); go_simp; refine hK _ ?_; clear hK K)
     refine Zae ?_
     intro V2 hV2
     have HV2 := hid (Ext.trans HXD.out hV2)
     have HX2 := hid (HX.out.more HV2.out)
     have HK2 := hid (HK.out.ext HV2.out)
     have HE2 := hid ((HE.out.ext HV2.out).mono fun b hb => (⟨hb.1, Nat.lt_of_lt_of_le hb.2.1 HV2.out.size, hb.2.2⟩ : crP S g gv t b ∧ b < V2.heap.size ∧ _))
     clear cn' cl hV2 HXD wi hw1 hw2 HX HK HE
     go_wp2_with fail
     refine (at_die HX2.out.rack (dx : Int)).mono ?_
     rintro e w9 ⟨rfl, h9, k9⟩
     obtain ⟨Ly, hty, hly⟩ := HTN.out.die_any hd3
     have HTY := hid hty
     have HLY := hid (show nn ≤ Ly.length + (i + 1) by have := HLN.out; omega)
     have HX9 := hid (HX2.out.keep h9 k9)
     have HK9 := hid (HK2.out.only k9 fun b hb q => q hb.1)
     have HE9 := hid ((HE2.out.only k9 fun b hb q => q hb.1.1).mono fun b hb => (⟨hb.1, Nat.lt_of_lt_of_le hb.2.1 k9.size, hb.2.2⟩ : crP S g gv t b ∧ b < w9.heap.size ∧ _))
     clear h9 k9 hty hly HX2 HK2 HE2 HTN
     go_wp2_with fail
     go_roundw
     case rel => exact ⟨i + 1, by go_num, by omega, _, Ly, HTY.out, HLY.out, HX9.out, HK9.out, HE9.out⟩
     case measure => simp [intOf]; omega
    ·
     have g1 : ¬ (i : Int) < (olen : Int) := by omega
     have hd3 : i < nn := by omega
     go_wp2_with fail
     clear hw1 hw2 ck cn
     refine (at_die HX.out.rack (i : Int)).mono ?_
     rintro e w9 ⟨rfl, h9, k9⟩
     obtain ⟨Ly, hty, hly⟩ := HTN.out.die_any hd3
     have HTY := hid hty
     have HLY := hid (show nn ≤ Ly.length + (i + 1) by have := HLN.out; omega)
     have HX9 := hid (HX.out.keep h9 k9)
     have HK9 := hid (HK.out.only k9 fun b hb q => q hb.1)
     have HE9 := hid ((HE.out.only k9 fun b hb q => q hb.1.1).mono fun b hb => (⟨hb.1, Nat.lt_of_lt_of_le hb.2.1 k9.size, hb.2.2⟩ : crP S g gv t b ∧ b < w9.heap.size ∧ _))
     clear h9 k9 hty hly HX HK HE HTN
     go_wp2_with fail
     go_roundw
     case rel => exact ⟨i + 1, by go_num, by omega, _, Ly, HTY.out, HLY.out, HX9.out, HK9.out, HE9.out⟩
     case measure => simp [intOf]; omega
   ·
    have d1 : ¬ (i : Int) < (nn : Int) - (kk : Int) := by omega
    obtain ⟨R2, v', L', hop, hro, hor⟩ := HQ.out R9 Lx (by rw [HNT.out]; exact HTN.out) (by have := HKT.out; have := HLN.out; omega)
    have HOP := hid hop; have HRO := hid hro; have HOR := hid hor
    clear hop hro hor
    go_wp2_with fail
    clear hw1 hw2 ck cn
    refine (topen_c HX.out.rack HRO.out).mono ?_
    rintro e w10 h10
    rw [HOP.out] at h10
    rcases h10 with ⟨_, q, _⟩ | ⟨_, gv2, t2, T2, ao, co2, hok⟩
    ·
     cases q
    obtain rfl := hok.ret
    have HGOT := hid (show TapesIn (fun b => wr.heap.size ≤ b) w10 ao L' from hok.rowsIn)
    have HTP := hid (show TapeAt w10 t2 gv2 L'.length from hok.tape)
    have HXA := hid (show Ext w w10 from (HX.out.opened hok).ext)
    have HKA := hid (HK.out.only hok.keep fun b hb q => q hb.1)
    have HEA := hid ((HE.out.only hok.keep fun b hb q => q hb.1.1).mono fun b hb => (⟨hb.1, Nat.lt_of_lt_of_le hb.2.1 hok.keep.size, hb.2.2⟩ : crP S g gv t b ∧ b < w10.heap.size ∧ _))
    have HOWN := hid (fun b hb => (HK.out.own.lt b hb).2)
    have HLL := hid (show L'.length ≤ 140737488355328 from by
     have := HL5.out
     rcases HOR.out with q | ⟨_, q⟩ <;> rw [q] <;> simp <;> omega)
    clear hok HX HK HE HOP HRO
    have HTL : Hid (Calls Tryz.prog 15 #[.slice ao L'.length co2, u19] w10 fun e w' => e = .returned (.bool (decide (L' = L))) ∧ Ext w10 w') := hid (by
     obtain ⟨aw', cw', hsl, hta⟩ := HKA.out.slice
     rw [hsl]
     exact tall_c co2 cw' HGOT.out.tapes hta HLL.out)
    go_wp2_with fail
    refine (tused_c HTP.out).mono ?_
    rintro e _ ⟨rfl, rfl⟩
    go_wp2_with fail
    refine HTL.out.mono ?_
    rintro e w11 ⟨rfl, x11⟩
    rcases HOR.out with hsame | ⟨hne, hsame⟩
    ·
     rw [decide_eq_true hsame]
     have HXB := hid (Ext.trans HXA.out x11)
     clear x11 hsame
     go_wp2_with fail
     refine (tapeRuns_c _).mono ?_
     rintro e w13 ⟨rfl, x13⟩
     have HXC := hid (Ext.trans HXB.out x13)
     clear x13
     go_wp2
     go_ret
     exact ⟨rfl, HXC.out⟩
    ·
     rw [decide_eq_false (fun q : L' = L => by have := congrArg List.length (hsame.symm.trans q); simp at this)]
     have hpos : (0 : Int) < (co.length : Int) := by
      have := List.length_pos_iff.2 hne
      omega
     have HKB := hid (HKA.out.ext x11)
     have HEB := hid ((HEA.out.ext x11).mono fun b hb => (⟨hb.1, Nat.lt_of_lt_of_le hb.2.1 x11.size, hb.2.2⟩ : crP S g gv t b ∧ b < w11.heap.size ∧ _))
     have HXB := hid (Ext.trans HXA.out x11)
     obtain ⟨v12, w12, ad12, cp12, hap, hk12, hon12⟩ := HKB.out.push (c := cc) HEB.out (by have := HCO1.out; omega) (by have := HL5.out; omega) HXB.out.size
     obtain ⟨LL, hLL⟩ : ∃ LL, L ++ [co] = LL := ⟨_, rfl⟩
     rw [hLL] at hk12 hsame
     clear hLL
     obtain ⟨a12, c12, rfl, hta12⟩ := hk12.slice
     have HAP := hid hap
     have HSV := hid (show (tapV ac co.length cc).size = 1 from rfl)
     have HXD := hid (show Ext w w12 from Ext.then HXB.out hon12 fun b hb e => by have := (HKB.out.own.lt b e).1; omega)
     have HGT := hid (show TapesIn (fun b => wr.heap.size ≤ b) w12 ao L' from (HGOT.out.only (Only.ext (Only.refl (fun b => u19.ownBlock = some b) _) x11) fun b _ q => by have := HOWN.out b q; omega).only hon12 fun b hb e => by have hb : wr.heap.size ≤ b := hb; have := HOWN.out b e; omega)
     have HTB := hid hta12
     have HSM := hid hsame
     clear hap hk12 hon12 x11 hta12 hsame hne
     go_wp2_with (first
      | (guard_target = wpList _ _ _ (⟨some _, Op.buildSlice _ _ _, _, _, _, none⟩ :: _) _ _; refine Zak rfl 35 25 _ rfl (tapV ac co.length cc) _ _ 1 24 Tryz.underlying35 infoRows (by omega) (by omega) rfl rfl HSV.out ?_)
      | (at_builtin; refine wpListG_append_run _ _ _ rfl _ _ _ _ rfl rfl rfl HAP.out ?_))
     refine (tall_c co2 c12 HGT.out.tapes HTB.out HLL.out).mono ?_
     rintro e w13 ⟨rfl, x13⟩
     rw [decide_eq_true HSM.out]
     have HXE := hid (Ext.trans HXD.out x13)
     clear x13
     go_wp2_with fail
     refine (tapeRuns_c _).mono ?_
     rintro e w14 ⟨rfl, x14⟩
     have HXF := hid (Ext.trans HXE.out x14)
     clear x14
     go_wp2
     go_ret
     exact ⟨rfl, HXF.out⟩
end Go.Proofs.YtbdfjiedceaoiaaGreat
namespace Go.Proofs.YtbdfjiedceaoiaaGreat.tapeCrash
open Go.ChangeShapes Go.WideShapes Go.ChangeAt Go.RowKit
open Go.ChangeMaps (open_string shut_string)
set_option linter.unusedVariables false
theorem own : ownKnob Tryz.prog.godebug = none := by kernel_rfl
theorem laidOut : laidOutB Tryz.prog = true := by kernel_rfl
theorem walk (a0 : Int) (a1 : Int) (a2 : Option Addr) (len2 cap2 : Nat) (z2 : Nat → List Nat) (a3 : Int) (a4 : Option Addr) (len4 cap4 : Nat) (z4 : List Int) (a5 : Option Addr) (len5 cap5 : Nat) (z5 : List Int) (w : World) (w2 : NestAt w a2 len2 z2) (w4 : IsRow .u64 w a4 len4 cap4 z4) (w5 : IsRow .i64 w a5 len5 cap5 z5) :
  Calls Tryz.prog 5 #[.int .i64 a0, .int .i64 a1, .slice a2 len2 cap2, .int .i64 a3, .slice a4 len4 cap4, .slice a5 len5 cap5] w fun e w' => e = .returned (.bool true) ∧ Below w.heap.size w w' :=
 (tapeCrash_c a0 a1 a2 len2 cap2 z2 a3 a4 len4 cap4 z4 a5 len5 cap5 z5 w w2 w4 w5).mono fun _ _ ⟨he, hx⟩ => ⟨he, hx.below⟩
set_option maxRecDepth 100000 in
theorem lifted (os : Os) (started : os.Started) (H : Type) (enc : TypeId × Value → H) :
  ReturnsInHanded {} Tryz.checked os 5 .any (Rows.tapeCrashSpec.pre6 enc Tryz.prog Tryz.f5 Rows.tapeCrashRow.domain false) (Rows.tapeCrashSpec.post enc Tryz.prog Tryz.f5 false true false false) := by
 refine returnsInHanded_of_change (C := Tryz.checked) own started (by kernel_rfl) Tryz.func5
  (ChangeSpec.witness6 (enc := enc) (C := Tryz.checked) false ⟨#[], #[.int .i64 0, .int .i64 0, .slice none 0 0, .int .i64 0, .slice none 0 0, .slice none 0 0], []⟩ 8 (by kernel_rfl) (by kernel_rfl) (by kernel_rfl) (by kernel_rfl)) ?_
 intro W base args ds gs before hval0 hW hcnd _
 have hval : ∀ (j : Nat) t v, Tryz.f5.params[j]? = some t → args[j]? = some v → Value.okWide Tryz.prog W .any base t v := hval0
 have hW' := hW
 obtain ⟨p, q, hA0, hV, rfl, hfz, hnd⟩ := hW
 have hA : DataW.TrodAll enc Tryz.prog W 0 (fun _ => true) true Tryz.f5.params.toList args.toList ds p := hA0
 rw [Tryz.params5] at hA hval
 obtain ⟨v0, vs0, d0, ds0, p0, q0, hargs, rfl, rfl, h0, r0⟩ := trodAll_cons hA
 obtain ⟨v1, vs1, d1, ds1, p1, q1, rfl, rfl, rfl, h1, r1⟩ := trodAll_cons r0
 obtain ⟨v2, vs2, d2, ds2, p2, q2, rfl, rfl, rfl, h2, r2⟩ := trodAll_cons r1
 obtain ⟨v3, vs3, d3, ds3, p3, q3, rfl, rfl, rfl, h3, r3⟩ := trodAll_cons r2
 obtain ⟨v4, vs4, d4, ds4, p4, q4, rfl, rfl, rfl, h4, r4⟩ := trodAll_cons r3
 obtain ⟨v5, vs5, d5, ds5, p5, q5, rfl, rfl, rfl, h5, r5⟩ := trodAll_cons r4
 obtain ⟨rfl, rfl, rfl⟩ := trodAll_nil r5
 obtain rfl : args = #[v0, v1, v2, v3, v4, v5] := by cases args; simp_all
 obtain ⟨rfl, rfl⟩ := trodVars_none hV
 obtain ⟨a0, rfl, rfl, rfl, w0⟩ := open_int Tryz.underlying3 (hval 0 3 v0 rfl rfl) h0
 obtain ⟨a1, rfl, rfl, rfl, w1⟩ := open_int Tryz.underlying3 (hval 1 3 v1 rfl rfl) h1
 obtain ⟨a2, len2, cap2, rfl⟩ := okWide_slice Tryz.underlying25 (hval 2 25 v2 rfl rfl)
 have k2 := h2
 have lt2 : ∀ x ∈ p2, x.block < W.heap.size := by obtain ⟨m, hm⟩ := k2; exact DataW.trod_lt m _ _ _ hm
 obtain ⟨z2, w2⟩ : ∃ z, NestAt W a2 len2 z := by
  obtain ⟨fuel, hf⟩ := h2
  rcases Go.Deep.open_int_rows Tryz.underlying25 Tryz.underlying24 Tryz.underlying5 (by kernel_rfl) (by kernel_rfl) hf with ⟨hcs, _⟩ | ⟨x, l, c, A', L', C', Z', hcs, _, hl, _, _, hrows⟩
  ·
   simp [Value.cells] at hcs
   obtain ⟨rfl, rfl, rfl⟩ := hcs
   exact ⟨fun _ => [], NestAt.nil _ _ _⟩
  ·
   simp [Value.cells] at hcs
   obtain ⟨rfl, rfl, rfl⟩ := hcs
   exact ⟨_, nest_of hl hrows⟩
 obtain ⟨a3, rfl, rfl, rfl, w3⟩ := open_int Tryz.underlying3 (hval 3 3 v3 rfl rfl) h3
 obtain ⟨a4, len4, cap4, rfl⟩ := okWide_slice Tryz.underlying51 (hval 4 51 v4 rfl rfl)
 have k4 := h4
 have lt4 : ∀ x ∈ p4, x.block < W.heap.size := by obtain ⟨m, hm⟩ := k4; exact DataW.trod_lt m _ _ _ hm
 obtain ⟨z4, w4⟩ : ∃ zs, IsRow .u64 W a4 len4 cap4 zs := by
  obtain ⟨fuel, hf⟩ := h4
  rcases open_ints Tryz.underlying51 Tryz.underlying83 (by kernel_rfl) hf with ⟨hcs, _⟩ | ⟨x, l, c, zs, hcs, _, hl, hm, hz, _, hcell, hwz⟩
  ·
   simp [Value.cells] at hcs
   obtain ⟨rfl, rfl, rfl⟩ := hcs
   exact ⟨[], .inl ⟨rfl, rfl, rfl, rfl⟩⟩
  ·
   simp [Value.cells] at hcs
   obtain ⟨rfl, rfl, rfl⟩ := hcs
   exact ⟨zs, .inr ⟨_, rfl, hl, hm, by simpa using hz, hcell, hwz⟩⟩
 obtain ⟨a5, len5, cap5, rfl⟩ := okWide_slice Tryz.underlying52 (hval 5 52 v5 rfl rfl)
 have k5 := h5
 have lt5 : ∀ x ∈ p5, x.block < W.heap.size := by obtain ⟨m, hm⟩ := k5; exact DataW.trod_lt m _ _ _ hm
 obtain ⟨z5, w5⟩ : ∃ zs, IsRow .i64 W a5 len5 cap5 zs := by
  obtain ⟨fuel, hf⟩ := h5
  rcases open_ints Tryz.underlying52 Tryz.underlying3 (by kernel_rfl) hf with ⟨hcs, _⟩ | ⟨x, l, c, zs, hcs, _, hl, hm, hz, _, hcell, hwz⟩
  ·
   simp [Value.cells] at hcs
   obtain ⟨rfl, rfl, rfl⟩ := hcs
   exact ⟨[], .inl ⟨rfl, rfl, rfl, rfl⟩⟩
  ·
   simp [Value.cells] at hcs
   obtain ⟨rfl, rfl, rfl⟩ := hcs
   exact ⟨zs, .inr ⟨_, rfl, hl, hm, by simpa using hz, hcell, hwz⟩⟩
 clear hA0 hval0
 refine (walk a0 a1 a2 len2 cap2 z2 a3 a4 len4 cap4 z4 a5 len5 cap5 z5 W w2 w4 w5).mono fun e W' ⟨he, bel⟩ => ?_
 subst he
 exact ⟨_, rfl, _, _, _, [], _, [], hW', trodAll_mk1 (shut_bool Tryz.underlying4 _), (trodAll_cons_mk (shut_int Tryz.underlying3 w0) (trodAll_cons_mk (shut_int Tryz.underlying3 w1) (trodAll_cons_mk (Below.trod laidOut (by kernel_rfl) (of_decide_eq_true (by kernel_rfl)) k2 bel lt2) (trodAll_cons_mk (shut_int Tryz.underlying3 w3) (trodAll_cons_mk (Below.trod laidOut (by kernel_rfl) (of_decide_eq_true (by kernel_rfl)) k4 bel lt4) (trodAll_cons_mk (Below.trod laidOut (by kernel_rfl) (of_decide_eq_true (by kernel_rfl)) k5 bel lt5) trodAll_mk0)))))), rfl, bel.frame _, fun h => by cases h⟩
theorem over : Rows.tapeCrashRow.holds Tryz.pinned (OpenSpec.ofChange Rows.tapeCrashSpec) :=
 OpenClaim.holds_of_wide 5 Tryz.f5 rfl rfl rfl rfl rfl rfl rfl ⟨rfl, rfl, rfl, rfl, rfl⟩ rfl rfl rfl rfl rfl (by kernel_rfl) Tryz.func5 (by kernel_rfl)
  (of_decide_eq_true (by kernel_rfl)) (by unfold Func.isWrapper; first | (rw [if_pos (by decide +kernel)]; kernel_rfl) | (rw [if_neg (by decide +kernel)]; exact ⟨rfl, rfl⟩))
  (fun os started H enc _ => lifted os started H enc)
theorem proved : Rows.TapeCrashSaid := over
#print axioms proved
end Go.Proofs.YtbdfjiedceaoiaaGreat.tapeCrash
