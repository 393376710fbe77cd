/- The statement JournalPlays, as its tied card: for every input the call of stavelaw10's JournalPlays answers true, and its arguments read behind it as they read before. No condition of our own. -/
/- Texts of one proof, joined: WJournalPlays, LawJournalPlays. -/
import Derived.Test.YtgjnnbomnoafcaaGreatDoorUT
import Derived.Test.YtgjnnbomnoafcaaGreatDoorUS
import Derived.Test.YtgjnnbomnoafcaaGreatDoorUO
import Derived.Test.YtgjnnbomnoafcaaGreatDoorUU
import Derived.Test.YtgjnnbomnoafcaaGreatDoorUN
import Derived.Test.YtgjnnbomnoafcaaGreatDoorUI
import Derived.Test.YtgjnnbomnoafcaaGreatDoorUC
import Derived.Deep.DeepCutAuto
import Derived.Deep.CutBlock
import Derived.Test.YtgjnnbomnoafcaaGreatDoorCards
import Derived.Test.YtgjnnbomnoafcaaGreatDoorTie
import Derived.WalkKit
import Derived.ProofKit
import Derived.OpenShut
import Derived.ShutString
import Derived.ChangeOld
import Derived.Below
import Derived.SevenTiedAt
set_option linter.unusedVariables false
set_option linter.unusedSimpArgs false
namespace Go.Proofs.YtgjnnbomnoafcaaGreatDoor
set_option linter.unusedVariables false
open Go Go.RowKit
attribute [local irreducible] wpSQ
theorem Rck.Dim.each {α:Type} {n m:Nat} {f:Rck->α->Option Err × Rck} (hf:∀ R a,Rck.Dim R n m->Rck.Dim (f R a).2 n m) (l:List α):∀ R,Rck.Dim R n m->Rck.Dim (Go.Proofs.YtgjnnbomnoafcaaGreatDoor.each f l R).2 n m:=by
 induction l with
 | nil=>exact fun R h=>h
 | cons a l ih =>
  intro R h
  have h1:=hf R a h
  rcases hq:f R a with ⟨o,R1⟩
  rw [hq] at h1
  rcases o with _ | e
  ·
   rw [each_ok hq]; exact ih R1 h1
  ·
   rw [each_err hq]; exact h1
theorem Rck.Dim.jput {R:Rck} {n m:Nat} (h:Rck.Dim R n m) (c:Cfg) (slot:Int) (x:Rcd):Rck.Dim (R.jput c slot x).2 n m:=by
 have h0:∀ (R:Rck) (d:Nat),Rck.Dim R n m->Rck.Dim (Rck.jrow c slot x R d).2 n m:=fun R d h=>Rck.Dim.each (f:=fun R i=>R.write d (Rck.jsec c slot i) (x.frm i).put) (fun R i h=>Rck.Dim.write h _ _ _) _ R h
 have h1:Rck.Dim (Go.Proofs.YtgjnnbomnoafcaaGreatDoor.each (Rck.jrow c slot x) R.online R).2 n m:=Rck.Dim.each h0 _ R h
 unfold Rck.jput
 split
 ·
  exact h1
 ·
  exact Rck.Dim.each (f:=fun R d=>R.flush (d:Nat)) (fun R d h=>Rck.Dim.flush h _) _ _ h1
theorem Rck.Dim.jlog {R:Rck} {n m:Nat} (h:Rck.Dim R n m) (c:Cfg) (x:Rcd):Rck.Dim (R.jlog c x).2 n m:=by
 unfold Rck.jlog
 split
 ·
  exact h.jput _ _ _
 ·
  exact h
theorem Rck.Dim.jblank {R:Rck} {n m:Nat} (h:Rck.Dim R n m) (c:Cfg) (s:Int):Rck.Dim (R.jblank c s).2 n m:=by
 unfold Rck.jblank
 split
 ·
  exact h.jput _ _ _
 ·
  exact h
theorem wholeFrom_all (seq:Int):∀ (l:List (List Frm)) (i:Nat) (x y:Rcd),wholeFrom seq i x l=some y->(∀ fs∈l,∀ f∈fs,f.Ok)->x.Ok->y.Ok/\y.blocks.length=x.blocks.length+l.length:=by
 intro l
 induction l with
 | nil=>intro i x y h _ hx; rw [wholeFrom_nil] at h; cases h; exact ⟨hx,rfl⟩
 | cons fs l ih =>
  intro i x y h hl hx
  rcases hp:pickF seq i x.stripe fs with _ | f
  ·
   rw [wholeFrom_none hp] at h; cases h
  ·
   rw [wholeFrom_some hp] at h
   have hf:=hl fs List.mem_cons_self f (List.mem_of_find?_eq_some hp)
   obtain ⟨h1,h2⟩:=ih (i+1) _ y h (fun gs hg=>hl gs (List.mem_cons_of_mem _ hg)) ⟨fun b hb=>by
    rcases List.mem_append.1 hb with hb | hb
    ·
     exact hx.len b hb
    ·
     rw [List.mem_singleton.1 hb]; exact hf.len,fun b hb=>by
    rcases List.mem_append.1 hb with hb | hb
    ·
     exact hx.byte b hb
    ·
     rw [List.mem_singleton.1 hb]; exact hf.byte⟩
   refine ⟨h1,h2.trans ?_⟩
   simp; omega
theorem RackAt.jslot_fit {S:Nat->Prop} {w:World} {r:Nat} {R:Rck} (h:RackAt S w r R) (c:Cfg) (slot:Int):(R.jslot c slot).1.Ok/\(R.jslot c slot).1.blocks.length<=8:=by
 have h0:Rcd.none_.Ok/\Rcd.none_.blocks.length<=8:=⟨⟨by simp [Rcd.none_],by simp [Rcd.none_]⟩,by simp [Rcd.none_]⟩
 unfold Rck.jslot
 split
 ·
  rename_i hk
  split
  ·
   exact h0
  ·
   rcases hw:whole (newest (R.jall c slot)) (R.jall c slot) with _ | y
   ·
    exact h0
   ·
    have hg:c.Good:=by
     unfold Rck.jknown at hk
     simp only [Bool.and_eq_true] at hk
     exact Rck.fits_good hk.1.1
    obtain ⟨h1,h2⟩:=wholeFrom_all _ _ _ _ _ hw (fun fs hfs f hf=>by
     obtain ⟨i,_,rfl⟩:=Rck.jall_mem.1 hfs
     exact h.jgoods_ok f hf) ⟨by simp,by simp⟩
    refine ⟨h1,?_⟩
    show y.blocks.length<=8
    rw [h2,Rck.jall_len]
    have:=hg.k1; have:=hg.n1
    simp; omega
 ·
  exact h0
set_option maxRecDepth 100000 in
set_option maxHeartbeats 4000000 in
theorem journalPlays_c (k n stripes slots:Int) (a:Option Addr) (len cap:Nat) (w:World) (hg:EtLaid w) (ha:Ak10sAt w a len):Calls Tryz.prog 5 #[.int .i64 k,.int .i64 n,.int .i64 stripes,.int .i64 slots,.slice a len cap] w fun e w'=>e=.returned (.bool true)/\Ext w w':=by
 have HLAID:=hid hg; have HA:=hid ha
 have HCS:=hid Cfg.A_size
 have hzc:=zero_cfg
 have hzk:=zero_Ak10
 have hzr:=zero_rec
 clear hg ha
 go_enter Tryz.func5,Tryz.ntmps5
 go_wp2_with fail
 refine (kconfig_c k n stripes slots w).mono ?_
 rintro e w1 ⟨rfl,x1⟩
 have HGD:=hid (keepCfg_good k n stripes slots)
 have HN6:=hid (show (keepCfg k n stripes slots).n<=6 from (Zbg n (within k 1 4) 6 (by have:=Zbg k 1 4 (by omega); omega)).2)
 generalize keepCfg k n stripes slots=c at *
 have HX1:=hid x1
 clear x1
 obtain ⟨W1,hW1⟩:∃ W,w1.alloc (.cells (Cfg.A c) 74)=W:=⟨_,rfl⟩
 have HBW1:=hid (show W1.heap[w1.heap.size]?=some (.cells (Cfg.A c) 74 (0,0)) from hW1▸heap_alloc_new _ _)
 have HXXW1:=hid (show Ext w1 W1 from hW1▸(Ext.refl w1).alloc _)
 have hb1:(w1.alloc (.cells (Cfg.A Cfg.zero) 74)).heap[w1.heap.size]?=some (.cells (Cfg.A Cfg.zero) 74 (0,0)):=Zaf
 have HWW1:=hid hW1
 obtain ⟨gc,hgc⟩:∃ g,w1.heap.size=g:=⟨_,rfl⟩
 have HGW1:=hid hgc
 rw [hgc] at HBW1
 clear hW1 hgc
 go_wp2_with (first
  | (guard_target=wpList _ _ _ (⟨none,Op.store _ _ _,_,_,_,none⟩::_) _ _; have hb0:=hb1; clear hb1; refine Zaa rfl 74 _ _ rfl w1.heap.size rfl (Cfg.A c) _ rfl 74 (Zas _) hb0 (by rw [HCS.out,HCS.out]) (Cfg.A_one _) ?_; rw [Zag,HWW1.out,HGW1.out])
  | (guard_target=wpList _ _ _ (⟨some _,Op.load _ _,_,_,_,none⟩::_) _ _; refine Zab rfl 74 _ rfl ⟨gc,0,none⟩ rfl (Cfg.A c) (Zas _) (Zai HBW1.out) ?_))
 obtain ⟨m,hm,m1,m128⟩:=sectors_nat c HGD.out
 obtain ⟨nn,hn⟩:∃ nn:Nat,c.n=nn:=⟨c.n.toNat,by have:=HGD.out.k0; have:=HGD.out.k1; omega⟩
 obtain ⟨kk,hk⟩:∃ kk:Nat,c.k=kk:=⟨c.k.toNat,by have:=HGD.out.k0; omega⟩
 obtain ⟨sn,hsn⟩:∃ sn:Nat,c.slots=sn:=⟨c.slots.toNat,by have:=HGD.out.sl0; omega⟩
 have n1:1<=nn:=by have:=HGD.out.k0; have:=HGD.out.k1; omega
 have n8:nn<=6:=by have:=HN6.out; omega
 have HNM:=hid (And.intro n1 (And.intro n8 (And.intro m1 m128)))
 have HCN:=hid hn; have HCK:=hid hk; have HSLT:=hid hsn
 have HK8:=hid (show kk<=8 by have:=HGD.out.k1; have:=HGD.out.n1; omega)
 have HKT:=hid (show c.k.toNat=kk by omega)
 have HST:=hid (show c.slots.toNat=sn by omega)
 have HS4:=hid (show sn<=4 by have:=HGD.out.sl1; omega)
 refine (tnew_c c HGD.out nn m hn hm n1 (by omega) m1 m128 W1).mono ?_
 rintro e W4 ⟨t,r,q,rfl,h4,hlt4,x4⟩
 have HRJ:=hid (show RJ (Rck.new nn m) c m (fun _=>none) from by
  have:=RJ.new HGD.out (m:=m) (by rw [hm]; exact Int.le_refl _)
  rw [show c.n.toNat=nn by omega] at this
  exact this)
 clear hn hm n1 n8 m1 m128 hk hsn
 obtain ⟨S,hS⟩:∃ S:Nat->Prop,(fun b=>b < W1.heap.size\/b=t)=S:=⟨_,rfl⟩
 rw [hS] at h4
 have H4:=hid h4
 have HX4:=hid (Ext.trans HX1.out (Ext.trans HXXW1.out x4))
 have HSW:=hid (show ∀ b,b < w.heap.size->S b from fun b hb=>hS▸Or.inl (Nat.lt_of_lt_of_le hb (Ext.trans HX1.out HXXW1.out).size))
 have HSC:=hid (show S gc from hS▸Or.inl (lt_of_block HBW1.out))
 have HC4:=hid (x4.at HBW1.out)
 have HDM:=hid (Rck.Dim.new nn m)
 clear h4 x4 hS hlt4
 go_wp2_with fail
 go_loopw [13] (fun t' wq=>∃ s:Nat,t'=.int .i64 s/\s<=sn/\∃ R f,TwoIn S wq t r q R/\R.Dim nn m/\RJ R c m f/\Keeps S W4 wq) (fun t' _=>sn - (intOf t').toNat)
 case atStart=>exact ⟨0,rfl,by omega,_,_,H4.out,HDM.out,HRJ.out,Only.refl _ _⟩
 case round =>
  clear H4 HDM HRJ
  obtain ⟨s,rfl,hs,R,f,hT,hD,hJ,hK⟩:=hrel
  have HT:=hid hT; have HD:=hid hD; have HK:=hid hK; have HJ:=hid hJ
  have HC:=hid (hK.at HC4.out (fun hn=>hn HSC.out))
  have c4:wr.cell? ⟨gc,4,none⟩=some (.int .i64 sn):=(Zae HC.out).trans (by rw [Cfg.A4,HSLT.out])
  clear hT hD hK hJ
  by_cases hsl:s < sn
  ·
   have s0:(s:Int) < (sn:Int):=by omega
   have HS:=hid hsl
   obtain ⟨R1,hbl,hj1⟩:=HJ.out.blank (s:=s) (by rw [HST.out]; exact hsl)
   have HBL:=hid hbl; have HJ1:=hid hj1
   have HD1:=hid (show R1.Dim nn m from by have:=HD.out.jblank c s; rw [hbl] at this; exact this)
   clear hsl hbl hj1
   have HXD:=hid (show Ext wr wr.drew from (Ext.refl wr).drew)
   have e0:∀ y:SW (Only fun b=>¬S b) wr.drew,y.w.cell? ⟨t,0,none⟩=some (.pointer (some ⟨r,0,none⟩)):=fun y=>(Zae (y.ext.at (HXD.out.at HT.out.here) (fun hn=>hn HT.out.safe))).trans rfl
   have lc:Hid (∀ y:SW (Only fun b=>¬S b) wr.drew,∀ j v,(Cfg.A c).toList[j]?=some v->y.w.cell? ((⟨gc,0,none⟩:Addr).add j)=some v):=hid fun y=>Zai (y.ext.at (HXD.out.at HC.out) (fun hn=>hn HSC.out))
   go_wp2_with fail
   refine Zaw (E:=Ext) (S:=Only fun b=>¬S b) (.one [0,1,2,3,4,5] 6 (.one [7,8,9,10,11,12,13,14] 15 (.fin [16,17]))) (by kernel_rfl) (by kernel_rfl) (fun _ _ d _ _ h=>by cases d<;>exact h) ?_
   rw [wpS]
   simp only [opsAt,opA,opB,opC,opD,opE,opF,opG]
   iterate 4 ((refine Zac (fun K hK=>?_); go_simp; refine hK _ ?_; clear hK K))
   refine Zap 74 _ rfl ⟨gc,0,none⟩ rfl (Cfg.A c) rfl (Zas _) lc.out ?_
   (refine Zac (fun K hK=>?_); go_simp; refine hK _ ?_; clear hK K)
   refine Zak ?_
   intro U1 hU1
   have HU1:=hid (Ext.trans HXD.out hU1)
   clear hU1 e0 lc HXD c4
   refine Zay fun Q1 hQ1=>?_
   go_wp2_with fail
   obtain ⟨TL,hsub,hR,back⟩:=(HT.out.ext HU1.out).left
   refine (jblank_c hR c s).mono ?_
   rintro e U2 ⟨rfl,h',k'⟩
   rw [HBL.out] at h' ⊢
   simp only [oErr] at h' ⊢
   obtain ⟨h3,k3,c3⟩:=back _ _ h' k'
   have HH3:=hid h3
   have HC3:=hid c3
   have HK3:=hid (show Keeps S wr U2 from (Ext.only HU1.out).trans k3 fun c _ hc=>hc)
   clear hR back hsub h' k' h3 c3
   go_wp2
   refine hQ1 _ _ k3 ?_
   clear hQ1 Q1 k3
   rw [wpS]
   simp only [opsAt,opA,opB,opC,opD,opE,opF,opG]
   have e1:∀ y:SW (Only fun b=>¬S b) U2,y.w.cell? ⟨t,1,none⟩=some (.pointer (some ⟨q,0,none⟩)):=fun y=>(Zae (y.ext.at HC3.out (fun hn=>hn HT.out.safe))).trans rfl
   have lc:Hid (∀ y:SW (Only fun b=>¬S b) U2,∀ j v,(Cfg.A c).toList[j]?=some v->y.w.cell? ((⟨gc,0,none⟩:Addr).add j)=some v):=hid fun y=>Zai (y.ext.at (HK3.out.at HC.out (fun hn=>hn HSC.out)) (fun hn=>hn HSC.out))
   iterate 6 ((refine Zac (fun K hK=>?_); go_simp; refine hK _ ?_; clear hK K))
   refine Zap 74 _ rfl ⟨gc,0,none⟩ rfl (Cfg.A c) rfl (Zas _) lc.out ?_
   (refine Zac (fun K hK=>?_); go_simp; refine hK _ ?_; clear hK K)
   refine Zak ?_
   intro U3 hU3
   have HH4:=hid (HH3.out.ext hU3)
   have HK4:=hid (show Keeps S wr U3 from Only.ext HK3.out hU3)
   clear hU3 e1 lc
   refine Zay fun Q1 hQ1=>?_
   go_wp2_with fail
   obtain ⟨TR,hsub,hR,back⟩:=HH4.out.right
   refine (fjblank_c hR (by rw [HD.out.len]; exact HNM.out.1) (by rw [HD.out.len]; have:=HNM.out.2.1; omega) c s).mono ?_
   rintro e U6 ⟨rfl,h',k'⟩
   rw [HBL.out] at h' ⊢
   simp only [okind] at h' ⊢
   obtain ⟨h6,k6⟩:=back _ _ h' k'
   have HH7:=hid h6
   have HK7:=hid (show Keeps S wr U6 from HK4.out.trans k6 fun c _ hc=>hc)
   clear hR back hsub h' k' h6
   go_wp2
   refine hQ1 _ _ k6 ?_
   clear hQ1 Q1 k6
   rw [wpS]
   simp only [opsAt,opA,opB,opC,opD,opE,opF,opG]
   iterate 2 ((refine Zac (fun K hK=>?_); go_simp; refine hK _ ?_; clear hK K))
   refine Zak ?_
   intro U7 hU7
   have HF:=hid (show TwoIn S U7 t r q R1/\Keeps S W4 U7 from by
    have k:Keeps S wr U7:=Only.ext HK7.out hU7
    exact ⟨⟨HH7.out.ext hU7,k.at HT.out.here (fun hn=>hn HT.out.safe),HT.out.safe⟩,HK.out.trans k fun c _ hc=>hc⟩)
   clear hU7
   go_wp2
   go_roundw
   case rel=>rw [wwrap1 (by have:=HS4.out; have:=HS.out; omega)]; exact ⟨s+1,rfl,by have:=HS.out; omega,R1,_,HF.out.1,HD1.out,HJ1.out,HF.out.2⟩
   case measure=>rw [wwrap1 (by have:=HS4.out; have:=HS.out; omega)]; simp [intOf]; have:=HS.out; omega
  ·
   obtain rfl:sn=s:=by omega
   clear HJ f
   go_wp2_with fail
   clear c4
   go_loopw [14] (fun t' wq=>∃ i:Nat,t'=.int .i64 i/\i<=len/\i<=20/\∃ R,TwoIn S wq t r q R/\R.Dim nn m/\Keeps S W4 wq) (fun t' _=>20 - (intOf t').toNat)
   case atStart=>exact ⟨0,rfl,by omega,by omega,_,HT.out,HD.out,HK.out⟩
   case round =>
    clear HT HD HK HC R
    obtain ⟨i,rfl,hi,hi25,R,hT,hD,hK⟩:=hrel
    have HT:=hid hT; have HD:=hid hD; have HK:=hid hK
    have HX:=hid (Keeps.ext HX4.out hK HSW.out)
    clear hT hD hK
    by_cases hio:i < len/\i < 20
    ·
     obtain ⟨b,off,kd,o1,o2,o3,od,k2,d2,s2,q2,x,ba,bl,bc,bits,rfl,hbl,hi64,hx0,hx1,hbits,hcl⟩:=HA.out i hio.1
     have i0:(0:Int)<=(i:Int):=by omega
     have i1:(i:Int) < (len:Int):=by omega
     have i2:(i:Int) < 20:=by omega
     have HI:=hid (And.intro hio.1 hio.2)
     obtain ⟨xx,rfl⟩:=Int.eq_ofNat_of_zero_le hx0
     have HXX:=hid (show xx < 4294967296 by omega)
     have HCL:=hid (show ∀ y v,(Ak10A kd o1 o2 o3 od k2 d2 s2 q2 xx ba bl bc).toList[y]?=some v->wr.cell? ((⟨b,off+i*11,none⟩:Addr).add y)=some v from fun y v hv=>by
      rw [addr_plain]
      exact Ext.cell HX.out (hcl y v hv))
     obtain ⟨V1,hV1⟩:∃ W,wr.alloc (.cells (Ak10A kd o1 o2 o3 od k2 d2 s2 q2 xx ba bl bc) 97)=W:=⟨_,rfl⟩
     have x1':Ext wr V1:=hV1▸(Ext.refl wr).alloc _
     obtain ⟨gq,hgq⟩:∃ g,wr.heap.size=g:=⟨_,rfl⟩
     have HGQ:=hid hgq
     have HCB:=hid (show V1.heap[gq]?=some (.cells (Ak10A kd o1 o2 o3 od k2 d2 s2 q2 xx ba bl bc) 97 (0,0)) from hgq▸hV1▸heap_alloc_new _ _)
     have hbs:(wr.alloc (.cells (Ak10A 0 0 0 0 false 0 0 0 0 0 none 0 0) 97)).heap[wr.heap.size]?=some (.cells (Ak10A 0 0 0 0 false 0 0 0 0 0 none 0 0) 97 (0,0)):=Zaf
     have HV1:=hid hV1
     obtain ⟨T,hT⟩:∃ T:Nat->Prop,(fun b=>S b\/(wr.heap.size<=b/\b < V1.heap.size))=T:=⟨_,rfl⟩
     have HTS:=hid (show ∀ b,S b->T b from fun b hb=>hT▸Or.inl hb)
     have HTG:=hid (show T gq from hT▸Or.inr ⟨by rw [hgq]; exact Nat.le_refl _,lt_of_block HCB.out⟩)
     have H1:=hid (show TwoIn T V1 t r q R from hT▸HT.out.more (T:=fun b=>S b\/(wr.heap.size<=b/\b < V1.heap.size)) x1' (fun b hb=>by
      rcases hb with hb | hb
      ·
       exact ⟨Nat.lt_of_lt_of_le (HT.out.two.there b hb) x1'.size,.inl hb⟩
      ·
       exact ⟨hb.2,.inr hb.1⟩) (.inl HT.out.safe))
     have HK1:=hid (show Keeps S W4 V1 from Only.ext HK.out x1')
     have HX1':=hid (Ext.trans HX.out x1')
     have HBI:=hid (show BitsAt V1 ba bl bits from (hbits.only HX1'.out (fun _ _ q=>q)).1)
     have HBS:=hid (show ∀ p,ba=some p->0 < bl->T p.block from fun p hp h0=>HTS.out _ (HSW.out _ (hbits.2 p hp h0)))
     have q0:V1.cell? ⟨gq,0,none⟩=some (.int .i64 kd):=(Zae HCB.out).trans rfl
     have HC1:=hid (HK1.out.at HC4.out (fun hn=>hn HSC.out))
     have HSAFE:=hid HT.out.safe
     clear hcl hV1 x1' hbl hbits hx0 hx1 hi64 hT HT hgq hio
     go_upto_block 4 with (first
      | (guard_target=wpList _ _ _ (⟨some _,Op.load _ _,_,_,_,none⟩::_) _ _; refine Zab rfl 97 _ rfl ⟨b,off+i*11,none⟩ rfl (Ak10A kd o1 o2 o3 od k2 d2 s2 q2 xx ba bl bc) aggAk10 HCL.out ?_)
      | (guard_target=wpList _ _ _ (⟨none,Op.store _ _ _,_,_,_,none⟩::_) _ _; have hb0:=hbs; clear hbs; refine Zaa rfl 97 _ _ rfl wr.heap.size rfl (Ak10A kd o1 o2 o3 od k2 d2 s2 q2 xx ba bl bc) _ rfl 97 aggAk10 hb0 rfl (Ak10A_one _ _ _ _ _ _ _ _ _ _ _ _ _) ?_; rw [Zag,HV1.out,HGQ.out]))
     go_cut [74] (fun t' wq=>(∃ z:Int,t'=.int .i64 z)/\∃ R',TwoIn T wq t r q R'/\R'.Dim nn m/\Keeps T V1 wq)
     case first =>
      rcases hk1:(kd == (1:Int)) with _ | _
      ·
       rcases hk2:(kd == (2:Int)) with _ | _
       ·
        have HWR:=hid (show ∀ y v,(WrA k2 d2 s2 q2 xx ba bl bc).toList[y]?=some v->V1.cell? ((⟨gq,5,none⟩:Addr).add y)=some v from fun y v hv=>by
         rw [addr_plain]
         refine (Zae HCB.out).trans ?_
         rw [Ak10A_wear]; simpa using hv)
        go_wp2_with (guard_target=wpList _ _ _ (⟨some _,Op.load _ _,_,_,_,none⟩::_) _ _; refine Zab rfl 79 _ rfl ⟨gq,5,none⟩ rfl (WrA k2 d2 s2 q2 xx ba bl bc) aggWr HWR.out ?_)
        refine (twear_c H1.out HD.out HNM.out.1 (by have:=HNM.out.2.1; omega) HNM.out.2.2.1 HNM.out.2.2.2 k2 d2 s2 q2 xx HXX.out ba bl bc bits HBI.out HBS.out).mono ?_
        rintro e V2 ⟨rfl,R',h2,d2',k2'⟩
        have HF:=hid (And.intro h2 (And.intro d2' k2'))
        clear h2 d2' k2'
        go_wp2
        go_meet
        case rel=>exact ⟨⟨_,rfl⟩,R',HF.out.1,HF.out.2.1,HF.out.2.2⟩
       ·
        have HCV:=HC1
        have HXV:=HX1'
        have HTV:=hid (show ∀ b,T b->T b from fun b hb=>hb)
        have HX1V:=hid (Ext.refl V1)
        have HLOW:=hid (show ∀ b,b < w.heap.size->T b from fun b hb=>HTS.out _ (HSW.out b hb))
        have HXD:=hid (show Ext V1 V1.drew from (Ext.refl V1).drew)
        have base:=hid (show ∀ y:SW (Only fun b=>¬T b) V1.drew,∀ b o,T b->V1.heap[b]?=some o->y.w.heap[b]?=some o from fun y b o hb ho=>y.ext.at (HXD.out.at ho) (fun hn=>hn hb))
        have e0:∀ y:SW (Only fun b=>¬T b) V1.drew,y.w.cell? ⟨t,0,none⟩=some (.pointer (some ⟨r,0,none⟩)):=fun y=>(Zae (base.out y _ _ H1.out.safe H1.out.here)).trans rfl
        have e1:∀ y:SW (Only fun b=>¬T b) V1.drew,y.w.cell? ⟨t,1,none⟩=some (.pointer (some ⟨q,0,none⟩)):=fun y=>(Zae (base.out y _ _ H1.out.safe H1.out.here)).trans rfl
        have lc:Hid (∀ y:SW (Only fun b=>¬T b) V1.drew,∀ j v,(Cfg.A c).toList[j]?=some v->y.w.cell? ((⟨gc,0,none⟩:Addr).add j)=some v):=hid fun y=>Zai (base.out y _ _ (HTS.out _ HSC.out) HCV.out)
        have e2:∀ y:SW (Only fun b=>¬T b) V1.drew,y.w.cell? ⟨gq,1,none⟩=some (.int .i64 o1):=fun y=>(Zae (base.out y _ _ HTG.out HCB.out)).trans rfl
        go_wp2_with fail
        refine Zaw (E:=Ext) (S:=Only fun b=>¬T b) (.one [0,1,2,3,4,5,6,9,10,11,12,13,14,15] 7 (.one [] 8 (.one [] 16 (.fin [17])))) (by kernel_rfl) (by kernel_rfl) (fun _ _ d _ _ h=>by cases d<;>exact h) ?_
        rw [wpS]
        simp only [opsAt,opA,opB,opC,opD,opE,opF,opG]
        iterate 4 ((refine Zac (fun K hK=>?_); go_simp; refine hK _ ?_; clear hK K))
        refine Zap 74 _ rfl ⟨gc,0,none⟩ rfl (Cfg.A c) rfl (Zas _) lc.out ?_
        iterate 6 ((refine Zac (fun K hK=>?_); go_simp; refine hK _ ?_; clear hK K))
        refine Zap 74 _ rfl ⟨gc,0,none⟩ rfl (Cfg.A c) rfl (Zas _) lc.out ?_
        iterate 2 ((refine Zac (fun K hK=>?_); go_simp; refine hK _ ?_; clear hK K))
        refine Zak ?_
        intro U1 hU1
        have HU1:=hid (Ext.trans HXD.out hU1)
        clear hU1 e0 e1 e2 lc HXD base
        refine Zay fun Q1 hQ1=>?_
        go_wp2_with fail
        obtain ⟨TL,hsub,hR,back⟩:=(H1.out.ext HU1.out).two.left
        refine (jblank_c hR c o1).mono ?_
        rintro e U2 ⟨rfl,h',k'⟩
        obtain ⟨h3,k3⟩:=back _ _ h' k'
        have HDW:=hid (HD.out.jblank c o1)
        rcases hq:R.jblank c o1 with ⟨ov,R1⟩
        rw [hq] at h3 HDW
        simp only at h3 HDW ⊢
        have HQ:=hid hq
        have HH3:=hid h3
        have HK3:=hid (show Keeps T V1 U2 from (Ext.only HU1.out).trans k3 fun c _ hc=>hc)
        obtain ⟨vv,hvv⟩:∃ vv,oErr ov=vv:=⟨_,rfl⟩
        rw [hvv]
        have HVV:=hid hvv
        clear hR back hsub h' k' h3 hq hvv
        go_wp2
        refine hQ1 _ _ k3 ?_
        clear hQ1 Q1 k3
        rw [wpS]
        simp only [opsAt,opA,opB,opC,opD,opE,opF,opG]
        refine Zak ?_
        intro U3 hU3
        have HH4:=hid (HH3.out.ext hU3)
        have HK4:=hid (show Keeps T V1 U3 from Only.ext HK3.out hU3)
        clear hU3
        refine Zay fun Q1 hQ1=>?_
        go_wp2_with fail
        rw [<- HVV.out]
        refine (okind_c ov U3 (HLAID.out.only (Keeps.ext HXV.out HK4.out (fun b hb=>HLOW.out b hb)) (fun z=>z))).mono ?_
        rintro e U4 ⟨rfl,x4'⟩
        obtain ⟨ck,hck⟩:∃ ck,okind ov=ck:=⟨_,rfl⟩
        rw [hck,HVV.out]
        have HCK2:=hid hck
        have HH5:=hid (HH4.out.ext x4')
        have HK5:=hid (show Keeps T V1 U4 from Only.ext HK4.out x4')
        clear hck
        go_wp2
        refine hQ1 _ _ (Ext.only x4') ?_
        clear hQ1 Q1 x4'
        rw [wpS]
        simp only [opsAt,opA,opB,opC,opD,opE,opF,opG]
        refine Zak ?_
        intro U5 hU5
        have HH6:=hid (HH5.out.ext hU5)
        have HK6:=hid (show Keeps T V1 U5 from Only.ext HK5.out hU5)
        clear hU5
        refine Zay fun Q1 hQ1=>?_
        go_wp2_with fail
        obtain ⟨TR,hsub,hR,back⟩:=HH6.out.right
        refine (fjblank_c hR (by rw [HD.out.len]; exact HNM.out.1) (by rw [HD.out.len]; have:=HNM.out.2.1; omega) c o1).mono ?_
        rintro e U6 ⟨rfl,h',k'⟩
        rw [HQ.out] at h' ⊢
        simp only at h' ⊢
        rw [HCK2.out]
        obtain ⟨h6,k6⟩:=back _ _ h' k'
        have HH7:=hid h6
        have HK7:=hid (show Keeps T V1 U6 from HK6.out.trans k6 fun c _ hc=>hc)
        clear hR back hsub h' k' h6
        go_wp2
        refine hQ1 _ _ k6 ?_
        clear hQ1 Q1 k6
        rw [wpS]
        simp only [opsAt,opA,opB,opC,opD,opE,opF,opG]
        (refine Zac (fun K hK=>?_); go_simp; refine hK _ ?_; clear hK K)
        refine Zak ?_
        intro U7 hU7
        have HF:=hid (show TwoIn T U7 t r q R1/\R1.Dim nn m/\Keeps T V1 U7 from by
         have k:Keeps T V1 U7:=Only.ext HK7.out hU7
         refine ⟨TwoIn.less (S:=T) ⟨HH7.out.ext hU7,k.at H1.out.here (fun hn=>hn H1.out.safe),H1.out.safe⟩ HTV.out H1.out.safe,HDW.out,(Ext.only HX1V.out).trans k fun c _ hc hs=>hc (HTV.out c hs)⟩)
        clear hU7
        go_wp2
        go_meet
        case rel=>exact ⟨⟨_,rfl⟩,R1,HF.out.1,HF.out.2.1,HF.out.2.2⟩
      ·
       obtain ⟨st,hst⟩:∃ s:Nat,c.stripes=s:=⟨c.stripes.toNat,by have:=HGD.out.st0; omega⟩
       have HSTR:=hid hst
       obtain ⟨z1,hz1⟩:∃ z,within o1 2 30=z:=⟨_,rfl⟩
       obtain ⟨z2,hz2⟩:∃ z,within o2 0 ((st:Int) - 1)=z:=⟨_,rfl⟩
       have HZ1:=hid hz1; have HZ2:=hid hz2
       have wst:IntKind.i64.wrap ((st:Int) - 1)=(st:Int) - 1:=by have:=HGD.out.st0; have:=HGD.out.st1; rw [IntKind.wrap_i64]; omega
       have wst2:wrap64 ((st:Int) - 1)=(st:Int) - 1:=by have:=HGD.out.st0; have:=HGD.out.st1; unfold wrap64; omega
       have HWA:=hid (fun y:SW (Only fun b=>V1.heap.size<=b) V1.drew=>(show Calls Tryz.prog 12 #[.int .i64 o1,.int .i64 2,.int .i64 30] y.w fun e w''=>e=.returned (.int .i64 z1)/\Ext y.w w'' from (Zbt o1 2 30 y.w (by omega) (by omega) (by omega)).mono fun e w'' ⟨h,q⟩=>⟨by rw [h,HZ1.out],q▸Ext.refl _⟩))
       have HWB:=hid (fun y:SW (Only fun b=>V1.heap.size<=b) V1.drew=>(show Calls Tryz.prog 12 #[.int .i64 o2,.int .i64 0,.int .i64 ((st:Int) - 1)] y.w fun e w''=>e=.returned (.int .i64 z2)/\Ext y.w w'' from (Zbt o2 0 ((st:Int) - 1) y.w (by omega) (by have:=HGD.out.st0; have:=HSTR.out; omega) (by have:=HGD.out.st1; have:=HSTR.out; omega)).mono fun e w'' ⟨h,q⟩=>⟨by rw [h,HZ2.out],q▸Ext.refl _⟩))
       obtain ⟨X,hX⟩:∃ X,recOf c z1 z2 o3=X:=⟨_,rfl⟩
       have HXE:=hid hX
       have hxb:X.blocks=blocksOf kk o3:=by rw [<- hX,<- HKT.out]; rfl
       have HXB:=hid hxb
       have HXN:=hid (show X.blocks≠[] by
        rw [hxb]; intro q
        have:=congrArg List.length q
        have h1:=HGD.out.k0; have h2:=HCK.out
        rw [blocksOf_len] at this; simp at this; omega)
       have HXO:=hid (show X.Ok by rw [<- hX]; exact recOf_ok _ _ _ _)
       have HLC:=hid (lt_of_block HC1.out); have HLQ:=hid (lt_of_block HCB.out)
       have cq:∀ y:SW (Only fun b=>V1.heap.size<=b) V1.drew,∀ b o,b < V1.heap.size->V1.heap[b]?=some o->y.w.heap[b]?=some o:=fun y b o hb ho=>y.ext.at (show V1.drew.heap[b]?=_ from ho) (fun q=>absurd hb (Nat.not_lt.2 q))
       have HCQ:=hid cq
       have ck:∀ y:SW (Only fun b=>V1.heap.size<=b) V1.drew,y.w.cell? ⟨gc,1,none⟩=some (.int .i64 kk):=fun y=>(Zae (HCQ.out y _ _ HLC.out HC1.out)).trans (by rw [Cfg.A1,HCK.out])
       have cs:∀ y:SW (Only fun b=>V1.heap.size<=b) V1.drew,y.w.cell? ⟨gc,3,none⟩=some (.int .i64 st):=fun y=>(Zae (HCQ.out y _ _ HLC.out HC1.out)).trans (by rw [Cfg.A3,HSTR.out])
       have cq1:∀ y:SW (Only fun b=>V1.heap.size<=b) V1.drew,y.w.cell? ⟨gq,1,none⟩=some (.int .i64 o1):=fun y=>(Zae (HCQ.out y _ _ HLQ.out HCB.out)).trans rfl
       have cq2:∀ y:SW (Only fun b=>V1.heap.size<=b) V1.drew,y.w.cell? ⟨gq,2,none⟩=some (.int .i64 o2):=fun y=>(Zae (HCQ.out y _ _ HLQ.out HCB.out)).trans rfl
       have cq3:∀ y:SW (Only fun b=>V1.heap.size<=b) V1.drew,y.w.cell? ⟨gq,3,none⟩=some (.int .i64 o3):=fun y=>(Zae (HCQ.out y _ _ HLQ.out HCB.out)).trans rfl
       clear hst hz1 hz2 hX hxb cq
       go_upto_region 17 with fail
       go_cut [16] (fun vx wq=>∃ px a cp,vx=.pointer (some ⟨px,0,none⟩)/\Ext V1 wq/\RecN V1.heap.size wq ⟨px,X,a,cp⟩/\∀ g,a=some ⟨g,0,none⟩->g≠px)
       case first =>
        refine wp_region_tree_all (E:=Ext) (S:=Only fun b=>V1.heap.size<=b) (.two [0,1,2,3,4,5,6,7,8,9,10,11,12] 13 15 (.one [14] 15 (.one [] 16 (.fin []))) (.one [] 13 (.one [14] 16 (.fin [])))) (by kernel_rfl) (by kernel_rfl) (fun _ _ d _ _ h=>by cases d<;>exact h) ?_
        rw [wpT]
        simp only [opsAt,opA,opB,opC,opD,opE,opF,opG]
        (refine Zac (fun K hK=>?_); go_simp; refine hK _ ?_; clear hK K)
        (refine Zac (fun K hK=>?_); go_simp; refine hK _ ?_; clear hK K)
        (refine Zac (fun K hK=>?_); go_simp; (apply Exists.intro; refine ⟨fun x=>?_,hK _ ?_⟩; (exact HWA.out x); clear hK K))
        (refine Zac (fun K hK=>?_); go_simp; refine hK _ ?_; clear hK K)
        (refine Zac (fun K hK=>?_); go_simp; refine hK _ ?_; clear hK K)
        (refine Zac (fun K hK=>?_); go_simp; refine hK _ ?_; clear hK K)
        (refine Zac (fun K hK=>?_); go_simp; refine hK _ ?_; clear hK K)
        (refine Zac (fun K hK=>?_); go_simp; refine hK _ ?_; clear hK K)
        (refine Zac (fun K hK=>?_); go_simp; (apply Exists.intro; refine ⟨fun x=>?_,hK _ ?_⟩; (exact HWB.out x); clear hK K))
        (refine Zac (fun K hK=>?_); go_simp; refine hK _ ?_; clear hK K)
        (refine Zac (fun K hK=>?_); go_simp; refine hK _ ?_; clear hK K)
        (refine Zac (fun K hK=>?_); go_simp; refine hK _ ?_; clear hK K)
        (refine Zac (fun K hK=>?_); go_simp; refine hK _ ?_; clear hK K)
        refine Zak ?_
        intro U0 hU0
        have EX0:=hid (show Ext V1 U0 from Ext.trans (Ext.refl V1).drew hU0)
        have SZ0:=hid EX0.out.size
        clear hU0 ck cs cq1 cq2 cq3 HWA HWB
        refine ⟨?_,?_⟩
        ·
         refine wpT_loud fun K hK=>?_
         go_wp2_with fail
         refine (kblocks_c kk (by have:=HK8.out; omega) o3 U0).mono ?_
         rintro e W0' ⟨v,rfl,hown,xw⟩
         obtain ⟨a,cp,rfl,hbk,hab⟩:=kblocks_at (fun b hb=>by obtain ⟨n,rfl⟩:=blocksOf_mem hb; exact Za4 n) hown
         have HBX:Hid (Tryz.prog.built 101 [(0,.int .i64 z1),(1,.int .i64 z2),(2,.slice a (blocksOf kk o3).length cp)]=some (X.V a cp)):=hid (by
          have:=built_recOfC c z1 z2 o3 a cp
          rw [HKT.out] at this
          rw [this,HXE.out])
         have BKX:=hid (show BlksAt W0' a X.blocks by rw [HXB.out]; exact hbk)
         have LOX:=hid hab
         clear hown hbk hab
         generalize (blocksOf kk o3).length=n1 at *
         go_wp2
         refine hK _ _ (Ext.only xw) ?_
         clear hK K
         rw [wpT]
         simp only [opsAt,opA,opB,opC,opD,opE,opF,opG]
         refine wpSQ_build rfl 101 _ rfl (X.V a cp) ?_ ?_
         ·
          simp only [List.map_toArray,List.map_cons,List.map_nil,Act.eval]
          simp only [Array.getD_eq_getD_getElem?,List.getElem?_toArray,List.getElem?_cons_succ,List.getElem?_cons_zero,Option.getD_some]
          exact HBX.out
         refine Zak ?_
         intro U1 hU1
         have XU:=hid (Ext.trans xw hU1)
         have EX1:=hid (Ext.trans EX0.out XU.out)
         have SZ1:=hid XU.out.size
         replace BKX:=hid (BKX.out.ext hU1)
         have HIX:=hid (fun g (hg:a=some ⟨g,0,none⟩)=>(show g < U1.heap.size from BKX.out.lt HXN.out g hg))
         clear hU1 xw XU
         refine wpT_loud fun K hK=>?_
         go_wp2
         refine hK _ _ (Ext.only ((Ext.refl _).alloc _)) ?_
         clear hK K
         have xw:Ext U1 (U1.alloc (.cells (Rcd.none_.V none 0) 101)):=(Ext.refl _).alloc _
         have CBX:=hid (show (U1.alloc (.cells (Rcd.none_.V none 0) 101)).heap[U1.heap.size]?=some (.cells (Rcd.none_.V none 0) 101 (0,0)) from heap_alloc_new _ _)
         rw [wpT]
         simp only [opsAt,opA,opB,opC,opD,opE,opF,opG]
         refine Zak ?_
         intro U2 hU2
         have XU:=hid (Ext.trans xw hU2)
         have EX2:=hid (Ext.trans EX1.out XU.out)
         have SZ2:=hid XU.out.size
         have SPX:=hid (show U1.heap.size < U2.heap.size from Nat.lt_of_lt_of_le (by simp) hU2.size)
         replace BKX:=hid (BKX.out.ext XU.out)
         replace CBX:=hid (hU2.at CBX.out)
         clear hU2 xw XU
         refine wpT_loud fun K hK=>?_
         go_wp2_with (guard_target=wpList _ _ _ (⟨none,Op.store _ _ _,_,_,_,none⟩::_) _ _; refine Zaa rfl 101 _ _ rfl U1.heap.size rfl (X.V a cp) _ rfl 101 (Za0 _ _ _) CBX.out rfl (V_one _ _ _) ?_)
         have HOU:=hid ((Zad U2 U1.heap.size (X.V a cp)).mono (fun i _ h=>by subst h; exact (EX1.out.size:V1.heap.size<=U1.heap.size)):Only (fun b=>V1.heap.size<=b) U2 (U2.setRow U1.heap.size (X.V a cp)))
         refine hK _ _ HOU.out ?_
         have HSX:=hid (setRow_heap U2 U1.heap.size _ (X.V a cp) _ _ CBX.out)
         clear hK K HOU
         rw [wpT]
         simp only [opsAt,opA,opB,opC,opD,opE,opF,opG]
         refine Zak ?_
         intro U3 hU3
         have OU:=hid (Only.ext (Zad U2 U1.heap.size (X.V a cp)) hU3)
         have EX3:=hid (show Ext V1 U3 from Ext.then EX2.out OU.out (fun q hq e=>by have:=EX1.out.size; omega))
         have CFX:=hid (hU3.at HSX.out)
         have HNE:=hid (show ∀ g,a=some ⟨g,0,none⟩->g≠U1.heap.size from fun g hg e=>by have s0:=SZ0.out; have s1:=SZ1.out; have s2:=SZ2.out; have pX:=SPX.out; have h1:=LOX.out g hg; have h2:=HIX.out g hg; omega)
         replace BKX:=hid (BKX.out.only OU.out (fun g hg e=>HNE.out g hg e))
         clear hU3 OU HSX CBX
         go_wp2
         go_meet
         case rel =>
          exact ⟨U1.heap.size,a,cp,rfl,EX3.out,⟨CFX.out,EX1.out.size,BKX.out,fun g hg=>Nat.le_trans EX0.out.size (LOX.out g hg)⟩,HNE.out⟩
        ·
         refine wpT_loud fun K hK=>?_
         go_wp2
         refine hK _ _ (Ext.only ((Ext.refl _).alloc _)) ?_
         clear hK K
         have xw:Ext U0 (U0.alloc (.cells (Rcd.none_.V none 0) 101)):=(Ext.refl _).alloc _
         have CBX:=hid (show (U0.alloc (.cells (Rcd.none_.V none 0) 101)).heap[U0.heap.size]?=some (.cells (Rcd.none_.V none 0) 101 (0,0)) from heap_alloc_new _ _)
         rw [wpT]
         simp only [opsAt,opA,opB,opC,opD,opE,opF,opG]
         refine Zak ?_
         intro U1 hU1
         have XU:=hid (Ext.trans xw hU1)
         have EX1:=hid (Ext.trans EX0.out XU.out)
         have SZ1:=hid XU.out.size
         have SPX:=hid (show U0.heap.size < U1.heap.size from Nat.lt_of_lt_of_le (by simp) hU1.size)
         replace CBX:=hid (hU1.at CBX.out)
         clear hU1 xw XU
         refine wpT_loud fun K hK=>?_
         go_wp2_with fail
         refine (kblocks_c kk (by have:=HK8.out; omega) o3 U1).mono ?_
         rintro e W1' ⟨v,rfl,hown,xw⟩
         obtain ⟨a,cp,rfl,hbk,hab⟩:=kblocks_at (fun b hb=>by obtain ⟨n,rfl⟩:=blocksOf_mem hb; exact Za4 n) hown
         have HBX:Hid (Tryz.prog.built 101 [(0,.int .i64 z1),(1,.int .i64 z2),(2,.slice a (blocksOf kk o3).length cp)]=some (X.V a cp)):=hid (by
          have:=built_recOfC c z1 z2 o3 a cp
          rw [HKT.out] at this
          rw [this,HXE.out])
         have BKX:=hid (show BlksAt W1' a X.blocks by rw [HXB.out]; exact hbk)
         have LOX:=hid hab
         clear hown hbk hab
         generalize (blocksOf kk o3).length=n1 at *
         go_wp2
         refine hK _ _ (Ext.only xw) ?_
         clear hK K
         rw [wpT]
         simp only [opsAt,opA,opB,opC,opD,opE,opF,opG]
         refine wpSQ_build rfl 101 _ rfl (X.V a cp) ?_ ?_
         ·
          simp only [List.map_toArray,List.map_cons,List.map_nil,Act.eval]
          simp only [Array.getD_eq_getD_getElem?,List.getElem?_toArray,List.getElem?_cons_succ,List.getElem?_cons_zero,Option.getD_some]
          exact HBX.out
         refine Zak ?_
         intro U2 hU2
         have XU:=hid (Ext.trans xw hU2)
         have EX2:=hid (Ext.trans EX1.out XU.out)
         have SZ2:=hid XU.out.size
         replace BKX:=hid (BKX.out.ext hU2)
         have HIX:=hid (fun g (hg:a=some ⟨g,0,none⟩)=>(show g < U2.heap.size from BKX.out.lt HXN.out g hg))
         replace CBX:=hid (XU.out.at CBX.out)
         clear hU2 xw XU
         refine wpT_loud fun K hK=>?_
         go_wp2_with (guard_target=wpList _ _ _ (⟨none,Op.store _ _ _,_,_,_,none⟩::_) _ _; refine Zaa rfl 101 _ _ rfl U0.heap.size rfl (X.V a cp) _ rfl 101 (Za0 _ _ _) CBX.out rfl (V_one _ _ _) ?_)
         have HOU:=hid ((Zad U2 U0.heap.size (X.V a cp)).mono (fun i _ h=>by subst h; exact (EX0.out.size:V1.heap.size<=U0.heap.size)):Only (fun b=>V1.heap.size<=b) U2 (U2.setRow U0.heap.size (X.V a cp)))
         refine hK _ _ HOU.out ?_
         have HSX:=hid (setRow_heap U2 U0.heap.size _ (X.V a cp) _ _ CBX.out)
         clear hK K HOU
         rw [wpT]
         simp only [opsAt,opA,opB,opC,opD,opE,opF,opG]
         refine Zak ?_
         intro U3 hU3
         have OU:=hid (Only.ext (Zad U2 U0.heap.size (X.V a cp)) hU3)
         have EX3:=hid (show Ext V1 U3 from Ext.then EX2.out OU.out (fun q hq e=>by have:=EX0.out.size; omega))
         have CFX:=hid (hU3.at HSX.out)
         have HNE:=hid (show ∀ g,a=some ⟨g,0,none⟩->g≠U0.heap.size from fun g hg e=>by have s0:=SZ0.out; have s1:=SZ1.out; have s2:=SZ2.out; have pX:=SPX.out; have h1:=LOX.out g hg; have h2:=HIX.out g hg; omega)
         replace BKX:=hid (BKX.out.only OU.out (fun g hg e=>HNE.out g hg e))
         clear hU3 OU HSX CBX
         go_wp2
         go_meet
         case rel =>
          exact ⟨U0.heap.size,a,cp,rfl,EX3.out,⟨CFX.out,EX0.out.size,BKX.out,fun g hg=>Nat.le_trans EX1.out.size (LOX.out g hg)⟩,HNE.out⟩
       case rest =>
        obtain ⟨px,a,cp,rfl,xcut,rx,rn⟩:=hcut
        have HXC:=hid xcut; have HRX:=hid rx; have HNP:=hid rn
        clear xcut rx rn HWA HWB ck cs cq1 cq2 cq3 wst wst2
        obtain ⟨V2,hV2⟩:∃ W,W=wc:=⟨_,rfl⟩
        subst hV2
        have cod:V2.cell? ⟨gq,4,none⟩=some (.bool od):=(Zae (HXC.out.at HCB.out)).trans rfl
        rcases od with _ | _
        ·
         have HXE5:=HXC
         have HB5:=hid HRX.out.blk
         have HXO5:=HXO
         have HXN5:=HXN
         have HBK5:=hid HRX.out.bks
         obtain ⟨T2,hT2⟩:∃ T2:Nat->Prop,(fun b=>T b\/(V1.heap.size<=b/\b < V2.heap.size))=T2:=⟨_,rfl⟩
         have HTV:=hid (show ∀ b,T b->T2 b from fun b hb=>hT2▸Or.inl hb)
         have HTX:=hid (show T2 px from hT2▸Or.inr ⟨HRX.out.at_,lt_of_block HB5.out⟩)
         have HTK:=hid (show ∀ g,a=some ⟨g,0,none⟩->T2 g from fun g hg=>hT2▸Or.inr ⟨HRX.out.own g hg,HBK5.out.lt HXN5.out g hg⟩)
         have H3:=hid (show TwoIn T2 V2 t r q R from hT2▸H1.out.more HXE5.out (fun b hb=>by
          rcases hb with hb | hb
          ·
           exact ⟨Nat.lt_of_lt_of_le (H1.out.two.there b hb) HXE5.out.size,.inl hb⟩
          ·
           exact ⟨hb.2,.inr hb.1⟩) (.inl H1.out.safe))
         have HCV:=hid (HXE5.out.at HC1.out)
         have HXV:=hid (Ext.trans HX1'.out HXE5.out)
         have HX1V:=HXE5
         have HLOW:=hid (show ∀ b,b < w.heap.size->T2 b from fun b hb=>HTV.out _ (HTS.out _ (HSW.out b hb)))
         clear hT2
         have HXD:=hid (show Ext V2 V2.drew from (Ext.refl V2).drew)
         have base:=hid (show ∀ y:SW (Only fun b=>¬T2 b) V2.drew,∀ b o,T2 b->V2.heap[b]?=some o->y.w.heap[b]?=some o from fun y b o hb ho=>y.ext.at (HXD.out.at ho) (fun hn=>hn hb))
         have e0:∀ y:SW (Only fun b=>¬T2 b) V2.drew,y.w.cell? ⟨t,0,none⟩=some (.pointer (some ⟨r,0,none⟩)):=fun y=>(Zae (base.out y _ _ H3.out.safe H3.out.here)).trans rfl
         have e1:∀ y:SW (Only fun b=>¬T2 b) V2.drew,y.w.cell? ⟨t,1,none⟩=some (.pointer (some ⟨q,0,none⟩)):=fun y=>(Zae (base.out y _ _ H3.out.safe H3.out.here)).trans rfl
         have lc:Hid (∀ y:SW (Only fun b=>¬T2 b) V2.drew,∀ j v,(Cfg.A c).toList[j]?=some v->y.w.cell? ((⟨gc,0,none⟩:Addr).add j)=some v):=hid fun y=>Zai (base.out y _ _ (HTV.out _ (HTS.out _ HSC.out)) HCV.out)
         have lx:Hid (∀ y:SW (Only fun b=>¬T2 b) V2.drew,∀ j v,(X.V a cp).toList[j]?=some v->y.w.cell? ((⟨px,0,none⟩:Addr).add j)=some v):=hid fun y=>Zai (base.out y _ _ HTX.out HB5.out)
         go_wp2_with fail
         refine Zaw (E:=Ext) (S:=Only fun b=>¬T2 b) (.one [0,1,2,3,4,5,8,9,10,11,12,13] 6 (.one [] 7 (.one [] 14 (.fin [15])))) (by kernel_rfl) (by kernel_rfl) (fun _ _ d _ _ h=>by cases d<;>exact h) ?_
         rw [wpS]
         simp only [opsAt,opA,opB,opC,opD,opE,opF,opG]
         iterate 4 ((refine Zac (fun K hK=>?_); go_simp; refine hK _ ?_; clear hK K))
         refine Zap 74 _ rfl ⟨gc,0,none⟩ rfl (Cfg.A c) rfl (Zas _) lc.out ?_
         refine Zap 101 _ rfl ⟨px,0,none⟩ rfl (X.V a cp) rfl (Za0 _ _ _) lx.out ?_
         iterate 4 ((refine Zac (fun K hK=>?_); go_simp; refine hK _ ?_; clear hK K))
         refine Zap 74 _ rfl ⟨gc,0,none⟩ rfl (Cfg.A c) rfl (Zas _) lc.out ?_
         refine Zap 101 _ rfl ⟨px,0,none⟩ rfl (X.V a cp) rfl (Za0 _ _ _) lx.out ?_
         refine Zak ?_
         intro U1 hU1
         have HU1:=hid (Ext.trans HXD.out hU1)
         clear hU1 e0 e1 lx lc HXD base
         refine Zay fun Q1 hQ1=>?_
         go_wp2_with fail
         obtain ⟨TL,hsub,hR,back⟩:=(H3.out.ext HU1.out).two.left
         refine (jlog_c hR c X HXO5.out a cp (HBK5.out.ext HU1.out) (fun g hg=>hsub _ (HTK.out g hg))).mono ?_
         rintro e U2 ⟨rfl,h',k'⟩
         obtain ⟨h3,k3⟩:=back _ _ h' k'
         have HDW:=hid (HD.out.jlog c X)
         rcases hq:R.jlog c X with ⟨ov,R1⟩
         rw [hq] at h3 HDW
         simp only at h3 HDW ⊢
         have HQ:=hid hq
         have HH3:=hid h3
         have HK3:=hid (show Keeps T2 V2 U2 from (Ext.only HU1.out).trans k3 fun c _ hc=>hc)
         obtain ⟨vv,hvv⟩:∃ vv,oErr ov=vv:=⟨_,rfl⟩
         rw [hvv]
         have HVV:=hid hvv
         clear hR back hsub h' k' h3 hq hvv
         go_wp2
         refine hQ1 _ _ k3 ?_
         clear hQ1 Q1 k3
         rw [wpS]
         simp only [opsAt,opA,opB,opC,opD,opE,opF,opG]
         refine Zak ?_
         intro U3 hU3
         have HH4:=hid (HH3.out.ext hU3)
         have HK4:=hid (show Keeps T2 V2 U3 from Only.ext HK3.out hU3)
         clear hU3
         refine Zay fun Q1 hQ1=>?_
         go_wp2_with fail
         rw [<- HVV.out]
         refine (okind_c ov U3 (HLAID.out.only (Keeps.ext HXV.out HK4.out (fun b hb=>HLOW.out b hb)) (fun z=>z))).mono ?_
         rintro e U4 ⟨rfl,x4'⟩
         obtain ⟨ck,hck⟩:∃ ck,okind ov=ck:=⟨_,rfl⟩
         rw [hck,HVV.out]
         have HCK2:=hid hck
         have HH5:=hid (HH4.out.ext x4')
         have HK5:=hid (show Keeps T2 V2 U4 from Only.ext HK4.out x4')
         clear hck
         go_wp2
         refine hQ1 _ _ (Ext.only x4') ?_
         clear hQ1 Q1 x4'
         rw [wpS]
         simp only [opsAt,opA,opB,opC,opD,opE,opF,opG]
         refine Zak ?_
         intro U5 hU5
         have HH6:=hid (HH5.out.ext hU5)
         have HK6:=hid (show Keeps T2 V2 U5 from Only.ext HK5.out hU5)
         clear hU5
         refine Zay fun Q1 hQ1=>?_
         go_wp2_with fail
         obtain ⟨TR,hsub,hR,back⟩:=HH6.out.right
         refine (fjlog_c hR (by rw [HD.out.len]; exact HNM.out.1) (by rw [HD.out.len]; have:=HNM.out.2.1; omega) c X HXO5.out a cp (HBK5.out.only HK6.out fun g hg hn=>hn (HTK.out g hg)) (fun g hg=>hsub _ (HTK.out g hg))).mono ?_
         rintro e U6 ⟨rfl,h',k'⟩
         rw [HQ.out] at h' ⊢
         simp only at h' ⊢
         rw [HCK2.out]
         obtain ⟨h6,k6⟩:=back _ _ h' k'
         have HH7:=hid h6
         have HK7:=hid (show Keeps T2 V2 U6 from HK6.out.trans k6 fun c _ hc=>hc)
         clear hR back hsub h' k' h6
         go_wp2
         refine hQ1 _ _ k6 ?_
         clear hQ1 Q1 k6
         rw [wpS]
         simp only [opsAt,opA,opB,opC,opD,opE,opF,opG]
         (refine Zac (fun K hK=>?_); go_simp; refine hK _ ?_; clear hK K)
         refine Zak ?_
         intro U7 hU7
         have HF:=hid (show TwoIn T U7 t r q R1/\R1.Dim nn m/\Keeps T V1 U7 from by
          have k:Keeps T2 V2 U7:=Only.ext HK7.out hU7
          refine ⟨TwoIn.less (S:=T2) ⟨HH7.out.ext hU7,k.at H3.out.here (fun hn=>hn H3.out.safe),H3.out.safe⟩ HTV.out H1.out.safe,HDW.out,(Ext.only HX1V.out).trans k fun c _ hc hs=>hc (HTV.out c hs)⟩)
         clear hU7
         go_wp2
         go_meet
         case rel=>exact ⟨⟨_,rfl⟩,R1,HF.out.1,HF.out.2.1,HF.out.2.2⟩
        ·
         have HPX:=hid (show V1.heap.size<=px from HRX.out.at_)
         have HPQ:=hid (show gq≠px from by have:=HLQ.out; have:=HPX.out; omega)
         obtain ⟨V3,hV3⟩:∃ W,V2.drew=W:=⟨_,rfl⟩
         have HXD3:=hid (show Ext V2 V3 from hV3▸(Ext.refl V2).drew)
         have HBX:=hid (HXD3.out.at HRX.out.blk)
         have d1:∀ y:SW (Only fun b=>b=px) V3,y.w.cell? ⟨gq,1,none⟩=some (.int .i64 o1):=fun y=>(Zae (y.ext.at (HXD3.out.at (HXC.out.at HCB.out)) HPQ.out)).trans rfl
         have d2':∀ y:SW (Only fun b=>b=px) V3,y.w.cell? ⟨gq,2,none⟩=some (.int .i64 o2):=fun y=>(Zae (y.ext.at (HXD3.out.at (HXC.out.at HCB.out)) HPQ.out)).trans rfl
         go_upto_region 19 with fail
         refine Zaw (E:=Ext) (S:=Only fun b=>b=px) (.one [0,1,2,3,4] 5 (.one [6] 7 (.fin []))) (by kernel_rfl) (by kernel_rfl) (fun _ _ d _ _ h=>by cases d<;>exact h) ?_
         rw [hV3,wpS]
         simp only [opsAt,opA,opB,opC,opD,opE,opF,opG]
         iterate 5 ((refine Zac (fun K hK=>?_); go_simp; refine hK _ ?_; clear hK K))
         refine Zak ?_
         intro U1 hU1
         have HB1:=hid (hU1.at HBX.out)
         have HU1:=hid (Ext.trans HXD3.out hU1)
         clear hU1 d1 d2' hV3
         refine Zay fun Q1 hQ1=>?_
         have c0:U1.cell? ⟨px,0,none⟩=some (.int .i64 X.seq):=(Zae HB1.out).trans rfl
         have f0:U1.frozen? ⟨px,0,none⟩=false:=Zax HB1.out
         obtain ⟨U2,hU2⟩:∃ W,U1.setCell ⟨px,0,none⟩ (.int .i64 o1)=W:=⟨_,rfl⟩
         have k2':Only (fun b=>b=px) U1 U2:=hU2▸Only.setCell (F:=fun k=>k=px) (Only.refl _ U1) (.inr rfl) _
         have HB2:=hid (show U2.heap[px]?=some (.cells ((⟨o1,X.stripe,X.blocks⟩:Rcd).V a cp) 101 (0,0)) from by
          have:=Zar HB1.out (i:=0) (.int .i64 o1)
          rw [hU2] at this
          rw [this]; simp [Rcd.V])
         go_wp2_with fail
         refine hQ1 _ _ k2' ?_
         have HK2:=hid k2'
         clear hQ1 Q1 c0 f0 k2' hU2
         rw [wpS]
         simp only [opsAt,opA,opB,opC,opD,opE,opF,opG]
         iterate 1 ((refine Zac (fun K hK=>?_); go_simp; refine hK _ ?_; clear hK K))
         refine Zak ?_
         intro U3 hU3
         have HB3:=hid (hU3.at HB2.out)
         have HK3:=hid (Only.ext HK2.out hU3)
         clear hU3
         refine Zay fun Q1 hQ1=>?_
         have c0:U3.cell? ⟨px,1,none⟩=some (.int .i64 X.stripe):=(Zae HB3.out).trans rfl
         have f0:U3.frozen? ⟨px,1,none⟩=false:=Zax HB3.out
         obtain ⟨U4,hU4⟩:∃ W,U3.setCell ⟨px,1,none⟩ (.int .i64 o2)=W:=⟨_,rfl⟩
         have k4':Only (fun b=>b=px) U3 U4:=hU4▸Only.setCell (F:=fun k=>k=px) (Only.refl _ U3) (.inr rfl) _
         have HB4:=hid (show U4.heap[px]?=some (.cells ((⟨o1,o2,X.blocks⟩:Rcd).V a cp) 101 (0,0)) from by
          have:=Zar HB3.out (i:=1) (.int .i64 o2)
          rw [hU4] at this
          rw [this]; simp [Rcd.V])
         go_wp2_with fail
         refine hQ1 _ _ k4' ?_
         have HK4':=hid k4'
         clear hQ1 Q1 c0 f0 k4' hU4
         rw [wpS]
         simp only [opsAt,opA,opB,opC,opD,opE,opF,opG]
         refine Zak ?_
         intro U5 hU5
         have HKO:=hid (show Only (fun b=>b=px) U1 U5 from HK3.out.trans (Only.ext HK4'.out hU5) fun _ _ z=>z)
         have HXE5:=hid (show Ext V1 U5 from Ext.then (Ext.trans HXC.out HU1.out) HKO.out (fun i hi e=>by have:=HPX.out; omega))
         obtain ⟨X5,hX5⟩:∃ X5:Rcd,(⟨o1,o2,X.blocks⟩:Rcd)=X5:=⟨_,rfl⟩
         have HB5:=hid (show U5.heap[px]?=some (.cells (X5.V a cp) 101 (0,0)) from hX5▸hU5.at HB4.out)
         have HXO5:=hid (show X5.Ok from hX5▸⟨HXO.out.len,HXO.out.byte⟩)
         have HXN5:=hid (show X5.blocks≠[] from hX5▸HXN.out)
         have HBK5:=hid (show BlksAt U5 a X5.blocks from by
          rw [<- hX5]
          exact (HRX.out.bks.ext HU1.out).only HKO.out fun g hg e=>HNP.out g hg e)
         clear hU5 hX5
         obtain ⟨V5,hV5⟩:∃ W,W=U5:=⟨_,rfl⟩
         subst hV5
         obtain ⟨T2,hT2⟩:∃ T2:Nat->Prop,(fun b=>T b\/(V1.heap.size<=b/\b < V5.heap.size))=T2:=⟨_,rfl⟩
         have HTV:=hid (show ∀ b,T b->T2 b from fun b hb=>hT2▸Or.inl hb)
         have HTX:=hid (show T2 px from hT2▸Or.inr ⟨HRX.out.at_,lt_of_block HB5.out⟩)
         have HTK:=hid (show ∀ g,a=some ⟨g,0,none⟩->T2 g from fun g hg=>hT2▸Or.inr ⟨HRX.out.own g hg,HBK5.out.lt HXN5.out g hg⟩)
         have H3:=hid (show TwoIn T2 V5 t r q R from hT2▸H1.out.more HXE5.out (fun b hb=>by
          rcases hb with hb | hb
          ·
           exact ⟨Nat.lt_of_lt_of_le (H1.out.two.there b hb) HXE5.out.size,.inl hb⟩
          ·
           exact ⟨hb.2,.inr hb.1⟩) (.inl H1.out.safe))
         have HCV:=hid (HXE5.out.at HC1.out)
         have HXV:=hid (Ext.trans HX1'.out HXE5.out)
         have HX1V:=HXE5
         have HLOW:=hid (show ∀ b,b < w.heap.size->T2 b from fun b hb=>HTV.out _ (HTS.out _ (HSW.out b hb)))
         clear hT2
         have HXD:=hid (show Ext V5 V5.drew from (Ext.refl V5).drew)
         have base:=hid (show ∀ y:SW (Only fun b=>¬T2 b) V5.drew,∀ b o,T2 b->V5.heap[b]?=some o->y.w.heap[b]?=some o from fun y b o hb ho=>y.ext.at (HXD.out.at ho) (fun hn=>hn hb))
         have e0:∀ y:SW (Only fun b=>¬T2 b) V5.drew,y.w.cell? ⟨t,0,none⟩=some (.pointer (some ⟨r,0,none⟩)):=fun y=>(Zae (base.out y _ _ H3.out.safe H3.out.here)).trans rfl
         have e1:∀ y:SW (Only fun b=>¬T2 b) V5.drew,y.w.cell? ⟨t,1,none⟩=some (.pointer (some ⟨q,0,none⟩)):=fun y=>(Zae (base.out y _ _ H3.out.safe H3.out.here)).trans rfl
         have lc:Hid (∀ y:SW (Only fun b=>¬T2 b) V5.drew,∀ j v,(Cfg.A c).toList[j]?=some v->y.w.cell? ((⟨gc,0,none⟩:Addr).add j)=some v):=hid fun y=>Zai (base.out y _ _ (HTV.out _ (HTS.out _ HSC.out)) HCV.out)
         have lx:Hid (∀ y:SW (Only fun b=>¬T2 b) V5.drew,∀ j v,(X5.V a cp).toList[j]?=some v->y.w.cell? ((⟨px,0,none⟩:Addr).add j)=some v):=hid fun y=>Zai (base.out y _ _ HTX.out HB5.out)
         go_wp2_with fail
         refine Zaw (E:=Ext) (S:=Only fun b=>¬T2 b) (.one [0,1,2,3,4,5,8,9,10,11,12,13] 6 (.one [] 7 (.one [] 14 (.fin [15])))) (by kernel_rfl) (by kernel_rfl) (fun _ _ d _ _ h=>by cases d<;>exact h) ?_
         rw [wpS]
         simp only [opsAt,opA,opB,opC,opD,opE,opF,opG]
         iterate 4 ((refine Zac (fun K hK=>?_); go_simp; refine hK _ ?_; clear hK K))
         refine Zap 74 _ rfl ⟨gc,0,none⟩ rfl (Cfg.A c) rfl (Zas _) lc.out ?_
         refine Zap 101 _ rfl ⟨px,0,none⟩ rfl (X5.V a cp) rfl (Za0 _ _ _) lx.out ?_
         iterate 4 ((refine Zac (fun K hK=>?_); go_simp; refine hK _ ?_; clear hK K))
         refine Zap 74 _ rfl ⟨gc,0,none⟩ rfl (Cfg.A c) rfl (Zas _) lc.out ?_
         refine Zap 101 _ rfl ⟨px,0,none⟩ rfl (X5.V a cp) rfl (Za0 _ _ _) lx.out ?_
         refine Zak ?_
         intro U1 hU1
         have HU1:=hid (Ext.trans HXD.out hU1)
         clear hU1 e0 e1 lx lc HXD base
         refine Zay fun Q1 hQ1=>?_
         go_wp2_with fail
         obtain ⟨TL,hsub,hR,back⟩:=(H3.out.ext HU1.out).two.left
         refine (jlog_c hR c X5 HXO5.out a cp (HBK5.out.ext HU1.out) (fun g hg=>hsub _ (HTK.out g hg))).mono ?_
         rintro e U2 ⟨rfl,h',k'⟩
         obtain ⟨h3,k3⟩:=back _ _ h' k'
         have HDW:=hid (HD.out.jlog c X5)
         rcases hq:R.jlog c X5 with ⟨ov,R1⟩
         rw [hq] at h3 HDW
         simp only at h3 HDW ⊢
         have HQ:=hid hq
         have HH3:=hid h3
         have HK3:=hid (show Keeps T2 V5 U2 from (Ext.only HU1.out).trans k3 fun c _ hc=>hc)
         obtain ⟨vv,hvv⟩:∃ vv,oErr ov=vv:=⟨_,rfl⟩
         rw [hvv]
         have HVV:=hid hvv
         clear hR back hsub h' k' h3 hq hvv
         go_wp2
         refine hQ1 _ _ k3 ?_
         clear hQ1 Q1 k3
         rw [wpS]
         simp only [opsAt,opA,opB,opC,opD,opE,opF,opG]
         refine Zak ?_
         intro U3 hU3
         have HH4:=hid (HH3.out.ext hU3)
         have HK4:=hid (show Keeps T2 V5 U3 from Only.ext HK3.out hU3)
         clear hU3
         refine Zay fun Q1 hQ1=>?_
         go_wp2_with fail
         rw [<- HVV.out]
         refine (okind_c ov U3 (HLAID.out.only (Keeps.ext HXV.out HK4.out (fun b hb=>HLOW.out b hb)) (fun z=>z))).mono ?_
         rintro e U4 ⟨rfl,x4'⟩
         obtain ⟨ck,hck⟩:∃ ck,okind ov=ck:=⟨_,rfl⟩
         rw [hck,HVV.out]
         have HCK2:=hid hck
         have HH5:=hid (HH4.out.ext x4')
         have HK5:=hid (show Keeps T2 V5 U4 from Only.ext HK4.out x4')
         clear hck
         go_wp2
         refine hQ1 _ _ (Ext.only x4') ?_
         clear hQ1 Q1 x4'
         rw [wpS]
         simp only [opsAt,opA,opB,opC,opD,opE,opF,opG]
         refine Zak ?_
         intro U5 hU5
         have HH6:=hid (HH5.out.ext hU5)
         have HK6:=hid (show Keeps T2 V5 U5 from Only.ext HK5.out hU5)
         clear hU5
         refine Zay fun Q1 hQ1=>?_
         go_wp2_with fail
         obtain ⟨TR,hsub,hR,back⟩:=HH6.out.right
         refine (fjlog_c hR (by rw [HD.out.len]; exact HNM.out.1) (by rw [HD.out.len]; have:=HNM.out.2.1; omega) c X5 HXO5.out a cp (HBK5.out.only HK6.out fun g hg hn=>hn (HTK.out g hg)) (fun g hg=>hsub _ (HTK.out g hg))).mono ?_
         rintro e U6 ⟨rfl,h',k'⟩
         rw [HQ.out] at h' ⊢
         simp only at h' ⊢
         rw [HCK2.out]
         obtain ⟨h6,k6⟩:=back _ _ h' k'
         have HH7:=hid h6
         have HK7:=hid (show Keeps T2 V5 U6 from HK6.out.trans k6 fun c _ hc=>hc)
         clear hR back hsub h' k' h6
         go_wp2
         refine hQ1 _ _ k6 ?_
         clear hQ1 Q1 k6
         rw [wpS]
         simp only [opsAt,opA,opB,opC,opD,opE,opF,opG]
         (refine Zac (fun K hK=>?_); go_simp; refine hK _ ?_; clear hK K)
         refine Zak ?_
         intro U7 hU7
         have HF:=hid (show TwoIn T U7 t r q R1/\R1.Dim nn m/\Keeps T V1 U7 from by
          have k:Keeps T2 V5 U7:=Only.ext HK7.out hU7
          refine ⟨TwoIn.less (S:=T2) ⟨HH7.out.ext hU7,k.at H3.out.here (fun hn=>hn H3.out.safe),H3.out.safe⟩ HTV.out H1.out.safe,HDW.out,(Ext.only HX1V.out).trans k fun c _ hc hs=>hc (HTV.out c hs)⟩)
         clear hU7
         go_wp2
         go_meet
         case rel=>exact ⟨⟨_,rfl⟩,R1,HF.out.1,HF.out.2.1,HF.out.2.2⟩
     case rest =>
      obtain ⟨⟨z0,rfl⟩,R1,h1,d1,k1⟩:=hcut
      have HB1:=hid h1; have HD2:=hid d1; have HK2:=hid k1
      have HXC:=hid (Keeps.ext HX1'.out k1 (fun b hb=>HTS.out _ (HSW.out b hb)))
      have HCC:=hid (k1.at HC1.out (fun hn=>hn (HTS.out _ HSC.out)))
      clear h1 d1 k1
      obtain ⟨wD,hwD⟩:∃ W,W=wc:=⟨_,rfl⟩
      subst hwD
      go_wp2_with fail
      go_loopw [17] (fun t' wq=>∃ j:Int,t'=.int .i64 j/\-1<=j/\j<=(sn:Int)+1/\Ext wD wq) (fun t' _=>((sn:Int)+1 - intOf t').toNat)
      case atStart=>exact ⟨-1,rfl,by omega,by omega,Ext.refl _⟩
      case round =>
       obtain ⟨j,rfl,j0,j1,hxj⟩:=hrel
       have HXJ:=hid hxj
       clear hxj
       have HCJ:=hid (HXJ.out.at HCC.out)
       have cn:wr.cell? ⟨gc,4,none⟩=some (.int .i64 sn):=(Zae HCJ.out).trans (by rw [Cfg.A4,HSLT.out])
       by_cases hj:j<=(sn:Int)
       ·
        have HT0:=hid (HB1.out.ext HXJ.out)
        obtain ⟨wE,hwE⟩:∃ W,W=wr:=⟨_,rfl⟩
        subst hwE
        have HFIT:=hid (HT0.out.two.ract.jslot_fit c j)
        obtain ⟨⟨X,z,mz,er⟩,hqx⟩:∃ y,R1.jslot c j=y:=⟨_,rfl⟩
        rw [hqx] at HFIT
        have HQX:=hid hqx
        obtain ⟨vv,hvv⟩:∃ vv,oErr er=vv:=⟨_,rfl⟩
        have HVV:=hid hvv
        obtain ⟨ck,hck⟩:∃ ck,okind er=ck:=⟨_,rfl⟩
        have HCK2:=hid hck
        have HWJ:=hid (show wrap64 (j+1)=j+1 by have:=HS4.out; unfold wrap64; omega)
        clear hqx hvv hck
        have e0:∀ y:SW (Only fun b=>wE.heap.size<=b) wE.drew,y.w.cell? ⟨t,0,none⟩=some (.pointer (some ⟨r,0,none⟩)):=fun y=>(Zae (y.ext.at (show wE.drew.heap[t]?=_ from HT0.out.here) (fun z=>absurd (lt_of_block HT0.out.here) (Nat.not_lt.2 z)))).trans rfl
        have lc:Hid (∀ y:SW (Only fun b=>wE.heap.size<=b) wE.drew,∀ j v,(Cfg.A c).toList[j]?=some v->y.w.cell? ((⟨gc,0,none⟩:Addr).add j)=some v):=hid fun y=>Zai (y.ext.at (show wE.drew.heap[gc]?=_ from HCJ.out) (fun z=>absurd (lt_of_block HCJ.out) (Nat.not_lt.2 z)))
        go_upto_region 28 with fail
        go_cut [18,19,20,21] (fun vx vo vm ve wq=>∃ px a cp,vx=.pointer (some ⟨px,0,none⟩)/\vo=.bool z/\vm=.int .i64 mz/\ve=vv/\Ext wE wq/\wq.heap[px]?=some (.cells (X.V a cp) 101 (0,0))/\BlksAt wq a X.blocks)
        case first =>
         refine wp_region_tree_all (E:=Ext) (S:=Only fun b=>wE.heap.size<=b) (.two [0,1,2,3,4,5] 6 12 (.one [7,8,9,10,11] 12 (.one [] 13 (.fin [14,15,16]))) (.one [] 6 (.one [7,8,9,10,11] 13 (.fin [14,15,16])))) (by kernel_rfl) (by kernel_rfl) (fun _ _ d _ _ h=>by cases d<;>exact h) ?_
         rw [wpT]
         simp only [opsAt,opA,opB,opC,opD,opE,opF,opG]
         (refine Zac (fun K hK=>?_); go_simp; refine hK _ ?_; clear hK K)
         (refine Zac (fun K hK=>?_); go_simp; refine hK _ ?_; clear hK K)
         (refine Zac (fun K hK=>?_); go_simp; refine hK _ ?_; clear hK K)
         (refine Zac (fun K hK=>?_); go_simp; refine hK _ ?_; clear hK K)
         refine Zap 74 _ rfl ⟨gc,0,none⟩ rfl (Cfg.A c) rfl (Zas _) lc.out ?_
         (refine Zac (fun K hK=>?_); go_simp; refine hK _ ?_; clear hK K)
         refine Zak ?_
         intro U0 hU0
         have EX0:=hid (show Ext wE U0 from Ext.trans (Ext.refl wE).drew hU0)
         have SZ0:=hid EX0.out.size
         clear hU0 e0 lc
         refine ⟨?_,?_⟩
         ·
          refine wpT_loud fun K hK=>?_
          go_wp2_with fail
          refine (jslot_c (HT0.out.ext EX0.out).two.ract c j).mono ?_
          rintro e W0' ⟨a,cp,rfl,xw,hbk,hab⟩
          rw [HQX.out] at hbk ⊢
          simp only at hbk ⊢
          rw [HVV.out]
          have BKX:=hid hbk
          have LOX:=hid hab
          clear hbk hab
          go_wp2
          refine hK _ _ (Ext.only xw) ?_
          clear hK K
          rw [wpT]
          simp only [opsAt,opA,opB,opC,opD,opE,opF,opG]
          (refine Zac (fun K hK=>?_); go_simp; refine hK _ ?_; clear hK K)
          (refine Zac (fun K hK=>?_); go_simp; refine hK _ ?_; clear hK K)
          (refine Zac (fun K hK=>?_); go_simp; refine hK _ ?_; clear hK K)
          (refine Zac (fun K hK=>?_); go_simp; refine hK _ ?_; clear hK K)
          (refine Zac (fun K hK=>?_); go_simp; refine hK _ ?_; clear hK K)
          refine Zak ?_
          intro U1 hU1
          have XU:=hid (Ext.trans xw hU1)
          have EX1:=hid (Ext.trans EX0.out XU.out)
          have SZ1:=hid XU.out.size
          replace BKX:=hid (BKX.out.ext hU1)
          have HIX:=hid (fun (hne:X.blocks≠[]) g (hg:a=some ⟨g,0,none⟩)=>(show g < U1.heap.size from BKX.out.lt hne g hg))
          clear hU1 xw XU
          refine wpT_loud fun K hK=>?_
          go_wp2
          refine hK _ _ (Ext.only ((Ext.refl _).alloc _)) ?_
          clear hK K
          have xw:Ext U1 (U1.alloc (.cells (Rcd.none_.V none 0) 101)):=(Ext.refl _).alloc _
          have CBX:=hid (show (U1.alloc (.cells (Rcd.none_.V none 0) 101)).heap[U1.heap.size]?=some (.cells (Rcd.none_.V none 0) 101 (0,0)) from heap_alloc_new _ _)
          rw [wpT]
          simp only [opsAt,opA,opB,opC,opD,opE,opF,opG]
          refine Zak ?_
          intro U2 hU2
          have XU:=hid (Ext.trans xw hU2)
          have EX2:=hid (Ext.trans EX1.out XU.out)
          have SZ2:=hid XU.out.size
          have SPX:=hid (show U1.heap.size < U2.heap.size from Nat.lt_of_lt_of_le (by simp) hU2.size)
          replace BKX:=hid (BKX.out.ext XU.out)
          replace CBX:=hid (hU2.at CBX.out)
          clear hU2 xw XU
          refine wpT_loud fun K hK=>?_
          go_wp2_with (guard_target=wpList _ _ _ (⟨none,Op.store _ _ _,_,_,_,none⟩::_) _ _; refine Zaa rfl 101 _ _ rfl U1.heap.size rfl (X.V a cp) _ rfl 101 (Za0 _ _ _) CBX.out rfl (V_one _ _ _) ?_)
          have HOU:=hid ((Zad U2 U1.heap.size (X.V a cp)).mono (fun i _ h=>by subst h; exact (EX1.out.size:wE.heap.size<=U1.heap.size)):Only (fun b=>wE.heap.size<=b) U2 (U2.setRow U1.heap.size (X.V a cp)))
          refine hK _ _ HOU.out ?_
          have HSX:=hid (setRow_heap U2 U1.heap.size _ (X.V a cp) _ _ CBX.out)
          clear hK K HOU
          rw [wpT]
          simp only [opsAt,opA,opB,opC,opD,opE,opF,opG]
          (refine Zac (fun K hK=>?_); go_simp; refine hK _ ?_; clear hK K)
          (refine Zac (fun K hK=>?_); go_simp; refine hK _ ?_; clear hK K)
          (refine Zac (fun K hK=>?_); go_simp; refine hK _ ?_; clear hK K)
          refine Zak ?_
          intro U3 hU3
          have OU:=hid (Only.ext (Zad U2 U1.heap.size (X.V a cp)) hU3)
          have EX3:=hid (show Ext wE U3 from Ext.then EX2.out OU.out (fun q hq e=>by have:=EX1.out.size; omega))
          have CFX:=hid (hU3.at HSX.out)
          replace BKX:=hid (show BlksAt U3 a X.blocks from by
           rcases hxn:X.blocks with _ | ⟨b0,bs⟩
           ·
            intro i b hb; simp at hb
           ·
            rw [<- hxn]
            refine BKX.out.only OU.out (fun g hg e=>?_)
            have h1:=LOX.out ⟨g,0,none⟩ hg
            have h2:=HIX.out (by rw [hxn]; simp) g hg
            have s0:=SZ0.out; have s1:=SZ1.out; have s2:=SZ2.out; have pX:=SPX.out;
            have h3:U0.heap.size<=g:=h1
            omega)
          clear hU3 OU HSX CBX
          go_wp2
          go_meet
          case rel=>exact ⟨U1.heap.size,a,cp,rfl,rfl,rfl,rfl,EX3.out,CFX.out,BKX.out⟩
         ·
          refine wpT_loud fun K hK=>?_
          go_wp2
          refine hK _ _ (Ext.only ((Ext.refl _).alloc _)) ?_
          clear hK K
          have xw:Ext U0 (U0.alloc (.cells (Rcd.none_.V none 0) 101)):=(Ext.refl _).alloc _
          have CBX:=hid (show (U0.alloc (.cells (Rcd.none_.V none 0) 101)).heap[U0.heap.size]?=some (.cells (Rcd.none_.V none 0) 101 (0,0)) from heap_alloc_new _ _)
          rw [wpT]
          simp only [opsAt,opA,opB,opC,opD,opE,opF,opG]
          refine Zak ?_
          intro U1 hU1
          have XU:=hid (Ext.trans xw hU1)
          have EX1:=hid (Ext.trans EX0.out XU.out)
          have SZ1:=hid XU.out.size
          have SPX:=hid (show U0.heap.size < U1.heap.size from Nat.lt_of_lt_of_le (by simp) hU1.size)
          replace CBX:=hid (hU1.at CBX.out)
          clear hU1 xw XU
          refine wpT_loud fun K hK=>?_
          go_wp2_with fail
          refine (jslot_c (HT0.out.ext EX1.out).two.ract c j).mono ?_
          rintro e W1' ⟨a,cp,rfl,xw,hbk,hab⟩
          rw [HQX.out] at hbk ⊢
          simp only at hbk ⊢
          rw [HVV.out]
          have BKX:=hid hbk
          have LOX:=hid hab
          clear hbk hab
          go_wp2
          refine hK _ _ (Ext.only xw) ?_
          clear hK K
          rw [wpT]
          simp only [opsAt,opA,opB,opC,opD,opE,opF,opG]
          (refine Zac (fun K hK=>?_); go_simp; refine hK _ ?_; clear hK K)
          (refine Zac (fun K hK=>?_); go_simp; refine hK _ ?_; clear hK K)
          (refine Zac (fun K hK=>?_); go_simp; refine hK _ ?_; clear hK K)
          (refine Zac (fun K hK=>?_); go_simp; refine hK _ ?_; clear hK K)
          (refine Zac (fun K hK=>?_); go_simp; refine hK _ ?_; clear hK K)
          refine Zak ?_
          intro U2 hU2
          have XU:=hid (Ext.trans xw hU2)
          have EX2:=hid (Ext.trans EX1.out XU.out)
          have SZ2:=hid XU.out.size
          replace BKX:=hid (BKX.out.ext hU2)
          have HIX:=hid (fun (hne:X.blocks≠[]) g (hg:a=some ⟨g,0,none⟩)=>(show g < U2.heap.size from BKX.out.lt hne g hg))
          replace CBX:=hid (XU.out.at CBX.out)
          clear hU2 xw XU
          refine wpT_loud fun K hK=>?_
          go_wp2_with (guard_target=wpList _ _ _ (⟨none,Op.store _ _ _,_,_,_,none⟩::_) _ _; refine Zaa rfl 101 _ _ rfl U0.heap.size rfl (X.V a cp) _ rfl 101 (Za0 _ _ _) CBX.out rfl (V_one _ _ _) ?_)
          have HOU:=hid ((Zad U2 U0.heap.size (X.V a cp)).mono (fun i _ h=>by subst h; exact (EX0.out.size:wE.heap.size<=U0.heap.size)):Only (fun b=>wE.heap.size<=b) U2 (U2.setRow U0.heap.size (X.V a cp)))
          refine hK _ _ HOU.out ?_
          have HSX:=hid (setRow_heap U2 U0.heap.size _ (X.V a cp) _ _ CBX.out)
          clear hK K HOU
          rw [wpT]
          simp only [opsAt,opA,opB,opC,opD,opE,opF,opG]
          (refine Zac (fun K hK=>?_); go_simp; refine hK _ ?_; clear hK K)
          (refine Zac (fun K hK=>?_); go_simp; refine hK _ ?_; clear hK K)
          (refine Zac (fun K hK=>?_); go_simp; refine hK _ ?_; clear hK K)
          refine Zak ?_
          intro U3 hU3
          have OU:=hid (Only.ext (Zad U2 U0.heap.size (X.V a cp)) hU3)
          have EX3:=hid (show Ext wE U3 from Ext.then EX2.out OU.out (fun q hq e=>by have:=EX0.out.size; omega))
          have CFX:=hid (hU3.at HSX.out)
          replace BKX:=hid (show BlksAt U3 a X.blocks from by
           rcases hxn:X.blocks with _ | ⟨b0,bs⟩
           ·
            intro i b hb; simp at hb
           ·
            rw [<- hxn]
            refine BKX.out.only OU.out (fun g hg e=>?_)
            have h1:=LOX.out ⟨g,0,none⟩ hg
            have h2:=HIX.out (by rw [hxn]; simp) g hg
            have s0:=SZ0.out; have s1:=SZ1.out; have s2:=SZ2.out; have pX:=SPX.out;
            have h3:U1.heap.size<=g:=h1
            omega)
          clear hU3 OU HSX CBX
          go_wp2
          go_meet
          case rel=>exact ⟨U0.heap.size,a,cp,rfl,rfl,rfl,rfl,EX3.out,CFX.out,BKX.out⟩
        case rest =>
         obtain ⟨pa,aa,ca,rfl,rfl,rfl,rfl,xa,ba1,bka⟩:=hcut
         obtain ⟨wF,hwF⟩:∃ W,W=wc:=⟨_,rfl⟩
         subst hwF
         have HXA:=hid xa; have HBA:=hid ba1; have HKA:=hid bka
         have HT1:=hid (HT0.out.ext xa)
         have HCF:=hid (xa.at HCJ.out)
         clear xa ba1 bka cn e0
         have e0:∀ y:SW (Only fun b=>wF.heap.size<=b) wF.drew,y.w.cell? ⟨t,1,none⟩=some (.pointer (some ⟨q,0,none⟩)):=fun y=>(Zae (y.ext.at (show wF.drew.heap[t]?=_ from HT1.out.here) (fun z=>absurd (lt_of_block HT1.out.here) (Nat.not_lt.2 z)))).trans rfl
         have lc:Hid (∀ y:SW (Only fun b=>wF.heap.size<=b) wF.drew,∀ j v,(Cfg.A c).toList[j]?=some v->y.w.cell? ((⟨gc,0,none⟩:Addr).add j)=some v):=hid fun y=>Zai (y.ext.at (show wF.drew.heap[gc]?=_ from HCF.out) (fun z=>absurd (lt_of_block HCF.out) (Nat.not_lt.2 z)))
         go_upto_region 29 with fail
         go_cut [22,23,24,25] (fun vx vo vm ve wq=>∃ px a cp,vx=.pointer (some ⟨px,0,none⟩)/\vo=.bool z/\vm=.int .i64 mz/\ve=.int .i64 ck/\Ext wF wq/\wq.heap[px]?=some (.cells (X.V a cp) 101 (0,0))/\BlksAt wq a X.blocks)
         case first =>
          refine wp_region_tree_all (E:=Ext) (S:=Only fun b=>wF.heap.size<=b) (.two [0,1,2,3,4,5] 6 12 (.one [7,8,9,10,11] 12 (.one [] 13 (.fin [14,15,16]))) (.one [] 6 (.one [7,8,9,10,11] 13 (.fin [14,15,16])))) (by kernel_rfl) (by kernel_rfl) (fun _ _ d _ _ h=>by cases d<;>exact h) ?_
          rw [wpT]
          simp only [opsAt,opA,opB,opC,opD,opE,opF,opG]
          (refine Zac (fun K hK=>?_); go_simp; refine hK _ ?_; clear hK K)
          (refine Zac (fun K hK=>?_); go_simp; refine hK _ ?_; clear hK K)
          (refine Zac (fun K hK=>?_); go_simp; refine hK _ ?_; clear hK K)
          (refine Zac (fun K hK=>?_); go_simp; refine hK _ ?_; clear hK K)
          refine Zap 74 _ rfl ⟨gc,0,none⟩ rfl (Cfg.A c) rfl (Zas _) lc.out ?_
          (refine Zac (fun K hK=>?_); go_simp; refine hK _ ?_; clear hK K)
          refine Zak ?_
          intro U0 hU0
          have EX0:=hid (show Ext wF U0 from Ext.trans (Ext.refl wF).drew hU0)
          have SZ0:=hid EX0.out.size
          clear hU0 e0 lc
          refine ⟨?_,?_⟩
          ·
           refine wpT_loud fun K hK=>?_
           go_wp2_with fail
           refine (fjslot_c (HT1.out.ext EX0.out).two.fact (by rw [HD2.out.len]; exact HNM.out.1) (by rw [HD2.out.len]; have:=HNM.out.2.1; omega) (fun i s k sl st f hf=>HT1.out.two.ract.got_ok hf) (fun i s k sl st f hf=>Rck.get_right hf) c j).mono ?_
           rintro e W0' ⟨a,cp,rfl,xw,hbk,hab⟩
           rw [HQX.out] at hbk ⊢
           simp only at hbk ⊢
           rw [HCK2.out]
           have BKX:=hid hbk
           have LOX:=hid hab
           clear hbk hab
           go_wp2
           refine hK _ _ (Ext.only xw) ?_
           clear hK K
           rw [wpT]
           simp only [opsAt,opA,opB,opC,opD,opE,opF,opG]
           (refine Zac (fun K hK=>?_); go_simp; refine hK _ ?_; clear hK K)
           (refine Zac (fun K hK=>?_); go_simp; refine hK _ ?_; clear hK K)
           (refine Zac (fun K hK=>?_); go_simp; refine hK _ ?_; clear hK K)
           (refine Zac (fun K hK=>?_); go_simp; refine hK _ ?_; clear hK K)
           (refine Zac (fun K hK=>?_); go_simp; refine hK _ ?_; clear hK K)
           refine Zak ?_
           intro U1 hU1
           have XU:=hid (Ext.trans xw hU1)
           have EX1:=hid (Ext.trans EX0.out XU.out)
           have SZ1:=hid XU.out.size
           replace BKX:=hid (BKX.out.ext hU1)
           have HIX:=hid (fun (hne:X.blocks≠[]) g (hg:a=some ⟨g,0,none⟩)=>(show g < U1.heap.size from BKX.out.lt hne g hg))
           clear hU1 xw XU
           refine wpT_loud fun K hK=>?_
           go_wp2
           refine hK _ _ (Ext.only ((Ext.refl _).alloc _)) ?_
           clear hK K
           have xw:Ext U1 (U1.alloc (.cells (Rcd.none_.V none 0) 101)):=(Ext.refl _).alloc _
           have CBX:=hid (show (U1.alloc (.cells (Rcd.none_.V none 0) 101)).heap[U1.heap.size]?=some (.cells (Rcd.none_.V none 0) 101 (0,0)) from heap_alloc_new _ _)
           rw [wpT]
           simp only [opsAt,opA,opB,opC,opD,opE,opF,opG]
           refine Zak ?_
           intro U2 hU2
           have XU:=hid (Ext.trans xw hU2)
           have EX2:=hid (Ext.trans EX1.out XU.out)
           have SZ2:=hid XU.out.size
           have SPX:=hid (show U1.heap.size < U2.heap.size from Nat.lt_of_lt_of_le (by simp) hU2.size)
           replace BKX:=hid (BKX.out.ext XU.out)
           replace CBX:=hid (hU2.at CBX.out)
           clear hU2 xw XU
           refine wpT_loud fun K hK=>?_
           go_wp2_with (guard_target=wpList _ _ _ (⟨none,Op.store _ _ _,_,_,_,none⟩::_) _ _; refine Zaa rfl 101 _ _ rfl U1.heap.size rfl (X.V a cp) _ rfl 101 (Za0 _ _ _) CBX.out rfl (V_one _ _ _) ?_)
           have HOU:=hid ((Zad U2 U1.heap.size (X.V a cp)).mono (fun i _ h=>by subst h; exact (EX1.out.size:wF.heap.size<=U1.heap.size)):Only (fun b=>wF.heap.size<=b) U2 (U2.setRow U1.heap.size (X.V a cp)))
           refine hK _ _ HOU.out ?_
           have HSX:=hid (setRow_heap U2 U1.heap.size _ (X.V a cp) _ _ CBX.out)
           clear hK K HOU
           rw [wpT]
           simp only [opsAt,opA,opB,opC,opD,opE,opF,opG]
           (refine Zac (fun K hK=>?_); go_simp; refine hK _ ?_; clear hK K)
           (refine Zac (fun K hK=>?_); go_simp; refine hK _ ?_; clear hK K)
           (refine Zac (fun K hK=>?_); go_simp; refine hK _ ?_; clear hK K)
           refine Zak ?_
           intro U3 hU3
           have OU:=hid (Only.ext (Zad U2 U1.heap.size (X.V a cp)) hU3)
           have EX3:=hid (show Ext wF U3 from Ext.then EX2.out OU.out (fun q hq e=>by have:=EX1.out.size; omega))
           have CFX:=hid (hU3.at HSX.out)
           replace BKX:=hid (show BlksAt U3 a X.blocks from by
            rcases hxn:X.blocks with _ | ⟨b0,bs⟩
            ·
             intro i b hb; simp at hb
            ·
             rw [<- hxn]
             refine BKX.out.only OU.out (fun g hg e=>?_)
             have h1:=LOX.out ⟨g,0,none⟩ hg
             have h2:=HIX.out (by rw [hxn]; simp) g hg
             have s0:=SZ0.out; have s1:=SZ1.out; have s2:=SZ2.out; have pX:=SPX.out;
             have h3:U0.heap.size<=g:=h1
             omega)
           clear hU3 OU HSX CBX
           go_wp2
           go_meet
           case rel=>exact ⟨U1.heap.size,a,cp,rfl,rfl,rfl,rfl,EX3.out,CFX.out,BKX.out⟩
          ·
           refine wpT_loud fun K hK=>?_
           go_wp2
           refine hK _ _ (Ext.only ((Ext.refl _).alloc _)) ?_
           clear hK K
           have xw:Ext U0 (U0.alloc (.cells (Rcd.none_.V none 0) 101)):=(Ext.refl _).alloc _
           have CBX:=hid (show (U0.alloc (.cells (Rcd.none_.V none 0) 101)).heap[U0.heap.size]?=some (.cells (Rcd.none_.V none 0) 101 (0,0)) from heap_alloc_new _ _)
           rw [wpT]
           simp only [opsAt,opA,opB,opC,opD,opE,opF,opG]
           refine Zak ?_
           intro U1 hU1
           have XU:=hid (Ext.trans xw hU1)
           have EX1:=hid (Ext.trans EX0.out XU.out)
           have SZ1:=hid XU.out.size
           have SPX:=hid (show U0.heap.size < U1.heap.size from Nat.lt_of_lt_of_le (by simp) hU1.size)
           replace CBX:=hid (hU1.at CBX.out)
           clear hU1 xw XU
           refine wpT_loud fun K hK=>?_
           go_wp2_with fail
           refine (fjslot_c (HT1.out.ext EX1.out).two.fact (by rw [HD2.out.len]; exact HNM.out.1) (by rw [HD2.out.len]; have:=HNM.out.2.1; omega) (fun i s k sl st f hf=>HT1.out.two.ract.got_ok hf) (fun i s k sl st f hf=>Rck.get_right hf) c j).mono ?_
           rintro e W1' ⟨a,cp,rfl,xw,hbk,hab⟩
           rw [HQX.out] at hbk ⊢
           simp only at hbk ⊢
           rw [HCK2.out]
           have BKX:=hid hbk
           have LOX:=hid hab
           clear hbk hab
           go_wp2
           refine hK _ _ (Ext.only xw) ?_
           clear hK K
           rw [wpT]
           simp only [opsAt,opA,opB,opC,opD,opE,opF,opG]
           (refine Zac (fun K hK=>?_); go_simp; refine hK _ ?_; clear hK K)
           (refine Zac (fun K hK=>?_); go_simp; refine hK _ ?_; clear hK K)
           (refine Zac (fun K hK=>?_); go_simp; refine hK _ ?_; clear hK K)
           (refine Zac (fun K hK=>?_); go_simp; refine hK _ ?_; clear hK K)
           (refine Zac (fun K hK=>?_); go_simp; refine hK _ ?_; clear hK K)
           refine Zak ?_
           intro U2 hU2
           have XU:=hid (Ext.trans xw hU2)
           have EX2:=hid (Ext.trans EX1.out XU.out)
           have SZ2:=hid XU.out.size
           replace BKX:=hid (BKX.out.ext hU2)
           have HIX:=hid (fun (hne:X.blocks≠[]) g (hg:a=some ⟨g,0,none⟩)=>(show g < U2.heap.size from BKX.out.lt hne g hg))
           replace CBX:=hid (XU.out.at CBX.out)
           clear hU2 xw XU
           refine wpT_loud fun K hK=>?_
           go_wp2_with (guard_target=wpList _ _ _ (⟨none,Op.store _ _ _,_,_,_,none⟩::_) _ _; refine Zaa rfl 101 _ _ rfl U0.heap.size rfl (X.V a cp) _ rfl 101 (Za0 _ _ _) CBX.out rfl (V_one _ _ _) ?_)
           have HOU:=hid ((Zad U2 U0.heap.size (X.V a cp)).mono (fun i _ h=>by subst h; exact (EX0.out.size:wF.heap.size<=U0.heap.size)):Only (fun b=>wF.heap.size<=b) U2 (U2.setRow U0.heap.size (X.V a cp)))
           refine hK _ _ HOU.out ?_
           have HSX:=hid (setRow_heap U2 U0.heap.size _ (X.V a cp) _ _ CBX.out)
           clear hK K HOU
           rw [wpT]
           simp only [opsAt,opA,opB,opC,opD,opE,opF,opG]
           (refine Zac (fun K hK=>?_); go_simp; refine hK _ ?_; clear hK K)
           (refine Zac (fun K hK=>?_); go_simp; refine hK _ ?_; clear hK K)
           (refine Zac (fun K hK=>?_); go_simp; refine hK _ ?_; clear hK K)
           refine Zak ?_
           intro U3 hU3
           have OU:=hid (Only.ext (Zad U2 U0.heap.size (X.V a cp)) hU3)
           have EX3:=hid (show Ext wF U3 from Ext.then EX2.out OU.out (fun q hq e=>by have:=EX0.out.size; omega))
           have CFX:=hid (hU3.at HSX.out)
           replace BKX:=hid (show BlksAt U3 a X.blocks from by
            rcases hxn:X.blocks with _ | ⟨b0,bs⟩
            ·
             intro i b hb; simp at hb
            ·
             rw [<- hxn]
             refine BKX.out.only OU.out (fun g hg e=>?_)
             have h1:=LOX.out ⟨g,0,none⟩ hg
             have h2:=HIX.out (by rw [hxn]; simp) g hg
             have s0:=SZ0.out; have s1:=SZ1.out; have s2:=SZ2.out; have pX:=SPX.out;
             have h3:U1.heap.size<=g:=h1
             omega)
           clear hU3 OU HSX CBX
           go_wp2
           go_meet
           case rel=>exact ⟨U0.heap.size,a,cp,rfl,rfl,rfl,rfl,EX3.out,CFX.out,BKX.out⟩
         case rest =>
          obtain ⟨pb,ab,cb,rfl,rfl,rfl,rfl,xb,bb1,bkb⟩:=hcut
          have HXB2:=hid (Ext.trans HXA.out xb); have HBB:=hid bb1; have HKB:=hid bkb
          have HBA2:=hid (xb.at HBA.out)
          have HKA2:=hid (HKA.out.ext xb)
          have HLW:=hid (HLAID.out.only (Ext.trans HXC.out (Ext.trans HXJ.out HXB2.out)) (fun z=>z))
          clear xb bb1 bkb e0
          go_wp2_with (first
           | (guard_target=wpList _ _ _ (⟨some _,Op.load _ _,_,_,_,none⟩::_) _ _; refine Zab rfl 101 _ rfl ⟨pa,0,none⟩ rfl (X.V aa ca) (Za0 _ _ _) (Zai HBA2.out) ?_)
           | (guard_target=wpList _ _ _ (⟨some _,Op.load _ _,_,_,_,none⟩::_) _ _; refine Zab rfl 101 _ rfl ⟨pb,0,none⟩ rfl (X.V ab cb) (Za0 _ _ _) (Zai HBB.out) ?_))
          refine (record_c X HFIT.out.1 HFIT.out.2 aa ab ca cb wc HKA2.out HKB.out).mono ?_
          rintro e w7 ⟨rfl,x7⟩
          have HL7:=hid (HLW.out.only x7 (fun z=>z))
          have HX7:=hid (Ext.trans HXB2.out x7)
          clear x7
          go_wp2_with fail
          rw [<- HVV.out]
          refine (okind_c er w7 HL7.out).mono ?_
          rintro e w8 ⟨rfl,x8⟩
          rw [HCK2.out,HVV.out]
          have HX8:=hid (Ext.trans HXJ.out (Ext.trans HX7.out x8))
          clear x8
          go_wp2
          go_roundw
          case rel=>rw [HWJ.out]; exact ⟨j+1,rfl,by omega,by omega,HX8.out⟩
          case measure=>rw [HWJ.out]; simp [intOf]; omega
       ·
        have HT0:=hid (HB1.out.ext HXJ.out)
        have HL0:=hid (HLAID.out.only (Ext.trans HXC.out HXJ.out) (fun z=>z))
        go_wp2_with fail
        refine (tsame_c HT0.out HD2.out (by have:=HNM.out.2.1; omega) HNM.out.2.2.2 HL0.out).mono ?_
        rintro e g4 ⟨rfl,x4⟩
        have HE6:=hid (Ext.trans HXJ.out x4)
        clear x4
        go_wp2
        go_roundw
        case rel=>exact ⟨i+1,by go_num,by have:=HI.out; omega,by have:=HI.out; omega,R1,(HB1.out.ext HE6.out).less HTS.out HSAFE.out,HD2.out,(HK1.out.trans (Only.ext HK2.out HE6.out) fun c _ hc hs=>hc (HTS.out c hs))⟩
        case measure=>simp [intOf]; omega
    ·
     by_cases h1:i < len
     ·
      have i1:(i:Int) < (len:Int):=by omega
      have i2:((i:Int) < 20)=False:=eq_false (by omega)
      go_wp2_with fail
      refine (journalRuns_c wr (HLAID.out.only HX.out (fun q=>q))).mono ?_
      rintro e w5 ⟨rfl,x5⟩
      have HX5:=hid (Ext.trans HX.out x5)
      clear x5
      go_wp2
      go_ret
      exact ⟨rfl,HX5.out⟩
     ·
      have i1:((i:Int) < (len:Int))=False:=eq_false (by omega)
      go_wp2_with fail
      refine (journalRuns_c wr (HLAID.out.only HX.out (fun q=>q))).mono ?_
      rintro e w5 ⟨rfl,x5⟩
      have HX5:=hid (Ext.trans HX.out x5)
      clear x5
      go_wp2
      go_ret
      exact ⟨rfl,HX5.out⟩
end Go.Proofs.YtgjnnbomnoafcaaGreatDoor
namespace Go.Proofs.YtgjnnbomnoafcaaGreatDoor.journalPlays
open Go.ChangeShapes Go.WideShapes Go.ChangeAt Go.RowKit
open Go.ChangeMaps (open_string shut_string)
set_option linter.unusedVariables false
theorem laidOut:laidOutB Tryz.prog=true:=by kernel_rfl
theorem walk (a0 a1 a2 a3:Int) (a4:Option Addr) (len4 cap4:Nat) (w:World) (hg:EtLaid w) (w4:Ak10sAt w a4 len4) :
  Calls Tryz.prog 5 #[.int .i64 a0,.int .i64 a1,.int .i64 a2,.int .i64 a3,.slice a4 len4 cap4] w fun e w'=>e=.returned (.bool true)/\Below w.heap.size w w' :=
 (journalPlays_c a0 a1 a2 a3 a4 len4 cap4 w hg w4).mono fun _ _ ⟨he,hx⟩=>⟨he,hx.below⟩
set_option maxRecDepth 100000 in
theorem lifted (os:Os) (started:os.Started) (H:Type) (enc:TypeId × Value->H) :
  ReturnsInHanded {} Tryz.checked os 5 .any (fun w args=>(Rows.journalPlaysSpec.pre enc Tryz.prog Tryz.f5 [] false w args/\laidMetH Tryz.prog theLaid w)/\sizedMet enc Tryz.prog Tryz.f5 (OpenSpec.ofChange Rows.journalPlaysSpec) false w args)
   (Rows.journalPlaysSpec.post enc Tryz.prog Tryz.f5 false true false false):=by
 refine returnsInHanded_of_change_and (C:=Tryz.checked) (X:=fun w _=>laidMetH Tryz.prog theLaid w) (fun _ _ _ hh h=>h.of_heap hh) hOwn started (by kernel_rfl) Tryz.func5
  (ChangeSpec.witness_at (enc:=enc) (C:=Tryz.checked) (os:=os) (X:=fun w _=>laidMetH Tryz.prog theLaid w) false (laidWorld os) #[.int .i64 0,.int .i64 0,.int .i64 0,.int .i64 0,.slice none 0 0] 8 rfl (by kernel_rfl) (by kernel_rfl) (by kernel_rfl) (by kernel_rfl) (by kernel_rfl) (laidWorld_met os _)) ?_
 intro W base args ds gs before hval0 hW _ _ hL _
 have hval:∀ (j:Nat) t v,Tryz.f5.params[j]?=some t->args[j]?=some v->Value.okWide Tryz.prog W .any base t v:=hval0
 have hW':=hW
 obtain ⟨p,q,hA0,hV,rfl,hfz,hnd⟩:=hW
 have hA:DataW.TrodAll enc Tryz.prog W 0 (fun _=>true) true Tryz.f5.params.toList args.toList ds p:=hA0
 rw [Tryz.params5] at hA hval
 obtain ⟨v0,vs0,d0,ds0,p0,q0,hargs,rfl,rfl,h0,r0⟩:=trodAll_cons hA
 obtain ⟨v1,vs1,d1,ds1,p1,q1,rfl,rfl,rfl,h1,r1⟩:=trodAll_cons r0
 obtain ⟨v2,vs2,d2,ds2,p2,q2,rfl,rfl,rfl,h2,r2⟩:=trodAll_cons r1
 obtain ⟨v3,vs3,d3,ds3,p3,q3,rfl,rfl,rfl,h3,r3⟩:=trodAll_cons r2
 obtain ⟨v4,vs4,d4,ds4,p4,q4,rfl,rfl,rfl,h4,r4⟩:=trodAll_cons r3
 obtain ⟨rfl,rfl,rfl⟩:=trodAll_nil r4
 obtain rfl:args=#[v0,v1,v2,v3,v4]:=by cases args; simp_all
 obtain ⟨rfl,rfl⟩:=trodVars_none hV
 obtain ⟨a0,rfl,rfl,rfl,w0⟩:=open_int Tryz.underlying3 (hval 0 3 v0 rfl rfl) h0
 obtain ⟨a1,rfl,rfl,rfl,w1⟩:=open_int Tryz.underlying3 (hval 1 3 v1 rfl rfl) h1
 obtain ⟨a2,rfl,rfl,rfl,w2⟩:=open_int Tryz.underlying3 (hval 2 3 v2 rfl rfl) h2
 obtain ⟨a3,rfl,rfl,rfl,w3⟩:=open_int Tryz.underlying3 (hval 3 3 v3 rfl rfl) h3
 obtain ⟨a4,len4,cap4,rfl⟩:=okWide_slice Tryz.underlying95 (hval 4 95 v4 rfl rfl)
 have k4:=h4
 have lt4:∀ x∈p4,x.block < W.heap.size:=by obtain ⟨m,hm⟩:=k4; exact DataW.trod_lt m _ _ _ hm
 have w4:Ak10sAt W a4 len4:=by
  obtain ⟨fuel,hf⟩:=h4
  exact open_Ak10s hf
 have hg:=etLaid_of hL
 clear hA0 hval0
 simp only [List.append_nil] at hW'
 refine (walk a0 a1 a2 a3 a4 len4 cap4 W hg w4).mono fun e W' ⟨he,bel⟩=>?_
 subst he
 exact ⟨_,rfl,_,_,_,[],_,[],hW',trodAll_mk1 (shut_bool Tryz.underlying4 _),(trodAll_cons_mk (shut_int Tryz.underlying3 w0) (trodAll_cons_mk (shut_int Tryz.underlying3 w1) (trodAll_cons_mk (shut_int Tryz.underlying3 w2) (trodAll_cons_mk (shut_int Tryz.underlying3 w3) (trodAll_cons_mk (Below.trod laidOut (by kernel_rfl) (of_decide_eq_true (by kernel_rfl)) k4 bel lt4) trodAll_mk0))))),rfl,bel.frame _,fun h=>by cases h⟩
theorem over:Rows.JournalPlaysSaid :=
 OpenClaim.holds_of_wide 5 Tryz.f5 rfl rfl rfl rfl rfl rfl rfl ⟨rfl,rfl,rfl,rfl,rfl⟩ rfl rfl rfl rfl rfl (by kernel_rfl) Tryz.func5 (by kernel_rfl)
  (of_decide_eq_true (by kernel_rfl)) (by unfold Func.isWrapper; first | (rw [if_pos (by decide +kernel)]; kernel_rfl) | (rw [if_neg (by decide +kernel)]; exact ⟨rfl,rfl⟩))
  (fun os started H enc _=>lifted os started H enc)
theorem proved:Rows.JournalPlaysCardSaid :=
 Claim7.holds_tied_plain_at .later [] [.handle] true (true, "faf3cd5ff00875a54f6a608788494961345aefece9ca848031828fc03b572bca") true
  over (fun _ h=>by cases h) (by kernel_rfl) (fun _ h=>by cases h) journalPlays_row_tie rfl ⟨rfl,rfl⟩ (by kernel_rfl) rfl
  (fun f fn hf hfn=>by
   obtain rfl:f=5:=Option.some.inj ((show Tryz.prog.funcNamed "stave/stavelaw10.JournalPlays"=some 5 by kernel_rfl).symm.trans hf) |>.symm
   obtain rfl:fn=Tryz.f5:=(Option.some.inj (Tryz.func5.symm.trans hfn)).symm
   exact ⟨by kernel_rfl,fun j t ht=>by
    rw [Tryz.params5] at ht
    rcases j with _ | _ | _ | _ | _ | j
    ·
     simp at ht; subst ht; kernel_rfl
    ·
     simp at ht; subst ht; kernel_rfl
    ·
     simp at ht; subst ht; kernel_rfl
    ·
     simp at ht; subst ht; kernel_rfl
    ·
     simp at ht; subst ht; kernel_rfl
    ·
     simp at ht⟩)
  (by kernel_rfl)
#print axioms proved
end Go.Proofs.YtgjnnbomnoafcaaGreatDoor.journalPlays
