/- The statement StripePlays, as its tied card: for every input the call of stavelaw11's StripePlays answers true, and its arguments read behind it as they read before. No condition of our own. -/
/- Texts of one proof, joined: WStripePlays, LawStripePlays. -/
import Derived.Test.YtgjnnbomnoafcaaGreatDoorV1
import Derived.Test.YtgjnnbomnoafcaaGreatDoorV4
import Derived.Test.YtgjnnbomnoafcaaGreatDoorVO
import Derived.Test.YtgjnnbomnoafcaaGreatDoorV2
import Derived.Test.YtgjnnbomnoafcaaGreatDoorVS
import Derived.Test.YtgjnnbomnoafcaaGreatDoorVN
import Derived.Test.YtgjnnbomnoafcaaGreatDoorVC
import Derived.Deep.DeepCutAuto
import Derived.Deep.CutBlock
import Derived.Test.YtgjnnbomnoafcaaGreatDoorCards
import Derived.Test.YtgjnnbomnoafcaaGreatDoorTie
import Derived.WalkKit
import Derived.ProofKit
import Derived.OpenShut
import Derived.ShutString
import Derived.ChangeOld
import Derived.Below
import Derived.SevenTiedAt
set_option linter.unusedVariables false
set_option linter.unusedSimpArgs false
namespace Go.Proofs.YtgjnnbomnoafcaaGreatDoor
set_option linter.unusedVariables false
open Go Go.RowKit Gf
attribute [local irreducible] wpSQ
set_option maxRecDepth 100000 in
set_option maxHeartbeats 40000000 in
theorem stripePlays_c (k n stripes slots:Int) (a:Option Addr) (len cap:Nat) (w:World) (hg:EtLaid w) (ha:Ak11sAt w a len):Calls Tryz.prog 6 #[.int .i64 k,.int .i64 n,.int .i64 stripes,.int .i64 slots,.slice a len cap] w fun e w'=>e=.returned (.bool true)/\Ext w w':=by
 have HLAID:=hid hg; have HA:=hid ha
 have HCS:=hid Cfg.A_size
 have hzc:=zero_cfg
 have hzk:=zero_Ak11
 have hzl:=zero_loss
 clear hg ha
 go_enter Tryz.func6,Tryz.ntmps6
 go_wp2_with fail
 refine (kconfig_c k n stripes slots w).mono ?_
 rintro e w1 ⟨rfl,x1⟩
 have HGD:=hid (keepCfg_good k n stripes slots)
 have HN6:=hid (show (keepCfg k n stripes slots).n<=6 from (Zbl n (within k 1 4) 6 (by have:=Zbl k 1 4 (by omega); omega)).2)
 have HK4:=hid (show (keepCfg k n stripes slots).k<=4 from (Zbl k 1 4 (by omega)).2)
 generalize keepCfg k n stripes slots=c at *
 have HX1:=hid x1
 clear x1
 obtain ⟨W1,hW1⟩:∃ W,w1.alloc (.cells (Cfg.A c) 74)=W:=⟨_,rfl⟩
 have HBW1:=hid (show W1.heap[w1.heap.size]?=some (.cells (Cfg.A c) 74 (0,0)) from hW1▸heap_alloc_new _ _)
 have HXXW1:=hid (show Ext w1 W1 from hW1▸(Ext.refl w1).alloc _)
 have hb1:(w1.alloc (.cells (Cfg.A Cfg.zero) 74)).heap[w1.heap.size]?=some (.cells (Cfg.A Cfg.zero) 74 (0,0)):=Zad
 have HWW1:=hid hW1
 obtain ⟨gc,hgc⟩:∃ g,w1.heap.size=g:=⟨_,rfl⟩
 have HGW1:=hid hgc
 rw [hgc] at HBW1
 clear hW1 hgc
 go_wp2_with (first
  | (guard_target=wpList _ _ _ (⟨none,Op.store _ _ _,_,_,_,none⟩::_) _ _; have hb0:=hb1; clear hb1; refine Zab rfl 74 _ _ rfl w1.heap.size rfl (Cfg.A c) _ rfl 74 (Za6 _) hb0 (by rw [HCS.out,HCS.out]) (Cfg.A_one _) ?_; rw [Zao,HWW1.out,HGW1.out])
  | (guard_target=wpList _ _ _ (⟨some _,Op.load _ _,_,_,_,none⟩::_) _ _; refine Zae rfl 74 _ rfl ⟨gc,0,none⟩ rfl (Cfg.A c) (Za6 _) (Zaj HBW1.out) ?_))
 obtain ⟨m,hm,m1,m128⟩:=sectors_nat c HGD.out
 obtain ⟨nn,hn⟩:∃ nn:Nat,c.n=nn:=⟨c.n.toNat,by have:=HGD.out.k0; have:=HGD.out.k1; omega⟩
 obtain ⟨kk,hk⟩:∃ kk:Nat,c.k=kk:=⟨c.k.toNat,by have:=HGD.out.k0; omega⟩
 obtain ⟨st,hst⟩:∃ st:Nat,c.stripes=st:=⟨c.stripes.toNat,by have:=HGD.out.st0; omega⟩
 have n1:1<=nn:=by have:=HGD.out.k0; have:=HGD.out.k1; omega
 have n8:nn<=6:=by have:=HN6.out; omega
 have HNM:=hid (And.intro n1 (And.intro n8 (And.intro m1 m128)))
 have HCN:=hid hn; have HCK:=hid hk; have HST:=hid hst; have HCM:=hid hm
 have HK8:=hid (show kk<=8 by have:=HGD.out.k1; have:=HGD.out.n1; omega)
 have HS4:=hid (show st<=64/\1<=st by have:=HGD.out.st0; have:=HGD.out.st1; omega)
 refine (tnew_c c HGD.out nn m hn hm n1 (by omega) m1 m128 W1).mono ?_
 rintro e W4 ⟨t,r,q,rfl,h4,hlt4,x4⟩
 clear hn hm n1 n8 m1 m128 hk hst
 obtain ⟨S,hS⟩:∃ S:Nat->Prop,(fun b=>b < W1.heap.size\/b=t)=S:=⟨_,rfl⟩
 rw [hS] at h4
 have H4:=hid h4
 have HX4:=hid (Ext.trans HX1.out (Ext.trans HXXW1.out x4))
 have HSW:=hid (show ∀ b,b < w.heap.size->S b from fun b hb=>hS▸Or.inl (Nat.lt_of_lt_of_le hb (Ext.trans HX1.out HXXW1.out).size))
 have HSC:=hid (show S gc from hS▸Or.inl (lt_of_block HBW1.out))
 have HC4:=hid (x4.at HBW1.out)
 have HDM:=hid (Rck.Dim.new nn m)
 clear h4 x4 hS hlt4
 go_wp2_with fail
 go_loopw [13] (fun t' wq=>∃ i:Nat,t'=.int .i64 i/\i<=len/\i<=20/\∃ R,TwoIn S wq t r q R/\R.Dim nn m/\Keeps S W4 wq) (fun t' _=>20 - (intOf t').toNat)
 case atStart=>exact ⟨0,rfl,by omega,by omega,_,H4.out,HDM.out,Only.refl _ _⟩
 case round =>
  clear H4 HDM
  obtain ⟨i,rfl,hi,hi25,R,hT,hD,hK⟩:=hrel
  have HT:=hid hT; have HD:=hid hD; have HK:=hid hK
  have HX:=hid (Keeps.ext HX4.out hK HSW.out)
  clear hT hD hK
  by_cases hio:i < len/\i < 20
  ·
   obtain ⟨b,off,kd,o1,o2,o3,od,k2,d2,s2,q2,x,ba,bl,bc,bits,rfl,hbl,hi64,hx0,hx1,hbits,hcl⟩:=HA.out i hio.1
   have i0:(0:Int)<=(i:Int):=by omega
   have i1:(i:Int) < (len:Int):=by omega
   have i2:(i:Int) < 20:=by omega
   have HI:=hid (And.intro hio.1 hio.2)
   obtain ⟨xx,rfl⟩:=Int.eq_ofNat_of_zero_le hx0
   have HXX:=hid (show xx < 4294967296 by omega)
   have HCL:=hid (show ∀ y v,(Ak11A kd o1 o2 o3 od k2 d2 s2 q2 xx ba bl bc).toList[y]?=some v->wr.cell? ((⟨b,off+i*11,none⟩:Addr).add y)=some v from fun y v hv=>by
    rw [addr_plain]
    exact Ext.cell HX.out (hcl y v hv))
   obtain ⟨V1,hV1⟩:∃ W,wr.alloc (.cells (Ak11A kd o1 o2 o3 od k2 d2 s2 q2 xx ba bl bc) 112)=W:=⟨_,rfl⟩
   have x1':Ext wr V1:=hV1▸(Ext.refl wr).alloc _
   obtain ⟨gq,hgq⟩:∃ g,wr.heap.size=g:=⟨_,rfl⟩
   have HGQ:=hid hgq
   have HCB:=hid (show V1.heap[gq]?=some (.cells (Ak11A kd o1 o2 o3 od k2 d2 s2 q2 xx ba bl bc) 112 (0,0)) from hgq▸hV1▸heap_alloc_new _ _)
   have hbs:(wr.alloc (.cells (Ak11A 0 0 0 0 false 0 0 0 0 0 none 0 0) 112)).heap[wr.heap.size]?=some (.cells (Ak11A 0 0 0 0 false 0 0 0 0 0 none 0 0) 112 (0,0)):=Zad
   have HV1:=hid hV1
   obtain ⟨T,hT⟩:∃ T:Nat->Prop,(fun b=>S b\/(wr.heap.size<=b/\b < V1.heap.size))=T:=⟨_,rfl⟩
   have HTS:=hid (show ∀ b,S b->T b from fun b hb=>hT▸Or.inl hb)
   have HTG:=hid (show T gq from hT▸Or.inr ⟨by rw [hgq]; exact Nat.le_refl _,lt_of_block HCB.out⟩)
   have H1:=hid (show TwoIn T V1 t r q R from hT▸HT.out.more (T:=fun b=>S b\/(wr.heap.size<=b/\b < V1.heap.size)) x1' (fun b hb=>by
    rcases hb with hb | hb
    ·
     exact ⟨Nat.lt_of_lt_of_le (HT.out.two.there b hb) x1'.size,.inl hb⟩
    ·
     exact ⟨hb.2,.inr hb.1⟩) (.inl HT.out.safe))
   have HK1:=hid (show Keeps S W4 V1 from Only.ext HK.out x1')
   have HX1':=hid (Ext.trans HX.out x1')
   have HBI:=hid (show BitsAt V1 ba bl bits from (hbits.only HX1'.out (fun _ _ q=>q)).1)
   have HBS:=hid (show ∀ p,ba=some p->0 < bl->T p.block from fun p hp h0=>HTS.out _ (HSW.out _ (hbits.2 p hp h0)))
   have q0:V1.cell? ⟨gq,0,none⟩=some (.int .i64 kd):=(Zaf HCB.out).trans rfl
   have HC1:=hid (HK1.out.at HC4.out (fun hn=>hn HSC.out))
   have HSAFE:=hid HT.out.safe
   clear hcl hV1 x1' hbl hbits hx0 hx1 hi64 hT HT hgq hio
   go_upto_if 55 with (first
    | (guard_target=wpList _ _ _ (⟨some _,Op.load _ _,_,_,_,none⟩::_) _ _; refine Zae rfl 112 _ rfl ⟨b,off+i*11,none⟩ rfl (Ak11A kd o1 o2 o3 od k2 d2 s2 q2 xx ba bl bc) aggAk11 HCL.out ?_)
    | (guard_target=wpList _ _ _ (⟨none,Op.store _ _ _,_,_,_,none⟩::_) _ _; have hb0:=hbs; clear hbs; refine Zab rfl 112 _ _ rfl wr.heap.size rfl (Ak11A kd o1 o2 o3 od k2 d2 s2 q2 xx ba bl bc) _ rfl 112 aggAk11 hb0 rfl (Ak11A_one _ _ _ _ _ _ _ _ _ _ _ _ _) ?_; rw [Zao,HV1.out,HGQ.out]))
   go_cut [13] (fun t' wq=>(∃ z:Nat,i=z/\t'=.int .i64 z)/\∃ R',TwoIn T wq t r q R'/\R'.Dim nn m/\Keeps T V1 wq)
   case first =>
    rcases hk1:(kd == (1:Int)) with _ | _
    ·
     have HWR:=hid (show ∀ y v,(WrA k2 d2 s2 q2 xx ba bl bc).toList[y]?=some v->V1.cell? ((⟨gq,5,none⟩:Addr).add y)=some v from fun y v hv=>by
      rw [addr_plain]
      refine (Zaf HCB.out).trans ?_
      rw [Ak11A_wear]; simpa using hv)
     go_wp2_with (guard_target=wpList _ _ _ (⟨some _,Op.load _ _,_,_,_,none⟩::_) _ _; refine Zae rfl 79 _ rfl ⟨gq,5,none⟩ rfl (WrA k2 d2 s2 q2 xx ba bl bc) aggWr HWR.out ?_)
     refine (twear_c H1.out HD.out HNM.out.1 (by have:=HNM.out.2.1; omega) HNM.out.2.2.1 HNM.out.2.2.2 k2 d2 s2 q2 xx HXX.out ba bl bc bits HBI.out HBS.out).mono ?_
     rintro e V2 ⟨rfl,R',h2,d2',k2'⟩
     have HF:=hid (And.intro h2 (And.intro d2' k2'))
     clear h2 d2' k2'
     go_wp2
     go_meet
     case rel=>exact ⟨⟨_,rfl,rfl⟩,R',HF.out.1,HF.out.2.1,HF.out.2.2⟩
    ·
     obtain ⟨z1,hz1⟩:∃ z,within o1 0 ((st:Int) - 1)=z:=⟨_,rfl⟩
     obtain ⟨z2,hz2⟩:∃ z,within o2 1 9=z:=⟨_,rfl⟩
     have wst:IntKind.i64.wrap ((st:Int) - 1)=(st:Int) - 1:=by have:=HS4.out; rw [IntKind.wrap_i64]; omega
     have wst2:wrap64 ((st:Int) - 1)=(st:Int) - 1:=by have:=HS4.out; unfold wrap64; omega
     have HWA:=hid (fun y:SW Ext V1.drew=>(show Calls Tryz.prog 12 #[.int .i64 o1,.int .i64 0,.int .i64 ((st:Int) - 1)] y.w fun e w''=>e=.returned (.int .i64 z1)/\Ext y.w w'' from (Zb7 o1 0 ((st:Int) - 1) y.w (by omega) (by have:=HS4.out; omega) (by have:=HS4.out; omega)).mono fun e w' q=>⟨by rw [q.1,hz1],q.2▸Ext.refl _⟩))
     have HWB:=hid (fun y:SW Ext V1.drew=>(show Calls Tryz.prog 12 #[.int .i64 o2,.int .i64 1,.int .i64 9] y.w fun e w''=>e=.returned (.int .i64 z2)/\Ext y.w w'' from (Zb7 o2 1 9 y.w (by omega) (by omega) (by omega)).mono fun e w' q=>⟨by rw [q.1,hz2],q.2▸Ext.refl _⟩))
     have xd:Ext V1 V1.drew:=(Ext.refl V1).drew
     have cs:∀ y:SW Ext V1.drew,y.w.cell? ⟨gc,3,none⟩=some (.int .i64 st):=fun y=>(Zaf ((Ext.trans xd y.ext).at HC1.out)).trans (by rw [Cfg.A3,HST.out])
     have cq1:∀ y:SW Ext V1.drew,y.w.cell? ⟨gq,1,none⟩=some (.int .i64 o1):=fun y=>(Zaf ((Ext.trans xd y.ext).at HCB.out)).trans rfl
     have cq2:∀ y:SW Ext V1.drew,y.w.cell? ⟨gq,2,none⟩=some (.int .i64 o2):=fun y=>(Zaf ((Ext.trans xd y.ext).at HCB.out)).trans rfl
     have HXD:=hid xd
     clear hz1 hz2 xd
     go_wp2_with fail
     refine Zal (S:=Ext) (.fin [0,1,2,3,4,5,6,7,8,9,10]) (by kernel_rfl) (by kernel_rfl) (fun _ _ d _ _ h=>by cases d<;>exact h) ?_
     rw [wpS]
     simp only [opsAt,opA,opB,opC,opD,opE,opF,opG]
     iterate 5 ((refine Zaa (fun K hK=>?_); go_simp; refine hK _ ?_; clear hK K))
     (refine Zaa (fun K hK=>?_); go_simp; (apply Exists.intro; refine ⟨fun x=>?_,hK _ ?_⟩; (exact HWA.out x); clear hK K))
     iterate 2 ((refine Zaa (fun K hK=>?_); go_simp; refine hK _ ?_; clear hK K))
     (refine Zaa (fun K hK=>?_); go_simp; (apply Exists.intro; refine ⟨fun x=>?_,hK _ ?_⟩; (exact HWB.out x); clear hK K))
     iterate 2 ((refine Zaa (fun K hK=>?_); go_simp; refine hK _ ?_; clear hK K))
     refine Zac ?_
     intro V2 hV2
     have HX2:=hid (Ext.trans HXD.out hV2)
     clear hV2 cs cq1 cq2 HWA HWB wst wst2
     have cod:V2.cell? ⟨gq,4,none⟩=some (.bool od):=(Zaf (HX2.out.at HCB.out)).trans rfl
     go_upto_if 66 with fail
     go_cut [15,16] (fun va vb wq=>(∃ z3 z4:Int,va=.int .i64 z3/\vb=.int .i64 z4)/\Ext V1 wq)
     case first =>
      rcases od with _ | _
      ·
       go_wp2
       go_meet
       case rel=>exact ⟨⟨_,_,rfl,rfl⟩,HX2.out⟩
      ·
       have xd:Ext V2 V2.drew:=(Ext.refl V2).drew
       have cq1:∀ y:SW Ext V2.drew,y.w.cell? ⟨gq,1,none⟩=some (.int .i64 o1):=fun y=>(Zaf ((Ext.trans xd y.ext).at (HX2.out.at HCB.out))).trans rfl
       have cq2:∀ y:SW Ext V2.drew,y.w.cell? ⟨gq,2,none⟩=some (.int .i64 o2):=fun y=>(Zaf ((Ext.trans xd y.ext).at (HX2.out.at HCB.out))).trans rfl
       have HXD2:=hid xd
       clear xd
       go_wp2_with fail
       refine Zal (S:=Ext) (.fin [0,1,2,3,4,5]) (by kernel_rfl) (by kernel_rfl) (fun _ _ d _ _ h=>by cases d<;>exact h) ?_
       rw [wpS]
       simp only [opsAt,opA,opB,opC,opD,opE,opF,opG]
       iterate 6 ((refine Zaa (fun K hK=>?_); go_simp; refine hK _ ?_; clear hK K))
       refine Zac ?_
       intro V3 hV3
       have HX3:=hid (Ext.trans HX2.out (Ext.trans HXD2.out hV3))
       clear hV3 cq1 cq2 cod
       go_wp2
       go_meet
       case rel=>exact ⟨⟨_,_,rfl,rfl⟩,HX3.out⟩
     case rest =>
      obtain ⟨⟨z3,z4,rfl,rfl⟩,xc⟩:=hcut
      have HXC:=hid xc
      clear xc cod
      clear HX2 V2
      obtain ⟨V2,hV2⟩:∃ W,W=wc:=⟨_,rfl⟩
      subst hV2
      have H3:=hid (H1.out.ext HXC.out)
      have HCV:=hid (HXC.out.at HC1.out)
      have HCBV:=hid (HXC.out.at HCB.out)
      have HXV:=hid (Ext.trans HX1'.out HXC.out)
      have HXD:=hid (show Ext V2 V2.drew from (Ext.refl V2).drew)
      have base:=hid (show ∀ y:SW (Only fun b=>¬T b) V2.drew,∀ b o,T b->V2.heap[b]?=some o->y.w.heap[b]?=some o from fun y b o hb ho=>y.ext.at (HXD.out.at ho) (fun hn=>hn hb))
      have e0:∀ y:SW (Only fun b=>¬T b) V2.drew,y.w.cell? ⟨t,0,none⟩=some (.pointer (some ⟨r,0,none⟩)):=fun y=>(Zaf (base.out y _ _ H3.out.safe H3.out.here)).trans rfl
      have e1:∀ y:SW (Only fun b=>¬T b) V2.drew,y.w.cell? ⟨t,1,none⟩=some (.pointer (some ⟨q,0,none⟩)):=fun y=>(Zaf (base.out y _ _ H3.out.safe H3.out.here)).trans rfl
      have lc:Hid (∀ y:SW (Only fun b=>¬T b) V2.drew,∀ j v,(Cfg.A c).toList[j]?=some v->y.w.cell? ((⟨gc,0,none⟩:Addr).add j)=some v):=hid fun y=>Zaj (base.out y _ _ (HTS.out _ HSC.out) HCV.out)
      have ck:∀ y:SW (Only fun b=>¬T b) V2.drew,y.w.cell? ⟨gc,1,none⟩=some (.int .i64 kk):=fun y=>(Zaf (base.out y _ _ (HTS.out _ HSC.out) HCV.out)).trans (by rw [Cfg.A1,HCK.out])
      have cq3:∀ y:SW (Only fun b=>¬T b) V2.drew,y.w.cell? ⟨gq,3,none⟩=some (.int .i64 o3):=fun y=>(Zaf (base.out y _ _ HTG.out HCBV.out)).trans rfl
      go_wp2_with fail
      refine Zau (E:=Ext) (S:=Only fun b=>¬T b) (.one [0,1,2,3,4,5,6,7,8,9,10,14,15,16,17,18,19,20,21,22,23,24] 11 (.one [] 12 (.one [] 13 (.one [] 25 (.one [] 26 (.fin [27])))))) (by kernel_rfl) (by kernel_rfl) (fun _ _ d _ _ h=>by cases d<;>exact h) ?_
      rw [wpS]
      simp only [opsAt,opA,opB,opC,opD,opE,opF,opG]
      iterate 4 ((refine Zaa (fun K hK=>?_); go_simp; refine hK _ ?_; clear hK K))
      refine Zaz 74 _ rfl ⟨gc,0,none⟩ rfl (Cfg.A c) rfl (Za6 _) lc.out ?_
      iterate 10 ((refine Zaa (fun K hK=>?_); go_simp; refine hK _ ?_; clear hK K))
      refine Zaz 74 _ rfl ⟨gc,0,none⟩ rfl (Cfg.A c) rfl (Za6 _) lc.out ?_
      iterate 6 ((refine Zaa (fun K hK=>?_); go_simp; refine hK _ ?_; clear hK K))
      refine Zac ?_
      intro U0 hU0
      have HU0:=hid (Ext.trans HXD.out hU0)
      clear hU0 e0 e1 lc ck cq3 HXD base
      refine Zat fun Q1 hQ1=>?_
      go_wp2_with fail
      have HL8:=hid (blocksOf_108 kk o3)
      have HLB:=hid (blocksOf_bytes kk o3)
      obtain ⟨l,hl⟩:∃ l,blocksOf kk o3=l:=⟨_,rfl⟩
      have HKB:=hid (fun w=>kblocks_c kk HK8.out o3 w)
      rw [hl] at HL8 HLB HKB
      clear hl
      refine (HKB.out U0).mono ?_
      rintro e W0' ⟨v,rfl,hown,xw⟩
      obtain ⟨a,cp,rfl,hbk,_⟩:=kblocks_at HL8.out hown
      have BK:=hid hbk
      have HXW:=hid (Ext.trans HU0.out xw)
      clear hown hbk
      go_wp2
      refine hQ1 _ _ (Ext.only xw) ?_
      clear hQ1 Q1 xw
      rw [wpS]
      simp only [opsAt,opA,opB,opC,opD,opE,opF,opG]
      refine Zac ?_
      intro U1 hU1
      have HU1:=hid (Ext.trans HXW.out hU1)
      have BK1:=hid (BK.out.ext hU1)
      clear hU1
      refine Zat fun Q1 hQ1=>?_
      go_wp2_with fail
      obtain ⟨TL,hsub,hR,back⟩:=(H3.out.ext HU1.out).two.left
      refine (strput_c hR c z3 z4 l HL8.out HLB.out a cp BK1.out).mono ?_
      rintro e U2 ⟨rfl,h',k'⟩
      obtain ⟨h3,k3⟩:=back _ _ h' k'
      have HDW:=hid (HD.out.sput c z3 z4 l)
      rcases hq:R.sput c z3 z4 l with ⟨ov,R1⟩
      rw [hq] at h3 HDW
      simp only at h3 HDW ⊢
      have HQ:=hid hq
      have HH3:=hid h3
      have HK3:=hid (show Keeps T V2 U2 from (Ext.only HU1.out).trans k3 fun c _ hc=>hc)
      obtain ⟨vv,hvv⟩:∃ vv,oErr ov=vv:=⟨_,rfl⟩
      rw [hvv]
      have HVV:=hid hvv
      clear hR back hsub h' k' h3 hq hvv
      go_wp2
      refine hQ1 _ _ k3 ?_
      clear hQ1 Q1 k3
      rw [wpS]
      simp only [opsAt,opA,opB,opC,opD,opE,opF,opG]
      refine Zac ?_
      intro U3 hU3
      have HH4:=hid (HH3.out.ext hU3)
      have HK4:=hid (show Keeps T V2 U3 from Only.ext HK3.out hU3)
      clear hU3
      refine Zat fun Q1 hQ1=>?_
      go_wp2_with fail
      rw [<- HVV.out]
      refine (okind_c ov U3 (HLAID.out.only (Keeps.ext HXV.out HK4.out (fun b hb=>HTS.out _ (HSW.out b hb))) (fun z=>z))).mono ?_
      rintro e U4 ⟨rfl,x4'⟩
      obtain ⟨ck,hck⟩:∃ ck,okind ov=ck:=⟨_,rfl⟩
      rw [hck,HVV.out]
      have HCK2:=hid hck
      have HH5:=hid (HH4.out.ext x4')
      have HK5:=hid (show Keeps T V2 U4 from Only.ext HK4.out x4')
      clear hck
      go_wp2
      refine hQ1 _ _ (Ext.only x4') ?_
      clear hQ1 Q1 x4'
      rw [wpS]
      simp only [opsAt,opA,opB,opC,opD,opE,opF,opG]
      refine Zac ?_
      intro U5 hU5
      have HH5b:=hid (HH5.out.ext hU5)
      have HK5b:=hid (show Keeps T V2 U5 from Only.ext HK5.out hU5)
      clear hU5
      refine Zat fun Q1 hQ1=>?_
      go_wp2_with fail
      refine (HKB.out U5).mono ?_
      rintro e W5' ⟨v,rfl,hown,xw⟩
      obtain ⟨a2,cp2,rfl,hbk,_⟩:=kblocks_at HL8.out hown
      have BK2:=hid hbk
      have HH5c:=hid (HH5b.out.ext xw)
      have HK5c:=hid (show Keeps T V2 W5' from Only.ext HK5b.out xw)
      clear hown hbk
      go_wp2
      refine hQ1 _ _ (Ext.only xw) ?_
      clear hQ1 Q1 xw
      rw [wpS]
      simp only [opsAt,opA,opB,opC,opD,opE,opF,opG]
      refine Zac ?_
      intro U6 hU6
      have HH6:=hid (HH5c.out.ext hU6)
      have HK6:=hid (show Keeps T V2 U6 from Only.ext HK5c.out hU6)
      have BK3:=hid (BK2.out.ext hU6)
      clear hU6
      refine Zat fun Q1 hQ1=>?_
      go_wp2_with fail
      obtain ⟨TR,hsub,hR,back⟩:=HH6.out.right
      refine (fstrput_c hR (by rw [HD.out.len]; exact HNM.out.1) (by rw [HD.out.len]; have:=HNM.out.2.1; omega) c z3 z4 l HL8.out HLB.out a2 cp2 BK3.out).mono ?_
      rintro e U7 ⟨rfl,h',k'⟩
      rw [HQ.out] at h' ⊢
      simp only at h' ⊢
      rw [HCK2.out]
      obtain ⟨h6,k6⟩:=back _ _ h' k'
      have HH7:=hid h6
      have HK7:=hid (show Keeps T V2 U7 from HK6.out.trans k6 fun c _ hc=>hc)
      clear hR back hsub h' k' h6
      go_wp2
      refine hQ1 _ _ k6 ?_
      clear hQ1 Q1 k6
      rw [wpS]
      simp only [opsAt,opA,opB,opC,opD,opE,opF,opG]
      (refine Zaa (fun K hK=>?_); go_simp; refine hK _ ?_; clear hK K)
      refine Zac ?_
      intro U8 hU8
      have HF:=hid (show TwoIn T U8 t r q R1/\R1.Dim nn m/\Keeps T V1 U8 from by
       have k:Keeps T V2 U8:=Only.ext HK7.out hU8
       exact ⟨⟨HH7.out.ext hU8,k.at H3.out.here (fun hn=>hn H3.out.safe),H3.out.safe⟩,HDW.out,(Ext.only HXC.out).trans k fun c _ hc=>hc⟩)
      clear hU8
      go_wp2
      go_meet
      case rel=>exact ⟨⟨_,rfl,rfl⟩,R1,HF.out.1,HF.out.2.1,HF.out.2.2⟩
   case rest =>
    obtain ⟨⟨z0,rfl,rfl⟩,R1,h1,d1,k1⟩:=hcut
    have HB1:=hid h1; have HD2:=hid d1; have HK2:=hid k1
    have HXC:=hid (Keeps.ext HX1'.out k1 (fun b hb=>HTS.out _ (HSW.out b hb)))
    have HCC:=hid (k1.at HC1.out (fun hn=>hn (HTS.out _ HSC.out)))
    clear h1 d1 k1
    obtain ⟨wD,hwD⟩:∃ W,W=wc:=⟨_,rfl⟩
    subst hwD
    go_wp2_with fail
    go_loopw [17] (fun t' wq=>∃ j:Int,t'=.int .i64 j/\-1<=j/\j<=(st:Int)+1/\Ext wD wq) (fun t' _=>((st:Int)+1 - intOf t').toNat)
    case atStart=>exact ⟨-1,rfl,by omega,by omega,Ext.refl _⟩
    case round =>
     obtain ⟨j,rfl,j0,j1,hxj⟩:=hrel
     have HXJ:=hid hxj
     clear hxj
     have HCJ:=hid (HXJ.out.at HCC.out)
     have cn:wr.cell? ⟨gc,3,none⟩=some (.int .i64 st):=(Zaf HCJ.out).trans (by rw [Cfg.A3,HST.out])
     by_cases hj:j<=(st:Int)
     ·
      have HT0:=hid (HB1.out.ext HXJ.out)
      obtain ⟨wE,hwE⟩:∃ W,W=wr:=⟨_,rfl⟩
      subst hwE
      have HFIT:=hid (HT0.out.two.ract.sget_fit c j)
      have HLO:=hid (fun er (h:(R1.sget c j).2.2=some er) (hl:er.lost=true)=>Rck.sget_loss h hl)
      obtain ⟨⟨l,G,er⟩,hqx⟩:∃ y,R1.sget c j=y:=⟨_,rfl⟩
      rw [hqx] at HFIT HLO
      have HQX:=hid hqx
      obtain ⟨vv,hvv⟩:∃ vv,oErr er=vv:=⟨_,rfl⟩
      have HVV:=hid hvv
      obtain ⟨ck,hck⟩:∃ ck,okind er=ck:=⟨_,rfl⟩
      have HCK2:=hid hck
      have HWJ:=hid (show wrap64 (j+1)=j+1 by have:=HS4.out; unfold wrap64; omega)
      clear hqx hvv hck
      have xd:Ext wE wE.drew:=(Ext.refl wE).drew
      have e0:∀ y:SW Ext wE.drew,y.w.cell? ⟨t,0,none⟩=some (.pointer (some ⟨r,0,none⟩)):=fun y=>(Zaf ((Ext.trans xd y.ext).at HT0.out.here)).trans rfl
      have lc:Hid (∀ y:SW Ext wE.drew,∀ j v,(Cfg.A c).toList[j]?=some v->y.w.cell? ((⟨gc,0,none⟩:Addr).add j)=some v):=hid fun y=>Zaj ((Ext.trans xd y.ext).at HCJ.out)
      have HXD:=hid xd
      clear xd
      go_wp2_with fail
      refine Zau (E:=Ext) (S:=Ext) (.one [0,1,2,3,4,5] 6 (.fin [7,8,9,10,11,12,13])) (by kernel_rfl) (by kernel_rfl) (fun _ _ d _ _ h=>by cases d<;>exact h) ?_
      rw [wpS]
      simp only [opsAt,opA,opB,opC,opD,opE,opF,opG]
      iterate 4 ((refine Zaa (fun K hK=>?_); go_simp; refine hK _ ?_; clear hK K))
      refine Zaz 74 _ rfl ⟨gc,0,none⟩ rfl (Cfg.A c) rfl (Za6 _) lc.out ?_
      (refine Zaa (fun K hK=>?_); go_simp; refine hK _ ?_; clear hK K)
      refine Zac ?_
      intro U1 hU1
      have HU1:=hid (Ext.trans HXD.out hU1)
      clear hU1 e0 lc HXD
      refine Zat fun Q1 hQ1=>?_
      go_wp2_with fail
      refine (sget_c (HT0.out.ext HU1.out).two.ract c j).mono ?_
      rintro e U2 ⟨v,rfl,hown,xg⟩
      rw [HQX.out] at hown ⊢
      simp only at hown ⊢
      rw [HVV.out]
      obtain ⟨a1,cp1,rfl,hbk,_⟩:=kblocks_at HFIT.out.1 hown
      clear hown
      go_wp2
      refine hQ1 _ _ xg ?_
      clear hQ1 Q1
      rw [wpS]
      simp only [opsAt,opA,opB,opC,opD,opE,opF,opG]
      iterate 7 ((refine Zaa (fun K hK=>?_); go_simp; refine hK _ ?_; clear hK K))
      refine Zac ?_
      intro U3 hU3
      clear cn
      have HX3:=hid (Ext.trans HU1.out (Ext.trans xg hU3))
      have HBA:=hid (hbk.ext hU3)
      have HT1:=hid (HT0.out.ext HX3.out)
      have HC3:=hid (HX3.out.at HCJ.out)
      clear hU3 xg hbk HU1
      obtain ⟨wF,hwF⟩:∃ W,W=U3:=⟨_,rfl⟩
      subst hwF
      have xd:Ext wF wF.drew:=(Ext.refl wF).drew
      have e0:∀ y:SW Ext wF.drew,y.w.cell? ⟨t,1,none⟩=some (.pointer (some ⟨q,0,none⟩)):=fun y=>(Zaf ((Ext.trans xd y.ext).at HT1.out.here)).trans rfl
      have lc:Hid (∀ y:SW Ext wF.drew,∀ j v,(Cfg.A c).toList[j]?=some v->y.w.cell? ((⟨gc,0,none⟩:Addr).add j)=some v):=hid fun y=>Zaj ((Ext.trans xd y.ext).at HC3.out)
      have HXD:=hid xd
      clear xd
      go_wp2_with fail
      refine Zau (E:=Ext) (S:=Ext) (.one [0,1,2,3,4,5] 6 (.fin [7,8,9,10,11,12,13])) (by kernel_rfl) (by kernel_rfl) (fun _ _ d _ _ h=>by cases d<;>exact h) ?_
      rw [wpS]
      simp only [opsAt,opA,opB,opC,opD,opE,opF,opG]
      iterate 4 ((refine Zaa (fun K hK=>?_); go_simp; refine hK _ ?_; clear hK K))
      refine Zaz 74 _ rfl ⟨gc,0,none⟩ rfl (Cfg.A c) rfl (Za6 _) lc.out ?_
      (refine Zaa (fun K hK=>?_); go_simp; refine hK _ ?_; clear hK K)
      refine Zac ?_
      intro U1 hU1
      have HU1:=hid (Ext.trans HXD.out hU1)
      clear hU1 e0 lc HXD
      refine Zat fun Q1 hQ1=>?_
      go_wp2_with fail
      refine (fsget_c (HT1.out.ext HU1.out).two.fact (by rw [HD2.out.len]; exact HNM.out.1) (by rw [HD2.out.len]; have:=HNM.out.2.1; omega) (fun i s k sl st f hf=>HT1.out.two.ract.got_ok hf) (fun i s k sl st f hf=>Rck.get_right hf) (by rw [HD2.out.len]; exact HNM.out.2.1) c j).mono ?_
      rintro e U2 ⟨v,rfl,hown,xg⟩
      rw [HQX.out] at hown ⊢
      simp only at hown ⊢
      rw [HCK2.out]
      obtain ⟨a2,cp2,rfl,hbk,_⟩:=kblocks_at HFIT.out.1 hown
      clear hown
      go_wp2
      refine hQ1 _ _ xg ?_
      clear hQ1 Q1
      rw [wpS]
      simp only [opsAt,opA,opB,opC,opD,opE,opF,opG]
      iterate 7 ((refine Zaa (fun K hK=>?_); go_simp; refine hK _ ?_; clear hK K))
      refine Zac ?_
      intro U3 hU3
      have HX5:=hid (Ext.trans HX3.out (Ext.trans HU1.out (Ext.trans xg hU3)))
      have HBA2:=hid (HBA.out.ext (Ext.trans HU1.out (Ext.trans xg hU3)))
      have HBB:=hid (hbk.ext hU3)
      have HLW:=hid (HLAID.out.only (Ext.trans HXC.out (Ext.trans HXJ.out HX5.out)) (fun z=>z))
      clear hU3 xg hbk HU1
      have gg:((G:Int) != G)=false:=by simp
      go_wp2_with fail
      refine (sameblk_c l HFIT.out.1 HFIT.out.2 a1 a2 cp1 cp2 _ HBA2.out HBB.out).mono ?_
      rintro e w7 ⟨rfl,x7⟩
      have HL7:=hid (HLW.out.only x7 (fun z=>z))
      have HX7:=hid (Ext.trans HX5.out x7)
      clear x7
      go_wp2_with fail
      rw [<- HVV.out]
      refine (okind_c er w7 HL7.out).mono ?_
      rintro e w8 ⟨rfl,x8⟩
      rw [HCK2.out,HVV.out]
      have HX8:=hid (Ext.trans HX7.out x8)
      have HL8:=hid (HL7.out.only x8 (fun z=>z))
      have HC8:=hid (HX8.out.at HCJ.out)
      have cn:w8.cell? ⟨gc,3,none⟩=some (.int .i64 st):=(Zaf HC8.out).trans (by rw [Cfg.A3,HST.out])
      have kk0:((ck:Int) != ck)=false:=by simp
      clear x8
      by_cases hb0:j < 0
      ·
       go_wp2
       go_roundw
       case rel=>(try rw [HWJ.out]); exact ⟨j+1,rfl,by omega,by omega,Ext.trans HXJ.out HX8.out⟩
       case measure=>(try rw [HWJ.out]); simp [intOf]; omega
      by_cases hb1:j=(st:Int)
      ·
       subst hb1
       have b1:((st:Int) == (st:Int))=true:=by simp
       go_wp2
       go_roundw
       case rel=>(try rw [HWJ.out]); exact ⟨(st:Int)+1,rfl,by omega,by omega,Ext.trans HXJ.out HX8.out⟩
       case measure=>(try rw [HWJ.out]); simp [intOf]<;>omega
      have b1:(j == (st:Int))=false:=by rw [beq_eq_false_iff_ne]; exact hb1
      have HKN:=hid (HD2.out.sknown HGD.out HCN.out HCM.out HNM.out.1 (s:=j) (by omega) (by rw [HST.out]; omega))
      have HP8:=hid (slook_len8 HKN.out)
      obtain ⟨⟨G2,ps⟩,hlk⟩:∃ y,R1.slook c j=y:=⟨_,rfl⟩
      rw [hlk] at HP8 HLO
      have HLK:=hid hlk
      have HT8:=hid (HT0.out.ext HX8.out)
      clear hlk
      have xd:Ext w8 w8.drew:=(Ext.refl w8).drew
      have e0:∀ y:SW Ext w8.drew,y.w.cell? ⟨t,0,none⟩=some (.pointer (some ⟨r,0,none⟩)):=fun y=>(Zaf ((Ext.trans xd y.ext).at HT8.out.here)).trans rfl
      have lc:Hid (∀ y:SW Ext w8.drew,∀ j v,(Cfg.A c).toList[j]?=some v->y.w.cell? ((⟨gc,0,none⟩:Addr).add j)=some v):=hid fun y=>Zaj ((Ext.trans xd y.ext).at HC8.out)
      have HXD:=hid xd
      clear xd
      go_wp2_with fail
      refine Zau (E:=Ext) (S:=Ext) (.one [0,1,2,3,4,5] 6 (.fin [7,8,9,10,11])) (by kernel_rfl) (by kernel_rfl) (fun _ _ d _ _ h=>by cases d<;>exact h) ?_
      rw [wpS]
      simp only [opsAt,opA,opB,opC,opD,opE,opF,opG]
      iterate 4 ((refine Zaa (fun K hK=>?_); go_simp; refine hK _ ?_; clear hK K))
      refine Zaz 74 _ rfl ⟨gc,0,none⟩ rfl (Cfg.A c) rfl (Za6 _) lc.out ?_
      (refine Zaa (fun K hK=>?_); go_simp; refine hK _ ?_; clear hK K)
      refine Zac ?_
      intro U1 hU1
      have HU1:=hid (Ext.trans HXD.out hU1)
      clear hU1 e0 lc HXD
      refine Zat fun Q1 hQ1=>?_
      go_wp2_with fail
      refine (slook_c (HT8.out.ext HU1.out).two.ract c j).mono ?_
      rintro e U2 ⟨v,rfl,hlk⟩
      rw [HLK.out] at hlk ⊢
      simp only at hlk ⊢
      have xg:=hlk.ext
      obtain ⟨pa,pca,rfl,hpa⟩:=hlk.parts
      clear hlk
      go_wp2
      refine hQ1 _ _ xg ?_
      clear hQ1 Q1
      rw [wpS]
      simp only [opsAt,opA,opB,opC,opD,opE,opF,opG]
      iterate 5 ((refine Zaa (fun K hK=>?_); go_simp; refine hK _ ?_; clear hK K))
      refine Zac ?_
      intro U3 hU3
      clear cn b1
      have HX9:=hid (Ext.trans HX8.out (Ext.trans HU1.out (Ext.trans xg hU3)))
      have HP1:=hid (fun hn=>(hpa hn).imp fun g z=>⟨z.1,fun i p hi=>by
       obtain ⟨q1,b,o,d,q2,q3⟩:=z.2 i p hi
       exact ⟨hU3.cell q1,b,o,d,hU3.cell q2,q3.onlyG hU3 (fun z=>z)⟩⟩:ps≠[]->∃ g,pa=some ⟨g,0,none⟩/\PartsAt U3 g 108 ps)
      clear hU3 xg hpa HU1
      obtain ⟨wG,hwG⟩:∃ W,W=U3:=⟨_,rfl⟩
      subst hwG
      have HT1:=hid (HT0.out.ext HX9.out)
      have HC9:=hid (HX9.out.at HCJ.out)
      have xd:Ext wG wG.drew:=(Ext.refl wG).drew
      have e0:∀ y:SW Ext wG.drew,y.w.cell? ⟨t,1,none⟩=some (.pointer (some ⟨q,0,none⟩)):=fun y=>(Zaf ((Ext.trans xd y.ext).at HT1.out.here)).trans rfl
      have lc:Hid (∀ y:SW Ext wG.drew,∀ j v,(Cfg.A c).toList[j]?=some v->y.w.cell? ((⟨gc,0,none⟩:Addr).add j)=some v):=hid fun y=>Zaj ((Ext.trans xd y.ext).at HC9.out)
      have HXD:=hid xd
      clear xd
      go_wp2_with fail
      refine Zau (E:=Ext) (S:=Ext) (.one [0,1,2,3,4,5] 6 (.fin [7,8,9,10,11])) (by kernel_rfl) (by kernel_rfl) (fun _ _ d _ _ h=>by cases d<;>exact h) ?_
      rw [wpS]
      simp only [opsAt,opA,opB,opC,opD,opE,opF,opG]
      iterate 4 ((refine Zaa (fun K hK=>?_); go_simp; refine hK _ ?_; clear hK K))
      refine Zaz 74 _ rfl ⟨gc,0,none⟩ rfl (Cfg.A c) rfl (Za6 _) lc.out ?_
      (refine Zaa (fun K hK=>?_); go_simp; refine hK _ ?_; clear hK K)
      refine Zac ?_
      intro U1 hU1
      have HU1:=hid (Ext.trans HXD.out hU1)
      clear hU1 e0 lc HXD
      refine Zat fun Q1 hQ1=>?_
      go_wp2_with fail
      refine (fslook_c (HT1.out.ext HU1.out).two.fact (fun i s k sl st f hf=>HT1.out.two.ract.got_ok hf) (fun i s k sl st f hf=>Rck.get_right hf) c j HKN.out).mono ?_
      rintro e U2 ⟨v,rfl,hlk⟩
      rw [HLK.out] at hlk ⊢
      simp only at hlk ⊢
      have xg:=hlk.ext
      obtain ⟨pb,pcb,rfl,hpa⟩:=hlk.parts
      clear hlk
      go_wp2
      refine hQ1 _ _ xg ?_
      clear hQ1 Q1
      rw [wpS]
      simp only [opsAt,opA,opB,opC,opD,opE,opF,opG]
      iterate 5 ((refine Zaa (fun K hK=>?_); go_simp; refine hK _ ?_; clear hK K))
      refine Zac ?_
      intro U3 hU3
      have HXA:=hid (Ext.trans HX9.out (Ext.trans HU1.out (Ext.trans xg hU3)))
      have HP2:=hid (fun hn=>(hpa hn).imp fun g z=>⟨z.1,fun i p hi=>by
       obtain ⟨q1,b,o,d,q2,q3⟩:=z.2 i p hi
       exact ⟨hU3.cell q1,b,o,d,hU3.cell q2,q3.onlyG hU3 (fun z=>z)⟩⟩:ps≠[]->∃ g,pb=some ⟨g,0,none⟩/\PartsAt U3 g 108 ps)
      have HP3:=hid (fun hn=>(HP1.out hn).imp fun g z=>⟨z.1,fun i p hi=>by
       obtain ⟨q1,b,o,d,q2,q3⟩:=z.2 i p hi
       have xz:=Ext.trans HU1.out (Ext.trans xg hU3)
       exact ⟨xz.cell q1,b,o,d,xz.cell q2,q3.onlyG xz (fun z=>z)⟩⟩:ps≠[]->∃ g,pa=some ⟨g,0,none⟩/\PartsAt U3 g 108 ps)
      have HLA:=hid (HLAID.out.only (Ext.trans HXC.out (Ext.trans HXJ.out HXA.out)) (fun z=>z))
      clear hU3 xg hpa HU1
      have gg2:((G2:Int) != G2)=false:=by simp
      go_wp2_with fail
      refine (parts_c ps HP8.out pa pb pca pcb _ HP3.out HP2.out).mono ?_
      rintro e wH ⟨rfl,xh⟩
      have HXH:=hid (Ext.trans HXA.out xh)
      have HLH:=hid (HLA.out.only xh (fun z=>z))
      have HCH:=hid (HXH.out.at HCJ.out)
      clear xh
      go_wp2_with fail
      rw [<- HVV.out]
      refine (lostO_c er wH HLH.out).mono ?_
      rintro e w9 ⟨rfl,x9⟩
      rw [HVV.out]
      have hlo:isLostO er=true->lossO er=(j,(ps.length:Int),(kk:Int)):=fun q=>by
       rcases er with _ | er
       ·
        cases q
       ·
        have q:er.lost=true:=q
        simp only [lossO,q,if_true]
        rw [<- HCK.out]; exact HLO.out er rfl q
      obtain ⟨L,hL⟩:∃ L,lossO er=L:=⟨_,rfl⟩
      obtain ⟨lb,hlb⟩:∃ lb,isLostO er=lb:=⟨_,rfl⟩
      rw [hL,hlb] at hlo ⊢
      have HLO2:=hid hlo
      clear hL hlb hlo
      obtain ⟨W9,hW9⟩:∃ W,w9.alloc (.cells (lcells L) 127)=W:=⟨_,rfl⟩
      have HX9b:=hid (show Ext wE W9 from Ext.trans HXH.out (hW9▸x9.alloc _))
      have HN9:=hid (show W9.heap[w9.heap.size]?=some (.cells (lcells L) 127 (0,0)) from hW9▸heap_alloc_new _ _)
      have HW9:=hid hW9
      have hbs:(w9.alloc (.cells (lcells (0,0,0)) 127)).heap[w9.heap.size]?=some (.cells (lcells (0,0,0)) 127 (0,0)):=Zad
      have c1':W9.cell? ⟨gc,1,none⟩=some (.int .i64 kk):=(Zaf (HX9b.out.at HCJ.out)).trans (by rw [Cfg.A1,HCK.out])
      have HBL:=hid (built_loss3 j (ps.length:Int) (kk:Int))
      clear x9 hW9
      rcases lb with _ | _
      ·
       go_wp2_with (guard_target=wpList _ _ _ (⟨none,Op.store _ _ _,_,_,_,none⟩::_) _ _; have hb0:=hbs; clear hbs; refine Zab rfl 127 _ _ rfl w9.heap.size rfl (lcells L) _ rfl 127 (Zcq _) hb0 rfl (lcells_one _) ?_; rw [Zao,HW9.out])
       go_roundw
       case rel=>(try rw [HWJ.out]); exact ⟨j+1,rfl,by omega,by omega,Ext.trans HXJ.out HX9b.out⟩
       case measure=>(try rw [HWJ.out]); simp [intOf]; omega
      ·
       obtain rfl:L=(j,(ps.length:Int),(kk:Int)):=HLO2.out rfl
       go_wp2_with (first
        | (guard_target=wpList _ _ _ (⟨none,Op.store _ _ _,_,_,_,none⟩::_) _ _; have hb0:=hbs; clear hbs; refine Zab rfl 127 _ _ rfl w9.heap.size rfl (lcells (j,(ps.length:Int),(kk:Int))) _ rfl 127 (Zcq _) hb0 rfl (lcells_one _) ?_; rw [Zao,HW9.out])
        | (guard_target=wpList _ _ _ (⟨some _,Op.load _ _,_,_,_,some _⟩::_) _ _; refine wpListG_load_agg 127 _ rfl ⟨w9.heap.size,0,none⟩ rfl (lcells (j,(ps.length:Int),(kk:Int))) rfl (Zcq _) (Zaj HN9.out) ?_)
        | (guard_target=wpList _ _ _ (⟨some _,Op.build _ _,_,_,_,some _⟩::_) _ _; refine wpListG_build_eq 127 _ rfl (lcells (j,(ps.length:Int),(kk:Int))) rfl ?_ ?_; (simp only [List.map_toArray,List.map_cons,List.map_nil,Act.eval]; simp only [Array.getD_eq_getD_getElem?,List.getElem?_toArray,List.getElem?_cons_succ,List.getElem?_cons_zero,Option.getD_some]; exact HBL.out))
        | (guard_target=wpList _ _ _ (⟨some _,Op.binOp _ _ _ _ _,_,_,_,some _⟩::_) _ _; refine wpListG_eql .neq 127 _ _ _ rfl (lcells (j,(ps.length:Int),(kk:Int))) (lcells (j,(ps.length:Int),(kk:Int))) rfl rfl (.bool false) rfl (loss_guard _ _ _ _ _ _) (loss_neq _ _) ?_))
       go_roundw
       case rel=>(try rw [HWJ.out]); exact ⟨j+1,rfl,by omega,by omega,Ext.trans HXJ.out HX9b.out⟩
       case measure=>(try rw [HWJ.out]); simp [intOf]; omega
     ·
      have HT0:=hid (HB1.out.ext HXJ.out)
      have HL0:=hid (HLAID.out.only (Ext.trans HXC.out HXJ.out) (fun z=>z))
      go_wp2_with fail
      refine (tsame_c HT0.out HD2.out (by have:=HNM.out.2.1; omega) HNM.out.2.2.2 HL0.out).mono ?_
      rintro e g4 ⟨rfl,x4⟩
      have HE6:=hid (Ext.trans HXJ.out x4)
      clear x4
      go_wp2
      go_roundw
      case rel=>exact ⟨i+1,by go_num,by have:=HI.out; omega,by have:=HI.out; omega,R1,(HB1.out.ext HE6.out).less HTS.out HSAFE.out,HD2.out,(HK1.out.trans (Only.ext HK2.out HE6.out) fun c _ hc hs=>hc (HTS.out c hs))⟩
      case measure=>simp [intOf]; omega
  ·
   by_cases h1:i < len
   ·
    have i1:(i:Int) < (len:Int):=by omega
    have i2:((i:Int) < 20)=False:=eq_false (by omega)
    go_wp2_with fail
    refine (stripeRuns_c wr).mono ?_
    rintro e w5 ⟨rfl,x5⟩
    have HX5:=hid (Ext.trans HX.out x5)
    clear x5
    go_wp2
    go_ret
    exact ⟨rfl,HX5.out⟩
   ·
    have i1:((i:Int) < (len:Int))=False:=eq_false (by omega)
    go_wp2_with fail
    refine (stripeRuns_c wr).mono ?_
    rintro e w5 ⟨rfl,x5⟩
    have HX5:=hid (Ext.trans HX.out x5)
    clear x5
    go_wp2
    go_ret
    exact ⟨rfl,HX5.out⟩
end Go.Proofs.YtgjnnbomnoafcaaGreatDoor
namespace Go.Proofs.YtgjnnbomnoafcaaGreatDoor.stripePlays
open Go.ChangeShapes Go.WideShapes Go.ChangeAt Go.RowKit
open Go.ChangeMaps (open_string shut_string)
set_option linter.unusedVariables false
theorem laidOut:laidOutB Tryz.prog=true:=by kernel_rfl
theorem walk (a0 a1 a2 a3:Int) (a4:Option Addr) (len4 cap4:Nat) (w:World) (hg:EtLaid w) (w4:Ak11sAt w a4 len4) :
  Calls Tryz.prog 6 #[.int .i64 a0,.int .i64 a1,.int .i64 a2,.int .i64 a3,.slice a4 len4 cap4] w fun e w'=>e=.returned (.bool true)/\Below w.heap.size w w' :=
 (stripePlays_c a0 a1 a2 a3 a4 len4 cap4 w hg w4).mono fun _ _ ⟨he,hx⟩=>⟨he,hx.below⟩
set_option maxRecDepth 100000 in
theorem lifted (os:Os) (started:os.Started) (H:Type) (enc:TypeId × Value->H) :
  ReturnsInHanded {} Tryz.checked os 6 .any (fun w args=>(Rows.stripePlaysSpec.pre enc Tryz.prog Tryz.f6 [] false w args/\laidMetH Tryz.prog theLaid w)/\sizedMet enc Tryz.prog Tryz.f6 (OpenSpec.ofChange Rows.stripePlaysSpec) false w args)
   (Rows.stripePlaysSpec.post enc Tryz.prog Tryz.f6 false true false false):=by
 refine returnsInHanded_of_change_and (C:=Tryz.checked) (X:=fun w _=>laidMetH Tryz.prog theLaid w) (fun _ _ _ hh h=>h.of_heap hh) hOwn started (by kernel_rfl) Tryz.func6
  (ChangeSpec.witness_at (enc:=enc) (C:=Tryz.checked) (os:=os) (X:=fun w _=>laidMetH Tryz.prog theLaid w) false (laidWorld os) #[.int .i64 0,.int .i64 0,.int .i64 0,.int .i64 0,.slice none 0 0] 8 rfl (by kernel_rfl) (by kernel_rfl) (by kernel_rfl) (by kernel_rfl) (by kernel_rfl) (laidWorld_met os _)) ?_
 intro W base args ds gs before hval0 hW _ _ hL _
 have hval:∀ (j:Nat) t v,Tryz.f6.params[j]?=some t->args[j]?=some v->Value.okWide Tryz.prog W .any base t v:=hval0
 have hW':=hW
 obtain ⟨p,q,hA0,hV,rfl,hfz,hnd⟩:=hW
 have hA:DataW.TrodAll enc Tryz.prog W 0 (fun _=>true) true Tryz.f6.params.toList args.toList ds p:=hA0
 rw [Tryz.params6] at hA hval
 obtain ⟨v0,vs0,d0,ds0,p0,q0,hargs,rfl,rfl,h0,r0⟩:=trodAll_cons hA
 obtain ⟨v1,vs1,d1,ds1,p1,q1,rfl,rfl,rfl,h1,r1⟩:=trodAll_cons r0
 obtain ⟨v2,vs2,d2,ds2,p2,q2,rfl,rfl,rfl,h2,r2⟩:=trodAll_cons r1
 obtain ⟨v3,vs3,d3,ds3,p3,q3,rfl,rfl,rfl,h3,r3⟩:=trodAll_cons r2
 obtain ⟨v4,vs4,d4,ds4,p4,q4,rfl,rfl,rfl,h4,r4⟩:=trodAll_cons r3
 obtain ⟨rfl,rfl,rfl⟩:=trodAll_nil r4
 obtain rfl:args=#[v0,v1,v2,v3,v4]:=by cases args; simp_all
 obtain ⟨rfl,rfl⟩:=trodVars_none hV
 obtain ⟨a0,rfl,rfl,rfl,w0⟩:=open_int Tryz.underlying3 (hval 0 3 v0 rfl rfl) h0
 obtain ⟨a1,rfl,rfl,rfl,w1⟩:=open_int Tryz.underlying3 (hval 1 3 v1 rfl rfl) h1
 obtain ⟨a2,rfl,rfl,rfl,w2⟩:=open_int Tryz.underlying3 (hval 2 3 v2 rfl rfl) h2
 obtain ⟨a3,rfl,rfl,rfl,w3⟩:=open_int Tryz.underlying3 (hval 3 3 v3 rfl rfl) h3
 obtain ⟨a4,len4,cap4,rfl⟩:=okWide_slice Tryz.underlying110 (hval 4 110 v4 rfl rfl)
 have k4:=h4
 have lt4:∀ x∈p4,x.block < W.heap.size:=by obtain ⟨m,hm⟩:=k4; exact DataW.trod_lt m _ _ _ hm
 have w4:Ak11sAt W a4 len4:=by
  obtain ⟨fuel,hf⟩:=h4
  exact open_Ak11s hf
 have hg:=etLaid_of hL
 clear hA0 hval0
 simp only [List.append_nil] at hW'
 refine (walk a0 a1 a2 a3 a4 len4 cap4 W hg w4).mono fun e W' ⟨he,bel⟩=>?_
 subst he
 exact ⟨_,rfl,_,_,_,[],_,[],hW',trodAll_mk1 (shut_bool Tryz.underlying4 _),(trodAll_cons_mk (shut_int Tryz.underlying3 w0) (trodAll_cons_mk (shut_int Tryz.underlying3 w1) (trodAll_cons_mk (shut_int Tryz.underlying3 w2) (trodAll_cons_mk (shut_int Tryz.underlying3 w3) (trodAll_cons_mk (Below.trod laidOut (by kernel_rfl) (of_decide_eq_true (by kernel_rfl)) k4 bel lt4) trodAll_mk0))))),rfl,bel.frame _,fun h=>by cases h⟩
theorem over:Rows.StripePlaysSaid :=
 OpenClaim.holds_of_wide 6 Tryz.f6 rfl rfl rfl rfl rfl rfl rfl ⟨rfl,rfl,rfl,rfl,rfl⟩ rfl rfl rfl rfl rfl (by kernel_rfl) Tryz.func6 (by kernel_rfl)
  (of_decide_eq_true (by kernel_rfl)) (by unfold Func.isWrapper; first | (rw [if_pos (by decide +kernel)]; kernel_rfl) | (rw [if_neg (by decide +kernel)]; exact ⟨rfl,rfl⟩))
  (fun os started H enc _=>lifted os started H enc)
theorem proved:Rows.StripePlaysCardSaid :=
 Claim7.holds_tied_plain_at .later [] [.handle] true (true, "faf3cd5ff00875a54f6a608788494961345aefece9ca848031828fc03b572bca") true
  over (fun _ h=>by cases h) (by kernel_rfl) (fun _ h=>by cases h) stripePlays_row_tie rfl ⟨rfl,rfl⟩ (by kernel_rfl) rfl
  (fun f fn hf hfn=>by
   obtain rfl:f=6:=Option.some.inj ((show Tryz.prog.funcNamed "stave/stavelaw11.StripePlays"=some 6 by kernel_rfl).symm.trans hf) |>.symm
   obtain rfl:fn=Tryz.f6:=(Option.some.inj (Tryz.func6.symm.trans hfn)).symm
   exact ⟨by kernel_rfl,fun j t ht=>by
    rw [Tryz.params6] at ht
    rcases j with _ | _ | _ | _ | _ | j
    ·
     simp at ht; subst ht; kernel_rfl
    ·
     simp at ht; subst ht; kernel_rfl
    ·
     simp at ht; subst ht; kernel_rfl
    ·
     simp at ht; subst ht; kernel_rfl
    ·
     simp at ht; subst ht; kernel_rfl
    ·
     simp at ht⟩)
  (by kernel_rfl)
#print axioms proved
end Go.Proofs.YtgjnnbomnoafcaaGreatDoor.stripePlays
