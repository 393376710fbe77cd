/- The statement MendSame, as its tied card: for every input the call of stavelaw13's MendSame answers true, and its arguments read behind it as they read before. No condition of our own. -/
/- Texts of one proof, joined: WMendSame, LawMendSame. -/
import Derived.Test.YtkipjmbplmdaaaaGreatDoorMAE
import Derived.Test.YtkipjmbplmdaaaaGreatDoorMAI
import Derived.Test.YtkipjmbplmdaaaaGreatDoorMW
import Derived.Test.YtkipjmbplmdaaaaGreatDoorMA
import Derived.Test.YtkipjmbplmdaaaaGreatDoorMC
import Derived.Test.YtkipjmbplmdaaaaGreatDoorMP
import Derived.Test.YtkipjmbplmdaaaaGreatDoorMF
import Derived.Deep.DeepCutAuto
import Derived.Deep.CutBlock
import Derived.Test.YtkipjmbplmdaaaaGreatDoorCards
import Derived.Test.YtkipjmbplmdaaaaGreatDoorTie
import Derived.WalkKit
import Derived.ProofKit
import Derived.OpenShut
import Derived.ShutString
import Derived.ChangeOld
import Derived.Below
import Derived.SevenTiedAt
set_option linter.unusedVariables false
set_option linter.unusedSimpArgs false
namespace Go.Proofs.YtkipjmbplmdaaaaGreatDoor
set_option linter.unusedVariables false
open Go Go.RowKit
attribute [local irreducible] wpSQ
theorem okind_c (o:Option Err) (w:World) (hg:EtLaid w):Calls Tryz.prog 25 #[oErr o] w fun e w'=>e=.returned (.int .i64 (okind o))/\Ext w w':=by
 rcases o with _ | er
 ·
  exact kind_nil w
 ·
  exact kind_err er w hg
theorem wr_add (b o y:Nat):(⟨b,o,none⟩:Addr).add y=⟨b,o+y,none⟩:=by unfold Addr.add; split<;>simp_all
set_option maxRecDepth 100000 in
set_option maxHeartbeats 4000000 in
theorem mendSame_c (k n stripes slots:Int) (wa:Option Addr) (wl wcap:Nat) (w:World) (hg:EtLaid w) (hwr:WearsAt w wa wl) :
  Calls Tryz.prog 4 #[.int .i64 k,.int .i64 n,.int .i64 stripes,.int .i64 slots,.slice wa wl wcap] w fun e w'=>e=.returned (.bool true)/\Ext w w':=by
 have HWR:=hid hwr
 clear hwr
 have HG:=hid hg
 have hzc:=Zbz
 have HCS:=hid Cfg.A_size
 clear hg
 go_enter Tryz.func4,Tryz.ntmps4
 go_wp2_with fail
 refine (kconfig_c k n stripes slots _).mono ?_
 rintro e w1 ⟨rfl,x1⟩
 have HGD:=hid (show (keepCfg k n stripes slots).Good from keepCfg_good k n stripes slots)
 have HK4:=hid (show (keepCfg k n stripes slots).k<=4 from (within_bd k 1 4 (by omega)).2)
 have HN6:=hid (show (keepCfg k n stripes slots).n<=6 from (within_bd n (within k 1 4) 6 (by have:=(within_bd k 1 4 (by omega)).2; omega)).2)
 have HS6:=hid (show (keepCfg k n stripes slots).stripes<=6 from (within_bd stripes 1 6 (by omega)).2)
 generalize keepCfg k n stripes slots=c at *
 obtain ⟨ss,hss⟩:∃ ss:Nat,c.stripes=ss:=⟨c.stripes.toNat,by have:=HGD.out.st0; omega⟩
 have HST:=hid hss
 have HSTT:=hid (show c.stripes.toNat=ss by omega)
 have ss1:1<=ss:=by have:=HGD.out.st0; omega
 have ss6:ss<=6:=by have:=HS6.out; omega
 clear hss
 obtain ⟨W1,hW1⟩:∃ W,w1.alloc (.cells (Cfg.A c) 23)=W:=⟨_,rfl⟩
 have X1:=hid (show Ext w W1 from hW1▸x1.alloc _)
 have HC:=hid (show W1.heap[w1.heap.size]?=some (.cells (Cfg.A c) 23 (0,0)) from hW1▸heap_alloc_new _ _)
 have hbs:(w1.alloc (.cells (Cfg.A Cfg.zero) 23)).heap[w1.heap.size]?=some (.cells (Cfg.A Cfg.zero) 23 (0,0)):=Zad
 clear x1
 have HW1:=hid hW1
 clear hW1
 obtain ⟨m,hm,m1,m128⟩:=sectors_nat c HGD.out
 obtain ⟨nn,hn⟩:∃ nn:Nat,c.n=nn:=⟨c.n.toNat,by have:=HGD.out.k0; have:=HGD.out.k1; omega⟩
 obtain ⟨kk,hk⟩:∃ kk:Nat,c.k=kk:=⟨c.k.toNat,by have:=HGD.out.k0; omega⟩
 have HNT:=hid (show c.n.toNat=nn by omega)
 have HKT:=hid (show c.k.toNat=kk by omega)
 have n1:1<=nn:=by have:=HGD.out.k0; have:=HGD.out.k1; omega
 have n8:nn<=6:=by have:=HN6.out; omega
 have k1:1<=kk:=by have:=HGD.out.k0; omega
 have k4:kk<=4:=by have:=HK4.out; omega
 have HKN:=hid (show kk<=nn by have:=HGD.out.k1; omega)
 have HM:=hid hm; have HN:=hid hn; have HK:=hid hk
 obtain ⟨R1,R2,e1,e2,h2,v2⟩:=VH.start HGD.out HK4.out HN6.out (m:=m) (by rw [HM.out]; exact Int.le_refl _)
 rw [HNT.out] at e1
 have HV2:=hid h2; have HVV2:=hid v2
 have HE1:=hid e1; have HE2:=hid e2
 clear hm hn hk e1 e2 h2 v2
 go_wp2_with (first
  | (guard_target=wpList _ _ _ (⟨none,Op.store _ _ _,_,_,_,none⟩::_) _ _; have hb0:=hbs; clear hbs; refine Zaa rfl 23 _ _ rfl w1.heap.size rfl (Cfg.A c) _ rfl 23 ?_ hb0 ?_ ?_ ?_; (rw [HCS.out]; exact aggCfg); (rw [HCS.out,HCS.out]); exact Cfg.A_one _; rw [Zai,HW1.out])
  | (guard_target=wpList _ _ _ (⟨some _,Op.load _ _,_,_,_,none⟩::_) _ _; refine Zac rfl 23 _ rfl ⟨w1.heap.size,0,none⟩ rfl (Cfg.A c) (Zap c) (Zae HC.out) ?_))
 have HLT:=hid (lt_of_block HC.out)
 generalize w1.heap.size=gc at *
 refine (mopened_c c HGD.out nn m HN.out HM.out m1 m128 HE1.out HE2.out W1).mono ?_
 rintro e w2 ⟨r,g,T,ho⟩
 obtain rfl:=ho.ret
 have HX2:=hid (show VX w w2 T r R2 gc c g ⟨c,1,false⟩ from ⟨⟨ho.ve.rack,Ext.trans X1.out ho.ve.ext,fun b hb=>ho.ve.low b (Nat.lt_of_lt_of_le hb X1.out.size)⟩,ho.ve.ext.at HC.out,ho.ve.low gc HLT.out,ho.vol,ho.gT,Nat.le_trans X1.out.size ho.new,fun q=>by have:=ho.new; have:=HLT.out; omega⟩)
 clear ho HE1 HE2 HC X1 HLT
 have HVI2:=hid (VI.new HGD.out)
 have hzw:=zero_wr
 clear HVV2
 go_wp2_with fail
 go_loopw [14] (fun t wq=>∃ i:Nat,t=.int .i64 i/\i<=ss/\∃ R S j f,VX w wq S r R gc c g ⟨c,1+(i:Int),false⟩/\VH R c m true j f/\VI c (1+(i:Int)) j f) (fun t _=>ss - (intOf t).toNat)
 case atStart=>exact ⟨0,rfl,by omega,R2,T,_,_,HX2.out,HV2.out,HVI2.out⟩
 case round =>
  clear HX2 HV2 HVI2
  obtain ⟨i,rfl,hi,R,S,j,f,hx,hv,hvi⟩:=hrel
  have HX:=hid hx; have HV:=hid hv; have HVI:=hid hvi
  have q3:wr.cell? ⟨gc,3,none⟩=some (.int .i64 ss):=(Zag hx.cfg).trans ((Cfg.A3 c).trans (by rw [HST.out]))
  clear hx hv hvi
  by_cases hlt:i < ss
  ·
   have i0:(0:Int)<=(i:Int):=by omega
   have i1:(i:Int) < (ss:Int):=by omega
   obtain ⟨la,hla⟩:∃ l,blocksOf kk (i:Int)=l:=⟨_,rfl⟩
   have La8:=hid (hla▸blocksOf_108 kk (i:Int))
   have LaB:=hid (hla▸blocksOf_bytes kk (i:Int))
   have LaN:=hid (show la.length<=8 by rw [<- hla,Zch]; omega)
   have La0:=hid (show la≠[] from hla▸(by intro q; have:=congrArg List.length q; rw [Zch] at this; simp at this; omega))
   have LaF:=hid (show Cd.Blocks c.k.toNat 108 la by rw [HKT.out,<- hla]; exact blocksOf_Blocks kk (i:Int))
   have HLa:=hid hla
   clear hla
   have ck:wr.cell? ⟨gc,1,none⟩=some (.int .i64 kk):=HX.out.c1.trans (by rw [HK.out])
   go_wp2_with fail
   refine (kblocks_c kk (by omega) i wr).mono ?_
   rintro e w3 ⟨v,rfl,hown,x3⟩
   rw [HLa.out] at hown
   obtain ⟨a3,c3,rfl,hbk,hab⟩:=kblocks_at La8.out hown
   obtain ⟨S3,hS⟩:∃ S',wideS S wr w3=S':=⟨_,rfl⟩
   have HX3:=hid (hS▸HX.out.wide x3)
   have HSS3:=hid (show ∀ b,S b->S3 b from fun b hb=>hS▸.inl hb)
   have HE3:=hid x3
   have HB3:=hid hbk
   have HP3:=hid (show ∀ b,a3=some ⟨b,0,none⟩->S3 b/\b≠g/\w.heap.size<=b from fun b q=>⟨hS▸HX.out.ve.blk x3 hbk La0.out hab b q,by have:=hab b q; have:=lt_of_block HX.out.vol; omega,Nat.le_trans HX.out.ext.size (hab b q)⟩)
   clear hown x3 hbk hab hS ck
   obtain ⟨sl,R',hcm,hv,hvi⟩:=HV.out.commit_on HVI.out HM.out.symm HK4.out HN6.out (by omega) (s:=i) (by rw [HSTT.out]; exact hlt) LaF.out
   have HCM:=hid hcm; have HV':=hid hv; have HVI':=hid hvi
   clear hcm hv hvi q3
   go_wp2_with fail
   refine (vcommit_c HX3.out.rack HX3.out.vol HX3.out.gS (show (0:Int)<=1+(i:Int) by omega) i la La8.out LaB.out a3 c3 HB3.out (fun b q=>⟨(HP3.out b q).1,(HP3.out b q).2.1⟩)).mono ?_
   rintro e w6 h6
   rw [HCM.out] at h6
   obtain rfl:=h6.ret
   have HX6:=hid (show VX w w6 S3 r R' gc c g ⟨c,1+(i:Int)+1,false⟩ from HX3.out.commit h6)
   simp only [oErr]
   clear h6 HX3 HB3 HP3 HCM HSS3 HE3 HX HV HVI
   go_wp2
   go_roundw
   case rel=>exact ⟨i+1,by go_num,by omega,R',S3,_,_,by rw [show 1+((i+1:Nat):Int)=1+(i:Int)+1 by omega]; exact HX6.out,HV'.out,by rw [show 1+((i+1:Nat):Int)=1+(i:Int)+1 by omega]; exact HVI'.out⟩
   case measure=>simp [intOf]; omega
  ·
   obtain rfl:ss=i:=by omega
   have i1:¬(ss:Int) < (ss:Int):=by omega
   obtain ⟨cur,hcur⟩:∃ cur:Int,1+(ss:Int)=cur:=⟨_,rfl⟩
   have HCU:=hid (show cur<=7 by omega)
   rw [hcur] at HX HVI
   have HMW:=hid (MWr.start HV.out HVI.out HM.out.symm)
   clear hcur HV hlt hi
   go_upto_block 2 with fail
   clear q3
   go_cut [15] (fun t wq=>(∃ i:Int,t=.int .i64 i)/\∃ R S,VX w wq S r R gc c g ⟨c,cur,false⟩/\MWr R c m j f)
   case first =>
    go_wp2_with fail
    go_loopw [15] (fun t wq=>∃ i:Nat,t=.int .i64 i/\i<=wl/\i<=8/\∃ R S,VX w wq S r R gc c g ⟨c,cur,false⟩/\MWr R c m j f) (fun t _=>8 - (intOf t).toNat)
    case atStart=>exact ⟨0,rfl,by omega,by omega,R,S,HX.out,HMW.out⟩
    case round =>
     clear HX HMW
     obtain ⟨i,rfl,hi,hi8,R,S,hx,hmw⟩:=hrel
     have HX:=hid hx; have HMW:=hid hmw
     clear hx hmw
     by_cases hio:i < wl
     ·
      obtain ⟨b,off,kd,d,s,q,x,ba,bl,bc,rfl,hbl,x0,x1,hcl⟩:=HWR.out i hio
      have i0:(0:Int)<=(i:Int):=by omega
      have i1:(i:Int) < (wl:Int):=by omega
      by_cases hit:i < 8
      ·
       have i2:(i:Int) < 8:=by omega
       have HCL:=hid (show ∀ y v,(WrA kd d s q x ba bl bc).toList[y]?=some v->wr.cell? ((⟨b,off+i*6,none⟩:Addr).add y)=some v from fun y v hv=>by
        rw [wr_add]
        exact Ext.cell HX.out.ext (hcl y v hv))
       obtain ⟨xx,rfl⟩:=Int.eq_ofNat_of_zero_le x0
       have HXX:=hid (show xx < 4294967296 by omega)
       clear x1 x0
       obtain ⟨W1,hW1⟩:∃ W,wr.alloc (.cells (WrA kd d s q xx ba bl bc) 53)=W:=⟨_,rfl⟩
       have x1':Ext wr W1:=hW1▸(Ext.refl wr).alloc _
       have HCB:=hid (show W1.heap[wr.heap.size]?=some (.cells (WrA kd d s q xx ba bl bc) 53 (0,0)) from hW1▸heap_alloc_new _ _)
       have hbs:(wr.alloc (.cells (WrA 0 0 0 0 0 none 0 0) 53)).heap[wr.heap.size]?=some (.cells (WrA 0 0 0 0 0 none 0 0) 53 (0,0)):=Zad
       have HW1':=hid hW1
       have HX1:=hid (HX.out.more x1')
       have hf0:W1.cell? ⟨wr.heap.size,0,none⟩=some (.int .i64 kd):=(Zag HCB.out).trans rfl
       have hf1:W1.cell? ⟨wr.heap.size,1,none⟩=some (.int .i64 d):=(Zag HCB.out).trans rfl
       have hf2:W1.cell? ⟨wr.heap.size,2,none⟩=some (.int .i64 s):=(Zag HCB.out).trans rfl
       have hf3:W1.cell? ⟨wr.heap.size,3,none⟩=some (.int .i64 q):=(Zag HCB.out).trans rfl
       have hf4:W1.cell? ⟨wr.heap.size,4,none⟩=some (.int .u32 xx):=(Zag HCB.out).trans rfl
       have c2:W1.cell? ⟨gc,2,none⟩=some (.int .i64 nn):=HX1.out.c2.trans (by rw [HN.out])
       have HF2:=hid hf2; have HF3:=hid hf3; have HF4:=hid hf4
       have hw1:wrap64 ((nn:Int) - 1)=(nn:Int) - 1:=mw64 (by omega) (by omega)
       have hw2:IntKind.i64.wrap ((nn:Int) - 1)=(nn:Int) - 1:=mi64w (by omega) (by omega)
       clear hcl hW1 x1' HX hbl hf2 hf3 hf4
       go_wp2_with (first
        | (guard_target=wpList _ _ _ (⟨some _,Op.load _ _,_,_,_,none⟩::_) _ _; refine Zac rfl 53 _ rfl ⟨b,off+i*6,none⟩ rfl (WrA kd d s q xx ba bl bc) aggWr HCL.out ?_)
        | (guard_target=wpList _ _ _ (⟨none,Op.store _ _ _,_,_,_,none⟩::_) _ _; have hb0:=hbs; clear hbs; refine Zaa rfl 53 _ _ rfl wr.heap.size rfl (WrA kd d s q xx ba bl bc) _ rfl 53 aggWr hb0 rfl (WrA_one _ _ _ _ _ _ _ _) ?_; rw [Zai,HW1'.out]))
       refine (within_c d 0 ((nn:Int) - 1) _ (by omega) (by omega) (by omega)).mono ?_
       rintro e _ ⟨rfl,rfl⟩
       obtain ⟨z0,z1⟩:=within_bd d 0 ((nn:Int) - 1) (by omega)
       obtain ⟨dd,hdd⟩:=Int.eq_ofNat_of_zero_le z0
       rw [hdd]
       have HDD:=hid (show dd < c.n.toNat by rw [HNT.out]; omega)
       clear hdd z0 z1 hw1 hw2 c2 hf1 HCL HW1' HCB
       rcases hk1:(kd == (1:Int)) with _ | _
       ·
        rcases hk2:(kd == (2:Int)) with _ | _
        ·
         obtain ⟨z0,z1⟩:=within_bd s 0 ((m:Int) - 1) (by omega)
         obtain ⟨sx,hsx⟩:=Int.eq_ofNat_of_zero_le z0
         have HSX:=hid (show sx < m by omega)
         obtain ⟨y0,y1⟩:=within_bd q 0 100 (by omega)
         obtain ⟨ax,hax⟩:=Int.eq_ofNat_of_zero_le y0
         have HAX:=hid (show ax<=100 by omega)
         have xd:Ext W1 W1.drew:=(Ext.refl W1).drew
         have HXD:=hid xd
         have cf2:∀ y:SW Ext W1.drew,y.w.cell? ⟨wr.heap.size,2,none⟩=some (.int .i64 s):=fun y=>y.ext.cell (xd.cell HF2.out)
         have cf3:∀ y:SW Ext W1.drew,y.w.cell? ⟨wr.heap.size,3,none⟩=some (.int .i64 q):=fun y=>y.ext.cell (xd.cell HF3.out)
         have cf4:∀ y:SW Ext W1.drew,y.w.cell? ⟨wr.heap.size,4,none⟩=some (.int .u32 xx):=fun y=>y.ext.cell (xd.cell HF4.out)
         have wi:Hid (∀ y:SW Ext W1.drew,Calls Tryz.prog 9 #[.int .i64 s,.int .i64 0,.int .i64 ((m:Int) - 1)] y.w fun e w''=>e=.returned (.int .i64 (sx:Int))/\Ext y.w w''):=hid fun y=>(within_c s 0 ((m:Int) - 1) y.w (by omega) (by omega) (by omega)).mono fun e w'' q=>⟨by rw [q.1,hsx],q.2▸Ext.refl _⟩
         have wj:Hid (∀ y:SW Ext W1.drew,Calls Tryz.prog 9 #[.int .i64 q,.int .i64 0,.int .i64 100] y.w fun e w''=>e=.returned (.int .i64 (ax:Int))/\Ext y.w w''):=hid fun y=>(within_c q 0 100 y.w (by omega) (by omega) (by omega)).mono fun e w'' q=>⟨by rw [q.1,hax],q.2▸Ext.refl _⟩
         have sc:Hid (∀ y:SW Ext W1.drew,Calls Tryz.prog 23 #[.pointer (some ⟨r,0,none⟩)] y.w fun e w''=>e=.returned (.int .i64 (m:Int))/\Ext y.w w''):=hid fun y=>(at_sectors (HX1.out.more (Ext.trans HXD.out y.ext)).rack).mono fun e w'' q=>⟨by rw [q.1,HMW.out.live.sectors],q.2▸Ext.refl _⟩
         have hw1:wrap64 ((m:Int) - 1)=(m:Int) - 1:=mw64 (by omega) (by omega)
         have hw2:IntKind.i64.wrap ((m:Int) - 1)=(m:Int) - 1:=mi64w (by omega) (by omega)
         clear xd z0 z1 y0 y1 hsx hax
         go_wp2_with fail
         refine Zaq (S:=Ext) 13 (.fin [0,1,2,3,4,5,6,7,8,9,10,11,12]) (by kernel_rfl) (by kernel_rfl) (fun _ _ d _ _ h=>by cases d<;>exact h) ?_
         rw [wpS]
         simp only [opsAt,opA,opB,opC,opD,opE,opF,opG]
         iterate 5 ((refine Zab (fun K hK=>?_); go_simp; refine hK _ ?_; clear hK K))
         (refine Zab (fun K hK=>?_); go_simp; (apply Exists.intro; refine ⟨fun x=>?_,hK _ ?_⟩; (exact sc.out x); clear hK K))
         (refine Zab (fun K hK=>?_); go_simp; refine hK _ ?_; clear hK K)
         (refine Zab (fun K hK=>?_); go_simp; (apply Exists.intro; refine ⟨fun x=>?_,hK _ ?_⟩; (exact wi.out x); clear hK K))
         iterate 2 ((refine Zab (fun K hK=>?_); go_simp; refine hK _ ?_; clear hK K))
         (refine Zab (fun K hK=>?_); go_simp; (apply Exists.intro; refine ⟨fun x=>?_,hK _ ?_⟩; (exact wj.out x); clear hK K))
         iterate 2 ((refine Zab (fun K hK=>?_); go_simp; refine hK _ ?_; clear hK K))
         refine Zah ?_
         intro V3 hV3
         have HX3:=hid (HX1.out.more (Ext.trans HXD.out hV3))
         have HMW':=hid (HMW.out.rot HM.out.symm (d:=dd) (q:=sx) (A:=ax) (X:=xx) HDD.out HSX.out (by have:=HAX.out; omega) HXX.out)
         clear cf2 cf3 cf4 wi wj sc hV3 hw1 hw2 HX1 HMW
         go_wp2_with fail
         refine (at_rot HX3.out.rack dd sx ax xx HXX.out).mono ?_
         rintro e w11 ⟨rfl,h11,k11⟩
         have HX9:=hid (HX3.out.keep h11 k11)
         generalize R.rotOk dd sx ax xx=bb at *
         clear h11 k11 HX3
         go_wp2
         first
         | exact ⟨⟨i+1,by go_num,by omega,by omega,_,S,HX9.out,HMW'.out⟩,by simp [intOf]; omega⟩
         | (go_roundw; (case rel=>exact ⟨i+1,by go_num,by omega,by omega,_,S,HX9.out,HMW'.out⟩); (case measure=>simp [intOf]; omega))
        ·
         have HMW':=hid (HMW.out.replace HDD.out)
         go_wp2_with fail
         refine (at_replace HX1.out.rack dd).mono ?_
         rintro e w11 ⟨rfl,h11,k11⟩
         have HX9:=hid (HX1.out.keep h11 k11)
         clear h11 k11 HX1 HMW
         go_wp2
         first
         | exact ⟨⟨i+1,by go_num,by omega,by omega,_,S,HX9.out,HMW'.out⟩,by simp [intOf]; omega⟩
         | (go_roundw; (case rel=>exact ⟨i+1,by go_num,by omega,by omega,_,S,HX9.out,HMW'.out⟩); (case measure=>simp [intOf]; omega))
       ·
        have HMW':=hid (HMW.out.die HDD.out)
        go_wp2_with fail
        refine (at_die HX1.out.rack dd).mono ?_
        rintro e w11 ⟨rfl,h11,k11⟩
        have HX9:=hid (HX1.out.keep h11 k11)
        clear h11 k11 HX1 HMW
        go_wp2
        first
        | exact ⟨⟨i+1,by go_num,by omega,by omega,_,S,HX9.out,HMW'.out⟩,by simp [intOf]; omega⟩
        | (go_roundw; (case rel=>exact ⟨i+1,by go_num,by omega,by omega,_,S,HX9.out,HMW'.out⟩); (case measure=>simp [intOf]; omega))
      ·
       have i2:¬(i:Int) < 8:=by omega
       go_wp2_with fail
       go_meet
       case rel=>exact ⟨⟨_,rfl⟩,R,S,HX.out,HMW.out⟩
     ·
      have i1:¬(i:Int) < (wl:Int):=by omega
      go_wp2_with fail
      go_meet
      case rel=>exact ⟨⟨_,rfl⟩,R,S,HX.out,HMW.out⟩
   case rest =>
    clear HX HMW
    obtain ⟨⟨i0,rfl⟩,R,S,hx,hmw⟩:=hcut
    have HX:=hid hx
    obtain ⟨TT,hmh,hshape⟩:=MHd.start hmw HVI.out
    have HMH:=hid hmh
    have HSH:=hid (show ∀ t,t < ss->(∀ b∈(TT t).1,b.length=108)/\(TT t).1.length<=4 from fun t ht=>by
     obtain ⟨a1,a2⟩:=hshape t (by rw [HSTT.out]; exact ht)
     exact ⟨a1,by rw [HKT.out] at a2; omega⟩)
    clear hx hmw hmh hshape
    generalize hwc:wc=WL at *
    clear hwc
    have HHO:=hid (HadOwn.start WL TT)
    go_wp2_with fail
    go_loopw [20,19,18] (fun t hv kv wq=>∃ s:Nat,t=.int .i64 s/\s<=ss/\HadOwn WL wq hv kv TT s s) (fun t _ _ _=>ss - (intOf t).toNat)
    case atStart=>exact ⟨0,rfl,by omega,HHO.out⟩
    case round =>
     clear HHO
     obtain ⟨s,rfl,hs,hho⟩:=hrel
     have HHO:=hid hho
     have q3:wr.cell? ⟨gc,3,none⟩=some (.int .i64 ss):=Ext.cell hho.ext ((Zag HX.out.cfg).trans ((Cfg.A3 c).trans (by rw [HST.out])))
     clear hho
     by_cases hs3:s < ss
     ·
      have s1:(s:Int) < (ss:Int):=by omega
      have s0:(0:Int)<=(s:Int):=by omega
      have hrd:=HMH.out.read HVI.out HK4.out HN6.out (t:=s) (by rw [HSTT.out]; exact hs3) cur
      have HXr:=hid (HX.out.more HHO.out.ext)
      have L8:=hid (HSH.out s hs3).1
      obtain ⟨oe,hoe⟩:∃ oe,(TT s).2.2.map (Err.fault sVRead (s:Int))=oe:=⟨_,rfl⟩
      rw [hoe] at hrd
      have HRD:=hid hrd
      have HKD:=hid (show okind oe=tellK TT s from hoe▸rfl)
      clear hrd hoe
      go_wp2_with fail
      refine (vread_c HXr.out.rack HXr.out.vol s).mono ?_
      rintro e w14 ⟨v,rfl,hown,x14⟩
      rw [HRD.out] at hown ⊢
      simp only at hown ⊢
      obtain ⟨a14,c14,rfl,hbk,hab⟩:=kblocks_at L8.out hown
      obtain ⟨v2,w15,hap,hh2⟩:=(HHO.out.more x14).addH (by omega) a14 c14 hbk (fun b e=>⟨Nat.le_trans HHO.out.ext.size (hab b e),fun z=>by have:=HHO.out.lowH b z; have:=hab b e; omega,fun z=>by have:=HHO.out.lowK b z; have:=hab b e; omega⟩)
      have HAP:=hid hap
      have HH2:=hid hh2
      clear hap hh2 hown hbk hab x14 HHO HXr q3
      go_wp2_with (at_builtin; refine Zam rfl _ _ _ rfl _ _ _ _ rfl rfl HAP.out ?_)
      refine (okind_c oe w15 (HG.out.only (Ext.trans HX.out.ext HH2.out.ext) (fun x=>x))).mono ?_
      rintro e w16 ⟨rfl,x16⟩
      rw [HKD.out]
      obtain ⟨v3,w17,hap,hh3⟩:=(HH2.out.more x16).addK (by omega)
      have HAQ:=hid hap
      have HH3:=hid hh3
      clear hap hh3 x16 HH2 HAP
      go_wp2_with (at_builtin; refine Zam rfl _ _ _ rfl _ _ _ _ rfl rfl HAQ.out ?_)
      go_roundw
      case rel=>exact ⟨s+1,by go_num,by omega,HH3.out⟩
      case measure=>simp [intOf]; omega
     ·
      obtain rfl:ss=s:=by omega
      have s1:¬(ss:Int) < (ss:Int):=by omega
      obtain ⟨hb,kb,hc,kc,A,C,e1,e2,hat⟩:=HHO.out.at (by omega)
      obtain ⟨S1,hS1⟩:∃ S',wideS S WL wr=S':=⟨_,rfl⟩
      have HX1:=hid (hS1▸HX.out.wide HHO.out.ext)
      have HAT:=hid (hat.mono (S':=fun b=>S1 b/\b≠g) fun b hb=>⟨hS1▸.inr hb,by have:=lt_of_block HX.out.vol; omega⟩)
      subst e1
      subst e2
      clear hat hS1 HX HHO hs3 hs
      go_wp2_with fail
      refine (mnew_c g wr).mono ?_
      rintro e w8 ⟨p,rfl,hp,hm,x8⟩
      obtain ⟨S8,hS⟩:∃ S',wideS S1 wr w8=S':=⟨_,rfl⟩
      have HX8:=hid (hS▸MX.start HX1.out x8 hm hp)
      have hlow:∀ b,S1 b->b≠p:=fun b hb=>by have:=HX1.out.ve.rack.there b hb; omega
      have HAT8:=hid ((HAT.out.ext x8).mono (S':=fun b=>S8 b/\b≠g/\b≠p) fun b hb=>⟨hS▸.inl hb.1,hb.2,hlow b hb.1⟩)
      obtain ⟨gn,hgn⟩:∃ gn:Nat,1+c.slots.toNat+c.stripes.toNat=gn:=⟨_,rfl⟩
      have HGT:=hid hgn
      have HGN:=hid (show c.groups=(gn:Int) by have:=HGD.out.sl0; have:=HGD.out.st0; unfold Cfg.groups; omega)
      have HG12:=hid (show 1<=gn/\gn<=11 by have:=HGD.out.sl1; have:=HSTT.out; omega)
      have HW1:=hid (show wrap64 (2*(gn:Int))=2*(gn:Int) from mw64 (by omega) (by have:=HG12.out; omega))
      have HW2:=hid (show IntKind.i64.wrap (2*(gn:Int))=2*(gn:Int) from mi64w (by omega) (by have:=HG12.out; omega))
      clear hgn hp hm x8 hS hlow HX1 HAT q3
      go_wp2
      go_loopw [25] (fun t wq=>∃ i:Nat,t=.int .i64 i/\i<=2*gn/\∃ R,MHd R c m j f TT i/\MX w wq S8 r R gc c g ⟨c,cur,false⟩ p ((i % gn:Nat):Int)/\HadAt wq (fun b=>S8 b/\b≠g/\b≠p) ss TT hb kb A C) (fun t _=>24 - (intOf t).toNat)
      case atStart=>exact ⟨0,rfl,by omega,R,HMH.out,by rw [Nat.zero_mod]; exact HX8.out,HAT8.out⟩
      case round =>
       clear HMH HX8 HAT8
       obtain ⟨i,rfl,hi,R,hmh,hx,hat⟩:=hrel
       have HMH:=hid hmh; have HX:=hid hx; have HAT:=hid hat
       have HCX:=hid hx.vx.cfg
       have i0:(0:Int)<=(i:Int):=by omega
       clear hmh hx hat
       go_wp2_with (guard_target=wpList _ _ _ (⟨some _,Op.load _ _,_,_,_,none⟩::_) _ _; refine Zac rfl 23 _ rfl ⟨gc,0,none⟩ rfl (Cfg.A c) (Zap c) (Zae HCX.out) ?_)
       refine (mgroups_c c HGD.out _).mono ?_
       rintro e w10 ⟨rfl,x10⟩
       rw [HGN.out]
       have HX10:=hid (HX.out.more x10)
       have HAT10:=hid (HAT.out.ext x10)
       have hw1:=HW1.out; have hw2:=HW2.out
       clear x10 HX HCX HAT
       by_cases hlt:i < 2*gn
       ·
        have i1:(i:Int) < 2*(gn:Int):=by omega
        have i22:i<=22:=by have:=HG12.out; omega
        obtain ⟨R',nw,o,htk,hmh,hor,hn0⟩:=HMH.out.tick HVI.out HK4.out HN6.out HGT.out HGN.out
        have hgl:i % gn < gn:=Nat.mod_lt _ HG12.out.1
        have hac:=HX10.out.callTick HGD.out (by omega) (by show ((i % gn:Nat):Int) < c.groups; rw [HGN.out]; omega)
        have HTK:=hid htk; have HMH':=hid hmh; have HAC:=hid hac
        have HN0:=hid hn0; have HOR:=hid hor
        clear htk hmh hac hgl hn0 hor HMH
        go_wp2_with fail
        refine HAC.out.mono ?_
        rintro e w11 h11
        rw [HTK.out] at h11
        obtain rfl:=h11.ret
        have HX11:=hid (show MX w w11 S8 r R' gc c g ⟨c,cur,false⟩ p (((i+1) % gn:Nat):Int) from HX10.out.tick h11)
        have HAT11:=hid (HAT10.out.only h11.only fun b hb q=>by
         rcases q with q | q | q
         ·
          exact q hb.1
         ·
          exact hb.2.1 q
         ·
          exact hb.2.2 q)
        have HCX:=hid HX11.out.vx.cfg
        simp only
        clear h11 HX10 HAC HTK HAT10 hw1 hw2
        have HOV:=hid (show oErr o=.nilIface\/∃ et ev kx,(kx=6\/kx=7)/\oErr o=.iface et ev/\∀ w',Ext w11 w'->Calls Tryz.prog 25 #[.iface et ev] w' fun e w''=>e=.returned (.int .i64 kx)/\Ext w' w'' from by
         rcases HOR.out with rfl | ⟨er,rfl,hk⟩
         ·
          exact .inl rfl
         ·
          obtain ⟨et,ev,hev⟩:=er.iface
          refine .inr ⟨et,ev,er.kind,hk,hev,fun w' e=>?_⟩
          have:=kind_err er w' (HG.out.only (Ext.trans HX11.out.ext e) (fun x=>x))
          rw [hev] at this; exact this)
        clear HOR
        generalize oErr o=ov at *
        go_upto_region 35 with (fail)
        go_cut [163] (fun t wq=>t=.bool false/\Ext w11 wq)
        case first =>
         go_wp2_with (guard_target=wpList _ _ _ (⟨some _,Op.load _ _,_,_,_,none⟩::_) _ _; refine Zac rfl 23 _ rfl ⟨gc,0,none⟩ rfl (Cfg.A c) (Zap c) (Zae HCX.out) ?_)
         refine (mgroups_c c HGD.out _).mono ?_
         rintro e w12 ⟨rfl,x12⟩
         rw [HGN.out]
         have HX12:=hid x12
         clear x12 HCX
         by_cases hgi:gn<=i
         ·
          have j1:(gn:Int)<=(i:Int):=by omega
          have hnz:((nw:Int) != 0)=false:=by rw [HN0.out hgi]; rfl
          rcases HOV.out with rfl | ⟨et,ev,kx,hk,rfl,ke⟩
          ·
           go_wp2_with fail
           go_meet
           case rel=>exact ⟨rfl,HX12.out⟩
          ·
           have KE:=hid ke
           clear ke
           rcases hk with rfl | rfl
           ·
            go_wp2_with fail
            refine (KE.out w12 HX12.out).mono ?_
            rintro e w13 ⟨rfl,x13⟩
            have HX13:=hid (Ext.trans HX12.out x13)
            clear x13
            go_wp2_with fail
            go_meet
            case rel=>exact ⟨rfl,HX13.out⟩
           ·
            go_wp2_with fail
            refine (KE.out w12 HX12.out).mono ?_
            rintro e w13 ⟨rfl,x13⟩
            have HX13:=hid (Ext.trans HX12.out x13)
            clear x13
            go_wp2_with fail
            refine (KE.out w13 HX13.out).mono ?_
            rintro e w14 ⟨rfl,x14⟩
            have HX14:=hid (Ext.trans HX13.out x14)
            clear x14
            go_wp2_with fail
            go_meet
            case rel=>exact ⟨rfl,HX14.out⟩
         ·
          have j1:¬(gn:Int)<=(i:Int):=by omega
          rcases HOV.out with rfl | ⟨et,ev,kx,hk,rfl,ke⟩
          ·
           go_wp2_with fail
           go_meet
           case rel=>exact ⟨rfl,HX12.out⟩
          ·
           have KE:=hid ke
           clear ke
           rcases hk with rfl | rfl
           ·
            go_wp2_with fail
            refine (KE.out w12 HX12.out).mono ?_
            rintro e w13 ⟨rfl,x13⟩
            have HX13:=hid (Ext.trans HX12.out x13)
            clear x13
            go_wp2_with fail
            go_meet
            case rel=>exact ⟨rfl,HX13.out⟩
           ·
            go_wp2_with fail
            refine (KE.out w12 HX12.out).mono ?_
            rintro e w13 ⟨rfl,x13⟩
            have HX13:=hid (Ext.trans HX12.out x13)
            clear x13
            go_wp2_with fail
            refine (KE.out w13 HX13.out).mono ?_
            rintro e w14 ⟨rfl,x14⟩
            have HX14:=hid (Ext.trans HX13.out x14)
            clear x14
            go_wp2_with fail
            go_meet
            case rel=>exact ⟨rfl,HX14.out⟩
        case rest =>
         obtain ⟨rfl,hxc⟩:=hcut
         have HXC:=hid (HX11.out.more hxc)
         have HATC:=hid (HAT11.out.ext hxc)
         clear hxc HX11 HAT11 HCX HN0 HOV
         go_wp2_with fail
         go_loopw [28] (fun t wq=>∃ s:Nat,t=.int .i64 s/\s<=ss/\MX w wq S8 r R' gc c g ⟨c,cur,false⟩ p (((i+1) % gn:Nat):Int)/\HadAt wq (fun b=>S8 b/\b≠g/\b≠p) ss TT hb kb A C) (fun t _=>ss - (intOf t).toNat)
         case atStart=>exact ⟨0,rfl,by omega,HXC.out,HATC.out⟩
         case round =>
          clear HXC HATC
          obtain ⟨s,rfl,hs,hx,hat⟩:=hrel
          have HX:=hid hx; have HAT:=hid hat
          have q3:wr.cell? ⟨gc,3,none⟩=some (.int .i64 ss):=(Zag hx.vx.cfg).trans ((Cfg.A3 c).trans (by rw [HST.out]))
          clear hx hat
          by_cases hs3:s < ss
          ·
           have s1:(s:Int) < (ss:Int):=by omega
           have s0:(0:Int)<=(s:Int):=by omega
           have hrd:=HMH'.out.read HVI.out HK4.out HN6.out (t:=s) (by rw [HSTT.out]; exact hs3) cur
           have L8:=hid (HSH.out s hs3).1
           have LN:=hid (show (TT s).1.length<=8 by have:=(HSH.out s hs3).2; omega)
           obtain ⟨oe,hoe⟩:∃ oe,(TT s).2.2.map (Err.fault sVRead (s:Int))=oe:=⟨_,rfl⟩
           rw [hoe] at hrd
           have HRD:=hid hrd
           have HKD:=hid (show okind oe=tellK TT s from hoe▸rfl)
           clear hrd hoe
           go_wp2_with fail
           refine (vread_c HX.out.rack HX.out.vol s).mono ?_
           rintro e w14 ⟨v,rfl,hown,x14⟩
           rw [HRD.out] at hown ⊢
           simp only at hown ⊢
           obtain ⟨a14,c14,rfl,hbk,hab⟩:=kblocks_at L8.out hown
           have HX14:=hid (HX.out.more x14)
           have HAT14:=hid (HAT.out.ext x14)
           have HB14:=hid hbk
           have xd:Ext w14 w14.drew:=(Ext.refl w14).drew
           have HXD:=hid xd
           have hcy:∀ y:SW Ext w14.drew,y.w.cell? ⟨hb,s,none⟩=some (.slice (A s) (TT s).1.length (C s)):=fun y=>y.ext.cell (xd.cell (HAT14.out.had s hs3))
           have hky:∀ y:SW Ext w14.drew,y.w.cell? ⟨kb,s,none⟩=some (.int .i64 (tellK TT s)):=fun y=>y.ext.cell (xd.cell (HAT14.out.kind s hs3))
           have sm:Hid (∀ y:SW Ext w14.drew,Calls Tryz.prog 26 #[.slice a14 (TT s).1.length c14,.slice (A s) (TT s).1.length (C s)] y.w fun e w''=>e=.returned (.bool true)/\Ext y.w w''):=hid fun y=>(sameblk2_c (TT s).1 (TT s).1 L8.out L8.out rfl LN.out a14 (A s) c14 (C s) y.w (HB14.out.ext (Ext.trans HXD.out y.ext)) ((HAT14.out.bks s hs3).ext (Ext.trans HXD.out y.ext))).mono fun e w'' q=>⟨by rw [q.1,decide_eq_true rfl],q.2⟩
           have ck:Hid (∀ y:SW Ext w14.drew,Calls Tryz.prog 25 #[oErr oe] y.w fun e w''=>e=.returned (.int .i64 (tellK TT s))/\Ext y.w w''):=hid fun y=>by
            have:=okind_c oe y.w (HG.out.only (Ext.trans HX14.out.ext (Ext.trans HXD.out y.ext)) (fun x=>x))
            rw [HKD.out] at this; exact this
           clear hown x14 hbk hab HX HAT xd q3
           go_wp2_with fail
           refine Zan (S:=Ext) (.fin [0,1,2,3,4,5,6,7,8,9,10,11,12,13,14,15]) (by kernel_rfl) (by kernel_rfl) (fun _ _ d _ _ h=>by cases d<;>exact h) ?_
           rw [wpS]
           simp only [opsAt,opA,opB,opC,opD,opE,opF,opG]
           iterate 5 ((refine Zab (fun K hK=>?_); go_simp; refine hK _ ?_; clear hK K))
           (refine Zab (fun K hK=>?_); go_simp; (apply Exists.intro; refine ⟨fun x=>?_,hK _ ?_⟩; (exact sm.out x); clear hK K))
           iterate 3 ((refine Zab (fun K hK=>?_); go_simp; refine hK _ ?_; clear hK K))
           (refine Zab (fun K hK=>?_); go_simp; (apply Exists.intro; refine ⟨fun x=>?_,hK _ ?_⟩; (exact ck.out x); clear hK K))
           iterate 6 ((refine Zab (fun K hK=>?_); go_simp; refine hK _ ?_; clear hK K))
           refine Zah ?_
           intro V9 hV9
           have HX9:=hid (HX14.out.more (Ext.trans HXD.out hV9))
           have HAT9:=hid (HAT14.out.ext (Ext.trans HXD.out hV9))
           clear hcy hky sm ck hV9 HX14 HAT14 HB14 HXD
           go_wp2
           first
           | exact ⟨⟨s+1,by go_num,by omega,HX9.out,HAT9.out⟩,by simp [intOf]; omega⟩
           | (go_roundw; (case rel=>exact ⟨s+1,by go_num,by omega,HX9.out,HAT9.out⟩); (case measure=>simp [intOf]; omega))
          ·
           obtain rfl:ss=s:=by omega
           have s1:¬(ss:Int) < (ss:Int):=by omega
           go_wp2_with fail
           first
           | exact ⟨⟨i+1,by go_num,by omega,R',HMH'.out,HX.out,HAT.out⟩,by simp [intOf]; omega⟩
           | (go_roundw; (case rel=>exact ⟨i+1,by go_num,by omega,R',HMH'.out,HX.out,HAT.out⟩); (case measure=>simp [intOf]; omega))
       ·
        obtain rfl:i=2*gn:=by omega
        obtain ⟨iz,hiz⟩:∃ iz:Int,((2*gn:Nat):Int)=iz:=⟨_,rfl⟩
        have i1:¬iz < 2*(gn:Int):=by omega
        rw [hiz]
        clear hiz i0 hlt hi
        go_wp2_with fail
        refine (mendRuns_c w10).mono ?_
        rintro e w16 ⟨rfl,x16⟩
        have HX16:=hid (Ext.trans HX10.out.ext x16)
        clear x16
        go_wp2
        go_ret
        exact ⟨rfl,HX16.out⟩
end Go.Proofs.YtkipjmbplmdaaaaGreatDoor
namespace Go.Proofs.YtkipjmbplmdaaaaGreatDoor.mendSame
open Go.ChangeShapes Go.WideShapes Go.ChangeAt Go.RowKit
open Go.ChangeMaps (open_string shut_string)
set_option linter.unusedVariables false
theorem laidOut:laidOutB Tryz.prog=true:=by kernel_rfl
theorem walk (a0:Int) (a1:Int) (a2:Int) (a3:Int) (a4:Option Addr) (len4 cap4:Nat) (w:World) (hg:EtLaid w) (w4:WearsAt w a4 len4) :
  Calls Tryz.prog 4 #[.int .i64 a0,.int .i64 a1,.int .i64 a2,.int .i64 a3,.slice a4 len4 cap4] w fun e w'=>e=.returned (.bool true)/\Below w.heap.size w w' :=
 (mendSame_c a0 a1 a2 a3 a4 len4 cap4 w hg w4).mono fun _ _ ⟨he,hx⟩=>⟨he,hx.below⟩
set_option maxRecDepth 100000 in
theorem lifted (os:Os) (started:os.Started) (H:Type) (enc:TypeId × Value->H) :
  ReturnsInHanded {} Tryz.checked os 4 .any (fun w args=>(Rows.mendSameSpec.pre enc Tryz.prog Tryz.f4 [] false w args/\laidMetH Tryz.prog theLaid w)/\sizedMet enc Tryz.prog Tryz.f4 (OpenSpec.ofChange Rows.mendSameSpec) false w args)
   (Rows.mendSameSpec.post enc Tryz.prog Tryz.f4 false true false false):=by
 refine returnsInHanded_of_change_and (C:=Tryz.checked) (X:=fun w _=>laidMetH Tryz.prog theLaid w) (fun _ _ _ hh h=>h.of_heap hh) hOwn started (by kernel_rfl) Tryz.func4
  (ChangeSpec.witness_at (enc:=enc) (C:=Tryz.checked) (os:=os) (X:=fun w _=>laidMetH Tryz.prog theLaid w) false (laidWorld os) #[.int .i64 0,.int .i64 0,.int .i64 0,.int .i64 0,.slice none 0 0] 8 rfl (by kernel_rfl) (by kernel_rfl) (by kernel_rfl) (by kernel_rfl) (by kernel_rfl) (laidWorld_met os _)) ?_
 intro W base args ds gs before hval0 hW _ _ hL _
 have hval:∀ (j:Nat) t v,Tryz.f4.params[j]?=some t->args[j]?=some v->Value.okWide Tryz.prog W .any base t v:=hval0
 have hW':=hW
 obtain ⟨p,q,hA0,hV,rfl,hfz,hnd⟩:=hW
 have hA:DataW.TrodAll enc Tryz.prog W 0 (fun _=>true) true Tryz.f4.params.toList args.toList ds p:=hA0
 rw [Tryz.params4] at hA hval
 obtain ⟨v0,vs0,d0,ds0,p0,q0,hargs,rfl,rfl,h0,r0⟩:=trodAll_cons hA
 obtain ⟨v1,vs1,d1,ds1,p1,q1,rfl,rfl,rfl,h1,r1⟩:=trodAll_cons r0
 obtain ⟨v2,vs2,d2,ds2,p2,q2,rfl,rfl,rfl,h2,r2⟩:=trodAll_cons r1
 obtain ⟨v3,vs3,d3,ds3,p3,q3,rfl,rfl,rfl,h3,r3⟩:=trodAll_cons r2
 obtain ⟨v4,vs4,d4,ds4,p4,q4,rfl,rfl,rfl,h4,r4⟩:=trodAll_cons r3
 obtain ⟨rfl,rfl,rfl⟩:=trodAll_nil r4
 obtain rfl:args=#[v0,v1,v2,v3,v4]:=by cases args; simp_all
 obtain ⟨rfl,rfl⟩:=trodVars_none hV
 obtain ⟨a0,rfl,rfl,rfl,w0⟩:=open_int Tryz.underlying3 (hval 0 3 v0 rfl rfl) h0
 obtain ⟨a1,rfl,rfl,rfl,w1⟩:=open_int Tryz.underlying3 (hval 1 3 v1 rfl rfl) h1
 obtain ⟨a2,rfl,rfl,rfl,w2⟩:=open_int Tryz.underlying3 (hval 2 3 v2 rfl rfl) h2
 obtain ⟨a3,rfl,rfl,rfl,w3⟩:=open_int Tryz.underlying3 (hval 3 3 v3 rfl rfl) h3
 obtain ⟨a4,len4,cap4,rfl⟩:=okWide_slice Tryz.underlying47 (hval 4 47 v4 rfl rfl)
 have k4:=h4
 have lt4:∀ x∈p4,x.block < W.heap.size:=by obtain ⟨m,hm⟩:=k4; exact DataW.trod_lt m _ _ _ hm
 have w4:WearsAt W a4 len4:=by
  obtain ⟨fuel,hf⟩:=h4
  exact open_wears hf
 have hg:=etLaid_of hL
 clear hA0 hval0
 simp only [List.append_nil] at hW'
 refine (walk a0 a1 a2 a3 a4 len4 cap4 W hg w4).mono fun e W' ⟨he,bel⟩=>?_
 subst he
 exact ⟨_,rfl,_,_,_,[],_,[],hW',trodAll_mk1 (shut_bool Tryz.underlying4 _),(trodAll_cons_mk (shut_int Tryz.underlying3 w0) (trodAll_cons_mk (shut_int Tryz.underlying3 w1) (trodAll_cons_mk (shut_int Tryz.underlying3 w2) (trodAll_cons_mk (shut_int Tryz.underlying3 w3) (trodAll_cons_mk (Below.trod laidOut (by kernel_rfl) (of_decide_eq_true (by kernel_rfl)) k4 bel lt4) trodAll_mk0))))),rfl,bel.frame _,fun h=>by cases h⟩
theorem over:Rows.MendSameSaid :=
 OpenClaim.holds_of_wide 4 Tryz.f4 rfl rfl rfl rfl rfl rfl rfl ⟨rfl,rfl,rfl,rfl,rfl⟩ rfl rfl rfl rfl rfl (by kernel_rfl) Tryz.func4 (by kernel_rfl)
  (of_decide_eq_true (by kernel_rfl)) (by unfold Func.isWrapper; first | (rw [if_pos (by decide +kernel)]; kernel_rfl) | (rw [if_neg (by decide +kernel)]; exact ⟨rfl,rfl⟩))
  (fun os started H enc _=>lifted os started H enc)
theorem proved:Rows.MendSameCardSaid :=
 Claim7.holds_tied_plain_at .later [] [.handle] true (true, "d4beb21e8108362cc8d9ea74d636057a41c1365b5261728524ba1bd981600391") true
  over (fun _ h=>by cases h) (by kernel_rfl) (fun _ h=>by cases h) mendSame_row_tie rfl ⟨rfl,rfl⟩ (by kernel_rfl) rfl
  (fun f fn hf hfn=>by
   obtain rfl:f=4:=Option.some.inj ((show Tryz.prog.funcNamed "stave/stavelaw13.MendSame"=some 4 by kernel_rfl).symm.trans hf) |>.symm
   obtain rfl:fn=Tryz.f4:=(Option.some.inj (Tryz.func4.symm.trans hfn)).symm
   exact ⟨by kernel_rfl,fun j t ht=>by
    rw [Tryz.params4] at ht
    rcases j with _ | _ | _ | _ | _ | j
    ·
     simp at ht; subst ht; kernel_rfl
    ·
     simp at ht; subst ht; kernel_rfl
    ·
     simp at ht; subst ht; kernel_rfl
    ·
     simp at ht; subst ht; kernel_rfl
    ·
     simp at ht; subst ht; kernel_rfl
    ·
     simp at ht⟩)
  (by kernel_rfl)
#print axioms proved
end Go.Proofs.YtkipjmbplmdaaaaGreatDoor.mendSame
