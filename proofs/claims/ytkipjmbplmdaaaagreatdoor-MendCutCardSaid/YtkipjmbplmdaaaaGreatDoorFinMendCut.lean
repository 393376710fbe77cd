/- The statement MendCut, as its tied card: for every input the call of stavelaw13's MendCut answers true, and its arguments read behind it as they read before. No condition of our own. -/
/- Texts of one proof, joined: WMendCut, LawMendCut. -/
import Derived.Test.YtkipjmbplmdaaaaGreatDoorMAE
import Derived.Test.YtkipjmbplmdaaaaGreatDoorMAH
import Derived.Test.YtkipjmbplmdaaaaGreatDoorMW
import Derived.Test.YtkipjmbplmdaaaaGreatDoorMP
import Derived.Test.YtkipjmbplmdaaaaGreatDoorMC
import Derived.Test.YtkipjmbplmdaaaaGreatDoorMJ
import Derived.Deep.DeepCutAuto
import Derived.Deep.CutBlock
import Derived.Test.YtkipjmbplmdaaaaGreatDoorCards
import Derived.Test.YtkipjmbplmdaaaaGreatDoorTie
import Derived.WalkKit
import Derived.ProofKit
import Derived.OpenShut
import Derived.ShutString
import Derived.ChangeOld
import Derived.Below
import Derived.SevenTiedAt
set_option linter.unusedVariables false
set_option linter.unusedSimpArgs false
namespace Go.Proofs.YtkipjmbplmdaaaaGreatDoor
set_option linter.unusedVariables false
open Go Go.RowKit
set_option maxRecDepth 100000 in
set_option maxHeartbeats 4000000 in
theorem mendCut_c (k n fuse:Int) (ka:Option Addr) (kl kcap:Nat) (kz:List Int) (ia:Option Addr) (len cap:Nat) (z:List Int) (w:World) (hg:EtLaid w) (hk0:IsRow .i64 w ka kl kcap kz) (hl:IsRow .u64 w ia len cap z) :
  Calls Tryz.prog 6 #[.int .i64 k,.int .i64 n,.int .i64 fuse,.slice ka kl kcap,.slice ia len cap] w fun e w'=>e=.returned (.bool true)/\Ext w w':=by
 have HBT:=hid hl.bits
 have HBL:=hid hl.low
 have HKO:=hid hk0.ints
 have HKW:=hid hk0.low
 generalize (z.take len).map Int.toNat=bits at *
 clear hl hk0
 have HG:=hid hg
 have hzc:=Zb3
 have HCS:=hid Cfg.A_size
 clear hg
 go_enter Tryz.func6,Tryz.ntmps6
 go_wp2_with fail
 refine (kfixed_c k n 3 2 _).mono ?_
 rintro e w1 ⟨rfl,x1⟩
 have HGD:=hid (show (keepFixed k n 3 2).Good from keepFixed_good k n 3 2 (by omega) (by omega) (by omega) (by omega))
 have HK4:=hid (keepFixed_k4 k n 3 2)
 have HN6:=hid (keepFixed_n6 k n 3 2)
 have HST:=hid (show (keepFixed k n 3 2).stripes=3 from rfl)
 have HSL:=hid (show (keepFixed k n 3 2).slots=2 from rfl)
 generalize keepFixed k n 3 2=c at *
 obtain ⟨W1,hW1⟩:∃ W,w1.alloc (.cells (Cfg.A c) 23)=W:=⟨_,rfl⟩
 have X1:=hid (show Ext w W1 from hW1▸x1.alloc _)
 have HC:=hid (show W1.heap[w1.heap.size]?=some (.cells (Cfg.A c) 23 (0,0)) from hW1▸heap_alloc_new _ _)
 have hbs:(w1.alloc (.cells (Cfg.A Cfg.zero) 23)).heap[w1.heap.size]?=some (.cells (Cfg.A Cfg.zero) 23 (0,0)):=Zad
 clear x1
 have HW1:=hid hW1
 clear hW1
 obtain ⟨m,hm,m1,m128⟩:=sectors_nat c HGD.out
 obtain ⟨nn,hn⟩:∃ nn:Nat,c.n=nn:=⟨c.n.toNat,by have:=HGD.out.k0; have:=HGD.out.k1; omega⟩
 obtain ⟨kk,hk⟩:∃ kk:Nat,c.k=kk:=⟨c.k.toNat,by have:=HGD.out.k0; omega⟩
 have HNT:=hid (show c.n.toNat=nn by omega)
 have HKT:=hid (show c.k.toNat=kk by omega)
 have n1:1<=nn:=by have:=HGD.out.k0; have:=HGD.out.k1; omega
 have n8:nn<=6:=by have:=HN6.out; omega
 have k1:1<=kk:=by have:=HGD.out.k0; omega
 have k4:kk<=4:=by have:=HK4.out; omega
 have HKN:=hid (show kk<=nn by have:=HGD.out.k1; omega)
 have HM:=hid hm; have HN:=hid hn; have HK:=hid hk
 obtain ⟨R1,R2,e1,e2,h2,v2⟩:=VH.start HGD.out HK4.out HN6.out (m:=m) (by rw [HM.out]; exact Int.le_refl _)
 rw [HNT.out] at e1
 have HV2:=hid h2; have HVV2:=hid v2
 have HE1:=hid e1; have HE2:=hid e2
 clear hm hn hk e1 e2 h2 v2
 go_wp2_with (first
  | (guard_target=wpList _ _ _ (⟨none,Op.store _ _ _,_,_,_,none⟩::_) _ _; have hb0:=hbs; clear hbs; refine Zaa rfl 23 _ _ rfl w1.heap.size rfl (Cfg.A c) _ rfl 23 ?_ hb0 ?_ ?_ ?_; (rw [HCS.out]; exact aggCfg); (rw [HCS.out,HCS.out]); exact Cfg.A_one _; rw [Zai,HW1.out])
  | (guard_target=wpList _ _ _ (⟨some _,Op.load _ _,_,_,_,none⟩::_) _ _; refine Zac rfl 23 _ rfl ⟨w1.heap.size,0,none⟩ rfl (Cfg.A c) (Zap c) (Zaf HC.out) ?_))
 have HLT:=hid (lt_of_block HC.out)
 generalize w1.heap.size=gc at *
 refine (mopened_c c HGD.out nn m HN.out HM.out m1 m128 HE1.out HE2.out W1).mono ?_
 rintro e w2 ⟨r,g,T,ho⟩
 obtain rfl:=ho.ret
 have HX2:=hid (show VX w w2 T r R2 gc c g ⟨c,1,false⟩ from ⟨⟨ho.ve.rack,Ext.trans X1.out ho.ve.ext,fun b hb=>ho.ve.low b (Nat.lt_of_lt_of_le hb X1.out.size)⟩,ho.ve.ext.at HC.out,ho.ve.low gc HLT.out,ho.vol,ho.gT,Nat.le_trans X1.out.size ho.new,fun q=>by have:=ho.new; have:=HLT.out; omega⟩)
 clear ho HE1 HE2 HC X1 HLT
 have HVI2:=hid (VI.new HGD.out)
 have hgr:c.groups=6:=by unfold Cfg.groups; rw [HST.out,HSL.out]; rfl
 obtain ⟨GN,hGN⟩:∃ GN,c.groups=GN:=⟨_,rfl⟩
 have HGN:=hid hGN
 have HG6:=hid (show GN=6 by rw [<- hGN]; exact hgr)
 have HST3:=hid (show c.stripes.toNat=3 by rw [HST.out]; rfl)
 clear HVV2 hgr hGN
 go_wp2
 go_loopw [14] (fun t wr=>∃ i:Nat,t=.int .i64 i/\i<=3/\∃ R S j f,VX w wr S r R gc c g ⟨c,1+(i:Int),false⟩/\VH R c m true j f/\VI c (1+(i:Int)) j f/\∀ x,x < i->∃ gen,f x=some (gen,blocksOf kk x)) (fun t _=>3 - (intOf t).toNat)
 case atStart=>exact ⟨0,rfl,by omega,R2,T,_,_,HX2.out,HV2.out,HVI2.out,fun x hx=>by omega⟩
 case round =>
  clear HX2 HV2 HVI2
  obtain ⟨i,rfl,hi,R,S,j,f,hx,hv,hvi,hf⟩:=hrel
  have HX:=hid hx; have HV:=hid hv; have HVI:=hid hvi; have HF:=hid hf
  clear hx hv hvi hf
  by_cases hlt:i < 3
  ·
   have i0:(0:Int)<=(i:Int):=by omega
   have i1:(i:Int) < 3:=by omega
   obtain ⟨la,hla⟩:∃ l,blocksOf kk (i:Int)=l:=⟨_,rfl⟩
   have La8:=hid (hla▸blocksOf_108 kk (i:Int))
   have LaB:=hid (hla▸blocksOf_bytes kk (i:Int))
   have LaN:=hid (show la.length<=8 by rw [<- hla,Zcj]; omega)
   have La0:=hid (show la≠[] from hla▸(by intro q; have:=congrArg List.length q; rw [Zcj] at this; simp at this; omega))
   have LaF:=hid (show Cd.Blocks c.k.toNat 108 la by rw [HKT.out,<- hla]; exact blocksOf_Blocks kk (i:Int))
   have HLa:=hid hla
   clear hla
   have ck:wr.cell? ⟨gc,1,none⟩=some (.int .i64 kk):=HX.out.c1.trans (by rw [HK.out])
   go_wp2_with fail
   refine (kblocks_c kk (by omega) i wr).mono ?_
   rintro e w3 ⟨v,rfl,hown,x3⟩
   rw [HLa.out] at hown
   obtain ⟨a3,c3,rfl,hbk,hab⟩:=kblocks_at La8.out hown
   obtain ⟨S3,hS⟩:∃ S',wideS S wr w3=S':=⟨_,rfl⟩
   have HX3:=hid (hS▸HX.out.wide x3)
   have HSS3:=hid (show ∀ b,S b->S3 b from fun b hb=>hS▸.inl hb)
   have HE3:=hid x3
   have HB3:=hid hbk
   have HP3:=hid (show ∀ b,a3=some ⟨b,0,none⟩->S3 b/\b≠g/\w.heap.size<=b from fun b q=>⟨hS▸HX.out.ve.blk x3 hbk La0.out hab b q,by have:=hab b q; have:=lt_of_block HX.out.vol; omega,Nat.le_trans HX.out.ext.size (hab b q)⟩)
   clear hown x3 hbk hab hS ck
   obtain ⟨sl,R',hcm,hv,hvi⟩:=HV.out.commit_on HVI.out HM.out.symm HK4.out HN6.out (by omega) (s:=i) (by rw [HST3.out]; exact hlt) LaF.out
   have HCM:=hid hcm; have HV':=hid hv; have HVI':=hid hvi
   clear hcm hv hvi
   go_wp2_with fail
   refine (vcommit_c HX3.out.rack HX3.out.vol HX3.out.gS (show (0:Int)<=1+(i:Int) by omega) i la La8.out LaB.out a3 c3 HB3.out (fun b q=>⟨(HP3.out b q).1,(HP3.out b q).2.1⟩)).mono ?_
   rintro e w6 h6
   rw [HCM.out] at h6
   obtain rfl:=h6.ret
   have HX6:=hid (show VX w w6 S3 r R' gc c g ⟨c,1+(i:Int)+1,false⟩ from HX3.out.commit h6)
   have HFN:=hid (show ∀ x,x < i+1->∃ gen,updS f i (1+(i:Int)+1,la) x=some (gen,blocksOf kk x) from fun x hx=>by
    by_cases e:x=i
    ·
     subst e; exact ⟨_,by unfold updS; rw [if_pos rfl,HLa.out]⟩
    ·
     obtain ⟨gen,h⟩:=HF.out x (by omega)
     exact ⟨gen,by unfold updS; rw [if_neg e]; exact h⟩)
   simp only [oErr]
   clear h6 HX3 HB3 HP3 HCM HSS3 HE3 HX HV HVI HF
   go_wp2
   go_roundw
   case rel=>exact ⟨i+1,by go_num,by omega,R',S3,_,_,by rw [show 1+((i+1:Nat):Int)=1+(i:Int)+1 by omega]; exact HX6.out,HV'.out,by rw [show 1+((i+1:Nat):Int)=1+(i:Int)+1 by omega]; exact HVI'.out,HFN.out⟩
   case measure=>simp [intOf]; omega
  ·
   obtain rfl:i=3:=by omega
   rw [show ((3:Nat):Int)=(3:Int) from rfl]
   have HMR:=hid (MR.start HV.out HVI.out HM.out.symm)
   have HRT:=hid (show ∀ d:Nat,d < c.n.toNat->∀ q,(R.dsk (d:Nat)).rot q=false from HV.out.no_rot HVI.out HM.out.symm)
   obtain ⟨cur,hcur⟩:∃ cur:Int,1+((3:Nat):Int)=cur:=⟨_,rfl⟩
   have HCU:=hid (show cur < 1152921504606846976 by omega)
   rw [hcur] at HVI HX
   have HLL:=hid (show (List.range c.n.toNat).length=nn by rw [List.length_range,HNT.out])
   clear hcur HV
   generalize List.range c.n.toNat=L0 at *
   have HW1:=hid (show wrap64 ((nn:Int) - (kk:Int))=(nn:Int) - (kk:Int) from wsub HKN.out (by omega))
   have HW2:=hid (show IntKind.i64.wrap ((nn:Int) - (kk:Int))=(nn:Int) - (kk:Int) from iwsub HKN.out (by omega))
   go_wp2
   go_loopw [15] (fun t wr=>∃ i:Nat,t=.int .i64 i/\i<=nn - kk/\∃ R L,VX w wr S r R gc c g ⟨c,cur,false⟩/\MR R c m j f L/\nn<=L.length+i/\∀ d:Nat,d < c.n.toNat->∀ q,(R.dsk (d:Nat)).rot q=false) (fun t _=>nn - (intOf t).toNat)
   case atStart=>exact ⟨0,rfl,by omega,R,L0,HX.out,HMR.out,by rw [HLL.out]; omega,HRT.out⟩
   case round =>
    clear HX HMR HRT HLL
    obtain ⟨i,rfl,hi,R,L,hx,hmr,hll,hrt⟩:=hrel
    have HX:=hid hx; have HMR:=hid hmr; have HLL:=hid hll; have HRT:=hid hrt
    have c1:wr.cell? ⟨gc,1,none⟩=some (.int .i64 kk):=HX.out.c1.trans (by rw [HK.out])
    have c2:wr.cell? ⟨gc,2,none⟩=some (.int .i64 nn):=HX.out.c2.trans (by rw [HN.out])
    clear hx hmr hll hrt
    by_cases hlt:i < nn - kk
    ·
     have i0:(0:Int)<=(i:Int):=by omega
     have i1:(i:Int) < (nn:Int) - (kk:Int):=by omega
     have i2:i < nn:=by omega
     have hw1:=HW1.out; have hw2:=HW2.out
     by_cases hio:i < kl
     ·
      obtain ⟨ib,ioff,vi,rfl,hci⟩:=HKO.out i hio
      have hlib:ib < w.heap.size:=HKW.out _ rfl (by omega)
      have j1:(i:Int) < (kl:Int):=by omega
      obtain ⟨q0,q1⟩:=Zcx vi 0 ((nn:Int) - 1) (by omega)
      obtain ⟨dd,hdd⟩:=Int.eq_ofNat_of_zero_le q0
      have hd2:dd < nn:=by omega
      have xd:Ext wr wr.drew:=(Ext.refl wr).drew
      have HXD:=hid (HX.out.more xd)
      have wi:Hid (∀ y:SW Ext wr.drew,Calls Tryz.prog 9 #[.int .i64 vi,.int .i64 0,.int .i64 ((nn:Int) - 1)] y.w fun e w''=>e=.returned (.int .i64 (dd:Int))/\Ext y.w w''):=hid fun y=>(within_c vi 0 ((nn:Int) - 1) y.w (by omega) (by omega) (by omega)).mono fun e w'' q=>⟨by rw [q.1,hdd],q.2▸Ext.refl _⟩
      have cs:∀ y:SW Ext wr.drew,y.w.cell? ⟨gc,2,none⟩=some (.int .i64 nn):=fun y=>y.ext.cell (xd.cell c2)
      have cl:∀ y:SW Ext wr.drew,y.w.cell? ⟨ib,ioff+i,none⟩=some (.int .i64 vi):=fun y=>y.ext.cell (xd.cell (Ext.cell HX.out.ext hci))
      have hw3:IntKind.i64.wrap ((nn:Int) - 1)=(nn:Int) - 1:=iwsub1 (by omega)
      clear xd hci hlib q0 q1 hdd
      go_wp2_with fail
      refine Zan (S:=Ext) (.fin [0,1,2,3,4,5,6,7,8]) (by kernel_rfl) (by kernel_rfl) (fun _ _ d _ _ h=>by cases d<;>exact h) ?_
      rw [wpS]
      simp only [opsAt,opA,opB,opC,opD,opE,opF,opG]
      iterate 7 ((refine Zab (fun K hK=>?_); go_simp; refine hK _ ?_; clear hK K))
      (refine Zab (fun K hK=>?_); go_simp; (apply Exists.intro; refine ⟨fun x=>?_,hK _ ?_⟩; (exact wi.out x); clear hK K))
      (refine Zab (fun K hK=>?_); go_simp; refine hK _ ?_; clear hK K)
      refine Zah ?_
      intro V3 hV3
      have HX3:=hid (HXD.out.more hV3)
      clear cs cl wi hV3 HXD hw3 HX c1 c2 hw1 hw2
      go_wp2_with fail
      refine (at_replace HX3.out.rack dd).mono ?_
      rintro e w4 ⟨rfl,h4,k4'⟩
      have HX4:=hid (HX3.out.keep h4 k4')
      have HMR':=hid ((HMR.out.less (List.erase_sublist (a:=dd))).replace (d:=dd) (by rw [HNT.out]; exact hd2) HMR.out.nd.not_mem_erase)
      have HRT':=hid (HMR.out.replace_rot HRT.out (d:=dd) (by rw [HNT.out]; exact hd2))
      have HLL':=hid (show nn<=(L.erase dd).length+(i+1) by have:=HLL.out; have:=length_erase_ge L dd; omega)
      clear h4 k4' HX3 HMR HRT HLL
      go_wp2
      exact ⟨⟨i+1,by go_num,by omega,_,_,HX4.out,HMR'.out,HLL'.out,HRT'.out⟩,by simp [intOf]; omega⟩
     ·
      have j1:¬(i:Int) < (kl:Int):=by omega
      have HX3:=hid HX.out
      have hd2:i < nn:=i2
      go_wp2_with fail
      refine (at_replace HX3.out.rack i).mono ?_
      rintro e w4 ⟨rfl,h4,k4'⟩
      have HX4:=hid (HX3.out.keep h4 k4')
      have HMR':=hid ((HMR.out.less (List.erase_sublist (a:=i))).replace (d:=i) (by rw [HNT.out]; exact hd2) HMR.out.nd.not_mem_erase)
      have HRT':=hid (HMR.out.replace_rot HRT.out (d:=i) (by rw [HNT.out]; exact hd2))
      have HLL':=hid (show nn<=(L.erase i).length+(i+1) by have:=HLL.out; have:=length_erase_ge L i; omega)
      clear HX c1 c2 hw1 hw2 h4 k4' HX3 HMR HRT HLL
      go_wp2
      exact ⟨⟨i+1,by go_num,by omega,_,_,HX4.out,HMR'.out,HLL'.out,HRT'.out⟩,by simp [intOf]; omega⟩
    ·
     obtain rfl:i=nn - kk:=by omega
     have hw1:=HW1.out; have hw2:=HW2.out
     have i1:¬((nn - kk:Nat):Int) < (nn:Int) - (kk:Int):=by omega
     have HLK:=hid (show c.k.toNat<=L.length by rw [HKT.out]; have:=HLL.out; have:=HKN.out; omega)
     go_wp2_with fail
     refine (mnew_c g wr).mono ?_
     rintro e w8 ⟨p,rfl,hp,hm,x8⟩
     obtain ⟨S8,hS⟩:∃ S',wideS S wr w8=S':=⟨_,rfl⟩
     have HX8:=hid (hS▸MX.start HX.out x8 hm hp)
     clear hp hm x8 hS HX c1 c2 i1 hw1 hw2
     go_wp2_with fail
     refine (within_c fuse 0 60 _ (by omega) (by omega) (by omega)).mono ?_
     rintro e _ ⟨rfl,rfl⟩
     obtain ⟨f0,f1⟩:=Zcx fuse 0 60 (by omega)
     generalize within fuse 0 60=F at *
     go_wp2_with fail
     refine (at_arm HX8.out.rack F (by omega)).mono ?_
     rintro e w9 ⟨rfl,h9,k9⟩
     have HX9:=hid (HX8.out.keep h9 k9)
     have HMC:=hid (HMR.out.armed HVI.out HM.out.symm HLK.out HRT.out F)
     have HND:=hid HMR.out.nd
     have HLN:=hid (show ∀ d∈L,d < c.n.toNat from HMR.out.lt)
     generalize R.arm F=RA at *
     clear h9 k9 HX8 HMR HRT HLL f0 f1
     go_upto_block 4 with fail
     go_cut [18] (fun t wq=>(∃ i:Int,t=.int .i64 i)/\∃ R v pa,MX w wq S8 r R gc c g v p pa/\PQ R c.n.toNat m (Qm c j f L))
     case first =>
      go_wp2
      go_loopw [18] (fun t wr=>∃ i:Nat,t=.int .i64 i/\i<=6/\∃ R,MX w wr S8 r R gc c g ⟨c,cur,false⟩ p ((i:Int) % GN)/\MC R c m j f L) (fun t _=>6 - (intOf t).toNat)
      case atStart=>exact ⟨0,rfl,by omega,RA,by
       have e:((0:Nat):Int) % GN=0:=by rw [HG6.out]; rfl
       rw [e]; exact HX9.out,HMC.out⟩
      case round =>
       clear HX9 HMC
       obtain ⟨i,rfl,hi,R,hx,hmc⟩:=hrel
       have HX:=hid hx; have HMC:=hid hmc
       clear hx hmc
       have HCX:=hid HX.out.vx.cfg
       go_wp2_with (guard_target=wpList _ _ _ (⟨some _,Op.load _ _,_,_,_,none⟩::_) _ _; refine Zac rfl 23 _ rfl ⟨gc,0,none⟩ rfl (Cfg.A c) (Zap c) (Zaf HCX.out) ?_)
       refine (mgroups_c c HGD.out _).mono ?_
       rintro e w10 ⟨rfl,x10⟩
       rw [HGN.out,HG6.out]
       have HX10:=hid (HX.out.more x10)
       clear x10 HX HCX
       by_cases hlt:i < 6
       ·
        have i0:(0:Int)<=(i:Int):=by omega
        have i1:(i:Int) < 6:=by omega
        have eim:(i:Int) % GN=(i:Int):=by rw [HG6.out]; omega
        have HXG:=hid (show MX w w10 S8 r R gc c g ⟨c,cur,false⟩ p (i:Int) from eim▸HX10.out)
        obtain ⟨R',nw,o,v',htk,hpq,hor⟩:=HMC.out.tick HVI.out HK4.out HN6.out (g:=i) (by rw [HGN.out,HG6.out]; exact i1)
        rw [HGN.out] at htk
        have HTK:=hid htk; have HPQ:=hid hpq
        have hac:=HXG.out.callTick HGD.out (by omega) (by show (i:Int) < c.groups; rw [HGN.out,HG6.out]; exact i1)
        have HAC:=hid hac
        clear htk hpq hac eim HX10
        go_wp2_with fail
        refine HAC.out.mono ?_
        rintro e w11 h11
        rw [HTK.out] at h11
        obtain rfl:=h11.ret
        have HX11:=hid (show MX w w11 S8 r R' gc c g v' p (((i:Int)+1) % GN) from HXG.out.tick h11)
        simp only
        clear h11 HXG HAC HTK
        rcases hor with ⟨rfl,rfl,hmc⟩ | ⟨er,rfl,hk,rfl,hoff⟩
        ·
         have HMC':=hid hmc
         simp only [oErr]
         clear hmc HPQ
         go_wp2
         go_roundw
         case rel=>exact ⟨i+1,by go_num,by omega,R',HX11.out,HMC'.out⟩
         case measure=>simp [intOf]; omega
        ·
         obtain ⟨et,ev,hev⟩:=er.iface
         have KE:=hid (kind_err er w11 (HG.out.only HX11.out.ext (fun x=>x)))
         rw [hk,hev] at KE
         have HOF:=hid hoff
         simp only [oErr]
         rw [hev]
         clear hev hk hoff
         go_wp2_with fail
         refine KE.out.mono ?_
         rintro e w12 ⟨rfl,x12⟩
         have HX12:=hid (HX11.out.more x12)
         clear x12 KE HX11
         go_wp2_with fail
         refine (at_off HX12.out.rack).mono ?_
         rintro e _ ⟨rfl,rfl⟩
         rw [HOF.out]
         go_wp2_with fail
         refine (vdown_c HX12.out.vol).mono ?_
         rintro e _ ⟨rfl,rfl⟩
         go_wp2_with fail
         go_meet
         case rel=>exact ⟨⟨_,rfl⟩,_,_,_,HX12.out,HPQ.out⟩
       ·
        obtain rfl:i=6:=by omega
        go_wp2_with fail
        go_meet
        case rel=>exact ⟨⟨_,rfl⟩,_,_,_,HX10.out,HMC.out.pq⟩
     case rest =>
      clear HX9 HMC
      obtain ⟨⟨i0,rfl⟩,R,v,pa,hx,hpq⟩:=hcut
      have HX:=hid hx.vx
      have HBB:Hid (BitsAt wc ia len bits):=hid (HBT.out.only HX.out.ext (fun _ _ _ x=>x))
      have HBS:=hid (show ∀ p,ia=some p->0 < len->S8 p.block from fun p e q=>HX.out.ve.low _ (HBL.out p e q))
      obtain ⟨sp',jr',st',hmf⟩:=hpq.boot_mf HGD.out (by rw [HM.out]; exact Int.le_refl _) HVI.out HND.out HLN.out HLK.out bits
      obtain ⟨R5,cur5,hop,hrd⟩:=hmf.reopen HVI.out HK4.out HN6.out HCU.out
      have HOP:=hid hop; have HRD:=hid hrd
      clear hx hpq hmf hop hrd HND HLN HLK
      go_wp2_with fail
      refine (at_boot HX.out.rack ia len cap bits HBB.out HBS.out).mono ?_
      rintro e w8 ⟨rfl,h8,k8⟩
      have HX8:=hid (HX.out.keep h8 k8)
      clear h8 k8 HX HBB HBS
      go_wp2_with fail
      refine (vopen_c HX8.out.rack).mono ?_
      rintro e w9 h9
      rw [HOP.out] at h9
      rcases h9 with ⟨_,q,_⟩ | ⟨_,g9,T9,hok⟩
      ·
       cases q
      obtain rfl:=hok.ret
      have HX9:=hid (show VX w w9 T9 r R5 gc c g9 ⟨c,cur5,false⟩ from HX8.out.opened hok)
      clear hok HX8 HOP
      go_wp2
      go_loopw [23] (fun t wr=>∃ i:Nat,t=.int .i64 i/\i<=3/\VX w wr T9 r R5 gc c g9 ⟨c,cur5,false⟩) (fun t _=>3 - (intOf t).toNat)
      case atStart=>exact ⟨0,rfl,by omega,HX9.out⟩
      case round =>
       clear HX9
       obtain ⟨i,rfl,hi,hx⟩:=hrel
       have HX:=hid hx
       clear hx
       by_cases hlt:i < 3
       ·
        have i0:(0:Int)<=(i:Int):=by omega
        have i1:(i:Int) < 3:=by omega
        obtain ⟨la,hla⟩:∃ l,blocksOf kk (i:Int)=l:=⟨_,rfl⟩
        have La8:=hid (hla▸blocksOf_108 kk (i:Int))
        have LaB:=hid (hla▸blocksOf_bytes kk (i:Int))
        have LaN:=hid (show la.length<=8 by rw [<- hla,Zcj]; omega)
        have La0:=hid (show la≠[] from hla▸(by intro q; have:=congrArg List.length q; rw [Zcj] at this; simp at this; omega))
        have LaF:=hid (show Cd.Blocks c.k.toNat 108 la by rw [HKT.out,<- hla]; exact blocksOf_Blocks kk (i:Int))
        have HLa:=hid hla
        clear hla
        have hrv:Vol.read ⟨c,cur5,false⟩ R5 (i:Int)=(la,(Vol.read ⟨c,cur5,false⟩ R5 (i:Int)).2.1,none):=by
         obtain ⟨y,h1,_,h3⟩:=HRD.out i (by rw [HST3.out]; exact hlt)
         obtain ⟨gen,h4⟩:=HF.out i hlt
         rw [h1] at h4
         have h5:y=(gen,la):=by rw [<- HLa.out]; exact Option.some.inj h4
         rw [h5] at h3
         have:=Vol.read_of h3 cur5
         rw [this]
        generalize (Vol.read ⟨c,cur5,false⟩ R5 (i:Int)).2.1=gn at hrv
        have HRV:=hid hrv
        clear hrv
        go_wp2_with fail
        refine (vread_c HX.out.rack HX.out.vol i).mono ?_
        rintro e w12 ⟨v,rfl,hown,x12⟩
        rw [HRV.out] at hown ⊢
        simp only at hown ⊢
        obtain ⟨a12,c12,rfl,hbk,hab⟩:=kblocks_at La8.out hown
        have HX12:=hid (HX.out.more x12)
        have HB12:=hid hbk
        simp only [oErr]
        clear hown x12 hbk hab HX
        have ck:w12.cell? ⟨gc,1,none⟩=some (.int .i64 kk):=HX12.out.c1.trans (by rw [HK.out])
        go_wp2_with fail
        refine (kblocks_c kk (by omega) i w12).mono ?_
        rintro e w14 ⟨v,rfl,hown,x14⟩
        rw [HLa.out] at hown
        obtain ⟨a14,c14,rfl,hbk,hab⟩:=kblocks_at La8.out hown
        have HX14:=hid (HX12.out.more x14)
        have HB14:=hid (HB12.out.ext x14)
        have HC14:=hid hbk
        clear hown x14 hbk hab HX12 HB12 ck
        go_wp2_with fail
        refine (sameblk_c la La8.out LaN.out a12 a14 c12 c14 _ HB14.out HC14.out).mono ?_
        rintro e w15 ⟨rfl,x15⟩
        have HX15:=hid (HX14.out.more x15)
        clear x15 HX14 HB14 HC14
        go_wp2
        go_roundw
        case rel=>exact ⟨i+1,by go_num,by omega,HX15.out⟩
        case measure=>simp [intOf]; omega
       ·
        obtain rfl:i=3:=by omega
        go_wp2_with fail
        refine (mendRuns_c wr).mono ?_
        rintro e w16 ⟨rfl,x16⟩
        have HX16:=hid (Ext.trans HX.out.ext x16)
        clear x16
        go_wp2
        go_ret
        exact ⟨rfl,HX16.out⟩
end Go.Proofs.YtkipjmbplmdaaaaGreatDoor
namespace Go.Proofs.YtkipjmbplmdaaaaGreatDoor.mendCut
open Go.ChangeShapes Go.WideShapes Go.ChangeAt Go.RowKit
open Go.ChangeMaps (open_string shut_string)
set_option linter.unusedVariables false
theorem laidOut:laidOutB Tryz.prog=true:=by kernel_rfl
theorem walk (a0:Int) (a1:Int) (a2:Int) (a3:Option Addr) (len3 cap3:Nat) (z3:List Int) (a4:Option Addr) (len4 cap4:Nat) (z4:List Int) (w:World) (hg:EtLaid w) (w0:(Lit.int .i64 a0).wf=true) (w1:(Lit.int .i64 a1).wf=true) (w2:(Lit.int .i64 a2).wf=true) (w3:IsRow .i64 w a3 len3 cap3 z3) (w4:IsRow .u64 w a4 len4 cap4 z4) :
  Calls Tryz.prog 6 #[.int .i64 a0,.int .i64 a1,.int .i64 a2,.slice a3 len3 cap3,.slice a4 len4 cap4] w fun e w'=>e=.returned (.bool true)/\Below w.heap.size w w' :=
 (mendCut_c a0 a1 a2 a3 len3 cap3 z3 a4 len4 cap4 z4 w hg w3 w4).mono fun _ _ ⟨he,hx⟩=>⟨he,hx.below⟩
set_option maxRecDepth 100000 in
theorem lifted (os:Os) (started:os.Started) (H:Type) (enc:TypeId × Value->H) :
  ReturnsInHanded {} Tryz.checked os 6 .any (fun w args=>(Rows.mendCutSpec.pre enc Tryz.prog Tryz.f6 [] false w args/\laidMetH Tryz.prog theLaid w)/\sizedMet enc Tryz.prog Tryz.f6 (OpenSpec.ofChange Rows.mendCutSpec) false w args)
   (Rows.mendCutSpec.post enc Tryz.prog Tryz.f6 false true false false):=by
 refine returnsInHanded_of_change_and (C:=Tryz.checked) (X:=fun w _=>laidMetH Tryz.prog theLaid w) (fun _ _ _ hh h=>h.of_heap hh) hOwn started (by kernel_rfl) Tryz.func6
  (ChangeSpec.witness_at (enc:=enc) (C:=Tryz.checked) (os:=os) (X:=fun w _=>laidMetH Tryz.prog theLaid w) false (laidWorld os) #[.int .i64 0,.int .i64 0,.int .i64 0,.slice none 0 0,.slice none 0 0] 8 rfl (by kernel_rfl) (by kernel_rfl) (by kernel_rfl) (by kernel_rfl) (by kernel_rfl) (laidWorld_met os _)) ?_
 intro W base args ds gs before hval0 hW _ _ hL _
 have hval:∀ (j:Nat) t v,Tryz.f6.params[j]?=some t->args[j]?=some v->Value.okWide Tryz.prog W .any base t v:=hval0
 have hW':=hW
 obtain ⟨p,q,hA0,hV,rfl,hfz,hnd⟩:=hW
 have hA:DataW.TrodAll enc Tryz.prog W 0 (fun _=>true) true Tryz.f6.params.toList args.toList ds p:=hA0
 rw [Tryz.params6] at hA hval
 obtain ⟨v0,vs0,d0,ds0,p0,q0,hargs,rfl,rfl,h0,r0⟩:=trodAll_cons hA
 obtain ⟨v1,vs1,d1,ds1,p1,q1,rfl,rfl,rfl,h1,r1⟩:=trodAll_cons r0
 obtain ⟨v2,vs2,d2,ds2,p2,q2,rfl,rfl,rfl,h2,r2⟩:=trodAll_cons r1
 obtain ⟨v3,vs3,d3,ds3,p3,q3,rfl,rfl,rfl,h3,r3⟩:=trodAll_cons r2
 obtain ⟨v4,vs4,d4,ds4,p4,q4,rfl,rfl,rfl,h4,r4⟩:=trodAll_cons r3
 obtain ⟨rfl,rfl,rfl⟩:=trodAll_nil r4
 obtain rfl:args=#[v0,v1,v2,v3,v4]:=by cases args; simp_all
 obtain ⟨rfl,rfl⟩:=trodVars_none hV
 obtain ⟨a0,rfl,rfl,rfl,w0⟩:=open_int Tryz.underlying3 (hval 0 3 v0 rfl rfl) h0
 obtain ⟨a1,rfl,rfl,rfl,w1⟩:=open_int Tryz.underlying3 (hval 1 3 v1 rfl rfl) h1
 obtain ⟨a2,rfl,rfl,rfl,w2⟩:=open_int Tryz.underlying3 (hval 2 3 v2 rfl rfl) h2
 obtain ⟨a3,len3,cap3,rfl⟩:=okWide_slice Tryz.underlying69 (hval 3 69 v3 rfl rfl)
 have k3:=h3
 have lt3:∀ x∈p3,x.block < W.heap.size:=by obtain ⟨m,hm⟩:=k3; exact DataW.trod_lt m _ _ _ hm
 obtain ⟨z3,w3⟩:∃ zs,IsRow .i64 W a3 len3 cap3 zs:=by
  obtain ⟨fuel,hf⟩:=h3
  rcases open_ints Tryz.underlying69 Tryz.underlying3 (by kernel_rfl) hf with ⟨hcs,_⟩ | ⟨x,l,c,zs,hcs,_,hl,hm,hz,_,hcell,hwz⟩
  ·
   simp [Value.cells] at hcs
   obtain ⟨rfl,rfl,rfl⟩:=hcs
   exact ⟨[],.inl ⟨rfl,rfl,rfl,rfl⟩⟩
  ·
   simp [Value.cells] at hcs
   obtain ⟨rfl,rfl,rfl⟩:=hcs
   exact ⟨zs,.inr ⟨_,rfl,hl,hm,by simpa using hz,hcell,hwz⟩⟩
 obtain ⟨a4,len4,cap4,rfl⟩:=okWide_slice Tryz.underlying51 (hval 4 51 v4 rfl rfl)
 have k4:=h4
 have lt4:∀ x∈p4,x.block < W.heap.size:=by obtain ⟨m,hm⟩:=k4; exact DataW.trod_lt m _ _ _ hm
 obtain ⟨z4,w4⟩:∃ zs,IsRow .u64 W a4 len4 cap4 zs:=by
  obtain ⟨fuel,hf⟩:=h4
  rcases open_ints Tryz.underlying51 Tryz.underlying105 (by kernel_rfl) hf with ⟨hcs,_⟩ | ⟨x,l,c,zs,hcs,_,hl,hm,hz,_,hcell,hwz⟩
  ·
   simp [Value.cells] at hcs
   obtain ⟨rfl,rfl,rfl⟩:=hcs
   exact ⟨[],.inl ⟨rfl,rfl,rfl,rfl⟩⟩
  ·
   simp [Value.cells] at hcs
   obtain ⟨rfl,rfl,rfl⟩:=hcs
   exact ⟨zs,.inr ⟨_,rfl,hl,hm,by simpa using hz,hcell,hwz⟩⟩
 have hg:=etLaid_of hL
 clear hA0 hval0
 simp only [List.append_nil] at hW'
 refine (walk a0 a1 a2 a3 len3 cap3 z3 a4 len4 cap4 z4 W hg w0 w1 w2 w3 w4).mono fun e W' ⟨he,bel⟩=>?_
 subst he
 exact ⟨_,rfl,_,_,_,[],_,[],hW',trodAll_mk1 (shut_bool Tryz.underlying4 _),(trodAll_cons_mk (shut_int Tryz.underlying3 w0) (trodAll_cons_mk (shut_int Tryz.underlying3 w1) (trodAll_cons_mk (shut_int Tryz.underlying3 w2) (trodAll_cons_mk (Below.trod laidOut (by kernel_rfl) (of_decide_eq_true (by kernel_rfl)) k3 bel lt3) (trodAll_cons_mk (Below.trod laidOut (by kernel_rfl) (of_decide_eq_true (by kernel_rfl)) k4 bel lt4) trodAll_mk0))))),rfl,bel.frame _,fun h=>by cases h⟩
theorem over:Rows.MendCutSaid :=
 OpenClaim.holds_of_wide 6 Tryz.f6 rfl rfl rfl rfl rfl rfl rfl ⟨rfl,rfl,rfl,rfl,rfl⟩ rfl rfl rfl rfl rfl (by kernel_rfl) Tryz.func6 (by kernel_rfl)
  (of_decide_eq_true (by kernel_rfl)) (by unfold Func.isWrapper; first | (rw [if_pos (by decide +kernel)]; kernel_rfl) | (rw [if_neg (by decide +kernel)]; exact ⟨rfl,rfl⟩))
  (fun os started H enc _=>lifted os started H enc)
theorem proved:Rows.MendCutCardSaid :=
 Claim7.holds_tied_plain_at .later [] [.handle] true (true, "d4beb21e8108362cc8d9ea74d636057a41c1365b5261728524ba1bd981600391") true
  over (fun _ h=>by cases h) (by kernel_rfl) (fun _ h=>by cases h) mendCut_row_tie rfl ⟨rfl,rfl⟩ (by kernel_rfl) rfl
  (fun f fn hf hfn=>by
   obtain rfl:f=6:=Option.some.inj ((show Tryz.prog.funcNamed "stave/stavelaw13.MendCut"=some 6 by kernel_rfl).symm.trans hf) |>.symm
   obtain rfl:fn=Tryz.f6:=(Option.some.inj (Tryz.func6.symm.trans hfn)).symm
   exact ⟨by kernel_rfl,fun j t ht=>by
    rw [Tryz.params6] at ht
    rcases j with _ | _ | _ | _ | _ | j
    ·
     simp at ht; subst ht; kernel_rfl
    ·
     simp at ht; subst ht; kernel_rfl
    ·
     simp at ht; subst ht; kernel_rfl
    ·
     simp at ht; subst ht; kernel_rfl
    ·
     simp at ht; subst ht; kernel_rfl
    ·
     simp at ht⟩)
  (by kernel_rfl)
#print axioms proved
end Go.Proofs.YtkipjmbplmdaaaaGreatDoor.mendCut
