/- The statement MendTurns, as its tied card: for every input the call of stavelaw13's MendTurns answers true, and its arguments read behind it as they read before. No condition of our own. -/
/- Texts of one proof, joined: WMendTurns, LawMendTurns. -/
import Derived.Test.YtkipjmbplmdaaaaGreatDoorMAE
import Derived.Test.YtkipjmbplmdaaaaGreatDoorMW
import Derived.Test.YtkipjmbplmdaaaaGreatDoorMP
import Derived.Test.YtkipjmbplmdaaaaGreatDoorMC
import Derived.Test.YtkipjmbplmdaaaaGreatDoorCards
import Derived.Test.YtkipjmbplmdaaaaGreatDoorTie
import Derived.WalkKit
import Derived.ProofKit
import Derived.OpenShut
import Derived.ShutString
import Derived.ChangeOld
import Derived.Below
import Derived.SevenTiedAt
set_option linter.unusedVariables false
set_option linter.unusedSimpArgs false
namespace Go.Proofs.YtkipjmbplmdaaaaGreatDoor
set_option linter.unusedVariables false
open Go Go.RowKit
set_option maxRecDepth 100000 in
set_option maxHeartbeats 4000000 in
theorem mendTurns_c (k n ticks:Int) (w:World) (hg:EtLaid w) :
  Calls Tryz.prog 5 #[.int .i64 k,.int .i64 n,.int .i64 ticks] w fun e w'=>e=.returned (.bool true)/\Ext w w':=by
 have HG:=hid hg
 have hzc:=Zb3
 have HCS:=hid Cfg.A_size
 clear hg
 go_enter Tryz.func5,Tryz.ntmps5
 go_wp2_with fail
 refine (kfixed_c k n 3 2 _).mono ?_
 rintro e w1 ⟨rfl,x1⟩
 have HGD:=hid (show (keepFixed k n 3 2).Good from keepFixed_good k n 3 2 (by omega) (by omega) (by omega) (by omega))
 have HK4:=hid (keepFixed_k4 k n 3 2)
 have HN6:=hid (keepFixed_n6 k n 3 2)
 have HST:=hid (show (keepFixed k n 3 2).stripes=3 from rfl)
 have HSL:=hid (show (keepFixed k n 3 2).slots=2 from rfl)
 generalize keepFixed k n 3 2=c at *
 obtain ⟨W1,hW1⟩:∃ W,w1.alloc (.cells (Cfg.A c) 23)=W:=⟨_,rfl⟩
 have X1:=hid (show Ext w W1 from hW1▸x1.alloc _)
 have HC:=hid (show W1.heap[w1.heap.size]?=some (.cells (Cfg.A c) 23 (0,0)) from hW1▸heap_alloc_new _ _)
 have hbs:(w1.alloc (.cells (Cfg.A Cfg.zero) 23)).heap[w1.heap.size]?=some (.cells (Cfg.A Cfg.zero) 23 (0,0)):=Zad
 clear x1
 have HW1:=hid hW1
 clear hW1
 obtain ⟨m,hm,m1,m128⟩:=sectors_nat c HGD.out
 obtain ⟨nn,hn⟩:∃ nn:Nat,c.n=nn:=⟨c.n.toNat,by have:=HGD.out.k0; have:=HGD.out.k1; omega⟩
 obtain ⟨kk,hk⟩:∃ kk:Nat,c.k=kk:=⟨c.k.toNat,by have:=HGD.out.k0; omega⟩
 have HNT:=hid (show c.n.toNat=nn by omega)
 have HKT:=hid (show c.k.toNat=kk by omega)
 have n1:1<=nn:=by have:=HGD.out.k0; have:=HGD.out.k1; omega
 have n8:nn<=6:=by have:=HN6.out; omega
 have k1:1<=kk:=by have:=HGD.out.k0; omega
 have k4:kk<=4:=by have:=HK4.out; omega
 have HKN:=hid (show kk<=nn by have:=HGD.out.k1; omega)
 have HM:=hid hm; have HN:=hid hn; have HK:=hid hk
 obtain ⟨R1,R2,e1,e2,h2,v2⟩:=VH.start HGD.out HK4.out HN6.out (m:=m) (by rw [HM.out]; exact Int.le_refl _)
 rw [HNT.out] at e1
 have HV2:=hid h2; have HVV2:=hid v2
 have HE1:=hid e1; have HE2:=hid e2
 clear hm hn hk e1 e2 h2 v2
 go_wp2_with (first
  | (guard_target=wpList _ _ _ (⟨none,Op.store _ _ _,_,_,_,none⟩::_) _ _; have hb0:=hbs; clear hbs; refine Zaa rfl 23 _ _ rfl w1.heap.size rfl (Cfg.A c) _ rfl 23 ?_ hb0 ?_ ?_ ?_; (rw [HCS.out]; exact aggCfg); (rw [HCS.out,HCS.out]); exact Cfg.A_one _; rw [Zai,HW1.out])
  | (guard_target=wpList _ _ _ (⟨some _,Op.load _ _,_,_,_,none⟩::_) _ _; refine Zac rfl 23 _ rfl ⟨w1.heap.size,0,none⟩ rfl (Cfg.A c) (Zap c) (Zaf HC.out) ?_))
 have HLT:=hid (lt_of_block HC.out)
 generalize w1.heap.size=gc at *
 refine (mopened_c c HGD.out nn m HN.out HM.out m1 m128 HE1.out HE2.out W1).mono ?_
 rintro e w2 ⟨r,g,T,ho⟩
 obtain rfl:=ho.ret
 have HX2:=hid (show VX w w2 T r R2 gc c g ⟨c,1,false⟩ from ⟨⟨ho.ve.rack,Ext.trans X1.out ho.ve.ext,fun b hb=>ho.ve.low b (Nat.lt_of_lt_of_le hb X1.out.size)⟩,ho.ve.ext.at HC.out,ho.ve.low gc HLT.out,ho.vol,ho.gT,Nat.le_trans X1.out.size ho.new,fun q=>by have:=ho.new; have:=HLT.out; omega⟩)
 clear ho HE1 HE2 HC X1 HLT
 have HVI:=hid (VI.new HGD.out)
 have hgr:c.groups=6:=by unfold Cfg.groups; rw [HST.out,HSL.out]; rfl
 obtain ⟨GN,hGN⟩:∃ GN,c.groups=GN:=⟨_,rfl⟩
 have HGN:=hid hGN
 have HG6:=hid (show GN=6 by rw [<- hGN]; exact hgr)
 clear HVV2 hgr hGN
 go_wp2_with fail
 refine (mnew_c g w2).mono ?_
 rintro e w3 ⟨p,rfl,hp,hm,x3⟩
 obtain ⟨S3,hS⟩:∃ S',wideS T w2 w3=S':=⟨_,rfl⟩
 have HX3:=hid (hS▸MX.start HX2.out x3 hm hp)
 clear hp hm x3 hS HX2
 go_wp2_with fail
 refine (mat_c HX3.out.mend).mono ?_
 rintro e _ ⟨rfl,rfl⟩
 go_wp2_with fail
 refine (within_c ticks 0 30 _ (by omega) (by omega) (by omega)).mono ?_
 rintro e w4 ⟨rfl,rfl⟩
 obtain ⟨q0,q1⟩:=Zcx ticks 0 30 (by omega)
 obtain ⟨tk,htk⟩:=Int.eq_ofNat_of_zero_le q0
 rw [htk]
 have tk30:(tk:Int)<=30:=by omega
 clear htk q0 q1
 go_wp2
 go_loopw [12] (fun t wr=>∃ i:Nat,t=.int .i64 i/\i<=tk/\∃ R,VH R c m true (VH.jNew c) (VH.fNew c)/\MX w wr S3 r R gc c g ⟨c,1,false⟩ p ((i:Int) % GN)) (fun t _=>tk - (intOf t).toNat)
 case atStart=>exact ⟨0,rfl,by omega,R2,HV2.out,by
  have e:((0:Nat):Int) % GN=0:=by rw [HG6.out]; rfl
  rw [e]; exact HX3.out⟩
 case round =>
  clear HX3 HV2
  obtain ⟨i,rfl,hi,R,hv,hx⟩:=hrel
  have HV:=hid hv; have HX:=hid hx
  clear hv hx
  by_cases hlt:i < tk
  ·
   have i0:(0:Int)<=(i:Int):=by omega
   have i1:(i:Int) < (tk:Int):=by omega
   have i30:(i:Int)<=30:=by omega
   obtain ⟨gn,hgn⟩:∃ gn:Nat,(i:Int) % GN=(gn:Int):=⟨i % 6,by rw [HG6.out]; omega⟩
   have hg6:(gn:Int) < 6:=by rw [<- hgn,HG6.out]; omega
   obtain ⟨R',e,hv⟩:=HV.out.tick HVI.out HM.out.symm HK4.out HN6.out (g:=gn) (by rw [HGN.out,HG6.out]; exact hg6)
   rw [HGN.out] at e
   obtain ⟨B,hB⟩:∃ B,((i:Int)+1) % GN=B:=⟨_,rfl⟩
   have hB2:((gn:Int)+1) % GN=B:=by rw [<- hB,<- hgn,HG6.out]; omega
   rw [hB2] at e
   have HTK:=hid e; have HV':=hid hv
   have hac:=(show MX w wr S3 r R gc c g ⟨c,1,false⟩ p gn from hgn▸HX.out).callTick HGD.out (by omega) (by show (gn:Int) < c.groups; rw [HGN.out,HG6.out]; exact hg6)
   have HAC:=hid hac
   have HXG:=hid (show MX w wr S3 r R gc c g ⟨c,1,false⟩ p gn from hgn▸HX.out)
   have HBB:=hid hB
   have w4:((i:Int)+1).tmod GN=B:=by rw [<- hB]; exact Int.tmod_eq_emod_of_nonneg (by omega)
   have w5:¬GN=0:=by rw [HG6.out]; omega
   have W1:=hid (show wrap64 ((i:Int)+1)=(i:Int)+1 from wwrap1 (by omega))
   have w7:IntKind.i64.wrap ((i:Int)+1)=(i:Int)+1:=iwrap1 (by omega)
   have W4:=hid w4; have W5:=hid w5; have W7:=hid w7
   clear w7
   clear e hv hac hgn hg6 hB hB2 w4 w5 HX HV
   go_wp2_with fail
   refine HAC.out.mono ?_
   rintro e w8 h8
   rw [HTK.out] at h8
   obtain rfl:=h8.ret
   have HX8:=hid (show MX w w8 S3 r R' gc c g ⟨c,1,false⟩ p B from HXG.out.tick h8)
   simp only [oErr]
   clear h8 HXG HAC HTK
   have xd:Ext w8 w8.drew:=(Ext.refl w8).drew
   have HXD:=hid (HX8.out.more xd)
   have ca:Hid (∀ y:SW Ext w8.drew,Calls Tryz.prog 13 #[.pointer (some ⟨p,0,none⟩)] y.w fun e w''=>e=.returned (.int .i64 B)/\Ext y.w w''):=hid fun y=>(mat_c (HXD.out.mend.ext y.ext)).mono fun e w'' q=>⟨q.1,q.2▸Ext.refl _⟩
   have cg:Hid (∀ y:SW Ext w8.drew,Calls Tryz.prog 12 #[.agg (Cfg.A c)] y.w fun e w''=>e=.returned (.int .i64 GN)/\Ext y.w w''):=hid fun y=>by
    have:=mgroups_c c HGD.out y.w
    rw [HGN.out] at this; exact this
   have lc:Hid (∀ y:SW Ext w8.drew,∀ j u,(Cfg.A c).toList[j]?=some u->y.w.cell? ((⟨gc,0,none⟩:Addr).add j)=some u):=hid fun y=>Zaf (y.ext.at HXD.out.vx.cfg)
   have w7:=W7.out; have w4:=W4.out; have w5:=W5.out
   clear xd HXD
   go_wp2_with fail
   refine Zan (S:=Ext) (.fin [0,1,2,3,4,5,6,7,8,9,10,11,12,13,14,15]) (by kernel_rfl) (by kernel_rfl) (fun _ _ d _ _ h=>by cases d<;>exact h) ?_
   rw [wpS]
   simp only [opsAt,opA,opB,opC,opD,opE,opF,opG]
   iterate 8 ((refine Zab (fun K hK=>?_); go_simp; refine hK _ ?_; clear hK K))
   (refine Zab (fun K hK=>?_); go_simp; (apply Exists.intro; refine ⟨fun x=>?_,hK _ ?_⟩; (exact ca.out x); clear hK K))
   iterate 2 ((refine Zab (fun K hK=>?_); go_simp; refine hK _ ?_; clear hK K))
   refine Zaj 23 _ rfl ⟨gc,0,none⟩ rfl (Cfg.A c) rfl (Zap c) lc.out ?_
   (refine Zab (fun K hK=>?_); go_simp; (apply Exists.intro; refine ⟨fun x=>?_,hK _ ?_⟩; (exact cg.out x); clear hK K))
   iterate 3 ((refine Zab (fun K hK=>?_); go_simp; refine hK _ ?_; clear hK K))
   refine Zah ?_
   intro V9 hV9
   have HX9:=hid (HX8.out.more (Ext.trans (Ext.refl w8).drew hV9))
   clear ca cg lc hV9 HX8 w4 w5 w7
   have w1:=W1.out
   go_wp2
   clear w1
   exact ⟨⟨i+1,by go_num,by omega,R',HV'.out,by rw [show ((i+1:Nat):Int) % GN=B from HBB.out]; exact HX9.out⟩,by simp [intOf]; omega⟩
  ·
   obtain rfl:tk=i:=by omega
   have hl:=(HV.out.gt HVI.out).live
   have hal:(R.dsk ((0:Nat):Int)).dead=false:=by have:=((HV.out.gt HVI.out).dsk 0 (by rw [HNT.out]; omega)).dead; exact this
   have HOF:=hid (hl.burnt hal)
   clear hl hal
   go_wp2_with fail
   refine (at_arm HX.out.rack 0 (by omega)).mono ?_
   rintro e w5 ⟨rfl,h5,k5⟩
   have HX5:=hid (HX.out.keep h5 k5)
   clear h5 k5 HX
   go_wp2_with fail
   refine (at_flush HX5.out.rack 0).mono ?_
   rintro e w6 ⟨rfl,h6,k6⟩
   have HX6:=hid (HX5.out.keep h6 k6)
   have HO6:=hid (show ((R.arm 0).flush 0).2.off=true from HOF.out)
   generalize (R.arm 0).flush 0=Q6 at *
   obtain ⟨o6,R6⟩:=Q6
   simp only at HX6 HO6 ⊢
   obtain ⟨ov,hov⟩:∃ ov,oErr o6=ov:=⟨_,rfl⟩
   rw [hov]
   clear h6 k6 HX5 HOF hov HV
   obtain ⟨B,hB⟩:∃ B,(tk:Int) % GN=B:=⟨_,rfl⟩
   rw [hB] at HX6
   have HTK:=hid (tick_off (v:=⟨c,1,false⟩) (g:=B) HO6.out)
   have hac:=HX6.out.callTick HGD.out (by rw [<- hB,HG6.out]; omega) (by show B < c.groups; rw [HGN.out,<- hB,HG6.out]; omega)
   have HAC:=hid hac
   have HB0:=hid (show 0<=B/\B < GN by rw [<- hB,HG6.out]; omega)
   have w4:(tk:Int).tmod GN=B:=by rw [<- hB]; exact Int.tmod_eq_emod_of_nonneg (by omega)
   have W4:=hid w4
   have W5:=hid (show ¬GN=0 by rw [HG6.out]; omega)
   clear hac hB w4
   go_wp2_with fail
   refine HAC.out.mono ?_
   rintro e w7 h7
   rw [HTK.out] at h7
   obtain rfl:=h7.ret
   have HX7:=hid (show MX w w7 S3 r R6 gc c g ⟨c,1,false⟩ p B from HX6.out.tick h7)
   obtain ⟨er,her⟩:∃ er,Err.fault sMTick B (.no 5)=er:=⟨_,rfl⟩
   have HLO:Hid (er.lost=false/\er.kind=5):=hid (by rw [<- her]; exact ⟨rfl,rfl⟩)
   rw [her]
   simp only [oErr]
   obtain ⟨et,ev,hev⟩:=er.iface
   have HEV:=hid hev
   rw [hev]
   clear h7 HX6 HAC HTK her hev
   have xd:Ext w7 w7.drew:=(Ext.refl w7).drew
   have HXD:=hid (HX7.out.more xd)
   have ck:Hid (∀ y:SW Ext w7.drew,Calls Tryz.prog 25 #[.iface et ev] y.w fun e w''=>e=.returned (.int .i64 5)/\Ext y.w w''):=hid fun y=>by
    have:=kind_no er HLO.out.1 y.w (HG.out.only (Ext.trans HXD.out.ext y.ext) (fun x=>x))
    rw [HLO.out.2,HEV.out] at this; exact this
   have ca:Hid (∀ y:SW Ext w7.drew,Calls Tryz.prog 13 #[.pointer (some ⟨p,0,none⟩)] y.w fun e w''=>e=.returned (.int .i64 B)/\Ext y.w w''):=hid fun y=>(mat_c (HXD.out.mend.ext y.ext)).mono fun e w'' q=>⟨q.1,q.2▸Ext.refl _⟩
   have cg:Hid (∀ y:SW Ext w7.drew,Calls Tryz.prog 12 #[.agg (Cfg.A c)] y.w fun e w''=>e=.returned (.int .i64 GN)/\Ext y.w w''):=hid fun y=>by
    have:=mgroups_c c HGD.out y.w
    rw [HGN.out] at this; exact this
   have lc:Hid (∀ y:SW Ext w7.drew,∀ j u,(Cfg.A c).toList[j]?=some u->y.w.cell? ((⟨gc,0,none⟩:Addr).add j)=some u):=hid fun y=>Zaf (y.ext.at HXD.out.vx.cfg)
   have w4:=W4.out; have w5:=W5.out
   clear xd HXD
   go_wp2_with fail
   refine Zan (S:=Ext) (.fin [0,1,2,3,4,5,6,7,8,9,10,11,12,13,14,15]) (by kernel_rfl) (by kernel_rfl) (fun _ _ d _ _ h=>by cases d<;>exact h) ?_
   rw [wpS]
   simp only [opsAt,opA,opB,opC,opD,opE,opF,opG]
   iterate 4 ((refine Zab (fun K hK=>?_); go_simp; refine hK _ ?_; clear hK K))
   (refine Zab (fun K hK=>?_); go_simp; (apply Exists.intro; refine ⟨fun x=>?_,hK _ ?_⟩; (exact ck.out x); clear hK K))
   iterate 4 ((refine Zab (fun K hK=>?_); go_simp; refine hK _ ?_; clear hK K))
   (refine Zab (fun K hK=>?_); go_simp; (apply Exists.intro; refine ⟨fun x=>?_,hK _ ?_⟩; (exact ca.out x); clear hK K))
   (refine Zab (fun K hK=>?_); go_simp; refine hK _ ?_; clear hK K)
   refine Zaj 23 _ rfl ⟨gc,0,none⟩ rfl (Cfg.A c) rfl (Zap c) lc.out ?_
   (refine Zab (fun K hK=>?_); go_simp; (apply Exists.intro; refine ⟨fun x=>?_,hK _ ?_⟩; (exact cg.out x); clear hK K))
   iterate 3 ((refine Zab (fun K hK=>?_); go_simp; refine hK _ ?_; clear hK K))
   refine Zah ?_
   intro V9 hV9
   have HX9:=hid (HX7.out.more (Ext.trans (Ext.refl w7).drew hV9))
   clear ck ca cg lc hV9 HX7 w4 w5 HLO HEV
   go_wp2_with fail
   refine (at_boot HX9.out.rack none 0 0 [] ⟨rfl,fun x hx=>absurd hx List.not_mem_nil,.inl rfl⟩ (fun p hp=>by cases hp)).mono ?_
   rintro e w10 ⟨rfl,h10,k10⟩
   have HX10:=hid (HX9.out.keep h10 k10)
   clear h10 k10 HX9
   go_wp2_with fail
   refine (vfail_c HX10.out.vol).mono ?_
   rintro e w11 ⟨rfl,hvol,ho⟩
   have HX11:=hid (show MX w w11 S3 r _ gc c g ⟨c,1,true⟩ p B from HX10.out.setvol ho hvol)
   generalize R6.boot []=R7 at *
   have HTK:=hid (tick_down (c:=c) (cur:=1) (R:=R7) (g:=B))
   have hac:=HX11.out.callTick HGD.out HB0.out.1 (by show B < c.groups; rw [HGN.out]; exact HB0.out.2)
   have HAC:=hid hac
   clear hvol ho HX10 hac
   go_wp2_with fail
   refine HAC.out.mono ?_
   rintro e w12 h12
   rw [HTK.out] at h12
   obtain rfl:=h12.ret
   have HX12:=hid (show MX w w12 S3 r R7 gc c g ⟨c,1,true⟩ p B from HX11.out.tick h12)
   obtain ⟨er,her⟩:∃ er,Err.fault sMTick B (.no 5)=er:=⟨_,rfl⟩
   have HLO:Hid (er.lost=false/\er.kind=5):=hid (by rw [<- her]; exact ⟨rfl,rfl⟩)
   rw [her]
   simp only [oErr]
   obtain ⟨et,ev,hev⟩:=er.iface
   have HEV:=hid hev
   rw [hev]
   clear h12 HX11 HAC HTK her hev
   have xd:Ext w12 w12.drew:=(Ext.refl w12).drew
   have HXD:=hid (HX12.out.more xd)
   have ck:Hid (∀ y:SW Ext w12.drew,Calls Tryz.prog 25 #[.iface et ev] y.w fun e w''=>e=.returned (.int .i64 5)/\Ext y.w w''):=hid fun y=>by
    have:=kind_no er HLO.out.1 y.w (HG.out.only (Ext.trans HXD.out.ext y.ext) (fun x=>x))
    rw [HLO.out.2,HEV.out] at this; exact this
   have ca:Hid (∀ y:SW Ext w12.drew,Calls Tryz.prog 13 #[.pointer (some ⟨p,0,none⟩)] y.w fun e w''=>e=.returned (.int .i64 B)/\Ext y.w w''):=hid fun y=>(mat_c (HXD.out.mend.ext y.ext)).mono fun e w'' q=>⟨q.1,q.2▸Ext.refl _⟩
   have cg:Hid (∀ y:SW Ext w12.drew,Calls Tryz.prog 12 #[.agg (Cfg.A c)] y.w fun e w''=>e=.returned (.int .i64 GN)/\Ext y.w w''):=hid fun y=>by
    have:=mgroups_c c HGD.out y.w
    rw [HGN.out] at this; exact this
   have cr:Hid (∀ y:SW Ext w12.drew,Calls Tryz.prog 17 #[] y.w fun e w''=>e=.returned (.bool true)/\Ext y.w w''):=hid fun y=>mendRuns_c y.w
   have lc:Hid (∀ y:SW Ext w12.drew,∀ j u,(Cfg.A c).toList[j]?=some u->y.w.cell? ((⟨gc,0,none⟩:Addr).add j)=some u):=hid fun y=>Zaf (y.ext.at HXD.out.vx.cfg)
   have w4:=W4.out; have w5:=W5.out
   clear xd HXD
   go_wp2_with fail
   refine Zan (S:=Ext) (.fin [0,1,2,3,4,5,6,7,8,9,10,11,12,13,14,15,16,17,18,19]) (by kernel_rfl) (by kernel_rfl) (fun _ _ d _ _ h=>by cases d<;>exact h) ?_
   rw [wpS]
   simp only [opsAt,opA,opB,opC,opD,opE,opF,opG]
   iterate 4 ((refine Zab (fun K hK=>?_); go_simp; refine hK _ ?_; clear hK K))
   (refine Zab (fun K hK=>?_); go_simp; (apply Exists.intro; refine ⟨fun x=>?_,hK _ ?_⟩; (exact ck.out x); clear hK K))
   iterate 4 ((refine Zab (fun K hK=>?_); go_simp; refine hK _ ?_; clear hK K))
   (refine Zab (fun K hK=>?_); go_simp; (apply Exists.intro; refine ⟨fun x=>?_,hK _ ?_⟩; (exact ca.out x); clear hK K))
   (refine Zab (fun K hK=>?_); go_simp; refine hK _ ?_; clear hK K)
   refine Zaj 23 _ rfl ⟨gc,0,none⟩ rfl (Cfg.A c) rfl (Zap c) lc.out ?_
   (refine Zab (fun K hK=>?_); go_simp; (apply Exists.intro; refine ⟨fun x=>?_,hK _ ?_⟩; (exact cg.out x); clear hK K))
   iterate 4 ((refine Zab (fun K hK=>?_); go_simp; refine hK _ ?_; clear hK K))
   (refine Zab (fun K hK=>?_); go_simp; (apply Exists.intro; refine ⟨fun x=>?_,hK _ ?_⟩; (exact cr.out x); clear hK K))
   iterate 2 ((refine Zab (fun K hK=>?_); go_simp; refine hK _ ?_; clear hK K))
   refine Zah ?_
   intro V13 hV13
   have HX13:=hid (HX12.out.more (Ext.trans (Ext.refl w12).drew hV13))
   clear ck ca cg cr lc hV13 HX12 w4 w5 HLO HEV
   go_wp2
   go_ret
   exact ⟨rfl,HX13.out.ext⟩
end Go.Proofs.YtkipjmbplmdaaaaGreatDoor
namespace Go.Proofs.YtkipjmbplmdaaaaGreatDoor.mendTurns
open Go.ChangeShapes Go.WideShapes Go.ChangeAt Go.RowKit
open Go.ChangeMaps (open_string shut_string)
set_option linter.unusedVariables false
theorem laidOut:laidOutB Tryz.prog=true:=by kernel_rfl
theorem walk (a0:Int) (a1:Int) (a2:Int) (w:World) (hg:EtLaid w) (w0:(Lit.int .i64 a0).wf=true) (w1:(Lit.int .i64 a1).wf=true) (w2:(Lit.int .i64 a2).wf=true) :
  Calls Tryz.prog 5 #[.int .i64 a0,.int .i64 a1,.int .i64 a2] w fun e w'=>e=.returned (.bool true)/\Below w.heap.size w w' :=
 (mendTurns_c a0 a1 a2 w hg).mono fun _ _ ⟨he,hx⟩=>⟨he,hx.below⟩
set_option maxRecDepth 100000 in
theorem lifted (os:Os) (started:os.Started) (H:Type) (enc:TypeId × Value->H) :
  ReturnsInHanded {} Tryz.checked os 5 .any (fun w args=>(Rows.mendTurnsSpec.pre enc Tryz.prog Tryz.f5 [] false w args/\laidMetH Tryz.prog theLaid w)/\sizedMet enc Tryz.prog Tryz.f5 (OpenSpec.ofChange Rows.mendTurnsSpec) false w args)
   (Rows.mendTurnsSpec.post enc Tryz.prog Tryz.f5 false true false false):=by
 refine returnsInHanded_of_change_and (C:=Tryz.checked) (X:=fun w _=>laidMetH Tryz.prog theLaid w) (fun _ _ _ hh h=>h.of_heap hh) hOwn started (by kernel_rfl) Tryz.func5
  (ChangeSpec.witness_at (enc:=enc) (C:=Tryz.checked) (os:=os) (X:=fun w _=>laidMetH Tryz.prog theLaid w) false (laidWorld os) #[.int .i64 0,.int .i64 0,.int .i64 0] 8 rfl (by kernel_rfl) (by kernel_rfl) (by kernel_rfl) (by kernel_rfl) (by kernel_rfl) (laidWorld_met os _)) ?_
 intro W base args ds gs before hval0 hW _ _ hL _
 have hval:∀ (j:Nat) t v,Tryz.f5.params[j]?=some t->args[j]?=some v->Value.okWide Tryz.prog W .any base t v:=hval0
 have hW':=hW
 obtain ⟨p,q,hA0,hV,rfl,hfz,hnd⟩:=hW
 have hA:DataW.TrodAll enc Tryz.prog W 0 (fun _=>true) true Tryz.f5.params.toList args.toList ds p:=hA0
 rw [Tryz.params5] at hA hval
 obtain ⟨v0,vs0,d0,ds0,p0,q0,hargs,rfl,rfl,h0,r0⟩:=trodAll_cons hA
 obtain ⟨v1,vs1,d1,ds1,p1,q1,rfl,rfl,rfl,h1,r1⟩:=trodAll_cons r0
 obtain ⟨v2,vs2,d2,ds2,p2,q2,rfl,rfl,rfl,h2,r2⟩:=trodAll_cons r1
 obtain ⟨rfl,rfl,rfl⟩:=trodAll_nil r2
 obtain rfl:args=#[v0,v1,v2]:=by cases args; simp_all
 obtain ⟨rfl,rfl⟩:=trodVars_none hV
 obtain ⟨a0,rfl,rfl,rfl,w0⟩:=open_int Tryz.underlying3 (hval 0 3 v0 rfl rfl) h0
 obtain ⟨a1,rfl,rfl,rfl,w1⟩:=open_int Tryz.underlying3 (hval 1 3 v1 rfl rfl) h1
 obtain ⟨a2,rfl,rfl,rfl,w2⟩:=open_int Tryz.underlying3 (hval 2 3 v2 rfl rfl) h2
 have hg:=etLaid_of hL
 clear hA0 hval0
 simp only [List.append_nil] at hW'
 refine (walk a0 a1 a2 W hg w0 w1 w2).mono fun e W' ⟨he,bel⟩=>?_
 subst he
 exact ⟨_,rfl,_,_,_,[],_,[],hW',trodAll_mk1 (shut_bool Tryz.underlying4 _),(trodAll_cons_mk (shut_int Tryz.underlying3 w0) (trodAll_cons_mk (shut_int Tryz.underlying3 w1) (trodAll_cons_mk (shut_int Tryz.underlying3 w2) trodAll_mk0))),rfl,bel.frame _,fun h=>by cases h⟩
theorem over:Rows.MendTurnsSaid :=
 OpenClaim.holds_of_wide 5 Tryz.f5 rfl rfl rfl rfl rfl rfl rfl ⟨rfl,rfl,rfl,rfl,rfl⟩ rfl rfl rfl rfl rfl (by kernel_rfl) Tryz.func5 (by kernel_rfl)
  (of_decide_eq_true (by kernel_rfl)) (by unfold Func.isWrapper; first | (rw [if_pos (by decide +kernel)]; kernel_rfl) | (rw [if_neg (by decide +kernel)]; exact ⟨rfl,rfl⟩))
  (fun os started H enc _=>lifted os started H enc)
theorem proved:Rows.MendTurnsCardSaid :=
 Claim7.holds_tied_plain_at .later [] [.handle] true (true, "d4beb21e8108362cc8d9ea74d636057a41c1365b5261728524ba1bd981600391") true
  over (fun _ h=>by cases h) (by kernel_rfl) (fun _ h=>by cases h) mendTurns_row_tie rfl ⟨rfl,rfl⟩ (by kernel_rfl) rfl
  (fun f fn hf hfn=>by
   obtain rfl:f=5:=Option.some.inj ((show Tryz.prog.funcNamed "stave/stavelaw13.MendTurns"=some 5 by kernel_rfl).symm.trans hf) |>.symm
   obtain rfl:fn=Tryz.f5:=(Option.some.inj (Tryz.func5.symm.trans hfn)).symm
   exact ⟨by kernel_rfl,fun j t ht=>by
    rw [Tryz.params5] at ht
    rcases j with _ | _ | _ | j
    ·
     simp at ht; subst ht; kernel_rfl
    ·
     simp at ht; subst ht; kernel_rfl
    ·
     simp at ht; subst ht; kernel_rfl
    ·
     simp at ht⟩)
  (by kernel_rfl)
#print axioms proved
end Go.Proofs.YtkipjmbplmdaaaaGreatDoor.mendTurns
