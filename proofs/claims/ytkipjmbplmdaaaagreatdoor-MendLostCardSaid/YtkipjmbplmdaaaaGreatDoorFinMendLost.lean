/- The statement MendLost, as its tied card: for every input the call of stavelaw13's MendLost answers true, and its arguments read behind it as they read before. No condition of our own. -/
/- Texts of one proof, joined: WMendLost, LawMendLost. -/
import Derived.Test.YtkipjmbplmdaaaaGreatDoorMAE
import Derived.Test.YtkipjmbplmdaaaaGreatDoorMAG
import Derived.Test.YtkipjmbplmdaaaaGreatDoorMW
import Derived.Test.YtkipjmbplmdaaaaGreatDoorMP
import Derived.Test.YtkipjmbplmdaaaaGreatDoorMC
import Derived.Test.YtkipjmbplmdaaaaGreatDoorMAF
import Derived.Test.YtkipjmbplmdaaaaGreatDoorCards
import Derived.Test.YtkipjmbplmdaaaaGreatDoorTie
import Derived.WalkKit
import Derived.ProofKit
import Derived.OpenShut
import Derived.ShutString
import Derived.ChangeOld
import Derived.Below
import Derived.SevenTiedAt
set_option linter.unusedVariables false
set_option linter.unusedSimpArgs false
namespace Go.Proofs.YtkipjmbplmdaaaaGreatDoor
set_option linter.unusedVariables false
open Go Go.RowKit
set_option maxRecDepth 100000 in
set_option maxHeartbeats 1000000 in
theorem mendLost_c (k n s rounds:Int) (w:World) (hg:EtLaid w) :
  Calls Tryz.prog 3 #[.int .i64 k,.int .i64 n,.int .i64 s,.int .i64 rounds] w fun e w'=>e=.returned (.bool true)/\Ext w w':=by
 have HG:=hid hg
 have hzc:=Zb3
 have HCS:=hid Cfg.A_size
 clear hg
 go_enter Tryz.func3,Tryz.ntmps3
 go_wp2_with fail
 refine (kfixed_c k n 4 1 _).mono ?_
 rintro e w1 ⟨rfl,x1⟩
 have HGD:=hid (show (keepFixed k n 4 1).Good from keepFixed_good k n 4 1 (by omega) (by omega) (by omega) (by omega))
 have HK4:=hid (keepFixed_k4 k n 4 1)
 have HN6:=hid (keepFixed_n6 k n 4 1)
 have HST:=hid (show (keepFixed k n 4 1).stripes=4 from rfl)
 have HSL:=hid (show (keepFixed k n 4 1).slots=1 from rfl)
 generalize keepFixed k n 4 1=c at *
 obtain ⟨W1,hW1⟩:∃ W,w1.alloc (.cells (Cfg.A c) 23)=W:=⟨_,rfl⟩
 have X1:=hid (show Ext w W1 from hW1▸x1.alloc _)
 have HC:=hid (show W1.heap[w1.heap.size]?=some (.cells (Cfg.A c) 23 (0,0)) from hW1▸heap_alloc_new _ _)
 have hbs:(w1.alloc (.cells (Cfg.A Cfg.zero) 23)).heap[w1.heap.size]?=some (.cells (Cfg.A Cfg.zero) 23 (0,0)):=Zad
 clear x1
 have HW1:=hid hW1
 clear hW1
 obtain ⟨m,hm,m1,m128⟩:=sectors_nat c HGD.out
 obtain ⟨nn,hn⟩:∃ nn:Nat,c.n=nn:=⟨c.n.toNat,by have:=HGD.out.k0; have:=HGD.out.k1; omega⟩
 obtain ⟨kk,hk⟩:∃ kk:Nat,c.k=kk:=⟨c.k.toNat,by have:=HGD.out.k0; omega⟩
 have HNT:=hid (show c.n.toNat=nn by omega)
 have HKT:=hid (show c.k.toNat=kk by omega)
 have n1:1<=nn:=by have:=HGD.out.k0; have:=HGD.out.k1; omega
 have n8:nn<=6:=by have:=HN6.out; omega
 have k1:1<=kk:=by have:=HGD.out.k0; omega
 have k4:kk<=4:=by have:=HK4.out; omega
 have HKN:=hid (show kk<=nn by have:=HGD.out.k1; omega)
 have HM:=hid hm; have HN:=hid hn; have HK:=hid hk
 obtain ⟨R1,R2,e1,e2,h2,v2⟩:=VH.start HGD.out HK4.out HN6.out (m:=m) (by rw [HM.out]; exact Int.le_refl _)
 rw [HNT.out] at e1
 have HV2:=hid h2; have HVV2:=hid v2
 have HE1:=hid e1; have HE2:=hid e2
 clear hm hn hk e1 e2 h2 v2
 go_wp2_with (first
  | (guard_target=wpList _ _ _ (⟨none,Op.store _ _ _,_,_,_,none⟩::_) _ _; have hb0:=hbs; clear hbs; refine Zaa rfl 23 _ _ rfl w1.heap.size rfl (Cfg.A c) _ rfl 23 ?_ hb0 ?_ ?_ ?_; (rw [HCS.out]; exact aggCfg); (rw [HCS.out,HCS.out]); exact Cfg.A_one _; rw [Zai,HW1.out])
  | (guard_target=wpList _ _ _ (⟨some _,Op.load _ _,_,_,_,none⟩::_) _ _; refine Zac rfl 23 _ rfl ⟨w1.heap.size,0,none⟩ rfl (Cfg.A c) (Zap c) (Zaf HC.out) ?_))
 have HLT:=hid (lt_of_block HC.out)
 generalize w1.heap.size=gc at *
 refine (mopened_c c HGD.out nn m HN.out HM.out m1 m128 HE1.out HE2.out W1).mono ?_
 rintro e w2 ⟨r,g,T,ho⟩
 obtain rfl:=ho.ret
 have HX2:=hid (show VX w w2 T r R2 gc c g ⟨c,1,false⟩ from ⟨⟨ho.ve.rack,Ext.trans X1.out ho.ve.ext,fun b hb=>ho.ve.low b (Nat.lt_of_lt_of_le hb X1.out.size)⟩,ho.ve.ext.at HC.out,ho.ve.low gc HLT.out,ho.vol,ho.gT,Nat.le_trans X1.out.size ho.new,fun q=>by have:=ho.new; have:=HLT.out; omega⟩)
 clear ho HE1 HE2 HC X1 HLT
 have HVI:=hid (VI.new HGD.out)
 have hgr:c.groups=6:=by unfold Cfg.groups; rw [HST.out,HSL.out]; rfl
 obtain ⟨GN,hGN⟩:∃ GN,c.groups=GN:=⟨_,rfl⟩
 have HGN:=hid hGN
 have HG6:=hid (show GN=6 by rw [<- hGN]; exact hgr)
 have HST4:=hid (show c.stripes.toNat=4 by rw [HST.out]; rfl)
 have HSL1:=hid (show c.slots.toNat=1 by rw [HSL.out]; rfl)
 have HSEC:=hid (show ∀ i:Nat,((ssecN c i:Nat):Int)=1+(kk:Int)+(i:Int) from fun i=>by unfold ssecN; rw [HSL1.out,HKT.out]; omega)
 clear HVV2 hgr hGN
 go_wp2_with fail
 refine (within_c s 0 3 _ (by omega) (by omega) (by omega)).mono ?_
 rintro e _ ⟨rfl,rfl⟩
 obtain ⟨q0,q1⟩:=Zcx s 0 3 (by omega)
 obtain ⟨x,hx⟩:=Int.eq_ofNat_of_zero_le q0
 rw [hx]
 have x4:x < 4:=by omega
 have HX4:=hid x4
 have xi4:(x:Int) < 4:=by omega
 have HLR:=hid (LR.start (x:=x) (nk:=nn - kk) HV2.out HVI.out)
 clear hx q0 q1 HV2
 have HW1:=hid (mw64 (z:=(nn:Int) - (kk:Int)) (by omega) (by omega))
 have HW2:=hid (mi64w (z:=(nn:Int) - (kk:Int)) (by omega) (by omega))
 have HW3:=hid (mw64 (z:=1+(kk:Int)) (by omega) (by omega))
 have HW4:=hid (mi64w (z:=1+(kk:Int)) (by omega) (by omega))
 have hkn:=HKN.out
 go_wp2
 go_loopw [13] (fun t wr=>∃ d:Nat,t=.int .i64 d/\d<=nn - kk+1/\∃ R,LR R c m (VH.jNew c) (LS (VH.fNew c) x (nn - kk) d 0)/\VX w wr T r R gc c g ⟨c,1,false⟩) (fun t _=>nn+1 - (intOf t).toNat)
 case atStart=>exact ⟨0,rfl,by omega,R2,HLR.out,HX2.out⟩
 case round =>
  clear HLR HX2
  obtain ⟨d,rfl,hd,R,hlr,hx⟩:=hrel
  have HLR:=hid hlr; have HX:=hid hx
  have c1:wr.cell? ⟨gc,1,none⟩=some (.int .i64 kk):=HX.out.c1.trans (by rw [HK.out])
  have c2:wr.cell? ⟨gc,2,none⟩=some (.int .i64 nn):=HX.out.c2.trans (by rw [HN.out])
  clear hlr hx
  by_cases hdl:d<=nn - kk
  ·
   have d0:(0:Int)<=(d:Int):=by omega
   have d1:(d:Int)<=(nn:Int) - (kk:Int):=by omega
   have dn:d < nn:=by omega
   have hw1:=HW1.out; have hw2:=HW2.out
   go_wp2
   clear hw1 hw2 c1 c2
   go_loopw [14] (fun t wq=>∃ i:Nat,t=.int .i64 i/\i<=4/\∃ R,LR R c m (VH.jNew c) (LS (VH.fNew c) x (nn - kk) d i)/\VX w wq T r R gc c g ⟨c,1,false⟩) (fun t _=>4 - (intOf t).toNat)
   case atStart=>exact ⟨0,rfl,by omega,R,HLR.out,HX.out⟩
   case round =>
    clear HLR HX
    obtain ⟨i,rfl,hi,R,hlr,hx⟩:=hrel
    have HLR:=hid hlr; have HX:=hid hx
    have c1:wr.cell? ⟨gc,1,none⟩=some (.int .i64 kk):=HX.out.c1.trans (by rw [HK.out])
    have c2:wr.cell? ⟨gc,2,none⟩=some (.int .i64 nn):=HX.out.c2.trans (by rw [HN.out])
    clear hlr hx
    by_cases hi4:i < 4
    ·
     have i0:(0:Int)<=(i:Int):=by omega
     have i1:(i:Int) < 4:=by omega
     have HW5:=hid (mw64 (z:=1+(kk:Int)+(i:Int)) (by omega) (by omega))
     have HW6:=hid (mi64w (z:=1+(kk:Int)+(i:Int)) (by omega) (by omega))
     by_cases hix:i=x
     ·
      obtain rfl:x=i:=hix.symm
      obtain ⟨ho,hl2⟩:=HLR.out.rot HVI.out HM.out.symm (by rw [HNT.out]; exact dn) (by rw [HST4.out]; exact hi4) (.inl rfl)
      rw [HSEC.out] at ho hl2
      have HOK:=hid ho; have HL2:=hid hl2
      have hw1:=HW1.out; have hw2:=HW2.out; have hw3:=HW3.out; have hw4:=HW4.out; have hw5:=HW5.out; have hw6:=HW6.out
      clear ho hl2 HLR
      go_wp2_with fail
      clear hw1 hw2 hw3 hw4 hw5 hw6
      refine (at_rot HX.out.rack (d:Int) (1+(kk:Int)+(x:Int)) 9 1 (by omega)).mono ?_
      rintro e w8 ⟨rfl,h8,k8⟩
      have ho2:R.rotOk (d:Int) (1+(kk:Int)+(x:Int)) 9 1=true:=HOK.out
      rw [ho2]
      have HX8:=hid (HX.out.keep h8 k8)
      clear h8 k8 HX c1 c2 HW5 HW6 ho2
      go_wp2
      go_roundw
      case rel=>exact ⟨x+1,by go_num,by omega,_,HL2.out,HX8.out⟩
      case measure=>simp [intOf]; omega
     ·
      have E1:((i:Int) == (x:Int))=false:=beq_eq_false_iff_ne.2 (by omega)
      by_cases hdk:d < nn - kk
      ·
       have d2:(d:Int) < (nn:Int) - (kk:Int):=by omega
       obtain ⟨ho,hl2⟩:=HLR.out.rot HVI.out HM.out.symm (by rw [HNT.out]; exact dn) (by rw [HST4.out]; exact hi4) (.inr hdk)
       rw [HSEC.out] at ho hl2
       have HOK:=hid ho; have HL2:=hid hl2
       have hw1:=HW1.out; have hw2:=HW2.out; have hw3:=HW3.out; have hw4:=HW4.out; have hw5:=HW5.out; have hw6:=HW6.out
       clear ho hl2 HLR
       go_wp2_with fail
       clear hw1 hw2 hw3 hw4 hw5 hw6
       refine (at_rot HX.out.rack (d:Int) (1+(kk:Int)+(i:Int)) 9 1 (by omega)).mono ?_
       rintro e w8 ⟨rfl,h8,k8⟩
       have ho2:R.rotOk (d:Int) (1+(kk:Int)+(i:Int)) 9 1=true:=HOK.out
       rw [ho2]
       have HX8:=hid (HX.out.keep h8 k8)
       clear h8 k8 HX c1 c2 HW5 HW6 ho2
       go_wp2
       go_roundw
       case rel=>exact ⟨i+1,by go_num,by omega,_,HL2.out,HX8.out⟩
       case measure=>simp [intOf]; omega
      ·
       have d2:¬(d:Int) < (nn:Int) - (kk:Int):=by omega
       have HL2:=hid (HLR.out.skip (by omega))
       have hw1:=HW1.out; have hw2:=HW2.out
       clear HLR HW5 HW6
       go_wp2
       go_roundw
       case rel=>exact ⟨i+1,by go_num,by omega,R,HL2.out,HX.out⟩
       case measure=>simp [intOf]; omega
    ·
     obtain rfl:i=4:=by omega
     have HL2:=hid (LR.line (q:=d) (by rw [HST4.out]; exact HLR.out))
     clear HLR c1 c2
     go_wp2
     go_roundw
     case rel=>exact ⟨d+1,by go_num,by omega,R,HL2.out,HX.out⟩
     case measure=>simp [intOf]; omega
  ·
   obtain rfl:d=nn - kk+1:=by omega
   have hw1:=HW1.out; have hw2:=HW2.out
   have d1:¬((nn - kk+1:Nat):Int)<=(nn:Int) - (kk:Int):=by omega
   obtain ⟨st0,hst0⟩:∃ st0,LS (VH.fNew c) x (nn - kk) (nn - kk+1) 0=st0:=⟨_,rfl⟩
   have HLT:=hid (show LT R c m (VH.jNew c) (VH.fNew c) x st0 from hst0▸HLR.out.done HVI.out (by rw [HKT.out,HNT.out]; omega) (by rw [HST4.out]; exact HX4.out))
   clear HLR hst0
   obtain ⟨dz,hdz⟩:∃ dz:Int,((nn - kk+1:Nat):Int)=dz:=⟨_,rfl⟩
   rw [hdz] at d1 ⊢
   clear hdz
   go_wp2_with fail
   refine (mnew_c g wr).mono ?_
   rintro e w8 ⟨p,rfl,hp,hm,x8⟩
   obtain ⟨S8,hS⟩:∃ S',wideS T wr w8=S':=⟨_,rfl⟩
   have HX8:=hid (hS▸MX.start HX.out x8 hm hp)
   clear hp hm x8 hS HX c1 c2 d1 hw1 hw2
   obtain ⟨rr,hrr⟩:∃ rr,within rounds 1 3=rr:=⟨_,rfl⟩
   have HR13:=hid (show 1<=rr/\rr<=3 from hrr▸Zcx rounds 1 3 (by omega))
   have HRR:=hid hrr
   have HW7:=hid (show wrap64 (6*rr)=6*rr from mw64 (by have:=HR13.out; omega) (by have:=HR13.out; omega))
   have HW8:=hid (show IntKind.i64.wrap (6*rr)=6*rr from mi64w (by have:=HR13.out; omega) (by have:=HR13.out; omega))
   clear hrr
   go_wp2
   go_loopw [16] (fun t wr=>∃ i:Nat,t=.int .i64 i/\(i:Int)<=6*rr/\∃ R st,LT R c m (VH.jNew c) (VH.fNew c) x st/\MX w wr S8 r R gc c g ⟨c,1,false⟩ p ((i:Int) % GN)/\∀ t,t < 4->t≠x->2+t < i->∀ d,d < c.n.toNat->st d t=VH.fNew c t) (fun t _=>30 - (intOf t).toNat)
   case atStart=>exact ⟨0,rfl,by have:=HR13.out; omega,R,st0,HLT.out,(by
    have e:((0:Nat):Int) % GN=0:=by rw [HG6.out]; rfl
    rw [e]; exact HX8.out),fun t _ _ q=>by omega⟩
   case round =>
    clear HX8 HLT
    obtain ⟨i,rfl,hi,R,st,hlt,hx,hwh⟩:=hrel
    have HLT:=hid hlt; have HX:=hid hx; have HWH:=hid hwh; have HI:=hid hi
    clear hlt hx hwh hi
    have HCX:=hid HX.out.vx.cfg
    go_wp2_with (guard_target=wpList _ _ _ (⟨some _,Op.load _ _,_,_,_,none⟩::_) _ _; refine Zac rfl 23 _ rfl ⟨gc,0,none⟩ rfl (Cfg.A c) (Zap c) (Zaf HCX.out) ?_)
    refine (mgroups_c c HGD.out _).mono ?_
    rintro e w10 ⟨rfl,x10⟩
    rw [HGN.out,HG6.out]
    have HX10:=hid (HX.out.more x10)
    clear x10 HX HCX
    go_wp2_with fail
    refine (within_c rounds 1 3 _ (by omega) (by omega) (by omega)).mono ?_
    rintro e _ ⟨rfl,rfl⟩
    rw [HRR.out]
    have hw7:=HW7.out; have hw8:=HW8.out
    by_cases hlt:(i:Int) < 6*rr
    ·
     have i0:(0:Int)<=(i:Int):=by omega
     have HI18:=hid (show i < 18 by have:=HR13.out; omega)
     obtain ⟨gn,hgn⟩:∃ gn:Nat,gn=i % 6:=⟨_,rfl⟩
     have eim:(i:Int) % GN=(gn:Int):=by rw [HG6.out,hgn]; omega
     have hg6:gn < 6:=by rw [hgn]; omega
     have HXG:=hid (show MX w w10 S8 r R gc c g ⟨c,1,false⟩ p (gn:Int) from eim▸HX10.out)
     obtain ⟨R',nw,st',htk,hlt',hk1,hk2⟩:=HLT.out.tick HVI.out HK4.out HN6.out (by rw [HST4.out]; exact HX4.out) (g:=gn) (by rw [HGN.out,HG6.out]; omega)
     rw [HGN.out,HSL1.out] at htk
     rw [HSL1.out] at hk2
     rw [HST4.out] at hk1
     have HWH':=hid (show ∀ t,t < 4->t≠x->2+t < i+1->∀ d,d < c.n.toNat->st' d t=VH.fNew c t from fun t ht hne hti d hd=>by
      by_cases z:2+t < i
      ·
       exact hk1 t ht hne (HWH.out t ht hne z) d hd
      ·
       have e1:gn=2+t:=by rw [hgn]; omega
       have:=hk2 (by omega) (by omega) d hd
       rw [e1,show 2+t - 1 - 1=t by omega] at this
       exact this)
     obtain ⟨B,hB⟩:∃ B,((gn:Int)+1) % GN=B:=⟨_,rfl⟩
     have hB2:((i+1:Nat):Int) % GN=B:=by rw [<- hB,hgn,HG6.out]; omega
     rw [hB] at htk
     have HTK:=hid htk; have HLT':=hid hlt'; have HB2:=hid hB2; have HGM:=hid hg6
     have hac:=HXG.out.callTick HGD.out (by omega) (by show (gn:Int) < c.groups; rw [HGN.out,HG6.out]; omega)
     have HAC:=hid hac
     have W9:=hid (show wrap64 (2+(x:Int))=2+(x:Int) from mw64 (by omega) (by omega))
     have WA:=hid (show IntKind.i64.wrap (2+(x:Int))=2+(x:Int) from mi64w (by omega) (by omega))
     clear htk hlt' hk1 hk2 hac eim HX10 hB hB2 hgn HWH HLT
     go_wp2_with fail
     clear hw7 hw8
     refine (mat_c HXG.out.mend).mono ?_
     rintro e _ ⟨rfl,rfl⟩
     go_wp2_with fail
     refine HAC.out.mono ?_
     rintro e w11 h11
     rw [HTK.out] at h11
     by_cases hgx:gn=1+1+x
     ·
      have ee:(if gn=1+1+x then some (Err.fault sMTick gn (.fault sSGet x (.loss x (c.k - 1) c.k))) else none)=some (Err.fault sMTick gn (.fault sSGet x (.loss x (c.k - 1) c.k))):=if_pos hgx
      rw [ee] at h11
      obtain rfl:=h11.ret
      have HX11:=hid (show MX w w11 S8 r R' gc c g ⟨c,1,false⟩ p B from HXG.out.tick h11)
      obtain ⟨er,her⟩:∃ er,Err.fault sMTick gn (.fault sSGet x (.loss x (c.k - 1) c.k))=er:=⟨_,rfl⟩
      have HLO:=hid (show er.lost=true/\er.lossOf=((x:Int),(kk:Int) - 1,(kk:Int)) from ⟨by rw [<- her]; rfl,by rw [<- her]; show ((x:Int),c.k - 1,c.k)=_; rw [HK.out]⟩)
      simp only
      rw [her]
      simp only [oErr]
      obtain ⟨et,ev,hev⟩:=er.iface
      have HEV:=hid hev
      rw [hev]
      obtain rfl:gn=2+x:=by omega
      have HGC:=hid (show ((2+x:Nat):Int)=2+(x:Int) by omega)
      clear h11 HXG HAC HTK her hev ee hgx
      go_wp2_with (go_at_call 15; fail)
      refine Calls.mono (by rw [<- HEV.out]; exact lost_yes er HLO.out.1 _ (HG.out.only HX11.out.ext (fun x=>x))) ?_
      rintro e w12 ⟨rfl,x12⟩
      rw [HLO.out.2]
      simp only [lostV]
      obtain ⟨W12,hW12⟩:∃ W,w12.alloc (.cells (lcells ((x:Int),(kk:Int) - 1,(kk:Int))) 41)=W:=⟨_,rfl⟩
      have HX12:=hid (hW12▸HX11.out.more (x12.alloc (.cells (lcells ((x:Int),(kk:Int) - 1,(kk:Int))) 41)))
      have HN12:=hid (show W12.heap[w12.heap.size]?=some (.cells (lcells ((x:Int),(kk:Int) - 1,(kk:Int))) 41 (0,0)) from hW12▸heap_alloc_new _ _)
      have HW12:=hid hW12
      have hbs:(w12.alloc (.cells (lcells (0,0,0)) 41)).heap[w12.heap.size]?=some (.cells (lcells (0,0,0)) 41 (0,0)):=Zad
      have HBLs:=hid (built_loss3 (x:Int) ((kk:Int) - 1) (kk:Int))
      have hzl:=zero_loss
      have ck:W12.cell? ⟨gc,1,none⟩=some (.int .i64 kk):=HX12.out.vx.c1.trans (by rw [HK.out])
      have hwa:=mw64 (z:=(kk:Int) - 1) (by omega) (by omega)
      have HWB:=hid (mi64w (z:=(kk:Int) - 1) (by omega) (by omega))
      have hwb:=HWB.out
      have hwc:=W9.out; have hwd:=WA.out; have hi18:=HI18.out
      rw [HGC.out]
      clear x12 hW12 HEV HX11 HLO
      go_wp2_with (first
       | (guard_target=wpList _ _ _ (⟨none,Op.store _ _ _,_,_,_,none⟩::_) _ _; have hb0:=hbs; clear hbs; refine Zaa rfl 41 _ _ rfl w12.heap.size rfl (lcells ((x:Int),(kk:Int) - 1,(kk:Int))) _ rfl 41 (agg_loss _) hb0 rfl (lcells_one _) ?_; rw [Zai,HW12.out])
       | (guard_target=wpList _ _ _ (⟨some _,Op.load _ _,_,_,_,some _⟩::_) _ _; refine Zau 41 _ rfl ⟨w12.heap.size,0,none⟩ rfl (lcells ((x:Int),(kk:Int) - 1,(kk:Int))) rfl (agg_loss _) (Zaf HN12.out) ?_)
       | (guard_target=wpList _ _ _ (⟨some _,Op.build _ _,_,_,_,some _⟩::_) _ _; refine wpListG_build_eq 41 _ rfl (lcells ((x:Int),(kk:Int) - 1,(kk:Int))) rfl ?_ ?_; (simp only [List.map_toArray,List.map_cons,List.map_nil,Act.eval]; simp only [Array.getD_eq_getD_getElem?,List.getElem?_toArray,List.getElem?_cons_succ,List.getElem?_cons_zero,Option.getD_some]; exact HBLs.out))
       | (guard_target=wpList _ _ _ (⟨some _,Op.binOp _ _ _ _ _,_,_,_,some _⟩::_) _ _; refine Zbw .neq 41 _ _ _ rfl (lcells ((x:Int),(kk:Int) - 1,(kk:Int))) (lcells ((x:Int),(kk:Int) - 1,(kk:Int))) rfl rfl (.bool false) rfl (loss_guard _ _ _ _ _ _) (loss_neq _ _) ?_))
      go_roundw
      case rel=>exact ⟨i+1,by go_num,by omega,R',st',HLT'.out,by rw [HB2.out]; exact HX12.out,HWH'.out⟩
      case measure=>simp [intOf]; omega
     ·
      have ee:(if gn=1+1+x then some (Err.fault sMTick gn (.fault sSGet x (.loss x (c.k - 1) c.k))) else none)=none:=if_neg hgx
      rw [ee] at h11
      obtain rfl:=h11.ret
      have HX11:=hid (show MX w w11 S8 r R' gc c g ⟨c,1,false⟩ p B from HXG.out.tick h11)
      have E2:((gn:Int) == 2+(x:Int))=false:=beq_eq_false_iff_ne.2 (by omega)
      have HE2:=hid E2
      simp only [oErr]
      clear h11 HXG HAC HTK ee hgx E2
      go_wp2_with fail
      refine (lost_nil _).mono ?_
      rintro e w12 ⟨rfl,x12⟩
      simp only [lostV]
      obtain ⟨W12,hW12⟩:∃ W,w12.alloc (.cells (lcells (0,0,0)) 41)=W:=⟨_,rfl⟩
      have HX12:=hid (hW12▸HX11.out.more (x12.alloc (.cells (lcells (0,0,0)) 41)))
      have HW12:=hid hW12
      have hbs:(w12.alloc (.cells (lcells (0,0,0)) 41)).heap[w12.heap.size]?=some (.cells (lcells (0,0,0)) 41 (0,0)):=Zad
      have hzl:=zero_loss
      have hwc:=W9.out; have hwd:=WA.out; have hi18:=HI18.out
      have E2:=HE2.out
      clear x12 hW12 HX11
      go_wp2_with (guard_target=wpList _ _ _ (⟨none,Op.store _ _ _,_,_,_,none⟩::_) _ _; have hb0:=hbs; clear hbs; refine Zaa rfl 41 _ _ rfl w12.heap.size rfl (lcells (0,0,0)) _ rfl 41 (agg_loss _) hb0 rfl (lcells_one _) ?_; rw [Zai,HW12.out])
      go_roundw
      case rel=>exact ⟨i+1,by go_num,by omega,R',st',HLT'.out,by rw [HB2.out]; exact HX12.out,HWH'.out⟩
      case measure=>simp [intOf]; omega
    ·
     obtain ⟨iz,hiz⟩:∃ iz:Int,(i:Int)=iz:=⟨_,rfl⟩
     have HIE:=hid (show 6<=i by have:=HR13.out; omega)
     have hlt2:¬iz < 6*rr:=by rw [<- hiz]; exact hlt
     rw [hiz] at HX10 ⊢
     clear hlt hiz
     go_wp2
     clear hw7 hw8 hlt2
     go_loopw [22] (fun t wq=>∃ q:Nat,t=.int .i64 q/\q<=4/\MX w wq S8 r R gc c g ⟨c,1,false⟩ p (iz % GN)) (fun t _=>4 - (intOf t).toNat)
     case atStart=>exact ⟨0,rfl,by omega,HX10.out⟩
     case round =>
      clear HX10
      obtain ⟨q,rfl,hq,hx⟩:=hrel
      have HX:=hid hx
      clear hx
      by_cases hq4:q < 4
      ·
       have q0:(0:Int)<=(q:Int):=by omega
       have q1:(q:Int) < 4:=by omega
       have HCX:=hid HX.out.vx.cfg
       have HON:=hid (show R.online.length=nn by rw [HLT.out.online,HNT.out])
       obtain ⟨pl,hpl⟩:∃ pl,(R.slook c (q:Int)).2.length=pl:=⟨_,rfl⟩
       have hp1:=(HLT.out.parts HVI.out (t:=q) (by rw [HST4.out]; exact hq4)).1
       have hp2:=(HLT.out.parts HVI.out (t:=q) (by rw [HST4.out]; exact hq4)).2
       rw [hpl,HKT.out] at hp1
       rw [hpl,HNT.out] at hp2
       have hwc:=mwhole_c HX.out.rack c (q:Int)
       rw [hpl,HON.out] at hwc
       have HWC:=hid hwc
       clear hwc hpl
       by_cases hqx:q=x
       ·
        obtain rfl:x=q:=hqx.symm
        have hpl:((pl:Int) == (nn:Int))=false:=beq_eq_false_iff_ne.2 (by have:=hp1 rfl; omega)
        rw [hpl] at HWC
        clear hp1 hp2 hpl
        go_wp2_with (guard_target=wpList _ _ _ (⟨some _,Op.load _ _,_,_,_,none⟩::_) _ _; refine Zac rfl 23 _ rfl ⟨gc,0,none⟩ rfl (Cfg.A c) (Zap c) (Zaf HCX.out) ?_)
        refine HWC.out.mono ?_
        rintro e w13 ⟨rfl,x13⟩
        have HX13:=hid (HX.out.more x13)
        clear x13 HX HCX HWC
        go_wp2
        go_roundw
        case rel=>exact ⟨x+1,by go_num,by omega,HX13.out⟩
        case measure=>simp [intOf]; omega
       ·
        have E1:((q:Int) == (x:Int))=false:=beq_eq_false_iff_ne.2 (by omega)
        have E2:((q:Int) != (x:Int))=true:=by rw [bne,E1]; rfl
        have hpl:((pl:Int) == (nn:Int))=true:=beq_iff_eq.2 (by rw [hp2 (fun d hd=>HWH.out q hq4 hqx (by have:=HIE.out; omega) d (by rw [HNT.out]; exact hd))])
        rw [hpl] at HWC
        clear hp1 hp2 hpl
        go_wp2_with (guard_target=wpList _ _ _ (⟨some _,Op.load _ _,_,_,_,none⟩::_) _ _; refine Zac rfl 23 _ rfl ⟨gc,0,none⟩ rfl (Cfg.A c) (Zap c) (Zaf HCX.out) ?_)
        refine HWC.out.mono ?_
        rintro e w13 ⟨rfl,x13⟩
        have HX13:=hid (HX.out.more x13)
        have HC13:=hid HX13.out.vx.cfg
        have HWD:=hid (mwhole_c HX13.out.rack c (q:Int))
        clear x13 HX HCX HWC
        go_wp2_with (guard_target=wpList _ _ _ (⟨some _,Op.load _ _,_,_,_,some _⟩::_) _ _; refine Zau 23 _ rfl ⟨gc,0,none⟩ rfl (Cfg.A c) rfl (Zap c) (Zaf HC13.out) ?_)
        refine HWD.out.mono ?_
        rintro e w14 ⟨rfl,x14⟩
        rw [HON.out]
        obtain ⟨pl2,hpl2⟩:∃ pl2,(R.slook c (q:Int)).2.length=pl2:=⟨_,rfl⟩
        have hp3:=(HLT.out.parts HVI.out (t:=q) (by rw [HST4.out]; exact hq4)).2 (fun d hd=>HWH.out q hq4 hqx (by have:=HIE.out; omega) d hd)
        rw [hpl2,HNT.out] at hp3
        rw [hpl2,hp3]
        have HX14:=hid (HX13.out.more x14)
        clear x14 HX13 HC13 HWD hpl2 hp3
        go_wp2
        go_roundw
        case rel=>exact ⟨q+1,by go_num,by omega,HX14.out⟩
        case measure=>simp [intOf]; omega
      ·
       obtain rfl:q=4:=by omega
       go_wp2_with fail
       refine (mendRuns_c wr).mono ?_
       rintro e w16 ⟨rfl,x16⟩
       have HX16:=hid (Ext.trans HX.out.ext x16)
       clear x16
       go_wp2
       go_ret
       exact ⟨rfl,HX16.out⟩
end Go.Proofs.YtkipjmbplmdaaaaGreatDoor
namespace Go.Proofs.YtkipjmbplmdaaaaGreatDoor.mendLost
open Go.ChangeShapes Go.WideShapes Go.ChangeAt Go.RowKit
open Go.ChangeMaps (open_string shut_string)
set_option linter.unusedVariables false
theorem laidOut:laidOutB Tryz.prog=true:=by kernel_rfl
theorem walk (a0:Int) (a1:Int) (a2:Int) (a3:Int) (w:World) (hg:EtLaid w) (w0:(Lit.int .i64 a0).wf=true) (w1:(Lit.int .i64 a1).wf=true) (w2:(Lit.int .i64 a2).wf=true) (w3:(Lit.int .i64 a3).wf=true) :
  Calls Tryz.prog 3 #[.int .i64 a0,.int .i64 a1,.int .i64 a2,.int .i64 a3] w fun e w'=>e=.returned (.bool true)/\Below w.heap.size w w' :=
 (mendLost_c a0 a1 a2 a3 w hg).mono fun _ _ ⟨he,hx⟩=>⟨he,hx.below⟩
set_option maxRecDepth 100000 in
theorem lifted (os:Os) (started:os.Started) (H:Type) (enc:TypeId × Value->H) :
  ReturnsInHanded {} Tryz.checked os 3 .any (fun w args=>(Rows.mendLostSpec.pre enc Tryz.prog Tryz.f3 [] false w args/\laidMetH Tryz.prog theLaid w)/\sizedMet enc Tryz.prog Tryz.f3 (OpenSpec.ofChange Rows.mendLostSpec) false w args)
   (Rows.mendLostSpec.post enc Tryz.prog Tryz.f3 false true false false):=by
 refine returnsInHanded_of_change_and (C:=Tryz.checked) (X:=fun w _=>laidMetH Tryz.prog theLaid w) (fun _ _ _ hh h=>h.of_heap hh) hOwn started (by kernel_rfl) Tryz.func3
  (ChangeSpec.witness_at (enc:=enc) (C:=Tryz.checked) (os:=os) (X:=fun w _=>laidMetH Tryz.prog theLaid w) false (laidWorld os) #[.int .i64 0,.int .i64 0,.int .i64 0,.int .i64 0] 8 rfl (by kernel_rfl) (by kernel_rfl) (by kernel_rfl) (by kernel_rfl) (by kernel_rfl) (laidWorld_met os _)) ?_
 intro W base args ds gs before hval0 hW _ _ hL _
 have hval:∀ (j:Nat) t v,Tryz.f3.params[j]?=some t->args[j]?=some v->Value.okWide Tryz.prog W .any base t v:=hval0
 have hW':=hW
 obtain ⟨p,q,hA0,hV,rfl,hfz,hnd⟩:=hW
 have hA:DataW.TrodAll enc Tryz.prog W 0 (fun _=>true) true Tryz.f3.params.toList args.toList ds p:=hA0
 rw [Tryz.params3] at hA hval
 obtain ⟨v0,vs0,d0,ds0,p0,q0,hargs,rfl,rfl,h0,r0⟩:=trodAll_cons hA
 obtain ⟨v1,vs1,d1,ds1,p1,q1,rfl,rfl,rfl,h1,r1⟩:=trodAll_cons r0
 obtain ⟨v2,vs2,d2,ds2,p2,q2,rfl,rfl,rfl,h2,r2⟩:=trodAll_cons r1
 obtain ⟨v3,vs3,d3,ds3,p3,q3,rfl,rfl,rfl,h3,r3⟩:=trodAll_cons r2
 obtain ⟨rfl,rfl,rfl⟩:=trodAll_nil r3
 obtain rfl:args=#[v0,v1,v2,v3]:=by cases args; simp_all
 obtain ⟨rfl,rfl⟩:=trodVars_none hV
 obtain ⟨a0,rfl,rfl,rfl,w0⟩:=open_int Tryz.underlying3 (hval 0 3 v0 rfl rfl) h0
 obtain ⟨a1,rfl,rfl,rfl,w1⟩:=open_int Tryz.underlying3 (hval 1 3 v1 rfl rfl) h1
 obtain ⟨a2,rfl,rfl,rfl,w2⟩:=open_int Tryz.underlying3 (hval 2 3 v2 rfl rfl) h2
 obtain ⟨a3,rfl,rfl,rfl,w3⟩:=open_int Tryz.underlying3 (hval 3 3 v3 rfl rfl) h3
 have hg:=etLaid_of hL
 clear hA0 hval0
 simp only [List.append_nil] at hW'
 refine (walk a0 a1 a2 a3 W hg w0 w1 w2 w3).mono fun e W' ⟨he,bel⟩=>?_
 subst he
 exact ⟨_,rfl,_,_,_,[],_,[],hW',trodAll_mk1 (shut_bool Tryz.underlying4 _),(trodAll_cons_mk (shut_int Tryz.underlying3 w0) (trodAll_cons_mk (shut_int Tryz.underlying3 w1) (trodAll_cons_mk (shut_int Tryz.underlying3 w2) (trodAll_cons_mk (shut_int Tryz.underlying3 w3) trodAll_mk0)))),rfl,bel.frame _,fun h=>by cases h⟩
theorem over:Rows.MendLostSaid :=
 OpenClaim.holds_of_wide 3 Tryz.f3 rfl rfl rfl rfl rfl rfl rfl ⟨rfl,rfl,rfl,rfl,rfl⟩ rfl rfl rfl rfl rfl (by kernel_rfl) Tryz.func3 (by kernel_rfl)
  (of_decide_eq_true (by kernel_rfl)) (by unfold Func.isWrapper; first | (rw [if_pos (by decide +kernel)]; kernel_rfl) | (rw [if_neg (by decide +kernel)]; exact ⟨rfl,rfl⟩))
  (fun os started H enc _=>lifted os started H enc)
theorem proved:Rows.MendLostCardSaid :=
 Claim7.holds_tied_plain_at .later [] [.handle] true (true, "d4beb21e8108362cc8d9ea74d636057a41c1365b5261728524ba1bd981600391") true
  over (fun _ h=>by cases h) (by kernel_rfl) (fun _ h=>by cases h) mendLost_row_tie rfl ⟨rfl,rfl⟩ (by kernel_rfl) rfl
  (fun f fn hf hfn=>by
   obtain rfl:f=3:=Option.some.inj ((show Tryz.prog.funcNamed "stave/stavelaw13.MendLost"=some 3 by kernel_rfl).symm.trans hf) |>.symm
   obtain rfl:fn=Tryz.f3:=(Option.some.inj (Tryz.func3.symm.trans hfn)).symm
   exact ⟨by kernel_rfl,fun j t ht=>by
    rw [Tryz.params3] at ht
    rcases j with _ | _ | _ | _ | j
    ·
     simp at ht; subst ht; kernel_rfl
    ·
     simp at ht; subst ht; kernel_rfl
    ·
     simp at ht; subst ht; kernel_rfl
    ·
     simp at ht; subst ht; kernel_rfl
    ·
     simp at ht⟩)
  (by kernel_rfl)
#print axioms proved
end Go.Proofs.YtkipjmbplmdaaaaGreatDoor.mendLost
