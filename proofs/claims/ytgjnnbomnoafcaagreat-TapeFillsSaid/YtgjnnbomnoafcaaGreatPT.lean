/- Texts of one proof, joined: VolI, VolJ, VolK, VolM, VolEnv. -/
import Derived.Test.YtgjnnbomnoafcaaGreatPS
import Derived.Test.YtgjnnbomnoafcaaGreatPJ
import Derived.Deep.DeepCutAuto
import Derived.Test.YtgjnnbomnoafcaaGreatPO
import Derived.Test.YtgjnnbomnoafcaaGreatPV
import Derived.Test.YtgjnnbomnoafcaaGreatPU
import Derived.Test.YtgjnnbomnoafcaaGreatPR
import Derived.Test.YtgjnnbomnoafcaaGreatPP
set_option linter.unusedVariables false
set_option linter.unusedSimpArgs false
namespace Go.Proofs.YtgjnnbomnoafcaaGreat
set_option linter.unusedVariables false
open Go Go.RowKit
attribute [local irreducible] wpSQ
set_option maxRecDepth 100000 in
set_option maxHeartbeats 6000000 in
theorem vrecs_c {S:Nat->Prop} {w:World} {r g:Nat} {R:Rck} {c:Cfg} {sq:Int} {dn:Bool} (h:RackAt S w r R) (hv:VolAt w g r ⟨c,sq,dn⟩) (hg:S g) (hc:c.Good) :
  Calls Tryz.prog 67 #[.pointer (some ⟨g,0,none⟩)] w fun e w'=>∃ S' a es n cp,VRecsPost S w r g c dn (R.vrecs c sq c.slots.toNat) e w' S' a es n cp:=by
 have hzr:=zero_rec
 have HGD:=hid hc
 obtain ⟨sn,hsn⟩:∃ sn:Nat,c.slots.toNat=sn:=⟨_,rfl⟩
 have hs4:sn<=4:=by have:=hc.sl1; omega
 have c4:w.cell? ⟨g,5,none⟩=some (.int .i64 sn):=by rw [hv.csl,show c.slots=(sn:Int) from by have:=hc.sl0; omega]
 have HRT0:=hid (show RT S w r g c dn (R.vrecs c sq 0) 0 (.slice none 0 0) w S [] from ⟨RS.start h hv hg,fun e he=>absurd he List.not_mem_nil,fun e he=>absurd he List.not_mem_nil,rfl,Nat.le_refl _⟩)
 rw [hsn]
 clear h hv hsn hg hc
 go_enter Tryz.func67,Tryz.ntmps67
 go_wp2
 go_loopw [15,4] (fun t v4 wr=>∃ (i:Nat) (val:Value),t=.int .i64 i/\val=v4/\i<=sn/\(R.vrecs c sq i).err=none/\∃ T es,RT S w r g c dn (R.vrecs c sq i) i val wr T es) (fun t _ _=>sn - (intOf t).toNat)
 case atStart=>exact ⟨0,_,rfl,rfl,by omega,rfl,S,[],HRT0.out⟩
 case round =>
  clear HRT0 c4
  obtain ⟨i,val,rfl,rfl,hi,he,T,es,hrt⟩:=hrel
  have HRT:=hid hrt; have HE:=hid he
  clear hrt he
  have i0:(0:Int)<=(i:Int):=by omega
  by_cases hlt:i < sn
  ·
   have i1:(i:Int) < (sn:Int):=by omega
   rcases hq:R.vrecs c sq i with ⟨qe,qR,qs,qo⟩
   have HSTOP:=hid (fun (hh:(R.vrecs c sq (i+1)).err≠none)=>Rck.vrecs_stop hh (show i+1<=sn from hlt))
   have HSUC:=hid (Rck.vrecs_succ R c sq i)
   rw [hq] at HRT HE HSUC
   obtain rfl:qe=none:=HE.out
   have HRA:=hid (show RackAt T wr r qR from HRT.out.rs.rack)
   have HVA:=hid (show VolAt wr g r ⟨c,qs,dn⟩ from HRT.out.rs.vol)
   have HGS:=hid HRT.out.rs.gS
   have HLV:=hid (lt_of_block HVA.out)
   have HLE:es.length < 900:=by have:=HRT.out.len; omega
   have HLN:=hid HRT.out.len
   have HNE:=hid HRT.out.ne
   have HSE:=hid HRT.out.sep
   have HOU:=hid (show es.map (·.1)=qo from HRT.out.out)
   have HOB:=hid (fun b hb=>(HRT.out.rs.own.lt b hb).2)
   have HSZ:=hid (show w.heap.size<=wr.heap.size from HRT.out.rs.only.size)
   have HRS0:=hid (show RS S w r g c dn T es qR qs val wr from HRT.out.rs)
   clear hq HE HRT
   rcases hj:qR.jslot c i with ⟨X,wh,nw,o⟩
   have HJ:=hid hj
   obtain ⟨ov,hov⟩:∃ ov,oErr o=ov:=⟨_,rfl⟩
   have HOV:=hid hov
   clear hj hov
   have xd:Ext wr wr.drew:=(Ext.refl wr).drew
   have vy:Hid (∀ y:SW (Only fun b=>wr.heap.size<=b) wr.drew,VolAt y.w g r ⟨c,qs,dn⟩):=hid fun y=>y.ext.at (HVA.out.ext xd) (fun q=>absurd HLV.out (Nat.not_lt.2 q))
   have c0y:∀ y:SW (Only fun b=>wr.heap.size<=b) wr.drew,y.w.cell? ⟨g,0,none⟩=some (.pointer (some ⟨r,0,none⟩)):=fun y=>(vy.out y).rack
   have lc:Hid (∀ y:SW (Only fun b=>wr.heap.size<=b) wr.drew,∀ j u,(Cfg.A c).toList[j]?=some u->y.w.cell? ((⟨g,1,none⟩:Addr).add j)=some u):=hid fun y=>(vy.out y).cfg
   clear xd
   go_upto_region 5 with (fail)
   go_cut [6,7,8,9] (fun p b n e wq=>∃ px a cp,p=.pointer (some ⟨px,0,none⟩)/\b=.bool wh/\n=.int .i64 nw/\ov=e/\Ext wr wq/\wq.heap[px]?=some (.cells (X.V a cp) 101 (0,0))/\wr.heap.size<=px/\BlksAt wq a X.blocks/\∀ b,a=some ⟨b,0,none⟩->wr.heap.size<=b)
   case first =>
    refine wp_region_tree_all (E:=Ext) (S:=Only fun b=>wr.heap.size<=b) (.two [0,1,2,3,4,5,6,7,8] 9 15 (.one [10,11,12,13,14] 15 (.one [] 16 (.fin [17,18,19]))) (.one [] 9 (.one [10,11,12,13,14] 16 (.fin [17,18,19])))) (by kernel_rfl) (by kernel_rfl) (fun _ _ d _ _ h=>by cases d<;>exact h) ?_
    rw [wpT]
    simp only [opsAt,opA,opB,opC,opD,opE,opF,opG]
    iterate 7 ((refine Zab (fun K hK=>?_); go_simp; refine hK _ ?_; clear hK K))
    refine Zam 26 _ rfl ⟨g,1,none⟩ rfl (Cfg.A c) rfl (Zat c) lc.out ?_
    (refine Zab (fun K hK=>?_); go_simp; refine hK _ ?_; clear hK K)
    refine Zae ?_
    intro U0 hU0
    have EX0:=hid (show Ext wr U0 from Ext.trans (Ext.refl wr).drew hU0)
    have SZ0:=hid EX0.out.size
    clear hU0 c0y lc vy
    refine ⟨?_,?_⟩
    ·
     refine wpT_loud fun K hK=>?_
     go_wp2_with fail
     refine (jslot_c (HRA.out.ext EX0.out) c i).mono ?_
     rintro e W0 ⟨a,cp,rfl,xw,hbk,hlo⟩
     rw [HJ.out] at hbk ⊢
     simp only at hbk ⊢
     rw [HOV.out]
     have BKX:=hid hbk
     have LOX:=hid (fun b (hb:a=some ⟨b,0,none⟩)=>Nat.le_trans SZ0.out (hlo _ hb))
     clear hbk hlo
     go_wp2
     refine hK _ _ (Ext.only xw) ?_
     clear hK K
     rw [wpT]
     simp only [opsAt,opA,opB,opC,opD,opE,opF,opG]
     iterate 5 ((refine Zab (fun K hK=>?_); go_simp; refine hK _ ?_; clear hK K))
     refine Zae ?_
     intro U1 hU1
     have EX1:=hid (Ext.trans EX0.out (Ext.trans xw hU1))
     have SZ1:=hid EX1.out.size
     replace BKX:=hid (BKX.out.ext hU1)
     clear hU1 xw
     refine wpT_loud fun K hK=>?_
     go_wp2
     refine hK _ _ (Ext.only ((Ext.refl _).alloc _)) ?_
     clear hK K
     have xw:Ext U1 (U1.alloc (.cells (Rcd.none_.V none 0) 101)):=(Ext.refl _).alloc _
     have CBX:=hid (show (U1.alloc (.cells (Rcd.none_.V none 0) 101)).heap[U1.heap.size]?=some (.cells (Rcd.none_.V none 0) 101 (0,0)) from heap_alloc_new _ _)
     rw [wpT]
     simp only [opsAt,opA,opB,opC,opD,opE,opF,opG]
     refine Zae ?_
     intro U2 hU2
     have XU:=hid (Ext.trans xw hU2)
     have EX2:=hid (Ext.trans EX1.out XU.out)
     have BLT:=hid (fun b (hb:a=some ⟨b,0,none⟩) (hn:X.blocks≠[])=>BKX.out.lt hn b hb)
     have BK2:=hid (BKX.out.ext XU.out)
     replace CBX:=hid (hU2.at CBX.out)
     clear hU2 xw XU
     refine wpT_loud fun K hK=>?_
     go_wp2_with (guard_target=wpList _ _ _ (⟨none,Op.store _ _ _,_,_,_,none⟩::_) _ _; refine Zaa rfl 101 _ _ rfl U1.heap.size rfl (X.V a cp) _ rfl 101 (Za6 _ _ _) CBX.out rfl (V_one _ _ _) ?_)
     have HON:=hid ((Zag U2 U1.heap.size (X.V a cp)).mono (fun i _ h=>by subst h; exact (EX1.out.size:wr.heap.size<=U1.heap.size)):Only (fun b=>wr.heap.size<=b) U2 (U2.setRow U1.heap.size (X.V a cp)))
     refine hK _ _ HON.out ?_
     have HSX:=hid (setRow_heap U2 U1.heap.size _ (X.V a cp) _ _ CBX.out)
     clear hK K HON
     rw [wpT]
     simp only [opsAt,opA,opB,opC,opD,opE,opF,opG]
     iterate 3 ((refine Zab (fun K hK=>?_); go_simp; refine hK _ ?_; clear hK K))
     refine Zae ?_
     intro U3 hU3
     have OU:=hid (Only.ext (Zag U2 U1.heap.size (X.V a cp)) hU3)
     have EX3:=hid (show Ext wr U3 from Ext.then EX2.out OU.out (fun q hq e=>by have:=EX1.out.size; omega))
     have CFX:=hid (hU3.at HSX.out)
     have BK3:=hid (show BlksAt U3 a X.blocks from by
      by_cases hn:X.blocks=[]
      ·
       rw [hn]; intro i b hb; simp at hb
      ·
       exact BK2.out.only OU.out (fun b hb e=>by have:=BLT.out b hb hn; have e:b=U1.heap.size:=e; omega))
     clear hU3 OU HSX CBX
     go_wp2
     go_meet
     case rel =>
      exact ⟨U1.heap.size,a,cp,rfl,rfl,rfl,rfl,EX3.out,CFX.out,EX1.out.size,BK3.out,LOX.out⟩
    ·
     refine wpT_loud fun K hK=>?_
     go_wp2
     refine hK _ _ (Ext.only ((Ext.refl _).alloc _)) ?_
     clear hK K
     have xw:Ext U0 (U0.alloc (.cells (Rcd.none_.V none 0) 101)):=(Ext.refl _).alloc _
     have CBX:=hid (show (U0.alloc (.cells (Rcd.none_.V none 0) 101)).heap[U0.heap.size]?=some (.cells (Rcd.none_.V none 0) 101 (0,0)) from heap_alloc_new _ _)
     rw [wpT]
     simp only [opsAt,opA,opB,opC,opD,opE,opF,opG]
     refine Zae ?_
     intro U1 hU1
     have XU:=hid (Ext.trans xw hU1)
     have EX1:=hid (Ext.trans EX0.out XU.out)
     have SZ1:=hid XU.out.size
     have SPX:=hid (show U0.heap.size < U1.heap.size from Nat.lt_of_lt_of_le (by simp) hU1.size)
     replace CBX:=hid (hU1.at CBX.out)
     clear hU1 xw XU
     refine wpT_loud fun K hK=>?_
     go_wp2_with fail
     refine (jslot_c (HRA.out.ext EX1.out) c i).mono ?_
     rintro e W0 ⟨a,cp,rfl,xw,hbk,hlo⟩
     rw [HJ.out] at hbk ⊢
     simp only at hbk ⊢
     rw [HOV.out]
     have BKX:=hid hbk
     have LOX:=hid (fun b (hb:a=some ⟨b,0,none⟩)=>(show U1.heap.size<=b from hlo _ hb))
     clear hbk hlo
     go_wp2
     refine hK _ _ (Ext.only xw) ?_
     clear hK K
     rw [wpT]
     simp only [opsAt,opA,opB,opC,opD,opE,opF,opG]
     iterate 5 ((refine Zab (fun K hK=>?_); go_simp; refine hK _ ?_; clear hK K))
     refine Zae ?_
     intro U2 hU2
     have XU:=hid (Ext.trans xw hU2)
     have EX2:=hid (Ext.trans EX1.out XU.out)
     have BK2:=hid (BKX.out.ext hU2)
     replace CBX:=hid (XU.out.at CBX.out)
     clear hU2 xw XU
     refine wpT_loud fun K hK=>?_
     go_wp2_with (guard_target=wpList _ _ _ (⟨none,Op.store _ _ _,_,_,_,none⟩::_) _ _; refine Zaa rfl 101 _ _ rfl U0.heap.size rfl (X.V a cp) _ rfl 101 (Za6 _ _ _) CBX.out rfl (V_one _ _ _) ?_)
     have HON:=hid ((Zag U2 U0.heap.size (X.V a cp)).mono (fun i _ h=>by subst h; exact (EX0.out.size:wr.heap.size<=U0.heap.size)):Only (fun b=>wr.heap.size<=b) U2 (U2.setRow U0.heap.size (X.V a cp)))
     refine hK _ _ HON.out ?_
     have HSX:=hid (setRow_heap U2 U0.heap.size _ (X.V a cp) _ _ CBX.out)
     clear hK K HON
     rw [wpT]
     simp only [opsAt,opA,opB,opC,opD,opE,opF,opG]
     iterate 3 ((refine Zab (fun K hK=>?_); go_simp; refine hK _ ?_; clear hK K))
     refine Zae ?_
     intro U3 hU3
     have OU:=hid (Only.ext (Zag U2 U0.heap.size (X.V a cp)) hU3)
     have EX3:=hid (show Ext wr U3 from Ext.then EX2.out OU.out (fun q hq e=>by have:=EX0.out.size; omega))
     have CFX:=hid (hU3.at HSX.out)
     have BK3:=hid (BK2.out.only OU.out (fun b hb e=>by have:=LOX.out b hb; have:=SPX.out; have e:b=U0.heap.size:=e; omega))
     clear hU3 OU HSX CBX
     go_wp2
     go_meet
     case rel =>
      exact ⟨U0.heap.size,a,cp,rfl,rfl,rfl,rfl,EX3.out,CFX.out,EX0.out.size,BK3.out,fun b hb=>Nat.le_trans EX1.out.size (LOX.out b hb)⟩
   case rest =>
    obtain ⟨px,a,cp,rfl,rfl,rfl,rfl,xc,hpx,hp0,hbx,hab⟩:=hcut
    obtain ⟨T1,hT1⟩:∃ T1,wideS T wr wc=T1:=⟨_,rfl⟩
    have HRS:=hid (show RS S w r g c dn T1 es qR qs val wc from hT1▸HRS0.out.wide xc)
    have HT1:=hid (fun b (h1:wr.heap.size<=b) (h2:b < wc.heap.size)=>(show T1 b from hT1▸.inr ⟨h1,h2⟩))
    have HPX:=hid hpx; have HP0:=hid hp0; have HBX:=hid hbx; have HAB:=hid hab
    clear hpx hp0 hbx hab hT1 xc c0y lc vy HRS0
    rcases o with _ | er
    case some =>
     obtain ⟨et,ev,hev⟩:=er.iface
     have HQN:=hid (show R.vrecs c sq sn=⟨some er,qR,qs,[]⟩ from by
      have h1:=HSUC.out.trans (Rck.vrec_err HJ.out)
      rw [HSTOP.out (by rw [h1]; simp),h1])
     have HP:=hid (VRecsPost.err (q:=⟨some er,qR,qs,[]⟩) rfl HRS.out)
     obtain rfl:ov=.iface et ev:=by rw [<- HOV.out]; exact hev
     rw [HOV.out] at HP
     clear hev
     go_wp2
     go_ret2
     rw [HQN.out]
     exact ⟨_,_,_,_,_,HP.out⟩
    obtain rfl:Value.nilIface=ov:=HOV.out
    have c6:wc.cell? ⟨g,6,none⟩=some (.int .i64 qs):=HRS.out.vol.seq
    have f6:=HRS.out.vol.free 6
    obtain ⟨W2,hW2⟩:∃ W,wc.setCell ⟨g,6,none⟩ (.int .i64 (max qs nw))=W:=⟨_,rfl⟩
    have HRS2:=hid (show RS S w r g c dn T1 es qR (max qs nw) val W2 from hW2▸HRS.out.setSeq (max qs nw))
    have HO2:=hid (show Only (fun b=>b=g) wc W2 from hW2▸Zbd _ _ _ _)
    have HPX2:=hid (show W2.heap[px]?=some (.cells (X.V a cp) 101 (0,0)) from HO2.out.at HPX.out (fun q=>by have:=HP0.out; have:=HLV.out; have q:px=g:=q; omega))
    have HBX2:=hid (show BlksAt W2 a X.blocks from HBX.out.only HO2.out (fun b hb q=>by have:=HAB.out b hb; have:=HLV.out; have q:b=g:=q; omega))
    rcases wh with _ | _
    ·
     rcases hb:qR.jblank c i with ⟨o2,R2⟩
     have HB:=hid hb
     clear hb
     have xd:Ext W2 W2.drew:=(Ext.refl W2).drew
     have c0y:∀ y:SW (Only fun b=>¬T1 b) W2.drew,y.w.cell? ⟨g,0,none⟩=some (.pointer (some ⟨r,0,none⟩)):=fun y=>((HRS2.out.vol.ext xd).keep y.ext HRS2.out.gS).rack
     have lc:Hid (∀ y:SW (Only fun b=>¬T1 b) W2.drew,∀ j u,(Cfg.A c).toList[j]?=some u->y.w.cell? ((⟨g,1,none⟩:Addr).add j)=some u):=hid fun y=>((HRS2.out.vol.ext xd).keep y.ext HRS2.out.gS).cfg
     clear xd
     go_wp2_with (guard_target=wpList _ _ _ (⟨some _,Op.call _,_,_,_,none⟩::_) _ _; refine Zbi rfl _ _ 3 rfl qs nw rfl rfl ?_)
     refine Zau (E:=Ext) (S:=Only fun b=>¬T1 b) (.one [0,1,2,3,4,5,6,7,8] 9 (.fin [10])) (by kernel_rfl) (by kernel_rfl) (fun _ _ d _ _ h=>by cases d<;>exact h) ?_
     rw [wpS]
     simp only [opsAt,opA,opB,opC,opD,opE,opF,opG]
     iterate 7 ((refine Zab (fun K hK=>?_); go_simp; refine hK _ ?_; clear hK K))
     refine Zam 26 _ rfl ⟨g,1,none⟩ rfl (Cfg.A c) rfl (Zat c) lc.out ?_
     (refine Zab (fun K hK=>?_); go_simp; refine hK _ ?_; clear hK K)
     refine Zae ?_
     intro V3 hV3
     have HX3:=hid (show Ext W2 V3 from Ext.trans (Ext.refl W2).drew hV3)
     clear c0y lc hV3
     refine Zav fun Q hQ=>?_
     go_wp2_with fail
     refine (jblank_c (HRS2.out.rack.ext HX3.out) c i).mono ?_
     rintro e w4 ⟨rfl,h4,k4⟩
     rw [HB.out] at h4 ⊢
     simp only at h4 ⊢
     have HRS4:=hid ((HRS2.out.ext HX3.out).keep h4 k4)
     have K4:=hid k4
     clear h4 k4
     obtain ⟨ov,hov⟩:∃ ov,oErr o2=ov:=⟨_,rfl⟩
     have HOV2:=hid hov
     rw [hov]
     clear hov
     go_wp2
     refine hQ _ _ K4.out ?_
     clear hQ Q
     rw [wpS]
     simp only [opsAt,opA,opB,opC,opD,opE,opF,opG]
     (refine Zab (fun K hK=>?_); go_simp; refine hK _ ?_; clear hK K)
     refine Zae ?_
     intro V5 hV5
     have HRS5:=hid (HRS4.out.ext hV5)
     clear hV5
     rcases o2 with _ | er
     case some =>
      obtain ⟨et,ev,hev⟩:=er.iface
      have HQN:=hid (show R.vrecs c sq sn=⟨some er,R2,max qs nw,[]⟩ from by
       have h1:=HSUC.out.trans (Rck.vrec_bad HJ.out (Rck.vslot_blank.trans HB.out))
       rw [HSTOP.out (by rw [h1]; simp),h1])
      have HP:=hid (VRecsPost.err (q:=⟨some er,R2,max qs nw,[]⟩) rfl HRS5.out)
      obtain rfl:ov=.iface et ev:=by rw [<- HOV2.out]; exact hev
      rw [HOV2.out] at HP
      clear hev
      go_wp2
      go_ret2
      rw [HQN.out]
      exact ⟨_,_,_,_,_,HP.out⟩
     obtain rfl:Value.nilIface=ov:=HOV2.out
     have HNX:=hid (show R.vrecs c sq (i+1)=⟨none,R2,max qs nw,qo⟩ from by
      rw [HSUC.out,Rck.vrec_ok HJ.out (Rck.vslot_blank.trans HB.out),if_neg (by simp)])
     go_wp2
     go_roundw
     case rel =>
      refine ⟨i+1,val,by go_num,rfl,by omega,by rw [HNX.out],T1,es,?_⟩
      rw [HNX.out]
      exact ⟨HRS5.out,HNE.out,HSE.out,HOU.out,by have:=HLN.out; omega⟩
     case measure=>simp [intOf]; omega
    ·
     have HWF:=hid (Rck.jslot_whole (R:=qR) (c:=c) (s:=(i:Int)) (fun j f hf=>HRA.out.jgoods_ok f hf) HGD.out.k0 (by rw [HJ.out]))
     rw [HJ.out] at HWF
     obtain ⟨XOK,XLN,XS0,XS1⟩:=HWF.out
     have HXO:=hid XOK; have HXS:=hid (show 0<=X.seq/\X.seq<=1152921504606846976 from ⟨XS0,XS1⟩)
     have HXN:=hid (show X.blocks≠[] from by intro q; have XLN:(X.blocks.length:Int)=c.k:=XLN; rw [q] at XLN; have:=HGD.out.k0; simp at XLN; omega)
     clear XOK XLN XS0 XS1 HWF
     have cpx:W2.cell? ⟨px,0,none⟩=some (.int .i64 X.seq):=(Zaf HPX2.out).trans rfl
     by_cases h1:1 < X.seq
     ·
      rcases hb:qR.jlog c X with ⟨o2,R2⟩
      have HB:=hid hb
      clear hb
      obtain ⟨v',w',hap,HRS3,ho3,ne3,sep3⟩:=RT.push HRS2.out HNE.out HSE.out HLE (X,a,cp) HXO.out HBX2.out HXN.out (fun b hb=>⟨HT1.out b (HAB.out b hb) (HBX.out.lt HXN.out b hb),Nat.le_trans HSZ.out (HAB.out b hb),fun q=>by have:=HOB.out b q; have:=HAB.out b hb; omega⟩) HXS.out
      obtain ⟨T3,hT3⟩:∃ T3,wideS T1 W2 w'=T3:=⟨_,rfl⟩
      rw [hT3] at HRS3
      have HRS3:=hid HRS3
      have HN3:=hid ne3; have HS3:=hid sep3
      have HT3:=hid (fun b (hb:T1 b)=>(show T3 b from hT3▸.inl hb))
      have HPX3:=hid (show w'.heap[px]?=some (.cells (X.V a cp) 101 (0,0)) from ho3.at HPX2.out (fun q=>by have:=HOB.out px q; have:=HP0.out; omega))
      have HBX3:=hid (show BlksAt w' a X.blocks from HBX2.out.only ho3 (fun b hb q=>by have:=HOB.out b q; have:=HAB.out b hb; omega))
      have HTX:=hid (show T3 px from HT3.out px (HT1.out px HP0.out (lt_of_block HPX.out)))
      clear ne3 sep3 hT3 ho3
      have xd:Ext w' w'.drew:=(Ext.refl w').drew
      have c0y:∀ y:SW (Only fun b=>¬T3 b) w'.drew,y.w.cell? ⟨g,0,none⟩=some (.pointer (some ⟨r,0,none⟩)):=fun y=>((HRS3.out.vol.ext xd).keep y.ext HRS3.out.gS).rack
      have lc:Hid (∀ y:SW (Only fun b=>¬T3 b) w'.drew,∀ j u,(Cfg.A c).toList[j]?=some u->y.w.cell? ((⟨g,1,none⟩:Addr).add j)=some u):=hid fun y=>((HRS3.out.vol.ext xd).keep y.ext HRS3.out.gS).cfg
      have lx:Hid (∀ y:SW (Only fun b=>¬T3 b) w'.drew,∀ j v,(X.V a cp).toList[j]?=some v->y.w.cell? ((⟨px,0,none⟩:Addr).add j)=some v):=hid fun y=>Zai (y.ext.at (xd.at HPX3.out) fun q=>q HTX.out)
      clear xd
      go_wp2_with (first
       | (guard_target=wpList _ _ _ (⟨some _,Op.call _,_,_,_,none⟩::_) _ _; refine Zbi rfl _ _ 3 rfl qs nw rfl rfl ?_)
       | (guard_target=wpList _ _ _ (⟨some _,Op.load _ _,_,_,_,none⟩::_) _ _; refine Zac rfl 101 _ rfl ⟨px,0,none⟩ rfl (X.V a cp) (Za6 _ _ _) (Zai HPX2.out) ?_)
       | (guard_target=wpList _ _ _ (⟨some _,Op.buildSlice _ _ _,_,_,_,none⟩::_) _ _; refine Zak rfl 117 101 _ rfl (X.V a cp) _ _ 3 40 Tryz.underlying117 infoRec (by omega) (by omega) rfl rfl rfl ?_)
       | (at_builtin; refine Zah rfl _ _ _ rfl _ _ _ _ rfl rfl hap ?_))
      refine Zau (E:=Ext) (S:=Only fun b=>¬T3 b) (.one [0,1,2,3,4,5,6,7,8] 9 (.fin [10])) (by kernel_rfl) (by kernel_rfl) (fun _ _ d _ _ h=>by cases d<;>exact h) ?_
      rw [wpS]
      simp only [opsAt,opA,opB,opC,opD,opE,opF,opG]
      iterate 7 ((refine Zab (fun K hK=>?_); go_simp; refine hK _ ?_; clear hK K))
      refine Zam 26 _ rfl ⟨g,1,none⟩ rfl (Cfg.A c) rfl (Zat c) lc.out ?_
      refine Zam 101 _ rfl ⟨px,0,none⟩ rfl (X.V a cp) rfl (Za6 _ _ _) lx.out ?_
      refine Zae ?_
      intro V3 hV3
      have HX3:=hid (show Ext w' V3 from Ext.trans (Ext.refl w').drew hV3)
      clear c0y lc lx hV3 hap
      refine Zav fun Q hQ=>?_
      go_wp2_with fail
      refine (jlog_c (HRS3.out.rack.ext HX3.out) c X HXO.out a cp (HBX3.out.ext HX3.out) (fun b hb=>HT3.out b (HT1.out b (HAB.out b hb) (HBX.out.lt HXN.out b hb)))).mono ?_
      rintro e w4 ⟨rfl,h4,k4⟩
      rw [HB.out] at h4 ⊢
      simp only at h4 ⊢
      have HRS4:=hid ((HRS3.out.ext HX3.out).keep h4 k4)
      have K4:=hid k4
      clear h4 k4
      obtain ⟨ov,hov⟩:∃ ov,oErr o2=ov:=⟨_,rfl⟩
      have HOV2:=hid hov
      rw [hov]
      clear hov
      go_wp2
      refine hQ _ _ K4.out ?_
      clear hQ Q
      rw [wpS]
      simp only [opsAt,opA,opB,opC,opD,opE,opF,opG]
      (refine Zab (fun K hK=>?_); go_simp; refine hK _ ?_; clear hK K)
      refine Zae ?_
      intro V5 hV5
      have HRS5:=hid (HRS4.out.ext hV5)
      clear hV5
      rcases o2 with _ | er
      case some =>
       obtain ⟨et,ev,hev⟩:=er.iface
       have HQN:=hid (show R.vrecs c sq sn=⟨some er,R2,max qs nw,[]⟩ from by
        have h1:=HSUC.out.trans (Rck.vrec_bad HJ.out ((Rck.vslot_log h1).trans HB.out))
        rw [HSTOP.out (by rw [h1]; simp),h1])
       have HP:=hid (VRecsPost.err (q:=⟨some er,R2,max qs nw,[]⟩) rfl HRS5.out)
       obtain rfl:ov=.iface et ev:=by rw [<- HOV2.out]; exact hev
       rw [HOV2.out] at HP
       clear hev
       go_wp2
       go_ret2
       rw [HQN.out]
       exact ⟨_,_,_,_,_,HP.out⟩
      obtain rfl:Value.nilIface=ov:=HOV2.out
      have HNX:=hid (show R.vrecs c sq (i+1)=⟨none,R2,max qs nw,qo++[X]⟩ from by
       rw [HSUC.out,Rck.vrec_ok HJ.out ((Rck.vslot_log h1).trans HB.out),if_pos ⟨rfl,h1⟩])
      go_wp2
      go_roundw
      case rel =>
       refine ⟨i+1,v',by go_num,rfl,by omega,by rw [HNX.out],T3,es++[(X,a,cp)],?_⟩
       rw [HNX.out]
       exact ⟨HRS5.out,HN3.out,HS3.out,by rw [List.map_append,HOU.out]; rfl,by have:=HLN.out; simp; omega⟩
      case measure=>simp [intOf]; omega
     ·
      have HNX:=hid (show R.vrecs c sq (i+1)=⟨none,qR,max qs nw,qo⟩ from by
       rw [HSUC.out,Rck.vrec_ok HJ.out (Rck.vslot_old h1),if_neg (fun z=>h1 z.2)])
      go_wp2_with (guard_target=wpList _ _ _ (⟨some _,Op.call _,_,_,_,none⟩::_) _ _; refine Zbi rfl _ _ 3 rfl qs nw rfl rfl ?_)
      go_roundw
      case rel =>
       refine ⟨i+1,val,by go_num,rfl,by omega,by rw [HNX.out],T1,es,?_⟩
       rw [HNX.out]
       exact ⟨HRS2.out,HNE.out,HSE.out,HOU.out,by have:=HLN.out; omega⟩
      case measure=>simp [intOf]; omega
  ·
   obtain rfl:i=sn:=by omega
   obtain ⟨a,n,cp,gb,rfl,hn,hcap,ha,hin⟩:=HRT.out.slice
   have HSO:=hid (sortrecs_c es n cp gb a hn (by have:=HRT.out.len; omega) hcap ha HRT.out.rs.seqs wr hin)
   have HN:=hid hn; have HA:=hid ha
   clear hn hcap ha hin
   go_wp2_with fail
   refine HSO.out.mono ?_
   rintro e w' ⟨rfl,h2,h3⟩
   have HP:=hid (VRecsPost.sorted HE.out HRT.out HN.out (by have:=HRT.out.len; have:=HN.out; omega) HA.out h2 h3)
   clear h2 h3
   go_wp2
   go_ret2
   exact ⟨_,_,_,_,_,HP.out⟩
end Go.Proofs.YtgjnnbomnoafcaaGreat
namespace Go.Proofs.YtgjnnbomnoafcaaGreat
set_option linter.unusedVariables false
open Go Go.RowKit
attribute [local irreducible] wpSQ
namespace Rck
theorem vask_err {R:Rck} {c:Cfg} {sq:Int} {n:Nat} {e:Err} (h:(R.vask c sq n).1=none) (h2:(R.sget c n).2.2=some e):R.vask c sq (n+1)=(some e,(R.vask c sq n).2):=by
 conv=>lhs; unfold vask
 simp only [h,h2]
theorem vask_ok {R:Rck} {c:Cfg} {sq:Int} {n:Nat} (h:(R.vask c sq n).1=none) (h2:(R.sget c n).2.2=none):R.vask c sq (n+1)=(none,max (R.vask c sq n).2 (R.sget c n).2.1):=by
 conv=>lhs; unfold vask
 simp only [h,h2]
theorem vask_stop {R:Rck} {c:Cfg} {sq:Int} {i n:Nat} (h:(R.vask c sq i).1≠none) (hn:i<=n):R.vask c sq n=R.vask c sq i:=by
 induction n with
 | zero=>rw [show i=0 by omega]
 | succ n ih =>
  rcases Nat.lt_or_ge n i with q | q
  ·
   rw [show i=n+1 by omega]
  ·
   have e:=ih q
   rcases he:(R.vask c sq i).1 with _ | er
   ·
    exact absurd he h
   ·
    conv=>lhs; unfold vask
    rw [e]
    simp only [he]
    rw [<- he]
theorem vrecover_err {R:Rck} {c:Cfg} {sq:Int} {e:Err} (h:(R.vrecs c sq c.slots.toNat).err=some e):R.vrecover c sq=(some e,(R.vrecs c sq c.slots.toNat).R,(R.vrecs c sq c.slots.toNat).seq):=by
 unfold vrecover; simp only [h]
theorem vrecover_bad {R R2:Rck} {c:Cfg} {sq:Int} {e:Err} (h:(R.vrecs c sq c.slots.toNat).err=none) (h2:each (vplay c) (sortR (R.vrecs c sq c.slots.toNat).out) (R.vrecs c sq c.slots.toNat).R=(some e,R2)):R.vrecover c sq=(some e,R2,(R.vrecs c sq c.slots.toNat).seq):=by
 unfold vrecover; simp only [h,h2]
theorem vrecover_ok {R R2:Rck} {c:Cfg} {sq:Int} (h:(R.vrecs c sq c.slots.toNat).err=none) (h2:each (vplay c) (sortR (R.vrecs c sq c.slots.toNat).out) (R.vrecs c sq c.slots.toNat).R=(none,R2)):R.vrecover c sq=((R2.vask c (R.vrecs c sq c.slots.toNat).seq c.stripes.toNat).1,R2,(R2.vask c (R.vrecs c sq c.slots.toNat).seq c.stripes.toNat).2):=by
 unfold vrecover; simp only [h,h2]
end Rck
structure PK (S0:Nat->Prop) (w0:World) (r g:Nat) (c:Cfg) (dn:Bool) (T:Nat->Prop) (R:Rck) (sq:Int) (w:World):Prop where
 rack:RackAt T w r R
 vol:VolAt w g r ⟨c,sq,dn⟩
 gT:T g
 low:∀ b,S0 b->T b
 only:Only (fun b=>¬S0 b\/b=g) w0 w
namespace PK
variable {S0 T:Nat->Prop} {w0 w w':World} {r g:Nat} {c:Cfg} {dn:Bool} {R R':Rck} {sq:Int}
theorem ext (h:PK S0 w0 r g c dn T R sq w) (e:Ext w w'):PK S0 w0 r g c dn T R sq w':=⟨h.rack.ext e,h.vol.ext e,h.gT,h.low,Only.ext h.only e⟩
theorem keep (h:PK S0 w0 r g c dn T R sq w) (hr:RackAt T w' r R') (k:Keeps T w w'):PK S0 w0 r g c dn T R' sq w':=⟨hr,h.vol.keep k h.gT,h.gT,h.low,Only.trans h.only k fun b _ q=>.inl fun q0=>q (h.low b q0)⟩
theorem setSeq (h:PK S0 w0 r g c dn T R sq w) (n:Int):PK S0 w0 r g c dn T R n (w.setCell ⟨g,6,none⟩ (.int .i64 n)):=by
 have ho:Only (fun b=>b=g) w (w.setCell ⟨g,6,none⟩ (.int .i64 n)):=Zbd _ _ _ _
 exact ⟨h.rack.only ho fun b hb=>by rw [show b=g from hb]; exact h.gT,h.vol.setSeq n,h.gT,h.low,Only.trans h.only ho fun b _ q=>.inr q⟩
end PK
structure VRecovPost (S:Nat->Prop) (w:World) (r g:Nat) (c:Cfg) (dn:Bool) (q:Option Err × Rck × Int) (e:Ending) (w':World):Prop where
 ret:e=.returned (oErr q.1)
 rack:RackAt S w' r q.2.1
 vol:VolAt w' g r ⟨c,q.2.2,dn⟩
 only:Only (fun b=>¬S b\/b=g) w w'
theorem PK.post {S0 T:Nat->Prop} {w0 w:World} {r g:Nat} {c:Cfg} {dn:Bool} {R:Rck} {sq:Int} (h:PK S0 w0 r g c dn T R sq w) (o:Option Err):VRecovPost S0 w0 r g c dn (o,R,sq) (.returned (oErr o)) w :=
 ⟨rfl,h.rack.less h.low,h.vol,h.only⟩
set_option maxRecDepth 100000 in
set_option maxHeartbeats 6000000 in
theorem vrecover_c {S:Nat->Prop} {w:World} {r g:Nat} {R:Rck} {c:Cfg} {sq:Int} {dn:Bool} (h:RackAt S w r R) (hv:VolAt w g r ⟨c,sq,dn⟩) (hg:S g) (hc:c.Good) :
  Calls Tryz.prog 48 #[.pointer (some ⟨g,0,none⟩)] w (VRecovPost S w r g c dn (R.vrecover c sq)):=by
 have hzr:=zero_rec
 have HGD:=hid hc
 obtain ⟨st,hst⟩:∃ st:Nat,c.stripes=(st:Int):=⟨c.stripes.toNat,by have:=hc.st0; omega⟩
 have HST:=hid hst
 have HSN:=hid (show c.stripes.toNat=st by omega)
 have st64:(st:Int)<=64:=by have:=hc.st1; omega
 have HC:=hid (vrecs_c h hv hg hc)
 have HG:=hid hg
 have HGL:=hid (lt_of_block hv)
 clear h hv hg hc hst
 go_enter Tryz.func48,Tryz.ntmps48
 go_wp2_with fail
 refine HC.out.mono ?_
 rintro e w1 ⟨T,a,es,n,cp,hp⟩
 obtain rfl:=hp.ret
 have HP:=hid hp
 have HV:=hid (fun e=>Rck.vrecover_err (R:=R) (c:=c) (sq:=sq) (e:=e))
 have HVB:=hid (fun R2 e=>Rck.vrecover_bad (R:=R) (R2:=R2) (c:=c) (sq:=sq) (e:=e))
 have HVO:=hid (fun R2=>Rck.vrecover_ok (R:=R) (R2:=R2) (c:=c) (sq:=sq))
 rcases hq:R.vrecs c sq c.slots.toNat with ⟨qe,qR,qs,qo⟩
 rw [hq] at HP HV HVB HVO
 simp only at HV HVB HVO
 have HPK:=hid (show PK S w r g c dn T qR qs w1 from ⟨HP.out.rack,HP.out.vol,HP.out.low g HG.out,HP.out.low,HP.out.only⟩)
 clear hp hq HC
 rcases qe with _ | er
 case some =>
  obtain ⟨et,ev,hev⟩:=er.iface
  have HR:=hid (HV.out er rfl)
  have HQ:=hid (HPK.out.post (some er))
  simp only [oErr] at HQ ⊢
  rw [hev] at HQ ⊢
  clear hev
  go_wp2
  go_ret
  rw [HR.out]
  exact HQ.out
 simp only [oErr]
 obtain ⟨L,hL⟩:∃ L,sortR qo=L:=⟨_,rfl⟩
 rw [hL] at HVB HVO
 have HOUT:=hid (show es.map (·.1)=L from hL▸HP.out.out rfl)
 have HLEN:=hid HP.out.len
 have n4:n<=4:=HP.out.few
 obtain ⟨gb,hgb⟩:∃ gb,0 < n->a=some ⟨gb,0,none⟩/\T gb/\w.heap.size<=gb/\RIn w1 gb es:=by
  rcases Nat.eq_zero_or_pos n with h0 | h0
  ·
   exact ⟨0,fun z=>by omega⟩
  ·
   obtain ⟨gb,h1⟩:=HP.out.at_ h0
   exact ⟨gb,fun _=>h1⟩
 have HAT:=hid hgb
 have HRC:=hid HP.out.recs
 clear hL hgb HP HV
 have n0:(0:Int)<=(n:Int):=by omega
 go_wp2
 go_loopw [24] (fun t wr=>∃ i:Nat,t=.int .i64 i/\i<=n/\∃ R1,each (Rck.vplay c) (L.take i) qR=(none,R1)/\PK S w r g c dn T R1 qs wr/\(0 < n->RIn wr gb es)/\∀ e∈es,BlksAt wr e.2.1 e.1.blocks) (fun t _=>n - (intOf t).toNat)
 case atStart=>exact ⟨0,rfl,by omega,qR,rfl,HPK.out,fun z=>(HAT.out z).2.2.2,fun e he=>(HRC.out e he).2.1⟩
 case round =>
  clear HPK
  obtain ⟨i,rfl,hi,R1,he,hpk,hin,hbk⟩:=hrel
  have HE:=hid he; have HPK:=hid hpk; have HIN:=hid hin; have HBK:=hid hbk
  have i0:(0:Int)<=(i:Int):=by omega
  clear he hpk hin hbk
  by_cases hlt:i < n
  ·
   have i1:(i:Int) < (n:Int):=by omega
   obtain ⟨ha,hgb,_,_⟩:=HAT.out (by omega)
   subst ha
   have HGB:=hid hgb
   obtain ⟨x,hx⟩:∃ x,es[i]?=some x:=⟨es[i]'(by rw [HLEN.out]; exact hlt),List.getElem?_eq_getElem _⟩
   obtain ⟨X,xa,xc⟩:=x
   have HX:=hid (show L[i]?=some X from by rw [<- HOUT.out,List.getElem?_map,hx]; rfl)
   have HMEM:=hid (List.mem_of_getElem? hx)
   have HLD:=hid ((HIN.out (by omega)).load hx)
   have HXO:=hid (HRC.out _ HMEM.out).1
   have HXT:=hid (HRC.out _ HMEM.out).2.2
   obtain ⟨W1,hW1⟩:∃ W,wr.alloc (.cells (X.V xa xc) 101)=W:=⟨_,rfl⟩
   have HW1:=hid hW1
   have X1:=hid (show Ext wr W1 from hW1▸(Ext.refl wr).alloc _)
   have B1:=hid (show W1.heap[wr.heap.size]?=some (.cells (X.V xa xc) 101 (0,0)) from hW1▸heap_alloc_new _ _)
   have hbs:(wr.alloc (.cells (Rcd.none_.V none 0) 101)).heap[wr.heap.size]?=some (.cells (Rcd.none_.V none 0) 101 (0,0)):=Zad
   obtain ⟨px,hpx⟩:∃ px,wr.heap.size=px:=⟨_,rfl⟩
   rw [hpx] at B1 hbs
   have HPX:=hid hpx
   have HP1:=hid (HPK.out.ext X1.out)
   have xd:Ext W1 W1.drew:=(Ext.refl W1).drew
   have HXD:=hid xd
   have c0y:∀ y:SW Ext W1.drew,y.w.cell? ⟨g,0,none⟩=some (.pointer (some ⟨r,0,none⟩)):=fun y=>(HP1.out.vol.ext (Ext.trans xd y.ext)).rack
   have lc:Hid (∀ y:SW Ext W1.drew,∀ j u,(Cfg.A c).toList[j]?=some u->y.w.cell? ((⟨g,1,none⟩:Addr).add j)=some u):=hid fun y=>(HP1.out.vol.ext (Ext.trans xd y.ext)).cfg
   have c1y:∀ y:SW Ext W1.drew,y.w.cell? ⟨px,1,none⟩=some (.int .i64 X.stripe):=fun y=>(Zaf ((Ext.trans xd y.ext).at B1.out)).trans rfl
   clear hx hW1 hpx xd hgb
   go_wp2_with (first
    | (guard_target=wpList _ _ _ (⟨some _,Op.load _ _,_,_,_,none⟩::_) _ _; refine Zac rfl 101 _ rfl ⟨gb,i*3,none⟩ rfl (X.V xa xc) (Za6 _ _ _) HLD.out ?_)
    | (guard_target=wpList _ _ _ (⟨none,Op.store _ _ _,_,_,_,none⟩::_) _ _; have hb0:=hbs; clear hbs; rw [HPX.out]; refine Zaa rfl 101 _ _ rfl px rfl (X.V xa xc) _ rfl 101 (Za6 _ _ _) hb0 rfl (V_one _ _ _) ?_; rw [<- HPX.out,Zaj,HW1.out,HPX.out]))
   refine Zal (S:=Ext) (.one [0,1,2,3,4,5,6,7,8,9] 10 (.fin [11,12,13,14,15])) (by kernel_rfl) (by kernel_rfl) (fun _ _ d _ _ h=>by cases d<;>exact h) ?_
   rw [wpS]
   simp only [opsAt,opA,opB,opC,opD,opE,opF,opG]
   iterate 7 ((refine Zab (fun K hK=>?_); go_simp; refine hK _ ?_; clear hK K))
   refine Zam 26 _ rfl ⟨g,1,none⟩ rfl (Cfg.A c) rfl (Zat c) lc.out ?_
   iterate 2 ((refine Zab (fun K hK=>?_); go_simp; refine hK _ ?_; clear hK K))
   refine Zae ?_
   intro V2 hV2
   have X2:=hid (Ext.trans HXD.out hV2)
   clear c0y lc c1y hV2 HXD
   refine Zav fun Q hQ=>?_
   go_wp2_with fail
   refine (slook_c (HP1.out.rack.ext X2.out) c X.stripe).mono ?_
   rintro e w3 ⟨lv,rfl,hlk⟩
   have X3:=hid hlk.ext
   obtain ⟨lk,hlke⟩:∃ lk,(R1.slook c X.stripe).1=lk:=⟨_,rfl⟩
   have HLK:=hid hlke
   rw [hlke]
   clear hlk hlke
   go_wp2
   refine hQ _ _ X3.out ?_
   clear hQ Q
   rw [wpS]
   simp only [opsAt,opA,opB,opC,opD,opE,opF,opG]
   iterate 5 ((refine Zab (fun K hK=>?_); go_simp; refine hK _ ?_; clear hK K))
   refine Zae ?_
   intro V4 hV4
   have XV:=hid (Ext.trans X2.out (Ext.trans X3.out hV4))
   have B4:=hid (XV.out.at B1.out)
   have c0:V4.cell? ⟨px,0,none⟩=some (.int .i64 X.seq):=(Zaf B4.out).trans rfl
   have XW:=hid (Ext.trans X1.out XV.out)
   have HP4:=hid (HPK.out.ext XW.out)
   have HIN4:=hid (fun z=>(HIN.out z).ext XW.out)
   have HBK4:=hid (fun e he=>(HBK.out e he).ext XW.out)
   clear hV4
   by_cases hgt:X.seq < lk
   ·
    have HN:=hid (Zbg HX.out HE.out (show Rck.vplay c R1 X=(none,R1) from by unfold Rck.vplay; rw [HLK.out,if_pos hgt]))
    go_wp2
    go_roundw
    case rel=>exact ⟨i+1,by go_num,by omega,R1,HN.out,HP4.out,HIN4.out,HBK4.out⟩
    case measure=>simp [intOf]; omega
   ·
    have HPL:=hid (show Rck.vplay c R1 X=R1.sput c X.stripe X.seq X.blocks from by unfold Rck.vplay; rw [HLK.out,if_neg hgt])
    obtain ⟨T1,hT1⟩:∃ T1,wideS T wr V4=T1:=⟨_,rfl⟩
    have HT1:=hid (show ∀ b,T b->T1 b from fun b hb=>hT1▸.inl hb)
    have HTX:=hid (show T1 px from hT1▸.inr ⟨Nat.le_of_eq HPX.out,lt_of_block B4.out⟩)
    have HRA:=hid (show RackAt T1 V4 r R1 from hT1▸HPK.out.rack.pokes XW.out fun b hb=>hb.elim)
    have xd:Ext V4 V4.drew:=(Ext.refl V4).drew
    have HXD:=hid xd
    have c0y:∀ y:SW (Only fun b=>¬T1 b) V4.drew,y.w.cell? ⟨g,0,none⟩=some (.pointer (some ⟨r,0,none⟩)):=fun y=>((HP4.out.vol.ext xd).keep y.ext (HT1.out g HP4.out.gT)).rack
    have lc:Hid (∀ y:SW (Only fun b=>¬T1 b) V4.drew,∀ j u,(Cfg.A c).toList[j]?=some u->y.w.cell? ((⟨g,1,none⟩:Addr).add j)=some u):=hid fun y=>((HP4.out.vol.ext xd).keep y.ext (HT1.out g HP4.out.gT)).cfg
    have cx0:∀ y:SW (Only fun b=>¬T1 b) V4.drew,y.w.cell? ⟨px,0,none⟩=some (.int .i64 X.seq):=fun y=>(Zaf (y.ext.at (xd.at B4.out) fun q=>q HTX.out)).trans rfl
    have cx1:∀ y:SW (Only fun b=>¬T1 b) V4.drew,y.w.cell? ⟨px,1,none⟩=some (.int .i64 X.stripe):=fun y=>(Zaf (y.ext.at (xd.at B4.out) fun q=>q HTX.out)).trans rfl
    have cx2:∀ y:SW (Only fun b=>¬T1 b) V4.drew,y.w.cell? ⟨px,2,none⟩=some (.slice xa X.blocks.length xc):=fun y=>(Zaf (y.ext.at (xd.at B4.out) fun q=>q HTX.out)).trans rfl
    clear hT1 xd
    go_wp2_with fail
    refine Zau (E:=Ext) (S:=Only fun b=>¬T1 b) (.one [0,1,2,3,4,5,6,7,8,9,10,11,12,13] 14 (.fin [15])) (by kernel_rfl) (by kernel_rfl) (fun _ _ d _ _ h=>by cases d<;>exact h) ?_
    rw [wpS]
    simp only [opsAt,opA,opB,opC,opD,opE,opF,opG]
    iterate 7 ((refine Zab (fun K hK=>?_); go_simp; refine hK _ ?_; clear hK K))
    refine Zam 26 _ rfl ⟨g,1,none⟩ rfl (Cfg.A c) rfl (Zat c) lc.out ?_
    iterate 6 ((refine Zab (fun K hK=>?_); go_simp; refine hK _ ?_; clear hK K))
    refine Zae ?_
    intro V5 hV5
    have X5:=hid (Ext.trans HXD.out hV5)
    clear c0y lc cx0 cx1 cx2 hV5 HXD
    refine Zav fun Q hQ=>?_
    go_wp2_with fail
    refine (strput_c (HRA.out.ext X5.out) c X.stripe X.seq X.blocks (fun b hb=>HXO.out.len b hb) (fun b hb=>HXO.out.byte b hb) xa xc ((HBK4.out _ HMEM.out).ext X5.out)).mono ?_
    rintro e w6 ⟨rfl,h6,k6⟩
    rcases hq:R1.sput c X.stripe X.seq X.blocks with ⟨o2,R2⟩
    rw [hq] at h6
    simp only at h6 ⊢
    have HQ:=hid (HPL.out.trans hq)
    have H6:=hid h6; have K6:=hid k6
    clear h6 k6 hq
    obtain ⟨ov,hov⟩:∃ ov,oErr o2=ov:=⟨_,rfl⟩
    have HOV2:=hid hov
    rw [hov]
    clear hov
    go_wp2
    refine hQ _ _ K6.out ?_
    clear hQ Q
    rw [wpS]
    simp only [opsAt,opA,opB,opC,opD,opE,opF,opG]
    (refine Zab (fun K hK=>?_); go_simp; refine hK _ ?_; clear hK K)
    refine Zae ?_
    intro V7 hV7
    have KT:=hid (show Keeps T V4 V7 from Only.ext (Only.trans (Ext.only X5.out) K6.out fun b _ q z=>q (HT1.out b z)) hV7)
    have HP7:=hid (HP4.out.keep ((H6.out.ext hV7).less HT1.out) KT.out)
    have HIN7:=hid (show 0 < n->RIn V7 gb es from fun z=>by
     obtain ⟨cur,q1,q2,q3⟩:=HIN4.out z
     exact ⟨cur,KT.out.at q1 (fun q=>q HGB.out),q2,q3⟩)
    have HBK7:=hid (show ∀ e∈es,BlksAt V7 e.2.1 e.1.blocks from fun e he=>(HBK4.out e he).only KT.out fun b hb q=>q ((HRC.out e he).2.2 b hb).1)
    clear hV7
    rcases o2 with _ | er
    case some =>
     obtain ⟨et,ev,hev⟩:=er.iface
     have HR:=hid (HVB.out R2 er (by trivial) (Zbp HX.out HE.out HQ.out))
     have HZ:=hid (HP7.out.post (some er))
     obtain rfl:ov=.iface et ev:=by rw [<- HOV2.out]; exact hev
     rw [HOV2.out] at HZ
     clear hev
     go_wp2
     go_ret
     rw [HR.out]
     exact HZ.out
    obtain rfl:Value.nilIface=ov:=HOV2.out
    have HN:=hid (Zbg HX.out HE.out HQ.out)
    go_wp2
    go_roundw
    case rel=>exact ⟨i+1,by go_num,by omega,R2,HN.out,HP7.out,HIN7.out,HBK7.out⟩
    case measure=>simp [intOf]; omega
  ·
   obtain rfl:i=n:=by omega
   have HR:=hid (HVO.out R1 (by trivial) (by
    have:=HE.out
    rwa [List.take_of_length_le (by rw [<- HOUT.out,List.length_map,HLEN.out]; exact Nat.le_refl _)] at this))
   rw [HSN.out] at HR
   have c4:wr.cell? ⟨g,4,none⟩=some (.int .i64 st):=by rw [HPK.out.vol.cst,HST.out]
   clear HIN HBK HE HVB HVO
   go_wp2
   go_loopw [70] (fun t wq=>∃ s:Nat,t=.int .i64 s/\s<=st/\(R1.vask c qs s).1=none/\PK S w r g c dn T R1 (R1.vask c qs s).2 wq) (fun t _=>st - (intOf t).toNat)
   case atStart=>exact ⟨0,rfl,by omega,rfl,HPK.out⟩
   case round =>
    clear HPK c4
    obtain ⟨s,rfl,hs,ha,hpk⟩:=hrel
    have HA:=hid ha
    have s0:(0:Int)<=(s:Int):=by omega
    obtain ⟨sa,hsa⟩:∃ sa,(R1.vask c qs s).2=sa:=⟨_,rfl⟩
    rw [hsa] at hpk
    have HSA:=hid hsa
    have HPK:=hid hpk
    clear ha hpk hsa
    by_cases hlt:s < st
    ·
     have s1:(s:Int) < (st:Int):=by omega
     have xd:Ext wr wr.drew:=(Ext.refl wr).drew
     have HXD:=hid xd
     have c0y:∀ y:SW Ext wr.drew,y.w.cell? ⟨g,0,none⟩=some (.pointer (some ⟨r,0,none⟩)):=fun y=>(HPK.out.vol.ext (Ext.trans xd y.ext)).rack
     have lc:Hid (∀ y:SW Ext wr.drew,∀ j u,(Cfg.A c).toList[j]?=some u->y.w.cell? ((⟨g,1,none⟩:Addr).add j)=some u):=hid fun y=>(HPK.out.vol.ext (Ext.trans xd y.ext)).cfg
     clear xd
     go_wp2_with fail
     refine Zal (S:=Ext) (.one [0,1,2,3,4,5,6,7,8] 9 (.fin [10,11,12,13,14,15,16])) (by kernel_rfl) (by kernel_rfl) (fun _ _ d _ _ h=>by cases d<;>exact h) ?_
     rw [wpS]
     simp only [opsAt,opA,opB,opC,opD,opE,opF,opG]
     iterate 7 ((refine Zab (fun K hK=>?_); go_simp; refine hK _ ?_; clear hK K))
     refine Zam 26 _ rfl ⟨g,1,none⟩ rfl (Cfg.A c) rfl (Zat c) lc.out ?_
     (refine Zab (fun K hK=>?_); go_simp; refine hK _ ?_; clear hK K)
     refine Zae ?_
     intro V4 hV4
     have HX4:=hid (Ext.trans HXD.out hV4)
     clear c0y lc hV4 HXD
     refine Zav fun Q hQ=>?_
     go_wp2_with fail
     refine (sget_c (HPK.out.rack.ext HX4.out) c s).mono ?_
     rintro e w5 ⟨gv,rfl,hown,x5⟩
     rcases hq:R1.sget c (s:Int) with ⟨l,gen,o⟩
     simp only
     obtain ⟨ov,hov⟩:∃ ov,oErr o=ov:=⟨_,rfl⟩
     have HOV:=hid hov
     rw [hov]
     have HX5:=hid x5
     have HQ:=hid hq
     clear hown x5 hov hq
     go_wp2
     refine hQ _ _ HX5.out ?_
     clear hQ Q
     rw [wpS]
     simp only [opsAt,opA,opB,opC,opD,opE,opF,opG]
     iterate 7 ((refine Zab (fun K hK=>?_); go_simp; refine hK _ ?_; clear hK K))
     refine Zae ?_
     intro V6 hV6
     have HP6:=hid (HPK.out.ext (Ext.trans HX4.out (Ext.trans HX5.out hV6)))
     clear hV6
     rcases o with _ | er
     case some =>
      obtain ⟨et,ev,hev⟩:=er.iface
      have HV:=hid (show R1.vask c qs st=(some er,sa) from by
       have h1:=Rck.vask_err (e:=er) HA.out (by rw [HQ.out])
       rw [HSA.out] at h1
       rw [Rck.vask_stop (i:=s+1) (by rw [h1]; simp) (by omega),h1])
      have HZ:=hid (HP6.out.post (some er))
      obtain rfl:ov=.iface et ev:=by rw [<- HOV.out]; exact hev
      rw [HOV.out] at HZ
      clear hev
      go_wp2
      go_ret
      rw [HR.out,HV.out]
      exact HZ.out
     obtain rfl:Value.nilIface=ov:=HOV.out
     have HV:=hid (show R1.vask c qs (s+1)=(none,max sa gen) from by
      rw [Rck.vask_ok HA.out (by rw [HQ.out]),HSA.out,HQ.out])
     have c6:V6.cell? ⟨g,6,none⟩=some (.int .i64 sa):=HP6.out.vol.seq
     have f6:=HP6.out.vol.free 6
     go_wp2_with (guard_target=wpList _ _ _ (⟨some _,Op.call _,_,_,_,none⟩::_) _ _; refine Zbi rfl _ _ 3 rfl sa gen rfl rfl ?_)
     go_roundw
     case rel =>
      refine ⟨s+1,by go_num,by omega,by rw [HV.out],?_⟩
      rw [HV.out]
      exact HP6.out.setSeq (max sa gen)
     case measure=>simp [intOf]; omega
    ·
     obtain rfl:s=st:=by omega
     have HZ:=hid (HPK.out.post none)
     have HV:=hid (show R1.vask c qs s=(none,sa) from by rw [<- HSA.out,<- HA.out])
     go_wp2
     go_ret
     rw [HR.out,HV.out]
     exact HZ.out
end Go.Proofs.YtgjnnbomnoafcaaGreat
namespace Go.Proofs.YtgjnnbomnoafcaaGreat
set_option linter.unusedVariables false
open Go Go.RowKit
attribute [local irreducible] wpSQ
theorem Rck.superFind_good {R:Rck} (h:R.superFind.2=none):R.superFind.1.Good:=by
 unfold Rck.superFind at h ⊢
 split at h
 ·
  cases h
 ·
  rename_i q
  rw [if_neg q]
  refine Rck.fits_good (R:=R) ?_
  rcases hf:R.fits (R.counted R.l.length).1 with _ | _
  ·
   exact absurd (.inr (.inr hf)) q
  ·
   rfl
theorem built_vol (c:Cfg) (r:Nat):Tryz.prog.built 96 [(0,.pointer (some ⟨r,0,none⟩)),(1,.agg (Cfg.A c)),(2,.int .i64 1)]=some (Vol.A ⟨c,1,false⟩ r):=by rw [Cfg.A_def]; kernel_rfl
structure VOpenOk (S:Nat->Prop) (w:World) (r:Nat) (R:Rck) (v:Vol) (e:Ending) (w':World) (g:Nat) (T:Nat->Prop):Prop where
 ret:e=.returned (.tuple #[.pointer (some ⟨g,0,none⟩),.nilIface])
 rack:RackAt T w' r R
 vol:VolAt w' g r v
 low:∀ b,S b->T b
 gT:T g
 new:w.heap.size<=g
 keep:Keeps S w w'
structure VOpenBad (S:Nat->Prop) (w:World) (r:Nat) (R:Rck) (er:Err) (e:Ending) (w':World):Prop where
 ret:e=.returned (.tuple #[.pointer none,oErr (some er)])
 rack:RackAt S w' r R
 keep:Keeps S w w'
def VOpenPost (S:Nat->Prop) (w:World) (r:Nat) (q:Option Err × Rck × Cfg × Int) (e:Ending) (w':World):Prop :=
 (∃ er,q.1=some er/\VOpenBad S w r q.2.1 er e w')\/(q.1=none/\∃ g T,VOpenOk S w r q.2.1 ⟨q.2.2.1,q.2.2.2,false⟩ e w' g T)
set_option maxRecDepth 100000 in
set_option maxHeartbeats 4000000 in
theorem vopen_c {S:Nat->Prop} {w:World} {r:Nat} {R:Rck} (h:RackAt S w r R) :
  Calls Tryz.prog 32 #[.pointer (some ⟨r,0,none⟩)] w (VOpenPost S w r R.vopen):=by
 have hzc:=zero_cfg
 have HCS:=hid Cfg.A_size
 have H:=hid h
 clear h
 go_enter Tryz.func32,Tryz.ntmps32
 go_wp2_with fail
 refine (at_off H.out).mono ?_
 rintro e w1 ⟨rfl,rfl⟩
 rcases ho:R.off with _ | _
 case true =>
  have HV:=hid (show R.vopen=(some (.fault sVOpen 0 (.no 5)),R,Cfg.zero,0) by unfold Rck.vopen; rw [if_pos ho])
  have HW:=hid (Zap sVOpen 0 (.no 5) w)
  simp only [Err.val] at HW
  clear ho
  go_wp2_with fail
  refine HW.out.mono ?_
  rintro e w2 ⟨rfl,rfl⟩
  go_wp2
  go_ret2
  rw [HV.out]
  exact .inl ⟨_,rfl,rfl,H.out,Only.refl _ _⟩
 have HVO:=hid (show R.vopen=match R.superFind.2 with
  | some e=>(some (.fault sVOpen 0 e),R,Cfg.zero,0)
  | none =>
   if (R.online.length:Int) < R.superFind.1.k then (some (.fault sVOpen 0 (.no 7)),R,Cfg.zero,0)
   else match (R.vrecover R.superFind.1 1).1 with
    | some e=>(some (.fault sVOpen 0 e),(R.vrecover R.superFind.1 1).2.1,Cfg.zero,0)
    | none=>(none,(R.vrecover R.superFind.1 1).2.1,R.superFind.1,(R.vrecover R.superFind.1 1).2.2) by
  conv=>lhs; unfold Rck.vopen
  rw [if_neg (by rw [ho]; simp)]
  rfl)
 clear ho
 go_wp2_with fail
 refine (sfind_c H.out).mono ?_
 rintro e w2 ⟨rfl,x2⟩
 have HX2:=hid x2
 have HGD:=hid (Rck.superFind_good (R:=R))
 obtain ⟨c,hc⟩:∃ c,R.superFind.1=c:=⟨_,rfl⟩
 obtain ⟨o,ho⟩:∃ o,R.superFind.2=o:=⟨_,rfl⟩
 rw [hc,ho] at HVO HGD ⊢
 clear x2 hc ho
 obtain ⟨px,hpx⟩:∃ px,w2.heap.size=px:=⟨_,rfl⟩
 obtain ⟨W3,hW3⟩:∃ W,w2.alloc (.cells (Cfg.A c) 26)=W:=⟨_,rfl⟩
 have X3:=hid (show Ext w2 W3 from hW3▸(Ext.refl w2).alloc _)
 have B3:=hid (show W3.heap[px]?=some (.cells (Cfg.A c) 26 (0,0)) from hpx▸hW3▸heap_alloc_new _ _)
 have hbs:(w2.alloc (.cells (Cfg.A Cfg.zero) 26)).heap[px]?=some (.cells (Cfg.A Cfg.zero) 26 (0,0)):=hpx▸Zad
 have HPX:=hid hpx; have HW3:=hid hW3
 have HXW:=hid (Ext.trans HX2.out X3.out)
 clear hpx hW3
 rcases o with _ | er
 case some =>
  have HV:=hid (show R.vopen=(some (.fault sVOpen 0 er),R,Cfg.zero,0) from HVO.out)
  have HW:=hid (Zap sVOpen 0 er W3)
  obtain ⟨et,ev,hev⟩:=er.iface
  simp only [oErr]
  rw [hev] at HW ⊢
  clear hev HVO
  go_wp2_with (guard_target=wpList _ _ _ (⟨none,Op.store _ _ _,_,_,_,none⟩::_) _ _; have hb0:=hbs; clear hbs; rw [HPX.out]; refine Zaa rfl 26 _ _ rfl px rfl (Cfg.A c) _ rfl 26 (by rw [HCS.out]; exact aggCfg) hb0 (by rw [HCS.out,HCS.out]) (Cfg.A_one _) ?_; rw [<- HPX.out,Zaj,HW3.out,HPX.out])
  refine HW.out.mono ?_
  rintro e w4 ⟨rfl,rfl⟩
  go_wp2
  go_ret2
  rw [HV.out]
  exact .inl ⟨_,rfl,rfl,H.out.ext HXW.out,Ext.only HXW.out⟩
 simp only [oErr]
 simp only at HVO
 have HG:=hid (HGD.out rfl)
 have H3:=hid (H.out.ext HXW.out)
 have xd:Ext W3 W3.drew:=(Ext.refl W3).drew
 have HXD:=hid xd
 have c1y:∀ y:SW Ext W3.drew,y.w.cell? ⟨px,1,none⟩=some (.int .i64 c.k):=fun y=>(Zaf ((Ext.trans xd y.ext).at B3.out)).trans (Cfg.A1 c)
 clear xd HGD
 go_wp2_with (guard_target=wpList _ _ _ (⟨none,Op.store _ _ _,_,_,_,none⟩::_) _ _; have hb0:=hbs; clear hbs; rw [HPX.out]; refine Zaa rfl 26 _ _ rfl px rfl (Cfg.A c) _ rfl 26 (by rw [HCS.out]; exact aggCfg) hb0 (by rw [HCS.out,HCS.out]) (Cfg.A_one _) ?_; rw [<- HPX.out,Zaj,HW3.out,HPX.out])
 refine Zal (S:=Ext) (.one [0,3,4] 1 (.fin [2,5])) (by kernel_rfl) (by kernel_rfl) (fun _ _ d _ _ h=>by cases d<;>exact h) ?_
 rw [wpS]
 simp only [opsAt,opA,opB,opC,opD,opE,opF,opG]
 iterate 3 ((refine Zab (fun K hK=>?_); go_simp; refine hK _ ?_; clear hK K))
 refine Zae ?_
 intro V4 hV4
 have X4:=hid (Ext.trans HXD.out hV4)
 clear c1y hV4 HXD
 refine Zav fun Q hQ=>?_
 go_wp2_with fail
 refine (Zbx (H3.out.ext X4.out)).mono ?_
 rintro e V5 ⟨ov,rfl,hown,x5⟩
 obtain ⟨oa,ocp,rfl,_⟩:=hown.slice
 go_wp2
 refine hQ _ _ x5 ?_
 clear hQ Q
 rw [wpS]
 simp only [opsAt,opA,opB,opC,opD,opE,opF,opG]
 iterate 2 ((refine Zab (fun K hK=>?_); go_simp; refine hK _ ?_; clear hK K))
 refine Zae ?_
 intro V6 hV6
 have X6:=hid (Ext.trans X4.out (Ext.trans x5 hV6))
 have XA:=hid (Ext.trans HXW.out X6.out)
 have H6:=hid (H.out.ext XA.out)
 have B6:=hid (X6.out.at B3.out)
 clear hV6 x5 hown
 generalize R.online.length=ol at *
 by_cases hol:(ol:Int) < c.k
 ·
  have HV:=hid (show R.vopen=(some (.fault sVOpen 0 (.no 7)),R,Cfg.zero,0) by rw [HVO.out,if_pos hol])
  have HW:=hid (Zap sVOpen 0 (.no 7) V6)
  simp only [Err.val] at HW
  clear HVO
  go_wp2_with fail
  refine HW.out.mono ?_
  rintro e w7 ⟨rfl,rfl⟩
  go_wp2
  go_ret2
  rw [HV.out]
  exact .inl ⟨_,rfl,rfl,H6.out,Ext.only XA.out⟩
 rw [if_neg hol] at HVO
 obtain ⟨g,hg⟩:∃ g,V6.heap.size=g:=⟨_,rfl⟩
 obtain ⟨W7,hW7⟩:∃ W,V6.alloc (.cells (Vol.A ⟨c,1,false⟩ r) 96)=W:=⟨_,rfl⟩
 have X7:=hid (show Ext w W7 from Ext.trans XA.out (hW7▸(Ext.refl V6).alloc _))
 have V7:=hid (show VolAt W7 g r ⟨c,1,false⟩ from hg▸hW7▸heap_alloc_new _ _)
 obtain ⟨T,hT⟩:∃ T,wideS S w W7=T:=⟨_,rfl⟩
 have H7:=hid (show RackAt T W7 r R from hT▸H.out.pokes X7.out fun b hb=>hb.elim)
 have HNG:=hid (show w.heap.size<=g from hg▸XA.out.size)
 have HTG:=hid (show T g from hT▸.inr ⟨HNG.out,lt_of_block V7.out⟩)
 have HLOW:=hid (show ∀ b,S b->T b from fun b hb=>hT▸.inl hb)
 have HKP:=hid (show ∀ w',Only (fun b=>¬T b\/b=g) W7 w'->Keeps S w w' from fun w' k=>Only.trans (Ext.only X7.out) k fun b hb q=>q.elim (fun z z2=>z (HLOW.out b z2)) (fun z=>by have:=HNG.out; omega))
 have HB:=hid (built_vol c r)
 have HW7:=hid hW7; have HGE:=hid hg
 clear hT hW7 hg
 go_wp2_with (first
  | (guard_target=wpList _ _ _ (⟨some _,Op.load _ _,_,_,_,none⟩::_) _ _; refine Zac rfl 26 _ rfl ⟨px,0,none⟩ rfl (Cfg.A c) (Zat c) (Zai B6.out) ?_)
  | (guard_target=wpList _ _ _ (⟨some _,Op.build _ _,_,_,_,none⟩::_) _ _; refine Zao rfl 96 _ rfl (Vol.A ⟨c,1,false⟩ r) ?_ ?_; (simp only [List.map_toArray,List.map_cons,List.map_nil,Act.eval]; simp only [Array.getD_eq_getD_getElem?,List.getElem?_toArray,List.getElem?_cons_succ,List.getElem?_cons_zero,Option.getD_some]; exact HB.out)))
 rw [HW7.out,HGE.out]
 refine (vrecover_c H7.out V7.out HTG.out HG.out).mono ?_
 rintro e w8 ⟨rfl,h8,v8,o8⟩
 rcases hq:R.vrecover c 1 with ⟨o,R8,s8⟩
 rw [hq] at h8 v8 HVO
 simp only at h8 v8 HVO ⊢
 have H8:=hid h8; have V8:=hid v8; have K8:=hid (HKP.out _ o8)
 clear h8 v8 o8 hq HW7 HGE
 rcases o with _ | er
 case some =>
  have HW:=hid (Zap sVOpen 0 er w8)
  obtain ⟨et,ev,hev⟩:=er.iface
  simp only [oErr]
  rw [hev] at HW ⊢
  clear hev
  go_wp2_with fail
  refine HW.out.mono ?_
  rintro e w9 ⟨rfl,rfl⟩
  go_wp2
  go_ret2
  rw [HVO.out]
  exact .inl ⟨_,rfl,rfl,H8.out.less HLOW.out,K8.out⟩
 simp only [oErr]
 go_wp2
 go_ret2
 rw [HVO.out]
 exact .inr ⟨rfl,g,T,rfl,H8.out,V8.out,HLOW.out,HTG.out,HNG.out,K8.out⟩
end Go.Proofs.YtgjnnbomnoafcaaGreat
namespace Go
theorem run_results_agg1 {P:Program} {fn:Func} {p:Tmp} {ty t:TypeId} {g:Nat} {A:Array Value} {tmps:Array Value} {w:World} (h:fn.results=#[.cell p ty]) (hp:tmps.getD p undef=.pointer (some ⟨g,0,none⟩))
  (ht:AggType P ty A.size) (hg:w.heap[g]?=some (.cells A t (0,0))):(results fn tmps).run P w=.ok (.agg A) w:=by
 have hl:=Zbb (P:=P) w ty ⟨g,0,none⟩ A ht (fun j v hv=>by
  have e:(⟨g,0,none⟩:Addr).add j=⟨g,j,none⟩:=by unfold Addr.add; split<;>simp_all
  rw [e]; simp only [World.cell?,hg]
  simpa using hv)
 have hp':tmps[p]?.getD undef=.pointer (some ⟨g,0,none⟩):=by rw [<- Array.getD_eq_getD_getElem?]; exact hp
 simp only [results,h]
 simp [Sem.run_bind,Result.andThen,hp',asAddr,hl]
end Go
namespace Go.Proofs.YtgjnnbomnoafcaaGreat
set_option linter.unusedVariables false
open Go Go.RowKit
set_option maxRecDepth 100000 in
set_option maxHeartbeats 1000000 in
theorem vconfig_c {w:World} {g r:Nat} {v:Vol} (h:VolAt w g r v):Calls Tryz.prog 33 #[.pointer (some ⟨g,0,none⟩)] w fun e w'=>e=.returned (.agg (Cfg.A v.c))/\Ext w w':=by
 have hzc:=zero_cfg
 have HCS:=hid Cfg.A_size
 obtain ⟨W1,hW1⟩:∃ W,w.alloc (.cells (Cfg.A Cfg.zero) 26)=W:=⟨_,rfl⟩
 have X1:=hid (show Ext w W1 from hW1▸(Ext.refl w).alloc _)
 have HC1:=hid (show W1.heap[w.heap.size]?=some (.cells (Cfg.A Cfg.zero) 26 (0,0)) from hW1▸heap_alloc_new _ _)
 have HV:=hid (h.ext X1.out)
 have HW1:=hid hW1
 clear h hW1
 go_enter Tryz.func33,Tryz.ntmps33
 go_wp2_with (first
  | (guard_target=wpList _ _ _ (⟨some _,Op.load _ _,_,_,_,none⟩::_) _ _; refine Zac rfl 26 _ rfl ⟨g,1,none⟩ rfl (Cfg.A v.c) (Zat v.c) (by first | exact HV.out.cfg | (rw [HW1.out]; exact HV.out.cfg)) ?_)
  | (guard_target=wpList _ _ _ (⟨none,Op.store _ _ _,_,_,_,none⟩::_) _ _; (first | rw [HW1.out] | skip); refine Zaa rfl 26 _ _ rfl w.heap.size rfl (Cfg.A v.c) _ rfl 26 ?_ HC1.out ?_ ?_ ?_; (rw [HCS.out]; exact aggCfg); (rw [HCS.out,HCS.out]); exact Cfg.A_one _))
 refine bodyPost_ret (run_results_agg1 (p:=2) Tryz.results33 rfl (Zat _) (setRow_heap _ _ _ _ _ _ HC1.out)) rfl ?_
 exact ⟨rfl,Ext.then X1.out (Zag _ _ _) (fun i hi=>by omega)⟩
structure VE (w0 w:World) (S:Nat->Prop) (r:Nat) (R:Rck):Prop where
 rack:RackAt S w r R
 ext:Ext w0 w
 low:∀ b,b < w0.heap.size->S b
namespace VE
variable {w0 w w':World} {S T:Nat->Prop} {r g:Nat} {R R':Rck} {v v':Vol} {a:Option Addr} {l:List (List Nat)}
theorem more (h:VE w0 w S r R) (e:Ext w w'):VE w0 w' S r R:=⟨h.rack.ext e,Ext.trans h.ext e,h.low⟩
theorem keep (h:VE w0 w S r R) (hr:RackAt S w' r R') (k:Keeps S w w'):VE w0 w' S r R':=⟨hr,Ext.then h.ext k (fun b hb q=>q (h.low b hb)),h.low⟩
end VE
end Go.Proofs.YtgjnnbomnoafcaaGreat
