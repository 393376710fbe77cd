/- The statement TapeFills: for every input the call of stavelaw's TapeFills answers true, and its arguments read behind it as they read before. No condition. -/
/- Texts of one proof, joined: WTapeFills, LawTapeFills. -/
import Derived.Test.YtgjnnbomnoafcaaGreatPBD
import Derived.Test.YtgjnnbomnoafcaaGreatPBF
import Derived.Test.YtgjnnbomnoafcaaGreatPX
import Derived.Test.YtgjnnbomnoafcaaGreatPCA
import Derived.Test.YtgjnnbomnoafcaaGreatPCB
import Derived.Test.YtgjnnbomnoafcaaGreatPBB
import Derived.Test.YtgjnnbomnoafcaaGreatRows
import Derived.WalkKit
import Derived.ProofKit
import Derived.OpenShut
import Derived.ShutString
import Derived.Carry
set_option linter.unusedVariables false
set_option linter.unusedSimpArgs false
namespace Go.Proofs.YtgjnnbomnoafcaaGreat
set_option linter.unusedVariables false
open Go Go.RowKit
attribute [local irreducible] wpSQ
def fillL (k:Nat) (l:List (List Nat)):List (List Nat):=if Tp.fits k l then Tp.chunks k (Tp.pack l) else []
theorem tfill_u (c:Cfg) (hc:c.Good) (l:List (List Nat)) (hl:l.length<=100) (a:Option Addr) (cp:Nat) (w:World) (h:EntsAt w a l) :
  Calls Tryz.prog 6 #[.agg (Cfg.A c),.slice a l.length cp] w fun e w'=>Ext w w'/\∃ ga,e=.returned (.slice ga (fillL c.k.toNat l).length (fillL c.k.toNat l).length)/\BlksAt w' ga (fillL c.k.toNat l)/\(fillL c.k.toNat l=[]->ga=none):=by
 refine (tfill_c c hc l hl a cp w h).mono fun e w' ⟨x,q⟩=>⟨x,?_⟩
 unfold fillL
 rcases q with ⟨q,rfl⟩ | ⟨q,g,rfl,_,hb⟩
 ·
  rw [if_neg q]; exact ⟨none,rfl,fun i b hb=>by simp at hb,fun _=>rfl⟩
 ·
  rw [if_pos q]; exact ⟨_,by rw [Tp.chunks_len],hb,fun z=>by
   have:=congrArg List.length z
   rw [Tp.chunks_len,List.length_nil] at this
   have:=hc.k0
   omega⟩
theorem rfill_u (c:Cfg) (hc:c.Good) (l:List (List Nat)) (hl:l.length<=100) (a:Option Addr) (cp:Nat) (w:World) (h:EntsAt w a l) :
  Calls Tryz.prog 7 #[.agg (Cfg.A c),.slice a l.length cp] w fun e w'=>Ext w w'/\∃ ga,e=.returned (.slice ga (fillL c.k.toNat l).length (fillL c.k.toNat l).length)/\BlksAt w' ga (fillL c.k.toNat l)/\(fillL c.k.toNat l=[]->ga=none):=by
 refine (rfill_c c hc l hl a cp w h).mono fun e w' ⟨x,q⟩=>⟨x,?_⟩
 unfold fillL
 rcases q with ⟨q,rfl⟩ | ⟨q,g,rfl,_,hb⟩
 ·
  rw [if_neg q]; exact ⟨none,rfl,fun i b hb=>by simp at hb,fun _=>rfl⟩
 ·
  rw [if_pos q]; exact ⟨_,by rw [Tp.chunks_len],hb,fun z=>by
   have:=congrArg List.length z
   rw [Tp.chunks_len,List.length_nil] at this
   have:=hc.k0
   omega⟩
theorem empty_bd {l:List (List Nat)} (h:∀ b∈l,b.length=108) (hn:l.length<=8):(Tp.empty l).length<=140737488355328:=by
 have h1:=Tp.empty_len l
 have h2:∀ l:List (List Nat),(∀ b∈l,b.length=108)->l.flatten.length=108*l.length:=by
  intro l
  induction l with
  | nil=>exact fun _=>rfl
  | cons b l ih =>
   intro h
   have:=ih fun b hb=>h b (by simp [hb])
   have:=h b (by simp)
   simp only [List.flatten_cons,List.length_append,List.length_cons]
   omega
 have:=h2 l h
 omega
theorem fillL_108 (k:Nat) (l:List (List Nat)):∀ b∈fillL k l,b.length=108:=fun b hb=>by
 unfold fillL at hb
 split at hb
 ·
  exact Tp.chunks_108 _ _ b hb
 ·
  cases hb
theorem fillL_len (k:Nat) (l:List (List Nat)):(fillL k l).length<=k:=by
 unfold fillL
 split
 ·
  rw [Tp.chunks_len]; exact Nat.le_refl _
 ·
  exact Nat.zero_le _
theorem fillL_byte (k:Nat) {l:List (List Nat)} (h:∀ x∈l,∀ y∈x,y < 256):∀ b∈fillL k l,∀ x∈b,x < 256:=fun b hb=>by
 unfold fillL at hb
 split at hb
 ·
  exact Tp.chunks_byte (Tp.pack_byte h) b hb
 ·
  cases hb
set_option maxRecDepth 100000 in
set_option maxHeartbeats 1600000 in
theorem tapeFills_c (k n:Int) (a:Option Addr) (len cap:Nat) (Z:Nat->List Nat) (xb:List Nat) (at_:Int) (w:World) (hl:NestAt w a len Z) (hx8:xb.length=108) (hxb:∀ x∈xb,x < 256) :
  Calls Tryz.prog 3 #[.int .i64 k,.int .i64 n,.slice a len cap,.agg (bA xb),.int .i64 at_] w fun e w'=>e=.returned (.bool true)/\Ext w w':=by
 have HL:=hid hl
 have HX8:=hid hx8; have HXB:=hid hxb
 obtain ⟨w00,hw00⟩:∃ W,w.alloc (.cells (bA xb) 24)=W:=⟨_,rfl⟩
 have HBX:=hid (show w00.heap[w.heap.size]?=some (.cells (bA xb) 24 (0,0)) from hw00▸heap_alloc_new _ _)
 have HW00:=hid hw00
 have X00:=hid (show Ext w w00 from hw00▸(Ext.refl w).alloc _)
 clear hl hx8 hxb hw00
 have hzc:=zero_cfg
 have HCS:=hid Cfg.A_size
 go_enter Tryz.func3,Tryz.ntmps3
 go_wp2_with fail
 rw [HW00.out]
 refine (kfixed_c k n 2 1 _).mono ?_
 rintro e w1 ⟨rfl,x1⟩
 have HGD:=hid (show (keepFixed k n 2 1).Good from keepFixed_good k n 2 1 (by omega) (by omega) (by omega) (by omega))
 have HK4:=hid (keepFixed_k4 k n 2 1)
 generalize keepFixed k n 2 1=c at *
 obtain ⟨W1,hW1⟩:∃ W,w1.alloc (.cells (Cfg.A c) 26)=W:=⟨_,rfl⟩
 have X1:=hid (show Ext w W1 from hW1▸(Ext.trans X00.out x1).alloc _)
 have XB1:=hid (show Ext w00 W1 from hW1▸x1.alloc _)
 have HC:=hid (show W1.heap[w1.heap.size]?=some (.cells (Cfg.A c) 26 (0,0)) from hW1▸heap_alloc_new _ _)
 have hbs:(w1.alloc (.cells (Cfg.A Cfg.zero) 26)).heap[w1.heap.size]?=some (.cells (Cfg.A Cfg.zero) 26 (0,0)):=Zad
 have HW1:=hid hW1
 clear x1 hW1
 go_wp2_with (guard_target=wpList _ _ _ (⟨none,Op.store _ _ _,_,_,_,none⟩::_) _ _; refine Zaa rfl 26 _ _ rfl w1.heap.size rfl (Cfg.A c) _ rfl 26 ?_ hbs ?_ ?_ ?_; (rw [HCS.out]; exact aggCfg); (rw [HCS.out,HCS.out]); exact Cfg.A_one _; rw [Zaj,HW1.out])
 clear hbs
 generalize w1.heap.size=g at *
 obtain ⟨kk,hk⟩:∃ kk:Nat,c.k=kk:=⟨c.k.toNat,by have:=HGD.out.k0; omega⟩
 have HKT:=hid (show c.k.toNat=kk by omega)
 have k1:1<=kk:=by have:=HGD.out.k0; omega
 have k4:kk<=4:=by have:=HK4.out; omega
 have HK:=hid hk
 clear hk
 go_wp2_with fail
 refine (some_c cap 450 (by omega) W1 (HL.out.ext X1.out)).mono ?_
 rintro e w2 ⟨v2,bk,cp,rfl,heo,x2⟩
 obtain ⟨ao,co,rfl,hin,_⟩:=heo.slice
 have HX2:=hid (Ext.trans X1.out x2)
 have HC2:=hid (x2.at HC.out)
 have HB2:=hid (x2.at (XB1.out.at HBX.out))
 have HE2:=hid hin.ents
 have HEN:=hid (show (someL Z 450 (min len 6)).length<=6 by rw [someL_len]; omega)
 obtain ⟨es,hes⟩:∃ es,someL Z 450 (min len 6)=es:=⟨_,rfl⟩
 rw [hes] at HE2 HEN ⊢
 clear x2 heo hin hes HC
 have HXD:=hid (show Ext w2 w2.drew from (Ext.refl w2).drew)
 have lc:Hid (∀ y:SW Ext w2.drew,∀ j u,(Cfg.A c).toList[j]?=some u->y.w.cell? ((⟨g,0,none⟩:Addr).add j)=some u):=hid fun y=>Zai ((Ext.trans HXD.out y.ext).at HC2.out)
 obtain ⟨FL,hFL⟩:∃ FL,fillL kk es=FL:=⟨_,rfl⟩
 have HFL:=hid hFL
 have HF8:=hid (hFL▸fillL_108 kk es)
 have HFN:=hid (show FL.length<=4 from hFL▸Nat.le_trans (fillL_len kk es) k4)
 have HFB:=hid (hFL▸fillL_byte kk HE2.out.byte)
 clear hFL
 go_wp2_with fail
 refine Zau (E:=Ext) (S:=Ext) (.one [0,1,3,4] 2 (.one [] 5 (.fin [6,7]))) (by kernel_rfl) (by kernel_rfl) (fun _ _ d _ _ h=>by cases d<;>exact h) ?_
 rw [wpS]
 simp only [opsAt,opA,opB,opC,opD,opE,opF,opG]
 refine Zam 26 _ rfl ⟨g,0,none⟩ rfl (Cfg.A c) rfl (Zat c) lc.out ?_
 (refine Zab (fun K hK=>?_); go_simp; refine hK _ ?_; clear hK K)
 refine Zam 26 _ rfl ⟨g,0,none⟩ rfl (Cfg.A c) rfl (Zat c) lc.out ?_
 (refine Zab (fun K hK=>?_); go_simp; refine hK _ ?_; clear hK K)
 refine Zae ?_
 intro V3 hV3
 have HV3:=hid (Ext.trans HXD.out hV3)
 clear hV3 lc
 refine Zav fun Q1 hQ1=>?_
 go_wp2_with fail
 refine (tfill_u c HGD.out es (by have:=HEN.out; omega) ao co V3 (HE2.out.ext HV3.out)).mono ?_
 rintro e w4 ⟨x4,ga,rfl,hb4,_⟩
 rw [HKT.out,HFL.out] at hb4 ⊢
 have HV4:=hid (Ext.trans HV3.out x4)
 have HB4:=hid hb4
 clear hb4
 go_wp2
 refine hQ1 _ _ x4 ?_
 clear hQ1 Q1 x4 HV3
 rw [wpS]
 simp only [opsAt,opA,opB,opC,opD,opE,opF,opG]
 refine Zae ?_
 intro V5 hV5
 have HV5:=hid (Ext.trans HV4.out hV5)
 have HB5:=hid (HB4.out.ext hV5)
 clear hV5 HV4 HB4
 refine Zav fun Q2 hQ2=>?_
 go_wp2_with fail
 refine (rfill_u c HGD.out es (by have:=HEN.out; omega) ao co V5 (HE2.out.ext HV5.out)).mono ?_
 rintro e w6 ⟨x6,gb,rfl,hb6,hnb⟩
 rw [HKT.out,HFL.out] at hb6 hnb ⊢
 have HNB:=hid hnb
 clear hnb
 have HV6:=hid (Ext.trans HV5.out x6)
 have HB6:=hid (HB5.out.ext x6)
 have HD6:=hid hb6
 clear hb6 HB5
 go_wp2
 refine hQ2 _ _ x6 ?_
 clear hQ2 Q2 x6 HV5
 rw [wpS]
 simp only [opsAt,opA,opB,opC,opD,opE,opF,opG]
 iterate 2 ((refine Zab (fun K hK=>?_); go_simp; refine hK _ ?_; clear hK K))
 refine Zae ?_
 intro V7 hV7
 have HV7:=hid (Ext.trans HV6.out hV7)
 have HB7:=hid (HB6.out.ext hV7)
 have HD7:=hid (HD6.out.ext hV7)
 clear hV7 HV6 HB6 HD6
 have HXD:=hid (show Ext V7 V7.drew from (Ext.refl V7).drew)
 have HC7:=hid (HV7.out.at HC2.out)
 have lc:Hid (∀ y:SW Ext V7.drew,∀ j u,(Cfg.A c).toList[j]?=some u->y.w.cell? ((⟨g,0,none⟩:Addr).add j)=some u):=hid fun y=>Zai ((Ext.trans HXD.out y.ext).at HC7.out)
 have r1:Hid (∀ y:SW Ext V7.drew,Calls Tryz.prog 8 #[.agg (Cfg.A c)] y.w fun e w''=>e=.returned (.int .i64 ((kk:Int)*108))/\Ext y.w w''):=hid fun y=>by
  have:=troom_c c HGD.out y.w
  rw [HK.out] at this; exact this
 have r2:Hid (∀ y:SW Ext V7.drew,Calls Tryz.prog 9 #[.agg (Cfg.A c)] y.w fun e w''=>e=.returned (.int .i64 ((kk:Int)*108))/\Ext y.w w''):=hid fun y=>by
  have:=rroom_c c HGD.out y.w
  rw [HK.out] at this; exact this
 have sm:Hid (∀ y:SW Ext V7.drew,Calls Tryz.prog 10 #[.slice ga FL.length FL.length,.slice gb FL.length FL.length] y.w fun e w''=>e=.returned (.bool true)/\Ext y.w w''):=hid fun y=>(sameblk2_c FL FL HF8.out HF8.out rfl (by have:=HFN.out; omega) ga gb FL.length FL.length y.w (HB7.out.ext (Ext.trans HXD.out y.ext)) (HD7.out.ext (Ext.trans HXD.out y.ext))).mono fun e w'' q=>⟨by rw [q.1,decide_eq_true rfl],q.2⟩
 have hne:((kk:Int)*108 != (kk:Int)*108)=false:=by simp
 go_wp2_with fail
 refine Zal (S:=Ext) (.fin [0,1,2,3,4,5,6,7,8,9,10]) (by kernel_rfl) (by kernel_rfl) (fun _ _ d _ _ h=>by cases d<;>exact h) ?_
 rw [wpS]
 simp only [opsAt,opA,opB,opC,opD,opE,opF,opG]
 refine Zam 26 _ rfl ⟨g,0,none⟩ rfl (Cfg.A c) rfl (Zat c) lc.out ?_
 (refine Zab (fun K hK=>?_); go_simp; (apply Exists.intro; refine ⟨fun x=>?_,hK _ ?_⟩; (exact r1.out x); clear hK K))
 refine Zam 26 _ rfl ⟨g,0,none⟩ rfl (Cfg.A c) rfl (Zat c) lc.out ?_
 (refine Zab (fun K hK=>?_); go_simp; (apply Exists.intro; refine ⟨fun x=>?_,hK _ ?_⟩; (exact r2.out x); clear hK K))
 iterate 4 ((refine Zab (fun K hK=>?_); go_simp; refine hK _ ?_; clear hK K))
 (refine Zab (fun K hK=>?_); go_simp; (apply Exists.intro; refine ⟨fun x=>?_,hK _ ?_⟩; (exact sm.out x); clear hK K))
 iterate 2 ((refine Zab (fun K hK=>?_); go_simp; refine hK _ ?_; clear hK K))
 refine Zae ?_
 intro V9 hV9
 have HV9:=hid (Ext.trans HV7.out (Ext.trans HXD.out hV9))
 have HB9:=hid (HB7.out.ext (Ext.trans HXD.out hV9))
 have HD9:=hid (HD7.out.ext (Ext.trans HXD.out hV9))
 clear hV9 HV7 HB7 HD7 HXD HC7 lc r1 r2 sm hne
 obtain ⟨WA,hWA⟩:∃ W,V9.alloc (.cells #[] 24)=W:=⟨_,rfl⟩
 have xa:Ext V9 WA:=hWA▸(Ext.refl V9).alloc _
 obtain ⟨vb,WB,hap,hob,hkb⟩:=app_blocks WA V9.heap.size (hWA▸heap_alloc_new _ _) gb FL.length FL (HD9.out.ext xa) HF8.out (by have:=HFN.out; omega)
 have HXB2:=hid (show Ext V9 WB from Ext.then xa hkb fun i hi q=>by have q:i=V9.heap.size:=q; omega)
 have HBB:=hid (show WB.heap[w.heap.size]?=some (.cells (bA xb) 24 (0,0)) from HXB2.out.at (HV9.out.at HB2.out))
 have HAP:=hid hap; have HWA:=hid hWA; have HOB:=hid hob
 clear hap hWA hob hkb xa
 have HSX:=hid (show (bA xb).size=108 by rw [Zaz,HX8.out])
 have HZ:=hid (show (Value.agg (bA z108)).cells.size=108 by simp [Value.cells,Zaz,z108])
 obtain ⟨vc,WC,hap,hoc,hkc,hxc⟩:=HOB.out.add (tsl:=29) Tryz.underlying29 infoBk HZ.out (by omega) (bA xb) HSX.out (bA_one xb) (by rw [List.length_map]; have:=HFN.out; omega) (by decide) HXB2.out.size
 have HAQ:=hid hap; have HOC:=hid hoc
 have HXC:=hid (hxc V9 (Nat.le_refl _) HXB2.out)
 clear hap hoc hkc hxc
 go_wp2_with (first
  | (guard_target=wpList _ _ _ (⟨some _,Op.load _ _,_,_,_,none⟩::_) _ _; refine Zac rfl 24 _ rfl ⟨w.heap.size,0,none⟩ rfl (bA xb) (by rw [HSX.out]; exact aggBlock) (Zai HBB.out) ?_)
  | (guard_target=wpList _ _ _ (⟨some _,Op.buildSlice _ _ _,_,_,_,none⟩::_) _ _; refine Zak rfl 29 24 _ rfl (bA xb) _ _ 108 108 Tryz.underlying29 infoBk (by omega) (by omega) rfl rfl HSX.out ?_)
  | (at_builtin; rw [HWA.out]; refine Zah rfl _ _ _ rfl _ _ _ _ rfl rfl HAP.out ?_)
  | (at_builtin; refine Zah rfl _ _ _ rfl _ _ _ _ rfl rfl HAQ.out ?_))
 obtain ⟨OL,hOL⟩:∃ OL,FL++[xb]=OL:=⟨_,rfl⟩
 have hol8:∀ b∈OL,b.length=108:=fun b hb=>by
  rw [<- hOL] at hb
  rcases List.mem_append.1 hb with q | q
  ·
   exact HF8.out b q
  ·
   rw [List.mem_singleton.1 q]; exact HX8.out
 have holl:OL.length=FL.length+1:=by rw [<- hOL]; simp
 have hoc:OwnVs WC V9.heap.size 24 108 vc (OL.map bA):=by rw [<- hOL,List.map_append]; exact HOC.out
 obtain ⟨oa,oc,e1,hbk,_⟩:=kblocks_at hol8 hoc
 obtain ⟨gq,cq,cur,e2,hgq,hcur,hlen,_,hsize,_⟩:∃ gq cq cur,vc=.slice (some ⟨gq,0,none⟩) (OL.map bA).length cq/\V9.heap.size<=gq/\WC.heap[gq]?=some (.cells cur 24 (0,0))/\(OL.map bA).length<=cq/\True/\cur.size=cq*108/\True:=by
  rcases hoc.1.2 with ⟨_,z⟩ | ⟨g1,c1,cur1,q1,q2,q3,q4,q5,q6,q7⟩
  ·
   rw [List.length_map] at z; omega
  ·
   exact ⟨g1,c1,cur1,q1,q2,q3,q4,trivial,q6,trivial⟩
 rw [List.length_map] at e2 hlen
 subst e2
 cases e1
 obtain ⟨nq,hnq⟩:∃ z,OL.length=z:=⟨_,rfl⟩
 have HNQ:=hid hnq
 have HQ1:=hid (show nq=FL.length+1 from hnq▸holl)
 rw [hnq] at hlen ⊢
 have hn5:nq<=5:=by have:=HFN.out; have:=HQ1.out; omega
 have hn1:1<=nq:=by have:=HQ1.out; omega
 clear holl hnq
 have HWX:=hid (show WC.heap[w.heap.size]?=some (.cells (bA xb) 24 (0,0)) from HXC.out.at (HV9.out.at HB2.out))
 have hgx:gq≠w.heap.size:=by have:=lt_of_block (HV9.out.at HB2.out); omega
 have HGQ:=hid hgq
 have HOB2:=hid (show ∀ b∈OL,∀ x∈b,x < 256 from fun b hb=>by
  rw [<- hOL] at hb
  rcases List.mem_append.1 hb with q | q
  ·
   exact HFB.out b q
  ·
   rw [List.mem_singleton.1 q]; exact HXB.out)
 have HCU:=hid hcur; have HBK:=hid hbk; have HO8:=hid hol8
 obtain ⟨q0,q1⟩:=within_bd at_ 0 ((nq:Int) - 1) (by omega)
 obtain ⟨qx,hqx⟩:=Int.eq_ofNat_of_zero_le q0
 have hql:qx < nq:=by omega
 have HWD:=hid (show Ext WC WC.drew from (Ext.refl WC).drew)
 have lc2:Hid (∀ y:SW Ext WC.drew,∀ j u,(bA xb).toList[j]?=some u->y.w.cell? ((⟨w.heap.size,0,none⟩:Addr).add j)=some u):=hid fun y=>Zai (y.ext.at (HWD.out.at HWX.out))
 have wi:Hid (∀ y:SW Ext WC.drew,Calls Tryz.prog 11 #[.int .i64 at_,.int .i64 0,.int .i64 ((nq:Int) - 1)] y.w fun e w''=>e=.returned (.int .i64 (qx:Int))/\Ext y.w w''):=hid fun y=>(within_c at_ 0 ((nq:Int) - 1) y.w (by omega) (by omega) (by omega)).mono fun e w'' q=>⟨by rw [q.1,hqx],q.2▸Ext.refl _⟩
 have x0:(0:Int)<=(qx:Int):=by omega
 have x1:(qx:Int) < (nq:Int):=by omega
 have hw1:wrap64 ((nq:Int) - 1)=(nq:Int) - 1:=mw64 (by omega) (by omega)
 have hw2:IntKind.i64.wrap ((nq:Int) - 1)=(nq:Int) - 1:=mi64w (by omega) (by omega)
 clear hcur hbk hol8 hoc q0 q1 hqx hn1
 go_wp2_with fail
 refine Zaq (S:=Ext) 7 (.fin [0,1,2,3,4,5,6]) (by kernel_rfl) (by kernel_rfl) (fun _ _ d _ _ h=>by cases d<;>exact h) ?_
 rw [wpS]
 simp only [opsAt,opA,opB,opC,opD,opE,opF,opG]
 iterate 5 ((refine Zab (fun K hK=>?_); go_simp; refine hK _ ?_; clear hK K))
 (refine Zab (fun K hK=>?_); go_simp; (apply Exists.intro; refine ⟨fun x=>?_,hK _ ?_⟩; (exact wi.out x); clear hK K))
 refine Zam 24 _ rfl ⟨w.heap.size,0,none⟩ rfl (bA xb) rfl (by rw [HSX.out]; exact aggBlock) lc2.out ?_
 refine Zae ?_
 intro V10 hV10
 have HV10:=hid (Ext.trans HWD.out hV10)
 have hc10:=HV10.out.at HCU.out
 have hft:qx*108+(bA xb).size<=cur.size:=by
  rw [HSX.out,hsize]
  have:=Nat.mul_le_mul_right 108 (show qx+1<=oc by omega)
  omega
 have HFT:=hid hft
 obtain ⟨NA,hNA⟩:∃ A,(cur.toList.take (qx*108)++(bA xb).toList++cur.toList.drop (qx*108+(bA xb).size)).toArray=A:=⟨_,rfl⟩
 have HNA:=hid hNA
 have hqo:qx < OL.length:=HNQ.out▸hql
 have HB11:=hid (hNA▸blk_store hc10 (HBK.out.ext HV10.out) HO8.out hqo HX8.out hft:BlksAt (V10.setRow gq NA) (some ⟨gq,0,none⟩) (OL.set qx xb))
 have HX11:=hid (show Ext V9 (V10.setRow gq NA) from Ext.then (Ext.trans HXC.out HV10.out) (Zag V10 gq _) fun i hi q=>by have q:i=gq:=q; have:=HGQ.out; omega)
 have HC10:=hid hc10
 clear lc2 wi hV10 hw1 hw2 hc10 hft hqo hNA
 go_wp2_with (guard_target=wpList _ _ _ (⟨none,Op.store _ _ _,_,_,_,none⟩::_) _ _; refine Zbk rfl 24 _ _ rfl gq (qx*108) rfl (bA xb) cur rfl 24 (by rw [HSX.out]; exact aggBlock) HC10.out HFT.out (bA_one xb) ?_; rw [HNA.out])
 generalize V10.setRow gq NA=W11 at *
 obtain ⟨L2,hL2⟩:∃ L,OL.set qx xb=L:=⟨_,rfl⟩
 rw [hL2] at HB11
 have HL2N:=hid (show L2.length=nq by rw [<- hL2,List.length_set]; exact HNQ.out)
 have HL28:=hid (show ∀ b∈L2,b.length=108 from fun b hb=>by
  rw [<- hL2] at hb
  rcases List.mem_or_eq_of_mem_set hb with q | rfl
  ·
   exact HO8.out b q
  ·
   exact HX8.out)
 have HL2B:=hid (show ∀ b∈L2,∀ x∈b,x < 256 from fun b hb=>by
  rw [<- hL2] at hb
  rcases List.mem_or_eq_of_mem_set hb with q | rfl
  ·
   exact HOB2.out b q
  ·
   exact HXB.out)
 have HD11:=hid (HD9.out.ext HX11.out)
 have te:=hid (tempty_c L2 HL28.out HL2B.out (fun q=>by have:=congrArg List.length q; rw [HL2N.out,List.length_nil] at this; have:=HQ1.out; omega) (by rw [HL2N.out]; omega) (some ⟨gq,0,none⟩) oc W11 HB11.out)
 rw [HL2N.out] at te
 clear hL2 hlen hql x0 x1
 go_wp2_with fail
 refine te.out.mono ?_
 rintro e w12 ⟨u,bk12,cp12,rfl,heo,x12⟩
 obtain ⟨a12,c12,rfl,hin,_⟩:=heo.slice
 have HI12:=hid hin.ents
 have HX12:=hid (Ext.trans HX11.out x12)
 have re:=hid (rempty_c L2 HL28.out HL2B.out (fun q=>by have:=congrArg List.length q; rw [HL2N.out,List.length_nil] at this; have:=HQ1.out; omega) (by rw [HL2N.out]; omega) (some ⟨gq,0,none⟩) oc w12 (HB11.out.ext x12))
 rw [HL2N.out] at re
 have HD12:=hid (HD11.out.ext x12)
 clear heo hin x12 te
 go_wp2_with fail
 refine re.out.mono ?_
 rintro e w13 ⟨u,bk13,cp13,rfl,heo,x13⟩
 obtain ⟨a13,c13,rfl,hin,_⟩:=heo.slice
 have HI13:=hid hin.ents
 have HX13:=hid (Ext.trans HX12.out x13)
 have HD13:=hid (HD12.out.ext x13)
 have tr:=hid (trows_c c12 c13 (HI12.out.ext x13) HI13.out (empty_bd HL28.out (by have:=HL2N.out; omega)))
 rw [decide_eq_true rfl] at tr
 clear heo hin x13 re
 go_wp2_with fail
 refine tr.out.mono ?_
 rintro e w14 ⟨rfl,x14⟩
 have HX14:=hid (Ext.trans HX13.out x14)
 have HD14:=hid (HD13.out.ext x14)
 clear tr x14
 by_cases hfl:FL=[]
 ·
  obtain rfl:gb=none:=HNB.out hfl
  subst hfl
  go_wp2_with fail
  refine (tempty_nil w14).mono ?_
  rintro e w15 ⟨u,bk15,cp15,rfl,heo,x15⟩
  obtain ⟨a15,c15,rfl,hin,_⟩:=heo.slice
  have HI15:=hid hin.ents
  have HX15:=hid (Ext.trans HX14.out x15)
  have HD15:=hid (HD14.out.ext x15)
  clear heo hin x15
  go_wp2_with fail
  refine (rempty_nil w15).mono ?_
  rintro e w16 ⟨u,bk16,cp16,rfl,heo,x16⟩
  obtain ⟨a16,c16,rfl,hin,_⟩:=heo.slice
  have HI16:=hid hin.ents
  have HX16:=hid (Ext.trans HX15.out x16)
  have tr:=hid (trows_c c15 c16 (HI15.out.ext x16) HI16.out (by simp))
  rw [decide_eq_true rfl] at tr
  clear heo hin x16
  go_wp2_with fail
  refine tr.out.mono ?_
  rintro e w17 ⟨rfl,x17⟩
  have HX17:=hid (Ext.trans HX16.out x17)
  clear tr x17
  go_wp2_with fail
  refine (tapeRuns_c _).mono ?_
  rintro e w18 ⟨rfl,x18⟩
  have HX18:=hid (Ext.trans HX2.out (Ext.trans HV9.out (Ext.trans HX17.out x18)))
  clear x18
  go_wp2
  go_ret
  exact ⟨rfl,HX18.out⟩
 ·
  have HF0:=hid hfl
  clear hfl
  go_wp2_with fail
  refine (tempty_c FL HF8.out HFB.out HF0.out (by have:=HFN.out; omega) gb FL.length w14 HD14.out).mono ?_
  rintro e w15 ⟨u,bk15,cp15,rfl,heo,x15⟩
  obtain ⟨a15,c15,rfl,hin,_⟩:=heo.slice
  have HI15:=hid hin.ents
  have HX15:=hid (Ext.trans HX14.out x15)
  have HD15:=hid (HD14.out.ext x15)
  clear heo hin x15
  go_wp2_with fail
  refine (rempty_c FL HF8.out HFB.out HF0.out (by have:=HFN.out; omega) gb FL.length w15 HD15.out).mono ?_
  rintro e w16 ⟨u,bk16,cp16,rfl,heo,x16⟩
  obtain ⟨a16,c16,rfl,hin,_⟩:=heo.slice
  have HI16:=hid hin.ents
  have HX16:=hid (Ext.trans HX15.out x16)
  have tr:=hid (trows_c c15 c16 (HI15.out.ext x16) HI16.out (empty_bd HF8.out (by have:=HFN.out; omega)))
  rw [decide_eq_true rfl] at tr
  clear heo hin x16
  go_wp2_with fail
  refine tr.out.mono ?_
  rintro e w17 ⟨rfl,x17⟩
  have HX17:=hid (Ext.trans HX16.out x17)
  clear tr x17
  go_wp2_with fail
  refine (tapeRuns_c _).mono ?_
  rintro e w18 ⟨rfl,x18⟩
  have HX18:=hid (Ext.trans HX2.out (Ext.trans HV9.out (Ext.trans HX17.out x18)))
  clear x18
  go_wp2
  go_ret
  exact ⟨rfl,HX18.out⟩
end Go.Proofs.YtgjnnbomnoafcaaGreat
namespace Go.Proofs.YtgjnnbomnoafcaaGreat.tapeFills
open Go.ChangeShapes Go.WideShapes Go.ChangeAt Go.RowKit
open Go.ChangeMaps (open_string shut_string)
set_option linter.unusedVariables false
theorem own:ownKnob Tryz.prog.godebug=none:=by kernel_rfl
theorem laidOut:laidOutB Tryz.prog=true:=by kernel_rfl
theorem walk (a0:Int) (a1:Int) (a2:Option Addr) (len2 cap2:Nat) (z2:Nat->List Nat) (a3:List Nat) (a4:Int) (w:World) (w2:NestAt w a2 len2 z2) (w3:a3.length=108) (u3:∀ x∈a3,x < 256) :
  Calls Tryz.prog 3 #[.int .i64 a0,.int .i64 a1,.slice a2 len2 cap2,.agg (bA a3),.int .i64 a4] w fun e w'=>e=.returned (.bool true)/\Below w.heap.size w w' :=
 (tapeFills_c a0 a1 a2 len2 cap2 z2 a3 a4 w w2 w3 u3).mono fun _ _ ⟨he,hx⟩=>⟨he,hx.below⟩
set_option maxRecDepth 100000 in
theorem lifted (os:Os) (started:os.Started) (H:Type) (enc:TypeId × Value->H) :
  ReturnsInHanded {} Tryz.checked os 3 .any (Rows.tapeFillsSpec.pre6 enc Tryz.prog Tryz.f3 Rows.tapeFillsRow.domain false) (Rows.tapeFillsSpec.post enc Tryz.prog Tryz.f3 false true false false):=by
 refine returnsInHanded_of_change (C:=Tryz.checked) own started (by kernel_rfl) Tryz.func3
  (ChangeSpec.witness6 (enc:=enc) (C:=Tryz.checked) false ⟨#[],#[.int .i64 0,.int .i64 0,.slice none 0 0,.agg (Array.replicate 108 (.int .u8 0)),.int .i64 0],[]⟩ 8 (by kernel_rfl) (by kernel_rfl) (by kernel_rfl) (by kernel_rfl)) ?_
 intro W base args ds gs before hval0 hW hcnd _
 have hval:∀ (j:Nat) t v,Tryz.f3.params[j]?=some t->args[j]?=some v->Value.okWide Tryz.prog W .any base t v:=hval0
 have hW':=hW
 obtain ⟨p,q,hA0,hV,rfl,hfz,hnd⟩:=hW
 have hA:DataW.TrodAll enc Tryz.prog W 0 (fun _=>true) true Tryz.f3.params.toList args.toList ds p:=hA0
 rw [Tryz.params3] at hA hval
 obtain ⟨v0,vs0,d0,ds0,p0,q0,hargs,rfl,rfl,h0,r0⟩:=trodAll_cons hA
 obtain ⟨v1,vs1,d1,ds1,p1,q1,rfl,rfl,rfl,h1,r1⟩:=trodAll_cons r0
 obtain ⟨v2,vs2,d2,ds2,p2,q2,rfl,rfl,rfl,h2,r2⟩:=trodAll_cons r1
 obtain ⟨v3,vs3,d3,ds3,p3,q3,rfl,rfl,rfl,h3,r3⟩:=trodAll_cons r2
 obtain ⟨v4,vs4,d4,ds4,p4,q4,rfl,rfl,rfl,h4,r4⟩:=trodAll_cons r3
 obtain ⟨rfl,rfl,rfl⟩:=trodAll_nil r4
 obtain rfl:args=#[v0,v1,v2,v3,v4]:=by cases args; simp_all
 obtain ⟨rfl,rfl⟩:=trodVars_none hV
 obtain ⟨a0,rfl,rfl,rfl,w0⟩:=open_int Tryz.underlying3 (hval 0 3 v0 rfl rfl) h0
 obtain ⟨a1,rfl,rfl,rfl,w1⟩:=open_int Tryz.underlying3 (hval 1 3 v1 rfl rfl) h1
 obtain ⟨a2,len2,cap2,rfl⟩:=okWide_slice Tryz.underlying22 (hval 2 22 v2 rfl rfl)
 have k2:=h2
 have lt2:∀ x∈p2,x.block < W.heap.size:=by obtain ⟨m,hm⟩:=k2; exact DataW.trod_lt m _ _ _ hm
 obtain ⟨z2,w2⟩:∃ z,NestAt W a2 len2 z:=by
  obtain ⟨fuel,hf⟩:=h2
  rcases Go.Deep.open_int_rows Tryz.underlying22 Tryz.underlying38 Tryz.underlying5 (by kernel_rfl) (by kernel_rfl) hf with ⟨hcs,_⟩ | ⟨x,l,c,A',L',C',Z',hcs,_,hl,_,_,hrows⟩
  ·
   simp [Value.cells] at hcs
   obtain ⟨rfl,rfl,rfl⟩:=hcs
   exact ⟨fun _=>[],NestAt.nil _ _ _⟩
  ·
   simp [Value.cells] at hcs
   obtain ⟨rfl,rfl,rfl⟩:=hcs
   exact ⟨_,nest_of hl hrows⟩
 have k3:=h3
 have lt3:∀ x∈p3,x.block < W.heap.size:=by obtain ⟨m,hm⟩:=k3; exact DataW.trod_lt m _ _ _ hm
 obtain ⟨a3,rfl,w3,u3⟩:=open_block (hval 3 24 v3 rfl rfl) h3
 obtain ⟨a4,rfl,rfl,rfl,w4⟩:=open_int Tryz.underlying3 (hval 4 3 v4 rfl rfl) h4
 clear hA0 hval0
 refine (walk a0 a1 a2 len2 cap2 z2 a3 a4 W w2 w3 u3).mono fun e W' ⟨he,bel⟩=>?_
 subst he
 exact ⟨_,rfl,_,_,_,[],_,[],hW',trodAll_mk1 (shut_bool Tryz.underlying4 _),(trodAll_cons_mk (shut_int Tryz.underlying3 w0) (trodAll_cons_mk (shut_int Tryz.underlying3 w1) (trodAll_cons_mk (Below.trod laidOut (by kernel_rfl) (of_decide_eq_true (by kernel_rfl)) k2 bel lt2) (trodAll_cons_mk (Below.trod laidOut (by kernel_rfl) (of_decide_eq_true (by kernel_rfl)) k3 bel lt3) (trodAll_cons_mk (shut_int Tryz.underlying3 w4) trodAll_mk0))))),rfl,bel.frame _,fun h=>by cases h⟩
theorem over:Rows.tapeFillsRow.holds Tryz.pinned (OpenSpec.ofChange Rows.tapeFillsSpec) :=
 OpenClaim.holds_of_wide 3 Tryz.f3 rfl rfl rfl rfl rfl rfl rfl ⟨rfl,rfl,rfl,rfl,rfl⟩ rfl rfl rfl rfl rfl (by kernel_rfl) Tryz.func3 (by kernel_rfl)
  (of_decide_eq_true (by kernel_rfl)) (by unfold Func.isWrapper; first | (rw [if_pos (by decide +kernel)]; kernel_rfl) | (rw [if_neg (by decide +kernel)]; exact ⟨rfl,rfl⟩))
  (fun os started H enc _=>lifted os started H enc)
theorem proved:Rows.TapeFillsSaid:=over
#print axioms proved
end Go.Proofs.YtgjnnbomnoafcaaGreat.tapeFills
