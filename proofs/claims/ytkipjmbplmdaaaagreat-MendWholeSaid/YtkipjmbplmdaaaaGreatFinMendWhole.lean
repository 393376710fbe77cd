/- The statement MendWhole: for every input the call of stavelaw's MendWhole answers true, and its arguments read behind it as they read before. No condition. -/
/- Texts of one proof, joined: WMendWhole, LawMendWhole. -/
import Derived.Test.YtkipjmbplmdaaaaGreatMAE
import Derived.Test.YtkipjmbplmdaaaaGreatMAH
import Derived.Test.YtkipjmbplmdaaaaGreatMW
import Derived.Test.YtkipjmbplmdaaaaGreatMT
import Derived.Test.YtkipjmbplmdaaaaGreatMA
import Derived.Test.YtkipjmbplmdaaaaGreatMP
import Derived.Test.YtkipjmbplmdaaaaGreatMB
import Derived.Deep.DeepCutAuto
import Derived.Deep.CutBlock
import Derived.Test.YtkipjmbplmdaaaaGreatRows
import Derived.WalkKit
import Derived.ProofKit
import Derived.OpenShut
import Derived.ShutString
import Derived.ChangeOld
import Derived.Below
set_option linter.unusedVariables false
set_option linter.unusedSimpArgs false
namespace Go.Proofs.YtkipjmbplmdaaaaGreat
set_option linter.unusedVariables false
open Go Go.RowKit
attribute [local irreducible] wpSQ
set_option maxRecDepth 100000 in
set_option maxHeartbeats 4000000 in
theorem mendWhole_c (k n stripes slots:Int) (la:Option Addr) (ll lcap:Nat) (lz:List Int) (oa:Option Addr) (olen ocap:Nat) (oz:List Int) (ha:Option Addr) (hlen hcap:Nat) (hz:List Int) (ta:Option Addr) (tlen tcap:Nat) (tz:List Int) (w:World) (hl0:IsRow .i64 w la ll lcap lz) (ho:IsRow .i64 w oa olen ocap oz) (hh:IsRow .i64 w ha hlen hcap hz) (ht:IsRow .i64 w ta tlen tcap tz) :
  Calls Tryz.prog 6 #[.int .i64 k,.int .i64 n,.int .i64 stripes,.int .i64 slots,.slice la ll lcap,.slice oa olen ocap,.slice ha hlen hcap,.slice ta tlen tcap] w fun e w'=>e=.returned (.bool true)/\Ext w w':=by
 have HLO:=hid hl0.ints
 have HLW:=hid hl0.low
 have HO:=hid ho.ints
 have HOL:=hid ho.low
 have HH:=hid hh.ints
 have HHL:=hid hh.low
 have HT:=hid ht.ints
 have HTL:=hid ht.low
 clear hl0 ho hh ht
 have hzc:=Zb0
 have HCS:=hid Cfg.A_size
 go_enter Tryz.func6,Tryz.ntmps6
 go_wp2_with fail
 refine (kconfig_c k n stripes slots _).mono ?_
 rintro e w1 ⟨rfl,x1⟩
 have HGD:=hid (show (keepCfg k n stripes slots).Good from keepCfg_good k n stripes slots)
 have HK4:=hid (show (keepCfg k n stripes slots).k<=4 from (within_bd k 1 4 (by omega)).2)
 have HN6:=hid (show (keepCfg k n stripes slots).n<=6 from (within_bd n (within k 1 4) 6 (by have:=(within_bd k 1 4 (by omega)).2; omega)).2)
 have HS6:=hid (show (keepCfg k n stripes slots).stripes<=6 from (within_bd stripes 1 6 (by omega)).2)
 generalize keepCfg k n stripes slots=c at *
 obtain ⟨ss,hss⟩:∃ ss:Nat,c.stripes=ss:=⟨c.stripes.toNat,by have:=HGD.out.st0; omega⟩
 have HST:=hid hss
 have HSTT:=hid (show c.stripes.toNat=ss by omega)
 have ss1:1<=ss:=by have:=HGD.out.st0; omega
 have ss6:ss<=6:=by have:=HS6.out; omega
 clear hss
 obtain ⟨W1,hW1⟩:∃ W,w1.alloc (.cells (Cfg.A c) 26)=W:=⟨_,rfl⟩
 have X1:=hid (show Ext w W1 from hW1▸x1.alloc _)
 have HC:=hid (show W1.heap[w1.heap.size]?=some (.cells (Cfg.A c) 26 (0,0)) from hW1▸heap_alloc_new _ _)
 have hbs:(w1.alloc (.cells (Cfg.A Cfg.zero) 26)).heap[w1.heap.size]?=some (.cells (Cfg.A Cfg.zero) 26 (0,0)):=Zad
 clear x1
 have HW1:=hid hW1
 clear hW1
 obtain ⟨m,hm,m1,m128⟩:=sectors_nat c HGD.out
 obtain ⟨nn,hn⟩:∃ nn:Nat,c.n=nn:=⟨c.n.toNat,by have:=HGD.out.k0; have:=HGD.out.k1; omega⟩
 obtain ⟨kk,hk⟩:∃ kk:Nat,c.k=kk:=⟨c.k.toNat,by have:=HGD.out.k0; omega⟩
 have HNT:=hid (show c.n.toNat=nn by omega)
 have HKT:=hid (show c.k.toNat=kk by omega)
 have n1:1<=nn:=by have:=HGD.out.k0; have:=HGD.out.k1; omega
 have n8:nn<=6:=by have:=HN6.out; omega
 have k1:1<=kk:=by have:=HGD.out.k0; omega
 have k4:kk<=4:=by have:=HK4.out; omega
 have HKN:=hid (show kk<=nn by have:=HGD.out.k1; omega)
 have HM:=hid hm; have HN:=hid hn; have HK:=hid hk
 obtain ⟨R1,R2,e1,e2,h2,v2⟩:=VH.start HGD.out HK4.out HN6.out (m:=m) (by rw [HM.out]; exact Int.le_refl _)
 rw [HNT.out] at e1
 have HV2:=hid h2; have HVV2:=hid v2
 have HE1:=hid e1; have HE2:=hid e2
 clear hm hn hk e1 e2 h2 v2
 go_wp2_with (first
  | (guard_target=wpList _ _ _ (⟨none,Op.store _ _ _,_,_,_,none⟩::_) _ _; have hb0:=hbs; clear hbs; refine Zaa rfl 26 _ _ rfl w1.heap.size rfl (Cfg.A c) _ rfl 26 ?_ hb0 ?_ ?_ ?_; (rw [HCS.out]; exact aggCfg); (rw [HCS.out,HCS.out]); exact Cfg.A_one _; rw [Zai,HW1.out])
  | (guard_target=wpList _ _ _ (⟨some _,Op.load _ _,_,_,_,none⟩::_) _ _; refine Zac rfl 26 _ rfl ⟨w1.heap.size,0,none⟩ rfl (Cfg.A c) (Zap c) (Zaf HC.out) ?_))
 have HLT:=hid (lt_of_block HC.out)
 generalize w1.heap.size=gc at *
 refine (mopened_c c HGD.out nn m HN.out HM.out m1 m128 HE1.out HE2.out W1).mono ?_
 rintro e w2 ⟨r,g,T,ho⟩
 obtain rfl:=ho.ret
 have HX2:=hid (show VX w w2 T r R2 gc c g ⟨c,1,false⟩ from ⟨⟨ho.ve.rack,Ext.trans X1.out ho.ve.ext,fun b hb=>ho.ve.low b (Nat.lt_of_lt_of_le hb X1.out.size)⟩,ho.ve.ext.at HC.out,ho.ve.low gc HLT.out,ho.vol,ho.gT,Nat.le_trans X1.out.size ho.new,fun q=>by have:=ho.new; have:=HLT.out; omega⟩)
 clear ho HE1 HE2 HC X1 HLT
 obtain ⟨CW,hcw,hcs,hcc⟩:=make_was ss (by omega)
 have HCW:=hid (WasAt.new (w:=w2) CW hcs hcc)
 have hmw:=hcw w2
 have cs0:w2.cell? ⟨gc,3,none⟩=some (.int .i64 ss):=(Zag HX2.out.cfg).trans ((Cfg.A3 c).trans (by rw [HST.out]))
 have HSG:=hid (show g < w2.heap.size from lt_of_block HX2.out.vol)
 have HSC:=hid (show gc < w2.heap.size from lt_of_block HX2.out.cfg)
 have HSW:=hid (show w.heap.size<=w2.heap.size from HX2.out.ext.size)
 clear hcw hcs hcc
 go_upto_block 0 with fail
 clear hmw cs0
 generalize hW3:w2.alloc _=W3
 obtain ⟨g0,hg0⟩:∃ b,w2.heap.size=b:=⟨_,rfl⟩
 rw [hg0]
 have HCW3:=hid (show WasAt W3 g0 ss (fun _=>[]) (fun _=>none) (fun _=>0) from hW3▸hg0▸HCW.out)
 have x3:Ext w2 W3:=hW3▸(Ext.refl w2).alloc _
 obtain ⟨S3,hS3⟩:∃ S,wideS T w2 W3=S:=⟨_,rfl⟩
 have HX3:=hid (show VX w W3 S3 r R2 gc c g ⟨c,1,false⟩ from hS3▸HX2.out.wide x3)
 have HG0:=hid (show w.heap.size<=g0/\g0≠gc from ⟨by rw [<- hg0]; exact HSW.out,by have:=HSC.out; omega⟩)
 have HGG:=hid (show g0≠g by have:=HSG.out; omega)
 have HOW3:=hid (show WasOwn (fun b=>S3 b/\b≠g) g0 ss (fun _=>[]) (fun _=>none) from ⟨⟨hS3▸.inr ⟨by omega,by rw [<- hg0,<- hW3]; simp⟩,HGG.out⟩,fun s hs hn=>absurd rfl hn⟩)
 have HVI2:=hid (VI.new HGD.out)
 have HRS:=hid (fun i=>show List.range (i+1)=List.range i++[i] from List.range_succ)
 have HW1:=hid (show wrap64 ((nn:Int) - (kk:Int))=(nn:Int) - (kk:Int) from wsub HKN.out (by omega))
 have HW2:=hid (show IntKind.i64.wrap ((nn:Int) - (kk:Int))=(nn:Int) - (kk:Int) from iwsub HKN.out (by omega))
 clear hW3 hg0 x3 hS3 HX2 HSG HSC HCW HSW HVV2
 go_wp2_with fail
 go_loopw [62] (fun t wq=>∃ i:Nat,t=.int .i64 i/\i<=ss/\∃ R S j f F a cp,VX w wq S r R gc c g ⟨c,1+(i:Int),false⟩/\VH R c m true j f/\VI c (1+(i:Int)) j f/\WasAt wq g0 ss F a cp/\WasOwn (fun b=>S b/\b≠g) g0 ss F a/\∀ s,s < i->(∃ gen,f s=some (gen,F s))/\(∀ b∈F s,b.length=108)/\(F s).length=kk) (fun t _=>ss - (intOf t).toNat)
 case atStart=>exact ⟨0,rfl,by omega,R2,S3,_,_,_,_,_,HX3.out,HV2.out,HVI2.out,HCW3.out,HOW3.out,fun s hs=>by omega⟩
 case round =>
  clear HX3 HV2 HVI2 HCW3 HOW3
  obtain ⟨i,rfl,hi,R,S,j,f,F,a,cp,hx,hv,hvi,hwa,hwo,hff⟩:=hrel
  have HX:=hid hx; have HV:=hid hv; have HVI:=hid hvi; have HWA:=hid hwa; have HWO:=hid hwo; have HFF:=hid hff
  clear hx hv hvi hwa hwo hff
  by_cases hlt:i < ss
  ·
   have i0:(0:Int)<=(i:Int):=by omega
   have i1:(i:Int) < (ss:Int):=by omega
   have c1:wr.cell? ⟨gc,1,none⟩=some (.int .i64 kk):=HX.out.c1.trans (by rw [HK.out])
   obtain ⟨lbk,hla⟩:∃ l,blocksOf kk (i:Int)=l:=⟨_,rfl⟩
   have La8:=hid (hla▸blocksOf_108 kk (i:Int))
   have LaB:=hid (hla▸blocksOf_bytes kk (i:Int))
   have LaN:=hid (show lbk.length<=8 by rw [<- hla,Zcj]; omega)
   have La0:=hid (show lbk≠[] from hla▸(by intro q; have:=congrArg List.length q; rw [Zcj] at this; simp at this; omega))
   have LaF:=hid (show Cd.Blocks c.k.toNat 108 lbk by rw [HKT.out,<- hla]; exact blocksOf_Blocks kk (i:Int))
   have HLa:=hid hla
   clear hla
   go_wp2_with fail
   refine (kblocks_c kk (by omega) i wr).mono ?_
   rintro e w3 ⟨v,rfl,hown,x3⟩
   rw [HLa.out] at hown
   obtain ⟨a3,c3,rfl,hbk,hab⟩:=kblocks_at La8.out hown
   obtain ⟨S3',hS⟩:∃ S',wideS S wr w3=S':=⟨_,rfl⟩
   have HX4:=hid (hS▸HX.out.wide x3)
   have HSS':=hid (show ∀ b,S b->S3' b from fun b hb=>hS▸.inl hb)
   have hg0l:g0 < wr.heap.size:=HX.out.ve.rack.there g0 HWO.out.own.1
   have HP3:=hid (show ∀ b,a3=some ⟨b,0,none⟩->(S3' b/\b≠g)/\b≠g0 from fun b q=>⟨⟨hS▸HX.out.ve.blk x3 hbk La0.out hab b q,by have:=hab b q; have:=lt_of_block HX.out.vol; omega⟩,by have:=hab b q; omega⟩)
   have HWA4:=hid (HWA.out.ext x3)
   have HWO4:=hid (HWO.out.mono fun b hb=>(show S3' b/\b≠g from ⟨HSS'.out b hb.1,hb.2⟩))
   have hcx:=HWA4.out.cell hlt
   have hfx:=HWA4.out.free i
   have hset:=HWA4.out.set HWO4.out (s:=i) (l:=lbk) (a':=a3) (c':=c3) hbk HP3.out
   have HSET:=hid hset
   have HBK:=hid hbk
   clear hown x3 hbk hab hS HX HWA HWO hg0l hset c1
   go_upto_region 10 with (fail)
   generalize hW5:w3.setCell _ _=W5
   rw [hW5] at HSET
   have hk5:Only (fun b=>b=g0) w3 W5:=hW5▸Zbo _ _ _ _
   have HX5:=hid (show VX w W5 S3' r R gc c g ⟨c,1+(i:Int),false⟩ from HX4.out.poke hk5 fun b hb=>by
    have hb:b=g0:=hb
    subst hb; exact ⟨HWO4.out.own.1,HG0.out.1,HG0.out.2,HGG.out⟩)
   have HB5:=hid (HBK.out.only hk5 fun b hb q=>(HP3.out b hb).2 q)
   clear hW5 hk5 HX4 HWA4 HWO4 hcx hfx HBK
   have hcs:W5.cell? ⟨g0,i,none⟩=some (.slice a3 lbk.length c3):=by
    have:=HSET.out.1.cell hlt
    simpa using this
   obtain ⟨sl,R',hcm,hv,hvi⟩:=HV.out.commit_on HVI.out HM.out.symm HK4.out HN6.out (by omega) (s:=i) (by rw [HSTT.out]; exact hlt) LaF.out
   have HCM:=hid hcm; have HV':=hid hv; have HVI':=hid hvi
   have HFN:=hid (show ∀ s,s < i+1->(∃ gen,updS f i (1+(i:Int)+1,lbk) s=some (gen,(fun t=>if t=i then lbk else F t) s))/\(∀ b∈(fun t=>if t=i then lbk else F t) s,b.length=108)/\((fun t=>if t=i then lbk else F t) s).length=kk from fun s hs=>by
    by_cases e:s=i
    ·
     simp only [e,if_true]
     exact ⟨⟨1+(i:Int)+1,by unfold updS; simp only [if_true]⟩,La8.out,by rw [<- HLa.out,Zcj]⟩
    ·
     obtain ⟨⟨gen,h⟩,h2⟩:=HFF.out s (by omega)
     simp only [e,if_false]
     exact ⟨⟨gen,by unfold updS; simp only [e,if_false]; exact h⟩,h2⟩)
   clear hcm hv hvi HV HVI HFF
   generalize updS f i (1+(i:Int)+1,lbk)=f2 at *
   generalize upd j sl ⟨1+(i:Int)+1,(i:Int),lbk⟩=j2 at *
   generalize (fun t=>if t=i then lbk else F t)=F2 at *
   generalize (fun t=>if t=i then a3 else a t)=a2 at *
   generalize (fun t=>if t=i then c3 else cp t)=c2 at *
   go_wp2_with fail
   refine (vcommit_c HX5.out.rack HX5.out.vol HX5.out.gS (show (0:Int)<=1+(i:Int) by omega) i lbk La8.out LaB.out a3 c3 HB5.out (fun b q=>(HP3.out b q).1)).mono ?_
   rintro e w8 h8
   rw [HCM.out] at h8
   obtain rfl:=h8.ret
   have HX8:=hid (show VX w w8 S3' r R' gc c g ⟨c,1+(i:Int)+1,false⟩ from HX5.out.commit h8)
   have HWA8:=hid (HSET.out.1.only HSET.out.2 h8.only fun b hb q=>q.elim (fun z=>z hb.1) hb.2)
   have HWO8:=hid HSET.out.2
   simp only [oErr]
   clear h8 HX5 HB5 HSET hcs HCM HP3
   go_wp2
   go_roundw
   case rel=>exact ⟨i+1,by go_num,by omega,R',S3',j2,f2,F2,a2,c2,by rw [show 1+((i+1:Nat):Int)=1+(i:Int)+1 by omega]; exact HX8.out,HV'.out,by rw [show 1+((i+1:Nat):Int)=1+(i:Int)+1 by omega]; exact HVI'.out,HWA8.out,HWO8.out,HFN.out⟩
   case measure=>simp [intOf]; omega
  ·
   obtain rfl:ss=i:=by omega
   have i1:¬(ss:Int) < (ss:Int):=by omega
   obtain ⟨cur,hcur⟩:∃ cur:Int,1+(ss:Int)=cur:=⟨_,rfl⟩
   have HCU:=hid (show cur<=7 by omega)
   rw [hcur] at HX HVI
   have HMR:=hid (MR.start HV.out HVI.out HM.out.symm)
   rw [HNT.out] at HMR
   have HFN:=hid (show ∀ s,s < ss->∃ gen,f s=some (gen,F s) from fun s hs=>(HFF.out s hs).1)
   have HF8:=hid (show ∀ s,s < ss->(∀ b∈F s,b.length=108)/\(F s).length=kk from fun s hs=>(HFF.out s hs).2)
   clear hcur HV HFF hlt hi
   generalize hwl:wr=WL at *
   clear hwl
   go_wp2_with fail
   go_loopw [23,22] (fun t v wq=>∃ q:Nat,t=.int .i64 q/\q<=nn/\OwnInts wq WL.heap.size v (List.range q)/\Ext WL wq) (fun t _ _=>nn - (intOf t).toNat)
   case atStart=>exact ⟨0,rfl,by omega,OwnInts.nil _ _,Ext.refl _⟩
   case round =>
    obtain ⟨q,rfl,hq,hv,hx⟩:=hrel
    have HXX:=hid hx; have HV:=hid hv
    have cn:wr.cell? ⟨gc,2,none⟩=some (.int .i64 nn):=Ext.cell hx (HX.out.c2.trans (by rw [HN.out]))
    clear hx hv
    by_cases hlt:q < nn
    ·
     have i1:(q:Int) < (nn:Int):=by omega
     obtain ⟨v2,w2,hap,hv2,_,hx2⟩:=HV.out.push q (by rw [List.length_range]; omega) HXX.out.size
     have HAP:=hid hap
     have HV2:=hid (show OwnInts w2 WL.heap.size v2 (List.range (q+1)) from by rw [HRS.out]; exact hv2)
     have HX2:=hid (hx2 WL (Nat.le_refl _) HXX.out)
     clear hap hv2 hx2 HV HXX
     go_wp2_with (at_builtin; refine Zam rfl _ _ _ rfl _ _ _ _ rfl rfl HAP.out ?_)
     go_roundw
     case rel=>exact ⟨q+1,by go_num,by omega,HV2.out,HX2.out⟩
     case measure=>simp [intOf]; omega
    ·
     obtain rfl:nn=q:=by omega
     have i1:¬(nn:Int) < (nn:Int):=by omega
     have HOI:=hid (HV.out.low (Nat.zero_le _))
     obtain ⟨S1,hS1⟩:∃ S',wideS S WL wr=S':=⟨_,rfl⟩
     have HX1:=hid (hS1▸HX.out.wide HXX.out)
     have HWA1:=hid (HWA.out.ext HXX.out)
     have HWO1:=hid (HWO.out.mono (T:=fun b=>S1 b/\b≠g) fun b hb=>⟨hS1▸.inl hb.1,hb.2⟩)
     have HVS:=hid (show ∀ b,Value.ownBlock _=some b->S1 b from fun b hb=>hS1▸.inr (HV.out.lt b hb))
     have HLL:=hid (show (List.range nn).length=nn from List.length_range)
     clear HV HX HWA HWO HXX hS1 hlt hq
     generalize List.range nn=L0 at *
     go_wp2_with fail
     clear cn
     go_loopw [24,22] (fun t v wq=>∃ q:Nat,t=.int .i64 q/\q<=nn - kk/\∃ R S L,VX w wq S r R gc c g ⟨c,cur,false⟩/\MR R c m j f L/\L.length+q=nn/\OwnInts wq 0 v L/\(∀ b,v.ownBlock=some b->S b)/\WasAt wq g0 ss F a cp/\WasOwn (fun b=>S b/\b≠g) g0 ss F a) (fun t _ _=>nn - (intOf t).toNat)
     case atStart=>exact ⟨0,rfl,by omega,_,_,L0,HX1.out,HMR.out,by rw [HLL.out]; rfl,HOI.out,HVS.out,HWA1.out,HWO1.out⟩
     case round =>
      clear HX1 HMR HLL HOI HVS HWA1 HWO1
      obtain ⟨q,rfl,hq,R,S,L,hx,hmr,hll,hv,hvs,hwa,hwo⟩:=hrel
      have HX:=hid hx; have HMR:=hid hmr; have HLL:=hid hll; have HWA:=hid hwa; have HWO:=hid hwo
      have hcn:wr.cell? ⟨gc,2,none⟩=some (.int .i64 nn):=hx.c2.trans (by rw [HN.out])
      have hck:wr.cell? ⟨gc,1,none⟩=some (.int .i64 kk):=hx.c1.trans (by rw [HK.out])
      have hw1:=HW1.out; have hw2:=HW2.out
      by_cases hlt:q < nn - kk
      ·
       have q1:(q:Int) < (nn:Int) - (kk:Int):=by omega
       obtain ⟨lad,lcap,rfl,hlc,hints,hne⟩:=hv.at
       obtain ⟨lg,rfl⟩:=hne (fun e=>by rw [e] at hll; simp at hll; omega)
       have l1:(0:Int) < (L.length:Int):=by omega
       have l6:(L.length:Int)<=6:=by omega
       have HV:=hid hv; have HVS:=hid (hvs lg rfl); have HIN:=hid hints; have HLC:=hid hlc
       clear hx hmr hll hv hvs hwa hwo hlc hints hne hq
       go_upto_if 103 with (fail)
       clear hcn hck hw1 hw2
       go_cut [25] (fun t wq=>(∃ x:Nat,t=.int .i64 x/\x < L.length)/\wr=wq)
       case first =>
        by_cases hio:q < olen
        ·
         obtain ⟨ib,ioff,vi,rfl,hci⟩:=HO.out q hio
         have ci:wr.cell? ⟨ib,ioff+q,none⟩=some (.int .i64 vi):=Ext.cell HX.out.ext hci
         have j0:(0:Int)<=(q:Int):=by omega
         have j1:(q:Int) < (olen:Int):=by omega
         have hw3:wrap64 ((L.length:Int) - 1)=(L.length:Int) - 1:=mw64 (by omega) (by omega)
         have hw4:IntKind.i64.wrap ((L.length:Int) - 1)=(L.length:Int) - 1:=mi64w (by omega) (by omega)
         clear hci
         go_wp2_with fail
         refine (within_c vi 0 ((L.length:Int) - 1) _ (by omega) (by omega) (by omega)).mono ?_
         rintro e w7 ⟨rfl,rfl⟩
         obtain ⟨z0,z1⟩:=within_bd vi 0 ((L.length:Int) - 1) (by omega)
         obtain ⟨x,hx⟩:=Int.eq_ofNat_of_zero_le z0
         rw [hx]
         have hxl:x < L.length:=by omega
         clear hx z0 z1
         go_wp2
         go_meet
         case rel=>exact ⟨⟨x,rfl,hxl⟩,rfl⟩
        ·
         have j1:¬(q:Int) < (olen:Int):=by omega
         go_wp2_with fail
         go_meet
         case rel=>exact ⟨⟨0,rfl,by omega⟩,rfl⟩
       case rest =>
        obtain ⟨⟨x,rfl,hxl⟩,rfl⟩:=hcut
        go_upto_if 115 with (fail)
        go_cut [26] (fun t wq=>(∃ y:Int,t=.int .i64 y)/\wr=wq)
        case first =>
         by_cases hio:q < hlen
         ·
          obtain ⟨ib,ioff,vi,rfl,hci⟩:=HH.out q hio
          have ci:wr.cell? ⟨ib,ioff+q,none⟩=some (.int .i64 vi):=Ext.cell HX.out.ext hci
          have j0:(0:Int)<=(q:Int):=by omega
          have j1:(q:Int) < (hlen:Int):=by omega
          clear hci
          go_wp2_with fail
          go_meet
          case rel=>exact ⟨⟨vi,rfl⟩,rfl⟩
         ·
          have j1:¬(q:Int) < (hlen:Int):=by omega
          go_wp2_with fail
          go_meet
          case rel=>exact ⟨⟨0,rfl⟩,rfl⟩
        case rest =>
         obtain ⟨⟨y,rfl⟩,rfl⟩:=hcut
         obtain ⟨d,hd⟩:∃ d,L[x]=d:=⟨_,rfl⟩
         have HCD:=hid (show wr.cell? ⟨lg,x,none⟩=some (.int .i64 d) from by
          obtain ⟨g',hg',hc⟩:=HIN.out x d (by rw [List.getElem?_eq_getElem hxl,hd])
          cases hg'
          exact hc)
         have HRA:=hid (show MR (R.replace (d:Nat)) c m j f (L.eraseIdx x) from hd▸HMR.out.replaceAt hxl)
         have HRO:=hid (HMR.out.out x)
         have HDN:=hid (show d∉L.eraseIdx x from hd▸MR.not_mem HMR.out.nd hxl)
         have HDL:=hid (show d < c.n.toNat from hd▸HMR.out.lt _ (List.getElem_mem hxl))
         have HXL:=hid hxl
         have x0:(0:Int)<=(x:Int):=by omega
         have x1:(x:Int) < (L.length:Int):=by omega
         clear hd HMR
         generalize hw0:wr=W0 at *
         clear hw0
         go_upto_if 122 with (fail)
         go_cut [25] (fun u wq=>u=.int .i64 (x:Int)/\∃ R',MR R' c m j f (L.eraseIdx x)/\VX w wq S r R' gc c g ⟨c,cur,false⟩/\Keeps S W0 wq)
         case first =>
          rcases hyb:(y.tmod 2 == 0) with _ | _
          ·
           go_wp2_with fail
           go_loopw [27] (fun t wq=>∃ s:Nat,t=.int .i64 s/\s<=m/\∃ R',MR R' c m j f (L.eraseIdx x)/\VX w wq S r R' gc c g ⟨c,cur,false⟩/\Keeps S W0 wq) (fun t _=>m - (intOf t).toNat)
           case atStart=>exact ⟨0,rfl,by omega,R,HRO.out,HX.out,Only.refl _ _⟩
           case round =>
            obtain ⟨s,rfl,hs,R',hmr,hx,hk⟩:=hrel
            have HMR':=hid hmr; have HX':=hid hx; have HK':=hid hk
            have cd:wr.cell? ⟨lg,x,none⟩=some (.int .i64 d):=Only.cell hk HCD.out (fun q=>q HVS.out)
            clear hmr hx hk
            go_wp2_with fail
            refine (at_sectors HX'.out.rack).mono ?_
            rintro e _ ⟨rfl,rfl⟩
            rw [HMR'.out.live.sectors]
            by_cases hsm:s < m
            ·
             have s1:(s:Int) < (m:Int):=by omega
             have HMS:=hid (HMR'.out.rot HM.out.symm (d:=d) (q:=s) (A:=x) (X:=3) HDL.out HDN.out hsm (by omega) (by omega))
             go_wp2_with fail
             refine (at_rot HX'.out.rack d s x 3 (by omega)).mono ?_
             rintro e w11 ⟨rfl,h11,k11⟩
             have HX11:=hid (HX'.out.keep h11 k11)
             have K11:=hid (Only.trans HK'.out k11 fun _ _ z=>z)
             generalize R'.rotOk d s x 3=bb at *
             clear h11 k11 HX' HMR'
             go_wp2
             go_roundw
             case rel=>exact ⟨s+1,by go_num,by omega,_,HMS.out,HX11.out,K11.out⟩
             case measure=>simp [intOf]; omega
            ·
             have s1:¬(s:Int) < (m:Int):=by omega
             go_wp2_with fail
             go_meet
             case rel=>exact ⟨rfl,_,HMR'.out,HX'.out,HK'.out⟩
          ·
           have cd:=HCD.out
           go_wp2_with fail
           refine (at_replace HX.out.rack d).mono ?_
           rintro e w8 ⟨rfl,h8,k8⟩
           have HX8:=hid (HX.out.keep h8 k8)
           have K8:=hid k8
           clear h8 k8
           go_wp2
           go_meet
           case rel=>exact ⟨rfl,_,HRA.out,HX8.out,K8.out⟩
         case rest =>
          obtain ⟨rfl,R',hmr,hx,hk⟩:=hcut
          have HMR':=hid hmr
          have HXC:=hid hx
          have HVC:=hid (HV.out.only hk (fun b hb q=>q (by cases hb; exact HVS.out)))
          have HWAC:=hid (HWA.out.only HWO.out hk fun b hb q=>q hb.1)
          obtain ⟨lad,lcap',hq',hlc,hints,_⟩:=HVC.out.at
          cases hq'
          have HIC:=hid hints
          have hsh:=slice_head lg L.length lcap x (by have:=HLC.out; omega)
          have hst:=slice_tail lg L.length lcap x (by omega)
          obtain ⟨ta',hta⟩:∃ ta:Addr,(if lcap=x+1 then ⟨lg,0,none⟩ else ⟨lg,x+1,none⟩)=ta:=⟨_,rfl⟩
          rw [hta] at hst
          have HTA:=hid hta
          clear hta
          have hwx:IntKind.i64.wrap ((x:Int)+1)=(x:Int)+1:=by rw [IntKind.wrap_i64]; omega
          have hwx2:wrap64 ((x:Int)+1)=(x:Int)+1:=by unfold wrap64; omega
          clear hmr hx hk hints hlc HRA HRO HDN HDL HCD HX HWA HV HIN
          generalize hwcc:wc=W9 at *
          clear hwcc
          go_wp2_with fail
          refine Zav (E:=Ext) (S:=Only fun b=>W9.heap.size<=b) (.one [1,2,3,5,6,7,8] 0 (.one [] 4 (.one [] 9 (.fin [10])))) (by kernel_rfl) (by kernel_rfl) (fun _ _ d _ _ h=>by cases d<;>exact h) ?_
          rw [wpS]
          simp only [opsAt,opA,opB,opC,opD,opE,opF,opG]
          iterate 7 ((refine Zab (fun K hK=>?_); go_simp; refine hK _ ?_; clear hK K))
          refine Zah ?_
          intro V20 hV20
          have X20:=hid (show Ext W9 V20 from Ext.trans (Ext.refl W9).drew hV20)
          clear hV20 hsh hst
          refine Zax fun Q1 hQ1=>?_
          go_wp2
          refine hQ1 _ _ (Ext.only ((Ext.refl _).alloc _)) ?_
          clear hQ1 Q1
          rw [wpS]
          simp only [opsAt,opA,opB,opC,opD,opE,opF,opG]
          refine Zah ?_
          intro V21 hV21
          have X21:=hid (show Ext W9 V21 from Ext.trans (X20.out.alloc _) hV21)
          obtain ⟨v1,w21,hap1,ho1,hk1⟩:=erase_one rfl HXL.out (by omega) HIC.out X21.out ((OwnInts.bare V20).ext hV21) (by have:=hV21.size; simp at this; omega)
          have HAP1:=hid hap1
          have HO1:=hid ho1
          have HSZ20:=hid X20.out.size
          have HK1:=hid (show Only (fun b=>W9.heap.size<=b) V21 w21 from hk1.mono fun i _ hb=>by
           have:i=V20.heap.size:=by simpa [Value.ownBlock] using hb.symm
           have:=HSZ20.out
           show W9.heap.size<=i
           omega)
          have HSZ21:=hid (show V20.heap.size<=w21.heap.size by have:=hV21.size; have q:=hk1.size; simp at this; omega)
          clear hap1 ho1 hk1
          refine Zax fun Q2 hQ2=>?_
          go_wp2_with (at_builtin; refine Zam rfl _ _ _ rfl _ _ _ _ rfl rfl HAP1.out ?_)
          refine hQ2 _ _ HK1.out ?_
          clear hQ2 Q2 HAP1
          rw [wpS]
          simp only [opsAt,opA,opB,opC,opD,opE,opF,opG]
          refine Zah ?_
          intro V22 hV22
          have X22:=hid (show Ext W9 V22 from Ext.trans (Ext.then X21.out HK1.out (fun i hi hb=>by have hb:W9.heap.size<=i:=hb; omega)) hV22)
          obtain ⟨v2,w22,hap2,ho2,hk2⟩:=erase_two rfl HXL.out (by omega) HLC.out HIC.out X22.out (HO1.out.ext hV22) (Nat.le_trans HSZ21.out hV22.size)
          rw [HTA.out] at hap2
          have HAP2:=hid hap2
          have HO2:=hid ho2
          have HK2:=hid (show Only (fun b=>W9.heap.size<=b) V22 w22 from hk2.mono fun i _ hb=>by
           have:=(HO1.out.lt i hb).1
           have:=HSZ20.out
           show W9.heap.size<=i
           omega)
          clear hap2 ho2 hk2
          refine Zax fun Q3 hQ3=>?_
          go_wp2_with (at_builtin; refine Zam rfl _ _ _ rfl _ _ _ _ rfl rfl HAP2.out ?_)
          refine hQ3 _ _ HK2.out ?_
          clear hQ3 Q3 HAP2
          rw [wpS]
          simp only [opsAt,opA,opB,opC,opD,opE,opF,opG]
          (refine Zab (fun K hK=>?_); go_simp; refine hK _ ?_; clear hK K)
          refine Zah ?_
          intro V23 hV23
          have X23:=hid (show Ext W9 V23 from Ext.trans (Ext.then X22.out HK2.out (fun i hi hb=>by have hb:W9.heap.size<=i:=hb; omega)) hV23)
          have HO3:=hid (HO2.out.ext hV23)
          clear hV23
          have HEL:=hid (show (L.eraseIdx x).length=L.length - 1 by rw [List.length_eraseIdx,if_pos HXL.out])
          have HX23:=hid (HXC.out.wide X23.out)
          have HWA23:=hid (HWAC.out.ext X23.out)
          have HOS:=hid (show ∀ b,v2.ownBlock=some b->wideS S W9 V23 b from fun b hb=>.inr ⟨Nat.le_trans HSZ20.out (HO3.out.lt b hb).1,(HO3.out.lt b hb).2⟩)
          have HO4:=hid (HO3.out.low (Nat.zero_le _))
          have HWO23:=hid (HWO.out.mono (T:=fun b=>wideS S W9 V23 b/\b≠g) fun b hb=>⟨.inl hb.1,hb.2⟩)
          go_wp2
          go_roundw
          case rel=>exact ⟨q+1,by go_num,by omega,R',_,L.eraseIdx x,HX23.out,HMR'.out,by have:=HEL.out; have:=HLL.out; omega,HO4.out,HOS.out,HWA23.out,HWO23.out⟩
          case measure=>simp [intOf]; omega
      ·
       have q1:¬(q:Int) < (nn:Int) - (kk:Int):=by omega
       have HMH:=hid (MH.start HMR.out HVI.out (by rw [HKT.out]; have:=HLL.out; have:=HKN.out; omega))
       clear hx hmr hll hv hvs hwa hwo hlt HMR HLL
       go_wp2_with fail
       refine (mnew_c g wr).mono ?_
       rintro e w8 ⟨p,rfl,hp,hm,x8⟩
       obtain ⟨S8,hS⟩:∃ S',wideS S wr w8=S':=⟨_,rfl⟩
       have HX8:=hid (hS▸MX.start HX.out x8 hm hp)
       have HWA8:=hid (HWA.out.ext x8)
       have hlow:∀ b,S b->b≠p:=fun b hb=>by have:=HX.out.ve.rack.there b hb; omega
       have HWO8:=hid (HWO.out.mono fun b hb=>(show S8 b/\b≠g/\b≠p from ⟨hS▸.inl hb.1,hb.2,hlow b hb.1⟩))
       obtain ⟨gn,hgn⟩:∃ gn:Nat,1+c.slots.toNat+c.stripes.toNat=gn:=⟨_,rfl⟩
       have HGT:=hid hgn
       have HGN:=hid (show c.groups=(gn:Int) by have:=HGD.out.sl0; have:=HGD.out.st0; unfold Cfg.groups; omega)
       have HG12:=hid (show gn<=11 by have:=HGD.out.sl1; have:=HSTT.out; omega)
       clear hgn hp hm x8 hS hlow HX HWA HWO hcn hck hw1 hw2 q1
       go_wp2
       go_loopw [29] (fun t wq=>∃ i:Nat,t=.int .i64 i/\i<=gn/\∃ R S j f cur F a cp,MH R c m j f i/\VI c cur j f/\MX w wq S r R gc c g ⟨c,cur,false⟩ p ((i:Int) % (gn:Int))/\WasAt wq g0 ss F a cp/\WasOwn (fun b=>S b/\b≠g/\b≠p) g0 ss F a/\(∀ s,s < ss->∃ gen,f s=some (gen,F s))/\(∀ s,s < ss->(∀ b∈F s,b.length=108)/\(F s).length=kk)/\cur<=7+(i:Int)) (fun t _=>12 - (intOf t).toNat)
       case atStart=>exact ⟨0,rfl,by omega,_,_,_,_,_,_,_,_,HMH.out,HVI.out,(by
        have e:((0:Nat):Int) % (gn:Int)=0:=by simp
        rw [e]; exact HX8.out),HWA8.out,HWO8.out,HFN.out,HF8.out,by have:=HCU.out; omega⟩
       case round =>
        clear HMH HVI HX8 HWA8 HWO8 HFN HF8 HCU
        obtain ⟨i,rfl,hi,R,S,j,f,cur,F,a,cp,hmh,hvi,hx,hwa,hwo,hfn,hf8,hcu⟩:=hrel
        have HMH:=hid hmh; have HVI:=hid hvi; have HX:=hid hx; have HWA:=hid hwa; have HWO:=hid hwo; have HFF:=hid hfn; have HF8:=hid hf8; have HCU:=hid hcu
        clear hmh hvi hx hwa hwo hfn hf8 hcu
        have HCX:=hid HX.out.vx.cfg
        go_wp2_with (guard_target=wpList _ _ _ (⟨some _,Op.load _ _,_,_,_,none⟩::_) _ _; refine Zac rfl 26 _ rfl ⟨gc,0,none⟩ rfl (Cfg.A c) (Zap c) (Zaf HCX.out) ?_)
        refine (mgroups_c c HGD.out _).mono ?_
        rintro e w10 ⟨rfl,x10⟩
        rw [HGN.out]
        have HX10:=hid (HX.out.more x10)
        have HWA10:=hid (HWA.out.ext x10)
        clear x10 HX HCX HWA
        by_cases hlt:i < gn
        ·
         have i0:(0:Int)<=(i:Int):=by omega
         have i1:(i:Int) < (gn:Int):=by omega
         have i11:i<=11:=by have:=HG12.out; omega
         have eim:(i:Int) % (gn:Int)=(i:Int):=Int.emod_eq_of_lt (by omega) i1
         have HXG:=hid (show MX w w10 S r R gc c g ⟨c,cur,false⟩ p (i:Int) from eim▸HX10.out)
         obtain ⟨R',nw,htk,hmh⟩:=HMH.out.tick HK4.out HN6.out (g:=i) (by rw [HGN.out]; exact i1) cur
         rw [HGN.out] at htk
         have HTK:=hid htk; have HMH':=hid hmh
         have hac:=HXG.out.callTick HGD.out (by omega) (by show (i:Int) < c.groups; rw [HGN.out]; exact i1)
         have HAC:=hid hac
         clear htk hmh hac eim HX10 HMH
         go_wp2_with fail
         refine HAC.out.mono ?_
         rintro e w11 h11
         rw [HTK.out] at h11
         obtain rfl:=h11.ret
         have HX11:=hid (show MX w w11 S r R' gc c g ⟨c,cur,false⟩ p (((i+1:Nat):Int) % (gn:Int)) from HXG.out.tick h11)
         have HWA11:=hid (HWA10.out.only HWO.out h11.only fun b hb q=>by
          rcases q with q | q | q
          ·
           exact q hb.1
          ·
           exact hb.2.1 q
          ·
           exact hb.2.2 q)
         simp only [oErr]
         clear h11 HXG HAC HTK HWA10
         by_cases hio:i < ll
         ·
          obtain ⟨jb,joff,vj,rfl,hcj⟩:=HLO.out i hio
          have i2:(i:Int) < (ll:Int):=by omega
          by_cases hm3:(i:Int) % 3=0
          ·
           have hb3:((i:Int) % 3 == 0)=true:=by simp [hm3]
           have cj:w11.cell? ⟨jb,joff+i,none⟩=some (.int .i64 vj):=Ext.cell HX11.out.ext hcj
           have hljb:jb < w.heap.size:=HLW.out ⟨jb,joff,none⟩ rfl (by omega)
           have HJB:=hid (show jb≠g0 by have:=HG0.out.1; omega)
           obtain ⟨s0,s1⟩:=within_bd vj 0 ((ss:Int) - 1) (by omega)
           obtain ⟨sx,hsx⟩:=Int.eq_ofNat_of_zero_le s0
           have hs3:sx < ss:=by omega
           have HXD:=hid (show Ext w11 w11.drew from (Ext.refl w11).drew)
           have HCJ:=hid cj
           have wi:Hid (∀ y:SW Ext w11.drew,Calls Tryz.prog 14 #[.int .i64 vj,.int .i64 0,.int .i64 ((ss:Int) - 1)] y.w fun e w''=>e=.returned (.int .i64 (sx:Int))/\Ext y.w w''):=hid fun y=>(within_c vj 0 ((ss:Int) - 1) y.w (by omega) (by omega) (by omega)).mono fun e w'' q=>⟨by rw [q.1,hsx],q.2▸Ext.refl _⟩
           have cs:∀ y:SW Ext w11.drew,y.w.cell? ⟨gc,3,none⟩=some (.int .i64 ss):=fun y=>Ext.cell (Ext.trans HXD.out y.ext) ((Zag HX11.out.vx.cfg).trans ((Cfg.A3 c).trans (by rw [HST.out])))
           have cl:∀ y:SW Ext w11.drew,y.w.cell? ⟨jb,joff+i,none⟩=some (.int .i64 vj):=fun y=>Ext.cell (Ext.trans HXD.out y.ext) HCJ.out
           have hw1:wrap64 ((ss:Int) - 1)=(ss:Int) - 1:=mw64 (by omega) (by omega)
           have hw2:IntKind.i64.wrap ((ss:Int) - 1)=(ss:Int) - 1:=mi64w (by omega) (by omega)
           clear hcj s0 s1 hsx cj hljb hm3
           go_wp2_with fail
           refine Zan (S:=Ext) (.fin [0,1,2,3,4,5,6,7,8]) (by kernel_rfl) (by kernel_rfl) (fun _ _ d _ _ h=>by cases d<;>exact h) ?_
           rw [wpS]
           simp only [opsAt,opA,opB,opC,opD,opE,opF,opG]
           iterate 7 ((refine Zab (fun K hK=>?_); go_simp; refine hK _ ?_; clear hK K))
           (refine Zab (fun K hK=>?_); go_simp; (apply Exists.intro; refine ⟨fun x=>?_,hK _ ?_⟩; (exact wi.out x); clear hK K))
           (refine Zab (fun K hK=>?_); go_simp; refine hK _ ?_; clear hK K)
           refine Zah ?_
           intro V2 hV2
           have HXE:=hid (Ext.trans (Ext.trans HXD.out hV2) (show Ext V2 V2.drew from (Ext.refl V2).drew))
           clear cs cl hV2 HXD wi hw1 hw2
           have ck:∀ y:SW (Only fun b=>b=g0) V2.drew,y.w.cell? ⟨gc,1,none⟩=some (.int .i64 kk):=fun y=>Only.cell y.ext (Ext.cell HXE.out (HX11.out.vx.c1.trans (by rw [HK.out]))) (fun q=>HG0.out.2 q.symm)
           have cl:∀ y:SW (Only fun b=>b=g0) V2.drew,y.w.cell? ⟨jb,joff+i,none⟩=some (.int .i64 vj):=fun y=>Only.cell y.ext (Ext.cell HXE.out HCJ.out) HJB.out
           have sx0:(0:Int)<=(sx:Int):=by omega
           have sx1:(sx:Int) < (ss:Int):=by omega
           clear HCJ
           go_wp2_with fail
           refine Zav (E:=Ext) (S:=Only fun b=>b=g0) (.one [0,1,2,3,4,5,6,7] 8 (.one [9] 10 (.fin []))) (by kernel_rfl) (by kernel_rfl) (fun _ _ d _ _ h=>by cases d<;>exact h) ?_
           rw [wpS]
           simp only [opsAt,opA,opB,opC,opD,opE,opF,opG]
           iterate 8 ((refine Zab (fun K hK=>?_); go_simp; refine hK _ ?_; clear hK K))
           refine Zah ?_
           intro V3 hV3
           have HV3:=hid (Ext.trans HXE.out hV3)
           clear ck cl hV3 HXE
           refine Zax fun Q1 hQ1=>?_
           go_wp2_with fail
           refine (kblocks_c kk (by omega) _ V3).mono ?_
           rintro e w6 ⟨v,rfl,hown,x6⟩
           generalize hlb:blocksOf kk _=lb at hown
           have Lb8:=hid (hlb▸blocksOf_108 kk _)
           have LbB:=hid (hlb▸blocksOf_bytes kk _)
           have LbL:=hid (show lb.length=kk by rw [<- hlb,Zcj])
           have Lb0:=hid (show lb≠[] from fun z=>by have:=LbL.out; rw [z] at this; simp at this; omega)
           have LbF:=hid (show Cd.Blocks c.k.toNat 108 lb by rw [HKT.out,<- hlb]; exact blocksOf_Blocks kk _)
           obtain ⟨a6,c6,rfl,hbk,hab⟩:=kblocks_at Lb8.out hown
           have HX4:=hid (HX11.out.more HV3.out)
           have HWA4:=hid (HWA11.out.ext HV3.out)
           obtain ⟨S6,hS⟩:∃ S',wideS S V3 w6=S':=⟨_,rfl⟩
           have HX6:=hid (hS▸HX4.out.wide x6)
           have HWA6:=hid (HWA4.out.ext x6)
           have HWO6:=hid (HWO.out.mono (T:=fun b=>S6 b/\b≠g/\b≠p) fun b hb=>⟨hS▸.inl hb.1,hb.2⟩)
           have HB6:=hid hbk
           have hg0l:g0 < V3.heap.size:=HX4.out.rack.there g0 HWO.out.own.1
           have hpl:p < V3.heap.size:=HX4.out.rack.there p HX4.out.pS
           have HP6:=hid (show ∀ b,a6=some ⟨b,0,none⟩->(S6 b/\b≠g/\b≠p)/\b≠g0 from fun b e=>⟨⟨hS▸HX4.out.vx.ve.blk x6 hbk Lb0.out hab b e,by have:=hab b e; have:=lt_of_block HX4.out.vol; omega,by have:=hab b e; omega⟩,by have:=hab b e; omega⟩)
           clear hown hbk hab hS hlb hg0l hpl HX11 HWA11 HWO HX4 HWA4
           go_wp2
           refine hQ1 _ _ (Ext.only x6) ?_
           clear hQ1 Q1 x6 HV3
           rw [wpS]
           simp only [opsAt,opA,opB,opC,opD,opE,opF,opG]
           (refine Zab (fun K hK=>?_); go_simp; refine hK _ ?_; clear hK K)
           refine Zah ?_
           intro V4 hV4
           have HX7:=hid (HX6.out.more hV4)
           have HWA7:=hid (HWA6.out.ext hV4)
           have HB7:=hid (HB6.out.ext hV4)
           have hcx:=HWA7.out.cell hs3
           have hfx:=HWA7.out.free sx
           clear hV4 HX6 HB6 HWA6
           refine Zax fun Q2 hQ2=>?_
           go_wp2_with fail
           refine hQ2 _ _ (Zbo _ _ _ _) ?_
           clear hQ2 Q2
           generalize hW9:V4.setCell _ _=W9
           have hset:=HWA7.out.set HWO6.out (s:=sx) (l:=lb) (a':=a6) (c':=c6) HB7.out HP6.out
           have hk9:Only (fun b=>b=g0) V4 W9:=hW9▸Zbo _ _ _ _
           have HX9:=hid (show MX w W9 S6 r R' gc c g ⟨c,cur,false⟩ p (((i+1:Nat):Int) % (gn:Int)) from HX7.out.poke hk9 fun b hb=>by
            have hb:b=g0:=hb
            subst hb; exact ⟨HWO6.out.own.1,HG0.out.1,HG0.out.2,HWO6.out.own.2⟩)
           have HS9:=hid (by first | exact hW9▸hset | exact hset)
           clear hW9 hset hk9 HX7 HWA7 hcx hfx HB7
           rw [wpS]
           simp only [opsAt,List.map_nil]
           refine Zah ?_
           intro VA hVA
           have HXA:=hid (HX9.out.more hVA)
           have HWAA:=hid (HS9.out.1.ext hVA)
           have hcA:VA.cell? ⟨g0,sx,none⟩=some (.slice a6 lb.length c6):=by
            have:=HWAA.out.cell hs3
            simpa using this
           have HBA:=hid (show BlksAt VA a6 lb from by
            have:=HWAA.out.bks sx hs3
            simpa using this)
           obtain ⟨a0,R2',hcm,hvi,hmh⟩:=HMH'.out.commit HVI.out HK4.out HN6.out (by have:=HCU.out; have:=HG12.out; omega) (s:=sx) (by rw [HSTT.out]; exact hs3) LbF.out
           have HCM:=hid hcm; have HMH2:=hid hmh; have HVI':=hid hvi
           have hcur0:(0:Int)<=cur:=by have:=HVI.out.vv.cur; omega
           clear hVA hcm hmh hvi HX9
           go_wp2_with fail
           refine (vcommit_c HXA.out.rack HXA.out.vol HXA.out.vx.gS hcur0 sx lb Lb8.out LbB.out a6 c6 HBA.out (fun b e=>⟨(HP6.out b e).1.1,(HP6.out b e).1.2.1⟩)).mono ?_
           rintro e w12 h12
           rw [HCM.out] at h12
           obtain rfl:=h12.ret
           have HX12:=hid (show MX w w12 S6 r R2' gc c g ⟨c,cur+1,false⟩ p (((i+1:Nat):Int) % (gn:Int)) from HXA.out.commit h12)
           have HWA12:=hid (HWAA.out.only HS9.out.2 h12.only fun b hb q=>q.elim (fun z=>z hb.1) hb.2.1)
           have HFF':=hid (show ∀ s,s < ss->∃ gen,updS f sx (cur+1,lb) s=some (gen,(fun t=>if t=sx then lb else F t) s) from fun s hs=>by
            by_cases e:s=sx
            ·
             subst e; exact ⟨cur+1,by rw [Zbp]; simp⟩
            ·
             obtain ⟨gen,q⟩:=HFF.out s hs
             exact ⟨gen,by rw [Zbc f _ e,q]; simp [e]⟩)
           have HF8':=hid (show ∀ s,s < ss->(∀ b∈(fun t=>if t=sx then lb else F t) s,b.length=108)/\((fun t=>if t=sx then lb else F t) s).length=kk from fun s hs=>by
            by_cases e:s=sx
            ·
             simp only [e,if_true]; exact ⟨Lb8.out,LbL.out⟩
            ·
             simp only [e,if_false]; exact HF8.out s hs)
           simp only [oErr]
           clear h12 HXA HWAA HBA HCM hcA HMH' HVI HFF HF8
           go_wp2_with fail
           first
           | exact ⟨⟨i+1,by go_num,by omega,R2',S6,_,_,_,_,_,_,HMH2.out,HVI'.out,HX12.out,HWA12.out,HS9.out.2,HFF'.out,HF8'.out,by have:=HCU.out; omega⟩,by simp [intOf]; have:=HG12.out; omega⟩
           | (go_roundw; (case rel=>exact ⟨i+1,by go_num,by omega,R2',S6,_,_,_,_,_,_,HMH2.out,HVI'.out,HX12.out,HWA12.out,HS9.out.2,HFF'.out,HF8'.out,by have:=HCU.out; omega⟩); (case measure=>simp [intOf]; have:=HG12.out; omega))
          ·
           have hb3:((i:Int) % 3 == 0)=false:=by simpa using hm3
           clear hcj hm3
           go_wp2_with fail
           first
           | exact ⟨⟨i+1,by go_num,by omega,R',S,j,f,cur,F,a,cp,HMH'.out,HVI.out,HX11.out,HWA11.out,HWO.out,HFF.out,HF8.out,by have:=HCU.out; omega⟩,by simp [intOf]; have:=HG12.out; omega⟩
           | (go_roundw; (case rel=>exact ⟨i+1,by go_num,by omega,R',S,j,f,cur,F,a,cp,HMH'.out,HVI.out,HX11.out,HWA11.out,HWO.out,HFF.out,HF8.out,by have:=HCU.out; omega⟩); (case measure=>simp [intOf]; have:=HG12.out; omega))
         ·
          have i2:¬(i:Int) < (ll:Int):=by omega
          go_wp2_with fail
          first
          | exact ⟨⟨i+1,by go_num,by omega,R',S,j,f,cur,F,a,cp,HMH'.out,HVI.out,HX11.out,HWA11.out,HWO.out,HFF.out,HF8.out,by have:=HCU.out; omega⟩,by simp [intOf]; have:=HG12.out; omega⟩
          | (go_roundw; (case rel=>exact ⟨i+1,by go_num,by omega,R',S,j,f,cur,F,a,cp,HMH'.out,HVI.out,HX11.out,HWA11.out,HWO.out,HFF.out,HF8.out,by have:=HCU.out; omega⟩); (case measure=>simp [intOf]; have:=HG12.out; omega))
        ·
         obtain rfl:gn=i:=by omega
         have i1:¬(gn:Int) < (gn:Int):=by omega
         have HVH:=hid (MH.vh (by rw [HGT.out]; exact HMH.out) HM.out.symm)
         have HTN:=hid (Tnt.start (HVH.out.gt HVI.out).live)
         obtain ⟨z,hz'⟩:∃ z:Int,(gn:Int) % (gn:Int)=z:=⟨_,rfl⟩
         rw [hz'] at HX10
         have HE:=hid (fun s (hs:s < ss)=>show (((R.slook c (s:Int)).2.length:Int) == (R.online.length:Int))=true from by rw [HVH.out.slook_all HVI.out (t:=s) (by rw [HSTT.out]; exact hs)]; exact beq_self_eq_true _)
         have HSG:=hid (fun d (hd:d < nn)=>HVH.out.told (d:=d) (by rw [HNT.out]; exact hd))
         clear hz' HMH hlt hi
         go_wp2_with fail
         go_loopw [33] (fun t wq=>∃ s:Nat,t=.int .i64 s/\s<=ss/\MX w wq S r R gc c g ⟨c,cur,false⟩ p z/\WasAt wq g0 ss F a cp) (fun t _=>ss - (intOf t).toNat)
         case atStart=>exact ⟨0,rfl,by omega,HX10.out,HWA10.out⟩
         case round =>
          clear HX10 HWA10
          obtain ⟨s,rfl,hs,hx,hwa⟩:=hrel
          have HX:=hid hx; have HWA:=hid hwa
          have c3:wr.cell? ⟨gc,3,none⟩=some (.int .i64 ss):=(Zag hx.vx.cfg).trans ((Cfg.A3 c).trans (by rw [HST.out]))
          have HCX:=hid hx.vx.cfg
          clear hx hwa
          by_cases hs3:s < ss
          ·
           have s1:(s:Int) < (ss:Int):=by omega
           go_wp2_with (guard_target=wpList _ _ _ (⟨some _,Op.load _ _,_,_,_,none⟩::_) _ _; refine Zac rfl 26 _ rfl ⟨gc,0,none⟩ rfl (Cfg.A c) (Zap c) (Zaf HCX.out) ?_)
           refine (mwhole_c HX.out.rack c s).mono ?_
           rintro e w12 ⟨rfl,x12⟩
           rw [HE.out s hs3]
           have HX12:=hid (HX.out.more x12)
           have HWA12:=hid (HWA.out.ext x12)
           clear x12 HX HWA c3 HCX
           go_wp2
           go_roundw
           case rel=>exact ⟨s+1,by go_num,by omega,HX12.out,HWA12.out⟩
           case measure=>simp [intOf]; omega
          ·
           obtain rfl:ss=s:=by omega
           have s1:¬(ss:Int) < (ss:Int):=by omega
           go_wp2_with fail
           clear c3 HCX hs3 hs s1
           go_loopw [34] (fun t wq=>∃ d:Nat,t=.int .i64 d/\d<=nn/\MX w wq S r R gc c g ⟨c,cur,false⟩ p z/\WasAt wq g0 ss F a cp) (fun t _=>nn - (intOf t).toNat)
           case atStart=>exact ⟨0,rfl,by omega,HX.out,HWA.out⟩
           case round =>
            clear HX HWA
            obtain ⟨d,rfl,hd,hx,hwa⟩:=hrel
            have HX:=hid hx; have HWA:=hid hwa
            have c2:wr.cell? ⟨gc,2,none⟩=some (.int .i64 nn):=hx.vx.c2.trans (by rw [HN.out])
            clear hx hwa
            by_cases hdn:d < nn
            ·
             have d1:(d:Int) < (nn:Int):=by omega
             go_wp2_with fail
             refine (spget_c HX.out.rack d).mono ?_
             rintro e w6 ⟨rfl,x6⟩
             rw [HSG.out d hdn]
             simp only [toldO,Option.getD_some,Option.isSome_some]
             have x7:=x6.alloc (.cells (Cfg.A c) 26)
             have HX7:=hid (HX.out.more x7)
             have HWA7:=hid (HWA.out.ext x7)
             have HC7:=hid HX7.out.vx.cfg
             have HY7:Hid ((w6.alloc (.cells (Cfg.A c) 26)).heap[w6.heap.size]?=some (.cells (Cfg.A c) 26 (0,0))):=hid Zad
             have hbs:(w6.alloc (.cells (Cfg.A Cfg.zero) 26)).heap[w6.heap.size]?=some (.cells (Cfg.A Cfg.zero) 26 (0,0)):=Zad
             have HEQ:=hid (cfg_neq c c)
             rw [Cfg.eqB_self] at HEQ
             clear x6 x7 c2 HX HWA
             go_wp2_with (first
              | (refine Zaa rfl 26 _ _ rfl w6.heap.size rfl (Cfg.A c) _ rfl 26 ?_ hbs ?_ ?_ ?_; (rw [HCS.out]; exact aggCfg); (rw [HCS.out,HCS.out]); exact Cfg.A_one _; rw [Zai])
              | (refine Zau 26 _ rfl ⟨w6.heap.size,0,none⟩ rfl (Cfg.A c) rfl (Zap c) (Zaf HY7.out) ?_)
              | (refine Zau 26 _ rfl ⟨gc,0,none⟩ rfl (Cfg.A c) rfl (Zap c) (Zaf HC7.out) ?_)
              | (refine Zbu .neq 26 _ _ _ rfl (Cfg.A c) (Cfg.A c) rfl rfl (.bool false) rfl (cfg_guard _ _ _ _ _ _) (HEQ.out _) ?_))
             go_roundw
             case rel=>exact ⟨d+1,by go_num,by omega,HX7.out,HWA7.out⟩
             case measure=>simp [intOf]; omega
            ·
             obtain rfl:nn=d:=by omega
             have d1:¬(nn:Int) < (nn:Int):=by omega
             go_wp2_with fail
             clear c2 hdn hd d1
             go_loopw [37] (fun t wq=>∃ q:Nat,t=.int .i64 q/\q<=nn - kk/\∃ Rq L,Tnt R Rq c.n.toNat m L/\nn<=L.length+q/\MX w wq S r Rq gc c g ⟨c,cur,false⟩ p z/\WasAt wq g0 ss F a cp) (fun t _=>nn - (intOf t).toNat)
             case atStart=>exact ⟨0,rfl,by omega,R,_,HTN.out,by rw [List.length_range,HNT.out]; omega,HX.out,HWA.out⟩
             case round =>
              clear HX HWA HTN
              obtain ⟨q,rfl,hq,Rq,L,htn,hll,hx,hwa⟩:=hrel
              have HX:=hid hx; have HTN:=hid htn; have HLL:=hid hll; have HWA:=hid hwa
              have c1:wr.cell? ⟨gc,1,none⟩=some (.int .i64 kk):=hx.vx.c1.trans (by rw [HK.out])
              have c2:wr.cell? ⟨gc,2,none⟩=some (.int .i64 nn):=hx.vx.c2.trans (by rw [HN.out])
              have hw1:=HW1.out; have hw2:=HW2.out
              clear hx htn hll hwa
              by_cases hqn:q < nn - kk
              ·
               have q1:(q:Int) < (nn:Int) - (kk:Int):=by omega
               have q2:q < nn:=by omega
               go_upto_if 248 with (fail)
               go_cut [38] (fun t wq=>(∃ d:Nat,t=.int .i64 d/\d < nn)/\Ext wr wq)
               case first =>
                by_cases hio:q < tlen
                ·
                 obtain ⟨ib,ioff,vi,rfl,hci⟩:=HT.out q hio
                 have j0:(0:Int)<=(q:Int):=by omega
                 have j1:(q:Int) < (tlen:Int):=by omega
                 obtain ⟨z0,z1⟩:=within_bd vi 0 ((nn:Int) - 1) (by omega)
                 obtain ⟨dd,hdd⟩:=Int.eq_ofNat_of_zero_le z0
                 have hd2:dd < nn:=by omega
                 have xd:Ext wr wr.drew:=(Ext.refl wr).drew
                 have HXD:=hid xd
                 have wi:Hid (∀ y:SW Ext wr.drew,Calls Tryz.prog 14 #[.int .i64 vi,.int .i64 0,.int .i64 ((nn:Int) - 1)] y.w fun e w''=>e=.returned (.int .i64 (dd:Int))/\Ext y.w w''):=hid fun y=>(within_c vi 0 ((nn:Int) - 1) y.w (by omega) (by omega) (by omega)).mono fun e w'' q=>⟨by rw [q.1,hdd],q.2▸Ext.refl _⟩
                 have cs:∀ y:SW Ext wr.drew,y.w.cell? ⟨gc,2,none⟩=some (.int .i64 nn):=fun y=>y.ext.cell (xd.cell c2)
                 have cl:∀ y:SW Ext wr.drew,y.w.cell? ⟨ib,ioff+q,none⟩=some (.int .i64 vi):=fun y=>y.ext.cell (xd.cell (Ext.cell HX.out.ext hci))
                 have hw3:IntKind.i64.wrap ((nn:Int) - 1)=(nn:Int) - 1:=iwsub1 (by omega)
                 have hw4:wrap64 ((nn:Int) - 1)=(nn:Int) - 1:=mw64 (by omega) (by omega)
                 clear xd hci z0 z1 hdd
                 go_wp2_with fail
                 refine Zan (S:=Ext) (.fin [0,1,2,3,4,5,6,7,8]) (by kernel_rfl) (by kernel_rfl) (fun _ _ d _ _ h=>by cases d<;>exact h) ?_
                 rw [wpS]
                 simp only [opsAt,opA,opB,opC,opD,opE,opF,opG]
                 iterate 7 ((refine Zab (fun K hK=>?_); go_simp; refine hK _ ?_; clear hK K))
                 (refine Zab (fun K hK=>?_); go_simp; (apply Exists.intro; refine ⟨fun x=>?_,hK _ ?_⟩; (exact wi.out x); clear hK K))
                 (refine Zab (fun K hK=>?_); go_simp; refine hK _ ?_; clear hK K)
                 refine Zah ?_
                 intro V3 hV3
                 have HXV:=hid (Ext.trans HXD.out hV3)
                 clear cs cl wi hV3 hw3 hw4
                 go_wp2
                 go_meet
                 case rel=>exact ⟨⟨dd,rfl,hd2⟩,HXV.out⟩
                ·
                 have j1:¬(q:Int) < (tlen:Int):=by omega
                 go_wp2_with fail
                 go_meet
                 case rel=>exact ⟨⟨q,rfl,q2⟩,Ext.refl _⟩
               case rest =>
                obtain ⟨⟨d,rfl,hdn⟩,hxc⟩:=hcut
                have HXC:=hid (HX.out.more hxc)
                have HWAC:=hid (HWA.out.ext hxc)
                have HTN':=hid (HTN.out.die_any (d:=d) (by rw [HNT.out]; exact hdn))
                have HLL':=hid (show nn<=(L.erase d).length+(q+1) by have:=HLL.out; have:=length_erase_ge L d; omega)
                clear hxc HX HWA HTN c1 c2 hw1 hw2
                go_wp2_with fail
                refine (at_die HXC.out.rack d).mono ?_
                rintro e w12 ⟨rfl,h12,k12⟩
                have HX12:=hid (HXC.out.keep h12 k12)
                have HWA12:=hid (HWAC.out.only HWO.out k12 fun b hb z=>z hb.1)
                clear h12 k12 HXC HWAC
                go_wp2
                go_roundw
                case rel=>exact ⟨q+1,by go_num,by omega,_,_,HTN'.out,HLL'.out,HX12.out,HWA12.out⟩
                case measure=>simp [intOf]; omega
              ·
               have q1:¬(q:Int) < (nn:Int) - (kk:Int):=by have:=HKN.out; omega
               obtain ⟨R5,cur5,hop,hrd⟩:∃ R' cur',Rq.vopen=(none,R',c,cur')/\∀ t,t < c.stripes.toNat->∃ y,f t=some y/\SFit c t y.1 y.2/\R'.sget c (t:Int)=(y.2,y.1,none):=by
                rcases HVH.out.reopen HVI.out HM.out.symm HK4.out HN6.out (by have:=HCU.out; have:=HG12.out; omega) HTN.out with ⟨_,_,_,_,hno⟩ | h
                ·
                 exfalso
                 refine hno ?_
                 rw [HKT.out]
                 have:=HLL.out
                 have:=HKN.out
                 omega
                ·
                 exact h
               have HOP:=hid hop; have HRD:=hid hrd
               clear hop hrd HVH HTN
               go_wp2_with fail
               refine (vopen_c HX.out.rack).mono ?_
               rintro e w13 h13
               rw [HOP.out] at h13
               rcases h13 with ⟨_,z,_⟩ | ⟨_,g9,T9,hok⟩
               ·
                cases z
               obtain rfl:=hok.ret
               have HX13:=hid (show VX w w13 T9 r R5 gc c g9 ⟨c,cur5,false⟩ from HX.out.vx.opened hok)
               have HWA13:=hid (HWA.out.only HWO.out hok.keep fun b hb z=>z hb.1)
               clear hok HX HWA c1 c2 hw1 hw2
               go_wp2_with fail
               go_loopw [273] (fun t wq=>∃ s:Nat,t=.int .i64 s/\s<=ss/\VX w wq T9 r R5 gc c g9 ⟨c,cur5,false⟩/\WasAt wq g0 ss F a cp) (fun t _=>ss - (intOf t).toNat)
               case atStart=>exact ⟨0,rfl,by omega,HX13.out,HWA13.out⟩
               case round =>
                clear HX13 HWA13
                obtain ⟨s,rfl,hs,hx,hwa⟩:=hrel
                have HX:=hid hx; have HWA:=hid hwa
                clear hx hwa
                by_cases hs3:s < ss
                ·
                 have s1:(s:Int) < (ss:Int):=by omega
                 have s0:(0:Int)<=(s:Int):=by omega
                 obtain ⟨ls,hls⟩:∃ ls,F s=ls:=⟨_,rfl⟩
                 have L8:=hid (show ∀ b∈ls,b.length=108 from hls▸(HF8.out s hs3).1)
                 have LN:=hid (show ls.length<=8 from hls▸(by have:=(HF8.out s hs3).2; omega))
                 have hrv:Vol.read ⟨c,cur5,false⟩ R5 (s:Int)=(ls,(Vol.read ⟨c,cur5,false⟩ R5 (s:Int)).2.1,none):=by
                  obtain ⟨y,h1,_,h3⟩:=HRD.out s (by rw [HSTT.out]; exact hs3)
                  obtain ⟨gen,h4⟩:=HFF.out s hs3
                  rw [h1] at h4
                  have h5:y=(gen,ls):=by rw [<- hls]; exact Option.some.inj h4
                  rw [h5] at h3
                  rw [Vol.read_of h3 cur5]
                 generalize (Vol.read ⟨c,cur5,false⟩ R5 (s:Int)).2.1=gn5 at hrv
                 have HRV:=hid hrv; have HLS:=hid hls
                 clear hrv hls
                 go_wp2_with fail
                 refine (vread_c HX.out.rack HX.out.vol s).mono ?_
                 rintro e w14 ⟨v,rfl,hown,x14⟩
                 rw [HRV.out] at hown ⊢
                 simp only at hown ⊢
                 obtain ⟨a14,c14,rfl,hbk,hab⟩:=kblocks_at L8.out hown
                 have HX14:=hid (HX.out.more x14)
                 have HWA14:=hid (HWA.out.ext x14)
                 have HB14:=hid hbk
                 have hcx:=HWA14.out.cell hs3
                 have HBS:=hid (HWA14.out.bks s hs3)
                 rw [HLS.out] at hcx HBS
                 simp only [oErr]
                 clear hown x14 hbk hab HX HWA
                 go_wp2_with fail
                 refine (sameblk2_c ls ls L8.out L8.out rfl LN.out a14 (a s) c14 (cp s) _ HB14.out HBS.out).mono ?_
                 rintro e w15 ⟨rfl,x15⟩
                 rw [decide_eq_true rfl]
                 have HX15:=hid (HX14.out.more x15)
                 have HWA15:=hid (HWA14.out.ext x15)
                 clear x15 HX14 HWA14 HB14 HBS hcx
                 go_wp2
                 go_roundw
                 case rel=>exact ⟨s+1,by go_num,by omega,HX15.out,HWA15.out⟩
                 case measure=>simp [intOf]; omega
                ·
                 obtain rfl:ss=s:=by omega
                 have s1:¬(ss:Int) < (ss:Int):=by omega
                 go_wp2_with fail
                 refine (mendRuns_c wr).mono ?_
                 rintro e w16 ⟨rfl,x16⟩
                 have HX16:=hid (Ext.trans HX.out.ext x16)
                 clear x16
                 go_wp2
                 go_ret
                 exact ⟨rfl,HX16.out⟩
end Go.Proofs.YtkipjmbplmdaaaaGreat
namespace Go.Proofs.YtkipjmbplmdaaaaGreat.mendWhole
open Go.ChangeShapes Go.WideShapes Go.ChangeAt Go.RowKit
open Go.ChangeMaps (open_string shut_string)
set_option linter.unusedVariables false
theorem own:ownKnob Tryz.prog.godebug=none:=by kernel_rfl
theorem laidOut:laidOutB Tryz.prog=true:=by kernel_rfl
theorem walk (a0:Int) (a1:Int) (a2:Int) (a3:Int) (a4:Option Addr) (len4 cap4:Nat) (z4:List Int) (a5:Option Addr) (len5 cap5:Nat) (z5:List Int) (a6:Option Addr) (len6 cap6:Nat) (z6:List Int) (a7:Option Addr) (len7 cap7:Nat) (z7:List Int) (w:World) (w0:(Lit.int .i64 a0).wf=true) (w1:(Lit.int .i64 a1).wf=true) (w2:(Lit.int .i64 a2).wf=true) (w3:(Lit.int .i64 a3).wf=true) (w4:IsRow .i64 w a4 len4 cap4 z4) (w5:IsRow .i64 w a5 len5 cap5 z5) (w6:IsRow .i64 w a6 len6 cap6 z6) (w7:IsRow .i64 w a7 len7 cap7 z7) :
  Calls Tryz.prog 6 #[.int .i64 a0,.int .i64 a1,.int .i64 a2,.int .i64 a3,.slice a4 len4 cap4,.slice a5 len5 cap5,.slice a6 len6 cap6,.slice a7 len7 cap7] w fun e w'=>e=.returned (.bool true)/\Below w.heap.size w w' :=
 (mendWhole_c a0 a1 a2 a3 a4 len4 cap4 z4 a5 len5 cap5 z5 a6 len6 cap6 z6 a7 len7 cap7 z7 w w4 w5 w6 w7).mono fun _ _ ⟨he,hx⟩=>⟨he,hx.below⟩
set_option maxRecDepth 100000 in
theorem lifted (os:Os) (started:os.Started) (H:Type) (enc:TypeId × Value->H) :
  ReturnsInHanded {} Tryz.checked os 6 .any (Rows.mendWholeSpec.pre6 enc Tryz.prog Tryz.f6 Rows.mendWholeRow.domain false) (Rows.mendWholeSpec.post enc Tryz.prog Tryz.f6 false true false false):=by
 refine returnsInHanded_of_change (C:=Tryz.checked) own started (by kernel_rfl) Tryz.func6
  (ChangeSpec.witness6 (enc:=enc) (C:=Tryz.checked) false ⟨#[],#[.int .i64 0,.int .i64 0,.int .i64 0,.int .i64 0,.slice none 0 0,.slice none 0 0,.slice none 0 0,.slice none 0 0],[]⟩ 8 (by kernel_rfl) (by kernel_rfl) (by kernel_rfl) (by kernel_rfl)) ?_
 intro W base args ds gs before hval0 hW hcnd _
 have hval:∀ (j:Nat) t v,Tryz.f6.params[j]?=some t->args[j]?=some v->Value.okWide Tryz.prog W .any base t v:=hval0
 have hW':=hW
 obtain ⟨p,q,hA0,hV,rfl,hfz,hnd⟩:=hW
 have hA:DataW.TrodAll enc Tryz.prog W 0 (fun _=>true) true Tryz.f6.params.toList args.toList ds p:=hA0
 rw [Tryz.params6] at hA hval
 obtain ⟨v0,vs0,d0,ds0,p0,q0,hargs,rfl,rfl,h0,r0⟩:=trodAll_cons hA
 obtain ⟨v1,vs1,d1,ds1,p1,q1,rfl,rfl,rfl,h1,r1⟩:=trodAll_cons r0
 obtain ⟨v2,vs2,d2,ds2,p2,q2,rfl,rfl,rfl,h2,r2⟩:=trodAll_cons r1
 obtain ⟨v3,vs3,d3,ds3,p3,q3,rfl,rfl,rfl,h3,r3⟩:=trodAll_cons r2
 obtain ⟨v4,vs4,d4,ds4,p4,q4,rfl,rfl,rfl,h4,r4⟩:=trodAll_cons r3
 obtain ⟨v5,vs5,d5,ds5,p5,q5,rfl,rfl,rfl,h5,r5⟩:=trodAll_cons r4
 obtain ⟨v6,vs6,d6,ds6,p6,q6,rfl,rfl,rfl,h6,r6⟩:=trodAll_cons r5
 obtain ⟨v7,vs7,d7,ds7,p7,q7,rfl,rfl,rfl,h7,r7⟩:=trodAll_cons r6
 obtain ⟨rfl,rfl,rfl⟩:=trodAll_nil r7
 obtain rfl:args=#[v0,v1,v2,v3,v4,v5,v6,v7]:=by cases args; simp_all
 obtain ⟨rfl,rfl⟩:=trodVars_none hV
 obtain ⟨a0,rfl,rfl,rfl,w0⟩:=open_int Tryz.underlying3 (hval 0 3 v0 rfl rfl) h0
 obtain ⟨a1,rfl,rfl,rfl,w1⟩:=open_int Tryz.underlying3 (hval 1 3 v1 rfl rfl) h1
 obtain ⟨a2,rfl,rfl,rfl,w2⟩:=open_int Tryz.underlying3 (hval 2 3 v2 rfl rfl) h2
 obtain ⟨a3,rfl,rfl,rfl,w3⟩:=open_int Tryz.underlying3 (hval 3 3 v3 rfl rfl) h3
 obtain ⟨a4,len4,cap4,rfl⟩:=okWide_slice Tryz.underlying54 (hval 4 54 v4 rfl rfl)
 have k4:=h4
 have lt4:∀ x∈p4,x.block < W.heap.size:=by obtain ⟨m,hm⟩:=k4; exact DataW.trod_lt m _ _ _ hm
 obtain ⟨z4,w4⟩:∃ zs,IsRow .i64 W a4 len4 cap4 zs:=by
  obtain ⟨fuel,hf⟩:=h4
  rcases open_ints Tryz.underlying54 Tryz.underlying3 (by kernel_rfl) hf with ⟨hcs,_⟩ | ⟨x,l,c,zs,hcs,_,hl,hm,hz,_,hcell,hwz⟩
  ·
   simp [Value.cells] at hcs
   obtain ⟨rfl,rfl,rfl⟩:=hcs
   exact ⟨[],.inl ⟨rfl,rfl,rfl,rfl⟩⟩
  ·
   simp [Value.cells] at hcs
   obtain ⟨rfl,rfl,rfl⟩:=hcs
   exact ⟨zs,.inr ⟨_,rfl,hl,hm,by simpa using hz,hcell,hwz⟩⟩
 obtain ⟨a5,len5,cap5,rfl⟩:=okWide_slice Tryz.underlying54 (hval 5 54 v5 rfl rfl)
 have k5:=h5
 have lt5:∀ x∈p5,x.block < W.heap.size:=by obtain ⟨m,hm⟩:=k5; exact DataW.trod_lt m _ _ _ hm
 obtain ⟨z5,w5⟩:∃ zs,IsRow .i64 W a5 len5 cap5 zs:=by
  obtain ⟨fuel,hf⟩:=h5
  rcases open_ints Tryz.underlying54 Tryz.underlying3 (by kernel_rfl) hf with ⟨hcs,_⟩ | ⟨x,l,c,zs,hcs,_,hl,hm,hz,_,hcell,hwz⟩
  ·
   simp [Value.cells] at hcs
   obtain ⟨rfl,rfl,rfl⟩:=hcs
   exact ⟨[],.inl ⟨rfl,rfl,rfl,rfl⟩⟩
  ·
   simp [Value.cells] at hcs
   obtain ⟨rfl,rfl,rfl⟩:=hcs
   exact ⟨zs,.inr ⟨_,rfl,hl,hm,by simpa using hz,hcell,hwz⟩⟩
 obtain ⟨a6,len6,cap6,rfl⟩:=okWide_slice Tryz.underlying54 (hval 6 54 v6 rfl rfl)
 have k6:=h6
 have lt6:∀ x∈p6,x.block < W.heap.size:=by obtain ⟨m,hm⟩:=k6; exact DataW.trod_lt m _ _ _ hm
 obtain ⟨z6,w6⟩:∃ zs,IsRow .i64 W a6 len6 cap6 zs:=by
  obtain ⟨fuel,hf⟩:=h6
  rcases open_ints Tryz.underlying54 Tryz.underlying3 (by kernel_rfl) hf with ⟨hcs,_⟩ | ⟨x,l,c,zs,hcs,_,hl,hm,hz,_,hcell,hwz⟩
  ·
   simp [Value.cells] at hcs
   obtain ⟨rfl,rfl,rfl⟩:=hcs
   exact ⟨[],.inl ⟨rfl,rfl,rfl,rfl⟩⟩
  ·
   simp [Value.cells] at hcs
   obtain ⟨rfl,rfl,rfl⟩:=hcs
   exact ⟨zs,.inr ⟨_,rfl,hl,hm,by simpa using hz,hcell,hwz⟩⟩
 obtain ⟨a7,len7,cap7,rfl⟩:=okWide_slice Tryz.underlying54 (hval 7 54 v7 rfl rfl)
 have k7:=h7
 have lt7:∀ x∈p7,x.block < W.heap.size:=by obtain ⟨m,hm⟩:=k7; exact DataW.trod_lt m _ _ _ hm
 obtain ⟨z7,w7⟩:∃ zs,IsRow .i64 W a7 len7 cap7 zs:=by
  obtain ⟨fuel,hf⟩:=h7
  rcases open_ints Tryz.underlying54 Tryz.underlying3 (by kernel_rfl) hf with ⟨hcs,_⟩ | ⟨x,l,c,zs,hcs,_,hl,hm,hz,_,hcell,hwz⟩
  ·
   simp [Value.cells] at hcs
   obtain ⟨rfl,rfl,rfl⟩:=hcs
   exact ⟨[],.inl ⟨rfl,rfl,rfl,rfl⟩⟩
  ·
   simp [Value.cells] at hcs
   obtain ⟨rfl,rfl,rfl⟩:=hcs
   exact ⟨zs,.inr ⟨_,rfl,hl,hm,by simpa using hz,hcell,hwz⟩⟩
 clear hA0 hval0
 refine (walk a0 a1 a2 a3 a4 len4 cap4 z4 a5 len5 cap5 z5 a6 len6 cap6 z6 a7 len7 cap7 z7 W w0 w1 w2 w3 w4 w5 w6 w7).mono fun e W' ⟨he,bel⟩=>?_
 subst he
 exact ⟨_,rfl,_,_,_,[],_,[],hW',trodAll_mk1 (shut_bool Tryz.underlying4 _),(trodAll_cons_mk (shut_int Tryz.underlying3 w0) (trodAll_cons_mk (shut_int Tryz.underlying3 w1) (trodAll_cons_mk (shut_int Tryz.underlying3 w2) (trodAll_cons_mk (shut_int Tryz.underlying3 w3) (trodAll_cons_mk (Below.trod laidOut (by kernel_rfl) (of_decide_eq_true (by kernel_rfl)) k4 bel lt4) (trodAll_cons_mk (Below.trod laidOut (by kernel_rfl) (of_decide_eq_true (by kernel_rfl)) k5 bel lt5) (trodAll_cons_mk (Below.trod laidOut (by kernel_rfl) (of_decide_eq_true (by kernel_rfl)) k6 bel lt6) (trodAll_cons_mk (Below.trod laidOut (by kernel_rfl) (of_decide_eq_true (by kernel_rfl)) k7 bel lt7) trodAll_mk0)))))))),rfl,bel.frame _,fun h=>by cases h⟩
theorem over:Rows.mendWholeRow.holds Tryz.pinned (OpenSpec.ofChange Rows.mendWholeSpec) :=
 OpenClaim.holds_of_wide 6 Tryz.f6 rfl rfl rfl rfl rfl rfl rfl ⟨rfl,rfl,rfl,rfl,rfl⟩ rfl rfl rfl rfl rfl (by kernel_rfl) Tryz.func6 (by kernel_rfl)
  (of_decide_eq_true (by kernel_rfl)) (by unfold Func.isWrapper; first | (rw [if_pos (by decide +kernel)]; kernel_rfl) | (rw [if_neg (by decide +kernel)]; exact ⟨rfl,rfl⟩))
  (fun os started H enc _=>lifted os started H enc)
theorem proved:Rows.MendWholeSaid:=over
#print axioms proved
end Go.Proofs.YtkipjmbplmdaaaaGreat.mendWhole
