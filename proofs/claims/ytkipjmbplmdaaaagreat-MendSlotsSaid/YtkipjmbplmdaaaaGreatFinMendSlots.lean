/- The statement MendSlots: for every input the call of stavelaw's MendSlots answers true, and its arguments read behind it as they read before. No condition. -/
/- Texts of one proof, joined: WMendSlots, LawMendSlots. -/
import Derived.Test.YtkipjmbplmdaaaaGreatMAE
import Derived.Test.YtkipjmbplmdaaaaGreatMAH
import Derived.Test.YtkipjmbplmdaaaaGreatMAB
import Derived.Test.YtkipjmbplmdaaaaGreatMW
import Derived.Test.YtkipjmbplmdaaaaGreatMT
import Derived.Test.YtkipjmbplmdaaaaGreatMA
import Derived.Test.YtkipjmbplmdaaaaGreatMP
import Derived.Test.YtkipjmbplmdaaaaGreatMB
import Derived.Deep.DeepCutAuto
import Derived.Deep.CutBlock
import Derived.Test.YtkipjmbplmdaaaaGreatRows
import Derived.WalkKit
import Derived.ProofKit
import Derived.OpenShut
import Derived.ShutString
import Derived.ChangeOld
import Derived.Below
set_option linter.unusedVariables false
set_option linter.unusedSimpArgs false
namespace Go.Proofs.YtkipjmbplmdaaaaGreat
set_option linter.unusedVariables false
open Go Go.RowKit
set_option maxRecDepth 100000 in
set_option maxHeartbeats 1000000 in
theorem mendSlots_c (n slots:Int) (la:Option Addr) (ll lcap:Nat) (lz:List Int) (at_:Int) (w:World) (hl0:IsRow .i64 w la ll lcap lz) :
  Calls Tryz.prog 5 #[.int .i64 n,.int .i64 slots,.slice la ll lcap,.int .i64 at_] w fun e w'=>e=.returned (.bool true)/\Ext w w':=by
 have hzc:=Zb7
 have HCS:=hid Cfg.A_size
 have HLO:=hid hl0.ints
 have HLW:=hid hl0.low
 clear hl0
 go_enter Tryz.func5,Tryz.ntmps5
 go_wp2_with fail
 refine (within_c n 2 6 _ (by omega) (by omega) (by omega)).mono ?_
 rintro e _ ⟨rfl,rfl⟩
 obtain ⟨a0,a1⟩:=within_bd n 2 6 (by omega)
 go_wp2_with fail
 refine (within_c slots 1 4 _ (by omega) (by omega) (by omega)).mono ?_
 rintro e _ ⟨rfl,rfl⟩
 obtain ⟨b0,b1⟩:=within_bd slots 1 4 (by omega)
 generalize within n 2 6=nv at *
 generalize within slots 1 4=sv at *
 obtain ⟨c,hc⟩:∃ c:Cfg,c=⟨7,1,nv,3,sv⟩:=⟨_,rfl⟩
 have HB:Hid (Tryz.prog.built 26 [(0,.int .i64 7),(1,.int .i64 1),(2,.int .i64 nv),(3,.int .i64 3),(4,.int .i64 sv)]=some (Cfg.A c)):=hid (by rw [hc]; exact built_cfg ⟨7,1,nv,3,sv⟩)
 have HGD:=hid (show c.Good from hc▸⟨(by show (1:Int)<=7; omega),(by show (7:Int)<=2147483647; omega),(by show nv<=8; omega),(by show (1:Int)<=1; omega),(by show (1:Int)<=nv; omega),(by show (1:Int)<=3; omega),(by show (3:Int)<=64; omega),(by show (1:Int)<=sv; omega),(by show sv<=4; omega)⟩)
 have HK:=hid (show c.k=1 from hc▸rfl)
 have HN6:=hid (show c.n<=6 from hc▸a1)
 have HK4:=hid (show c.k<=4 by rw [HK.out]; omega)
 have HN2:=hid (show 2<=c.n from hc▸a0)
 have HST:=hid (show c.stripes=3 from hc▸rfl)
 have HSL:=hid (show 1<=c.slots/\c.slots<=4 from hc▸⟨b0,b1⟩)
 clear hc a0 a1 b0 b1
 obtain ⟨W1,hW1⟩:∃ W,w.alloc (.cells (Cfg.A c) 26)=W:=⟨_,rfl⟩
 have X1:=hid (show Ext w W1 from hW1▸(Ext.refl w).alloc _)
 have HC:=hid (show W1.heap[w.heap.size]?=some (.cells (Cfg.A c) 26 (0,0)) from hW1▸heap_alloc_new _ _)
 have hbs:(w.alloc (.cells (Cfg.A Cfg.zero) 26)).heap[w.heap.size]?=some (.cells (Cfg.A Cfg.zero) 26 (0,0)):=Zad
 have HW1:=hid hW1
 clear hW1
 obtain ⟨m,hm,m1,m128⟩:=sectors_nat c HGD.out
 obtain ⟨nn,hn⟩:∃ nn:Nat,c.n=nn:=⟨c.n.toNat,by have:=HN2.out; omega⟩
 obtain ⟨ss,hss⟩:∃ ss:Nat,c.slots=ss:=⟨c.slots.toNat,by have:=HSL.out; omega⟩
 have HNT:=hid (show c.n.toNat=nn by omega)
 have HKT:=hid (show c.k.toNat=1 by rw [HK.out]; rfl)
 have HSLT:=hid (show c.slots.toNat=ss by omega)
 have HST3:=hid (show c.stripes.toNat=3 by rw [HST.out]; rfl)
 have n2:2<=nn:=by have:=HN2.out; omega
 have n6:nn<=6:=by have:=HN6.out; omega
 have ss1:1<=ss:=by have:=HSL.out; omega
 have ss4:ss<=4:=by have:=HSL.out; omega
 have HM:=hid hm; have HN:=hid hn; have HSS:=hid hss
 have HGR:=hid (show c.groups=4+(ss:Int) by unfold Cfg.groups; rw [HST.out,HSS.out]; omega)
 obtain ⟨R1,R2,e1,e2,h2,v2⟩:=VH.start HGD.out HK4.out HN6.out (m:=m) (by rw [HM.out]; exact Int.le_refl _)
 rw [HNT.out] at e1
 have HV2:=hid h2
 have HE1:=hid e1; have HE2:=hid e2
 have HVI2:=hid (VI.new HGD.out)
 clear hm hn hss e1 e2 h2 v2
 go_wp2_with (first
  | (guard_target=wpList _ _ _ (⟨some _,Op.build _ _,_,_,_,none⟩::_) _ _; refine Zau rfl 26 _ rfl (Cfg.A c) ?_ ?_; (simp only [List.map_toArray,List.map_cons,List.map_nil,Act.eval]; simp only [Array.getD_eq_getD_getElem?,List.getElem?_toArray,List.getElem?_cons_succ,List.getElem?_cons_zero,Option.getD_some]; exact HB.out))
  | (guard_target=wpList _ _ _ (⟨none,Op.store _ _ _,_,_,_,none⟩::_) _ _; have hb0:=hbs; clear hbs; refine Zaa rfl 26 _ _ rfl w.heap.size rfl (Cfg.A c) _ rfl 26 ?_ hb0 ?_ ?_ ?_; (rw [HCS.out]; exact aggCfg); (rw [HCS.out,HCS.out]); exact Cfg.A_one _; rw [Zai,HW1.out])
  | (guard_target=wpList _ _ _ (⟨some _,Op.load _ _,_,_,_,none⟩::_) _ _; refine Zac rfl 26 _ rfl ⟨w.heap.size,0,none⟩ rfl (Cfg.A c) (Zap c) (Zae HC.out) ?_))
 obtain ⟨gc,hgc⟩:∃ gc,w.heap.size=gc:=⟨_,rfl⟩
 have HLT:=hid (lt_of_block HC.out)
 rw [hgc] at HC HLT
 rw [hgc]
 have GLO:=hid (show w.heap.size<=gc by omega)
 clear hgc
 refine (mopened_c c HGD.out nn m HN.out HM.out m1 m128 HE1.out HE2.out W1).mono ?_
 rintro e w2 ⟨r,g,T,ho⟩
 obtain rfl:=ho.ret
 have HX2:=hid (show VX w w2 T r R2 gc c g ⟨c,1,false⟩ from ⟨⟨ho.ve.rack,Ext.trans X1.out ho.ve.ext,fun b hb=>ho.ve.low b (Nat.lt_of_lt_of_le hb X1.out.size)⟩,ho.ve.ext.at HC.out,ho.ve.low gc HLT.out,ho.vol,ho.gT,Nat.le_trans X1.out.size ho.new,fun q=>by have:=ho.new; have:=HLT.out; omega⟩)
 clear ho HE1 HE2 HC X1 HLT HW1 HB
 obtain ⟨CW,hcw,hcs,hcc⟩:=make_was 3 (by omega)
 have HCW:=hid (WasAt.new (w:=w2) CW hcs hcc)
 have hmw:=hcw w2
 rw [show ((3:Nat):Int)=3 from rfl] at hmw
 have HSG:=hid (show g < w2.heap.size from lt_of_block HX2.out.vol)
 have HSC:=hid (show gc < w2.heap.size from lt_of_block HX2.out.cfg)
 have HSW:=hid (show w.heap.size<=w2.heap.size from HX2.out.ext.size)
 clear hcw hcs hcc
 go_upto_block 0 with fail
 clear hmw
 generalize hW3:w2.alloc _=W3
 obtain ⟨g0,hg0⟩:∃ b,w2.heap.size=b:=⟨_,rfl⟩
 rw [hg0]
 have HCW3:=hid (show WasAt W3 g0 3 (fun _=>[]) (fun _=>none) (fun _=>0) from hW3▸hg0▸HCW.out)
 have x3:Ext w2 W3:=hW3▸(Ext.refl w2).alloc _
 obtain ⟨S3,hS3⟩:∃ S,wideS T w2 W3=S:=⟨_,rfl⟩
 have HX3:=hid (show VX w W3 S3 r R2 gc c g ⟨c,1,false⟩ from hS3▸HX2.wide x3)
 have HG0:=hid (show w.heap.size<=g0/\g0≠gc from ⟨by rw [<- hg0]; exact HSW.out,by have:=HSC.out; omega⟩)
 have HGG:=hid (show g0≠g by have:=HSG.out; omega)
 have HOW3:=hid (show WasOwn (fun b=>S3 b/\b≠g) g0 3 (fun _=>[]) (fun _=>none) from ⟨⟨hS3▸.inr ⟨by omega,by rw [<- hg0,<- hW3]; simp⟩,HGG.out⟩,fun s hs hn=>absurd rfl hn⟩)
 clear hW3 hg0 x3 hS3 HX2 HSG HSC HCW HSW
 obtain ⟨CB,hmb,hcb⟩:=make_blocks 1 (by omega)
 have HMB:=hid hmb; have HCB:=hid hcb
 clear hmb hcb
 go_cut [44] (fun t wq=>(∃ i:Int,t=.int .i64 i)/\∃ S F a cp,VX w wq S r R2 gc c g ⟨c,1,false⟩/\WasAt wq g0 3 F a cp/\WasOwn (fun b=>S b/\b≠g) g0 3 F a/\∀ s,s < 3->F s=zblks 1)
 case first =>
  go_wp2_with fail
  go_loopw [44] (fun t wq=>∃ i:Nat,t=.int .i64 i/\i<=3/\∃ S F a cp,VX w wq S r R2 gc c g ⟨c,1,false⟩/\WasAt wq g0 3 F a cp/\WasOwn (fun b=>S b/\b≠g) g0 3 F a/\∀ s,s < i->F s=zblks 1) (fun t _=>3 - (intOf t).toNat)
  case atStart=>exact ⟨0,rfl,by omega,_,_,_,_,HX3.out,HCW3.out,HOW3.out,fun s hs=>by omega⟩
  case round =>
   clear HX3 HCW3 HOW3
   obtain ⟨i,rfl,hi,S,F,a,cp,hx,hwa,hwo,hfz⟩:=hrel
   have HX:=hid hx; have HWA:=hid hwa; have HWO:=hid hwo; have HFZ:=hid hfz
   clear hx hwa hwo hfz
   by_cases hlt:i < 3
   ·
    have i1:(i:Int) < 3:=by omega
    have i0:(0:Int)<=(i:Int):=by omega
    have hmb:=HMB.out wr
    rw [show ((1:Nat):Int)=1 from rfl] at hmb
    have hcx:=(HWA.out.ext ((Ext.refl wr).alloc (.cells CB 24))).cell hlt
    have hfx:=(HWA.out.ext ((Ext.refl wr).alloc (.cells CB 24))).free i
    go_wp2_with fail
    generalize hW4:wr.alloc (.cells CB 24)=W4
    generalize hW5:W4.setCell _ _=W5
    have x4:Ext wr W4:=hW4▸(Ext.refl wr).alloc _
    have hbk:BlksAt W4 (some ⟨wr.heap.size,0,none⟩) (zblks 1):=zblks_at (hW4▸heap_alloc_new _ _) HCB.out
    have hzl:(zblks 1).length=1:=by simp [zblks]
    obtain ⟨S4,hS4⟩:∃ S',wideS S wr W4=S':=⟨_,rfl⟩
    have hx4:VX w W4 S4 r R2 gc c g ⟨c,1,false⟩:=hS4▸HX.out.wide x4
    have hw4:WasOwn (fun b=>S4 b/\b≠g) g0 3 F a:=HWO.out.mono fun b hb=>⟨hS4▸.inl hb.1,hb.2⟩
    have hlt0:g0 < wr.heap.size:=by
     have:=HX.out.ve.rack.there g0 HWO.out.own.1
     exact this
    have hset:=(HWA.out.ext x4).set hw4 (s:=i) (l:=zblks 1) (a':=some ⟨wr.heap.size,0,none⟩) (c':=1) hbk (fun b e=>by cases e; exact ⟨⟨hS4▸.inr ⟨Nat.le_refl _,by rw [<- hW4]; simp⟩,by have:=lt_of_block HX.out.vol; omega⟩,by omega⟩)
    rw [hzl] at hset
    have hk5:Only (fun b=>b=g0) W4 W5:=hW5▸Zbl _ _ _ _
    have HX5:=hid (show VX w W5 S4 r R2 gc c g ⟨c,1,false⟩ from hx4.poke hk5 fun b hb=>by
     have hb:b=g0:=hb
     subst hb; exact ⟨hw4.own.1,HG0.out.1,HG0.out.2,HGG.out⟩)
    have HS5:=hid (hW5▸hset)
    have HFZ':=hid (show ∀ s,s < i+1->(fun t=>if t=i then zblks 1 else F t) s=zblks 1 from fun s hs=>by
     by_cases e:s=i
     ·
      simp only [e,if_true]
     ·
      simp only [e,if_false]; exact HFZ.out s (by omega))
    clear hW4 hW5 x4 hbk hzl hS4 hx4 hw4 hset hk5 hmb hcx hfx HX HWA HWO
    go_wp2_with fail
    go_roundw
    case rel=>exact ⟨i+1,by go_num,by omega,S4,_,_,_,HX5.out,HS5.out.1,HS5.out.2,HFZ'.out⟩
    case measure=>simp [intOf]; omega
   ·
    have i1:¬(i:Int) < 3:=by omega
    go_wp2_with fail
    go_meet
    case rel=>exact ⟨⟨_,rfl⟩,S,F,a,cp,HX.out,HWA.out,HWO.out,fun s hs=>HFZ.out s (by omega)⟩
 case rest =>
  clear HX3 HCW3 HOW3
  obtain ⟨⟨i0,rfl⟩,S,F,a,cp,hx,hwa,hwo,hfz⟩:=hcut
  have HX:=hid hx; have HWA:=hid hwa; have HWO:=hid hwo
  have HF0:=hid (show ∀ s,s < 3->∃ gen,VH.fNew c s=some (gen,F s) from fun s hs=>⟨1,by unfold VH.fNew; rw [if_pos (by rw [HST3.out]; exact hs),hfz s hs,HKT.out]⟩)
  have HF8:=hid (show ∀ s,s < 3->(∀ b∈F s,b.length=108)/\(F s).length=1 from fun s hs=>by rw [hfz s hs]; exact ⟨zblks_108 1,by simp [zblks]⟩)
  clear hx hwa hwo hfz
  go_upto_block 2 with fail
  go_cut [14] (fun t wq=>(∃ i:Int,t=.int .i64 i)/\∃ R S j f cur F a cp,VX w wq S r R gc c g ⟨c,cur,false⟩/\VH R c m true j f/\VI c cur j f/\WasAt wq g0 3 F a cp/\WasOwn (fun b=>S b/\b≠g) g0 3 F a/\(∀ s,s < 3->∃ gen,f s=some (gen,F s))/\(∀ s,s < 3->(∀ b∈F s,b.length=108)/\(F s).length=1)/\cur<=9)
  case first =>
   go_wp2_with fail
   go_loopw [14] (fun t wr=>∃ i:Nat,t=.int .i64 i/\i<=ll/\i<=8/\∃ R S j f F a cp,VX w wr S r R gc c g ⟨c,1+(i:Int),false⟩/\VH R c m true j f/\VI c (1+(i:Int)) j f/\WasAt wr g0 3 F a cp/\WasOwn (fun b=>S b/\b≠g) g0 3 F a/\(∀ s,s < 3->∃ gen,f s=some (gen,F s))/\∀ s,s < 3->(∀ b∈F s,b.length=108)/\(F s).length=1) (fun t _=>8 - (intOf t).toNat)
   case atStart=>exact ⟨0,rfl,by omega,by omega,R2,S,_,_,F,a,cp,HX.out,HV2.out,HVI2.out,HWA.out,HWO.out,HF0.out,HF8.out⟩
   case round =>
    clear HX HV2 HVI2 HWA HWO HF0 HF8
    obtain ⟨i,rfl,hi,hi8,R,S,j,f,F,a,cp,hx,hv,hvi,hwa,hwo,hff,hf8⟩:=hrel
    have HX:=hid hx; have HV:=hid hv; have HVI:=hid hvi; have HWA:=hid hwa; have HWO:=hid hwo; have HFF:=hid hff; have HF8:=hid hf8
    clear hx hv hvi hwa hwo hff hf8
    by_cases hio:i < ll
    ·
     obtain ⟨ib,ioff,vi,rfl,hci⟩:=HLO.out i hio
     have i0:(0:Int)<=(i:Int):=by omega
     have i1:(i:Int) < (ll:Int):=by omega
     by_cases hit:i < 8
     ·
      have i2:(i:Int) < 8:=by omega
      have ci:wr.cell? ⟨ib,ioff+i,none⟩=some (.int .i64 vi):=Ext.cell HX.out.ext hci
      go_wp2_with fail
      refine (within_c vi 0 2 _ (by omega) (by omega) (by omega)).mono ?_
      rintro e _ ⟨rfl,rfl⟩
      obtain ⟨q0,q1⟩:=within_bd vi 0 2 (by omega)
      obtain ⟨sx,hsx⟩:=Int.eq_ofNat_of_zero_le q0
      rw [hsx]
      have hs3:sx < 3:=by omega
      have x0:(0:Int)<=(sx:Int):=by omega
      have x1:(sx:Int) < 3:=by omega
      clear hsx q0 q1
      obtain ⟨la,hla⟩:∃ l,blocksOf 1 vi=l:=⟨_,rfl⟩
      have La8:=hid (hla▸blocksOf_108 1 vi)
      have LaB:=hid (hla▸blocksOf_bytes 1 vi)
      have LaN:=hid (show la.length<=8 by rw [<- hla,Zcf]; omega)
      have La0:=hid (show la≠[] from hla▸(by intro q; have:=congrArg List.length q; rw [Zcf] at this; simp at this))
      have LaF:=hid (show Cd.Blocks c.k.toNat 108 la by rw [HKT.out,<- hla]; exact blocksOf_Blocks 1 vi)
      have HLa:=hid hla
      clear hla
      go_wp2_with fail
      refine (kblocks_c 1 (by omega) vi wr).mono ?_
      rintro e w3 ⟨v,rfl,hown,x3⟩
      rw [HLa.out] at hown
      obtain ⟨a3,c3,rfl,hbk,hab⟩:=kblocks_at La8.out hown
      obtain ⟨S3',hS⟩:∃ S',wideS S wr w3=S':=⟨_,rfl⟩
      have HX4:=hid (hS▸HX.out.wide x3)
      have HSS':=hid (show ∀ b,S b->S3' b from fun b hb=>hS▸.inl hb)
      have hg0l:g0 < wr.heap.size:=HX.out.ve.rack.there g0 HWO.out.own.1
      have HP3:=hid (show ∀ b,a3=some ⟨b,0,none⟩->(S3' b/\b≠g)/\b≠g0 from fun b q=>⟨⟨hS▸HX.out.ve.blk x3 hbk La0.out hab b q,by have:=hab b q; have:=lt_of_block HX.out.vol; omega⟩,by have:=hab b q; omega⟩)
      have HWA4:=hid (HWA.out.ext x3)
      have HWO4:=hid (HWO.out.mono fun b hb=>(show S3' b/\b≠g from ⟨HSS'.out b hb.1,hb.2⟩))
      have hcx:=HWA4.out.cell hs3
      have hfx:=HWA4.out.free sx
      have hset:=HWA4.out.set HWO4.out (s:=sx) (l:=la) (a':=a3) (c':=c3) hbk HP3.out
      have HSET:=hid hset
      have HBK:=hid hbk
      clear hown x3 hbk hab hS HX HWA HWO hg0l hset
      go_upto_region 16 with (fail)
      generalize hW5:w3.setCell _ _=W5
      rw [hW5] at HSET
      have hk5:Only (fun b=>b=g0) w3 W5:=hW5▸Zbl _ _ _ _
      have HX5:=hid (show VX w W5 S3' r R gc c g ⟨c,1+(i:Int),false⟩ from HX4.out.poke hk5 fun b hb=>by
       have hb:b=g0:=hb
       subst hb; exact ⟨HWO4.out.own.1,HG0.out.1,HG0.out.2,HGG.out⟩)
      have HB5:=hid (HBK.out.only hk5 fun b hb q=>(HP3.out b hb).2 q)
      have ci:W5.cell? ⟨ib,ioff+i,none⟩=some (.int .i64 vi):=Ext.cell HX5.out.ext hci
      clear hW5 hk5 HX4 HWA4 HWO4 hcx hfx HBK
      have hcs:W5.cell? ⟨g0,sx,none⟩=some (.slice a3 la.length c3):=by
       have:=HSET.out.1.cell hs3
       simpa using this
      obtain ⟨sl,R',hcm,hv,hvi⟩:=HV.out.commit_on HVI.out HM.out.symm HK4.out HN6.out (by omega) (s:=sx) (by rw [HST3.out]; exact hs3) LaF.out
      have HCM:=hid hcm; have HV':=hid hv; have HVI':=hid hvi
      have HFN:=hid (show ∀ s,s < 3->∃ gen,updS f sx (1+(i:Int)+1,la) s=some (gen,(fun t=>if t=sx then la else F t) s) from fun s hs=>by
       by_cases e:s=sx
       ·
        exact ⟨1+(i:Int)+1,by unfold updS; simp only [e,if_true]⟩
       ·
        obtain ⟨gen,h⟩:=HFF.out s hs
        exact ⟨gen,by unfold updS; simp only [e,if_false]; exact h⟩)
      have HF9:=hid (show ∀ s,s < 3->(∀ b∈(fun t=>if t=sx then la else F t) s,b.length=108)/\((fun t=>if t=sx then la else F t) s).length=1 from fun s hs=>by
       by_cases e:s=sx
       ·
        simp only [e,if_true]; exact ⟨La8.out,by rw [<- HLa.out,Zcf]⟩
       ·
        simp only [e,if_false]; exact HF8.out s hs)
      clear hcm hv hvi HV HVI HFF HF8
      generalize updS f sx (1+(i:Int)+1,la)=f2 at *
      generalize upd j sl ⟨1+(i:Int)+1,(sx:Int),la⟩=j2 at *
      generalize (fun t=>if t=sx then la else F t)=F2 at *
      generalize (fun t=>if t=sx then a3 else a t)=a2 at *
      generalize (fun t=>if t=sx then c3 else cp t)=c2 at *
      go_wp2_with fail
      refine (vcommit_c HX5.out.rack HX5.out.vol HX5.out.gS (show (0:Int)<=1+(i:Int) by omega) sx la La8.out LaB.out a3 c3 HB5.out (fun b q=>(HP3.out b q).1)).mono ?_
      rintro e w8 h8
      rw [HCM.out] at h8
      obtain rfl:=h8.ret
      have HX8:=hid (show VX w w8 S3' r R' gc c g ⟨c,1+(i:Int)+1,false⟩ from HX5.out.commit h8)
      have HWA8:=hid (HSET.out.1.only HSET.out.2 h8.only fun b hb q=>q.elim (fun z=>z hb.1) hb.2)
      have HWO8:=hid HSET.out.2
      simp only [oErr]
      clear h8 HX5 HB5 HSET hcs ci HCM HP3
      go_wp2
      go_roundw
      case rel=>exact ⟨i+1,by go_num,by omega,by omega,R',S3',j2,f2,F2,a2,c2,by rw [show 1+((i+1:Nat):Int)=1+(i:Int)+1 by omega]; exact HX8.out,HV'.out,by rw [show 1+((i+1:Nat):Int)=1+(i:Int)+1 by omega]; exact HVI'.out,HWA8.out,HWO8.out,HFN.out,HF9.out⟩
      case measure=>simp [intOf]; omega
     ·
      have hi8':i=8:=by omega
      have i2:¬(i:Int) < 8:=by omega
      go_wp2_with fail
      go_meet
      case rel=>exact ⟨⟨_,rfl⟩,R,S,j,f,_,F,a,cp,HX.out,HV.out,HVI.out,HWA.out,HWO.out,HFF.out,HF8.out,by omega⟩
    ·
     have i1:¬(i:Int) < (ll:Int):=by omega
     go_wp2_with fail
     go_meet
     case rel=>exact ⟨⟨_,rfl⟩,R,S,j,f,_,F,a,cp,HX.out,HV.out,HVI.out,HWA.out,HWO.out,HFF.out,HF8.out,by omega⟩
  case rest =>
   clear HX HV2 HVI2 HWA HWO HF0 HF8
   obtain ⟨⟨i1,rfl⟩,R,S,j,f,cur,F,a,cp,hx,hv,hvi,hwa,hwo,hff,hf8,hcu⟩:=hcut
   have HX:=hid hx; have HV:=hid hv; have HVI:=hid hvi; have HWA:=hid hwa; have HWO:=hid hwo; have HFF:=hid hff; have HF8:=hid hf8; have HCU:=hid hcu
   have c2:wc.cell? ⟨gc,2,none⟩=some (.int .i64 nn):=HX.out.c2.trans (by rw [HN.out])
   have hw1:=mw64 (z:=(nn:Int) - 1) (by omega) (by omega)
   clear hx hv hvi hwa hwo hff hf8 hcu
   go_wp2_with fail
   refine (within_c at_ 0 ((nn:Int) - 1) _ (by omega) (by omega) (by omega)).mono ?_
   rintro e _ ⟨rfl,rfl⟩
   obtain ⟨q0,q1⟩:=within_bd at_ 0 ((nn:Int) - 1) (by omega)
   obtain ⟨dd,hdd⟩:=Int.eq_ofNat_of_zero_le q0
   rw [hdd]
   have hdn:dd < nn:=by omega
   clear hdd q0 q1 c2 hw1
   have HMA:=hid (HV.out.mall HVI.out (d0:=dd) (by rw [HNT.out]; exact hdn) (by rw [HK.out,HN.out]; omega))
   go_wp2_with fail
   refine (at_replace HX.out.rack dd).mono ?_
   rintro e w5 ⟨rfl,h5,k5⟩
   have HX5:=hid (HX.out.keep h5 k5)
   have HWA5:=hid (HWA.out.only HWO.out k5 fun b hb q=>q hb.1)
   clear h5 k5 HX HWA HV
   generalize R.replace (dd:Int)=P0 at *
   go_wp2_with fail
   refine (mnew_c g w5).mono ?_
   rintro e w6 ⟨p,rfl,hp,hm,x6⟩
   obtain ⟨S6,hS⟩:∃ S',wideS S w5 w6=S':=⟨_,rfl⟩
   have HX6:=hid (hS▸MX.start HX5.out x6 hm hp)
   have HWA6:=hid (HWA5.out.ext x6)
   have hlow:∀ b,S b->b≠p:=fun b hb=>by have:=HX5.out.ve.rack.there b hb; omega
   have HWO6:=hid (HWO.out.mono fun b hb=>(show S6 b/\b≠g/\b≠p from ⟨hS▸.inl hb.1,hb.2,hlow b hb.1⟩))
   clear hp hm x6 hS HX5 HWA5 HWO hlow
   obtain ⟨GN,hGN⟩:∃ GN,c.groups=GN:=⟨_,rfl⟩
   have HGN:=hid hGN
   have HG4:=hid (show GN=4+(ss:Int) by rw [<- hGN]; exact HGR.out)
   clear hGN
   go_wp2
   go_loopw [18,19] (fun sv t wr=>∃ i:Nat,t=.int .i64 i/\sv=.int .i64 i/\i<=4+ss/\∃ R,MAll R c m j f dd i/\MX w wr S6 r R gc c g ⟨c,cur,false⟩ p ((i:Int) % GN)/\WasAt wr g0 3 F a cp) (fun _ t _=>10 - (intOf t).toNat)
   case atStart=>exact ⟨0,rfl,rfl,by omega,P0,HMA.out,(by
    have e:((0:Nat):Int) % GN=0:=by simp
    rw [e]; exact HX6.out),HWA6.out⟩
   case round =>
    clear HX6 HMA HWA6
    obtain ⟨i,rfl,rfl,hi,R,hma,hx,hwa⟩:=hrel
    have HX:=hid hx; have HMA:=hid hma; have HWA:=hid hwa
    clear hx hma hwa
    have HCX:=hid HX.out.vx.cfg
    go_wp2_with (guard_target=wpList _ _ _ (⟨some _,Op.load _ _,_,_,_,none⟩::_) _ _; refine Zac rfl 26 _ rfl ⟨gc,0,none⟩ rfl (Cfg.A c) (Zap c) (Zae HCX.out) ?_)
    refine (mgroups_c c HGD.out _).mono ?_
    rintro e w10 ⟨rfl,x10⟩
    rw [HGN.out,HG4.out]
    have HX10:=hid (HX.out.more x10)
    have HWA10:=hid (HWA.out.ext x10)
    clear x10 HX HCX HWA
    by_cases hlt:i < 4+ss
    ·
     have i0:(0:Int)<=(i:Int):=by omega
     have i1:(i:Int) < 4+(ss:Int):=by omega
     have i8:(i:Int) < 8:=by omega
     have eim:(i:Int) % GN=(i:Int):=Int.emod_eq_of_lt (by omega) (by rw [HG4.out]; exact i1)
     have HXG:=hid (show MX w w10 S6 r R gc c g ⟨c,cur,false⟩ p (i:Int) from eim▸HX10.out)
     obtain ⟨R',htk,hma⟩:=HMA.out.tick HVI.out HK4.out HN6.out (by rw [HNT.out]; exact hdn) (g:=i) (by rw [HGN.out,HG4.out]; exact i1)
     rw [HGN.out,HKT.out,show (if 1<=i/\i<=c.slots.toNat then 1 else 1)=1 by split<;>rfl] at htk
     have HTK:=hid htk; have HMA':=hid hma
     have hac:=HXG.out.callTick HGD.out (by omega) (by show (i:Int) < c.groups; rw [HGN.out,HG4.out]; exact i1)
     have HAC:=hid hac
     clear htk hma hac eim HX10
     go_wp2_with fail
     refine HAC.out.mono ?_
     rintro e w11 h11
     rw [HTK.out] at h11
     obtain rfl:=h11.ret
     have HX11:=hid (show MX w w11 S6 r R' gc c g ⟨c,cur,false⟩ p (((i:Int)+1) % GN) from HXG.out.tick h11)
     have HWA11:=hid (HWA10.out.only HWO6.out h11.only fun b hb q=>by
      rcases q with q | q | q
      ·
       exact q hb.1
      ·
       exact hb.2.1 q
      ·
       exact hb.2.2 q)
     simp only [oErr]
     clear h11 HXG HAC HTK HWA10
     go_wp2
     go_roundw
     case rel=>exact ⟨i+1,by go_num,by go_num,by omega,R',HMA'.out,HX11.out,HWA11.out⟩
     case measure=>simp [intOf]; omega
    ·
     obtain rfl:i=4+ss:=by omega
     have HVH:=hid (MAll.vh (d0:=dd) (by rw [HSLT.out,HST3.out,show 1+ss+3=4+ss by omega]; exact HMA.out) HM.out.symm)
     have HTN:=hid (Tnt.start (HVH.out.gt HVI.out).live)
     obtain ⟨iz,hiz⟩:∃ iz:Int,((4+ss:Nat):Int)=iz:=⟨_,rfl⟩
     have HIZ:=hid (show iz=1+(ss:Int)+3 by omega)
     have hlt2:¬iz < 4+(ss:Int):=by omega
     rw [hiz] at HX10 ⊢
     have HDL:=hid (show dd∈List.range c.n.toNat from List.mem_range.2 (by rw [HNT.out]; exact hdn))
     clear hlt hiz HMA
     generalize List.range c.n.toNat=L0 at *
     go_wp2
     clear hlt2
     go_loopw [22] (fun t wq=>∃ q:Nat,t=.int .i64 q/\q<=nn/\∃ Rq L,Tnt R Rq c.n.toNat m L/\dd∈L/\MX w wq S6 r Rq gc c g ⟨c,cur,false⟩ p (iz % GN)/\WasAt wq g0 3 F a cp) (fun t _=>nn - (intOf t).toNat)
     case atStart=>exact ⟨0,rfl,by omega,R,L0,HTN.out,HDL.out,HX10.out,HWA10.out⟩
     case round =>
      clear HX10 HTN HDL HWA10
      obtain ⟨q,rfl,hq,Rq,L,htn,hdl,hx,hwa⟩:=hrel
      have HX:=hid hx; have HTN:=hid htn; have HDL:=hid hdl; have HWA:=hid hwa
      have c2:wr.cell? ⟨gc,2,none⟩=some (.int .i64 nn):=HX.out.vx.c2.trans (by rw [HN.out])
      clear hx htn hdl hwa
      by_cases hq4:q < nn
      ·
       have q0:(0:Int)<=(q:Int):=by omega
       have q1:(q:Int) < (nn:Int):=by omega
       by_cases hqd:q=dd
       ·
        obtain rfl:dd=q:=hqd.symm
        go_wp2
        go_roundw
        case rel=>exact ⟨dd+1,by go_num,by omega,Rq,L,HTN.out,HDL.out,HX.out,HWA.out⟩
        case measure=>simp [intOf]; omega
       ·
        have E1:((q:Int) != (dd:Int))=true:=by rw [bne,beq_eq_false_iff_ne.2 (by omega)]; rfl
        have HT2:=hid (HTN.out.die_any (d:=q) (by rw [HNT.out]; exact hq4))
        have HD2:=hid (show dd∈L.erase q from (List.mem_erase_of_ne (fun e=>hqd e.symm)).2 HDL.out)
        clear HTN HDL
        go_wp2_with fail
        refine (at_die HX.out.rack q).mono ?_
        rintro e w12 ⟨rfl,h12,k12⟩
        have HX12:=hid (HX.out.keep h12 k12)
        have HWA12:=hid (HWA.out.only HWO6.out k12 fun b hb z=>z hb.1)
        clear h12 k12 HX HWA c2 E1
        go_wp2
        go_roundw
        case rel=>exact ⟨q+1,by go_num,by omega,_,_,HT2.out,HD2.out,HX12.out,HWA12.out⟩
        case measure=>simp [intOf]; omega
      ·
       obtain rfl:q=nn:=by omega
       obtain ⟨R5,cur5,hop,hrd⟩:∃ R' cur',Rq.vopen=(none,R',c,cur')/\∀ t,t < c.stripes.toNat->∃ y,f t=some y/\SFit c t y.1 y.2/\R'.sget c (t:Int)=(y.2,y.1,none):=by
        rcases HVH.out.reopen HVI.out HM.out.symm HK4.out HN6.out (by have:=HCU.out; omega) HTN.out with ⟨_,_,_,_,hno⟩ | h
        ·
         exfalso
         refine hno ?_
         rw [HKT.out]
         have:=List.length_pos_of_mem HDL.out
         omega
        ·
         exact h
       have HOP:=hid hop; have HRD:=hid hrd
       clear hop hrd HVH HTN HDL
       go_wp2_with fail
       refine (vopen_c HX.out.rack).mono ?_
       rintro e w13 h13
       rw [HOP.out] at h13
       rcases h13 with ⟨_,z,_⟩ | ⟨_,g9,T9,hok⟩
       ·
        cases z
       obtain rfl:=hok.ret
       have HX13:=hid (show VX w w13 T9 r R5 gc c g9 ⟨c,cur5,false⟩ from HX.out.vx.opened hok)
       have HWA13:=hid (HWA.out.only HWO6.out hok.keep fun b hb z=>z hb.1)
       have c4:w13.cell? ⟨gc,4,none⟩=some (.int .i64 ss):=(Zah HX13.out.cfg).trans ((Cfg.A4 c).trans (by rw [HSS.out]))
       have c3:w13.cell? ⟨gc,3,none⟩=some (.int .i64 3):=(Zah HX13.out.cfg).trans ((Cfg.A3 c).trans (by rw [HST.out]))
       have hw1:=mw64 (z:=1+(ss:Int)) (by omega) (by omega)
       have hw2:=mi64w (z:=1+(ss:Int)) (by omega) (by omega)
       have hw3:=mw64 (z:=1+(ss:Int)+3) (by omega) (by omega)
       have hw4:=mi64w (z:=1+(ss:Int)+3) (by omega) (by omega)
       obtain rfl:iz=1+(ss:Int)+3:=HIZ.out
       clear hok HX HWA c2
       go_wp2_with fail
       clear c3 c4 hw1 hw2 hw3 hw4
       go_loopw [146] (fun t wq=>∃ s:Nat,t=.int .i64 s/\s<=3/\VX w wq T9 r R5 gc c g9 ⟨c,cur5,false⟩/\WasAt wq g0 3 F a cp) (fun t _=>3 - (intOf t).toNat)
       case atStart=>exact ⟨0,rfl,by omega,HX13.out,HWA13.out⟩
       case round =>
        clear HX13 HWA13
        obtain ⟨s,rfl,hs,hx,hwa⟩:=hrel
        have HX:=hid hx; have HWA:=hid hwa
        clear hx hwa
        by_cases hs3:s < 3
        ·
         have s1:(s:Int) < 3:=by omega
         have s0:(0:Int)<=(s:Int):=by omega
         obtain ⟨ls,hls⟩:∃ ls,F s=ls:=⟨_,rfl⟩
         have L8:=hid (show ∀ b∈ls,b.length=108 from hls▸(HF8.out s hs3).1)
         have LN:=hid (show ls.length<=8 from hls▸(by have:=(HF8.out s hs3).2; omega))
         have hrv:Vol.read ⟨c,cur5,false⟩ R5 (s:Int)=(ls,(Vol.read ⟨c,cur5,false⟩ R5 (s:Int)).2.1,none):=by
          obtain ⟨y,h1,_,h3⟩:=HRD.out s (by rw [HST3.out]; exact hs3)
          obtain ⟨gen,h4⟩:=HFF.out s hs3
          rw [h1] at h4
          have h5:y=(gen,ls):=by rw [<- hls]; exact Option.some.inj h4
          rw [h5] at h3
          rw [Vol.read_of h3 cur5]
         generalize (Vol.read ⟨c,cur5,false⟩ R5 (s:Int)).2.1=gn at hrv
         have HRV:=hid hrv; have HLS:=hid hls
         clear hrv hls
         go_wp2_with fail
         refine (vread_c HX.out.rack HX.out.vol s).mono ?_
         rintro e w14 ⟨v,rfl,hown,x14⟩
         rw [HRV.out] at hown ⊢
         simp only at hown ⊢
         obtain ⟨a14,c14,rfl,hbk,hab⟩:=kblocks_at L8.out hown
         have HX14:=hid (HX.out.more x14)
         have HWA14:=hid (HWA.out.ext x14)
         have HB14:=hid hbk
         have hcx:=HWA14.out.cell hs3
         have HBS:=hid (HWA14.out.bks s hs3)
         rw [HLS.out] at hcx HBS
         simp only [oErr]
         clear hown x14 hbk hab HX HWA
         go_wp2_with fail
         refine (sameblk2_c ls ls L8.out L8.out rfl LN.out a14 (a s) c14 (cp s) _ HB14.out HBS.out).mono ?_
         rintro e w15 ⟨rfl,x15⟩
         rw [decide_eq_true rfl]
         have HX15:=hid (HX14.out.more x15)
         have HWA15:=hid (HWA14.out.ext x15)
         clear x15 HX14 HWA14 HB14 HBS hcx
         go_wp2
         go_roundw
         case rel=>exact ⟨s+1,by go_num,by omega,HX15.out,HWA15.out⟩
         case measure=>simp [intOf]; omega
        ·
         obtain rfl:s=3:=by omega
         go_wp2_with fail
         refine (mendRuns_c wr).mono ?_
         rintro e w16 ⟨rfl,x16⟩
         have HX16:=hid (Ext.trans HX.out.ext x16)
         clear x16
         go_wp2
         go_ret
         exact ⟨rfl,HX16.out⟩
end Go.Proofs.YtkipjmbplmdaaaaGreat
namespace Go.Proofs.YtkipjmbplmdaaaaGreat.mendSlots
open Go.ChangeShapes Go.WideShapes Go.ChangeAt Go.RowKit
open Go.ChangeMaps (open_string shut_string)
set_option linter.unusedVariables false
theorem own:ownKnob Tryz.prog.godebug=none:=by kernel_rfl
theorem laidOut:laidOutB Tryz.prog=true:=by kernel_rfl
theorem walk (a0:Int) (a1:Int) (a2:Option Addr) (len2 cap2:Nat) (z2:List Int) (a3:Int) (w:World) (w0:(Lit.int .i64 a0).wf=true) (w1:(Lit.int .i64 a1).wf=true) (w2:IsRow .i64 w a2 len2 cap2 z2) (w3:(Lit.int .i64 a3).wf=true) :
  Calls Tryz.prog 5 #[.int .i64 a0,.int .i64 a1,.slice a2 len2 cap2,.int .i64 a3] w fun e w'=>e=.returned (.bool true)/\Below w.heap.size w w' :=
 (mendSlots_c a0 a1 a2 len2 cap2 z2 a3 w w2).mono fun _ _ ⟨he,hx⟩=>⟨he,hx.below⟩
set_option maxRecDepth 100000 in
theorem lifted (os:Os) (started:os.Started) (H:Type) (enc:TypeId × Value->H) :
  ReturnsInHanded {} Tryz.checked os 5 .any (Rows.mendSlotsSpec.pre6 enc Tryz.prog Tryz.f5 Rows.mendSlotsRow.domain false) (Rows.mendSlotsSpec.post enc Tryz.prog Tryz.f5 false true false false):=by
 refine returnsInHanded_of_change (C:=Tryz.checked) own started (by kernel_rfl) Tryz.func5
  (ChangeSpec.witness6 (enc:=enc) (C:=Tryz.checked) false ⟨#[],#[.int .i64 0,.int .i64 0,.slice none 0 0,.int .i64 0],[]⟩ 8 (by kernel_rfl) (by kernel_rfl) (by kernel_rfl) (by kernel_rfl)) ?_
 intro W base args ds gs before hval0 hW hcnd _
 have hval:∀ (j:Nat) t v,Tryz.f5.params[j]?=some t->args[j]?=some v->Value.okWide Tryz.prog W .any base t v:=hval0
 have hW':=hW
 obtain ⟨p,q,hA0,hV,rfl,hfz,hnd⟩:=hW
 have hA:DataW.TrodAll enc Tryz.prog W 0 (fun _=>true) true Tryz.f5.params.toList args.toList ds p:=hA0
 rw [Tryz.params5] at hA hval
 obtain ⟨v0,vs0,d0,ds0,p0,q0,hargs,rfl,rfl,h0,r0⟩:=trodAll_cons hA
 obtain ⟨v1,vs1,d1,ds1,p1,q1,rfl,rfl,rfl,h1,r1⟩:=trodAll_cons r0
 obtain ⟨v2,vs2,d2,ds2,p2,q2,rfl,rfl,rfl,h2,r2⟩:=trodAll_cons r1
 obtain ⟨v3,vs3,d3,ds3,p3,q3,rfl,rfl,rfl,h3,r3⟩:=trodAll_cons r2
 obtain ⟨rfl,rfl,rfl⟩:=trodAll_nil r3
 obtain rfl:args=#[v0,v1,v2,v3]:=by cases args; simp_all
 obtain ⟨rfl,rfl⟩:=trodVars_none hV
 obtain ⟨a0,rfl,rfl,rfl,w0⟩:=open_int Tryz.underlying3 (hval 0 3 v0 rfl rfl) h0
 obtain ⟨a1,rfl,rfl,rfl,w1⟩:=open_int Tryz.underlying3 (hval 1 3 v1 rfl rfl) h1
 obtain ⟨a2,len2,cap2,rfl⟩:=okWide_slice Tryz.underlying54 (hval 2 54 v2 rfl rfl)
 have k2:=h2
 have lt2:∀ x∈p2,x.block < W.heap.size:=by obtain ⟨m,hm⟩:=k2; exact DataW.trod_lt m _ _ _ hm
 obtain ⟨z2,w2⟩:∃ zs,IsRow .i64 W a2 len2 cap2 zs:=by
  obtain ⟨fuel,hf⟩:=h2
  rcases open_ints Tryz.underlying54 Tryz.underlying3 (by kernel_rfl) hf with ⟨hcs,_⟩ | ⟨x,l,c,zs,hcs,_,hl,hm,hz,_,hcell,hwz⟩
  ·
   simp [Value.cells] at hcs
   obtain ⟨rfl,rfl,rfl⟩:=hcs
   exact ⟨[],.inl ⟨rfl,rfl,rfl,rfl⟩⟩
  ·
   simp [Value.cells] at hcs
   obtain ⟨rfl,rfl,rfl⟩:=hcs
   exact ⟨zs,.inr ⟨_,rfl,hl,hm,by simpa using hz,hcell,hwz⟩⟩
 obtain ⟨a3,rfl,rfl,rfl,w3⟩:=open_int Tryz.underlying3 (hval 3 3 v3 rfl rfl) h3
 clear hA0 hval0
 refine (walk a0 a1 a2 len2 cap2 z2 a3 W w0 w1 w2 w3).mono fun e W' ⟨he,bel⟩=>?_
 subst he
 exact ⟨_,rfl,_,_,_,[],_,[],hW',trodAll_mk1 (shut_bool Tryz.underlying4 _),(trodAll_cons_mk (shut_int Tryz.underlying3 w0) (trodAll_cons_mk (shut_int Tryz.underlying3 w1) (trodAll_cons_mk (Below.trod laidOut (by kernel_rfl) (of_decide_eq_true (by kernel_rfl)) k2 bel lt2) (trodAll_cons_mk (shut_int Tryz.underlying3 w3) trodAll_mk0)))),rfl,bel.frame _,fun h=>by cases h⟩
theorem over:Rows.mendSlotsRow.holds Tryz.pinned (OpenSpec.ofChange Rows.mendSlotsSpec) :=
 OpenClaim.holds_of_wide 5 Tryz.f5 rfl rfl rfl rfl rfl rfl rfl ⟨rfl,rfl,rfl,rfl,rfl⟩ rfl rfl rfl rfl rfl (by kernel_rfl) Tryz.func5 (by kernel_rfl)
  (of_decide_eq_true (by kernel_rfl)) (by unfold Func.isWrapper; first | (rw [if_pos (by decide +kernel)]; kernel_rfl) | (rw [if_neg (by decide +kernel)]; exact ⟨rfl,rfl⟩))
  (fun os started H enc _=>lifted os started H enc)
theorem proved:Rows.MendSlotsSaid:=over
#print axioms proved
end Go.Proofs.YtkipjmbplmdaaaaGreat.mendSlots
