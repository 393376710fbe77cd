/- Texts of one proof, joined: VolA, VolB, VolC, VolD, VolE. -/
import Derived.Test.YtgjnnbomnoafcaaGreatPR
import Derived.Test.YtgjnnbomnoafcaaGreatPJ
import Derived.Test.YtgjnnbomnoafcaaGreatPD
import Derived.Test.YtgjnnbomnoafcaaGreatPQ
import Derived.Test.YtgjnnbomnoafcaaGreatPO
import Derived.Test.YtgjnnbomnoafcaaGreatPU
import Derived.Test.YtgjnnbomnoafcaaGreatPS
import Derived.Test.YtgjnnbomnoafcaaGreatPF
import Derived.Test.YtgjnnbomnoafcaaGreatPC
set_option linter.unusedVariables false
set_option linter.unusedSimpArgs false
namespace Go.Proofs.YtgjnnbomnoafcaaGreat
set_option linter.unusedVariables false
open Go Go.RowKit
theorem Zbv {N i:Nat} (h:i < N):(List.range N)[i]?=some i:=by rw [List.getElem?_range h]
set_option maxRecDepth 100000 in
set_option maxHeartbeats 1000000 in
theorem vbare_c {S:Nat->Prop} {w:World} {r:Nat} {R:Rck} (h:RackAt S w r R) :
  Calls Tryz.prog 30 #[.pointer (some ⟨r,0,none⟩)] w fun e w'=>e=.returned (oErr R.vbare.1)/\RackAt S w' r R.vbare.2/\Keeps S w w':=by
 have hmk:=make_sector
 have hN8:=h.disks8
 have H:=hid h
 obtain ⟨N,hN⟩:∃ N,R.l.length=N:=⟨_,rfl⟩
 have HN:=hid hN
 have n8:(N:Int)<=8:=by omega
 clear hN8 h hN
 go_enter Tryz.func30,Tryz.ntmps30
 go_wp2_with fail
 refine (at_n H.out).mono ?_
 rintro e w1 ⟨rfl,rfl⟩
 rw [HN.out]
 go_wp2
 go_loopw [9] (fun t wr=>∃ i:Nat,t=.int .i64 i/\i<=N/\∃ R1,each (fun R (d:Nat)=>R.write (d:Nat) 0 (List.replicate 128 0)) ((List.range N).take i) R=(none,R1)/\RackAt S wr r R1/\Keeps S w wr) (fun t _=>N - (intOf t).toNat)
 case atStart=>exact ⟨0,rfl,by omega,R,rfl,H.out,Only.refl _ _⟩
 case round =>
  obtain ⟨i,rfl,hi,R1,he,hr,hk⟩:=hrel
  have HR:=hid hr; have HE:=hid he; have HK:=hid hk
  clear hr he hk
  by_cases hlt:i < N
  ·
   have hlt':(i:Int) < (N:Int):=by omega
   have HX:=hid (show Ext wr (wr.alloc (.cells (bA Dsk.zeros) 5)) from (Ext.refl wr).alloc _)
   have HB:=hid (show BytesAt (wr.alloc (.cells (bA Dsk.zeros) 5)) (some ⟨wr.heap.size,0,none⟩) 128 (List.replicate 128 0) from
    (show Blk (wr.alloc (.cells (bA Dsk.zeros) 5)) wr.heap.size (List.replicate 128 0) from heap_alloc_new _ _).bytes (fun x hx=>by rw [(List.mem_replicate.1 hx).2]; omega) (by simp) (by omega))
   go_wp2_with fail
   refine (at_write (HR.out.ext HX.out) i 0 _ 128 128 _ HB.out).mono ?_
   rintro e w4 ⟨rfl,h4,k4⟩
   rcases hq:R1.write (i:Int) 0 (List.replicate 128 0) with ⟨o,R2⟩
   rw [hq] at h4
   simp only at h4 ⊢
   have H4:=hid h4
   have HK4:=hid (show Keeps S w w4 from Only.trans HK.out (Only.trans (Ext.only HX.out) k4 fun _ _ q=>q) fun _ _ q=>q)
   have HQ:=hid hq
   clear h4 k4 hq
   rcases o with _ | er
   ·
    have HE2:=hid (Zbg (Zbv hlt) HE.out HQ.out)
    simp only [oErr]
    go_wp2
    go_roundw
    case rel=>exact ⟨i+1,by go_num,by omega,R2,HE2.out,H4.out,HK4.out⟩
    case measure=>simp [intOf]; omega
   ·
    have HE2:=hid (show R.vbare=(some er,R2) from Zca (by rw [HN.out]; exact Zbp (Zbv hlt) HE.out HQ.out))
    simp only [oErr]
    obtain ⟨et,ev,hev⟩:=er.iface
    have HEV:=hid hev
    rw [hev]
    clear hev
    go_wp2
    go_ret
    rw [HE2.out]
    exact ⟨(congrArg Ending.returned HEV.out).symm,H4.out,HK4.out⟩
  ·
   obtain rfl:N=i:=by omega
   have HE1:=hid (show each (fun R (d:Nat)=>R.write (d:Nat) 0 (List.replicate 128 0)) (List.range N) R=(none,R1) from by
    have:=HE.out
    rw [Zbz N N (Nat.le_refl _)] at this
    exact this)
   have HM8:=HR.out.disks8
   obtain ⟨M,hM⟩:∃ M,R1.l.length=M:=⟨_,rfl⟩
   have HM:=hid hM
   have m8:(M:Int)<=8:=by omega
   clear HM8 hM
   go_wp2_with fail
   refine (at_n HR.out).mono ?_
   rintro e w1 ⟨rfl,rfl⟩
   rw [HM.out]
   go_wp2
   go_loopw [22] (fun t wq=>∃ i:Nat,t=.int .i64 i/\i<=M/\∃ R2,each (fun R (d:Nat)=>R.flush (d:Nat)) ((List.range M).take i) R1=(none,R2)/\RackAt S wq r R2/\Keeps S w wq) (fun t _=>M - (intOf t).toNat)
   case atStart=>exact ⟨0,rfl,by omega,R1,rfl,HR.out,HK.out⟩
   case round =>
    clear HK HR HE
    obtain ⟨i,rfl,hi,R2,he,hr,hk⟩:=hrel
    have HR:=hid hr; have HE:=hid he; have HK:=hid hk
    clear hr he hk
    by_cases hlt:i < M
    ·
     have hlt':(i:Int) < (M:Int):=by omega
     go_wp2_with fail
     refine (at_flush HR.out i).mono ?_
     rintro e w4 ⟨rfl,h4,k4⟩
     rcases hq:R2.flush (i:Int) with ⟨o,R3⟩
     rw [hq] at h4
     simp only at h4 ⊢
     have H4:=hid h4
     have HK4:=hid (show Keeps S w w4 from Only.trans HK.out k4 fun _ _ q=>q)
     have HQ:=hid hq
     clear h4 k4 hq
     rcases o with _ | er
     ·
      have HE2:=hid (Zbg (Zbv hlt) HE.out HQ.out)
      simp only [oErr]
      go_wp2
      go_roundw
      case rel=>exact ⟨i+1,by go_num,by omega,R3,HE2.out,H4.out,HK4.out⟩
      case measure=>simp [intOf]; omega
     ·
      have HE2:=hid (show R.vbare=(some er,R3) from by
       unfold Rck.vbare
       rw [HN.out,Zba HE1.out,HM.out]
       exact Zbp (Zbv hlt) HE.out HQ.out)
      simp only [oErr]
      obtain ⟨et,ev,hev⟩:=er.iface
      have HEV:=hid hev
      rw [hev]
      clear hev
      go_wp2
      go_ret
      rw [HE2.out]
      exact ⟨(congrArg Ending.returned HEV.out).symm,H4.out,HK4.out⟩
    ·
     obtain rfl:M=i:=by omega
     have HE2:=hid (show R.vbare=(none,R2) from by
      have h2:=HE.out
      rw [Zbz M M (Nat.le_refl _)] at h2
      unfold Rck.vbare
      rw [HN.out,Zba HE1.out,HM.out]
      exact h2)
     go_wp2
     go_ret
     rw [HE2.out]
     exact ⟨rfl,HR.out,HK.out⟩
theorem nth_rep0 (n i:Nat):nth (List.replicate n 0) i=0:=by
 unfold nth; rw [List.getD_eq_getElem?_getD,List.getElem?_replicate]; split<;>rfl
theorem make_blocks (k:Nat) (h1:k<=8):∃ C:Array Value,(∀ w:World,Sem.run Tryz.prog (Instr.makeSlice 29 (.int .i64 k) (.int .i64 k)) w=.ok (.slice (some ⟨w.heap.size,0,none⟩) k k) (w.alloc (.cells C 24)))/\∀ q,q < k*108->C[q]?=some (.int .u8 0):=by
 obtain ⟨i0,hi,hz0,hz1,hz2⟩:=info_parts infoBlk
 refine ⟨madeCells (bA z108) (k*108),fun w=>?_,fun q hq=>?_⟩
 ·
  have h:=run_make (P:=Tryz.prog) w 29 24 i0 (.agg (bA z108)) Tryz.underlying29 hi hz0 .i64 .i64 k k (by omega) (Int.le_refl _) (by rw [hz2]; omega) (by omega)
  rw [h,hz1]
  rfl
 ·
  unfold madeCells
  have hs:(bA z108).size=108:=by rw [Zaz]; simp [z108]
  have hb:(bA z108)[q % 108]?=some (.int .u8 0):=by
   have hm:q % 108 < z108.length:=by simp [z108]; omega
   rw [Zbf z108 _ hm,show nth z108 (q % 108)=0 from nth_rep0 108 _]
   rfl
  rw [Array.getElem?_map,Array.getElem?_range,if_pos hq]
  simp only [Option.map_some,hs]
  rw [Array.getElem!_eq_getD,Array.getD_eq_getD_getElem?,hb]
  rfl
theorem zblks_at {w:World} {g k:Nat} {C:Array Value} (h:w.heap[g]?=some (.cells C 24 (0,0))) (hC:∀ q,q < k*108->C[q]?=some (.int .u8 0)):BlksAt w (some ⟨g,0,none⟩) (zblks k):=fun i b hb=>by
 have hi:i < k:=by
  rcases Nat.lt_or_ge i k with q | q
  ·
   exact q
  ·
   unfold zblks at hb; rw [List.getElem?_eq_none (by simp; omega)] at hb; cases hb
 have e:b=List.replicate 108 0:=by
  unfold zblks at hb
  rw [List.getElem?_replicate,if_pos hi] at hb
  exact (Option.some.inj hb).symm
 refine ⟨g,rfl,fun j hj=>?_⟩
 have h2:=Nat.mul_le_mul_right 108 (show i+1<=k by omega)
 rw [Zaf h,hC _ (by omega),e,nth_rep0]
 rfl
theorem zblks_108 (k:Nat):∀ b∈zblks k,b.length=108:=fun b hb=>by rw [(List.mem_replicate.1 hb).2]; simp
theorem zblks_byte (k:Nat):∀ b∈zblks k,∀ x∈b,x < 256:=fun b hb x hx=>by rw [(List.mem_replicate.1 hb).2] at hx; rw [(List.mem_replicate.1 hx).2]; omega
set_option maxRecDepth 100000 in
set_option maxHeartbeats 1500000 in
theorem vfilled_c {S:Nat->Prop} {w:World} {r:Nat} {R:Rck} (h:RackAt S w r R) (c:Cfg) (hc:c.Good) :
  Calls Tryz.prog 31 #[.pointer (some ⟨r,0,none⟩),.agg (Cfg.A c)] w fun e w'=>e=.returned (oErr (R.vfilled c).1)/\RackAt S w' r (R.vfilled c).2/\Keeps S w w':=by
 obtain ⟨W0,hW0⟩:∃ W,w.alloc (.cells (Cfg.A c) 26)=W:=⟨_,rfl⟩
 have X0:Ext w W0:=hW0▸(Ext.refl w).alloc _
 have HX0:=hid X0
 have HC0:=hid (show W0.heap[w.heap.size]?=some (.cells (Cfg.A c) 26 (0,0)) from hW0▸heap_alloc_new _ _)
 obtain ⟨T,hT⟩:∃ T,PutT S w.heap.size W0.heap.size=T:=⟨_,rfl⟩
 have HTE:=hid hT
 have HTG:=hid (show T w.heap.size from hT▸.inr ⟨Nat.le_refl _,lt_of_block HC0.out⟩)
 have HT0:=hid (show RackAt T W0 r R from hT▸h.more X0 fun b hb=>by
  rcases hb with hb | hb
  ·
   exact ⟨Nat.lt_of_lt_of_le (h.there b hb) X0.size,.inl hb⟩
  ·
   exact ⟨hb.2,.inr hb.1⟩)
 have HOUT:=hid (show ∀ w' R',RackAt T w' r R'->Keeps T W0 w'->RackAt S w' r R'/\Keeps S w w' from fun w' R' h1 h2=>⟨h1.less fun b hb=>hT▸.inl hb,Only.trans (Ext.only X0) h2 fun b _ hb q=>hb (hT▸.inl q)⟩)
 obtain ⟨kk,hk⟩:∃ kk:Nat,c.k=kk:=⟨c.k.toNat,by have:=hc.k0; omega⟩
 obtain ⟨ns,hns⟩:∃ ns:Nat,c.slots=ns:=⟨c.slots.toNat,by have:=hc.sl0; omega⟩
 obtain ⟨nt,hnt⟩:∃ nt:Nat,c.stripes=nt:=⟨c.stripes.toNat,by have:=hc.st0; omega⟩
 have k8:kk<=8:=by have:=hc.k1; have:=hc.n1; omega
 have s4:(ns:Int)<=4:=by have:=hc.sl1; omega
 have t64:(nt:Int)<=64:=by have:=hc.st1; omega
 have HK:=hid hk; have HNS:=hid hns; have HNT:=hid hnt
 have HKT:=hid (show c.k.toNat=kk by omega)
 have HST:=hid (show c.slots.toNat=ns by omega)
 have HTT:=hid (show c.stripes.toNat=nt by omega)
 obtain ⟨C,hmb,hCz⟩:=make_blocks kk k8
 have HCZ:=hid hCz
 have HMB:=hid hmb
 have HAG:=hid (Zat c)
 clear X0 h hT hk hns hnt hCz hmb
 go_enter Tryz.func31,Tryz.ntmps31
 have c4:W0.cell? ⟨w.heap.size,4,none⟩=some (.int .i64 ns):=(Zaf HC0.out).trans (by rw [Cfg.A4,HNS.out])
 go_wp2
 clear hW0
 go_loopw [13] (fun t wr=>∃ i:Nat,t=.int .i64 i/\i<=ns/\∃ R1,each (fun R (s:Nat)=>R.jblank c (s:Nat)) ((List.range ns).take i) R=(none,R1)/\RackAt T wr r R1/\Keeps T W0 wr) (fun t _=>ns - (intOf t).toNat)
 case atStart=>exact ⟨0,rfl,by omega,R,rfl,HT0.out,Only.refl _ _⟩
 case round =>
  obtain ⟨i,rfl,hi,R1,he,hr,hk⟩:=hrel
  have HR:=hid hr; have HE:=hid he; have HKP:=hid hk
  have HCC:=hid (hk.at HC0.out fun q=>q HTG.out)
  clear hr he hk
  by_cases hlt:i < ns
  ·
   have hlt':(i:Int) < (ns:Int):=by omega
   go_wp2_with (guard_target=wpList _ _ _ (⟨some _,Op.load _ _,_,_,_,none⟩::_) _ _; refine Zac rfl 26 _ rfl ⟨w.heap.size,0,none⟩ rfl (Cfg.A c) HAG.out (Zai HCC.out) ?_)
   refine (jblank_c HR.out c i).mono ?_
   rintro e w4 ⟨rfl,h4,k4⟩
   rcases hq:R1.jblank c (i:Int) with ⟨o,R2⟩
   rw [hq] at h4
   simp only at h4 ⊢
   have H4:=hid h4
   have HK4:=hid (show Keeps T W0 w4 from Only.trans HKP.out k4 fun _ _ q=>q)
   have HQ:=hid hq
   clear h4 k4 hq
   rcases o with _ | er
   ·
    have HE2:=hid (Zbg (Zbv hlt) HE.out HQ.out)
    simp only [oErr]
    go_wp2
    go_roundw
    case rel=>exact ⟨i+1,by go_num,by omega,R2,HE2.out,H4.out,HK4.out⟩
    case measure=>simp [intOf]; omega
   ·
    have HE2:=hid (show R.vfilled c=(some er,R2) from Zca (by unfold Rck.vblanks; rw [HST.out]; exact Zbp (Zbv hlt) HE.out HQ.out))
    simp only [oErr]
    obtain ⟨et,ev,hev⟩:=er.iface
    have HEV:=hid hev
    rw [hev]
    clear hev
    go_wp2
    go_ret
    rw [HE2.out]
    exact ⟨(congrArg Ending.returned HEV.out).symm,(HOUT.out _ _ H4.out HK4.out).1,(HOUT.out _ _ H4.out HK4.out).2⟩
  ·
   obtain rfl:ns=i:=by omega
   have HB1:=hid (show Rck.vblanks c c.slots.toNat R=(none,R1) from by
    have:=HE.out
    rw [Zbz ns ns (Nat.le_refl _)] at this
    rw [HST.out]; exact this)
   have c3:wr.cell? ⟨w.heap.size,3,none⟩=some (.int .i64 nt):=(Zaf HCC.out).trans (by rw [Cfg.A3,HNT.out])
   clear HE
   go_wp2
   go_loopw [26] (fun t wq=>∃ i:Nat,t=.int .i64 i/\i<=nt/\∃ R2,each (fun R (s:Nat)=>R.sput c (s:Nat) 1 (zblks c.k.toNat)) ((List.range nt).take i) R1=(none,R2)/\RackAt T wq r R2/\Keeps T W0 wq) (fun t _=>nt - (intOf t).toNat)
   case atStart=>exact ⟨0,rfl,by omega,R1,rfl,HR.out,HKP.out⟩
   case round =>
    clear HR HKP HCC c3
    obtain ⟨i,rfl,hi,R2,he,hr,hk⟩:=hrel
    have HR:=hid hr; have HE:=hid he; have HKP:=hid hk
    have HCC:=hid (hk.at HC0.out fun q=>q HTG.out)
    clear hr he hk
    by_cases hlt:i < nt
    ·
     have hlt':(i:Int) < (nt:Int):=by omega
     have xd:Ext wr wr.drew:=(Ext.refl wr).drew
     have HXD:=hid xd
     have lc:Hid (∀ y:SW (Only fun b=>¬T b) wr.drew,∀ j v,(Cfg.A c).toList[j]?=some v->y.w.cell? ((⟨w.heap.size,0,none⟩:Addr).add j)=some v):=hid fun y=>Zai (y.ext.at (xd.at HCC.out) (fun q=>q HTG.out))
     have ck:∀ y:SW (Only fun b=>¬T b) wr.drew,y.w.cell? ⟨w.heap.size,1,none⟩=some (.int .i64 kk):=fun y=>(Zaf (y.ext.at (xd.at HCC.out) (fun q=>q HTG.out))).trans (by rw [Cfg.A1,HK.out])
     clear xd
     go_wp2_with fail
     refine Zau (E:=Ext) (S:=Only fun b=>¬T b) (.one [0,1,2,3,4] 5 (.one [] 6 (.fin [7]))) (by kernel_rfl) (by kernel_rfl) (fun _ _ d _ _ h=>by cases d<;>exact h) ?_
     rw [wpS]
     simp only [opsAt,opA,opB,opC,opD,opE,opF,opG]
     (refine Zab (fun K hK=>?_); go_simp; refine hK _ ?_; clear hK K)
     refine Zam 26 _ rfl ⟨w.heap.size,0,none⟩ rfl (Cfg.A c) rfl (Zat c) lc.out ?_
     iterate 3 ((refine Zab (fun K hK=>?_); go_simp; refine hK _ ?_; clear hK K))
     refine Zae ?_
     intro V3 hV3
     have HX3:=hid (Ext.trans HXD.out hV3)
     have hmb:=HMB.out V3
     clear lc ck hV3
     refine Zav fun Q1 hQ1=>?_
     go_wp2
     refine hQ1 _ _ (Ext.only ((Ext.refl _).alloc _)) ?_
     clear hQ1 Q1
     have HZ:=hid (zblks_at (k:=kk) (show (V3.alloc (.cells C 24)).heap[V3.heap.size]?=some (.cells C 24 (0,0)) from heap_alloc_new _ _) HCZ.out)
     have HX4:=hid (HX3.out.alloc (.cells C 24))
     rw [wpS]
     simp only [opsAt,opA,opB,opC,opD,opE,opF,opG]
     refine Zae ?_
     intro V5 hV5
     have HX5:=hid (Ext.trans HX4.out hV5)
     have HZ5:=hid (HZ.out.ext hV5)
     clear hV5 hmb
     refine Zav fun Q2 hQ2=>?_
     have hzl:(zblks kk).length=kk:=by simp [zblks]
     have HSP:=hid (strput_c (HR.out.ext HX5.out) c i 1 (zblks kk) (zblks_108 kk) (zblks_byte kk) (some ⟨V3.heap.size,0,none⟩) kk HZ5.out)
     rw [hzl] at HSP
     clear hzl
     go_wp2_with fail
     refine HSP.out.mono ?_
     rintro e w6 ⟨rfl,h6,k6⟩
     rcases hq:R2.sput c (i:Int) 1 (zblks kk) with ⟨o,R3⟩
     rw [hq] at h6
     simp only at h6 ⊢
     have HQ:=hid (show R2.sput c (i:Int) 1 (zblks c.k.toNat)=(o,R3) by rw [HKT.out]; exact hq)
     have H6:=hid h6
     have HK6:=hid k6
     clear h6 k6 hq
     obtain ⟨ov,hov⟩:∃ ov,oErr o=ov:=⟨_,rfl⟩
     rw [hov]
     have HOV:=hid hov
     clear hov
     go_wp2
     refine hQ2 _ _ HK6.out ?_
     clear hQ2 Q2
     rw [wpS]
     simp only [opsAt,opA,opB,opC,opD,opE,opF,opG]
     (refine Zab (fun K hK=>?_); go_simp; refine hK _ ?_; clear hK K)
     refine Zae ?_
     intro V7 hV7
     have H7:=hid (H6.out.ext hV7)
     have HK7:=hid (show Keeps T W0 V7 from Only.ext (Only.trans HKP.out (Only.trans (Ext.only HX5.out) HK6.out fun _ _ q=>q) fun _ _ q=>q) hV7)
     clear hV7
     rcases o with _ | er
     ·
      have HE2:=hid (Zbg (Zbv hlt) HE.out HQ.out)
      obtain rfl:Value.nilIface=ov:=HOV.out
      go_wp2
      go_roundw
      case rel=>exact ⟨i+1,by go_num,by omega,R3,HE2.out,H7.out,HK7.out⟩
      case measure=>simp [intOf]; omega
     ·
      have HE2:=hid (show R.vfilled c=(some er,R3) from by
       unfold Rck.vfilled
       rw [Zba HB1.out]
       exact Zca (by unfold Rck.vzeros; rw [HTT.out]; exact Zbp (Zbv hlt) HE.out HQ.out))
      obtain ⟨et,ev,hev⟩:=er.iface
      obtain rfl:ov=.iface et ev:=by rw [<- HOV.out]; exact hev
      have HEV:=hid hev
      clear hev HOV
      go_wp2
      go_ret
      rw [HE2.out]
      exact ⟨(congrArg Ending.returned HEV.out).symm,(HOUT.out _ _ H7.out HK7.out).1,(HOUT.out _ _ H7.out HK7.out).2⟩
    ·
     obtain rfl:nt=i:=by omega
     have HB2:=hid (show Rck.vzeros c c.stripes.toNat R1=(none,R2) from by
      have:=HE.out
      rw [Zbz nt nt (Nat.le_refl _)] at this
      rw [HTT.out]; exact this)
     have HM8:=HR.out.disks8
     obtain ⟨M,hM⟩:∃ M,R2.l.length=M:=⟨_,rfl⟩
     have HM:=hid hM
     have m8:(M:Int)<=8:=by omega
     clear HM8 hM HE
     go_wp2_with fail
     refine (at_n HR.out).mono ?_
     rintro e w1 ⟨rfl,rfl⟩
     rw [HM.out]
     go_wp2
     go_loopw [42] (fun t wq=>∃ i:Nat,t=.int .i64 i/\i<=M/\∃ R3,each (fun R (d:Nat)=>R.superPut c (d:Nat)) ((List.range M).take i) R2=(none,R3)/\RackAt T wq r R3/\Keeps T W0 wq) (fun t _=>M - (intOf t).toNat)
     case atStart=>exact ⟨0,rfl,by omega,R2,rfl,HR.out,HKP.out⟩
     case round =>
      clear HR HKP HCC
      obtain ⟨i,rfl,hi,R3,he,hr,hk⟩:=hrel
      have HR:=hid hr; have HE:=hid he; have HKP:=hid hk
      have HCC:=hid (hk.at HC0.out fun q=>q HTG.out)
      clear hr he hk
      by_cases hlt:i < M
      ·
       have hlt':(i:Int) < (M:Int):=by omega
       go_wp2_with (guard_target=wpList _ _ _ (⟨some _,Op.load _ _,_,_,_,none⟩::_) _ _; refine Zac rfl 26 _ rfl ⟨w.heap.size,0,none⟩ rfl (Cfg.A c) HAG.out (Zai HCC.out) ?_)
       refine (sput_c HR.out c i).mono ?_
       rintro e w4 ⟨rfl,h4,k4⟩
       rcases hq:R3.superPut c (i:Int) with ⟨o,R4⟩
       rw [hq] at h4
       simp only at h4 ⊢
       have H4:=hid h4
       have HK4:=hid (show Keeps T W0 w4 from Only.trans HKP.out k4 fun _ _ q=>q)
       have HQ:=hid hq
       clear h4 k4 hq
       rcases o with _ | er
       ·
        have HE2:=hid (Zbg (Zbv hlt) HE.out HQ.out)
        simp only [oErr]
        go_wp2
        go_roundw
        case rel=>exact ⟨i+1,by go_num,by omega,R4,HE2.out,H4.out,HK4.out⟩
        case measure=>simp [intOf]; omega
       ·
        have HE2:=hid (show R.vfilled c=(some er,R4) from by
         unfold Rck.vfilled
         rw [Zba HB1.out,Zba HB2.out,HM.out]
         exact Zbp (Zbv hlt) HE.out HQ.out)
        simp only [oErr]
        obtain ⟨et,ev,hev⟩:=er.iface
        have HEV:=hid hev
        rw [hev]
        clear hev
        go_wp2
        go_ret
        rw [HE2.out]
        exact ⟨(congrArg Ending.returned HEV.out).symm,(HOUT.out _ _ H4.out HK4.out).1,(HOUT.out _ _ H4.out HK4.out).2⟩
      ·
       obtain rfl:M=i:=by omega
       have HE2:=hid (show R.vfilled c=(none,R3) from by
        have h2:=HE.out
        rw [Zbz M M (Nat.le_refl _)] at h2
        unfold Rck.vfilled
        rw [Zba HB1.out,Zba HB2.out,HM.out]
        exact h2)
       go_wp2
       go_ret
       rw [HE2.out]
       exact ⟨rfl,(HOUT.out _ _ HR.out HKP.out).1,(HOUT.out _ _ HR.out HKP.out).2⟩
attribute [local irreducible] wpSQ
theorem thenE_cases (p:Option Err × Rck) (f:Rck->Option Err × Rck):(∃ e,p.1=some e/\thenE p f=(some e,p.2))\/(p.1=none/\thenE p f=f p.2):=by
 rcases p with ⟨o,R⟩
 rcases o with _ | e
 ·
  exact .inr ⟨rfl,rfl⟩
 ·
  exact .inl ⟨e,rfl,rfl⟩
set_option maxRecDepth 100000 in
set_option maxHeartbeats 1500000 in
theorem vmake_c {S:Nat->Prop} {w:World} {r:Nat} {R:Rck} (h:RackAt S w r R) (c:Cfg) :
  Calls Tryz.prog 20 #[.pointer (some ⟨r,0,none⟩),.agg (Cfg.A c)] w fun e w'=>e=.returned (oErr (R.vmake c).1)/\RackAt S w' r (R.vmake c).2/\Keeps S w w':=by
 obtain ⟨W0,hW0⟩:∃ W,w.alloc (.cells (Cfg.A c) 26)=W:=⟨_,rfl⟩
 have HX0:=hid (show Ext w W0 from hW0▸(Ext.refl w).alloc _)
 have HC0:=hid (show W0.heap[w.heap.size]?=some (.cells (Cfg.A c) 26 (0,0)) from hW0▸heap_alloc_new _ _)
 have H0:=hid (h.ext HX0.out)
 have HAG:=hid (Zat c)
 have HR0:=hid (show RackAt (PutT S w.heap.size W0.heap.size) W0 r R from h.more HX0.out fun b hb=>by
  rcases hb with hb | hb
  ·
   exact ⟨Nat.lt_of_lt_of_le (h.there b hb) HX0.out.size,.inl hb⟩
  ·
   exact ⟨hb.2,.inr hb.1⟩)
 clear h
 go_enter Tryz.func20,Tryz.ntmps20
 go_wp2_with (guard_target=wpList _ _ _ (⟨some _,Op.load _ _,_,_,_,none⟩::_) _ _; refine Zac rfl 26 _ rfl ⟨w.heap.size,0,none⟩ rfl (Cfg.A c) HAG.out (by first | exact Zai HC0.out | (rw [hW0]; exact Zai HC0.out)) ?_)
 first | rw [hW0] | skip
 refine (sfits_c H0.out c).mono ?_
 rintro e w2 ⟨rfl,x2⟩
 have HX2:=hid (Ext.trans HX0.out x2)
 have HX02:=hid x2
 have H2:=hid (H0.out.ext x2)
 have HC2:=hid (Ext.at x2 HC0.out)
 clear x2
 rcases hf:R.fits c with _ | _
 ·
  have HV:=hid (show R.vmake c=(some (.fault sVMake 0 (.no 1)),R) by unfold Rck.vmake; rw [hf]; rfl)
  have HW:=hid (Zap sVMake 0 (.no 1) w2)
  simp only [Err.val] at HW
  clear hf
  go_wp2_with fail
  refine HW.out.mono ?_
  rintro e w3 ⟨rfl,rfl⟩
  go_wp2
  go_ret
  rw [HV.out]
  exact ⟨rfl,H2.out,Ext.only HX2.out⟩
 ·
  have HGD:=hid (Rck.fits_good hf)
  have HF:=hid hf
  clear hf
  have xd:Ext w2 w2.drew:=(Ext.refl w2).drew
  have oc:Hid (∀ y:SW Ext w2.drew,Calls Tryz.prog 28 #[.pointer (some ⟨r,0,none⟩)] y.w fun e w''=>e=.returned (.bool R.off)/\Ext y.w w''):=hid fun y=>(at_off (H2.out.ext (Ext.trans xd y.ext))).mono fun e w' q=>⟨q.1,q.2▸Ext.refl _⟩
  rcases ho:R.off with _ | _
  ·
   have HG1:=hid (show R.vmake c=if (R.online.length:Int) < c.n then (some (.fault sVMake 0 (.no 7)),R) else ((thenE R.vbare fun R=>R.vfilled c).1.map (.fault sVMake 0),(thenE R.vbare fun R=>R.vfilled c).2) by
    unfold Rck.vmake
    rw [if_pos HF.out]
    by_cases q:(R.online.length:Int) < c.n
    ·
     rw [if_pos (.inr q),if_pos q]
    ·
     rw [if_neg (by rw [ho]; simp; omega),if_neg q])
   rw [ho] at oc
   clear ho
   have c2y:∀ y:SW Ext w2.drew,y.w.cell? ⟨w.heap.size,2,none⟩=some (.int .i64 c.n):=fun y=>(Zaf ((Ext.trans xd y.ext).at HC2.out)).trans (Cfg.A2 c)
   go_wp2_with fail
   refine Zal (S:=Ext) (.one [0,1,2,3,6,7] 4 (.fin [5,8,9,10])) (by kernel_rfl) (by kernel_rfl) (fun _ _ d _ _ h=>by cases d<;>exact h) ?_
   rw [wpS]
   simp only [opsAt,opA,opB,opC,opD,opE,opF,opG]
   (refine Zab (fun K hK=>?_); go_simp; refine hK _ ?_; clear hK K)
   (refine Zab (fun K hK=>?_); go_simp; (apply Exists.intro; refine ⟨fun x=>?_,hK _ ?_⟩; (exact oc.out x); clear hK K))
   iterate 4 ((refine Zab (fun K hK=>?_); go_simp; refine hK _ ?_; clear hK K))
   refine Zae ?_
   intro V1 hV1
   refine Zav fun Q hQ=>?_
   go_wp2_with fail
   refine (Zbx (H2.out.ext (Ext.trans xd hV1))).mono ?_
   rintro e V2 ⟨v,rfl,hown,x3⟩
   obtain ⟨oa,ocp,rfl,_⟩:=hown.slice
   go_wp2
   refine hQ _ _ x3 ?_
   clear hQ Q
   rw [wpS]
   simp only [opsAt,opA,opB,opC,opD,opE,opF,opG]
   iterate 4 ((refine Zab (fun K hK=>?_); go_simp; refine hK _ ?_; clear hK K))
   refine Zae ?_
   intro V3 hV3
   have X3:=Ext.trans xd (Ext.trans hV1 (Ext.trans x3 hV3))
   have HXV:=hid (Ext.trans HX2.out X3)
   have HX03:=hid (Ext.trans HX02.out X3)
   have H3:=hid (H2.out.ext X3)
   have HC3:=hid (X3.at HC2.out)
   clear hV1 hV3 x3 X3 xd oc c2y hown
   generalize R.online.length=ol at *
   by_cases hol:(ol:Int) < c.n
   ·
    have HV:=hid (show R.vmake c=(some (.fault sVMake 0 (.no 7)),R) by rw [HG1.out,if_pos hol])
    have HW:=hid (Zap sVMake 0 (.no 7) V3)
    simp only [Err.val] at HW
    clear HG1
    go_wp2_with fail
    refine HW.out.mono ?_
    rintro e w3 ⟨rfl,rfl⟩
    go_wp2
    go_ret
    rw [HV.out]
    exact ⟨rfl,H3.out,Ext.only HXV.out⟩
   ·
    have HV:=hid (show R.vmake c=((thenE R.vbare fun R=>R.vfilled c).1.map (.fault sVMake 0),(thenE R.vbare fun R=>R.vfilled c).2) by rw [HG1.out,if_neg hol])
    obtain ⟨T,hT⟩:∃ T,PutT S w.heap.size W0.heap.size=T:=⟨_,rfl⟩
    have HTG:=hid (show T w.heap.size from hT▸.inr ⟨Nat.le_refl _,lt_of_block HC0.out⟩)
    have HT3:=hid (show RackAt T V3 r R from hT▸HR0.out.ext HX03.out)
    have HOUT:=hid (show ∀ w' R',RackAt T w' r R'->Keeps T V3 w'->RackAt S w' r R'/\Keeps S w w' from fun w' R' h1 h2=>⟨h1.less fun b hb=>hT▸.inl hb,Only.trans (Ext.only HXV.out) h2 fun b _ hb q=>hb (hT▸.inl q)⟩)
    clear hT HG1
    go_wp2_with fail
    refine (vbare_c HT3.out).mono ?_
    rintro e w4 ⟨rfl,h4,k4⟩
    have H4:=hid h4; have K4:=hid k4
    have HC4:=hid (k4.at HC3.out fun q=>q HTG.out)
    clear h4 k4
    rcases thenE_cases R.vbare (fun R=>R.vfilled c) with ⟨er,h1,h2⟩ | ⟨h1,h2⟩
    ·
     rw [h1]
     have HV2:=hid (show R.vmake c=(some (.fault sVMake 0 er),R.vbare.2) by rw [HV.out,h2]; rfl)
     have HW:=hid (Zap sVMake 0 er w4)
     simp only [oErr]
     obtain ⟨et,ev,hev⟩:=er.iface
     rw [hev] at HW ⊢
     clear h1 h2 hev
     go_wp2_with fail
     refine HW.out.mono ?_
     rintro e w5 ⟨rfl,rfl⟩
     go_wp2
     go_ret
     rw [HV2.out]
     exact ⟨rfl,(HOUT.out _ _ H4.out K4.out).1,(HOUT.out _ _ H4.out K4.out).2⟩
    ·
     rw [h1]
     have HV2:=hid (show R.vmake c=((R.vbare.2.vfilled c).1.map (.fault sVMake 0),(R.vbare.2.vfilled c).2) by rw [HV.out,h2])
     simp only [oErr]
     clear h1 h2
     go_wp2_with (guard_target=wpList _ _ _ (⟨some _,Op.load _ _,_,_,_,none⟩::_) _ _; refine Zac rfl 26 _ rfl ⟨w.heap.size,0,none⟩ rfl (Cfg.A c) HAG.out (Zai HC4.out) ?_)
     refine (vfilled_c H4.out c HGD.out).mono ?_
     rintro e w5 ⟨rfl,h5,k5⟩
     rcases hq:R.vbare.2.vfilled c with ⟨o,R5⟩
     rw [hq] at h5 HV2
     simp only at h5 HV2 ⊢
     have H5:=hid h5
     have K5:=hid (show Keeps T V3 w5 from Only.trans K4.out k5 fun _ _ q=>q)
     clear h5 k5 hq
     rcases o with _ | er
     ·
      simp only [oErr]
      go_wp2_with fail
      refine (Zb7 sVMake 0 w5).mono ?_
      rintro e w6 ⟨rfl,rfl⟩
      go_wp2
      go_ret
      rw [HV2.out]
      exact ⟨rfl,(HOUT.out _ _ H5.out K5.out).1,(HOUT.out _ _ H5.out K5.out).2⟩
     ·
      have HW:=hid (Zap sVMake 0 er w5)
      simp only [oErr]
      obtain ⟨et,ev,hev⟩:=er.iface
      rw [hev] at HW ⊢
      clear hev
      go_wp2_with fail
      refine HW.out.mono ?_
      rintro e w6 ⟨rfl,rfl⟩
      go_wp2
      go_ret
      rw [HV2.out]
      exact ⟨rfl,(HOUT.out _ _ H5.out K5.out).1,(HOUT.out _ _ H5.out K5.out).2⟩
  ·
   have HV:=hid (show R.vmake c=(some (.fault sVMake 0 (.no 7)),R) by unfold Rck.vmake; rw [if_pos HF.out,if_pos (.inl ho)])
   rw [ho] at oc
   clear ho
   go_wp2_with fail
   refine Zal (S:=Ext) (.fin [0,1,2,3,4,5,6,7,8,9,10]) (by kernel_rfl) (by kernel_rfl) (fun _ _ d _ _ h=>by cases d<;>exact h) ?_
   rw [wpS]
   simp only [opsAt,opA,opB,opC,opD,opE,opF,opG]
   (refine Zab (fun K hK=>?_); go_simp; refine hK _ ?_; clear hK K)
   (refine Zab (fun K hK=>?_); go_simp; (apply Exists.intro; refine ⟨fun x=>?_,hK _ ?_⟩; (exact oc.out x); clear hK K))
   (refine Zab (fun K hK=>?_); go_simp; refine hK _ ?_; clear hK K)
   iterate 6 (refine wpSQ_pass rfl (fun K hK=>?_); go_simp; refine hK _ ?_; clear hK K)
   iterate 2 ((refine Zab (fun K hK=>?_); go_simp; refine hK _ ?_; clear hK K))
   refine Zae ?_
   intro V hV
   have HXV:=hid (Ext.trans HX2.out (Ext.trans xd hV))
   have H3:=hid (H2.out.ext (Ext.trans xd hV))
   have HW:=hid (Zap sVMake 0 (.no 7) V)
   simp only [Err.val] at HW
   clear hV xd oc
   go_wp2_with fail
   refine HW.out.mono ?_
   rintro e w3 ⟨rfl,rfl⟩
   go_wp2
   go_ret
   rw [HV.out]
   exact ⟨rfl,H3.out,Ext.only HXV.out⟩
end Go.Proofs.YtgjnnbomnoafcaaGreat
namespace Go.Proofs.YtgjnnbomnoafcaaGreat
set_option linter.unusedVariables false
open Go Go.RowKit
attribute [local irreducible] wpSQ
set_option maxRecDepth 100000 in
set_option maxHeartbeats 1500000 in
theorem vmay_c {S:Nat->Prop} {w:World} {r g:Nat} {R:Rck} {v:Vol} (h:RackAt S w r R) (hv:VolAt w g r v) (s:Int) (a:Option Addr) (n cp:Nat) :
  Calls Tryz.prog 50 #[.pointer (some ⟨g,0,none⟩),.int .i64 s,.slice a n cp] w fun e w'=>e=.returned (oErr (v.may R s n))/\Ext w w':=by
 have H:=hid h; have HV:=hid hv
 have c2:=hv.ck
 have c4:=hv.cst
 have c7:=hv.down
 have c0:=hv.rack
 clear h hv
 go_enter Tryz.func50,Tryz.ntmps50
 by_cases h1:s < 0
 ·
  have HP:=hid (show v.may R s n=some (.no 1) by unfold Vol.may; rw [if_pos (.inl h1)])
  go_wp2
  go_ret
  rw [HP.out]
  exact ⟨rfl,Ext.refl _⟩
 by_cases h2:v.c.stripes<=s
 ·
  have HP:=hid (show v.may R s n=some (.no 1) by unfold Vol.may; rw [if_pos (.inr (.inl h2))])
  go_wp2
  go_ret
  rw [HP.out]
  exact ⟨rfl,Ext.refl _⟩
 by_cases h3:(n:Int)=v.c.k
 case neg =>
  have HP:=hid (show v.may R s n=some (.no 1) by unfold Vol.may; rw [if_pos (.inr (.inr h3))])
  have h3':((n:Int) != v.c.k)=true:=by rw [bne_iff_ne]; exact h3
  go_wp2
  go_ret
  rw [HP.out]
  exact ⟨rfl,Ext.refl _⟩
 have h3':((n:Int) != v.c.k)=false:=by rw [h3]; simp
 have HP:=hid (show v.may R s n=if v.down=true\/R.off=true then some (.no 5) else if (R.online.length:Int) < v.c.k then some (.no 7) else if 1152921504606846976<=v.seq then some (.no 8) else (R.sget v.c s).2.2 by unfold Vol.may; rw [if_neg (by omega)])
 clear h3
 rcases hd:v.down with _ | _
 case true =>
  have HP2:=hid (show v.may R s n=some (.no 5) by rw [HP.out,if_pos (.inl hd)])
  rw [hd] at c7
  clear hd
  go_wp2
  go_ret
  rw [HP2.out]
  exact ⟨rfl,Ext.refl _⟩
 have HD:=hid hd
 rw [hd] at c7
 clear hd
 go_wp2_with fail
 refine (at_off H.out).mono ?_
 rintro e w1 ⟨rfl,rfl⟩
 rcases ho:R.off with _ | _
 case true =>
  have HP2:=hid (show v.may R s n=some (.no 5) by rw [HP.out,if_pos (.inr ho)])
  clear ho
  go_wp2
  go_ret
  rw [HP2.out]
  exact ⟨rfl,Ext.refl _⟩
 have HP2:=hid (show v.may R s n=if (R.online.length:Int) < v.c.k then some (.no 7) else if 1152921504606846976<=v.seq then some (.no 8) else (R.sget v.c s).2.2 by rw [HP.out,if_neg (by rw [HD.out,ho]; simp)])
 clear ho HP
 have xd:Ext w w.drew:=(Ext.refl w).drew
 have c0y:∀ y:SW Ext w.drew,y.w.cell? ⟨g,0,none⟩=some (.pointer (some ⟨r,0,none⟩)):=fun y=>(HV.out.ext (Ext.trans xd y.ext)).rack
 have c2y:∀ y:SW Ext w.drew,y.w.cell? ⟨g,2,none⟩=some (.int .i64 v.c.k):=fun y=>(HV.out.ext (Ext.trans xd y.ext)).ck
 clear c0 c2 c4 c7
 go_wp2_with fail
 refine Zal (S:=Ext) (.one [0,1,2,3,6,7,8,9,10] 4 (.fin [5,11,12])) (by kernel_rfl) (by kernel_rfl) (fun _ _ d _ _ h=>by cases d<;>exact h) ?_
 rw [wpS]
 simp only [opsAt,opA,opB,opC,opD,opE,opF,opG]
 iterate 9 ((refine Zab (fun K hK=>?_); go_simp; refine hK _ ?_; clear hK K))
 refine Zae ?_
 intro V1 hV1
 refine Zav fun Q hQ=>?_
 go_wp2_with fail
 refine (Zbx (H.out.ext (Ext.trans xd hV1))).mono ?_
 rintro e V2 ⟨ov,rfl,hown,x3⟩
 obtain ⟨oa,ocp,rfl,_⟩:=hown.slice
 go_wp2
 refine hQ _ _ x3 ?_
 clear hQ Q
 rw [wpS]
 simp only [opsAt,opA,opB,opC,opD,opE,opF,opG]
 iterate 3 ((refine Zab (fun K hK=>?_); go_simp; refine hK _ ?_; clear hK K))
 refine Zae ?_
 intro V3 hV3
 have HX3:=hid (Ext.trans xd (Ext.trans hV1 (Ext.trans x3 hV3)))
 clear hV1 hV3 x3 xd c0y c2y hown
 generalize R.online.length=ol at *
 by_cases hol:(ol:Int) < v.c.k
 ·
  have HP3:=hid (show v.may R s n=some (.no 7) by rw [HP2.out,if_pos hol])
  go_wp2
  go_ret
  rw [HP3.out]
  exact ⟨rfl,HX3.out⟩
 have c6:V3.cell? ⟨g,6,none⟩=some (.int .i64 v.seq):=(HV.out.ext HX3.out).seq
 by_cases hsq:1152921504606846976<=v.seq
 ·
  have HP3:=hid (show v.may R s n=some (.no 8) by rw [HP2.out,if_neg hol,if_pos hsq])
  go_wp2
  go_ret
  rw [HP3.out]
  exact ⟨rfl,HX3.out⟩
 have HP3:=hid (show v.may R s n=(R.sget v.c s).2.2 by rw [HP2.out,if_neg hol,if_neg hsq])
 have H3:=hid (H.out.ext HX3.out)
 have HV3:=hid (HV.out.ext HX3.out)
 have xd:Ext V3 V3.drew:=(Ext.refl V3).drew
 have c0y:∀ y:SW Ext V3.drew,y.w.cell? ⟨g,0,none⟩=some (.pointer (some ⟨r,0,none⟩)):=fun y=>(HV3.out.ext (Ext.trans xd y.ext)).rack
 have lc:Hid (∀ y:SW Ext V3.drew,∀ j u,(Cfg.A v.c).toList[j]?=some u->y.w.cell? ((⟨g,1,none⟩:Addr).add j)=some u):=hid fun y=>(HV3.out.ext (Ext.trans xd y.ext)).cfg
 clear HP2
 go_wp2_with fail
 refine Zal (S:=Ext) (.one [0,1,2,3,4,5,6,7,8] 9 (.fin [10,11,12,13,14,15,16])) (by kernel_rfl) (by kernel_rfl) (fun _ _ d _ _ h=>by cases d<;>exact h) ?_
 rw [wpS]
 simp only [opsAt,opA,opB,opC,opD,opE,opF,opG]
 iterate 7 ((refine Zab (fun K hK=>?_); go_simp; refine hK _ ?_; clear hK K))
 refine Zam 26 _ rfl ⟨g,1,none⟩ rfl (Cfg.A v.c) rfl (Zat v.c) lc.out ?_
 (refine Zab (fun K hK=>?_); go_simp; refine hK _ ?_; clear hK K)
 refine Zae ?_
 intro V4 hV4
 have HX4:=hid (Ext.trans xd hV4)
 clear xd c0y lc hV4
 refine Zav fun Q hQ=>?_
 go_wp2_with fail
 refine (sget_c (H3.out.ext HX4.out) v.c s).mono ?_
 rintro e w5 ⟨gv,rfl,hown,x5⟩
 obtain ⟨ov,hov⟩:∃ ov,oErr (R.sget v.c s).2.2=ov:=⟨_,rfl⟩
 have HOV:=hid hov
 rw [hov]
 have HX5:=hid x5
 clear hown x5 hov
 go_wp2
 refine hQ _ _ HX5.out ?_
 clear hQ Q
 rw [wpS]
 simp only [opsAt,opA,opB,opC,opD,opE,opF,opG]
 iterate 7 ((refine Zab (fun K hK=>?_); go_simp; refine hK _ ?_; clear hK K))
 refine Zae ?_
 intro V6 hV6
 have HX6:=hid (Ext.trans HX3.out (Ext.trans HX4.out (Ext.trans HX5.out hV6)))
 clear hV6
 go_wp2
 go_ret
 rw [HP3.out,HOV.out]
 exact ⟨rfl,HX6.out⟩
end Go.Proofs.YtgjnnbomnoafcaaGreat
namespace Go.Proofs.YtgjnnbomnoafcaaGreat
set_option linter.unusedVariables false
open Go Go.RowKit
attribute [local irreducible] wpSQ
def VReadPost (w:World) (q:List (List Nat) × Int × Option Err) (e:Ending) (w':World):Prop:=∃ x,e=.returned (.tuple #[x,.int .i64 q.2.1,oErr q.2.2])/\OwnVs w' w.heap.size 24 108 x (q.1.map bA)/\Ext w w'
set_option maxRecDepth 100000 in
set_option maxHeartbeats 1500000 in
theorem vread_c {S:Nat->Prop} {w:World} {r g:Nat} {R:Rck} {v:Vol} (h:RackAt S w r R) (hv:VolAt w g r v) (s:Int) :
  Calls Tryz.prog 34 #[.pointer (some ⟨g,0,none⟩),.int .i64 s] w (VReadPost w (v.read R s)):=by
 have HP:Hid (VReadPost w (v.read R s)=fun e w'=>∃ x,e=.returned (.tuple #[x,.int .i64 (v.read R s).2.1,oErr (v.read R s).2.2])/\OwnVs w' w.heap.size 24 108 x ((v.read R s).1.map bA)/\Ext w w'):=hid rfl
 rw [HP.out]
 have H:=hid h; have HV:=hid hv
 have c7:=hv.down
 clear h hv HP
 go_enter Tryz.func34,Tryz.ntmps34
 rcases hd:v.down with _ | _
 case true =>
  have HR:=hid (show v.read R s=([],0,some (.fault sVRead s (.no 5))) by unfold Vol.read; rw [if_pos hd])
  have HW:=hid (Zap sVRead s (.no 5) w)
  simp only [Err.val] at HW
  rw [hd] at c7
  clear hd
  go_wp2_with fail
  refine HW.out.mono ?_
  rintro e w3 ⟨rfl,rfl⟩
  go_wp2
  go_ret3
  rw [HR.out]
  exact ⟨_,rfl,OwnVs.nil _ _ _ _,Ext.refl _⟩
 have HR:=hid (show v.read R s=((R.sget v.c s).1,(R.sget v.c s).2.1,(R.sget v.c s).2.2.map (.fault sVRead s)) by unfold Vol.read; rw [if_neg (by rw [hd]; simp)])
 rw [hd] at c7
 clear hd
 have xd:Ext w w.drew:=(Ext.refl w).drew
 have c0y:∀ y:SW Ext w.drew,y.w.cell? ⟨g,0,none⟩=some (.pointer (some ⟨r,0,none⟩)):=fun y=>(HV.out.ext (Ext.trans xd y.ext)).rack
 have lc:Hid (∀ y:SW Ext w.drew,∀ j u,(Cfg.A v.c).toList[j]?=some u->y.w.cell? ((⟨g,1,none⟩:Addr).add j)=some u):=hid fun y=>(HV.out.ext (Ext.trans xd y.ext)).cfg
 go_wp2_with fail
 refine Zal (S:=Ext) (.one [0,1,2,3,4,5,6,7,8] 9 (.fin [10,11,12,13,14,15,16])) (by kernel_rfl) (by kernel_rfl) (fun _ _ d _ _ h=>by cases d<;>exact h) ?_
 rw [wpS]
 simp only [opsAt,opA,opB,opC,opD,opE,opF,opG]
 iterate 7 ((refine Zab (fun K hK=>?_); go_simp; refine hK _ ?_; clear hK K))
 refine Zam 26 _ rfl ⟨g,1,none⟩ rfl (Cfg.A v.c) rfl (Zat v.c) lc.out ?_
 (refine Zab (fun K hK=>?_); go_simp; refine hK _ ?_; clear hK K)
 refine Zae ?_
 intro V4 hV4
 have HX4:=hid (Ext.trans xd hV4)
 clear xd c0y lc hV4
 refine Zav fun Q hQ=>?_
 go_wp2_with fail
 refine (sget_c (H.out.ext HX4.out) v.c s).mono ?_
 rintro e w5 ⟨gv,rfl,hown,x5⟩
 have HOW:=hid hown
 rcases hq:R.sget v.c s with ⟨l,gen,o⟩
 rw [hq] at HOW HR
 simp only at HOW HR ⊢
 obtain ⟨ov,hov⟩:∃ ov,oErr o=ov:=⟨_,rfl⟩
 have HOV:=hid hov
 rw [hov]
 have HX5:=hid x5
 clear hown x5 hov hq
 go_wp2
 refine hQ _ _ HX5.out ?_
 clear hQ Q
 rw [wpS]
 simp only [opsAt,opA,opB,opC,opD,opE,opF,opG]
 iterate 7 ((refine Zab (fun K hK=>?_); go_simp; refine hK _ ?_; clear hK K))
 refine Zae ?_
 intro V6 hV6
 have HX6:=hid (Ext.trans HX4.out (Ext.trans HX5.out hV6))
 have HO6:=hid ((HOW.out.ext hV6).down HX4.out.size)
 clear hV6
 rcases o with _ | er
 ·
  obtain rfl:Value.nilIface=ov:=HOV.out
  go_wp2_with fail
  refine (Zb7 sVRead s V6).mono ?_
  rintro e w7 ⟨rfl,rfl⟩
  go_wp2
  go_ret3
  rw [HR.out]
  exact ⟨_,rfl,HO6.out,HX6.out⟩
 ·
  have HW:=hid (Zap sVRead s er V6)
  obtain ⟨et,ev,hev⟩:=er.iface
  obtain rfl:ov=.iface et ev:=by rw [<- HOV.out]; exact hev
  rw [hev] at HW
  clear hev HOV
  go_wp2_with fail
  refine HW.out.mono ?_
  rintro e w7 ⟨rfl,rfl⟩
  go_wp2
  go_ret3
  rw [HR.out]
  exact ⟨_,rfl,HO6.out,HX6.out⟩
theorem built_recV (x:Rcd) (a:Option Addr) (n cp:Nat) (hn:x.blocks.length=n):Tryz.prog.built 101 [(0,.int .i64 x.seq),(1,.int .i64 x.stripe),(2,.slice a n cp)]=some (x.V a cp):=by
 subst hn
 have:∀ (s t:Int) (n:Nat),Tryz.prog.built 101 [(0,.int .i64 s),(1,.int .i64 t),(2,.slice a n cp)]=some #[.int .i64 s,.int .i64 t,.slice a n cp]:=fun s t n=>by kernel_rfl
 exact this _ _ _
structure VCommitPost (S:Nat->Prop) (w:World) (r g:Nat) (q:Option Err × Rck × Vol) (e:Ending) (w':World):Prop where
 ret:e=.returned (oErr q.1)
 rack:RackAt S w' r q.2.1
 vol:VolAt w' g r q.2.2
 only:Only (fun b=>¬S b\/b=g) w w'
set_option maxRecDepth 100000 in
set_option maxHeartbeats 2000000 in
theorem vcommit_c {S:Nat->Prop} {w:World} {r g:Nat} {R:Rck} {v:Vol} (h:RackAt S w r R) (hv:VolAt w g r v) (hg:S g) (hs0:0<=v.seq) (s:Int) (l:List (List Nat)) (hl8:∀ b∈l,b.length=108) (hlb:∀ b∈l,∀ x∈b,x < 256) (a:Option Addr) (cp:Nat) (hb:BlksAt w a l) (ha:∀ b,a=some ⟨b,0,none⟩->S b/\b≠g) :
  Calls Tryz.prog 35 #[.pointer (some ⟨g,0,none⟩),.int .i64 s,.slice a l.length cp] w (VCommitPost S w r g (v.commit R s l)):=by
 have H:=hid h; have HV:=hid hv; have HB:=hid hb; have HA:=hid ha; have HG:=hid hg
 have HL8:=hid hl8; have HLB:=hid hlb
 clear h hv hb ha hl8 hlb hg
 obtain ⟨n,hn⟩:∃ n,l.length=n:=⟨_,rfl⟩
 have HN:=hid hn
 rw [hn]
 clear hn
 go_enter Tryz.func35,Tryz.ntmps35
 go_wp2_with fail
 refine (vmay_c H.out HV.out s a n cp).mono ?_
 rintro e w1 ⟨rfl,x1⟩
 rcases hm:v.may R s n with _ | er
 case some =>
  have HC:=hid (show v.commit R s l=(some (.fault sVCommit s er),R,v) by unfold Vol.commit; rw [HN.out,hm])
  have HX1:=hid x1
  have HW:=hid (Zap sVCommit s er w1)
  simp only [oErr]
  obtain ⟨et,ev,hev⟩:=er.iface
  rw [hev] at HW ⊢
  clear hm hev x1
  go_wp2_with fail
  refine HW.out.mono ?_
  rintro e w2 ⟨rfl,rfl⟩
  go_wp2
  go_ret
  rw [HC.out]
  exact ⟨rfl,H.out.ext HX1.out,HV.out.ext HX1.out,Ext.only HX1.out⟩
 have hsq:v.seq < 1152921504606846976:=by
  rcases Int.lt_or_le v.seq 1152921504606846976 with q | q
  ·
   exact q
  ·
   exfalso
   unfold Vol.may at hm
   rw [if_pos q] at hm
   split at hm
   ·
    cases hm
   ·
    split at hm
    ·
     cases hm
    ·
     split at hm
     ·
      cases hm
     ·
      cases hm
 have HM:=hid hm
 have HX1:=hid x1
 have HV1:=hid (HV.out.ext x1)
 have c6:w1.cell? ⟨g,6,none⟩=some (.int .i64 v.seq):=HV1.out.seq
 have f6:=HV1.out.free 6
 have hw1:wrap64 (v.seq+1)=v.seq+1:=by unfold wrap64; omega
 simp only [oErr]
 clear hm x1
 obtain ⟨W2,hW2⟩:∃ W,w1.setCell ⟨g,6,none⟩ (.int .i64 (v.seq+1))=W:=⟨_,rfl⟩
 have HV2:=hid (show VolAt W2 g r ⟨v.c,v.seq+1,v.down⟩ from hW2▸HV1.out.setSeq (v.seq+1))
 have HO2:=hid (show Only (fun b=>b=g) w1 W2 from hW2▸Zbd _ _ _ _)
 have H2:=hid ((H.out.ext HX1.out).only HO2.out fun b hb=>by rw [show b=g from hb]; exact HG.out)
 have HB2:=hid ((HB.out.ext HX1.out).only HO2.out fun b hb q=>(HA.out b hb).2 q)
 have xd:Ext W2 W2.drew:=(Ext.refl W2).drew
 have HXD:=hid xd
 obtain ⟨X,hX⟩:∃ X:Rcd,⟨v.seq+1,s,l⟩=X:=⟨_,rfl⟩
 have HXE:=hid hX
 have HXO:=hid (show X.Ok from hX▸⟨HL8.out,HLB.out⟩)
 have HBX:=hid (show Tryz.prog.built 101 [(0,.int .i64 (v.seq+1)),(1,.int .i64 s),(2,.slice a n cp)]=some (X.V a cp) from by
  have:=built_recV X a n cp (by rw [<- hX]; exact HN.out)
  rw [<- hX] at this ⊢
  exact this)
 have HBA:=hid (show BlksAt W2 a X.blocks from hX▸HB2.out)
 obtain ⟨c,sq,dn⟩:=v
 simp only at hw1 c6 hsq hs0
 have c0y:∀ y:SW (Only fun b=>¬S b) W2.drew,y.w.cell? ⟨g,0,none⟩=some (.pointer (some ⟨r,0,none⟩)):=fun y=>((HV2.out.ext xd).keep y.ext HG.out).rack
 have c6y:∀ y:SW (Only fun b=>¬S b) W2.drew,y.w.cell? ⟨g,6,none⟩=some (.int .i64 (sq+1)):=fun y=>((HV2.out.ext xd).keep y.ext HG.out).seq
 have lc:Hid (∀ y:SW (Only fun b=>¬S b) W2.drew,∀ j u,(Cfg.A c).toList[j]?=some u->y.w.cell? ((⟨g,1,none⟩:Addr).add j)=some u):=hid fun y=>((HV2.out.ext xd).keep y.ext HG.out).cfg
 clear hX xd
 go_wp2_with fail
 refine Zau (E:=Ext) (S:=Only fun b=>¬S b) (.one [0,1,2,3,4,5,6,7,8,9,10,11,12,13,14] 15 (.fin [16])) (by kernel_rfl) (by kernel_rfl) (fun _ _ d _ _ h=>by cases d<;>exact h) ?_
 rw [wpS]
 simp only [opsAt,opA,opB,opC,opD,opE,opF,opG]
 iterate 7 ((refine Zab (fun K hK=>?_); go_simp; refine hK _ ?_; clear hK K))
 refine Zam 26 _ rfl ⟨g,1,none⟩ rfl (Cfg.A c) rfl (Zat c) lc.out ?_
 iterate 6 ((refine Zab (fun K hK=>?_); go_simp; refine hK _ ?_; clear hK K))
 refine wpSQ_build rfl 101 _ rfl (X.V a cp) ?_ ?_
 ·
  simp only [List.map_toArray,List.map_cons,List.map_nil,Act.eval]
  simp only [Array.getD_eq_getD_getElem?,List.getElem?_toArray,List.getElem?_cons_succ,List.getElem?_cons_zero,Option.getD_some]
  exact HBX.out
 refine Zae ?_
 intro V3 hV3
 have HX3:=hid (Ext.trans HXD.out hV3)
 clear c0y c6y lc hV3
 refine Zav fun Q hQ=>?_
 go_wp2_with fail
 refine (jlog_c (H2.out.ext HX3.out) c X HXO.out a cp (HBA.out.ext HX3.out) (fun b hb=>(HA.out b hb).1)).mono ?_
 rintro e w4 ⟨rfl,h4,k4⟩
 rcases hq:R.jlog c X with ⟨o,R4⟩
 rw [hq] at h4
 simp only at h4 ⊢
 have HQ:=hid hq; have H4:=hid h4; have K4:=hid k4
 clear h4 k4 hq
 obtain ⟨ov,hov⟩:∃ ov,oErr o=ov:=⟨_,rfl⟩
 have HOV:=hid hov
 rw [hov]
 clear hov
 go_wp2
 refine hQ _ _ K4.out ?_
 clear hQ Q
 rw [wpS]
 simp only [opsAt,opA,opB,opC,opD,opE,opF,opG]
 (refine Zab (fun K hK=>?_); go_simp; refine hK _ ?_; clear hK K)
 refine Zae ?_
 intro V5 hV5
 have H5:=hid (H4.out.ext hV5)
 have K5:=hid (show Keeps S W2 V5 from Only.ext (Only.trans (Ext.only HX3.out) K4.out fun _ _ q=>q) hV5)
 have HV5:=hid (HV2.out.keep K5.out HG.out)
 have HTOT:=hid (show ∀ w',Keeps S V5 w'->Only (fun b=>¬S b\/b=g) w w' from fun w' k=>Only.trans (Only.trans (Ext.only HX1.out) (HO2.out.mono fun b _ hb=>.inr hb) fun _ _ q=>q) (Only.trans K5.out k fun _ _ q=>q) fun b _ q=>.inl q)
 clear hV5
 rcases o with _ | er
 case some =>
  obtain ⟨et,ev,hev⟩:=er.iface
  obtain rfl:ov=.iface et ev:=by rw [<- HOV.out]; exact hev
  have HC:=hid (show Vol.commit ⟨c,sq,dn⟩ R s l=(some (.fault sVCommit s (.no 5)),R4,⟨c,sq+1,true⟩) from by
   have hp:Vol.put ⟨c,sq,dn⟩ R s l=(some er,R4):=Zca (by show R.jlog c ⟨sq+1,s,l⟩=_; rw [HXE.out]; exact HQ.out)
   unfold Vol.commit
   rw [HN.out,HM.out,hp])
  have c7:V5.cell? ⟨g,7,none⟩=some (.bool dn):=HV5.out.down
  have f7:=HV5.out.free 7
  have HW:=hid (fun W=>Zap sVCommit s (.no 5) W)
  simp only [Err.val] at HW
  clear hev HOV
  go_wp2_with fail
  refine (HW.out _).mono ?_
  rintro e w6 ⟨rfl,rfl⟩
  go_wp2
  go_ret
  rw [HC.out]
  exact ⟨rfl,H5.out.only (Zbd _ g 7 _) (fun b hb=>by rw [show b=g from hb]; exact HG.out),HV5.out.setDown true,Only.trans (HTOT.out _ (Only.refl _ _)) (Zbd _ g 7 _) fun b _ hb=>.inr hb⟩
 obtain rfl:Value.nilIface=ov:=HOV.out
 have HB5:=hid (HB2.out.only K5.out fun b hb q=>q (HA.out b hb).1)
 have xd:Ext V5 V5.drew:=(Ext.refl V5).drew
 have HXD5:=hid xd
 have c0y:∀ y:SW (Only fun b=>¬S b) V5.drew,y.w.cell? ⟨g,0,none⟩=some (.pointer (some ⟨r,0,none⟩)):=fun y=>((HV5.out.ext xd).keep y.ext HG.out).rack
 have c6y:∀ y:SW (Only fun b=>¬S b) V5.drew,y.w.cell? ⟨g,6,none⟩=some (.int .i64 (sq+1)):=fun y=>((HV5.out.ext xd).keep y.ext HG.out).seq
 have lc:Hid (∀ y:SW (Only fun b=>¬S b) V5.drew,∀ j u,(Cfg.A c).toList[j]?=some u->y.w.cell? ((⟨g,1,none⟩:Addr).add j)=some u):=hid fun y=>((HV5.out.ext xd).keep y.ext HG.out).cfg
 clear xd
 go_wp2_with fail
 refine Zau (E:=Ext) (S:=Only fun b=>¬S b) (.one [0,1,2,3,4,5,6,7,8,9,10,11,12,13] 14 (.fin [15])) (by kernel_rfl) (by kernel_rfl) (fun _ _ d _ _ h=>by cases d<;>exact h) ?_
 rw [wpS]
 simp only [opsAt,opA,opB,opC,opD,opE,opF,opG]
 iterate 7 ((refine Zab (fun K hK=>?_); go_simp; refine hK _ ?_; clear hK K))
 refine Zam 26 _ rfl ⟨g,1,none⟩ rfl (Cfg.A c) rfl (Zat c) lc.out ?_
 iterate 6 ((refine Zab (fun K hK=>?_); go_simp; refine hK _ ?_; clear hK K))
 refine Zae ?_
 intro V6 hV6
 have HX6:=hid (Ext.trans HXD5.out hV6)
 have HSP:=hid (strput_c (H5.out.ext HX6.out) c s (sq+1) l HL8.out HLB.out a cp (HB5.out.ext HX6.out))
 rw [HN.out] at HSP
 clear c0y c6y lc hV6
 refine Zav fun Q hQ=>?_
 go_wp2_with fail
 refine HSP.out.mono ?_
 rintro e w7 ⟨rfl,h7,k7⟩
 rcases hq:R4.sput c s (sq+1) l with ⟨o,R7⟩
 rw [hq] at h7
 simp only at h7 ⊢
 have HQ7:=hid hq; have H7:=hid h7; have K7:=hid k7
 clear h7 k7 hq
 obtain ⟨ov,hov⟩:∃ ov,oErr o=ov:=⟨_,rfl⟩
 have HOV7:=hid hov
 rw [hov]
 clear hov
 go_wp2
 refine hQ _ _ K7.out ?_
 clear hQ Q
 rw [wpS]
 simp only [opsAt,opA,opB,opC,opD,opE,opF,opG]
 (refine Zab (fun K hK=>?_); go_simp; refine hK _ ?_; clear hK K)
 refine Zae ?_
 intro V8 hV8
 have H8:=hid (H7.out.ext hV8)
 have K8:=hid (show Keeps S V5 V8 from Only.ext (Only.trans (Ext.only HX6.out) K7.out fun _ _ q=>q) hV8)
 have HV8:=hid (HV5.out.keep K8.out HG.out)
 clear hV8
 have HPUT:=hid (show Vol.put ⟨c,sq,dn⟩ R s l=(o,R7) from by
  show thenE (R.jlog c ⟨sq+1,s,l⟩) _=_
  rw [Zba (by rw [HXE.out]; exact HQ.out)]
  exact HQ7.out)
 rcases o with _ | er
 case some =>
  obtain ⟨et,ev,hev⟩:=er.iface
  obtain rfl:ov=.iface et ev:=by rw [<- HOV7.out]; exact hev
  have HC:=hid (show Vol.commit ⟨c,sq,dn⟩ R s l=(some (.fault sVCommit s (.no 5)),R7,⟨c,sq+1,true⟩) from by
   unfold Vol.commit
   rw [HN.out,HM.out,HPUT.out])
  have c7:V8.cell? ⟨g,7,none⟩=some (.bool dn):=HV8.out.down
  have f7:=HV8.out.free 7
  have HW:=hid (fun W=>Zap sVCommit s (.no 5) W)
  simp only [Err.val] at HW
  clear hev HOV7
  go_wp2_with fail
  refine (HW.out _).mono ?_
  rintro e w9 ⟨rfl,rfl⟩
  go_wp2
  go_ret
  rw [HC.out]
  exact ⟨rfl,H8.out.only (Zbd _ g 7 _) (fun b hb=>by rw [show b=g from hb]; exact HG.out),HV8.out.setDown true,Only.trans (HTOT.out _ K8.out) (Zbd _ g 7 _) fun b _ hb=>.inr hb⟩
 obtain rfl:Value.nilIface=ov:=HOV7.out
 have HC:=hid (show Vol.commit ⟨c,sq,dn⟩ R s l=(none,R7,⟨c,sq+1,dn⟩) from by
  unfold Vol.commit
  rw [HN.out,HM.out,HPUT.out])
 go_wp2
 go_ret
 rw [HC.out]
 exact ⟨rfl,H8.out,HV8.out,HTOT.out _ K8.out⟩
end Go.Proofs.YtgjnnbomnoafcaaGreat
