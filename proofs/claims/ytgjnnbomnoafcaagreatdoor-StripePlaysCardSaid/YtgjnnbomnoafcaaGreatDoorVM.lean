/- Texts of one proof, joined: RfRackC, RfDiskD, RefDisk, RfDiskE, RfRackD. -/
import Derived.Test.YtgjnnbomnoafcaaGreatDoorVK
import Derived.Test.YtgjnnbomnoafcaaGreatDoorVL
import Derived.Test.YtgjnnbomnoafcaaGreatDoorVJ
import Derived.Test.YtgjnnbomnoafcaaGreatDoorVI
import Derived.Test.YtgjnnbomnoafcaaGreatDoorVE
import Derived.Test.YtgjnnbomnoafcaaGreatDoorVF
import Derived.Test.YtgjnnbomnoafcaaGreatDoorVD
import Derived.ArgAppend
set_option linter.unusedVariables false
set_option linter.unusedSimpArgs false
namespace Go.Proofs.YtgjnnbomnoafcaaGreatDoor
set_option linter.unusedVariables false
open Go Go.RowKit
namespace Rck
theorem get_may {R:Rck} {i s kind slot stripe:Int} (h:R.mayc i≠0):R.get i s kind slot stripe=none:=by
 have:R.readE i s≠none:=by
  unfold mayc up at h
  unfold readE
  cases hh:R.has i
  ·
   simp
  ·
   cases ho:R.off
   ·
    cases hd:(R.dsk i).dead
    ·
     rw [hh,ho,hd] at h; simp at h
    ·
     unfold Dsk.refusedE; rw [hd]; simp
   ·
    simp
 unfold get read
 rw [if_neg this]; rfl
theorem get_code {R:Rck} {i s kind slot stripe:Int} (h:R.mayc i=0) (hc:(R.dsk i).code s≠0):R.get i s kind slot stripe=none:=by
 obtain ⟨h1,h2,h3⟩:=mayc_zero h
 have:R.readE i s≠none:=by
  unfold readE
  rw [h1,h2,if_neg (by simp),if_neg (by simp)]
  rw [Dsk.code_eq (R.dsk i) sDiskRead s] at hc
  intro q
  rw [Option.map_eq_none_iff] at q
  rw [q] at hc
  exact hc rfl
 unfold get read
 rw [if_neg this]; rfl
theorem get_on {R:Rck} {i s kind slot stripe:Int} (h:R.mayc i=0) (hc:(R.dsk i).code s=0):R.get i s kind slot stripe=match Frm.get ((R.dsk i).read s.toNat) with
  | some f=>if f.kind=kind/\f.slot=slot/\(0<=stripe->f.stripe=stripe) then some f else none
  | none=>none:=by
 obtain ⟨h1,h2,h3⟩:=mayc_zero h
 have:R.readE i s=none:=by
  unfold readE
  rw [h1,h2,if_neg (by simp),if_neg (by simp)]
  rw [Dsk.code_eq (R.dsk i) sDiskRead s] at hc
  rcases hr:(R.dsk i).refusedE sDiskRead s false with _ | er
  ·
   rfl
  ·
   exfalso
   rw [hr] at hc
   unfold Dsk.refusedE at hr
   split at hr
   ·
    cases hr; simp [okind,Err.kind] at hc
   ·
    split at hr
    ·
     cases hr; simp [okind,Err.kind] at hc
    ·
     cases hr
 unfold get read
 rw [if_pos this]; rfl
end Rck
set_option maxRecDepth 100000 in
set_option maxHeartbeats 2000000 in
theorem frget_c {w:World} {K:FRSk} {R:Rck} (h:FRackRep w K R) (i s kind slot stripe:Int) :
  Calls Tryz.prog 33 #[.pointer (some ⟨K.r,0,none⟩),.int .i64 i,.int .i64 s,.int .i64 kind,.int .i64 slot,.int .i64 stripe] w (RGetPost w R i s kind slot stripe):=by
 have hz:=Za4
 have HSZ:=hid (Frm.A_size _ Za9)
 obtain ⟨W0,hW0⟩:∃ W,w.alloc (.cells (Frm.A Frm.zero) 42)=W:=⟨_,rfl⟩
 have HX0:=hid (show Ext w W0 from hW0▸(Ext.refl w).alloc _)
 have HR0:=hid (show W0.heap[w.heap.size]?=some (.cells (Frm.A Frm.zero) 42 (0,0)) from hW0▸heap_alloc_new _ _)
 have H0:=hid (h.ext HX0.out)
 have HW0:=hid hW0
 clear h hW0
 go_enter Tryz.func33,Tryz.ntmps33
 go_wp2_with fail
 rw [HW0.out]
 refine (Zb9 H0.out i).mono ?_
 rintro e _ ⟨rfl,rfl⟩
 by_cases hm:R.mayc i=0
 ·
  rw [hm]
  obtain ⟨q1,q2,q3⟩:=Rck.mayc_zero hm
  obtain ⟨j,rfl,hj⟩:=H0.out.has_nat q1
  have c0:=H0.out.cell0
  have cP:=H0.out.cellP j hj
  have HD:=hid (H0.out.dskAt hj)
  have i0:(0:Int)<=(j:Int):=by omega
  have i1:(j:Int) < (K.n:Int):=by omega
  have HM:=hid hm
  clear q1 q2 q3 hj hm
  go_wp2_with fail
  refine (fread_c HD.out s).mono ?_
  rintro e w1 (⟨h1,rfl,hx⟩ | ⟨h1,p,rfl,hp,hs,hx⟩)
  ·
   have HV:=hid (Rck.get_code (kind:=kind) (slot:=slot) (stripe:=stripe) HM.out h1)
   obtain ⟨cc,hcc⟩:∃ cc,(R.dsk j).code s=cc:=⟨_,rfl⟩
   rw [hcc] at h1 ⊢
   have hne:(cc != 0)=true:=by simpa using h1
   have HR1:=hid (hx.at HR0.out)
   have HX1:=hid (Ext.trans HX0.out hx)
   clear h1 hcc hx c0 cP
   go_wp2_with (first
    | (refine wpList_build rfl 42 _ rfl (by simp [Zaq]) ?_; simp only [Array.map_empty,Zaq,Option.getD_some])
    | (guard_target=wpList _ _ _ (⟨none,Op.store _ _ _,_,_,_,none⟩::_) _ _; refine Zab rfl 42 _ _ rfl w.heap.size rfl (Frm.A Frm.zero) _ rfl 42 ?_ HR1.out rfl ?_ ?_; (rw [HSZ.out]; exact aggFrame); exact Frm.A_one _))
   refine bodyPost_ret (Zak Tryz.results33 rfl (by rw [HSZ.out]; exact aggFrame) (setRow_heap w1 _ _ _ _ _ HR1.out)) rfl ?_
   exact ⟨by rw [HV.out]; rfl,Ext.then HX1.out (Zah w1 _ _) (fun i hi q=>by have q:i=w.heap.size:=q; omega)⟩
  ·
   have HV0:=hid (Rck.get_on (kind:=kind) (slot:=slot) (stripe:=stripe) HM.out h1)
   obtain ⟨l,hl⟩:∃ l,(R.dsk j).read s.toNat=l:=⟨_,rfl⟩
   rw [hl] at hs HV0
   have HBY:=hid hs.2.1
   have hbt:=hs.bytes
   have hcp:=hs.cap
   have HR1:=hid (hx.at HR0.out)
   have HX1:=hid (Ext.trans HX0.out hx)
   have HBT:=hid hbt
   have HCP:=hid hcp
   clear hbt hcp hs hp hx h1 hl c0 cP
   go_wp2_with fail
   refine (fgetf_c p.blk 0 p.cap l w1 HBT.out HCP.out).mono ?_
   rintro e w2 ⟨rfl,hx2⟩
   have HR2:=hid (hx2.at HR1.out)
   have HX2:=hid (Ext.trans HX1.out hx2)
   clear hx2
   have hfok:((Frm.get l).getD Frm.zero).Ok:=by
    rcases hf:Frm.get l with _ | f
    ·
     exact Za9
    ·
     exact Frm.get_ok HBY.out hf
   have HSF:=hid (Frm.A_size _ hfok)
   obtain ⟨W3,hW3⟩:∃ W,w2.alloc (.cells (Frm.A ((Frm.get l).getD Frm.zero)) 42)=W:=⟨_,rfl⟩
   have HF3:=hid (show W3.heap[w2.heap.size]?=some (.cells (Frm.A ((Frm.get l).getD Frm.zero)) 42 (0,0)) from hW3▸heap_alloc_new _ _)
   have hx3:Ext w2 W3:=hW3▸(Ext.refl w2).alloc _
   have HR3:=hid (hx3.at HR2.out)
   have HX3:=hid (Ext.trans HX2.out hx3)
   have HW3:=hid hW3
   have a0:=Frm.A0 ((Frm.get l).getD Frm.zero)
   have a1:=Frm.A1 ((Frm.get l).getD Frm.zero)
   have a2:=Frm.A2 ((Frm.get l).getD Frm.zero)
   have hbs:(w2.alloc (.cells (Frm.A Frm.zero) 42)).heap[w2.heap.size]?=some (.cells (Frm.A Frm.zero) 42 (0,0)):=Zad
   unfold got
   have HFO:=hid (show ∀ f,Frm.get l=some f->(Frm.get l).getD Frm.zero=f from fun f q=>by rw [q]; rfl)
   rcases hf:Frm.get l with _ | f
   ·
    rw [hf] at HV0 HW3 HF3 HSF
    have HV:=hid (show R.get j s kind slot stripe=none from HV0.out)
    clear hf hW3 hx3 a0 a1 a2 hfok
    simp only [Option.getD_none,Option.isSome_none] at HW3 HF3 HSF ⊢
    go_wp2_with (first
     | (guard_target=wpList _ _ _ (⟨none,Op.store _ _ _,_,_,_,none⟩::_) _ _; have hb0:=hbs; clear hbs; refine Zab rfl 42 _ _ rfl w2.heap.size rfl (Frm.A Frm.zero) _ rfl 42 (by rw [HSZ.out]; exact aggFrame) hb0 rfl (Frm.A_one _) ?_; rw [Zao,HW3.out])
     | (refine wpList_build rfl 42 _ rfl (by simp [Zaq]) ?_; simp only [Array.map_empty,Zaq,Option.getD_some])
     | (guard_target=wpList _ _ _ (⟨none,Op.store _ _ _,_,_,_,none⟩::_) _ _; refine Zab rfl 42 _ _ rfl w.heap.size rfl (Frm.A Frm.zero) _ rfl 42 (by rw [HSZ.out]; exact aggFrame) HR3.out rfl (Frm.A_one _) ?_))
    refine bodyPost_ret (Zak Tryz.results33 rfl (by rw [HSZ.out]; exact aggFrame) (setRow_heap W3 _ _ _ _ _ HR3.out)) rfl ?_
    exact ⟨by rw [HV.out]; rfl,Ext.then HX3.out (Zah W3 _ _) (fun i hi q=>by have q:i=w.heap.size:=q; omega)⟩
   ·
    rw [hf] at HV0 HW3 HF3 HSF a0 a1 a2
    simp only [Option.getD_some,Option.isSome_some] at HV0 HW3 HF3 HSF a0 a1 a2 ⊢
    have d0:W3.cell? ⟨w2.heap.size,0,none⟩=some (.int .i64 f.kind):=(Zaf HF3.out).trans a0
    have d1:W3.cell? ⟨w2.heap.size,1,none⟩=some (.int .i64 f.slot):=(Zaf HF3.out).trans a1
    have d2:W3.cell? ⟨w2.heap.size,2,none⟩=some (.int .i64 f.stripe):=(Zaf HF3.out).trans a2
    obtain ⟨fk,hfk⟩:∃ z,f.kind=z:=⟨_,rfl⟩
    obtain ⟨fs,hfs⟩:∃ z,f.slot=z:=⟨_,rfl⟩
    obtain ⟨ft,hft⟩:∃ z,f.stripe=z:=⟨_,rfl⟩
    rw [hfk] at d0; rw [hfs] at d1; rw [hft] at d2
    rw [hfk,hfs,hft] at HV0
    clear hf hW3 hx3 a0 a1 a2 hfok HFO hfk hfs hft
    by_cases e1:fk=kind
    ·
     have t1:(fk != kind)=false:=by simp [e1]
     by_cases e2:fs=slot
     ·
      have t2:(fs != slot)=false:=by simp [e2]
      by_cases e3:0<=stripe
      ·
       by_cases e4:ft=stripe
       ·
        have t4:(ft != stripe)=false:=by simp [e4]
        have HV:=hid (show R.get j s kind slot stripe=some f by rw [HV0.out,if_pos (by exact ⟨e1,e2,fun _=>e4⟩)])
        clear e1 e2 e4
        clear HV0
        go_wp2_with (first
         | (guard_target=wpList _ _ _ (⟨none,Op.store _ _ _,_,_,_,none⟩::_) _ _; have hb0:=hbs; clear hbs; refine Zab rfl 42 _ _ rfl w2.heap.size rfl (Frm.A f) _ rfl 42 (by rw [HSF.out]; exact aggFrame) hb0 (by rw [HSF.out,HSZ.out]) (Frm.A_one _) ?_; rw [Zao,HW3.out])
         | (guard_target=wpList _ _ _ (⟨some _,Op.load _ _,_,_,_,none⟩::_) _ _; refine Zae rfl 42 _ rfl ⟨w2.heap.size,0,none⟩ rfl (Frm.A f) (by rw [HSF.out]; exact aggFrame) (Zaj HF3.out) ?_)
         | (guard_target=wpList _ _ _ (⟨none,Op.store _ _ _,_,_,_,none⟩::_) _ _; refine Zab rfl 42 _ _ rfl w.heap.size rfl (Frm.A f) _ rfl 42 (by rw [HSF.out]; exact aggFrame) HR3.out (by rw [HSF.out,HSZ.out]) (Frm.A_one _) ?_))
        refine bodyPost_ret (Zak Tryz.results33 rfl (by rw [HSF.out]; exact aggFrame) (setRow_heap W3 _ _ _ _ _ HR3.out)) rfl ?_
        exact ⟨by rw [HV.out]; rfl,Ext.then HX3.out (Zah W3 _ _) (fun i hi q=>by have q:i=w.heap.size:=q; omega)⟩
       ·
        have t4:(ft != stripe)=true:=by simp [e4]
        have HV:=hid (show R.get j s kind slot stripe=none by rw [HV0.out,if_neg (by exact fun q=>e4 (q.2.2 e3))])
        clear e1 e2 e4
        clear HV0
        go_wp2_with (first
         | (guard_target=wpList _ _ _ (⟨none,Op.store _ _ _,_,_,_,none⟩::_) _ _; have hb0:=hbs; clear hbs; refine Zab rfl 42 _ _ rfl w2.heap.size rfl (Frm.A f) _ rfl 42 (by rw [HSF.out]; exact aggFrame) hb0 (by rw [HSF.out,HSZ.out]) (Frm.A_one _) ?_; rw [Zao,HW3.out])
         | (refine wpList_build rfl 42 _ rfl (by simp [Zaq]) ?_; simp only [Array.map_empty,Zaq,Option.getD_some])
         | (guard_target=wpList _ _ _ (⟨none,Op.store _ _ _,_,_,_,none⟩::_) _ _; refine Zab rfl 42 _ _ rfl w.heap.size rfl (Frm.A Frm.zero) _ rfl 42 (by rw [HSZ.out]; exact aggFrame) HR3.out rfl (Frm.A_one _) ?_))
        refine bodyPost_ret (Zak Tryz.results33 rfl (by rw [HSZ.out]; exact aggFrame) (setRow_heap W3 _ _ _ _ _ HR3.out)) rfl ?_
        exact ⟨by rw [HV.out]; rfl,Ext.then HX3.out (Zah W3 _ _) (fun i hi q=>by have q:i=w.heap.size:=q; omega)⟩
      ·
       have HV:=hid (show R.get j s kind slot stripe=some f by rw [HV0.out,if_pos (by exact ⟨e1,e2,fun q=>absurd q e3⟩)])
       clear e1 e2
       clear HV0
       go_wp2_with (first
        | (guard_target=wpList _ _ _ (⟨none,Op.store _ _ _,_,_,_,none⟩::_) _ _; have hb0:=hbs; clear hbs; refine Zab rfl 42 _ _ rfl w2.heap.size rfl (Frm.A f) _ rfl 42 (by rw [HSF.out]; exact aggFrame) hb0 (by rw [HSF.out,HSZ.out]) (Frm.A_one _) ?_; rw [Zao,HW3.out])
        | (guard_target=wpList _ _ _ (⟨some _,Op.load _ _,_,_,_,none⟩::_) _ _; refine Zae rfl 42 _ rfl ⟨w2.heap.size,0,none⟩ rfl (Frm.A f) (by rw [HSF.out]; exact aggFrame) (Zaj HF3.out) ?_)
        | (guard_target=wpList _ _ _ (⟨none,Op.store _ _ _,_,_,_,none⟩::_) _ _; refine Zab rfl 42 _ _ rfl w.heap.size rfl (Frm.A f) _ rfl 42 (by rw [HSF.out]; exact aggFrame) HR3.out (by rw [HSF.out,HSZ.out]) (Frm.A_one _) ?_))
       refine bodyPost_ret (Zak Tryz.results33 rfl (by rw [HSF.out]; exact aggFrame) (setRow_heap W3 _ _ _ _ _ HR3.out)) rfl ?_
       exact ⟨by rw [HV.out]; rfl,Ext.then HX3.out (Zah W3 _ _) (fun i hi q=>by have q:i=w.heap.size:=q; omega)⟩
     ·
      have t2:(fs != slot)=true:=by simp [e2]
      have HV:=hid (show R.get j s kind slot stripe=none by rw [HV0.out,if_neg (by exact fun q=>e2 q.2.1)])
      clear e1 e2
      clear HV0
      go_wp2_with (first
       | (guard_target=wpList _ _ _ (⟨none,Op.store _ _ _,_,_,_,none⟩::_) _ _; have hb0:=hbs; clear hbs; refine Zab rfl 42 _ _ rfl w2.heap.size rfl (Frm.A f) _ rfl 42 (by rw [HSF.out]; exact aggFrame) hb0 (by rw [HSF.out,HSZ.out]) (Frm.A_one _) ?_; rw [Zao,HW3.out])
       | (refine wpList_build rfl 42 _ rfl (by simp [Zaq]) ?_; simp only [Array.map_empty,Zaq,Option.getD_some])
       | (guard_target=wpList _ _ _ (⟨none,Op.store _ _ _,_,_,_,none⟩::_) _ _; refine Zab rfl 42 _ _ rfl w.heap.size rfl (Frm.A Frm.zero) _ rfl 42 (by rw [HSZ.out]; exact aggFrame) HR3.out rfl (Frm.A_one _) ?_))
      refine bodyPost_ret (Zak Tryz.results33 rfl (by rw [HSZ.out]; exact aggFrame) (setRow_heap W3 _ _ _ _ _ HR3.out)) rfl ?_
      exact ⟨by rw [HV.out]; rfl,Ext.then HX3.out (Zah W3 _ _) (fun i hi q=>by have q:i=w.heap.size:=q; omega)⟩
    ·
     have t1:(fk != kind)=true:=by simp [e1]
     have HV:=hid (show R.get j s kind slot stripe=none by rw [HV0.out,if_neg (by exact fun q=>e1 q.1)])
     clear e1
     clear HV0
     go_wp2_with (first
      | (guard_target=wpList _ _ _ (⟨none,Op.store _ _ _,_,_,_,none⟩::_) _ _; have hb0:=hbs; clear hbs; refine Zab rfl 42 _ _ rfl w2.heap.size rfl (Frm.A f) _ rfl 42 (by rw [HSF.out]; exact aggFrame) hb0 (by rw [HSF.out,HSZ.out]) (Frm.A_one _) ?_; rw [Zao,HW3.out])
      | (refine wpList_build rfl 42 _ rfl (by simp [Zaq]) ?_; simp only [Array.map_empty,Zaq,Option.getD_some])
      | (guard_target=wpList _ _ _ (⟨none,Op.store _ _ _,_,_,_,none⟩::_) _ _; refine Zab rfl 42 _ _ rfl w.heap.size rfl (Frm.A Frm.zero) _ rfl 42 (by rw [HSZ.out]; exact aggFrame) HR3.out rfl (Frm.A_one _) ?_))
     refine bodyPost_ret (Zak Tryz.results33 rfl (by rw [HSZ.out]; exact aggFrame) (setRow_heap W3 _ _ _ _ _ HR3.out)) rfl ?_
     exact ⟨by rw [HV.out]; rfl,Ext.then HX3.out (Zah W3 _ _) (fun i hi q=>by have q:i=w.heap.size:=q; omega)⟩
 ·
  obtain ⟨m0,hm0⟩:∃ m0,R.mayc i=m0:=⟨_,rfl⟩
  have HV:=hid (Rck.get_may (s:=s) (kind:=kind) (slot:=slot) (stripe:=stripe) hm)
  have bm0:(m0 != 0)=true:=by rw [<- hm0]; simpa using hm
  rw [hm0]
  have HR1:=HR0
  have HX1:=HX0
  clear hm hm0
  go_wp2_with (first
   | (refine wpList_build rfl 42 _ rfl (by simp [Zaq]) ?_; simp only [Array.map_empty,Zaq,Option.getD_some])
   | (guard_target=wpList _ _ _ (⟨none,Op.store _ _ _,_,_,_,none⟩::_) _ _; refine Zab rfl 42 _ _ rfl w.heap.size rfl (Frm.A Frm.zero) _ rfl 42 ?_ HR1.out rfl ?_ ?_; (rw [HSZ.out]; exact aggFrame); exact Frm.A_one _))
  refine bodyPost_ret (Zak Tryz.results33 rfl (by rw [HSZ.out]; exact aggFrame) (setRow_heap W0 _ _ _ _ _ HR1.out)) rfl ?_
  exact ⟨by rw [HV.out]; rfl,Ext.then HX1.out (Zah W0 _ _) (fun i hi q=>by have q:i=w.heap.size:=q; omega)⟩
def FRVoidPost (w:World) (K:FRSk) (R':Rck) (e:Ending) (w':World):Prop:=e=.returned (.tuple #[])/\∃ K',FRackTo w K w' R' K'
set_option maxRecDepth 100000 in
set_option maxHeartbeats 1000000 in
theorem frboot_c {w:World} {K:FRSk} {R:Rck} (h:FRackRep w K R) (a:Option Addr) (n c:Nat) (bits:List Nat) (hb:BitsAt w a n bits) (hfar:∀ p,a=some p->0 < n->¬K.foot p.block) :
  Calls Tryz.prog 23 #[.pointer (some ⟨K.r,0,none⟩),.slice a n c] w (FRVoidPost w K (R.boot bits)):=by
 have H:=hid h
 have c0:=h.cell0
 have hlen:=h.len
 have HLEN:=hid hlen
 have hn8:=h.small
 have HB:=hid hb
 have HS:Hid (∃ K1,FRackTo w K w (R.bootTo bits 0) K1/\K1.n=K.n/\K1.lb=K.lb/\∀ i,i < K.n->(K1.ks i).p=(K.ks i).p):=hid ⟨K,by rw [Rck.bootTo_zero]; exact FRackTo.refl h,rfl,rfl,fun i _=>rfl⟩
 clear h hlen hb
 go_enter Tryz.func23,Tryz.ntmps23
 go_wp2
 clear c0
 go_loopw [12] (fun i wr=>∃ j:Nat,i=.int .i64 j/\j<=K.n/\∃ K1,FRackTo w K wr (R.bootTo bits j) K1/\K1.n=K.n/\K1.lb=K.lb/\∀ i,i < K.n->(K1.ks i).p=(K.ks i).p) (fun i _=>K.n - (intOf i).toNat)
 case atStart=>exact ⟨0,rfl,by omega,HS.out⟩
 case round =>
  clear HS
  obtain ⟨j,rfl,hj,K1,ht,hn1,hlb1,hp1⟩:=hrel
  by_cases hlt:j < K.n
  ·
   have i0:(0:Int)<=(j:Int):=by omega
   have i1:(j:Int) < (K.n:Int):=by omega
   have hj1:j < K1.n:=by rw [hn1]; exact hlt
   have cP:=ht.rep.cellP j hj1
   rw [hlb1] at cP
   have HD:=hid (ht.rep.dskAt hj1)
   have hbits:=HB.out.only ht.only hfar
   obtain ⟨p,hpp⟩:∃ p,(K1.ks j).p=p:=⟨_,rfl⟩
   rw [hpp] at cP
   have HPP:=hid hpp
   have HF:Hid (∀ w2 k',FTo wr (K1.ks j) w2 (((R.bootTo bits j).dsk (j:Int)).crash (bits.getD j 0)) k'->∃ K1,FRackTo w K w2 (R.bootTo bits (j+1)) K1/\K1.n=K.n/\K1.lb=K.lb/\∀ i,i < K.n->(K1.ks i).p=(K.ks i).p):=hid fun w2 k' e3=>by
    refine ⟨FRackRep.upd K1 j k',ht.then (by rw [<- Rck.bootTo_step R bits j (by rw [HLEN.out]; exact hlt)]; exact FRackTo.disk (x:=K1.f) ht.rep (Only.refl _ _) hj1 e3),hn1,hlb1,fun i hi=>?_⟩
    show (if i=j then k' else K1.ks i).p=_
    by_cases hij:i=j
    ·
     subst hij; rw [if_pos rfl,e3.p]; exact hp1 i hi
    ·
     rw [if_neg hij]; exact hp1 i hi
   clear ht hpp
   by_cases hjb:j < n
   ·
    have hc:∃ b off,a=some ⟨b,off,none⟩/\wr.cell? ⟨b,off+j,none⟩=some (.int .u64 (bits.getD j 0)):=by
     rcases hbits.cells with h0 | ⟨b,off,rfl,hc⟩
     ·
      omega
     ·
      exact ⟨b,off,rfl,hc j hjb⟩
    obtain ⟨b,off,rfl,hc⟩:=hc
    have i2:(j:Int) < (n:Int):=by omega
    have hd:bits.getD j 0 < 18446744073709551616:=by
     have:j < bits.length:=by rw [HB.out.len]; exact hjb
     have e:bits.getD j 0=bits[j]:=by simp [List.getD_eq_getElem?_getD,this]
     rw [e]; exact HB.out.bit _ (List.getElem_mem this)
    clear hbits
    obtain ⟨x,hx⟩:∃ x,bits.getD j 0=x:=⟨_,rfl⟩
    have HX:=hid hx
    rw [hx] at hc hd
    clear hx
    go_wp2_with (go_at_call 115; refine (show Calls _ _ _ _ _ by rw [<- HPP.out]; exact fcrash_c HD.out x hd).mono ?_; rintro e w2 ⟨rfl,k',ht2⟩; have HT2:=hid ht2; clear ht2)
    go_roundw
    case rel=>exact ⟨j+1,by go_num,by omega,HF.out _ _ (by rw [HX.out]; exact HT2.out)⟩
    case measure=>simp [intOf]; omega
   ·
    have hx:bits.getD j 0=0:=by
     have:bits.length<=j:=by rw [HB.out.len]; omega
     simp [List.getD_eq_getElem?_getD,List.getElem?_eq_none this]
    have HX:=hid hx
    clear hx hbits
    go_wp2_with (go_at_call 115; refine (show Calls _ _ _ _ _ by rw [<- HPP.out]; exact fcrash_c HD.out 0 (by omega)).mono ?_; rintro e w2 ⟨rfl,k',ht2⟩; have HT2:=hid ht2; clear ht2)
    go_roundw
    case rel=>exact ⟨j+1,by go_num,by omega,HF.out _ _ (by rw [HX.out]; exact HT2.out)⟩
    case measure=>simp [intOf]; omega
  ·
   obtain rfl:K.n=j:=by omega
   have hr1:=ht.r
   have hb1:=Zar (Zar ht.rep.own (i:=2) (.bool false)) (i:=1) (.int .i64 (-1))
   have e1:=ht.rep.set (R':={ R.bootTo bits K.n with off:=false,fuse:=-1 }) (x:=-1) rfl ⟨by omega,by omega⟩ (fun _=>rfl) (w':=(wr.setCell ⟨K1.r,2,none⟩ (.bool false)).setCell ⟨K1.r,1,none⟩ (.int .i64 (-1))) (by rw [hb1]; rfl) (Only.setCell (Only.setCell (Only.refl (fun b=>b=K1.r) wr) (.inr rfl) _) (.inr rfl) _)
   have c1:=ht.rep.cell1
   have f1:=ht.rep.free 1
   have c2:=ht.rep.cell2
   have f2:=ht.rep.free 2
   have HF:Hid (FRVoidPost w K (R.boot bits) (.returned (.tuple #[])) ((wr.setCell ⟨K.r,2,none⟩ (.bool false)).setCell ⟨K.r,1,none⟩ (.int .i64 (-1)))):=hid ⟨rfl,_,by
    rw [<- Rck.boot_eq,HLEN.out,<- hr1]
    exact ht.then (FRackTo.asked e1 (Only.setCell (Only.setCell (Only.refl (fun b=>b=K1.r) wr) (.inr rfl) _) (.inr rfl) _))⟩
   rw [hr1] at c1 f1 c2 f2
   clear ht e1 hp1 hb1
   go_wp2
   go_end0
   exact HF.out
theorem FRep.rotted {w W W':World} {k:FSk} {D:Dsk} (h:FRep w k D) (hx:Ext w W) {i at_ x:Nat} (hi:i < k.n) {l:List Nat} (hl:Dsk.xor4 (D.l.getD i []) at_ x=l) {s:Spot} (hs:SecAt W s l) (hnew:w.heap.size<=s.blk)
  {g:Int->Option Value} (hg:∀ j:Int,(g j).getD (.bool false)=.bool (decide (0<=j) && D.rot j.toNat))
  (hm:MapI W' k.rm (fun j=>if j=(i:Int) then some (.bool true) else g j)) (ho:Only (fun b=>b=k.rm) (W.setCell ⟨k.lb,i,none⟩ s.val) W'):FTo w k W' (D.rotted i at_ x) { k with ss:=fun j=>if j=i then s else k.ss j }:=by
 have hW:=h.ext hx
 have hO:Only (fun b=>b=k.lb\/b=k.rm) W W':=(Only.setCell (Only.refl (fun b=>b=k.lb\/b=k.rm) W) (.inr (.inl rfl)) s.val).trans (ho.mono (G:=fun b=>b=k.lb\/b=k.rm) fun b _ e=>.inr e) fun _ _ x=>x
 have hk:∀ y b,k.at_ y=some b->y≠.lb->y≠.rm->W'.heap[b]?=W.heap[b]?:=fun y b hy h1 h2=>hO.block b (hW.lt ⟨y,hy⟩) fun e=>by
  rcases e with e | e
  ·
   exact h1 (h.inj y .lb b hy (by rw [e]; rfl))
  ·
   exact h2 (h.inj y .rm b hy (by rw [e]; rfl))
 have hlr:=FMid.lbrm h
 have hlbl:=h.lt (b:=k.lb) ⟨.lb,rfl⟩
 have hrml:=h.lt (b:=k.rm) ⟨.rm,rfl⟩
 have hold:∀ y b,k.at_ y=some b->b≠s.blk:=fun y b hb=>by have:=h.lt ⟨y,hb⟩; omega
 refine ⟨⟨by simp [Dsk.rotted,h.len],h.pos,h.small,?_,?_,?_,?_,?_,h.waitN,?_,?_⟩,rfl,rfl,?_,?_⟩
 ·
  exact (hk .p _ rfl (by simp) (by simp)).trans hW.own
 ·
  have e1:(W.setCell ⟨k.lb,i,none⟩ s.val).heap[k.lb]?=some (.cells ((List.range k.n).map (fun j=>(if j=i then s else k.ss j:Spot).val)++k.pad).toArray 38 (0,0)):=by
   rw [Zar hW.arr]
   congr 2
   apply Array.ext'
   rw [FSk.arr_def,List.setIfInBounds_toArray,List.set_append_left _ _ (by simpa using hi)]
   show List.set (List.map _ _) i _++k.pad=List.map _ _++k.pad
   congr 1
   apply List.ext_getElem?
   intro j
   simp only [List.getElem?_set,List.getElem?_map,List.length_map,List.length_range]
   by_cases hj:i=j
   ·
    subst hj; simp [hi]
   ·
    by_cases hjn:j < k.n
    ·
     simp [hj,hjn,Ne.symm hj]
    ·
     simp [hj,hjn]
  exact (ho.block k.lb (lt_of_block e1) hlr).trans e1
 ·
  intro j hj
  by_cases hji:j=i
  ·
   subst hji
   have e:(D.rotted j at_ x).l.getD j []=l:=by
    unfold Dsk.rotted
    have:j < D.l.length:=by rw [h.len]; exact hj
    rw [<- hl]
    simp [List.getD_eq_getElem?_getD,this]
   rw [e]
   show SecAt W' (if j=j then s else k.ss j) l
   rw [if_pos rfl]
   exact hs.same (hO.block _ hs.lt fun e=>by rcases e with e | e<;>omega)
  ·
   have e:(D.rotted i at_ x).l.getD j []=D.l.getD j []:=by
    unfold Dsk.rotted
    simp [List.getD_eq_getElem?_getD,List.getElem?_set_ne (Ne.symm hji)]
   rw [e]
   show SecAt W' (if j=i then s else k.ss j) _
   rw [if_neg hji]
   exact (hW.sec j hj).same (hk (.sec j) _ (by simp [FSk.at_,show j < k.n from hj]) (by simp) (by simp))
 ·
  exact hW.wmap.same (hk .wm _ rfl (by simp) (by simp))
 ·
  intro j s' hj
  obtain ⟨h1,l',h2,h3⟩:=hW.waitS j s' hj
  exact ⟨h1,l',h2,h3.same (hk (.wait j) _ (by simpa [FSk.at_] using ⟨s',hj,rfl⟩) (by simp) (by simp))⟩
 ·
  refine ⟨_,hm,fun j=>?_⟩
  by_cases hj:j=(i:Int)
  ·
   subst hj; simp [Dsk.rotted]
  ·
   simp only [hj,if_false]
   rw [hg j]
   by_cases hj0:0<=j
   ·
    have:j.toNat≠i:=by omega
    simp [Dsk.rotted,this]
   ·
    have:decide (0<=j)=false:=by simp; omega
    rw [this,Bool.false_and,Bool.false_and]
 ·
  have key:∀ y b,({ k with ss:=fun j=>if j=i then s else k.ss j }:FSk).at_ y=some b->(y=.sec i/\b=s.blk)\/(y≠.sec i/\k.at_ y=some b):=by
   intro y b hb
   cases y with
   | sec j =>
    by_cases hj:j=i
    ·
     subst hj; simp [FSk.at_,hi] at hb; exact .inl ⟨rfl,hb.symm⟩
    ·
     simp [FSk.at_,hj] at hb; exact .inr ⟨by simpa using hj,by simpa [FSk.at_] using hb⟩
   | _=>exact .inr ⟨by simp,hb⟩
  intro y z b hy hz
  rcases key y b hy with ⟨h1,h2⟩ | ⟨_,h1⟩
  ·
   rcases key z b hz with ⟨h3,h4⟩ | ⟨_,h3⟩
   ·
    rw [h1,h3]
   ·
    exact absurd h2 (hold z b h3)
  ·
   rcases key z b hz with ⟨h3,h4⟩ | ⟨_,h3⟩
   ·
    exact absurd h4 (hold y b h1)
   ·
    exact h.inj y z b h1 h3
 ·
  intro b ⟨y,hb⟩
  cases y with
  | sec j =>
   by_cases hj:j=i
   ·
    subst hj; simp [FSk.at_,hi] at hb; exact .inr (by omega)
   ·
    simp [FSk.at_,hj] at hb; exact .inl ⟨.sec j,by simpa [FSk.at_] using hb⟩
  | p=>exact .inl ⟨.p,hb⟩
  | lb=>exact .inl ⟨.lb,hb⟩
  | wm=>exact .inl ⟨.wm,hb⟩
  | rm=>exact .inl ⟨.rm,hb⟩
  | wait j=>exact .inl ⟨.wait j,hb⟩
 ·
  refine hx.only.trans (hO.mono (G:=k.foot) fun b _ hb=>?_) fun _ _ x=>x
  rcases hb with rfl | rfl
  ·
   exact ⟨.lb,rfl⟩
  ·
   exact ⟨.rm,rfl⟩
def FRotPost (w:World) (k:FSk) (D:Dsk) (i a:Int) (x:Nat) (e:Ending) (w':World):Prop:=e=.returned (.bool (D.rotOk i a x))/\∃ k',FTo w k w' (if D.rotOk i a x then D.rotted i.toNat a.toNat x else D) k'
theorem rotOk_out {D:Dsk} {i a:Int} {x:Nat} (h:(decide (0<=i) && decide (i < (D.l.length:Int)))=false):D.rotOk i a x=false:=by
 unfold Dsk.rotOk
 simp only [Bool.and_eq_false_iff,decide_eq_false_iff_not] at h
 rcases h with h | h
 ·
  have:decide (i < 0)=true:=by simp; omega
  simp [this]
 ·
  have:decide ((D.l.length:Int)<=i)=true:=by simp; omega
  simp [this]
set_option maxRecDepth 100000 in
set_option maxHeartbeats 800000 in
theorem frot_no1 {w:World} {k:FSk} {D:Dsk} (h:FRep w k D) (i a:Int) (x:Nat) (hx:x < 4294967296) (hok:D.rotOk i a x=false) (hd:D.dead=true) :
  Calls Tryz.prog 28 #[.pointer (some ⟨k.p,0,none⟩),.int .i64 i,.int .i64 a,.int .u32 x] w (FRotPost w k D i a x):=by
 have H:=hid h; have HK:=hid hok
 have c3:=h.cell3
 have c2:=h.cell2
 rw [hd] at c3
 clear hd
 have HIN:Hid (True):=hid trivial
 clear h hok
 go_enter Tryz.func28,Tryz.ntmps28
 go_wp2_with fail
 go_ret
 exact ⟨Zas HK.out.symm,k,by rw [HK.out]; exact FTo.refl H.out⟩
set_option maxRecDepth 100000 in
set_option maxHeartbeats 800000 in
theorem frot_no2 {w:World} {k:FSk} {D:Dsk} (h:FRep w k D) (i a:Int) (x:Nat) (hx:x < 4294967296) (hok:D.rotOk i a x=false) (hd:D.dead=false) (hin:(decide (0<=i) && decide (i < (k.n:Int)))=false) :
  Calls Tryz.prog 28 #[.pointer (some ⟨k.p,0,none⟩),.int .i64 i,.int .i64 a,.int .u32 x] w (FRotPost w k D i a x):=by
 have H:=hid h; have HK:=hid hok
 have c3:=h.cell3
 have c2:=h.cell2
 rw [hd] at c3
 clear hd
 have HIN:=hid hin
 clear hin
 clear h hok
 go_enter Tryz.func28,Tryz.ntmps28
 go_wp2_with (go_at_call 120; refine (fhas_c H.out i).mono ?_; rintro e w' ⟨rfl,rfl⟩; rw [HIN.out])
 go_ret
 exact ⟨Zas HK.out.symm,k,by rw [HK.out]; exact FTo.refl H.out⟩
set_option maxRecDepth 100000 in
set_option maxHeartbeats 800000 in
theorem frot_no3 {w:World} {k:FSk} {D:Dsk} (h:FRep w k D) (i a:Int) (x:Nat) (hx:x < 4294967296) (hok:D.rotOk i a x=false) (hd:D.dead=false) (hin:(decide (0<=i) && decide (i < (k.n:Int)))=true) (h1:a < 0) :
  Calls Tryz.prog 28 #[.pointer (some ⟨k.p,0,none⟩),.int .i64 i,.int .i64 a,.int .u32 x] w (FRotPost w k D i a x):=by
 have H:=hid h; have HK:=hid hok
 have c3:=h.cell3
 have c2:=h.cell2
 rw [hd] at c3
 clear hd
 have HIN:=hid hin
 clear hin
 clear h hok
 go_enter Tryz.func28,Tryz.ntmps28
 go_wp2_with (go_at_call 120; refine (fhas_c H.out i).mono ?_; rintro e w' ⟨rfl,rfl⟩; rw [HIN.out])
 go_ret
 exact ⟨Zas HK.out.symm,k,by rw [HK.out]; exact FTo.refl H.out⟩
set_option maxRecDepth 100000 in
set_option maxHeartbeats 800000 in
theorem frot_no4 {w:World} {k:FSk} {D:Dsk} (h:FRep w k D) (i a:Int) (x:Nat) (hx:x < 4294967296) (hok:D.rotOk i a x=false) (hd:D.dead=false) (hin:(decide (0<=i) && decide (i < (k.n:Int)))=true) (h1:¬a < 0) (h2:124 < a) :
  Calls Tryz.prog 28 #[.pointer (some ⟨k.p,0,none⟩),.int .i64 i,.int .i64 a,.int .u32 x] w (FRotPost w k D i a x):=by
 have H:=hid h; have HK:=hid hok
 have c3:=h.cell3
 have c2:=h.cell2
 rw [hd] at c3
 clear hd
 have HIN:=hid hin
 clear hin
 clear h hok
 go_enter Tryz.func28,Tryz.ntmps28
 go_wp2_with (go_at_call 120; refine (fhas_c H.out i).mono ?_; rintro e w' ⟨rfl,rfl⟩; rw [HIN.out])
 go_ret
 exact ⟨Zas HK.out.symm,k,by rw [HK.out]; exact FTo.refl H.out⟩
set_option maxRecDepth 100000 in
set_option maxHeartbeats 800000 in
theorem frot_no5 {w:World} {k:FSk} {D:Dsk} (h:FRep w k D) (i a:Int) (x:Nat) (hx:x < 4294967296) (hok:D.rotOk i a x=false) (hd:D.dead=false) (hin:(decide (0<=i) && decide (i < (k.n:Int)))=true) (h1:¬a < 0) (h2:¬124 < a) (h3:x=0) :
  Calls Tryz.prog 28 #[.pointer (some ⟨k.p,0,none⟩),.int .i64 i,.int .i64 a,.int .u32 x] w (FRotPost w k D i a x):=by
 have H:=hid h; have HK:=hid hok
 have c3:=h.cell3
 have c2:=h.cell2
 rw [hd] at c3
 clear hd
 have HIN:=hid hin
 clear hin
 subst h3
 clear h hok
 go_enter Tryz.func28,Tryz.ntmps28
 go_wp2_with (go_at_call 120; refine (fhas_c H.out i).mono ?_; rintro e w' ⟨rfl,rfl⟩; rw [HIN.out])
 go_ret
 exact ⟨Zas HK.out.symm,k,by rw [HK.out]; exact FTo.refl H.out⟩
set_option maxRecDepth 100000 in
set_option maxHeartbeats 800000 in
theorem frot_no6 {w:World} {k:FSk} {D:Dsk} (h:FRep w k D) (i a:Int) (x:Nat) (hx:x < 4294967296) (hok:D.rotOk i a x=false) (hd:D.dead=false) (hin:(decide (0<=i) && decide (i < (k.n:Int)))=true) (h1:¬a < 0) (h2:¬124 < a) (h3:¬x=0) (hr:(decide (0<=i) && D.rot i.toNat)=true) :
  Calls Tryz.prog 28 #[.pointer (some ⟨k.p,0,none⟩),.int .i64 i,.int .i64 a,.int .u32 x] w (FRotPost w k D i a x):=by
 have H:=hid h; have HK:=hid hok
 have c3:=h.cell3
 have c2:=h.cell2
 rw [hd] at c3
 clear hd
 have HIN:=hid hin
 clear hin
 have hlook:=H.out.rot_v i
 rw [hr] at hlook
 clear hr
 have x0:((x:Int) == 0)=false:=by simp; omega
 clear h3
 clear h hok
 go_enter Tryz.func28,Tryz.ntmps28
 go_wp2_with (go_at_call 120; refine (fhas_c H.out i).mono ?_; rintro e w' ⟨rfl,rfl⟩; rw [HIN.out])
 go_ret
 exact ⟨Zas HK.out.symm,k,by rw [HK.out]; exact FTo.refl H.out⟩
set_option maxRecDepth 100000 in
set_option maxHeartbeats 1600000 in
theorem frot_yes {w:World} {k:FSk} {D:Dsk} (h:FRep w k D) (i a x:Nat) (hx:x < 4294967296) (hok:D.rotOk i a x=true) (hd:D.dead=false) (hi:i < k.n) (h2:a<=124) (h3:¬x=0) (hr:D.rot i=false) :
  Calls Tryz.prog 28 #[.pointer (some ⟨k.p,0,none⟩),.int .i64 i,.int .i64 a,.int .u32 x] w (FRotPost w k D i a x):=by
 have H:=hid h; have HK:=hid hok; have HI:=hid hi
 have c3:=h.cell3
 rw [hd] at c3
 have c2:=h.cell2
 have c0:=h.cell0
 have cS:=h.cellS i hi
 unfold Spot.val at cS
 have hlook:=h.rot_v (i:Int)
 rw [Int.toNat_natCast,hr,Bool.and_false] at hlook
 have HIN:=hid (show (decide (0<=(i:Int)) && decide ((i:Int) < (k.n:Int)))=true by simp; omega)
 have HB:=hid (h.sec i hi)
 obtain ⟨W0,hW0⟩:∃ W,w.alloc (.cells #[] 5)=W:=⟨_,rfl⟩
 have x0:Ext w W0:=hW0▸(Ext.refl w).alloc _
 have hcS0:∀ o,(w.alloc o).cell? ⟨k.lb,i,none⟩=some (.slice (some ⟨(k.ss i).blk,0,none⟩) 128 (k.ss i).cap):=fun o=>((Ext.refl w).alloc o).cell cS (fun q=>q)
 have hc00:∀ o,(w.alloc o).cell? ⟨k.p,0,none⟩=some (.slice (some ⟨k.lb,0,none⟩) k.n k.c):=fun o=>((Ext.refl w).alloc o).cell c0 (fun q=>q)
 have HW0:=hid hW0
 obtain ⟨p,pc,W3,hap,hown,hon,hgp⟩:=Zbb W0 w.heap.size (hW0▸heap_alloc_new _ _) (some ⟨(k.ss i).blk,0,none⟩) 128 (k.ss i).cap (D.l.getD i []) (HB.out.bytes.ext x0)
 have HAP:=hid hap; have HGP:=hid hgp
 have HX3:=hid (show Ext w W3 from Ext.then x0 hon fun i hi q=>by have q:i=w.heap.size:=q; omega)
 have HS3:=hid (show SecAt W3 ⟨p,pc⟩ (D.l.getD i []) from ⟨HB.out.1,HB.out.2.1,hown⟩)
 have i0:(0:Int)<=(i:Int):=by omega
 have i1:(i:Int) < (k.n:Int):=by omega
 have a1:¬(a:Int) < 0:=by omega
 have a2:¬124 < (a:Int):=by omega
 have H2:=hid h2; have HX:=hid hx
 have x0:((x:Int) == 0)=false:=by simp; omega
 clear h hok hd hi h2 h3 hr hap hown hon hgp hW0 hx
 go_enter Tryz.func28,Tryz.ntmps28
 go_wp2_with (first
  | (go_at_call 120; refine (fhas_c H.out i).mono ?_; rintro e w' ⟨rfl,rfl⟩; rw [HIN.out])
  | (at_builtin; rw [HW0.out]; refine wpList_append_run rfl _ _ _ rfl _ _ _ _ rfl rfl HAP.out ?_))
 clear hlook c0 c2 c3 cS hcS0 hc00
 go_loopw [10] (fun v wr=>∃ j:Nat,v=.int .i64 j/\j<=4/\Only (fun b=>b=p) W3 wr/\SecAt wr ⟨p,pc⟩ (xorTo (D.l.getD i []) a x j)) (fun v _=>4 - (intOf v).toNat)
 case atStart=>exact ⟨0,rfl,by omega,Only.refl _ _,HS3.out⟩
 case round =>
  obtain ⟨j,rfl,hj,ho,hs⟩:=hrel
  have h2:=H2.out
  by_cases hlt:j < 4
  ·
   have ww:wrap64 ((a:Int)+(j:Int))=(a:Int)+(j:Int):=by unfold wrap64; omega
   have ww2:IntKind.i64.wrap ((a:Int)+(j:Int))=(a:Int)+(j:Int):=by rw [IntKind.wrap_i64]; omega
   have w8:wrap64 (8*(j:Int))=((8*j:Nat):Int):=by unfold wrap64; omega
   have w82:IntKind.i64.wrap (8*(j:Int))=((8*j:Nat):Int):=by rw [IntKind.wrap_i64]; omega
   have cj0:=hs.cell (a+j) (by omega)
   have EJ:=hid (show ((a:Int)+(j:Int)).toNat=a+j by omega)
   have hby:(xorTo (D.l.getD i []) a x j).getD (a+j) 0 < 256:=by
    rw [List.getD_eq_getElem?_getD]
    rcases hq:(xorTo (D.l.getD i []) a x j)[a+j]? with _ | y
    ·
     simp
    ·
     simpa using hs.2.1 y (List.mem_of_getElem? hq)
   obtain ⟨y,hy⟩:∃ y,(xorTo (D.l.getD i []) a x j).getD (a+j) 0=y:=⟨_,rfl⟩
   obtain ⟨z,hz⟩:∃ z,x / 2 ^ (8*j) % 256=z:=⟨_,rfl⟩
   have HSET:=hid (xorTo_succ (D.l.getD i []) a x j)
   rw [hy] at cj0 hby
   have hzb:z < 256:=by rw [<- hz]; exact Nat.mod_lt _ (by omega)
   have hxx:=u8_xor_nat y z hby hzb
   have hze:((x:Int) / 2 ^ (8*j) % 256)=(z:Int):=by
    have e:((2 ^ (8*j):Nat):Int)=(2:Int) ^ (8*j):=by rw [Int.natCast_pow]; rfl
    rw [<- hz,Int.natCast_emod,Int.natCast_ediv,e]; rfl
   have hxb:y ^^^ z < 256:=Nat.xor_lt_two_pow (n:=8) hby hzb
   have HO:=hid ho; have HS:=hid hs; have HY:=hid hy; have HZ:=hid hz
   have cj:∀ q:SW Ext wr.drew,q.w.cell? ⟨p,((a:Int)+(j:Int)).toNat,none⟩=some (.int .u8 (y:Nat)):=fun q=>by rw [EJ.out]; exact Ext.cell (Ext.trans (Ext.refl wr).drew q.ext) cj0
   have CJ:=hid cj0
   have I4:Hid (a+j < 128):=hid (by omega)
   have j0:(0:Int)<=(j:Int):=by omega
   have j4:(j:Int) < 4:=by omega
   have i2:(0:Int)<=(a:Int)+(j:Int):=by omega
   have i3:(a:Int)+(j:Int) < 128:=by omega
   clear ho hs hy hz h2 cj0
   go_wp2
   refine Zan (S:=Ext) 16 (.fin [0,1,2,3,4,5,6,7,8,9,10,11,12,13,14,15]) (by kernel_rfl) (by kernel_rfl) (fun _ _ d _ _ h=>by cases d<;>exact h) ?_
   rw [wpS]
   simp only [opsAt,opA,opB,opC,opD,opE,opF,opG]
   iterate 16 ((refine Zaa (fun K hK=>?_); go_simp; refine hK _ ?_; clear hK K))
   refine Zac ?_
   intro V hV
   have hxv:=Ext.trans (Ext.refl wr).drew hV
   have cjv:V.cell? ⟨p,((a:Int)+(j:Int)).toNat,none⟩=some (.int .u8 (y:Nat)):=by rw [EJ.out]; exact Ext.cell hxv CJ.out
   have hsv:=HS.out.same (hxv.block p HS.out.lt (fun q=>q))
   have fjv:V.frozen? ⟨p,((a:Int)+(j:Int)).toNat,none⟩=false:=hsv.free _
   have cjv2:V.cell? ⟨p,a+j,none⟩=some (.int .u8 (y:Nat)):=Ext.cell hxv CJ.out
   have fjv2:V.frozen? ⟨p,a+j,none⟩=false:=hsv.free _
   have HSV:=hid hsv
   have HOV:=hid (HO.out.trans (Ext.only hxv) fun _ _ x=>x)
   clear hxv hV hsv cj ww ww2 w8 w82
   go_wp2
   have h2:=H2.out
   go_roundw
   case rel =>
    refine ⟨j+1,by go_num,by omega,HOV.out.setCell (.inr rfl) _,?_⟩
    rw [HSET.out,HY.out,HZ.out]
    exact HSV.out.put _ _ I4.out hxb
   case measure=>simp [intOf]; omega
  ·
   obtain rfl:j=4:=by omega
   have hx:Ext w wr:=Ext.then HX3.out ho fun i hi q=>by have:=HGP.out; have q:i=p:=q; omega
   have n1:k.p≠k.lb:=FMid.plb H.out
   have n2:k.p≠k.rm:=FMid.prm H.out
   have n3:k.lb≠k.rm:=FMid.lbrm H.out
   have hr:=H.out.ext hx
   have d0:∀ x:SW (Only fun b=>b=k.lb\/b=k.rm) wr.drew,x.w.cell? ⟨k.p,0,none⟩=some (.slice (some ⟨k.lb,0,none⟩) k.n k.c):=fun x=>x.ext.cell (Ext.cell (Ext.refl wr).drew hr.cell0) (fun q=>q.elim n1 n2)
   have d2:∀ x:SW (Only fun b=>b=k.lb\/b=k.rm) wr.drew,x.w.cell? ⟨k.p,2,none⟩=some (.map (some k.rm)):=fun x=>x.ext.cell (Ext.cell (Ext.refl wr).drew hr.cell2) (fun q=>q.elim n1 n2)
   have N3:=hid n3
   have HX:=hid hx
   have HS:=hid hs
   clear hx ho hs n1 n2 n3 hr h2
   go_wp2
   refine Zau (E:=Ext) (S:=Only fun b=>b=k.lb\/b=k.rm) (.one [0,1,2,3,4,5,6,7,8,9,10,11] 12 (.one [] 13 (.one [14] 15 (.fin [])))) (by kernel_rfl) (by kernel_rfl) (fun _ _ d _ _ h=>by cases d<;>exact h) ?_
   rw [wpS]
   simp only [opsAt,opA,opB,opC,opD,opE,opF,opG]
   iterate 12 ((refine Zaa (fun K hK=>?_); go_simp; refine hK _ ?_; clear hK K))
   refine Zac ?_
   intro W1 hW1
   have hw1:Ext w W1:=Ext.trans HX.out (Ext.trans (Ext.refl wr).drew hW1)
   have R1:=H.out.ext hw1
   have b1:W1.cell? ⟨k.lb,i,none⟩=some (k.ss i).val:=R1.cellS i HI.out
   have f1:W1.frozen? ⟨k.lb,i,none⟩=false:=Zax R1.arr
   obtain ⟨old,hold⟩:∃ old,(k.ss i).val=old:=⟨_,rfl⟩
   rw [hold] at b1
   obtain ⟨g,hg1,hg2⟩:=R1.rmap
   have HG2:=hid hg2
   have HSE:=hid (show SecAt W1 ⟨p,pc⟩ (xorTo (D.l.getD i []) a x 4) from HS.out.same ((Ext.trans (Ext.refl wr).drew hW1).block _ HS.out.lt fun q=>q))
   have hg3:MapI (W1.setCell ⟨k.lb,i,none⟩ (.slice (some ⟨p,0,none⟩) 128 pc)) k.rm g:=hg1.same (Zai (.slice (some ⟨p,0,none⟩) 128 pc) (Ne.symm N3.out) (i:=i))
   have HG3:=hid hg3
   have HX1:=hid hw1
   have HO1:=hid (show Only (fun b=>b=k.lb\/b=k.rm) W1 (W1.setCell ⟨k.lb,i,none⟩ (.slice (some ⟨p,0,none⟩) 128 pc)) from Only.setCell (Only.refl (fun b=>b=k.lb\/b=k.rm) W1) (.inr (.inl rfl)) _)
   clear d0 d2 R1 hg1 hg2 hg3 hw1 hW1 hold HS
   refine Zat fun K hK=>?_
   go_wp2
   refine hK _ _ HO1.out ?_
   clear hK K b1 f1
   rw [wpS]
   simp only [opsAt,opA,opB,opC,opD,opE,opF,opG]
   refine Zac ?_
   intro W2 hx2
   have HXV:=hid hx2
   obtain ⟨v0,st,W3',hrun,ho3,hst⟩:=(HG3.out.same (hx2.block _ HG3.out.lt (fun z=>z))).run_entry (P:=Tryz.prog) (e:=4) Tryz.underlying194 keyI zeroB i
   have HO3:=hid ho3; have HST:=hid hst
   have HO3':=hid (show Only (fun b=>b=k.lb\/b=k.rm) W2 W3' from ho3.mono fun b _ q=>.inr q)
   have HLT:=hid (show k.rm < W3'.heap.size from Nat.lt_of_lt_of_le HG3.out.lt (Nat.le_trans hx2.size ho3.size))
   clear ho3 hst hx2
   refine Zat fun K hK=>?_
   go_wp2
   refine hK _ _ HO3'.out ?_
   clear hK K hrun
   rw [wpS]
   simp only [opsAt,opA,opB,opC,opD,opE,opF,opG]
   (refine Zaa (fun K hK=>?_); go_simp; refine hK _ ?_; clear hK K)
   refine Zac ?_
   intro W4 hx4
   obtain ⟨W5,hrun,hm5,ho5⟩:=HST.out W4 (.bool true) (hx4.block _ HLT.out (fun z=>z))
   have HF:=hid (H.out.rotted HX1.out HI.out (xorTo_four _ a x) HSE.out HGP.out HG2.out hm5 ((((Ext.only HXV.out).trans HO3.out fun _ _ x=>x).trans (Ext.only hx4) fun _ _ x=>x).trans ho5 fun _ _ x=>x))
   have HO5:=hid (show Only (fun b=>b=k.lb\/b=k.rm) W4 W5 from ho5.mono fun b _ q=>.inr q)
   clear hx4 hm5 ho5
   refine Zat fun K hK=>?_
   go_wp2
   refine hK _ _ HO5.out ?_
   clear hK K hrun
   rw [wpS]
   simp only [opsAt,opA,opB,opC,opD,opE,opF,opG]
   refine Zac ?_
   intro W6 hx6
   have HF6:=hid (HF.out.then (FTo.ext HF.out.rep hx6))
   clear hx6
   go_wp2
   go_ret
   exact ⟨Zas HK.out.symm,_,by rw [HK.out]; exact HF6.out⟩
theorem frot_c {w:World} {k:FSk} {D:Dsk} (h:FRep w k D) (i a:Int) (x:Nat) (hx:x < 4294967296):Calls Tryz.prog 28 #[.pointer (some ⟨k.p,0,none⟩),.int .i64 i,.int .i64 a,.int .u32 x] w (FRotPost w k D i a x):=by
 have hl:=h.len
 rcases hd:D.dead with _ | _
 ·
  rcases hin:(decide (0<=i) && decide (i < (k.n:Int))) with _ | _
  ·
   exact frot_no2 h i a x hx (rotOk_out (by rw [hl]; exact hin)) hd hin
  ·
   by_cases h1:a < 0
   ·
    exact frot_no3 h i a x hx (Zbr (.inl h1)) hd hin h1
   ·
    by_cases h2:124 < a
    ·
     exact frot_no4 h i a x hx (Zbr (.inr (.inl h2))) hd hin h1 h2
    ·
     by_cases h3:x=0
     ·
      exact frot_no5 h i a x hx (Zbr (.inr (.inr h3))) hd hin h1 h2 h3
     ·
      have hb:0<=i/\i < (k.n:Int):=by simpa using hin
      rcases hr:D.rot i.toNat with _ | _
      ·
       obtain ⟨j,rfl⟩:∃ j:Nat,i=j:=⟨i.toNat,by omega⟩
       obtain ⟨b,rfl⟩:∃ b:Nat,a=b:=⟨a.toNat,by omega⟩
       have hok:D.rotOk j b x=true:=by
        rw [Int.toNat_natCast] at hr
        unfold Dsk.rotOk
        rw [hd,hl,Int.toNat_natCast,hr]
        simp
        omega
       exact frot_yes h j b x hx hok hd (by omega) (by omega) h3 hr
      ·
       have hok:D.rotOk i a x=false:=by unfold Dsk.rotOk; rw [hr]; simp
       exact frot_no6 h i a x hx hok hd hin h1 h2 h3 (by rw [hr]; simp; omega)
 ·
  have hok:D.rotOk i a x=false:=by unfold Dsk.rotOk; rw [hd]; simp
  exact frot_no1 h i a x hx hok hd
theorem push1 {t e:TypeId} {z:Value} {bytes:Nat} (ht:Tryz.prog.underlying t=some (.slice e)) (hinfo:(Tryz.prog.info? e).map (fun i=>(i.zero,i.size,i.bytes))=some (some z,1,bytes)) (hz:z.cells.size=1) (hby:bytes<=40)
  {w:World} {B:Nat} {v:Value} {l:List Value} {n:Nat} (h:w.ownsRow B e 1 v n l) (x:Value) (hx:x.oneCell'=true) (g:Nat) (hg:w.cell? ⟨g,0,none⟩=some x) (hn:n < 1000000) (hB:B<=w.heap.size) :
  ∃ v' w',(Builtin.append_ #[t,t] t #[v,.slice (some ⟨g,0,none⟩) 1 1]).run Tryz.prog w=.ok v' w'/\w'.ownsRow B e 1 v' (n+1) (l++[x]) ∧
   Only (fun b=>v.ownBlock=some b) w w'/\(v'.ownBlock=v.ownBlock\/v'.ownBlock=some w.heap.size):=by
 obtain ⟨i0,hi,hz0,hz1,hz2⟩:=info_parts hinfo
 obtain ⟨v',w',h1,h2,h3,_,h5⟩:=run_append_own_at (P:=Tryz.prog) (w:=w) B t t e i0 z 1 bytes ht hi hz0 hz1 hz2 hz (by decide)
  v n _ h ⟨g,0,none⟩ 1 1 [x] rfl
  (by
   intro j u hu
   have hj:j=0:=by
    rcases j with _ | j
    ·
     rfl
    ·
     simp at hu
   subst hj
   have e:(⟨g,0,none⟩:Addr).add 0=⟨g,0,none⟩:=rfl
   rw [e,hg]
   simpa using hu)
  (by intro u hu; simp at hu; subst hu; exact hx) (by unfold maxLen; omega)
  (by have:(n+1)*bytes<=(n+1)*40:=Nat.mul_le_mul_left _ hby; omega) hB
 exact ⟨v',w',h1,h2,(Only.refl (fun b=>v.ownBlock=some b) w).grown h3 (fun k _ e=>e),h5⟩
def KeepRow (v:Value) (w w':World):Prop :=
 Only (fun b=>v.ownBlock=some b) w w'/\∀ g cur E,v.ownBlock=some g->w.heap[g]?=some (.cells cur E (0,0))->∃ cur',w'.heap[g]?=some (.cells cur' E (0,0))/\cur'.size=cur.size
theorem KeepRow.ext {v:Value} {w w':World} (h:Ext w w'):KeepRow v w w':=⟨Ext.only h,fun g cur E _ hg=>⟨cur,Ext.at h hg,rfl⟩⟩
instance KeepRow.pre (v:Value):Pre (KeepRow v):=⟨fun w=>KeepRow.ext (Ext.refl w),fun h k=>⟨Only.trans h.1 k.1 (fun _ _ x=>x),fun g cur E hv hg=>by
 obtain ⟨c1,h1,h2⟩:=h.2 g cur E hv hg
 obtain ⟨c3,h3,h4⟩:=k.2 g c1 E hv h1
 exact ⟨c3,h3,h4.trans h2⟩⟩⟩
theorem infoB:(Tryz.prog.info? 38).map (fun i=>(i.zero,i.size,i.bytes))=some (some (.slice none 0 0),1,24):=by kernel_rfl
theorem infoD:(Tryz.prog.info? 55).map (fun i=>(i.zero,i.size,i.bytes))=some (some (.pointer none),1,8):=by kernel_rfl
def ndA (p:Nat) (v:Value):Array Value:=#[v,.map (some (p - 2)),.map (some (p - 1)),.bool false]
structure NDRel (w:World) (p:Nat) (j:Nat) (v:Value) (ss:Nat->Spot) (wr:World):Prop where
 own:wr.heap[p]?=some (.cells (ndA p v) 196 (0,0))
 row:wr.ownsRow (p+1) 38 1 v j ((List.range j).map fun i=>(ss i).val)
 ext:Ext w wr
 m1:MapI wr (p - 2) fun _=>none
 m2:MapI wr (p - 1) fun _=>none
 sec:∀ i,i < j->SecAt wr (ss i) Dsk.zeros/\p < (ss i).blk/\v.ownBlock≠some (ss i).blk
 inj:∀ i i',i < j->i' < j->(ss i).blk=(ss i').blk->i=i'
theorem ownBlock_of {v:Value} {B n:Nat} {e:TypeId} {w:World} {l:List Value} (h:w.ownsRow B e 1 v n l):∃ a ln cp,v=.slice a ln cp:=by
 rcases h.2 with ⟨h1,_⟩ | ⟨g,c,cur,h1,_⟩
 ·
  exact ⟨_,_,_,h1⟩
 ·
  exact ⟨_,_,_,h1⟩
theorem NDRel.step {w wr V1 V2 V3 W4 W5:World} {p j:Nat} {v v':Value} {ss:Nat->Spot} (hp:w.heap.size+2<=p) (h:NDRel w p j v ss wr) (x1:Ext wr V1)
  (x2:Ext (V1.alloc (.cells (bA Dsk.zeros) 5)) V2) (x3:Ext (V2.alloc (.cells #[.slice (some ⟨V1.heap.size,0,none⟩) 128 128] 38)) V3)
  (hrow:W4.ownsRow (p+1) 38 1 v' (j+1) (((List.range j).map fun i=>(ss i).val)++[.slice (some ⟨V1.heap.size,0,none⟩) 128 128])) (ho:Only (fun b=>v.ownBlock=some b) V3 W4)
  (hv:v'.ownBlock=v.ownBlock\/v'.ownBlock=some V3.heap.size) (x5:Ext W4 W5) :
  NDRel w p (j+1) v' (fun i=>if i=j then ⟨V1.heap.size,128⟩ else ss i) (W5.setCell ⟨p,0,none⟩ v'):=by
 have hvl:∀ b,v.ownBlock=some b->p+1<=b/\b < wr.heap.size:=fun b hb=>h.row.lt b hb
 have hO:Only (fun b=>v.ownBlock=some b) wr W5:=((Ext.only (Ext.trans x1 (Ext.trans ((Ext.refl V1).alloc _) (Ext.trans x2 (Ext.trans ((Ext.refl V2).alloc _) x3))))).trans ho fun _ _ x=>x).trans (Ext.only x5) fun _ _ x=>x
 have s1:=x1.size
 have s2:V1.heap.size+1<=V2.heap.size:=by have:=x2.size; simpa using this
 have s3:V2.heap.size+1<=V3.heap.size:=by have:=x3.size; simpa using this
 have s4:=ho.size
 have hpl:=lt_of_block h.own
 have hp5:W5.heap[p]?=some (.cells (ndA p v) 196 (0,0)):=hO.at h.own (fun q=>by have:=(hvl _ q).1; omega)
 have hkeep:∀ b,b≠p->(W5.setCell ⟨p,0,none⟩ v').heap[b]?=W5.heap[b]?:=fun b hb=>Zai _ hb
 have hold:∀ b,b < wr.heap.size->b≠p->v.ownBlock≠some b->(W5.setCell ⟨p,0,none⟩ v').heap[b]?=wr.heap[b]?:=fun b h1 h2 h3=>(hkeep b h2).trans (hO.block b h1 h3)
 have hv':∀ b,v'.ownBlock=some b->p+1<=b/\(v.ownBlock=some b\/b=V3.heap.size):=fun b hb=>by
  refine ⟨(hrow.lt b hb).1,?_⟩
  rcases hv with q | q
  ·
   exact .inl (q▸hb)
  ·
   rw [q] at hb; cases hb; exact .inr rfl
 refine ⟨?_,?_,?_,?_,?_,?_,?_⟩
 ·
  rw [Zar hp5]; rfl
 ·
  have e:((List.range (j+1)).map fun i=>(if i=j then (⟨V1.heap.size,128⟩:Spot) else ss i).val)=((List.range j).map fun i=>(ss i).val)++[.slice (some ⟨V1.heap.size,0,none⟩) 128 128]:=by
   rw [List.range_succ,List.map_append]
   congr 1
   ·
    apply List.map_congr_left
    intro i hi
    have:=List.mem_range.1 hi
    rw [if_neg (by omega)]
   ·
    simp [Spot.val]
  rw [e]
  refine ⟨hrow.1,?_⟩
  rcases hrow.2 with h' | ⟨g,c,cur,h1,h2,h3,h4⟩
  ·
   exact .inl h'
  ·
   have hg:g≠p:=by omega
   exact .inr ⟨g,c,cur,h1,h2,(hkeep g hg).trans ((x5.block g (lt_of_block h3) (fun z=>z)).trans h3),h4⟩
 ·
  exact Only.setCell (F:=fun _=>False) (Ext.then h.ext hO (fun i hi hb=>by have:=(hvl _ hb).1; have:=h.ext.size; omega)) (.inl (by show w.heap.size<=p; omega)) _
 ·
  exact h.m1.same (hold _ h.m1.lt (by omega) (fun q=>by have:=(hvl _ q).1; omega))
 ·
  exact h.m2.same (hold _ h.m2.lt (by omega) (fun q=>by have:=(hvl _ q).1; omega))
 ·
  intro i hi
  by_cases hij:i=j
  ·
   subst hij
   simp only [if_true]
   have hz:∀ x∈Dsk.zeros,x < 256:=by simp [Dsk.zeros]
   have b1:Blk (V1.alloc (.cells (bA Dsk.zeros) 5)) V1.heap.size Dsk.zeros:=Zad
   have b2:Blk V3 V1.heap.size Dsk.zeros:=Ext.at (Ext.trans x2 (Ext.trans ((Ext.refl V2).alloc _) x3)) b1
   have b3:Blk (W5.setCell ⟨p,0,none⟩ v') V1.heap.size Dsk.zeros:=(hkeep _ (by omega)).trans (x5.at (ho.at b2 (fun q=>by have:=(hvl _ q).2; omega)))
   refine ⟨⟨Zcc,hz,b3.owns Zcc (by omega)⟩,by show p < V1.heap.size; omega,fun q=>?_⟩
   rcases (hv' _ q).2 with q2 | q2
   ·
    have:=(hvl _ q2).2; omega
   ·
    omega
  ·
   have hi':i < j:=by omega
   obtain ⟨q1,q2,q3⟩:=h.sec i hi'
   simp only [hij,if_false]
   refine ⟨q1.same (hold _ q1.lt (by omega) q3),q2,fun q=>?_⟩
   rcases (hv' _ q).2 with q4 | q4
   ·
    exact q3 q4
   ·
    have:=q1.lt; omega
 ·
  intro i i' hi hi' he
  by_cases hij:i=j
  ·
   by_cases hij':i'=j
   ·
    omega
   ·
    simp only [hij,hij',if_true,if_false] at he
    have:=(h.sec i' (by omega)).1.lt; omega
  ·
   by_cases hij':i'=j
   ·
    simp only [hij,hij',if_true,if_false] at he
    have:=(h.sec i (by omega)).1.lt; omega
   ·
    simp only [hij,hij',if_false] at he
    exact h.inj i i' (by omega) (by omega) he
def FNewPost (w:World) (n:Nat) (e:Ending) (w':World):Prop :=
 ∃ k,e=.returned (.tuple #[.pointer (some ⟨k.p,0,none⟩),.int .i64 0])/\FRep w' k (Dsk.new n)/\k.n=n/\(∀ b,k.foot b->w.heap.size<=b)/\Ext w w'
theorem NDRel.fin {w wr:World} {p n:Nat} {v:Value} {ss:Nat->Spot} (hp:p=w.heap.size+2) (h1:1<=n) (h2:n<=128) (h:NDRel w p n v ss wr):FNewPost w n (.returned (.tuple #[.pointer (some ⟨p,0,none⟩),.int .i64 0])) wr:=by
 rcases h.row.2 with ⟨_,h0⟩ | ⟨g,c,cur,r1,r2,r3,r4,r5,r6,r7⟩
 ·
  omega
 ·
  subst r1
  have hpl:=lt_of_block h.own
  rw [Nat.mul_one] at r6 r7
  have hl:cur.toList=((List.range n).map fun i=>(ss i).val)++cur.toList.drop n:=by
   rw [<- r7]; exact (List.take_append_drop n _).symm
  let k:FSk:=⟨p,g,p - 2,p - 1,n,ss,fun _=>none,cur.toList.drop n⟩
  have hc:k.c=c:=by
   show n+(cur.toList.drop n).length=c
   rw [List.length_drop,Array.length_toList]; omega
  have hat:∀ x b,k.at_ x=some b->(x=.p/\b=p)\/(x=.lb/\b=g)\/(x=.wm/\b=p - 2)\/(x=.rm/\b=p - 1)\/∃ i,i < n/\x=.sec i/\b=(ss i).blk:=by
   intro x b hx
   cases x with
   | p=>exact .inl ⟨rfl,(Option.some.inj hx).symm⟩
   | lb=>exact .inr (.inl ⟨rfl,(Option.some.inj hx).symm⟩)
   | wm=>exact .inr (.inr (.inl ⟨rfl,(Option.some.inj hx).symm⟩))
   | rm=>exact .inr (.inr (.inr (.inl ⟨rfl,(Option.some.inj hx).symm⟩)))
   | sec i =>
    have hx:(if i < n then some (ss i).blk else none)=some b:=hx
    by_cases hi:i < n
    ·
     rw [if_pos hi] at hx; exact .inr (.inr (.inr (.inr ⟨i,hi,rfl,(Option.some.inj hx).symm⟩)))
    ·
     rw [if_neg hi] at hx; cases hx
   | wait i=>cases hx
  have hsec:∀ i,i < n->p < (ss i).blk/\g≠(ss i).blk:=fun i hi=>⟨(h.sec i hi).2.1,fun q=>(h.sec i hi).2.2 (by rw [<- q]; rfl)⟩
  refine ⟨k,rfl,⟨by simp [Dsk.new,k],h1,h2,?_,?_,?_,?_,(fun i s hs=>by cases hs),fun i _=>rfl,?_,?_⟩,rfl,?_,h.ext⟩
  ·
   have:fskA k (Dsk.new n)=ndA p (.slice (some ⟨g,0,none⟩) n c):=by
    show #[Value.slice (some ⟨g,0,none⟩) n k.c,_,_,_]=_
    rw [hc]; rfl
   rw [this]; exact h.own
  ·
   show wr.heap[g]?=some (.cells k.arr _ _)
   rw [r3]
   congr 2
   apply Array.ext'
   rw [FSk.arr_def]
   exact hl
  ·
   intro i hi
   have hi:i < n:=hi
   have e1:(Dsk.new n).l.getD i []=Dsk.zeros:=by simp [Dsk.new,List.getD_eq_getElem?_getD,hi]
   rw [e1]
   exact (h.sec i hi).1
  ·
   have e2:(iKey fun i=>((k.wf i).map Spot.val))=fun _=>none:=by funext i; simp [iKey,k]
   rw [e2]; exact h.m1
  ·
   exact ⟨fun _=>none,h.m2,fun i=>by simp [Dsk.new]⟩
  ·
   intro x y b hx hy
   rcases hat x b hx with ⟨rfl,h6⟩ | ⟨rfl,h6⟩ | ⟨rfl,h6⟩ | ⟨rfl,h6⟩ | ⟨i,hi,rfl,h6⟩<;>rcases hat y b hy with ⟨rfl,h7⟩ | ⟨rfl,h7⟩ | ⟨rfl,h7⟩ | ⟨rfl,h7⟩ | ⟨j,hj,rfl,h7⟩<;>first | rfl | omega | skip
   all_goals first
    | (have:=hsec j hj; omega)
    | (have:=hsec i hi; omega)
    | (rw [h.inj i j hi hj (by omega)])
  ·
   intro b ⟨x,hx⟩
   rcases hat x b hx with ⟨rfl,h6⟩ | ⟨rfl,h6⟩ | ⟨rfl,h6⟩ | ⟨rfl,h6⟩ | ⟨i,hi,rfl,h6⟩
   ·
    omega
   ·
    omega
   ·
    omega
   ·
    omega
   ·
    have:=(hsec i hi).1; omega
set_option maxRecDepth 100000 in
set_option maxHeartbeats 1000000 in
theorem fnew_c (n:Nat) (h1:1<=n) (h2:n<=128) (w:World):Calls Tryz.prog 99 #[.int .i64 n] w (FNewPost w n):=by
 have i1:¬(n:Int) < 1:=by omega
 have i2:¬(128:Int) < (n:Int):=by omega
 have hmm:=@run_makeMap Tryz.prog
 obtain ⟨W0,hW0⟩:∃ W,((w.alloc (.map #[] 0)).alloc (.map #[] 0)).alloc (.cells #[.slice none 0 0,.map (some w.heap.size),.map (some (w.heap.size+1)),.bool false] 196)=W:=⟨_,rfl⟩
 have e2:((w.alloc (.map #[] 0)).alloc (.map #[] 0)).heap.size=w.heap.size+1+1:=by simp
 have HS:=hid (show NDRel w (w.heap.size+1+1) 0 (.slice none 0 0) (fun _=>⟨0,0⟩) W0 from ⟨by
  have e3:ndA (w.heap.size+1+1) (.slice none 0 0)=#[.slice none 0 0,.map (some w.heap.size),.map (some (w.heap.size+1)),.bool false]:=rfl
  rw [e3,<- hW0,<- e2]; exact heap_alloc_new _ _,World.ownsRow_nil _ _ _ _,hW0▸(((Ext.refl w).alloc _).alloc _).alloc _,by
  have:=MapI.made w
  rw [show w.heap.size+1+1 - 2=w.heap.size by omega]
  refine this.same ?_
  rw [<- hW0,heap_alloc_old _ _ (by simp; omega),heap_alloc_old _ _ (by simp)],by
  have:=MapI.made (w.alloc (.map #[] 0))
  have e1:(w.alloc (.map #[] 0)).heap.size=w.heap.size+1:=by simp
  rw [e1] at this
  rw [show w.heap.size+1+1 - 1=w.heap.size+1 by omega]
  refine this.same ?_
  rw [<- hW0,heap_alloc_old _ _ (by simp)],fun i hi=>by omega,fun i i' hi=>by omega⟩)
 have HW0:=hid hW0
 clear hW0 e2
 go_enter Tryz.func99,Tryz.ntmps99
 go_wp2
 rw [HW0.out]
 obtain ⟨p,hp⟩:∃ p,w.heap.size+1+1=p:=⟨_,rfl⟩
 rw [hp] at HS ⊢
 have HWP:=hid hp
 clear hmm hp
 go_loopw [5] (fun i wr=>∃ j:Nat,i=.int .i64 j/\j<=n/\∃ v ss,NDRel w p j v ss wr) (fun i _=>n - (intOf i).toNat)
 case atStart=>exact ⟨0,rfl,by omega,_,_,HS.out⟩
 case round =>
  clear HS
  obtain ⟨j,rfl,hj,v,ss,hrel⟩:=hrel
  have HR:=hid hrel
  by_cases hlt:j < n
  ·
   have j0:(0:Int)<=(j:Int):=by omega
   have j1:(j:Int) < (n:Int):=by omega
   have c0:∀ x:SW (Only fun b=>v.ownBlock=some b) wr.drew,x.w.cell? ⟨p,0,none⟩=some v:=fun x=>x.ext.cell (Ext.cell (Ext.refl wr).drew ((Zaf hrel.own).trans rfl)) (fun hb=>by have:=(hrel.row.lt p hb).1; omega)
   have hms:=make_sector
   clear hrel
   go_wp2_with fail
   refine Zbf (E:=Ext) (S:=Only fun b=>v.ownBlock=some b) 8 (.one [0,1,2,3,4] 5 (.one [] 6 (.one [] 7 (.fin [])))) (by kernel_rfl) (by kernel_rfl) (fun _ _ d _ _ h=>by cases d<;>exact h) ?_
   rw [wpS]
   simp only [opsAt,opA,opB,opC,opD,opE,opF,opG]
   iterate 5 ((refine Zaa (fun K hK=>?_); go_simp; refine hK _ ?_; clear hK K))
   refine Zac ?_
   intro V1 hV1
   have X1:=hid (Ext.trans (Ext.refl wr).drew hV1)
   clear hV1 c0
   refine Zat fun K hK=>?_
   go_wp2
   refine hK _ _ (Ext.only ((Ext.refl V1).alloc _)) ?_
   clear hK K hms
   rw [wpS]
   simp only [opsAt,opA,opB,opC,opD,opE,opF,opG]
   refine Zac ?_
   intro V2 hV2
   have X2:=hid hV2
   clear hV2
   refine Zat fun K hK=>?_
   go_wp2
   refine hK _ _ (Ext.only ((Ext.refl V2).alloc _)) ?_
   clear hK K
   rw [wpS]
   simp only [opsAt,opA,opB,opC,opD,opE,opF,opG]
   refine Zac ?_
   intro V3 hV3
   have X3:=hid hV3
   have hx:=Ext.trans X1.out (Ext.trans ((Ext.refl V1).alloc _) (Ext.trans X2.out (Ext.trans ((Ext.refl V2).alloc _) hV3)))
   have hg:V3.cell? ⟨V2.heap.size,0,none⟩=some (.slice (some ⟨V1.heap.size,0,none⟩) 128 128):=Zaf (hV3.at Zad)
   obtain ⟨v',W4,hap,hown,ho4,hv4⟩:=push1 (t:=159) (e:=38) Tryz.underlying159 infoB rfl (by omega) (Zcl HR.out.row hx) (.slice (some ⟨V1.heap.size,0,none⟩) 128 128) rfl V2.heap.size hg (by omega) (Nat.le_trans (lt_of_block HR.out.own) hx.size)
   have HAP:=hid hap; have HO:=hid hown; have HO4:=hid ho4; have HV4:=hid hv4
   obtain ⟨a',ln',cp',rfl⟩:=ownBlock_of hown
   clear hap hown ho4 hv4 hg hx hV3
   refine Zat fun K hK=>?_
   refine wpList_append_run rfl _ _ _ rfl _ _ _ _ rfl rfl HAP.out ?_
   go_wp2
   refine hK _ _ HO4.out ?_
   clear hK K
   rw [wpS]
   simp only [opsAt,opA,opB,opC,opD,opE,opF,opG]
   refine Zac ?_
   intro W5 hW5
   have hst:=HR.out.step (by have:=HWP.out; omega) X1.out X2.out X3.out HO.out HO4.out HV4.out hW5
   have HF:=hid hst
   have h5:W5.heap[p]?=some (.cells (ndA p v) 196 (0,0)):=hW5.at (HO4.out.at (Ext.at (Ext.trans X1.out (Ext.trans ((Ext.refl V1).alloc _) (Ext.trans X2.out (Ext.trans ((Ext.refl V2).alloc _) X3.out)))) HR.out.own) (fun hb=>by have:=(HR.out.row.lt _ hb).1; omega))
   have c5:W5.cell? ⟨p,0,none⟩=some v:=(Zaf h5).trans rfl
   have f5:W5.frozen? ⟨p,0,none⟩=false:=Zax h5
   clear hst hW5 h5
   go_wp2
   go_roundw
   case rel=>exact ⟨j+1,by go_num,by omega,_,_,HF.out⟩
   case measure=>simp [intOf]; omega
  ·
   obtain rfl:n=j:=by omega
   have HF:=hid (HR.out.fin (by have:=HWP.out; omega) h1 h2)
   clear hrel
   go_wp2
   go_ret2
   exact HF.out
structure NRRel (w:World) (p m j:Nat) (v:Value) (ks:Nat->FSk) (wr:World):Prop where
 own:wr.heap[p]?=some (.cells #[v,.int .i64 (-1),.bool false] 54 (0,0))
 row:wr.ownsRow (p+1) 55 1 v j ((List.range j).map fun i=>.pointer (some ⟨(ks i).p,0,none⟩))
 ext:Ext w wr
 dsk:∀ i,i < j->FRep wr (ks i) (Dsk.new m)/\(ks i).n=m/\∀ b,(ks i).foot b->p < b/\v.ownBlock≠some b
 one:∀ i i' b,i < j->i' < j->(ks i).foot b->(ks i').foot b->i=i'
theorem NRRel.step {w wr w2 W3:World} {p m j:Nat} {v v':Value} {ks:Nat->FSk} {k:FSk} (hp:w.heap.size<=p) (h:NRRel w p m j v ks wr) (x2:Ext wr w2) (hk:FRep w2 k (Dsk.new m)) (hkn:k.n=m) (hkf:∀ b,k.foot b->wr.heap.size<=b)
  (hrow:W3.ownsRow (p+1) 55 1 v' (j+1) (((List.range j).map fun i=>.pointer (some ⟨(ks i).p,0,none⟩))++[.pointer (some ⟨k.p,0,none⟩)]))
  (ho:Only (fun b=>v.ownBlock=some b) (w2.alloc (.cells #[.pointer (some ⟨k.p,0,none⟩)] 55)) W3) (hv:v'.ownBlock=v.ownBlock\/v'.ownBlock=some (w2.alloc (.cells #[.pointer (some ⟨k.p,0,none⟩)] 55)).heap.size) :
  NRRel w p m (j+1) v' (fun i=>if i=j then k else ks i) (W3.setCell ⟨p,0,none⟩ v'):=by
 have hvl:∀ b,v.ownBlock=some b->p+1<=b/\b < wr.heap.size:=fun b hb=>h.row.lt b hb
 have xa:Ext w2 (w2.alloc (.cells #[.pointer (some ⟨k.p,0,none⟩)] 55)):=(Ext.refl w2).alloc _
 have hsz:(w2.alloc (.cells #[.pointer (some ⟨k.p,0,none⟩)] 55)).heap.size=w2.heap.size+1:=by simp
 have hO:Only (fun b=>v.ownBlock=some b) wr W3:=(Ext.only (Ext.trans x2 xa)).trans ho fun _ _ x=>x
 have s2:=x2.size
 have hpl:=lt_of_block h.own
 have hp3:W3.heap[p]?=some (.cells #[v,.int .i64 (-1),.bool false] 54 (0,0)):=hO.at h.own (fun q=>by have:=(hvl p q).1; omega)
 have hkeep:∀ b,b≠p->(W3.setCell ⟨p,0,none⟩ v').heap[b]?=W3.heap[b]?:=fun b hb=>Zai _ hb
 have hv':∀ b,v'.ownBlock=some b->v.ownBlock=some b\/b=w2.heap.size+1:=fun b hb=>by
  rcases hv with q | q
  ·
   exact .inl (q▸hb)
  ·
   rw [q,hsz] at hb; cases hb; exact .inr rfl
 refine ⟨?_,?_,?_,?_,?_⟩
 ·
  rw [Zar hp3]; rfl
 ·
  have e:((List.range (j+1)).map fun i=>Value.pointer (some ⟨(if i=j then k else ks i:FSk).p,0,none⟩))=((List.range j).map fun i=>Value.pointer (some ⟨(ks i).p,0,none⟩))++[.pointer (some ⟨k.p,0,none⟩)]:=by
   rw [List.range_succ,List.map_append]
   congr 1
   ·
    apply List.map_congr_left
    intro i hi
    have:=List.mem_range.1 hi
    rw [if_neg (by omega)]
   ·
    simp
  rw [e]
  refine ⟨hrow.1,?_⟩
  rcases hrow.2 with h' | ⟨g,c,cur,h1,h2,h3,h4⟩
  ·
   exact .inl h'
  ·
   exact .inr ⟨g,c,cur,h1,h2,(hkeep g (by omega)).trans h3,h4⟩
 ·
  exact Only.setCell (F:=fun _=>False) (Ext.then h.ext hO (fun i hi hb=>by have:=(hvl _ hb).1; omega)) (.inl hp) _
 ·
  intro i hi
  by_cases hij:i=j
  ·
   subst hij
   simp only [if_true]
   refine ⟨(((hk.ext xa).only ho fun b hb q=>by have:=hkf b hb; have:=(hvl b q).2; omega)).same fun b hb=>hkeep b (by have:=hkf b hb; omega),hkn,fun b hb=>⟨by have:=hkf b hb; omega,fun q=>?_⟩⟩
   rcases hv' b q with q2 | q2
   ·
    have:=(hvl b q2).2; have:=hkf b hb; omega
   ·
    have:=hk.lt hb; omega
  ·
   have hi':i < j:=by omega
   obtain ⟨q1,q2,q3⟩:=h.dsk i hi'
   simp only [hij,if_false]
   refine ⟨(q1.only hO fun b hb q=>(q3 b hb).2 q).same fun b hb=>hkeep b (by have:=(q3 b hb).1; omega),q2,fun b hb=>⟨(q3 b hb).1,fun q=>?_⟩⟩
   rcases hv' b q with q4 | q4
   ·
    exact (q3 b hb).2 q4
   ·
    have:=q1.lt hb; omega
 ·
  intro i i' b hi hi' hb hb'
  by_cases hij:i=j
  ·
   by_cases hij':i'=j
   ·
    omega
   ·
    simp only [hij,hij',if_true,if_false] at hb hb'
    have:=(h.dsk i' (by omega)).1.lt hb'; have:=hkf b hb; omega
  ·
   by_cases hij':i'=j
   ·
    simp only [hij,hij',if_true,if_false] at hb hb'
    have:=(h.dsk i (by omega)).1.lt hb; have:=hkf b hb'; omega
   ·
    simp only [hij,hij',if_false] at hb hb'
    exact h.one i i' b (by omega) (by omega) hb hb'
def FRNewPost (w:World) (n m:Nat) (e:Ending) (w':World):Prop:=∃ q,e=.returned (.tuple #[.pointer (some ⟨q,0,none⟩),.int .i64 0])/\FRackAt (fun b=>b < w.heap.size) w' q (Rck.new n m)/\Ext w w'
theorem NRRel.fin {w wr:World} {p n m:Nat} {v:Value} {ks:Nat->FSk} (hp:w.heap.size<=p) (h1:1<=n) (h8:n<=8) (h:NRRel w p m n v ks wr):FRNewPost w n m (.returned (.tuple #[.pointer (some ⟨p,0,none⟩),.int .i64 0])) wr:=by
 rcases h.row.2 with ⟨_,h0⟩ | ⟨g,c,cur,r1,r2,r3,r4,r5,r6,r7⟩
 ·
  omega
 ·
  subst r1
  let K:FRSk:=⟨p,g,c,n,m,-1,ks⟩
  have hg:∀ i b,i < n->(ks i).foot b->b≠p/\b≠g:=fun i b hi hb=>by
   obtain ⟨_,_,q⟩:=h.dsk i hi
   exact ⟨by have:=(q b hb).1; omega,fun e=>(q b hb).2 (by rw [e]; rfl)⟩
  have hget:∀ i,i < n->(Rck.new n m).l.getD i default=Dsk.new m:=fun i hi=>by simp [Rck.new,List.getD_eq_getElem?_getD,hi]
  have hrep:FRackRep wr K (Rck.new n m):=⟨by simp [Rck.new,K],h1,h8,by
   show wr.heap[p]?=some (.cells #[Value.slice (some ⟨g,0,none⟩) n c,.int .i64 (-1),.bool false] _ _)
   exact h.own,⟨h.row.1,.inr ⟨g,c,cur,rfl,Nat.zero_le _,r3,r4,r5,r6,r7⟩⟩,fun i hi=>by rw [hget i hi]; exact (h.dsk i hi).1,fun i hi=>(h.dsk i hi).2.1,⟨by show (-1:Int)<=-1; omega,by show (-1:Int)<=_; omega⟩,fun _=>rfl,h.one,hg,by show p≠g; omega⟩
  refine ⟨p,rfl,⟨fun b hb=>Nat.lt_of_lt_of_le hb h.ext.size,K,rfl,hrep,fun b hb hs=>?_⟩,h.ext⟩
  have hs:b < w.heap.size:=hs
  rcases hb with hb | hb | ⟨i,hi,hb⟩
  ·
   have hb:b=p:=hb; omega
  ·
   have hb:b=g:=hb; omega
  ·
   have:=((h.dsk i hi).2.2 b hb).1; omega
set_option maxRecDepth 100000 in
set_option maxHeartbeats 1000000 in
theorem frnew_c (n m:Nat) (h1:1<=n) (h8:n<=8) (hm:1<=m) (hm2:m<=128) (w:World):Calls Tryz.prog 10 #[.int .i64 n,.int .i64 m] w (FRNewPost w n m):=by
 have i1:¬(n:Int) < 1:=by omega
 have i2:¬(8:Int) < (n:Int):=by omega
 have HS:Hid (NRRel w w.heap.size m 0 (.slice none 0 0) (fun _=>⟨0,0,0,0,0,fun _=>⟨0,0⟩,fun _=>none,[]⟩) (w.alloc (.cells #[.slice none 0 0,.int .i64 (-1),.bool false] 54))):=hid ⟨heap_alloc_new _ _,World.ownsRow_nil _ _ _ _,(Ext.refl w).alloc _,fun i hi=>by omega,fun i i' b hi=>by omega⟩
 go_enter Tryz.func10,Tryz.ntmps10
 go_wp2
 go_loopw [7] (fun i wr=>∃ j:Nat,i=.int .i64 j/\j<=n/\∃ v ks,NRRel w w.heap.size m j v ks wr) (fun i _=>n - (intOf i).toNat)
 case atStart=>exact ⟨0,rfl,by omega,_,_,HS.out⟩
 case round =>
  clear HS
  obtain ⟨j,rfl,hj,v,ks,hrel⟩:=hrel
  have HR:=hid hrel
  by_cases hlt:j < n
  ·
   have j0:(0:Int)<=(j:Int):=by omega
   have j1:(j:Int) < (n:Int):=by omega
   clear hrel
   go_wp2_with fail
   refine (fnew_c m hm hm2 wr).mono ?_
   rintro e w2 ⟨k,rfl,hk,hkn,hkf,x2⟩
   have hc2:w2.heap[w.heap.size]?=some (.cells #[v,.int .i64 (-1),.bool false] 54 (0,0)):=x2.at HR.out.own
   have c0:w2.cell? ⟨w.heap.size,0,none⟩=some v:=Zaf hc2
   have xa:Ext w2 (w2.alloc (.cells #[.pointer (some ⟨k.p,0,none⟩)] 55)):=(Ext.refl w2).alloc _
   have hwl:=lt_of_block HR.out.own
   obtain ⟨v',W3,hap,hown3,ho3,hv3⟩:=push1 (t:=52) (e:=55) Tryz.underlying52 infoD rfl (by omega) (Zcl (Zcl HR.out.row x2) xa) (.pointer (some ⟨k.p,0,none⟩)) rfl w2.heap.size (Zaf Zad) (by omega) (by have:=x2.size; have:=xa.size; omega)
   have hnv:∀ q,v.ownBlock=some q->w.heap.size < q/\q < wr.heap.size:=fun q hq=>by have:=HR.out.row.lt q hq; omega
   have hc3:W3.heap[w.heap.size]?=some (.cells #[v,.int .i64 (-1),.bool false] 54 (0,0)):=ho3.at (xa.at hc2) (fun hb=>by have:=(hnv _ hb).1; omega)
   have c3:W3.cell? ⟨w.heap.size,0,none⟩=some v:=Zaf hc3
   have f3:W3.frozen? ⟨w.heap.size,0,none⟩=false:=Zax hc3
   have HF:=hid (HR.out.step (Nat.le_refl _) x2 hk hkn hkf hown3 ho3 hv3)
   have HAP:=hid hap
   obtain ⟨a',ln',cp',rfl⟩:=ownBlock_of hown3
   clear hap hown3 ho3 hv3 hc2 hc3 hk hkn hkf x2 xa hnv
   go_wp2_with (at_builtin; refine wpList_append_run rfl _ _ _ rfl _ _ _ _ rfl rfl HAP.out ?_)
   go_roundw
   case rel=>exact ⟨j+1,by go_num,by omega,_,_,HF.out⟩
   case measure=>simp [intOf]; omega
  ·
   obtain rfl:n=j:=by omega
   have HF:=hid (HR.out.fin (Nat.le_refl _) h1 h8)
   clear hrel
   go_wp2
   go_ret2
   exact HF.out
section
variable {S:Nat->Prop} {w:World} {r:Nat} {R:Rck}
theorem fat_write (h:FRackAt S w r R) (i s:Int) (a:Option Addr) (n c:Nat) (l:List Nat) (hb:BytesAt w a n l) :
  Calls Tryz.prog 17 #[.pointer (some ⟨r,0,none⟩),.int .i64 i,.int .i64 s,.slice a n c] w fun e w'=>e=.returned (.int .i64 (okind (R.write i s l).1))/\FRackAt S w' r (R.write i s l).2/\Keeps S w w':=by
 obtain ⟨h0,K,rfl,h2,h3⟩:=h
 refine (frwrite_c h2 i s a n c l hb).mono ?_
 rintro e w' ⟨rfl,K',ht⟩
 exact ⟨rfl,ht.at_ h0 h3⟩
theorem fat_flush (h:FRackAt S w r R) (i:Int) :
  Calls Tryz.prog 19 #[.pointer (some ⟨r,0,none⟩),.int .i64 i] w fun e w'=>e=.returned (.int .i64 (okind (R.flush i).1))/\FRackAt S w' r (R.flush i).2/\Keeps S w w':=by
 obtain ⟨h0,K,rfl,h2,h3⟩:=h
 refine (frflush_c h2 i).mono ?_
 rintro e w' ⟨rfl,K',ht⟩
 exact ⟨rfl,ht.at_ h0 h3⟩
theorem fat_read (h:FRackAt S w r R) (i s:Int) :
  Calls Tryz.prog 35 #[.pointer (some ⟨r,0,none⟩),.int .i64 i,.int .i64 s] w (FRReadPost w R i s):=by
 obtain ⟨h0,K,rfl,h2,h3⟩:=h
 exact frread_c h2 i s
theorem fat_get (h:FRackAt S w r R) (i s kind slot stripe:Int) :
  Calls Tryz.prog 33 #[.pointer (some ⟨r,0,none⟩),.int .i64 i,.int .i64 s,.int .i64 kind,.int .i64 slot,.int .i64 stripe] w (RGetPost w R i s kind slot stripe):=by
 obtain ⟨h0,K,rfl,h2,h3⟩:=h
 exact frget_c h2 i s kind slot stripe
theorem fat_up (h:FRackAt S w r R) (i:Int) :
  Calls Tryz.prog 30 #[.pointer (some ⟨r,0,none⟩),.int .i64 i] w fun e w'=>e=.returned (.bool (R.up i))/\w=w':=by
 obtain ⟨h0,K,rfl,h2,h3⟩:=h
 exact frup_c h2 i
theorem fat_arm (h:FRackAt S w r R) (n:Int) (hn:n<=9223372036854775807) :
  Calls Tryz.prog 21 #[.pointer (some ⟨r,0,none⟩),.int .i64 n] w fun e w'=>e=.returned (.tuple #[])/\FRackAt S w' r (R.arm n)/\Keeps S w w':=by
 obtain ⟨h0,K,rfl,h2,h3⟩:=h
 refine (frarm_c h2 n hn).mono ?_
 rintro e w' ⟨rfl,ht⟩
 exact ⟨rfl,ht.at_ h0 h3⟩
theorem fat_boot (h:FRackAt S w r R) (a:Option Addr) (n c:Nat) (bits:List Nat) (hb:BitsAt w a n bits) (hs:∀ p,a=some p->0 < n->S p.block) :
  Calls Tryz.prog 23 #[.pointer (some ⟨r,0,none⟩),.slice a n c] w fun e w'=>e=.returned (.tuple #[])/\FRackAt S w' r (R.boot bits)/\Keeps S w w':=by
 obtain ⟨h0,K,rfl,h2,h3⟩:=h
 refine (frboot_c h2 a n c bits hb (fun p hp hn hf=>h3 _ hf (hs p hp hn))).mono ?_
 rintro e w' ⟨rfl,K',ht⟩
 exact ⟨rfl,ht.at_ h0 h3⟩
theorem fat_disk (h:FRackAt S w r R) {j:Nat} (hj:j < R.l.length):∃ g n c p k,w.cell? ⟨r,0,none⟩=some (.slice (some ⟨g,0,none⟩) n c)/\n=R.l.length/\w.cell? ⟨g,j,none⟩=some (.pointer (some ⟨p,0,none⟩))/\k.p=p/\FRep w k (R.dsk (j:Int))/\(∀ b,k.foot b->b≠r/\b≠g/\¬S b) ∧
  ∀ w' k' D',FTo w k w' D' k'->FRackAt S w' r (R.setD (j:Int) D')/\Keeps S w w':=by
 obtain ⟨h0,K,rfl,h2,h3⟩:=h
 rw [h2.len] at hj
 refine ⟨K.lb,K.n,K.cap,(K.ks j).p,K.ks j,h2.cell0,h2.len.symm,h2.cellP j hj,rfl,h2.dskAt hj,fun b hb=>⟨(h2.far j b hj hb).1,(h2.far j b hj hb).2,h3 b (.inr (.inr ⟨j,hj,hb⟩))⟩,fun w' k' D' t=>?_⟩
 exact (FRackTo.disk (x:=K.f) (R1:=R) h2 (Only.refl _ _) hj t).at_ h0 h3
theorem fat_off (h:FRackAt S w r R):w.cell? ⟨r,2,none⟩=some (.bool R.off):=by
 obtain ⟨h0,K,rfl,h2,h3⟩:=h
 exact h2.cell1
theorem fat_n (h:FRackAt S w r R):∃ g c,w.cell? ⟨r,0,none⟩=some (.slice (some ⟨g,0,none⟩) R.l.length c):=by
 obtain ⟨h0,K,rfl,h2,h3⟩:=h
 rw [h2.len]
 exact ⟨_,_,h2.cell0⟩
end
end Go.Proofs.YtgjnnbomnoafcaaGreatDoor
