/- Texts of one proof, joined: RackD, RackAt, StepLaws, RackG, RackOff. -/
import Derived.Test.YtgjnnbomnoafcaaGreatPE
import Derived.Test.YtgjnnbomnoafcaaGreatPB
import Derived.Test.YtgjnnbomnoafcaaGreatPD
set_option linter.unusedVariables false
set_option linter.unusedSimpArgs false
namespace Go.Proofs.YtgjnnbomnoafcaaGreat
set_option linter.unusedVariables false
open Go Go.RowKit
def gotO (o:Option Frm):Value:=.tuple #[.agg (Frm.A (o.getD Frm.zero)),.bool o.isSome]
def RGetPost (w:World) (R:Rck) (i s kind slot stripe:Int) (e:Ending) (w':World):Prop:=e=.returned (gotO (R.get i s kind slot stripe))/\Ext w w'
theorem Za5 {w:World} {A Z:Array Value} {t:TypeId} {i:Nat} {v:Value} (h:A[i]?=some v):((w.alloc (.cells Z t)).setRow w.heap.size A).cell? ⟨w.heap.size,i,none⟩=some v:=by
 rw [Zaj,Zaf Zad]; exact h
theorem RackRep.bytes {w:World} {K:RSk} {R:Rck} (h:RackRep w K R) {i s:Int} (hr:R.readE i s=none):((R.dsk i).read s.toNat).length=128/\∀ x∈(R.dsk i).read s.toNat,x < 256:=by
 unfold Rck.readE at hr
 cases hh:R.has i
 ·
  rw [hh] at hr; simp at hr
 ·
  rw [hh,if_neg (by simp)] at hr
  obtain ⟨j,rfl,hj⟩:=h.has_nat hh
  split at hr
  ·
   cases hr
  ·
   simp only [Option.map_eq_none_iff] at hr
   obtain ⟨_,_,t,rfl,ht⟩:=refused_none hr
   have hd:=h.dskAt hj
   rw [hd.len] at ht
   rw [Int.toNat_natCast]
   unfold Dsk.read
   rcases hw:(K.ks j).wf t with _ | p
   ·
    rw [hd.waitN t hw]; exact ⟨(hd.sec t ht).1,(hd.sec t ht).2.1⟩
   ·
    obtain ⟨_,l,hl,hs⟩:=hd.waitS t p hw
    rw [hl]; exact ⟨hs.1,hs.2.1⟩
theorem Frm.get_ok {l:List Nat} {f:Frm} (hb:∀ x∈l,x < 256) (h:Frm.get l=some f):f.Ok:=by
 unfold Frm.get at h
 split at h
 ·
  rename_i hc
  cases h
  exact ⟨by simp [Frm.parse,hc.1],fun x hx=>hb x (List.mem_of_mem_drop (List.mem_of_mem_take hx))⟩
 ·
  cases h
set_option maxRecDepth 100000 in
set_option maxHeartbeats 1000000 in
theorem rget_err {w:World} {K:RSk} {R:Rck} (h:RackRep w K R) (i s kind slot stripe:Int) (er:Err) (hr:R.readE i s=some er) :
  Calls Tryz.prog 80 #[.pointer (some ⟨K.r,0,none⟩),.int .i64 i,.int .i64 s,.int .i64 kind,.int .i64 slot,.int .i64 stripe] w (RGetPost w R i s kind slot stripe):=by
 have hz:=Za0
 have HZ:=hid (Frm.A_size _ Zbc)
 have HR:=hid hr
 have HV:Hid (R.get i s kind slot stripe=none):=hid (by unfold Rck.get Rck.read; rw [hr]; rfl)
 have H:Hid (RackRep (w.alloc (.cells (Frm.A Frm.zero) 113)) K R):=hid (h.ext ((Ext.refl w).alloc _))
 clear h hr
 go_enter Tryz.func80,Tryz.ntmps80
 go_wp2_with fail
 refine (rread_c H.out i s).mono ?_
 rintro e w1 (⟨er',h1,rfl,hx⟩ | ⟨h1,p,rfl,hp,hs,hx⟩)
 ·
  obtain rfl:er=er':=by have:=HR.out.symm.trans h1; exact Option.some.inj this
  obtain ⟨t2,v2,hq⟩:∃ t v,er.val=.iface t v:=by cases er<;>exact ⟨_,_,rfl⟩
  rw [hq]
  have hres:=hx.at (Zad (w:=w) (o:=.cells (Frm.A Frm.zero) 113))
  have HX:=hid (Ext.trans ((Ext.refl w).alloc (.cells (Frm.A Frm.zero) 113)) hx)
  clear hq h1 hx
  go_wp2_with (first
   | (refine wpList_build rfl 113 _ rfl (by simp [Za1]) ?_; simp only [Array.map_empty,Za1,Option.getD_some])
   | (refine Zaa rfl 113 _ _ rfl w.heap.size rfl (Frm.A Frm.zero) _ rfl 113 ?_ hres rfl ?_ ?_; (rw [HZ.out]; exact aggFrame); exact Frm.A_one _))
  refine bodyPost_ret (Zan Tryz.results80 rfl (by rw [HZ.out]; exact aggFrame) (setRow_heap w1 _ _ _ _ _ hres)) rfl ?_
  exact ⟨by rw [HV.out]; rfl,Ext.then HX.out (Zag w1 _ _) (fun i hi=>by omega)⟩
 ·
  rw [HR.out] at h1; cases h1
set_option maxRecDepth 100000 in
set_option maxHeartbeats 1000000 in
theorem rget_bad {w:World} {K:RSk} {R:Rck} (h:RackRep w K R) (i s kind slot stripe:Int) (hr:R.readE i s=none) (hg:Frm.get ((R.dsk i).read s.toNat)=none) :
  Calls Tryz.prog 80 #[.pointer (some ⟨K.r,0,none⟩),.int .i64 i,.int .i64 s,.int .i64 kind,.int .i64 slot,.int .i64 stripe] w (RGetPost w R i s kind slot stripe):=by
 have hz:=Za0
 have HZ:=hid (Frm.A_size _ Zbc)
 have HR:=hid hr; have HG:=hid hg
 have HV:Hid (R.get i s kind slot stripe=none):=hid (by unfold Rck.get Rck.read; rw [hr,if_pos rfl]; simp only [Option.bind_some,hg])
 have H:Hid (RackRep (w.alloc (.cells (Frm.A Frm.zero) 113)) K R):=hid (h.ext ((Ext.refl w).alloc _))
 clear h hr hg 
 go_enter Tryz.func80,Tryz.ntmps80
 go_wp2_with fail
 refine (rread_c H.out i s).mono ?_
 rintro e w1 (⟨er',h1,rfl,hx⟩ | ⟨h1,p,rfl,hp,hs,hx⟩)
 ·
  rw [HR.out] at h1; cases h1
 ·
  have HX:=hid hx; have HS:=hid hs
  clear hx hs
  go_wp2_with fail
  refine (fget_c _ 128 p.cap _ w1 HS.out.bytes HS.out.cap).mono ?_
  rintro e w2 ⟨rfl,hx2⟩
  have hG:got ((R.dsk i).read s.toNat)=.tuple #[.agg (Frm.A Frm.zero),.bool false]:=by unfold got; rw [HG.out]; rfl
  rw [hG]
  have hres:=(Ext.trans HX.out hx2).at (Zad (w:=w) (o:=.cells (Frm.A Frm.zero) 113))
  have HX2:=hid (Ext.trans ((Ext.refl w).alloc (.cells (Frm.A Frm.zero) 113)) (Ext.trans HX.out hx2))
  clear hG hx2
  have k0:((w2.alloc (.cells (Frm.A Frm.zero) 113)).setRow w2.heap.size (Frm.A Frm.zero)).cell? ⟨w2.heap.size,0,none⟩=some (.int .i64 (Frm.zero).kind):=Za5 (Frm.A0 _)
  have k1:((w2.alloc (.cells (Frm.A Frm.zero) 113)).setRow w2.heap.size (Frm.A Frm.zero)).cell? ⟨w2.heap.size,1,none⟩=some (.int .i64 (Frm.zero).slot):=Za5 (Frm.A1 _)
  have k2:((w2.alloc (.cells (Frm.A Frm.zero) 113)).setRow w2.heap.size (Frm.A Frm.zero)).cell? ⟨w2.heap.size,2,none⟩=some (.int .i64 (Frm.zero).stripe):=Za5 (Frm.A2 _)
  have hb2:(w2.alloc (.cells (Frm.A Frm.zero) 113)).heap[w2.heap.size]?=some (.cells (Frm.A Frm.zero) 113 (0,0)):=Zad
  have hb3:((w2.alloc (.cells (Frm.A Frm.zero) 113)).setRow w2.heap.size (Frm.A Frm.zero)).heap[w2.heap.size]?=some (.cells (Frm.A Frm.zero) 113 (0,0)):=setRow_heap _ _ _ _ _ _ hb2
  have hlt:=lt_of_block hres
  have hres3:((w2.alloc (.cells (Frm.A Frm.zero) 113)).setRow w2.heap.size (Frm.A Frm.zero)).heap[w.heap.size]?=some (.cells (Frm.A Frm.zero) 113 (0,0)) :=
   (Zag _ w2.heap.size _).at (Ext.at ((Ext.refl w2).alloc _) hres) (by omega)
  have HX3:Hid (Ext w ((w2.alloc (.cells (Frm.A Frm.zero) 113)).setRow w2.heap.size (Frm.A Frm.zero))):=hid (Ext.then (Ext.trans HX2.out ((Ext.refl w2).alloc _)) (Zag _ _ _) (fun i hi=>by have:=HX2.out.size; omega))
  go_wp2_with (first
   | (refine wpList_build rfl 113 _ rfl (by simp [Za1]) ?_; simp only [Array.map_empty,Za1,Option.getD_some])
   | (refine Zac rfl 113 _ rfl ⟨w2.heap.size,0,none⟩ rfl (Frm.A Frm.zero) ?_ ?_ ?_; (rw [HZ.out]; exact aggFrame); exact Zai hb3)
   | (refine Zaa rfl 113 _ _ rfl w2.heap.size rfl (Frm.A Frm.zero) _ rfl 113 ?_ hb2 ?_ ?_ ?_; (rw [HZ.out]; exact aggFrame); rfl; exact Frm.A_one _)
   | (refine Zaa rfl 113 _ _ rfl w.heap.size rfl (Frm.A Frm.zero) _ rfl 113 ?_ hres3 ?_ ?_ ?_; (rw [HZ.out]; exact aggFrame); rfl; exact Frm.A_one _))
  refine bodyPost_ret (Zan Tryz.results80 rfl (by rw [HZ.out]; exact aggFrame) (setRow_heap _ _ _ _ _ _ hres3)) rfl ?_
  exact ⟨by rw [HV.out]; rfl,Ext.then HX3.out (Zag _ _ _) (fun i hi=>by omega)⟩
set_option maxRecDepth 100000 in
set_option maxHeartbeats 1000000 in
theorem rget_no1 {w:World} {K:RSk} {R:Rck} (h:RackRep w K R) (i s kind slot stripe:Int) (f:Frm) (hr:R.readE i s=none) (hg:Frm.get ((R.dsk i).read s.toNat)=some f) (h1:f.kind≠kind) :
  Calls Tryz.prog 80 #[.pointer (some ⟨K.r,0,none⟩),.int .i64 i,.int .i64 s,.int .i64 kind,.int .i64 slot,.int .i64 stripe] w (RGetPost w R i s kind slot stripe):=by
 have hz:=Za0
 have HZ:=hid (Frm.A_size _ Zbc)
 have HR:=hid hr; have HG:=hid hg
 have HV:Hid (R.get i s kind slot stripe=none):=hid (by unfold Rck.get Rck.read; rw [hr,if_pos rfl]; simp only [Option.bind_some,hg]; rw [if_neg (fun h=>h1 h.1)])
 have H:Hid (RackRep (w.alloc (.cells (Frm.A Frm.zero) 113)) K R):=hid (h.ext ((Ext.refl w).alloc _))
 have hfo:f.Ok:=Frm.get_ok (fun x hx=>(h.bytes hr).2 x hx) hg
 have HF:=hid (Frm.A_size _ hfo)
 have q1:((f.kind:Int) != kind)=true:=by simpa using h1
 clear h hr hg h1
 go_enter Tryz.func80,Tryz.ntmps80
 go_wp2_with fail
 refine (rread_c H.out i s).mono ?_
 rintro e w1 (⟨er',h1,rfl,hx⟩ | ⟨h1,p,rfl,hp,hs,hx⟩)
 ·
  rw [HR.out] at h1; cases h1
 ·
  have HX:=hid hx; have HS:=hid hs
  clear hx hs
  go_wp2_with fail
  refine (fget_c _ 128 p.cap _ w1 HS.out.bytes HS.out.cap).mono ?_
  rintro e w2 ⟨rfl,hx2⟩
  have hG:got ((R.dsk i).read s.toNat)=.tuple #[.agg (Frm.A f),.bool true]:=by unfold got; rw [HG.out]; rfl
  rw [hG]
  have hres:=(Ext.trans HX.out hx2).at (Zad (w:=w) (o:=.cells (Frm.A Frm.zero) 113))
  have HX2:=hid (Ext.trans ((Ext.refl w).alloc (.cells (Frm.A Frm.zero) 113)) (Ext.trans HX.out hx2))
  clear hG hx2
  have k0:((w2.alloc (.cells (Frm.A Frm.zero) 113)).setRow w2.heap.size (Frm.A f)).cell? ⟨w2.heap.size,0,none⟩=some (.int .i64 (f).kind):=Za5 (Frm.A0 _)
  have k1:((w2.alloc (.cells (Frm.A Frm.zero) 113)).setRow w2.heap.size (Frm.A f)).cell? ⟨w2.heap.size,1,none⟩=some (.int .i64 (f).slot):=Za5 (Frm.A1 _)
  have k2:((w2.alloc (.cells (Frm.A Frm.zero) 113)).setRow w2.heap.size (Frm.A f)).cell? ⟨w2.heap.size,2,none⟩=some (.int .i64 (f).stripe):=Za5 (Frm.A2 _)
  have hb2:(w2.alloc (.cells (Frm.A Frm.zero) 113)).heap[w2.heap.size]?=some (.cells (Frm.A Frm.zero) 113 (0,0)):=Zad
  have hb3:((w2.alloc (.cells (Frm.A Frm.zero) 113)).setRow w2.heap.size (Frm.A f)).heap[w2.heap.size]?=some (.cells (Frm.A f) 113 (0,0)):=setRow_heap _ _ _ _ _ _ hb2
  have hlt:=lt_of_block hres
  have hres3:((w2.alloc (.cells (Frm.A Frm.zero) 113)).setRow w2.heap.size (Frm.A f)).heap[w.heap.size]?=some (.cells (Frm.A Frm.zero) 113 (0,0)) :=
   (Zag _ w2.heap.size _).at (Ext.at ((Ext.refl w2).alloc _) hres) (by omega)
  have HX3:Hid (Ext w ((w2.alloc (.cells (Frm.A Frm.zero) 113)).setRow w2.heap.size (Frm.A f))):=hid (Ext.then (Ext.trans HX2.out ((Ext.refl w2).alloc _)) (Zag _ _ _) (fun i hi=>by have:=HX2.out.size; omega))
  go_wp2_with (first
   | (refine wpList_build rfl 113 _ rfl (by simp [Za1]) ?_; simp only [Array.map_empty,Za1,Option.getD_some])
   | (refine Zac rfl 113 _ rfl ⟨w2.heap.size,0,none⟩ rfl (Frm.A f) ?_ ?_ ?_; (rw [HF.out]; exact aggFrame); exact Zai hb3)
   | (refine Zaa rfl 113 _ _ rfl w2.heap.size rfl (Frm.A f) _ rfl 113 ?_ hb2 ?_ ?_ ?_; (rw [HF.out]; exact aggFrame); (rw [HF.out,HZ.out]); exact Frm.A_one _)
   | (refine Zaa rfl 113 _ _ rfl w.heap.size rfl (Frm.A Frm.zero) _ rfl 113 ?_ hres3 ?_ ?_ ?_; (rw [HZ.out]; exact aggFrame); rfl; exact Frm.A_one _))
  refine bodyPost_ret (Zan Tryz.results80 rfl (by rw [HZ.out]; exact aggFrame) (setRow_heap _ _ _ _ _ _ hres3)) rfl ?_
  exact ⟨by rw [HV.out]; rfl,Ext.then HX3.out (Zag _ _ _) (fun i hi=>by omega)⟩
set_option maxRecDepth 100000 in
set_option maxHeartbeats 1000000 in
theorem rget_no2 {w:World} {K:RSk} {R:Rck} (h:RackRep w K R) (i s kind slot stripe:Int) (f:Frm) (hr:R.readE i s=none) (hg:Frm.get ((R.dsk i).read s.toNat)=some f) (h1:f.kind=kind) (h2:f.slot≠slot) :
  Calls Tryz.prog 80 #[.pointer (some ⟨K.r,0,none⟩),.int .i64 i,.int .i64 s,.int .i64 kind,.int .i64 slot,.int .i64 stripe] w (RGetPost w R i s kind slot stripe):=by
 have hz:=Za0
 have HZ:=hid (Frm.A_size _ Zbc)
 have HR:=hid hr; have HG:=hid hg
 have HV:Hid (R.get i s kind slot stripe=none):=hid (by unfold Rck.get Rck.read; rw [hr,if_pos rfl]; simp only [Option.bind_some,hg]; rw [if_neg (fun h=>h2 h.2.1)])
 have H:Hid (RackRep (w.alloc (.cells (Frm.A Frm.zero) 113)) K R):=hid (h.ext ((Ext.refl w).alloc _))
 have hfo:f.Ok:=Frm.get_ok (fun x hx=>(h.bytes hr).2 x hx) hg
 have HF:=hid (Frm.A_size _ hfo)
 have q1:((f.kind:Int) != kind)=false:=by simpa using h1
 have q2:((f.slot:Int) != slot)=true:=by simpa using h2
 clear h hr hg h1 h2
 go_enter Tryz.func80,Tryz.ntmps80
 go_wp2_with fail
 refine (rread_c H.out i s).mono ?_
 rintro e w1 (⟨er',h1,rfl,hx⟩ | ⟨h1,p,rfl,hp,hs,hx⟩)
 ·
  rw [HR.out] at h1; cases h1
 ·
  have HX:=hid hx; have HS:=hid hs
  clear hx hs
  go_wp2_with fail
  refine (fget_c _ 128 p.cap _ w1 HS.out.bytes HS.out.cap).mono ?_
  rintro e w2 ⟨rfl,hx2⟩
  have hG:got ((R.dsk i).read s.toNat)=.tuple #[.agg (Frm.A f),.bool true]:=by unfold got; rw [HG.out]; rfl
  rw [hG]
  have hres:=(Ext.trans HX.out hx2).at (Zad (w:=w) (o:=.cells (Frm.A Frm.zero) 113))
  have HX2:=hid (Ext.trans ((Ext.refl w).alloc (.cells (Frm.A Frm.zero) 113)) (Ext.trans HX.out hx2))
  clear hG hx2
  have k0:((w2.alloc (.cells (Frm.A Frm.zero) 113)).setRow w2.heap.size (Frm.A f)).cell? ⟨w2.heap.size,0,none⟩=some (.int .i64 (f).kind):=Za5 (Frm.A0 _)
  have k1:((w2.alloc (.cells (Frm.A Frm.zero) 113)).setRow w2.heap.size (Frm.A f)).cell? ⟨w2.heap.size,1,none⟩=some (.int .i64 (f).slot):=Za5 (Frm.A1 _)
  have k2:((w2.alloc (.cells (Frm.A Frm.zero) 113)).setRow w2.heap.size (Frm.A f)).cell? ⟨w2.heap.size,2,none⟩=some (.int .i64 (f).stripe):=Za5 (Frm.A2 _)
  have hb2:(w2.alloc (.cells (Frm.A Frm.zero) 113)).heap[w2.heap.size]?=some (.cells (Frm.A Frm.zero) 113 (0,0)):=Zad
  have hb3:((w2.alloc (.cells (Frm.A Frm.zero) 113)).setRow w2.heap.size (Frm.A f)).heap[w2.heap.size]?=some (.cells (Frm.A f) 113 (0,0)):=setRow_heap _ _ _ _ _ _ hb2
  have hlt:=lt_of_block hres
  have hres3:((w2.alloc (.cells (Frm.A Frm.zero) 113)).setRow w2.heap.size (Frm.A f)).heap[w.heap.size]?=some (.cells (Frm.A Frm.zero) 113 (0,0)) :=
   (Zag _ w2.heap.size _).at (Ext.at ((Ext.refl w2).alloc _) hres) (by omega)
  have HX3:Hid (Ext w ((w2.alloc (.cells (Frm.A Frm.zero) 113)).setRow w2.heap.size (Frm.A f))):=hid (Ext.then (Ext.trans HX2.out ((Ext.refl w2).alloc _)) (Zag _ _ _) (fun i hi=>by have:=HX2.out.size; omega))
  go_wp2_with (first
   | (refine wpList_build rfl 113 _ rfl (by simp [Za1]) ?_; simp only [Array.map_empty,Za1,Option.getD_some])
   | (refine Zac rfl 113 _ rfl ⟨w2.heap.size,0,none⟩ rfl (Frm.A f) ?_ ?_ ?_; (rw [HF.out]; exact aggFrame); exact Zai hb3)
   | (refine Zaa rfl 113 _ _ rfl w2.heap.size rfl (Frm.A f) _ rfl 113 ?_ hb2 ?_ ?_ ?_; (rw [HF.out]; exact aggFrame); (rw [HF.out,HZ.out]); exact Frm.A_one _)
   | (refine Zaa rfl 113 _ _ rfl w.heap.size rfl (Frm.A Frm.zero) _ rfl 113 ?_ hres3 ?_ ?_ ?_; (rw [HZ.out]; exact aggFrame); rfl; exact Frm.A_one _))
  refine bodyPost_ret (Zan Tryz.results80 rfl (by rw [HZ.out]; exact aggFrame) (setRow_heap _ _ _ _ _ _ hres3)) rfl ?_
  exact ⟨by rw [HV.out]; rfl,Ext.then HX3.out (Zag _ _ _) (fun i hi=>by omega)⟩
set_option maxRecDepth 100000 in
set_option maxHeartbeats 1000000 in
theorem rget_no3 {w:World} {K:RSk} {R:Rck} (h:RackRep w K R) (i s kind slot stripe:Int) (f:Frm) (hr:R.readE i s=none) (hg:Frm.get ((R.dsk i).read s.toNat)=some f) (h1:f.kind=kind) (h2:f.slot=slot) (h3:0<=stripe) (h4:f.stripe≠stripe) :
  Calls Tryz.prog 80 #[.pointer (some ⟨K.r,0,none⟩),.int .i64 i,.int .i64 s,.int .i64 kind,.int .i64 slot,.int .i64 stripe] w (RGetPost w R i s kind slot stripe):=by
 have hz:=Za0
 have HZ:=hid (Frm.A_size _ Zbc)
 have HR:=hid hr; have HG:=hid hg
 have HV:Hid (R.get i s kind slot stripe=none):=hid (by unfold Rck.get Rck.read; rw [hr,if_pos rfl]; simp only [Option.bind_some,hg]; rw [if_neg (fun h=>h4 (h.2.2 h3))])
 have H:Hid (RackRep (w.alloc (.cells (Frm.A Frm.zero) 113)) K R):=hid (h.ext ((Ext.refl w).alloc _))
 have hfo:f.Ok:=Frm.get_ok (fun x hx=>(h.bytes hr).2 x hx) hg
 have HF:=hid (Frm.A_size _ hfo)
 have q1:((f.kind:Int) != kind)=false:=by simpa using h1
 have q2:((f.slot:Int) != slot)=false:=by simpa using h2
 have q3:((f.stripe:Int) != stripe)=true:=by simpa using h4
 clear h hr hg h1 h2 h4
 go_enter Tryz.func80,Tryz.ntmps80
 go_wp2_with fail
 refine (rread_c H.out i s).mono ?_
 rintro e w1 (⟨er',h1,rfl,hx⟩ | ⟨h1,p,rfl,hp,hs,hx⟩)
 ·
  rw [HR.out] at h1; cases h1
 ·
  have HX:=hid hx; have HS:=hid hs
  clear hx hs
  go_wp2_with fail
  refine (fget_c _ 128 p.cap _ w1 HS.out.bytes HS.out.cap).mono ?_
  rintro e w2 ⟨rfl,hx2⟩
  have hG:got ((R.dsk i).read s.toNat)=.tuple #[.agg (Frm.A f),.bool true]:=by unfold got; rw [HG.out]; rfl
  rw [hG]
  have hres:=(Ext.trans HX.out hx2).at (Zad (w:=w) (o:=.cells (Frm.A Frm.zero) 113))
  have HX2:=hid (Ext.trans ((Ext.refl w).alloc (.cells (Frm.A Frm.zero) 113)) (Ext.trans HX.out hx2))
  clear hG hx2
  have k0:((w2.alloc (.cells (Frm.A Frm.zero) 113)).setRow w2.heap.size (Frm.A f)).cell? ⟨w2.heap.size,0,none⟩=some (.int .i64 (f).kind):=Za5 (Frm.A0 _)
  have k1:((w2.alloc (.cells (Frm.A Frm.zero) 113)).setRow w2.heap.size (Frm.A f)).cell? ⟨w2.heap.size,1,none⟩=some (.int .i64 (f).slot):=Za5 (Frm.A1 _)
  have k2:((w2.alloc (.cells (Frm.A Frm.zero) 113)).setRow w2.heap.size (Frm.A f)).cell? ⟨w2.heap.size,2,none⟩=some (.int .i64 (f).stripe):=Za5 (Frm.A2 _)
  have hb2:(w2.alloc (.cells (Frm.A Frm.zero) 113)).heap[w2.heap.size]?=some (.cells (Frm.A Frm.zero) 113 (0,0)):=Zad
  have hb3:((w2.alloc (.cells (Frm.A Frm.zero) 113)).setRow w2.heap.size (Frm.A f)).heap[w2.heap.size]?=some (.cells (Frm.A f) 113 (0,0)):=setRow_heap _ _ _ _ _ _ hb2
  have hlt:=lt_of_block hres
  have hres3:((w2.alloc (.cells (Frm.A Frm.zero) 113)).setRow w2.heap.size (Frm.A f)).heap[w.heap.size]?=some (.cells (Frm.A Frm.zero) 113 (0,0)) :=
   (Zag _ w2.heap.size _).at (Ext.at ((Ext.refl w2).alloc _) hres) (by omega)
  have HX3:Hid (Ext w ((w2.alloc (.cells (Frm.A Frm.zero) 113)).setRow w2.heap.size (Frm.A f))):=hid (Ext.then (Ext.trans HX2.out ((Ext.refl w2).alloc _)) (Zag _ _ _) (fun i hi=>by have:=HX2.out.size; omega))
  go_wp2_with (first
   | (refine wpList_build rfl 113 _ rfl (by simp [Za1]) ?_; simp only [Array.map_empty,Za1,Option.getD_some])
   | (refine Zac rfl 113 _ rfl ⟨w2.heap.size,0,none⟩ rfl (Frm.A f) ?_ ?_ ?_; (rw [HF.out]; exact aggFrame); exact Zai hb3)
   | (refine Zaa rfl 113 _ _ rfl w2.heap.size rfl (Frm.A f) _ rfl 113 ?_ hb2 ?_ ?_ ?_; (rw [HF.out]; exact aggFrame); (rw [HF.out,HZ.out]); exact Frm.A_one _)
   | (refine Zaa rfl 113 _ _ rfl w.heap.size rfl (Frm.A Frm.zero) _ rfl 113 ?_ hres3 ?_ ?_ ?_; (rw [HZ.out]; exact aggFrame); rfl; exact Frm.A_one _))
  refine bodyPost_ret (Zan Tryz.results80 rfl (by rw [HZ.out]; exact aggFrame) (setRow_heap _ _ _ _ _ _ hres3)) rfl ?_
  exact ⟨by rw [HV.out]; rfl,Ext.then HX3.out (Zag _ _ _) (fun i hi=>by omega)⟩
set_option maxRecDepth 100000 in
set_option maxHeartbeats 1000000 in
theorem rget_yes4 {w:World} {K:RSk} {R:Rck} (h:RackRep w K R) (i s kind slot stripe:Int) (f:Frm) (hr:R.readE i s=none) (hg:Frm.get ((R.dsk i).read s.toNat)=some f) (h1:f.kind=kind) (h2:f.slot=slot) (h3:0<=stripe) (h4:f.stripe=stripe) :
  Calls Tryz.prog 80 #[.pointer (some ⟨K.r,0,none⟩),.int .i64 i,.int .i64 s,.int .i64 kind,.int .i64 slot,.int .i64 stripe] w (RGetPost w R i s kind slot stripe):=by
 have hz:=Za0
 have HZ:=hid (Frm.A_size _ Zbc)
 have HR:=hid hr; have HG:=hid hg
 have HV:Hid (R.get i s kind slot stripe=some f):=hid (by unfold Rck.get Rck.read; rw [hr,if_pos rfl]; simp only [Option.bind_some,hg]; rw [if_pos ⟨h1,h2,fun _=>h4⟩])
 have H:Hid (RackRep (w.alloc (.cells (Frm.A Frm.zero) 113)) K R):=hid (h.ext ((Ext.refl w).alloc _))
 have hfo:f.Ok:=Frm.get_ok (fun x hx=>(h.bytes hr).2 x hx) hg
 have HF:=hid (Frm.A_size _ hfo)
 have q1:((f.kind:Int) != kind)=false:=by simpa using h1
 have q2:((f.slot:Int) != slot)=false:=by simpa using h2
 have q3:((f.stripe:Int) != stripe)=false:=by simpa using h4
 clear h hr hg h1 h2 h4
 go_enter Tryz.func80,Tryz.ntmps80
 go_wp2_with fail
 refine (rread_c H.out i s).mono ?_
 rintro e w1 (⟨er',h1,rfl,hx⟩ | ⟨h1,p,rfl,hp,hs,hx⟩)
 ·
  rw [HR.out] at h1; cases h1
 ·
  have HX:=hid hx; have HS:=hid hs
  clear hx hs
  go_wp2_with fail
  refine (fget_c _ 128 p.cap _ w1 HS.out.bytes HS.out.cap).mono ?_
  rintro e w2 ⟨rfl,hx2⟩
  have hG:got ((R.dsk i).read s.toNat)=.tuple #[.agg (Frm.A f),.bool true]:=by unfold got; rw [HG.out]; rfl
  rw [hG]
  have hres:=(Ext.trans HX.out hx2).at (Zad (w:=w) (o:=.cells (Frm.A Frm.zero) 113))
  have HX2:=hid (Ext.trans ((Ext.refl w).alloc (.cells (Frm.A Frm.zero) 113)) (Ext.trans HX.out hx2))
  clear hG hx2
  have k0:((w2.alloc (.cells (Frm.A Frm.zero) 113)).setRow w2.heap.size (Frm.A f)).cell? ⟨w2.heap.size,0,none⟩=some (.int .i64 (f).kind):=Za5 (Frm.A0 _)
  have k1:((w2.alloc (.cells (Frm.A Frm.zero) 113)).setRow w2.heap.size (Frm.A f)).cell? ⟨w2.heap.size,1,none⟩=some (.int .i64 (f).slot):=Za5 (Frm.A1 _)
  have k2:((w2.alloc (.cells (Frm.A Frm.zero) 113)).setRow w2.heap.size (Frm.A f)).cell? ⟨w2.heap.size,2,none⟩=some (.int .i64 (f).stripe):=Za5 (Frm.A2 _)
  have hb2:(w2.alloc (.cells (Frm.A Frm.zero) 113)).heap[w2.heap.size]?=some (.cells (Frm.A Frm.zero) 113 (0,0)):=Zad
  have hb3:((w2.alloc (.cells (Frm.A Frm.zero) 113)).setRow w2.heap.size (Frm.A f)).heap[w2.heap.size]?=some (.cells (Frm.A f) 113 (0,0)):=setRow_heap _ _ _ _ _ _ hb2
  have hlt:=lt_of_block hres
  have hres3:((w2.alloc (.cells (Frm.A Frm.zero) 113)).setRow w2.heap.size (Frm.A f)).heap[w.heap.size]?=some (.cells (Frm.A Frm.zero) 113 (0,0)) :=
   (Zag _ w2.heap.size _).at (Ext.at ((Ext.refl w2).alloc _) hres) (by omega)
  have HX3:Hid (Ext w ((w2.alloc (.cells (Frm.A Frm.zero) 113)).setRow w2.heap.size (Frm.A f))):=hid (Ext.then (Ext.trans HX2.out ((Ext.refl w2).alloc _)) (Zag _ _ _) (fun i hi=>by have:=HX2.out.size; omega))
  go_wp2_with (first
   | (refine Zac rfl 113 _ rfl ⟨w2.heap.size,0,none⟩ rfl (Frm.A f) ?_ ?_ ?_; (rw [HF.out]; exact aggFrame); exact Zai hb3)
   | (refine Zaa rfl 113 _ _ rfl w2.heap.size rfl (Frm.A f) _ rfl 113 ?_ hb2 ?_ ?_ ?_; (rw [HF.out]; exact aggFrame); (rw [HF.out,HZ.out]); exact Frm.A_one _)
   | (refine Zaa rfl 113 _ _ rfl w.heap.size rfl (Frm.A f) _ rfl 113 ?_ hres3 ?_ ?_ ?_; (rw [HF.out]; exact aggFrame); (rw [HF.out,HZ.out]); exact Frm.A_one _))
  refine bodyPost_ret (Zan Tryz.results80 rfl (by rw [HF.out]; exact aggFrame) (setRow_heap _ _ _ _ _ _ hres3)) rfl ?_
  exact ⟨by rw [HV.out]; rfl,Ext.then HX3.out (Zag _ _ _) (fun i hi=>by omega)⟩
set_option maxRecDepth 100000 in
set_option maxHeartbeats 1000000 in
theorem rget_yes3 {w:World} {K:RSk} {R:Rck} (h:RackRep w K R) (i s kind slot stripe:Int) (f:Frm) (hr:R.readE i s=none) (hg:Frm.get ((R.dsk i).read s.toNat)=some f) (h1:f.kind=kind) (h2:f.slot=slot) (h3:¬0<=stripe) :
  Calls Tryz.prog 80 #[.pointer (some ⟨K.r,0,none⟩),.int .i64 i,.int .i64 s,.int .i64 kind,.int .i64 slot,.int .i64 stripe] w (RGetPost w R i s kind slot stripe):=by
 have hz:=Za0
 have HZ:=hid (Frm.A_size _ Zbc)
 have HR:=hid hr; have HG:=hid hg
 have HV:Hid (R.get i s kind slot stripe=some f):=hid (by unfold Rck.get Rck.read; rw [hr,if_pos rfl]; simp only [Option.bind_some,hg]; rw [if_pos ⟨h1,h2,fun h=>absurd h h3⟩])
 have H:Hid (RackRep (w.alloc (.cells (Frm.A Frm.zero) 113)) K R):=hid (h.ext ((Ext.refl w).alloc _))
 have hfo:f.Ok:=Frm.get_ok (fun x hx=>(h.bytes hr).2 x hx) hg
 have HF:=hid (Frm.A_size _ hfo)
 have q1:((f.kind:Int) != kind)=false:=by simpa using h1
 have q2:((f.slot:Int) != slot)=false:=by simpa using h2
 clear h hr hg h1 h2
 go_enter Tryz.func80,Tryz.ntmps80
 go_wp2_with fail
 refine (rread_c H.out i s).mono ?_
 rintro e w1 (⟨er',h1,rfl,hx⟩ | ⟨h1,p,rfl,hp,hs,hx⟩)
 ·
  rw [HR.out] at h1; cases h1
 ·
  have HX:=hid hx; have HS:=hid hs
  clear hx hs
  go_wp2_with fail
  refine (fget_c _ 128 p.cap _ w1 HS.out.bytes HS.out.cap).mono ?_
  rintro e w2 ⟨rfl,hx2⟩
  have hG:got ((R.dsk i).read s.toNat)=.tuple #[.agg (Frm.A f),.bool true]:=by unfold got; rw [HG.out]; rfl
  rw [hG]
  have hres:=(Ext.trans HX.out hx2).at (Zad (w:=w) (o:=.cells (Frm.A Frm.zero) 113))
  have HX2:=hid (Ext.trans ((Ext.refl w).alloc (.cells (Frm.A Frm.zero) 113)) (Ext.trans HX.out hx2))
  clear hG hx2
  have k0:((w2.alloc (.cells (Frm.A Frm.zero) 113)).setRow w2.heap.size (Frm.A f)).cell? ⟨w2.heap.size,0,none⟩=some (.int .i64 (f).kind):=Za5 (Frm.A0 _)
  have k1:((w2.alloc (.cells (Frm.A Frm.zero) 113)).setRow w2.heap.size (Frm.A f)).cell? ⟨w2.heap.size,1,none⟩=some (.int .i64 (f).slot):=Za5 (Frm.A1 _)
  have k2:((w2.alloc (.cells (Frm.A Frm.zero) 113)).setRow w2.heap.size (Frm.A f)).cell? ⟨w2.heap.size,2,none⟩=some (.int .i64 (f).stripe):=Za5 (Frm.A2 _)
  have hb2:(w2.alloc (.cells (Frm.A Frm.zero) 113)).heap[w2.heap.size]?=some (.cells (Frm.A Frm.zero) 113 (0,0)):=Zad
  have hb3:((w2.alloc (.cells (Frm.A Frm.zero) 113)).setRow w2.heap.size (Frm.A f)).heap[w2.heap.size]?=some (.cells (Frm.A f) 113 (0,0)):=setRow_heap _ _ _ _ _ _ hb2
  have hlt:=lt_of_block hres
  have hres3:((w2.alloc (.cells (Frm.A Frm.zero) 113)).setRow w2.heap.size (Frm.A f)).heap[w.heap.size]?=some (.cells (Frm.A Frm.zero) 113 (0,0)) :=
   (Zag _ w2.heap.size _).at (Ext.at ((Ext.refl w2).alloc _) hres) (by omega)
  have HX3:Hid (Ext w ((w2.alloc (.cells (Frm.A Frm.zero) 113)).setRow w2.heap.size (Frm.A f))):=hid (Ext.then (Ext.trans HX2.out ((Ext.refl w2).alloc _)) (Zag _ _ _) (fun i hi=>by have:=HX2.out.size; omega))
  go_wp2_with (first
   | (refine Zac rfl 113 _ rfl ⟨w2.heap.size,0,none⟩ rfl (Frm.A f) ?_ ?_ ?_; (rw [HF.out]; exact aggFrame); exact Zai hb3)
   | (refine Zaa rfl 113 _ _ rfl w2.heap.size rfl (Frm.A f) _ rfl 113 ?_ hb2 ?_ ?_ ?_; (rw [HF.out]; exact aggFrame); (rw [HF.out,HZ.out]); exact Frm.A_one _)
   | (refine Zaa rfl 113 _ _ rfl w.heap.size rfl (Frm.A f) _ rfl 113 ?_ hres3 ?_ ?_ ?_; (rw [HF.out]; exact aggFrame); (rw [HF.out,HZ.out]); exact Frm.A_one _))
  refine bodyPost_ret (Zan Tryz.results80 rfl (by rw [HF.out]; exact aggFrame) (setRow_heap _ _ _ _ _ _ hres3)) rfl ?_
  exact ⟨by rw [HV.out]; rfl,Ext.then HX3.out (Zag _ _ _) (fun i hi=>by omega)⟩
theorem rget_c {w:World} {K:RSk} {R:Rck} (h:RackRep w K R) (i s kind slot stripe:Int) :
  Calls Tryz.prog 80 #[.pointer (some ⟨K.r,0,none⟩),.int .i64 i,.int .i64 s,.int .i64 kind,.int .i64 slot,.int .i64 stripe] w (RGetPost w R i s kind slot stripe):=by
 rcases hr:R.readE i s with _ | er
 ·
  rcases hg:Frm.get ((R.dsk i).read s.toNat) with _ | f
  ·
   exact rget_bad h i s kind slot stripe hr hg
  ·
   by_cases h1:f.kind=kind
   ·
    by_cases h2:f.slot=slot
    ·
     by_cases h3:0<=stripe
     ·
      by_cases h4:f.stripe=stripe
      ·
       exact rget_yes4 h i s kind slot stripe f hr hg h1 h2 h3 h4
      ·
       exact rget_no3 h i s kind slot stripe f hr hg h1 h2 h3 h4
     ·
      exact rget_yes3 h i s kind slot stripe f hr hg h1 h2 h3
    ·
     exact rget_no2 h i s kind slot stripe f hr hg h1 h2
   ·
    exact rget_no1 h i s kind slot stripe f hr hg h1
 ·
  exact rget_err h i s kind slot stripe er hr
theorem at_write {S:Nat->Prop} {w:World} {r:Nat} {R:Rck} (h:RackAt S w r R) (i s:Int) (a:Option Addr) (n c:Nat) (l:List Nat) (hb:BytesAt w a n l) :
  Calls Tryz.prog 42 #[.pointer (some ⟨r,0,none⟩),.int .i64 i,.int .i64 s,.slice a n c] w fun e w'=>e=.returned (oErr (R.write i s l).1)/\RackAt S w' r (R.write i s l).2/\Keeps S w w':=by
 obtain ⟨h0,K,rfl,h2,h3⟩:=h
 refine (rwrite_c h2 i s a n c l hb).mono ?_
 rintro e w' ⟨rfl,K',ht⟩
 exact ⟨rfl,ht.at_ h0 h3⟩
theorem at_flush {S:Nat->Prop} {w:World} {r:Nat} {R:Rck} (h:RackAt S w r R) (i:Int) :
  Calls Tryz.prog 43 #[.pointer (some ⟨r,0,none⟩),.int .i64 i] w fun e w'=>e=.returned (oErr (R.flush i).1)/\RackAt S w' r (R.flush i).2/\Keeps S w w':=by
 obtain ⟨h0,K,rfl,h2,h3⟩:=h
 refine (rflush_c h2 i).mono ?_
 rintro e w' ⟨rfl,K',ht⟩
 exact ⟨rfl,ht.at_ h0 h3⟩
theorem at_get {S:Nat->Prop} {w:World} {r:Nat} {R:Rck} (h:RackAt S w r R) (i s kind slot stripe:Int) :
  Calls Tryz.prog 80 #[.pointer (some ⟨r,0,none⟩),.int .i64 i,.int .i64 s,.int .i64 kind,.int .i64 slot,.int .i64 stripe] w (RGetPost w R i s kind slot stripe):=by
 obtain ⟨h0,K,rfl,h2,h3⟩:=h
 exact rget_c h2 i s kind slot stripe
theorem at_n {S:Nat->Prop} {w:World} {r:Nat} {R:Rck} (h:RackAt S w r R) :
  Calls Tryz.prog 38 #[.pointer (some ⟨r,0,none⟩)] w fun e w'=>e=.returned (.int .i64 R.l.length)/\w=w':=by
 obtain ⟨h0,K,rfl,h2,h3⟩:=h
 rw [h2.len]
 exact rn_c h2
theorem at_sectors {S:Nat->Prop} {w:World} {r:Nat} {R:Rck} (h:RackAt S w r R) :
  Calls Tryz.prog 40 #[.pointer (some ⟨r,0,none⟩)] w fun e w'=>e=.returned (.int .i64 R.sectors)/\w=w':=by
 obtain ⟨h0,K,rfl,h2,h3⟩:=h
 rw [h2.sectors_eq]
 exact Zce h2
theorem at_new (n m:Nat) (hn:1<=n) (hn8:n<=8) (hm:1<=m) (hm2:m<=128) (w:World) :
  Calls Tryz.prog 19 #[.int .i64 n,.int .i64 m] w fun e w'=>∃ r,e=.returned (.tuple #[.pointer (some ⟨r,0,none⟩),.nilIface])/\RackAt (fun b=>b < w.heap.size) w' r (Rck.new n m)/\Ext w w':=by
 refine (rnew_c n m hn hn8 hm hm2 w).mono ?_
 rintro e w' ⟨K,rfl,h1,h2,h3,_,_⟩
 exact ⟨K.r,rfl,⟨fun b hb=>Nat.lt_of_lt_of_le hb h3.size,K,rfl,h1,fun b hb hs=>by have:=h2 b hb; omega⟩,h3⟩
section
variable {P:Program} {ops:Array Oper} {E S:World->World->Prop}
theorem wpSQ_run {w:World} {K:Act->Prop} {a:Act} {o:Oper} {rest:List Oper} (v:Value) (hw:Region.wanted o (yielded ops a.tmps)=true) (h:∀ x:SW S w,(execOp a.eval o).run P x.w=.ok (.value v) x.w)
  (hK:wpSQ E S P ops w K rest (a.put o.dst v)):wpSQ E S P ops w K (o::rest) a:=by
 have h0:wpSQ E S P ops w K (o::rest) a=if Region.wanted o (yielded ops a.tmps) then ∃ v,(∀ x:SW S w,o.quietAt P a (E x.w) x.w v)/\wpSQ E S P ops w K rest (a.put o.dst v) else wpSQ E S P ops w K rest (a.put o.dst undef):=rfl
 rw [h0,if_pos hw]
 refine ⟨v,fun x=>?_,hK⟩
 unfold Oper.quietAt
 rw [h x]
 exact ⟨rfl,rfl⟩
theorem Zam {w:World} {K:Act->Prop} {a:Act} {o:Oper} {rest:List Oper} (ty:TypeId) (y:Operand) (ho:o.op=.load ty y) (ad:Addr) (hx:a.eval y=.pointer (some ad)) (A:Array Value) (hw:Region.wanted o (yielded ops a.tmps)=true)
  (ht:AggType P ty A.size) (hc:∀ x:SW S w,∀ j v,A.toList[j]?=some v->x.w.cell? (ad.add j)=some v) (hK:wpSQ E S P ops w K rest (a.put o.dst (.agg A))):wpSQ E S P ops w K (o::rest) a:=by
 refine wpSQ_run (.agg A) hw (fun x=>?_) hK
 have hl:=Zbb (P:=P) x.w ty ad A ht (hc x)
 unfold execOp
 simp only [ho,hx,Instr.loadAt,Instr.sureAddr,Sem.run_bind,Sem.run_pure,Result.andThen_ok,hl]
theorem wpSQ_eql {w:World} {K:Act->Prop} {a:Act} {o:Oper} {rest:List Oper} (op:BinOp) (ty ty':TypeId) (y z:Operand) (ho:o.op=.binOp op ty y z ty') (A B:Array Value) (hy:a.eval y=.agg A) (hz:a.eval z=.agg B) (v:Value) (hw:Region.wanted o (yielded ops a.tmps)=true)
  (hg:∀ w,(eqGuard op ty y z (.agg A) (.agg B)).run P w=.ok () w) (hb:∀ w,(binOp op ty (.agg A) (.agg B)).run P w=.ok v w) (hK:wpSQ E S P ops w K rest (a.put o.dst v)):wpSQ E S P ops w K (o::rest) a:=by
 refine wpSQ_run v hw (fun x=>?_) hK
 unfold execOp
 simp only [ho,hy,hz,Sem.run_bind,hg,hb,Result.andThen_ok]
 rfl
end
end Go.Proofs.YtgjnnbomnoafcaaGreat
namespace Go.Proofs.YtgjnnbomnoafcaaGreat
set_option linter.unusedVariables false
open Go Go.RowKit
theorem wpSQ_skip {P:Program} {ops:Array Oper} {E S:World->World->Prop} {w:World} {K:Act->Prop} {a:Act} {o:Oper} {rest:List Oper} (hw:Region.wanted o (yielded ops a.tmps)=false)
  (hK:wpSQ E S P ops w K rest (a.put o.dst undef)):wpSQ E S P ops w K (o::rest) a:=by
 have h0:wpSQ E S P ops w K (o::rest) a=if Region.wanted o (yielded ops a.tmps) then ∃ v,(∀ x:SW S w,o.quietAt P a (E x.w) x.w v)/\wpSQ E S P ops w K rest (a.put o.dst v) else wpSQ E S P ops w K rest (a.put o.dst undef):=rfl
 rw [h0,if_neg (by rw [hw]; simp)]
 exact hK
theorem wpSQ_pass {P:Program} {ops:Array Oper} {E S:World->World->Prop} {w:World} {K:Act->Prop} {a:Act} {o:Oper} {rest:List Oper} (hw:Region.wanted o (yielded ops a.tmps)=false)
  (h:∀ K':Act->Prop,(∀ a',wpSQ E S P ops w K rest a'->K' a')->K' (a.put o.dst undef)):wpSQ E S P ops w K (o::rest) a :=
 wpSQ_skip hw (h (fun a'=>wpSQ E S P ops w K rest a') fun _ x=>x)
section
variable {P:Program} {ops:Array Oper} {Q:Exit->Act->World->Prop}
theorem wpList_run {w w':World} {a:Act} {o:Oper} {rest:List Oper} (v:Value) (hw:Region.wanted o (yielded ops a.tmps)=true) (h:(execOp a.eval o).run P w=.ok (.value v) w')
  (hK:wpList P ops Q rest (a.put o.dst v) w'):wpList P ops Q (o::rest) a w:=by
 unfold wpList
 rw [if_pos hw]
 refine .inl ?_
 unfold Oper.wp
 rw [h]
 exact hK
theorem Zaw {w:World} {a:Act} {o:Oper} {rest:List Oper} (ty:TypeId) (y:Operand) (ho:o.op=.load ty y) (ad:Addr) (hx:a.eval y=.pointer (some ad)) (A:Array Value) (hw:Region.wanted o (yielded ops a.tmps)=true)
  (ht:AggType P ty A.size) (hc:∀ j v,A.toList[j]?=some v->w.cell? (ad.add j)=some v) (hK:wpList P ops Q rest (a.put o.dst (.agg A)) w):wpList P ops Q (o::rest) a w:=by
 refine wpList_run (.agg A) hw ?_ hK
 have hl:=Zbb (P:=P) w ty ad A ht hc
 unfold execOp
 simp only [ho,hx,Instr.loadAt,Instr.sureAddr,Sem.run_bind,Sem.run_pure,Result.andThen_ok,hl]
theorem wpListG_eql {w:World} {a:Act} {o:Oper} {rest:List Oper} (op:BinOp) (ty ty':TypeId) (y z:Operand) (ho:o.op=.binOp op ty y z ty') (A B:Array Value) (hy:a.eval y=.agg A) (hz:a.eval z=.agg B) (v:Value) (hw:Region.wanted o (yielded ops a.tmps)=true)
  (hg:(eqGuard op ty y z (.agg A) (.agg B)).run P w=.ok () w) (hb:(binOp op ty (.agg A) (.agg B)).run P w=.ok v w) (hK:wpList P ops Q rest (a.put o.dst v) w):wpList P ops Q (o::rest) a w:=by
 refine wpList_run v hw ?_ hK
 unfold execOp
 simp only [ho,hy,hz,Sem.run_bind,hg,hb,Result.andThen_ok]
 rfl
end
end Go.Proofs.YtgjnnbomnoafcaaGreat
namespace Go.Proofs.YtgjnnbomnoafcaaGreat
set_option linter.unusedVariables false
open Go Go.RowKit
def Rck.onTo (R:Rck) (j:Nat):List Nat:=(List.range j).filter fun i=>R.up i
theorem Rck.onTo_succ (R:Rck) (j:Nat):R.onTo (j+1)=R.onTo j++if R.up (j:Int) then [j] else []:=by
 unfold onTo
 rw [List.range_succ,List.filter_append]
 by_cases h:R.up (j:Int)=true<;>simp [h]
theorem Rck.onTo_len (R:Rck) (j:Nat):(R.onTo j).length<=j:=by
 unfold onTo
 have:=List.length_filter_le (fun i:Nat=>R.up i) (List.range j)
 simpa using this
def ROnlinePost (w:World) (R:Rck) (e:Ending) (w':World):Prop:=∃ v,e=.returned v/\OwnInts w' w.heap.size v R.online/\Ext w w'
set_option maxHeartbeats 800000 in
theorem ronline_c {w:World} {K:RSk} {R:Rck} (h:RackRep w K R) :
  Calls Tryz.prog 29 #[.pointer (some ⟨K.r,0,none⟩)] w (ROnlinePost w R):=by
 have c0:=h.cell0
 have H:=hid h
 have HW:Hid (R.onTo K.n=R.online):=hid (by unfold Rck.onTo Rck.online; rw [h.len])
 have hsm:=h.small
 clear h
 go_enter Tryz.func29,Tryz.ntmps29
 go_wp2
 clear c0
 go_loopw [3,10] (fun v i wr=>∃ j:Nat,i=.int .i64 j/\j<=K.n/\OwnInts wr w.heap.size v (R.onTo j)/\Ext w wr) (fun _ i _=>K.n - (intOf i).toNat)
 case atStart=>exact ⟨0,rfl,by omega,OwnInts.nil _ _,Ext.refl _⟩
 case round =>
  obtain ⟨j,rfl,hj,hown,hx⟩:=hrel
  by_cases hlt:j < K.n
  ·
   have hup:=R.onTo_succ j
   have hlen:=R.onTo_len j
   have HU:=hid (rup_c (H.out.ext hx) (j:Int))
   rcases hu:R.up (j:Int) with _ | _
   ·
    rw [hu] at hup
    simp only [Bool.false_eq_true,if_false,List.append_nil] at hup
    rw [<- hup] at hown
    have HO:=hid hown; have HX:=hid hx; have HV:=hid hu
    clear hu hup hown hx
    go_wp2_with (go_at_call 41; refine HU.out.mono ?_; rintro e w' ⟨rfl,rfl⟩; rw [HV.out])
    go_roundw
    case rel=>exact ⟨j+1,by go_num,by omega,HO.out,HX.out⟩
    case measure=>simp [intOf]; omega
   ·
    rw [hu] at hup
    simp only [if_true] at hup
    obtain ⟨v',W2,hap,hown2,_,hx2⟩:=hown.push j (by omega) hx.size
    rw [<- hup] at hown2
    have HO:=hid hown2; have HX:=hid (hx2 w (Nat.le_refl _) hx); have HV:=hid hu
    clear hu hup hown hx hown2 hx2
    go_wp2_with (first
     | (go_at_call 41; refine HU.out.mono ?_; rintro e w' ⟨rfl,rfl⟩; rw [HV.out])
     | (at_builtin; refine Zah rfl _ _ _ rfl _ _ _ _ rfl rfl hap ?_))
    go_roundw
    case rel=>exact ⟨j+1,by go_num,by omega,HO.out,HX.out⟩
    case measure=>simp [intOf]; omega
  ·
   obtain rfl:K.n=j:=by omega
   rw [HW.out] at hown
   have HO:=hid hown; have HX:=hid hx
   clear hown hx
   go_wp2
   go_ret
   exact ⟨_,rfl,HO.out,HX.out⟩
theorem Zbx {S:Nat->Prop} {w:World} {r:Nat} {R:Rck} (h:RackAt S w r R) :
  Calls Tryz.prog 29 #[.pointer (some ⟨r,0,none⟩)] w (ROnlinePost w R):=by
 obtain ⟨h0,K,rfl,h2,h3⟩:=h
 exact ronline_c h2
theorem roff_c {w:World} {K:RSk} {R:Rck} (h:RackRep w K R) :
  Calls Tryz.prog 28 #[.pointer (some ⟨K.r,0,none⟩)] w fun e w'=>e=.returned (.bool R.off)/\w=w':=by
 have c1:=h.cell1
 clear h
 go_enter Tryz.func28,Tryz.ntmps28
 go_wp2
 go_ret
 exact ⟨rfl,rfl⟩
theorem at_off {S:Nat->Prop} {w:World} {r:Nat} {R:Rck} (h:RackAt S w r R) :
  Calls Tryz.prog 28 #[.pointer (some ⟨r,0,none⟩)] w fun e w'=>e=.returned (.bool R.off)/\w=w':=by
 obtain ⟨h0,K,rfl,h2,h3⟩:=h
 exact roff_c h2
end Go.Proofs.YtgjnnbomnoafcaaGreat
