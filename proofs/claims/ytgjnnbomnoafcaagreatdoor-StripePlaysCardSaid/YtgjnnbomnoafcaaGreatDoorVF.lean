/- Texts of one proof, joined: RackD, RackAt, StepLaws, RackG, RackOff, RackArm, RackBoot, BitsRow. -/
import Derived.Test.YtgjnnbomnoafcaaGreatDoorVE
import Derived.Test.YtgjnnbomnoafcaaGreatDoorVB
import Derived.Test.YtgjnnbomnoafcaaGreatDoorVD
import Derived.Test.YtgjnnbomnoafcaaGreatDoorProg
import Derived.Deep.SlicePairs
import Derived.OpenShut
import Derived.RowKit
set_option linter.unusedVariables false
set_option linter.unusedSimpArgs false
namespace Go.Proofs.YtgjnnbomnoafcaaGreatDoor
set_option linter.unusedVariables false
open Go Go.RowKit
def gotO (o:Option Frm):Value:=.tuple #[.agg (Frm.A (o.getD Frm.zero)),.bool o.isSome]
def RGetPost (w:World) (R:Rck) (i s kind slot stripe:Int) (e:Ending) (w':World):Prop:=e=.returned (gotO (R.get i s kind slot stripe))/\Ext w w'
theorem Za5 {w:World} {A Z:Array Value} {t:TypeId} {i:Nat} {v:Value} (h:A[i]?=some v):((w.alloc (.cells Z t)).setRow w.heap.size A).cell? ⟨w.heap.size,i,none⟩=some v:=by
 rw [Zao,Zaf Zad]; exact h
theorem RackRep.bytes {w:World} {K:RSk} {R:Rck} (h:RackRep w K R) {i s:Int} (hr:R.readE i s=none):((R.dsk i).read s.toNat).length=128/\∀ x∈(R.dsk i).read s.toNat,x < 256:=by
 unfold Rck.readE at hr
 cases hh:R.has i
 ·
  rw [hh] at hr; simp at hr
 ·
  rw [hh,if_neg (by simp)] at hr
  obtain ⟨j,rfl,hj⟩:=h.has_nat hh
  split at hr
  ·
   cases hr
  ·
   simp only [Option.map_eq_none_iff] at hr
   obtain ⟨_,_,t,rfl,ht⟩:=Zb4 hr
   have hd:=h.dskAt hj
   rw [hd.len] at ht
   rw [Int.toNat_natCast]
   unfold Dsk.read
   rcases hw:(K.ks j).wf t with _ | p
   ·
    rw [hd.waitN t hw]; exact ⟨(hd.sec t ht).1,(hd.sec t ht).2.1⟩
   ·
    obtain ⟨_,l,hl,hs⟩:=hd.waitS t p hw
    rw [hl]; exact ⟨hs.1,hs.2.1⟩
theorem Frm.get_ok {l:List Nat} {f:Frm} (hb:∀ x∈l,x < 256) (h:Frm.get l=some f):f.Ok:=by
 unfold Frm.get at h
 split at h
 ·
  rename_i hc
  cases h
  exact ⟨by simp [Frm.parse,hc.1],fun x hx=>hb x (List.mem_of_mem_drop (List.mem_of_mem_take hx))⟩
 ·
  cases h
set_option maxRecDepth 100000 in
set_option maxHeartbeats 1000000 in
theorem rget_err {w:World} {K:RSk} {R:Rck} (h:RackRep w K R) (i s kind slot stripe:Int) (er:Err) (hr:R.readE i s=some er) :
  Calls Tryz.prog 32 #[.pointer (some ⟨K.r,0,none⟩),.int .i64 i,.int .i64 s,.int .i64 kind,.int .i64 slot,.int .i64 stripe] w (RGetPost w R i s kind slot stripe):=by
 have hz:=Za4
 have HZ:=hid (Frm.A_size _ Za9)
 have HR:=hid hr
 have HV:Hid (R.get i s kind slot stripe=none):=hid (by unfold Rck.get Rck.read; rw [hr]; rfl)
 have H:Hid (RackRep (w.alloc (.cells (Frm.A Frm.zero) 42)) K R):=hid (h.ext ((Ext.refl w).alloc _))
 clear h hr
 go_enter Tryz.func32,Tryz.ntmps32
 go_wp2_with fail
 refine (rread_c H.out i s).mono ?_
 rintro e w1 (⟨er',h1,rfl,hx⟩ | ⟨h1,p,rfl,hp,hs,hx⟩)
 ·
  obtain rfl:er=er':=by have:=HR.out.symm.trans h1; exact Option.some.inj this
  obtain ⟨t2,v2,hq⟩:∃ t v,er.val=.iface t v:=by cases er<;>exact ⟨_,_,rfl⟩
  rw [hq]
  have hres:=hx.at (Zad (w:=w) (o:=.cells (Frm.A Frm.zero) 42))
  have HX:=hid (Ext.trans ((Ext.refl w).alloc (.cells (Frm.A Frm.zero) 42)) hx)
  clear hq h1 hx
  go_wp2_with (first
   | (refine wpList_build rfl 42 _ rfl (by simp [Zaq]) ?_; simp only [Array.map_empty,Zaq,Option.getD_some])
   | (refine Zab rfl 42 _ _ rfl w.heap.size rfl (Frm.A Frm.zero) _ rfl 42 ?_ hres rfl ?_ ?_; (rw [HZ.out]; exact aggFrame); exact Frm.A_one _))
  refine bodyPost_ret (Zak Tryz.results32 rfl (by rw [HZ.out]; exact aggFrame) (setRow_heap w1 _ _ _ _ _ hres)) rfl ?_
  exact ⟨by rw [HV.out]; rfl,Ext.then HX.out (Zah w1 _ _) (fun i hi=>by omega)⟩
 ·
  rw [HR.out] at h1; cases h1
set_option maxRecDepth 100000 in
set_option maxHeartbeats 1000000 in
theorem rget_bad {w:World} {K:RSk} {R:Rck} (h:RackRep w K R) (i s kind slot stripe:Int) (hr:R.readE i s=none) (hg:Frm.get ((R.dsk i).read s.toNat)=none) :
  Calls Tryz.prog 32 #[.pointer (some ⟨K.r,0,none⟩),.int .i64 i,.int .i64 s,.int .i64 kind,.int .i64 slot,.int .i64 stripe] w (RGetPost w R i s kind slot stripe):=by
 have hz:=Za4
 have HZ:=hid (Frm.A_size _ Za9)
 have HR:=hid hr; have HG:=hid hg
 have HV:Hid (R.get i s kind slot stripe=none):=hid (by unfold Rck.get Rck.read; rw [hr,if_pos rfl]; simp only [Option.bind_some,hg])
 have H:Hid (RackRep (w.alloc (.cells (Frm.A Frm.zero) 42)) K R):=hid (h.ext ((Ext.refl w).alloc _))
 clear h hr hg 
 go_enter Tryz.func32,Tryz.ntmps32
 go_wp2_with fail
 refine (rread_c H.out i s).mono ?_
 rintro e w1 (⟨er',h1,rfl,hx⟩ | ⟨h1,p,rfl,hp,hs,hx⟩)
 ·
  rw [HR.out] at h1; cases h1
 ·
  have HX:=hid hx; have HS:=hid hs
  clear hx hs
  go_wp2_with fail
  refine (fget_c _ 128 p.cap _ w1 HS.out.bytes HS.out.cap).mono ?_
  rintro e w2 ⟨rfl,hx2⟩
  have hG:got ((R.dsk i).read s.toNat)=.tuple #[.agg (Frm.A Frm.zero),.bool false]:=by unfold got; rw [HG.out]; rfl
  rw [hG]
  have hres:=(Ext.trans HX.out hx2).at (Zad (w:=w) (o:=.cells (Frm.A Frm.zero) 42))
  have HX2:=hid (Ext.trans ((Ext.refl w).alloc (.cells (Frm.A Frm.zero) 42)) (Ext.trans HX.out hx2))
  clear hG hx2
  have k0:((w2.alloc (.cells (Frm.A Frm.zero) 42)).setRow w2.heap.size (Frm.A Frm.zero)).cell? ⟨w2.heap.size,0,none⟩=some (.int .i64 (Frm.zero).kind):=Za5 (Frm.A0 _)
  have k1:((w2.alloc (.cells (Frm.A Frm.zero) 42)).setRow w2.heap.size (Frm.A Frm.zero)).cell? ⟨w2.heap.size,1,none⟩=some (.int .i64 (Frm.zero).slot):=Za5 (Frm.A1 _)
  have k2:((w2.alloc (.cells (Frm.A Frm.zero) 42)).setRow w2.heap.size (Frm.A Frm.zero)).cell? ⟨w2.heap.size,2,none⟩=some (.int .i64 (Frm.zero).stripe):=Za5 (Frm.A2 _)
  have hb2:(w2.alloc (.cells (Frm.A Frm.zero) 42)).heap[w2.heap.size]?=some (.cells (Frm.A Frm.zero) 42 (0,0)):=Zad
  have hb3:((w2.alloc (.cells (Frm.A Frm.zero) 42)).setRow w2.heap.size (Frm.A Frm.zero)).heap[w2.heap.size]?=some (.cells (Frm.A Frm.zero) 42 (0,0)):=setRow_heap _ _ _ _ _ _ hb2
  have hlt:=lt_of_block hres
  have hres3:((w2.alloc (.cells (Frm.A Frm.zero) 42)).setRow w2.heap.size (Frm.A Frm.zero)).heap[w.heap.size]?=some (.cells (Frm.A Frm.zero) 42 (0,0)) :=
   (Zah _ w2.heap.size _).at (Ext.at ((Ext.refl w2).alloc _) hres) (by omega)
  have HX3:Hid (Ext w ((w2.alloc (.cells (Frm.A Frm.zero) 42)).setRow w2.heap.size (Frm.A Frm.zero))):=hid (Ext.then (Ext.trans HX2.out ((Ext.refl w2).alloc _)) (Zah _ _ _) (fun i hi=>by have:=HX2.out.size; omega))
  go_wp2_with (first
   | (refine wpList_build rfl 42 _ rfl (by simp [Zaq]) ?_; simp only [Array.map_empty,Zaq,Option.getD_some])
   | (refine Zae rfl 42 _ rfl ⟨w2.heap.size,0,none⟩ rfl (Frm.A Frm.zero) ?_ ?_ ?_; (rw [HZ.out]; exact aggFrame); exact Zaj hb3)
   | (refine Zab rfl 42 _ _ rfl w2.heap.size rfl (Frm.A Frm.zero) _ rfl 42 ?_ hb2 ?_ ?_ ?_; (rw [HZ.out]; exact aggFrame); rfl; exact Frm.A_one _)
   | (refine Zab rfl 42 _ _ rfl w.heap.size rfl (Frm.A Frm.zero) _ rfl 42 ?_ hres3 ?_ ?_ ?_; (rw [HZ.out]; exact aggFrame); rfl; exact Frm.A_one _))
  refine bodyPost_ret (Zak Tryz.results32 rfl (by rw [HZ.out]; exact aggFrame) (setRow_heap _ _ _ _ _ _ hres3)) rfl ?_
  exact ⟨by rw [HV.out]; rfl,Ext.then HX3.out (Zah _ _ _) (fun i hi=>by omega)⟩
set_option maxRecDepth 100000 in
set_option maxHeartbeats 1000000 in
theorem rget_no1 {w:World} {K:RSk} {R:Rck} (h:RackRep w K R) (i s kind slot stripe:Int) (f:Frm) (hr:R.readE i s=none) (hg:Frm.get ((R.dsk i).read s.toNat)=some f) (h1:f.kind≠kind) :
  Calls Tryz.prog 32 #[.pointer (some ⟨K.r,0,none⟩),.int .i64 i,.int .i64 s,.int .i64 kind,.int .i64 slot,.int .i64 stripe] w (RGetPost w R i s kind slot stripe):=by
 have hz:=Za4
 have HZ:=hid (Frm.A_size _ Za9)
 have HR:=hid hr; have HG:=hid hg
 have HV:Hid (R.get i s kind slot stripe=none):=hid (by unfold Rck.get Rck.read; rw [hr,if_pos rfl]; simp only [Option.bind_some,hg]; rw [if_neg (fun h=>h1 h.1)])
 have H:Hid (RackRep (w.alloc (.cells (Frm.A Frm.zero) 42)) K R):=hid (h.ext ((Ext.refl w).alloc _))
 have hfo:f.Ok:=Frm.get_ok (fun x hx=>(h.bytes hr).2 x hx) hg
 have HF:=hid (Frm.A_size _ hfo)
 have q1:((f.kind:Int) != kind)=true:=by simpa using h1
 clear h hr hg h1
 go_enter Tryz.func32,Tryz.ntmps32
 go_wp2_with fail
 refine (rread_c H.out i s).mono ?_
 rintro e w1 (⟨er',h1,rfl,hx⟩ | ⟨h1,p,rfl,hp,hs,hx⟩)
 ·
  rw [HR.out] at h1; cases h1
 ·
  have HX:=hid hx; have HS:=hid hs
  clear hx hs
  go_wp2_with fail
  refine (fget_c _ 128 p.cap _ w1 HS.out.bytes HS.out.cap).mono ?_
  rintro e w2 ⟨rfl,hx2⟩
  have hG:got ((R.dsk i).read s.toNat)=.tuple #[.agg (Frm.A f),.bool true]:=by unfold got; rw [HG.out]; rfl
  rw [hG]
  have hres:=(Ext.trans HX.out hx2).at (Zad (w:=w) (o:=.cells (Frm.A Frm.zero) 42))
  have HX2:=hid (Ext.trans ((Ext.refl w).alloc (.cells (Frm.A Frm.zero) 42)) (Ext.trans HX.out hx2))
  clear hG hx2
  have k0:((w2.alloc (.cells (Frm.A Frm.zero) 42)).setRow w2.heap.size (Frm.A f)).cell? ⟨w2.heap.size,0,none⟩=some (.int .i64 (f).kind):=Za5 (Frm.A0 _)
  have k1:((w2.alloc (.cells (Frm.A Frm.zero) 42)).setRow w2.heap.size (Frm.A f)).cell? ⟨w2.heap.size,1,none⟩=some (.int .i64 (f).slot):=Za5 (Frm.A1 _)
  have k2:((w2.alloc (.cells (Frm.A Frm.zero) 42)).setRow w2.heap.size (Frm.A f)).cell? ⟨w2.heap.size,2,none⟩=some (.int .i64 (f).stripe):=Za5 (Frm.A2 _)
  have hb2:(w2.alloc (.cells (Frm.A Frm.zero) 42)).heap[w2.heap.size]?=some (.cells (Frm.A Frm.zero) 42 (0,0)):=Zad
  have hb3:((w2.alloc (.cells (Frm.A Frm.zero) 42)).setRow w2.heap.size (Frm.A f)).heap[w2.heap.size]?=some (.cells (Frm.A f) 42 (0,0)):=setRow_heap _ _ _ _ _ _ hb2
  have hlt:=lt_of_block hres
  have hres3:((w2.alloc (.cells (Frm.A Frm.zero) 42)).setRow w2.heap.size (Frm.A f)).heap[w.heap.size]?=some (.cells (Frm.A Frm.zero) 42 (0,0)) :=
   (Zah _ w2.heap.size _).at (Ext.at ((Ext.refl w2).alloc _) hres) (by omega)
  have HX3:Hid (Ext w ((w2.alloc (.cells (Frm.A Frm.zero) 42)).setRow w2.heap.size (Frm.A f))):=hid (Ext.then (Ext.trans HX2.out ((Ext.refl w2).alloc _)) (Zah _ _ _) (fun i hi=>by have:=HX2.out.size; omega))
  go_wp2_with (first
   | (refine wpList_build rfl 42 _ rfl (by simp [Zaq]) ?_; simp only [Array.map_empty,Zaq,Option.getD_some])
   | (refine Zae rfl 42 _ rfl ⟨w2.heap.size,0,none⟩ rfl (Frm.A f) ?_ ?_ ?_; (rw [HF.out]; exact aggFrame); exact Zaj hb3)
   | (refine Zab rfl 42 _ _ rfl w2.heap.size rfl (Frm.A f) _ rfl 42 ?_ hb2 ?_ ?_ ?_; (rw [HF.out]; exact aggFrame); (rw [HF.out,HZ.out]); exact Frm.A_one _)
   | (refine Zab rfl 42 _ _ rfl w.heap.size rfl (Frm.A Frm.zero) _ rfl 42 ?_ hres3 ?_ ?_ ?_; (rw [HZ.out]; exact aggFrame); rfl; exact Frm.A_one _))
  refine bodyPost_ret (Zak Tryz.results32 rfl (by rw [HZ.out]; exact aggFrame) (setRow_heap _ _ _ _ _ _ hres3)) rfl ?_
  exact ⟨by rw [HV.out]; rfl,Ext.then HX3.out (Zah _ _ _) (fun i hi=>by omega)⟩
set_option maxRecDepth 100000 in
set_option maxHeartbeats 1000000 in
theorem rget_no2 {w:World} {K:RSk} {R:Rck} (h:RackRep w K R) (i s kind slot stripe:Int) (f:Frm) (hr:R.readE i s=none) (hg:Frm.get ((R.dsk i).read s.toNat)=some f) (h1:f.kind=kind) (h2:f.slot≠slot) :
  Calls Tryz.prog 32 #[.pointer (some ⟨K.r,0,none⟩),.int .i64 i,.int .i64 s,.int .i64 kind,.int .i64 slot,.int .i64 stripe] w (RGetPost w R i s kind slot stripe):=by
 have hz:=Za4
 have HZ:=hid (Frm.A_size _ Za9)
 have HR:=hid hr; have HG:=hid hg
 have HV:Hid (R.get i s kind slot stripe=none):=hid (by unfold Rck.get Rck.read; rw [hr,if_pos rfl]; simp only [Option.bind_some,hg]; rw [if_neg (fun h=>h2 h.2.1)])
 have H:Hid (RackRep (w.alloc (.cells (Frm.A Frm.zero) 42)) K R):=hid (h.ext ((Ext.refl w).alloc _))
 have hfo:f.Ok:=Frm.get_ok (fun x hx=>(h.bytes hr).2 x hx) hg
 have HF:=hid (Frm.A_size _ hfo)
 have q1:((f.kind:Int) != kind)=false:=by simpa using h1
 have q2:((f.slot:Int) != slot)=true:=by simpa using h2
 clear h hr hg h1 h2
 go_enter Tryz.func32,Tryz.ntmps32
 go_wp2_with fail
 refine (rread_c H.out i s).mono ?_
 rintro e w1 (⟨er',h1,rfl,hx⟩ | ⟨h1,p,rfl,hp,hs,hx⟩)
 ·
  rw [HR.out] at h1; cases h1
 ·
  have HX:=hid hx; have HS:=hid hs
  clear hx hs
  go_wp2_with fail
  refine (fget_c _ 128 p.cap _ w1 HS.out.bytes HS.out.cap).mono ?_
  rintro e w2 ⟨rfl,hx2⟩
  have hG:got ((R.dsk i).read s.toNat)=.tuple #[.agg (Frm.A f),.bool true]:=by unfold got; rw [HG.out]; rfl
  rw [hG]
  have hres:=(Ext.trans HX.out hx2).at (Zad (w:=w) (o:=.cells (Frm.A Frm.zero) 42))
  have HX2:=hid (Ext.trans ((Ext.refl w).alloc (.cells (Frm.A Frm.zero) 42)) (Ext.trans HX.out hx2))
  clear hG hx2
  have k0:((w2.alloc (.cells (Frm.A Frm.zero) 42)).setRow w2.heap.size (Frm.A f)).cell? ⟨w2.heap.size,0,none⟩=some (.int .i64 (f).kind):=Za5 (Frm.A0 _)
  have k1:((w2.alloc (.cells (Frm.A Frm.zero) 42)).setRow w2.heap.size (Frm.A f)).cell? ⟨w2.heap.size,1,none⟩=some (.int .i64 (f).slot):=Za5 (Frm.A1 _)
  have k2:((w2.alloc (.cells (Frm.A Frm.zero) 42)).setRow w2.heap.size (Frm.A f)).cell? ⟨w2.heap.size,2,none⟩=some (.int .i64 (f).stripe):=Za5 (Frm.A2 _)
  have hb2:(w2.alloc (.cells (Frm.A Frm.zero) 42)).heap[w2.heap.size]?=some (.cells (Frm.A Frm.zero) 42 (0,0)):=Zad
  have hb3:((w2.alloc (.cells (Frm.A Frm.zero) 42)).setRow w2.heap.size (Frm.A f)).heap[w2.heap.size]?=some (.cells (Frm.A f) 42 (0,0)):=setRow_heap _ _ _ _ _ _ hb2
  have hlt:=lt_of_block hres
  have hres3:((w2.alloc (.cells (Frm.A Frm.zero) 42)).setRow w2.heap.size (Frm.A f)).heap[w.heap.size]?=some (.cells (Frm.A Frm.zero) 42 (0,0)) :=
   (Zah _ w2.heap.size _).at (Ext.at ((Ext.refl w2).alloc _) hres) (by omega)
  have HX3:Hid (Ext w ((w2.alloc (.cells (Frm.A Frm.zero) 42)).setRow w2.heap.size (Frm.A f))):=hid (Ext.then (Ext.trans HX2.out ((Ext.refl w2).alloc _)) (Zah _ _ _) (fun i hi=>by have:=HX2.out.size; omega))
  go_wp2_with (first
   | (refine wpList_build rfl 42 _ rfl (by simp [Zaq]) ?_; simp only [Array.map_empty,Zaq,Option.getD_some])
   | (refine Zae rfl 42 _ rfl ⟨w2.heap.size,0,none⟩ rfl (Frm.A f) ?_ ?_ ?_; (rw [HF.out]; exact aggFrame); exact Zaj hb3)
   | (refine Zab rfl 42 _ _ rfl w2.heap.size rfl (Frm.A f) _ rfl 42 ?_ hb2 ?_ ?_ ?_; (rw [HF.out]; exact aggFrame); (rw [HF.out,HZ.out]); exact Frm.A_one _)
   | (refine Zab rfl 42 _ _ rfl w.heap.size rfl (Frm.A Frm.zero) _ rfl 42 ?_ hres3 ?_ ?_ ?_; (rw [HZ.out]; exact aggFrame); rfl; exact Frm.A_one _))
  refine bodyPost_ret (Zak Tryz.results32 rfl (by rw [HZ.out]; exact aggFrame) (setRow_heap _ _ _ _ _ _ hres3)) rfl ?_
  exact ⟨by rw [HV.out]; rfl,Ext.then HX3.out (Zah _ _ _) (fun i hi=>by omega)⟩
set_option maxRecDepth 100000 in
set_option maxHeartbeats 1000000 in
theorem rget_no3 {w:World} {K:RSk} {R:Rck} (h:RackRep w K R) (i s kind slot stripe:Int) (f:Frm) (hr:R.readE i s=none) (hg:Frm.get ((R.dsk i).read s.toNat)=some f) (h1:f.kind=kind) (h2:f.slot=slot) (h3:0<=stripe) (h4:f.stripe≠stripe) :
  Calls Tryz.prog 32 #[.pointer (some ⟨K.r,0,none⟩),.int .i64 i,.int .i64 s,.int .i64 kind,.int .i64 slot,.int .i64 stripe] w (RGetPost w R i s kind slot stripe):=by
 have hz:=Za4
 have HZ:=hid (Frm.A_size _ Za9)
 have HR:=hid hr; have HG:=hid hg
 have HV:Hid (R.get i s kind slot stripe=none):=hid (by unfold Rck.get Rck.read; rw [hr,if_pos rfl]; simp only [Option.bind_some,hg]; rw [if_neg (fun h=>h4 (h.2.2 h3))])
 have H:Hid (RackRep (w.alloc (.cells (Frm.A Frm.zero) 42)) K R):=hid (h.ext ((Ext.refl w).alloc _))
 have hfo:f.Ok:=Frm.get_ok (fun x hx=>(h.bytes hr).2 x hx) hg
 have HF:=hid (Frm.A_size _ hfo)
 have q1:((f.kind:Int) != kind)=false:=by simpa using h1
 have q2:((f.slot:Int) != slot)=false:=by simpa using h2
 have q3:((f.stripe:Int) != stripe)=true:=by simpa using h4
 clear h hr hg h1 h2 h4
 go_enter Tryz.func32,Tryz.ntmps32
 go_wp2_with fail
 refine (rread_c H.out i s).mono ?_
 rintro e w1 (⟨er',h1,rfl,hx⟩ | ⟨h1,p,rfl,hp,hs,hx⟩)
 ·
  rw [HR.out] at h1; cases h1
 ·
  have HX:=hid hx; have HS:=hid hs
  clear hx hs
  go_wp2_with fail
  refine (fget_c _ 128 p.cap _ w1 HS.out.bytes HS.out.cap).mono ?_
  rintro e w2 ⟨rfl,hx2⟩
  have hG:got ((R.dsk i).read s.toNat)=.tuple #[.agg (Frm.A f),.bool true]:=by unfold got; rw [HG.out]; rfl
  rw [hG]
  have hres:=(Ext.trans HX.out hx2).at (Zad (w:=w) (o:=.cells (Frm.A Frm.zero) 42))
  have HX2:=hid (Ext.trans ((Ext.refl w).alloc (.cells (Frm.A Frm.zero) 42)) (Ext.trans HX.out hx2))
  clear hG hx2
  have k0:((w2.alloc (.cells (Frm.A Frm.zero) 42)).setRow w2.heap.size (Frm.A f)).cell? ⟨w2.heap.size,0,none⟩=some (.int .i64 (f).kind):=Za5 (Frm.A0 _)
  have k1:((w2.alloc (.cells (Frm.A Frm.zero) 42)).setRow w2.heap.size (Frm.A f)).cell? ⟨w2.heap.size,1,none⟩=some (.int .i64 (f).slot):=Za5 (Frm.A1 _)
  have k2:((w2.alloc (.cells (Frm.A Frm.zero) 42)).setRow w2.heap.size (Frm.A f)).cell? ⟨w2.heap.size,2,none⟩=some (.int .i64 (f).stripe):=Za5 (Frm.A2 _)
  have hb2:(w2.alloc (.cells (Frm.A Frm.zero) 42)).heap[w2.heap.size]?=some (.cells (Frm.A Frm.zero) 42 (0,0)):=Zad
  have hb3:((w2.alloc (.cells (Frm.A Frm.zero) 42)).setRow w2.heap.size (Frm.A f)).heap[w2.heap.size]?=some (.cells (Frm.A f) 42 (0,0)):=setRow_heap _ _ _ _ _ _ hb2
  have hlt:=lt_of_block hres
  have hres3:((w2.alloc (.cells (Frm.A Frm.zero) 42)).setRow w2.heap.size (Frm.A f)).heap[w.heap.size]?=some (.cells (Frm.A Frm.zero) 42 (0,0)) :=
   (Zah _ w2.heap.size _).at (Ext.at ((Ext.refl w2).alloc _) hres) (by omega)
  have HX3:Hid (Ext w ((w2.alloc (.cells (Frm.A Frm.zero) 42)).setRow w2.heap.size (Frm.A f))):=hid (Ext.then (Ext.trans HX2.out ((Ext.refl w2).alloc _)) (Zah _ _ _) (fun i hi=>by have:=HX2.out.size; omega))
  go_wp2_with (first
   | (refine wpList_build rfl 42 _ rfl (by simp [Zaq]) ?_; simp only [Array.map_empty,Zaq,Option.getD_some])
   | (refine Zae rfl 42 _ rfl ⟨w2.heap.size,0,none⟩ rfl (Frm.A f) ?_ ?_ ?_; (rw [HF.out]; exact aggFrame); exact Zaj hb3)
   | (refine Zab rfl 42 _ _ rfl w2.heap.size rfl (Frm.A f) _ rfl 42 ?_ hb2 ?_ ?_ ?_; (rw [HF.out]; exact aggFrame); (rw [HF.out,HZ.out]); exact Frm.A_one _)
   | (refine Zab rfl 42 _ _ rfl w.heap.size rfl (Frm.A Frm.zero) _ rfl 42 ?_ hres3 ?_ ?_ ?_; (rw [HZ.out]; exact aggFrame); rfl; exact Frm.A_one _))
  refine bodyPost_ret (Zak Tryz.results32 rfl (by rw [HZ.out]; exact aggFrame) (setRow_heap _ _ _ _ _ _ hres3)) rfl ?_
  exact ⟨by rw [HV.out]; rfl,Ext.then HX3.out (Zah _ _ _) (fun i hi=>by omega)⟩
set_option maxRecDepth 100000 in
set_option maxHeartbeats 1000000 in
theorem rget_yes4 {w:World} {K:RSk} {R:Rck} (h:RackRep w K R) (i s kind slot stripe:Int) (f:Frm) (hr:R.readE i s=none) (hg:Frm.get ((R.dsk i).read s.toNat)=some f) (h1:f.kind=kind) (h2:f.slot=slot) (h3:0<=stripe) (h4:f.stripe=stripe) :
  Calls Tryz.prog 32 #[.pointer (some ⟨K.r,0,none⟩),.int .i64 i,.int .i64 s,.int .i64 kind,.int .i64 slot,.int .i64 stripe] w (RGetPost w R i s kind slot stripe):=by
 have hz:=Za4
 have HZ:=hid (Frm.A_size _ Za9)
 have HR:=hid hr; have HG:=hid hg
 have HV:Hid (R.get i s kind slot stripe=some f):=hid (by unfold Rck.get Rck.read; rw [hr,if_pos rfl]; simp only [Option.bind_some,hg]; rw [if_pos ⟨h1,h2,fun _=>h4⟩])
 have H:Hid (RackRep (w.alloc (.cells (Frm.A Frm.zero) 42)) K R):=hid (h.ext ((Ext.refl w).alloc _))
 have hfo:f.Ok:=Frm.get_ok (fun x hx=>(h.bytes hr).2 x hx) hg
 have HF:=hid (Frm.A_size _ hfo)
 have q1:((f.kind:Int) != kind)=false:=by simpa using h1
 have q2:((f.slot:Int) != slot)=false:=by simpa using h2
 have q3:((f.stripe:Int) != stripe)=false:=by simpa using h4
 clear h hr hg h1 h2 h4
 go_enter Tryz.func32,Tryz.ntmps32
 go_wp2_with fail
 refine (rread_c H.out i s).mono ?_
 rintro e w1 (⟨er',h1,rfl,hx⟩ | ⟨h1,p,rfl,hp,hs,hx⟩)
 ·
  rw [HR.out] at h1; cases h1
 ·
  have HX:=hid hx; have HS:=hid hs
  clear hx hs
  go_wp2_with fail
  refine (fget_c _ 128 p.cap _ w1 HS.out.bytes HS.out.cap).mono ?_
  rintro e w2 ⟨rfl,hx2⟩
  have hG:got ((R.dsk i).read s.toNat)=.tuple #[.agg (Frm.A f),.bool true]:=by unfold got; rw [HG.out]; rfl
  rw [hG]
  have hres:=(Ext.trans HX.out hx2).at (Zad (w:=w) (o:=.cells (Frm.A Frm.zero) 42))
  have HX2:=hid (Ext.trans ((Ext.refl w).alloc (.cells (Frm.A Frm.zero) 42)) (Ext.trans HX.out hx2))
  clear hG hx2
  have k0:((w2.alloc (.cells (Frm.A Frm.zero) 42)).setRow w2.heap.size (Frm.A f)).cell? ⟨w2.heap.size,0,none⟩=some (.int .i64 (f).kind):=Za5 (Frm.A0 _)
  have k1:((w2.alloc (.cells (Frm.A Frm.zero) 42)).setRow w2.heap.size (Frm.A f)).cell? ⟨w2.heap.size,1,none⟩=some (.int .i64 (f).slot):=Za5 (Frm.A1 _)
  have k2:((w2.alloc (.cells (Frm.A Frm.zero) 42)).setRow w2.heap.size (Frm.A f)).cell? ⟨w2.heap.size,2,none⟩=some (.int .i64 (f).stripe):=Za5 (Frm.A2 _)
  have hb2:(w2.alloc (.cells (Frm.A Frm.zero) 42)).heap[w2.heap.size]?=some (.cells (Frm.A Frm.zero) 42 (0,0)):=Zad
  have hb3:((w2.alloc (.cells (Frm.A Frm.zero) 42)).setRow w2.heap.size (Frm.A f)).heap[w2.heap.size]?=some (.cells (Frm.A f) 42 (0,0)):=setRow_heap _ _ _ _ _ _ hb2
  have hlt:=lt_of_block hres
  have hres3:((w2.alloc (.cells (Frm.A Frm.zero) 42)).setRow w2.heap.size (Frm.A f)).heap[w.heap.size]?=some (.cells (Frm.A Frm.zero) 42 (0,0)) :=
   (Zah _ w2.heap.size _).at (Ext.at ((Ext.refl w2).alloc _) hres) (by omega)
  have HX3:Hid (Ext w ((w2.alloc (.cells (Frm.A Frm.zero) 42)).setRow w2.heap.size (Frm.A f))):=hid (Ext.then (Ext.trans HX2.out ((Ext.refl w2).alloc _)) (Zah _ _ _) (fun i hi=>by have:=HX2.out.size; omega))
  go_wp2_with (first
   | (refine Zae rfl 42 _ rfl ⟨w2.heap.size,0,none⟩ rfl (Frm.A f) ?_ ?_ ?_; (rw [HF.out]; exact aggFrame); exact Zaj hb3)
   | (refine Zab rfl 42 _ _ rfl w2.heap.size rfl (Frm.A f) _ rfl 42 ?_ hb2 ?_ ?_ ?_; (rw [HF.out]; exact aggFrame); (rw [HF.out,HZ.out]); exact Frm.A_one _)
   | (refine Zab rfl 42 _ _ rfl w.heap.size rfl (Frm.A f) _ rfl 42 ?_ hres3 ?_ ?_ ?_; (rw [HF.out]; exact aggFrame); (rw [HF.out,HZ.out]); exact Frm.A_one _))
  refine bodyPost_ret (Zak Tryz.results32 rfl (by rw [HF.out]; exact aggFrame) (setRow_heap _ _ _ _ _ _ hres3)) rfl ?_
  exact ⟨by rw [HV.out]; rfl,Ext.then HX3.out (Zah _ _ _) (fun i hi=>by omega)⟩
set_option maxRecDepth 100000 in
set_option maxHeartbeats 1000000 in
theorem rget_yes3 {w:World} {K:RSk} {R:Rck} (h:RackRep w K R) (i s kind slot stripe:Int) (f:Frm) (hr:R.readE i s=none) (hg:Frm.get ((R.dsk i).read s.toNat)=some f) (h1:f.kind=kind) (h2:f.slot=slot) (h3:¬0<=stripe) :
  Calls Tryz.prog 32 #[.pointer (some ⟨K.r,0,none⟩),.int .i64 i,.int .i64 s,.int .i64 kind,.int .i64 slot,.int .i64 stripe] w (RGetPost w R i s kind slot stripe):=by
 have hz:=Za4
 have HZ:=hid (Frm.A_size _ Za9)
 have HR:=hid hr; have HG:=hid hg
 have HV:Hid (R.get i s kind slot stripe=some f):=hid (by unfold Rck.get Rck.read; rw [hr,if_pos rfl]; simp only [Option.bind_some,hg]; rw [if_pos ⟨h1,h2,fun h=>absurd h h3⟩])
 have H:Hid (RackRep (w.alloc (.cells (Frm.A Frm.zero) 42)) K R):=hid (h.ext ((Ext.refl w).alloc _))
 have hfo:f.Ok:=Frm.get_ok (fun x hx=>(h.bytes hr).2 x hx) hg
 have HF:=hid (Frm.A_size _ hfo)
 have q1:((f.kind:Int) != kind)=false:=by simpa using h1
 have q2:((f.slot:Int) != slot)=false:=by simpa using h2
 clear h hr hg h1 h2
 go_enter Tryz.func32,Tryz.ntmps32
 go_wp2_with fail
 refine (rread_c H.out i s).mono ?_
 rintro e w1 (⟨er',h1,rfl,hx⟩ | ⟨h1,p,rfl,hp,hs,hx⟩)
 ·
  rw [HR.out] at h1; cases h1
 ·
  have HX:=hid hx; have HS:=hid hs
  clear hx hs
  go_wp2_with fail
  refine (fget_c _ 128 p.cap _ w1 HS.out.bytes HS.out.cap).mono ?_
  rintro e w2 ⟨rfl,hx2⟩
  have hG:got ((R.dsk i).read s.toNat)=.tuple #[.agg (Frm.A f),.bool true]:=by unfold got; rw [HG.out]; rfl
  rw [hG]
  have hres:=(Ext.trans HX.out hx2).at (Zad (w:=w) (o:=.cells (Frm.A Frm.zero) 42))
  have HX2:=hid (Ext.trans ((Ext.refl w).alloc (.cells (Frm.A Frm.zero) 42)) (Ext.trans HX.out hx2))
  clear hG hx2
  have k0:((w2.alloc (.cells (Frm.A Frm.zero) 42)).setRow w2.heap.size (Frm.A f)).cell? ⟨w2.heap.size,0,none⟩=some (.int .i64 (f).kind):=Za5 (Frm.A0 _)
  have k1:((w2.alloc (.cells (Frm.A Frm.zero) 42)).setRow w2.heap.size (Frm.A f)).cell? ⟨w2.heap.size,1,none⟩=some (.int .i64 (f).slot):=Za5 (Frm.A1 _)
  have k2:((w2.alloc (.cells (Frm.A Frm.zero) 42)).setRow w2.heap.size (Frm.A f)).cell? ⟨w2.heap.size,2,none⟩=some (.int .i64 (f).stripe):=Za5 (Frm.A2 _)
  have hb2:(w2.alloc (.cells (Frm.A Frm.zero) 42)).heap[w2.heap.size]?=some (.cells (Frm.A Frm.zero) 42 (0,0)):=Zad
  have hb3:((w2.alloc (.cells (Frm.A Frm.zero) 42)).setRow w2.heap.size (Frm.A f)).heap[w2.heap.size]?=some (.cells (Frm.A f) 42 (0,0)):=setRow_heap _ _ _ _ _ _ hb2
  have hlt:=lt_of_block hres
  have hres3:((w2.alloc (.cells (Frm.A Frm.zero) 42)).setRow w2.heap.size (Frm.A f)).heap[w.heap.size]?=some (.cells (Frm.A Frm.zero) 42 (0,0)) :=
   (Zah _ w2.heap.size _).at (Ext.at ((Ext.refl w2).alloc _) hres) (by omega)
  have HX3:Hid (Ext w ((w2.alloc (.cells (Frm.A Frm.zero) 42)).setRow w2.heap.size (Frm.A f))):=hid (Ext.then (Ext.trans HX2.out ((Ext.refl w2).alloc _)) (Zah _ _ _) (fun i hi=>by have:=HX2.out.size; omega))
  go_wp2_with (first
   | (refine Zae rfl 42 _ rfl ⟨w2.heap.size,0,none⟩ rfl (Frm.A f) ?_ ?_ ?_; (rw [HF.out]; exact aggFrame); exact Zaj hb3)
   | (refine Zab rfl 42 _ _ rfl w2.heap.size rfl (Frm.A f) _ rfl 42 ?_ hb2 ?_ ?_ ?_; (rw [HF.out]; exact aggFrame); (rw [HF.out,HZ.out]); exact Frm.A_one _)
   | (refine Zab rfl 42 _ _ rfl w.heap.size rfl (Frm.A f) _ rfl 42 ?_ hres3 ?_ ?_ ?_; (rw [HF.out]; exact aggFrame); (rw [HF.out,HZ.out]); exact Frm.A_one _))
  refine bodyPost_ret (Zak Tryz.results32 rfl (by rw [HF.out]; exact aggFrame) (setRow_heap _ _ _ _ _ _ hres3)) rfl ?_
  exact ⟨by rw [HV.out]; rfl,Ext.then HX3.out (Zah _ _ _) (fun i hi=>by omega)⟩
theorem rget_c {w:World} {K:RSk} {R:Rck} (h:RackRep w K R) (i s kind slot stripe:Int) :
  Calls Tryz.prog 32 #[.pointer (some ⟨K.r,0,none⟩),.int .i64 i,.int .i64 s,.int .i64 kind,.int .i64 slot,.int .i64 stripe] w (RGetPost w R i s kind slot stripe):=by
 rcases hr:R.readE i s with _ | er
 ·
  rcases hg:Frm.get ((R.dsk i).read s.toNat) with _ | f
  ·
   exact rget_bad h i s kind slot stripe hr hg
  ·
   by_cases h1:f.kind=kind
   ·
    by_cases h2:f.slot=slot
    ·
     by_cases h3:0<=stripe
     ·
      by_cases h4:f.stripe=stripe
      ·
       exact rget_yes4 h i s kind slot stripe f hr hg h1 h2 h3 h4
      ·
       exact rget_no3 h i s kind slot stripe f hr hg h1 h2 h3 h4
     ·
      exact rget_yes3 h i s kind slot stripe f hr hg h1 h2 h3
    ·
     exact rget_no2 h i s kind slot stripe f hr hg h1 h2
   ·
    exact rget_no1 h i s kind slot stripe f hr hg h1
 ·
  exact rget_err h i s kind slot stripe er hr
theorem Keeps.ext {S:Nat->Prop} {w w1 w2:World} (h:Ext w w1) (k:Keeps S w1 w2) (hS:∀ b,b < w.heap.size->S b):Ext w w2:=Ext.then h k fun i hi hn=>hn (hS i hi)
theorem at_write {S:Nat->Prop} {w:World} {r:Nat} {R:Rck} (h:RackAt S w r R) (i s:Int) (a:Option Addr) (n c:Nat) (l:List Nat) (hb:BytesAt w a n l) :
  Calls Tryz.prog 16 #[.pointer (some ⟨r,0,none⟩),.int .i64 i,.int .i64 s,.slice a n c] w fun e w'=>e=.returned (oErr (R.write i s l).1)/\RackAt S w' r (R.write i s l).2/\Keeps S w w':=by
 obtain ⟨h0,K,rfl,h2,h3⟩:=h
 refine (rwrite_c h2 i s a n c l hb).mono ?_
 rintro e w' ⟨rfl,K',ht⟩
 exact ⟨rfl,ht.at_ h0 h3⟩
theorem at_flush {S:Nat->Prop} {w:World} {r:Nat} {R:Rck} (h:RackAt S w r R) (i:Int) :
  Calls Tryz.prog 18 #[.pointer (some ⟨r,0,none⟩),.int .i64 i] w fun e w'=>e=.returned (oErr (R.flush i).1)/\RackAt S w' r (R.flush i).2/\Keeps S w w':=by
 obtain ⟨h0,K,rfl,h2,h3⟩:=h
 refine (rflush_c h2 i).mono ?_
 rintro e w' ⟨rfl,K',ht⟩
 exact ⟨rfl,ht.at_ h0 h3⟩
theorem at_read {S:Nat->Prop} {w:World} {r:Nat} {R:Rck} (h:RackAt S w r R) (i s:Int) :
  Calls Tryz.prog 34 #[.pointer (some ⟨r,0,none⟩),.int .i64 i,.int .i64 s] w (RReadPost w R i s):=by
 obtain ⟨h0,K,rfl,h2,h3⟩:=h
 exact rread_c h2 i s
theorem at_get {S:Nat->Prop} {w:World} {r:Nat} {R:Rck} (h:RackAt S w r R) (i s kind slot stripe:Int) :
  Calls Tryz.prog 32 #[.pointer (some ⟨r,0,none⟩),.int .i64 i,.int .i64 s,.int .i64 kind,.int .i64 slot,.int .i64 stripe] w (RGetPost w R i s kind slot stripe):=by
 obtain ⟨h0,K,rfl,h2,h3⟩:=h
 exact rget_c h2 i s kind slot stripe
theorem at_up {S:Nat->Prop} {w:World} {r:Nat} {R:Rck} (h:RackAt S w r R) (i:Int) :
  Calls Tryz.prog 31 #[.pointer (some ⟨r,0,none⟩),.int .i64 i] w fun e w'=>e=.returned (.bool (R.up i))/\w=w':=by
 obtain ⟨h0,K,rfl,h2,h3⟩:=h
 exact rup_c h2 i
theorem at_n {S:Nat->Prop} {w:World} {r:Nat} {R:Rck} (h:RackAt S w r R) :
  Calls Tryz.prog 40 #[.pointer (some ⟨r,0,none⟩)] w fun e w'=>e=.returned (.int .i64 R.l.length)/\w=w':=by
 obtain ⟨h0,K,rfl,h2,h3⟩:=h
 rw [h2.len]
 exact rn_c h2
theorem at_sectors {S:Nat->Prop} {w:World} {r:Nat} {R:Rck} (h:RackAt S w r R) :
  Calls Tryz.prog 41 #[.pointer (some ⟨r,0,none⟩)] w fun e w'=>e=.returned (.int .i64 R.sectors)/\w=w':=by
 obtain ⟨h0,K,rfl,h2,h3⟩:=h
 rw [h2.sectors_eq]
 exact Zce h2
theorem at_die {S:Nat->Prop} {w:World} {r:Nat} {R:Rck} (h:RackAt S w r R) (i:Int) :
  Calls Tryz.prog 25 #[.pointer (some ⟨r,0,none⟩),.int .i64 i] w fun e w'=>e=.returned (.bool (R.has i))/\RackAt S w' r (R.die i)/\Keeps S w w':=by
 obtain ⟨h0,K,rfl,h2,h3⟩:=h
 refine (rdie_c h2 i).mono ?_
 rintro e w' ⟨rfl,K',ht⟩
 exact ⟨rfl,ht.at_ h0 h3⟩
theorem at_replace {S:Nat->Prop} {w:World} {r:Nat} {R:Rck} (h:RackAt S w r R) (i:Int) :
  Calls Tryz.prog 27 #[.pointer (some ⟨r,0,none⟩),.int .i64 i] w fun e w'=>e=.returned (.bool (R.has i))/\RackAt S w' r (R.replace i)/\Keeps S w w':=by
 obtain ⟨h0,K,rfl,h2,h3⟩:=h
 refine (rreplace_c h2 i).mono ?_
 rintro e w' ⟨rfl,K',ht⟩
 exact ⟨rfl,ht.at_ h0 h3⟩
theorem at_new (n m:Nat) (hn:1<=n) (hn8:n<=8) (hm:1<=m) (hm2:m<=128) (w:World) :
  Calls Tryz.prog 9 #[.int .i64 n,.int .i64 m] w fun e w'=>∃ r,e=.returned (.tuple #[.pointer (some ⟨r,0,none⟩),.nilIface])/\RackAt (fun b=>b < w.heap.size) w' r (Rck.new n m)/\Ext w w':=by
 refine (rnew_c n m hn hn8 hm hm2 w).mono ?_
 rintro e w' ⟨K,rfl,h1,h2,h3,_,_⟩
 exact ⟨K.r,rfl,⟨fun b hb=>Nat.lt_of_lt_of_le hb h3.size,K,rfl,h1,fun b hb hs=>by have:=h2 b hb; omega⟩,h3⟩
section
variable {P:Program} {ops:Array Oper} {E S:World->World->Prop}
theorem wpSQ_run {w:World} {K:Act->Prop} {a:Act} {o:Oper} {rest:List Oper} (v:Value) (hw:Region.wanted o (yielded ops a.tmps)=true) (h:∀ x:SW S w,(execOp a.eval o).run P x.w=.ok (.value v) x.w)
  (hK:wpSQ E S P ops w K rest (a.put o.dst v)):wpSQ E S P ops w K (o::rest) a:=by
 have h0:wpSQ E S P ops w K (o::rest) a=if Region.wanted o (yielded ops a.tmps) then ∃ v,(∀ x:SW S w,o.quietAt P a (E x.w) x.w v)/\wpSQ E S P ops w K rest (a.put o.dst v) else wpSQ E S P ops w K rest (a.put o.dst undef):=rfl
 rw [h0,if_pos hw]
 refine ⟨v,fun x=>?_,hK⟩
 unfold Oper.quietAt
 rw [h x]
 exact ⟨rfl,rfl⟩
theorem Zaz {w:World} {K:Act->Prop} {a:Act} {o:Oper} {rest:List Oper} (ty:TypeId) (y:Operand) (ho:o.op=.load ty y) (ad:Addr) (hx:a.eval y=.pointer (some ad)) (A:Array Value) (hw:Region.wanted o (yielded ops a.tmps)=true)
  (ht:AggType P ty A.size) (hc:∀ x:SW S w,∀ j v,A.toList[j]?=some v->x.w.cell? (ad.add j)=some v) (hK:wpSQ E S P ops w K rest (a.put o.dst (.agg A))):wpSQ E S P ops w K (o::rest) a:=by
 refine wpSQ_run (.agg A) hw (fun x=>?_) hK
 have hl:=Zbc (P:=P) x.w ty ad A ht (hc x)
 unfold execOp
 simp only [ho,hx,Instr.loadAt,Instr.sureAddr,Sem.run_bind,Sem.run_pure,Result.andThen_ok,hl]
theorem wpSQ_eql {w:World} {K:Act->Prop} {a:Act} {o:Oper} {rest:List Oper} (op:BinOp) (ty ty':TypeId) (y z:Operand) (ho:o.op=.binOp op ty y z ty') (A B:Array Value) (hy:a.eval y=.agg A) (hz:a.eval z=.agg B) (v:Value) (hw:Region.wanted o (yielded ops a.tmps)=true)
  (hg:∀ w,(eqGuard op ty y z (.agg A) (.agg B)).run P w=.ok () w) (hb:∀ w,(binOp op ty (.agg A) (.agg B)).run P w=.ok v w) (hK:wpSQ E S P ops w K rest (a.put o.dst v)):wpSQ E S P ops w K (o::rest) a:=by
 refine wpSQ_run v hw (fun x=>?_) hK
 unfold execOp
 simp only [ho,hy,hz,Sem.run_bind,hg,hb,Result.andThen_ok]
 rfl
end
end Go.Proofs.YtgjnnbomnoafcaaGreatDoor
namespace Go.Proofs.YtgjnnbomnoafcaaGreatDoor
set_option linter.unusedVariables false
open Go Go.RowKit
theorem wpSQ_skip {P:Program} {ops:Array Oper} {E S:World->World->Prop} {w:World} {K:Act->Prop} {a:Act} {o:Oper} {rest:List Oper} (hw:Region.wanted o (yielded ops a.tmps)=false)
  (hK:wpSQ E S P ops w K rest (a.put o.dst undef)):wpSQ E S P ops w K (o::rest) a:=by
 have h0:wpSQ E S P ops w K (o::rest) a=if Region.wanted o (yielded ops a.tmps) then ∃ v,(∀ x:SW S w,o.quietAt P a (E x.w) x.w v)/\wpSQ E S P ops w K rest (a.put o.dst v) else wpSQ E S P ops w K rest (a.put o.dst undef):=rfl
 rw [h0,if_neg (by rw [hw]; simp)]
 exact hK
theorem Zcb {P:Program} {ops:Array Oper} {E S:World->World->Prop} {w:World} {K:Act->Prop} {a:Act} {o:Oper} {rest:List Oper} (hw:Region.wanted o (yielded ops a.tmps)=false)
  (h:∀ K':Act->Prop,(∀ a',wpSQ E S P ops w K rest a'->K' a')->K' (a.put o.dst undef)):wpSQ E S P ops w K (o::rest) a :=
 wpSQ_skip hw (h (fun a'=>wpSQ E S P ops w K rest a') fun _ x=>x)
section
variable {P:Program} {ops:Array Oper} {Q:Exit->Act->World->Prop}
theorem wpList_run {w w':World} {a:Act} {o:Oper} {rest:List Oper} (v:Value) (hw:Region.wanted o (yielded ops a.tmps)=true) (h:(execOp a.eval o).run P w=.ok (.value v) w')
  (hK:wpList P ops Q rest (a.put o.dst v) w'):wpList P ops Q (o::rest) a w:=by
 unfold wpList
 rw [if_pos hw]
 refine .inl ?_
 unfold Oper.wp
 rw [h]
 exact hK
theorem wpListG_load_agg {w:World} {a:Act} {o:Oper} {rest:List Oper} (ty:TypeId) (y:Operand) (ho:o.op=.load ty y) (ad:Addr) (hx:a.eval y=.pointer (some ad)) (A:Array Value) (hw:Region.wanted o (yielded ops a.tmps)=true)
  (ht:AggType P ty A.size) (hc:∀ j v,A.toList[j]?=some v->w.cell? (ad.add j)=some v) (hK:wpList P ops Q rest (a.put o.dst (.agg A)) w):wpList P ops Q (o::rest) a w:=by
 refine wpList_run (.agg A) hw ?_ hK
 have hl:=Zbc (P:=P) w ty ad A ht hc
 unfold execOp
 simp only [ho,hx,Instr.loadAt,Instr.sureAddr,Sem.run_bind,Sem.run_pure,Result.andThen_ok,hl]
theorem wpListG_eql {w:World} {a:Act} {o:Oper} {rest:List Oper} (op:BinOp) (ty ty':TypeId) (y z:Operand) (ho:o.op=.binOp op ty y z ty') (A B:Array Value) (hy:a.eval y=.agg A) (hz:a.eval z=.agg B) (v:Value) (hw:Region.wanted o (yielded ops a.tmps)=true)
  (hg:(eqGuard op ty y z (.agg A) (.agg B)).run P w=.ok () w) (hb:(binOp op ty (.agg A) (.agg B)).run P w=.ok v w) (hK:wpList P ops Q rest (a.put o.dst v) w):wpList P ops Q (o::rest) a w:=by
 refine wpList_run v hw ?_ hK
 unfold execOp
 simp only [ho,hy,hz,Sem.run_bind,hg,hb,Result.andThen_ok]
 rfl
end
end Go.Proofs.YtgjnnbomnoafcaaGreatDoor
namespace Go.Proofs.YtgjnnbomnoafcaaGreatDoor
set_option linter.unusedVariables false
open Go Go.RowKit
def Rck.onTo (R:Rck) (j:Nat):List Nat:=(List.range j).filter fun i=>R.up i
theorem Rck.onTo_succ (R:Rck) (j:Nat):R.onTo (j+1)=R.onTo j++if R.up (j:Int) then [j] else []:=by
 unfold onTo
 rw [List.range_succ,List.filter_append]
 by_cases h:R.up (j:Int)=true<;>simp [h]
theorem Rck.onTo_len (R:Rck) (j:Nat):(R.onTo j).length<=j:=by
 unfold onTo
 have:=List.length_filter_le (fun i:Nat=>R.up i) (List.range j)
 simpa using this
def ROnlinePost (w:World) (R:Rck) (e:Ending) (w':World):Prop:=∃ v,e=.returned v/\OwnInts w' w.heap.size v R.online/\Ext w w'
set_option maxHeartbeats 800000 in
theorem ronline_c {w:World} {K:RSk} {R:Rck} (h:RackRep w K R) :
  Calls Tryz.prog 39 #[.pointer (some ⟨K.r,0,none⟩)] w (ROnlinePost w R):=by
 have c0:=h.cell0
 have H:=hid h
 have HW:Hid (R.onTo K.n=R.online):=hid (by unfold Rck.onTo Rck.online; rw [h.len])
 have hsm:=h.small
 clear h
 go_enter Tryz.func39,Tryz.ntmps39
 go_wp2
 clear c0
 go_loopw [3,10] (fun v i wr=>∃ j:Nat,i=.int .i64 j/\j<=K.n/\OwnInts wr w.heap.size v (R.onTo j)/\Ext w wr) (fun _ i _=>K.n - (intOf i).toNat)
 case atStart=>exact ⟨0,rfl,by omega,OwnInts.nil _ _,Ext.refl _⟩
 case round =>
  obtain ⟨j,rfl,hj,hown,hx⟩:=hrel
  by_cases hlt:j < K.n
  ·
   have hup:=R.onTo_succ j
   have hlen:=R.onTo_len j
   have HU:=hid (rup_c (H.out.ext hx) (j:Int))
   rcases hu:R.up (j:Int) with _ | _
   ·
    rw [hu] at hup
    simp only [Bool.false_eq_true,if_false,List.append_nil] at hup
    rw [<- hup] at hown
    have HO:=hid hown; have HX:=hid hx; have HV:=hid hu
    clear hu hup hown hx
    go_wp2_with (go_at_call 31; refine HU.out.mono ?_; rintro e w' ⟨rfl,rfl⟩; rw [HV.out])
    go_roundw
    case rel=>exact ⟨j+1,by go_num,by omega,HO.out,HX.out⟩
    case measure=>simp [intOf]; omega
   ·
    rw [hu] at hup
    simp only [if_true] at hup
    obtain ⟨v',W2,hap,hown2,_,hx2⟩:=hown.push j (by omega) hx.size
    rw [<- hup] at hown2
    have HO:=hid hown2; have HX:=hid (hx2 w (Nat.le_refl _) hx); have HV:=hid hu
    clear hu hup hown hx hown2 hx2
    go_wp2_with (first
     | (go_at_call 31; refine HU.out.mono ?_; rintro e w' ⟨rfl,rfl⟩; rw [HV.out])
     | (at_builtin; refine wpList_append_run rfl _ _ _ rfl _ _ _ _ rfl rfl hap ?_))
    go_roundw
    case rel=>exact ⟨j+1,by go_num,by omega,HO.out,HX.out⟩
    case measure=>simp [intOf]; omega
  ·
   obtain rfl:K.n=j:=by omega
   rw [HW.out] at hown
   have HO:=hid hown; have HX:=hid hx
   clear hown hx
   go_wp2
   go_ret
   exact ⟨_,rfl,HO.out,HX.out⟩
theorem at_online {S:Nat->Prop} {w:World} {r:Nat} {R:Rck} (h:RackAt S w r R) :
  Calls Tryz.prog 39 #[.pointer (some ⟨r,0,none⟩)] w (ROnlinePost w R):=by
 obtain ⟨h0,K,rfl,h2,h3⟩:=h
 exact ronline_c h2
theorem roff_c {w:World} {K:RSk} {R:Rck} (h:RackRep w K R) :
  Calls Tryz.prog 37 #[.pointer (some ⟨K.r,0,none⟩)] w fun e w'=>e=.returned (.bool R.off)/\w=w':=by
 have c1:=h.cell1
 clear h
 go_enter Tryz.func37,Tryz.ntmps37
 go_wp2
 go_ret
 exact ⟨rfl,rfl⟩
theorem at_off {S:Nat->Prop} {w:World} {r:Nat} {R:Rck} (h:RackAt S w r R) :
  Calls Tryz.prog 37 #[.pointer (some ⟨r,0,none⟩)] w fun e w'=>e=.returned (.bool R.off)/\w=w':=by
 obtain ⟨h0,K,rfl,h2,h3⟩:=h
 exact roff_c h2
theorem rarm_c {w:World} {K:RSk} {R:Rck} (h:RackRep w K R) (n:Int) (hn:n<=9223372036854775807) :
  Calls Tryz.prog 20 #[.pointer (some ⟨K.r,0,none⟩),.int .i64 n] w fun e w'=>e=.returned (.tuple #[])/\RackRep w' K (R.arm n)/\Only (fun b=>b=K.r) w w':=by
 have c2:=h.cell2
 have f2:=h.free 2
 by_cases hp:-1<=n
 ·
  have e:max n (-1)=n:=by omega
  have HF:Hid (RackRep (w.setCell ⟨K.r,2,none⟩ (.int .i64 n)) K (R.arm n)):=hid (by unfold Rck.arm; rw [e]; exact h.set (R':={ R with fuse:=n }) rfl ⟨hp,hn⟩ rfl)
  have hmax:(if n < -1 then -1 else n)=n:=if_neg (by omega)
  have hmax2:(if (-1:Int) > n then -1 else n)=n:=if_neg (by omega)
  clear h e
  go_enter Tryz.func20,Tryz.ntmps20
  go_wp2
  go_end0
  exact ⟨rfl,HF.out,only_set _ _ _ _⟩
 ·
  have e:max n (-1)=-1:=by omega
  have HF:Hid (RackRep (w.setCell ⟨K.r,2,none⟩ (.int .i64 (-1))) K (R.arm n)):=hid (by unfold Rck.arm; rw [e]; exact h.set (R':={ R with fuse:=-1 }) rfl ⟨by simp,by simp⟩ rfl)
  have hmax:(if n < -1 then -1 else n)=-1:=if_pos (by omega)
  clear h e
  go_enter Tryz.func20,Tryz.ntmps20
  go_wp2
  go_end0
  exact ⟨rfl,HF.out,only_set _ _ _ _⟩
theorem at_arm {S:Nat->Prop} {w:World} {r:Nat} {R:Rck} (h:RackAt S w r R) (n:Int) (hn:n<=9223372036854775807) :
  Calls Tryz.prog 20 #[.pointer (some ⟨r,0,none⟩),.int .i64 n] w fun e w'=>e=.returned (.tuple #[])/\RackAt S w' r (R.arm n)/\Keeps S w w':=by
 obtain ⟨h0,K,rfl,h2,h3⟩:=h
 refine (rarm_c h2 n hn).mono ?_
 rintro e w' ⟨rfl,h4,h5⟩
 exact ⟨rfl,(RackTo.asked h4 h5).at_ h0 h3⟩
structure BitsAt (w:World) (a:Option Addr) (n:Nat) (l:List Nat):Prop where
 len:l.length=n
 bit:∀ x∈l,x < 18446744073709551616
 cells:n=0\/∃ b off,a=some ⟨b,off,none⟩/\∀ i,i < n->w.cell? ⟨b,off+i,none⟩=some (.int .u64 (l.getD i 0))
theorem BitsAt.only {F:Nat->Prop} {w w':World} {a:Option Addr} {n:Nat} {l:List Nat} (h:BitsAt w a n l) (e:Only F w w') (hn:∀ p,a=some p->0 < n->¬F p.block):BitsAt w' a n l:=by
 refine ⟨h.len,h.bit,?_⟩
 rcases h.cells with h0 | ⟨b,off,rfl,hc⟩
 ·
  exact .inl h0
 ·
  exact .inr ⟨b,off,rfl,fun i hi=>e.cell (hc i hi) (hn ⟨b,off,none⟩ rfl (by omega))⟩
def Rck.bootTo (R:Rck) (bits:List Nat) (j:Nat):Rck:={ R with l:=(List.range R.l.length).map fun i=>if i < j then (R.l.getD i default).crash (bits.getD i 0) else R.l.getD i default }
theorem Rck.bootTo_zero (R:Rck) (bits:List Nat):R.bootTo bits 0=R:=by
 have e:((List.range R.l.length).map fun i=>if i < 0 then (R.l.getD i default).crash (bits.getD i 0) else R.l.getD i default)=R.l:=by
  apply List.ext_getElem
  ·
   simp
  ·
   intro i h1 h2; simp [List.getD_eq_getElem?_getD,h2]
 unfold Rck.bootTo; rw [e]
theorem Rck.bootTo_step (R:Rck) (bits:List Nat) (j:Nat) (h:j < R.l.length):(R.bootTo bits j).setD (j:Int) (((R.bootTo bits j).dsk (j:Int)).crash (bits.getD j 0))=R.bootTo bits (j+1):=by
 have e0:(R.bootTo bits j).dsk (j:Int)=R.l.getD j default:=by
  unfold Rck.dsk Rck.bootTo
  simp [List.getD_eq_getElem?_getD,h]
 rw [e0]
 unfold Rck.setD Rck.bootTo
 rw [Int.toNat_natCast]
 simp only [Rck.mk.injEq,and_true]
 apply List.ext_getElem
 ·
  simp
 ·
  intro i h1 h2
  simp only [List.length_set,List.length_map,List.length_range] at h1
  rw [List.getElem_set]
  by_cases hij:j=i
  ·
   subst hij; simp
  ·
   rw [if_neg hij]
   by_cases hlt:i < j
   ·
    simp [hlt,show i < j+1 by omega]
   ·
    simp [hlt,show ¬i < j+1 by omega]
theorem Rck.boot_eq (R:Rck) (bits:List Nat):({ R.bootTo bits R.l.length with off:=false,fuse:=-1 }:Rck)=R.boot bits:=by
 unfold Rck.bootTo Rck.boot
 simp only [Rck.mk.injEq,and_true]
 apply List.map_congr_left
 intro i hi
 rw [if_pos (List.mem_range.1 hi)]
set_option maxHeartbeats 1000000 in
theorem rboot_c {w:World} {K:RSk} {R:Rck} (h:RackRep w K R) (a:Option Addr) (n c:Nat) (bits:List Nat) (hb:BitsAt w a n bits) (hfar:∀ p,a=some p->0 < n->¬K.foot p.block) :
  Calls Tryz.prog 22 #[.pointer (some ⟨K.r,0,none⟩),.slice a n c] w (RVoidPost w K (R.boot bits)):=by
 have H:=hid h
 have c0:=h.cell0
 have hlen:=h.len
 have HLEN:=hid hlen
 have hn8:=h.small
 have HB:=hid hb
 have HS:Hid (∃ K1,RackTo w K w (R.bootTo bits 0) K1/\K1.n=K.n/\K1.lb=K.lb/\∀ i,i < K.n->(K1.ks i).p=(K.ks i).p):=hid ⟨K,by rw [Rck.bootTo_zero]; exact RackTo.refl h,rfl,rfl,fun i _=>rfl⟩
 clear h hlen hb
 go_enter Tryz.func22,Tryz.ntmps22
 go_wp2
 clear c0
 go_loopw [12] (fun i wr=>∃ j:Nat,i=.int .i64 j/\j<=K.n/\∃ K1,RackTo w K wr (R.bootTo bits j) K1/\K1.n=K.n/\K1.lb=K.lb/\∀ i,i < K.n->(K1.ks i).p=(K.ks i).p) (fun i _=>K.n - (intOf i).toNat)
 case atStart=>exact ⟨0,rfl,by omega,HS.out⟩
 case round =>
  clear HS
  obtain ⟨j,rfl,hj,K1,ht,hn1,hlb1,hp1⟩:=hrel
  by_cases hlt:j < K.n
  ·
   have i0:(0:Int)<=(j:Int):=by omega
   have i1:(j:Int) < (K.n:Int):=by omega
   have hj1:j < K1.n:=by rw [hn1]; exact hlt
   have cP:=ht.rep.cellP j hj1
   rw [hlb1] at cP
   have HD:=hid (ht.rep.dskAt hj1)
   have hbits:=HB.out.only ht.only hfar
   obtain ⟨p,hpp⟩:∃ p,(K1.ks j).p=p:=⟨_,rfl⟩
   rw [hpp] at cP
   have HPP:=hid hpp
   have HF:Hid (∀ w2 k',DiskTo wr (K1.ks j) w2 (((R.bootTo bits j).dsk (j:Int)).crash (bits.getD j 0)) k'->∃ K1,RackTo w K w2 (R.bootTo bits (j+1)) K1/\K1.n=K.n/\K1.lb=K.lb/\∀ i,i < K.n->(K1.ks i).p=(K.ks i).p):=hid fun w2 k' e3=>by
    refine ⟨RackRep.upd K1 j k',ht.then (by rw [<- Rck.bootTo_step R bits j (by rw [HLEN.out]; exact hlt)]; exact RackTo.disk ht.rep (Only.refl _ _) hj1 e3),hn1,hlb1,fun i hi=>?_⟩
    show (if i=j then k' else K1.ks i).p=_
    by_cases hij:i=j
    ·
     subst hij; rw [if_pos rfl,e3.p]; exact hp1 i hi
    ·
     rw [if_neg hij]; exact hp1 i hi
   clear ht hpp
   by_cases hjb:j < n
   ·
    have hc:∃ b off,a=some ⟨b,off,none⟩/\wr.cell? ⟨b,off+j,none⟩=some (.int .u64 (bits.getD j 0)):=by
     rcases hbits.cells with h0 | ⟨b,off,rfl,hc⟩
     ·
      omega
     ·
      exact ⟨b,off,rfl,hc j hjb⟩
    obtain ⟨b,off,rfl,hc⟩:=hc
    have i2:(j:Int) < (n:Int):=by omega
    have hd:bits.getD j 0 < 18446744073709551616:=by
     have:j < bits.length:=by rw [HB.out.len]; exact hjb
     have e:bits.getD j 0=bits[j]:=by simp [List.getD_eq_getElem?_getD,this]
     rw [e]; exact HB.out.bit _ (List.getElem_mem this)
    clear hbits
    obtain ⟨x,hx⟩:∃ x,bits.getD j 0=x:=⟨_,rfl⟩
    have HX:=hid hx
    rw [hx] at hc hd
    clear hx
    go_wp2_with (go_at_call 114; refine (show Calls _ _ _ _ _ by rw [<- HPP.out]; exact dcrash_c HD.out x hd).mono ?_; rintro e w2 ⟨rfl,k',ht2⟩; have HT2:=hid ht2; clear ht2)
    go_roundw
    case rel=>exact ⟨j+1,by go_num,by omega,HF.out _ _ (by rw [HX.out]; exact HT2.out)⟩
    case measure=>simp [intOf]; omega
   ·
    have hx:bits.getD j 0=0:=by
     have:bits.length<=j:=by rw [HB.out.len]; omega
     simp [List.getD_eq_getElem?_getD,List.getElem?_eq_none this]
    have HX:=hid hx
    clear hx hbits
    go_wp2_with (go_at_call 114; refine (show Calls _ _ _ _ _ by rw [<- HPP.out]; exact dcrash_c HD.out 0 (by omega)).mono ?_; rintro e w2 ⟨rfl,k',ht2⟩; have HT2:=hid ht2; clear ht2)
    go_roundw
    case rel=>exact ⟨j+1,by go_num,by omega,HF.out _ _ (by rw [HX.out]; exact HT2.out)⟩
    case measure=>simp [intOf]; omega
  ·
   obtain rfl:K.n=j:=by omega
   have hr1:=ht.r
   have e1:=ht.rep.set (R':={ R.bootTo bits K.n with off:=false }) rfl ht.rep.fuse (i:=1) (v:=.bool false) rfl
   have e2:=e1.set (R':={ R.bootTo bits K.n with off:=false,fuse:=-1 }) rfl ⟨by simp,by simp⟩ (i:=2) (v:=.int .i64 (-1)) rfl
   have c1:=ht.rep.cell1
   have f1:=ht.rep.free 1
   have c2:=e1.cell2
   have f2:=e1.free 2
   have c2':=ht.rep.cell2
   have f2':=ht.rep.free 2
   rw [hr1] at e1 e2 c1 f1 c2 f2 c2' f2'
   have HF:Hid (RVoidPost w K (R.boot bits) (.returned (.tuple #[])) ((wr.setCell ⟨K.r,1,none⟩ (.bool false)).setCell ⟨K.r,2,none⟩ (.int .i64 (-1)))):=hid ⟨rfl,K1,by
    rw [<- Rck.boot_eq,HLEN.out]
    exact ht.then ⟨e2,rfl,fun b hb=>.inl hb,Only.setCell (Only.setCell (Only.refl K1.foot wr) (.inr (.inl (by rw [hr1]))) _) (.inr (.inl (by rw [hr1]))) _⟩⟩
   clear ht e1 e2 hp1
   go_wp2
   go_end0
   exact HF.out
theorem at_boot {S:Nat->Prop} {w:World} {r:Nat} {R:Rck} (h:RackAt S w r R) (a:Option Addr) (n c:Nat) (bits:List Nat) (hb:BitsAt w a n bits) (hs:∀ p,a=some p->0 < n->S p.block) :
  Calls Tryz.prog 22 #[.pointer (some ⟨r,0,none⟩),.slice a n c] w fun e w'=>e=.returned (.tuple #[])/\RackAt S w' r (R.boot bits)/\Keeps S w w':=by
 obtain ⟨h0,K,rfl,h2,h3⟩:=h
 refine (rboot_c h2 a n c bits hb (fun p hp hn hf=>h3 _ hf (hs p hp hn))).mono ?_
 rintro e w' ⟨rfl,K',ht⟩
 exact ⟨rfl,ht.at_ h0 h3⟩
theorem addr_plain (b off i:Nat):(⟨b,off,none⟩:Addr).add i=⟨b,off+i,none⟩:=by unfold Addr.add; split<;>simp_all
theorem cell_plain {w:World} {p:Addr} {v:Value} (h:w.cell? (p.add 0)=some v):∃ b off,p=⟨b,off,none⟩/\b < w.heap.size:=by
 obtain ⟨b,off,sp⟩:=p
 have hb:=World.block_lt_of_cell? w _ h
 have hb':b < w.heap.size:=by
  unfold Addr.add at hb
  split at hb<;>simp_all
 rcases sp with _ | sp
 ·
  exact ⟨b,off,rfl,hb'⟩
 ·
  exfalso
  unfold World.cell? Addr.add at h
  split at h<;>simp_all
def BitsIn (w:World) (a:Option Addr) (n:Nat) (l:List Nat):Prop:=BitsAt w a n l/\∀ p,a=some p->0 < n->p.block < w.heap.size
open Go.ChangeShapes Go.WideShapes Go.ChangeAt in
theorem open_bits {H:Type} {enc:TypeId × Value->H} {w:World} {base:Nat} {spare:Nat->Bool} {held:Bool} {fuel:Nat} {v:Value} {x:DataW H × List MemPlace} (h:DataW.trod enc Tryz.prog w base spare held fuel 34 [v]=some x):∃ a n c l,v=.slice a n c/\BitsIn w a n l:=by
 rcases Go.Deep.open_slice Tryz.underlying34 h with ⟨q,_⟩ | ⟨p1,p2,p3,_,_,_,_,q,_⟩
 ·
  have:v=.slice none 0 0:=by simpa using q
  exact ⟨none,0,0,[],this,⟨rfl,by simp,.inl rfl⟩,fun p hp=>by cases hp⟩
 ·
  have hv:v=.slice (some p1) p2 p3:=by simpa using q
  subst hv
  rcases open_ints Tryz.underlying34 Tryz.underlying186 (by kernel_rfl) h with ⟨hcs,_⟩ | ⟨x,l,c,zs,hcs,_,hl,hm,hz,_,hcell,hwz⟩
  ·
   simp at hcs
  ·
   simp only [List.cons.injEq,Value.slice.injEq,Option.some.injEq,and_true] at hcs
   obtain ⟨rfl,rfl,rfl⟩:=hcs
   have hlz:p2<=zs.length:=by rw [hz]; split<;>omega
   have hb:∀ i,i < zs.length->0<=zs.getD i 0/\zs.getD i 0<=18446744073709551615:=fun i hi=>by
    have e:zs.getD i 0=zs[i]:=by simp [hi]
    rw [e]; exact bounds_u64 (hwz _ (List.getElem_mem hi))
   refine ⟨_,_,_,(zs.take p2).map Int.toNat,rfl,⟨by simp; omega,fun y hy=>?_,?_⟩,fun p hp h0=>?_⟩
   ·
    obtain ⟨q,hq,rfl⟩:=List.mem_map.1 hy
    have:=bounds_u64 (hwz q (List.mem_of_mem_take hq)); omega
   ·
    by_cases h0:p2=0
    ·
     exact .inl h0
    ·
     obtain ⟨b,off,rfl,_⟩:=cell_plain (hcell 0 (by omega))
     refine .inr ⟨b,off,rfl,fun i hi=>?_⟩
     have:=hcell i (by omega)
     rw [addr_plain] at this
     rw [this]
     have h2:=hb i (by omega)
     have e3:((zs.take p2).map Int.toNat).getD i 0=(zs.getD i 0).toNat:=by
      have:i < zs.length:=by omega
      simp [List.getD_eq_getElem?_getD,List.getElem?_take,hi,this]
     rw [e3]
     congr 2; omega
   ·
    cases hp
    obtain ⟨b,off,rfl,hlt⟩:=cell_plain (hcell 0 (by omega))
    exact hlt
theorem BitsIn.only {F:Nat->Prop} {w w':World} {a:Option Addr} {n:Nat} {l:List Nat} (h:BitsIn w a n l) (e:Only F w w') (hn:∀ b,b < w.heap.size->¬F b):BitsIn w' a n l :=
 ⟨h.1.only e fun p hp h0=>hn _ (h.2 p hp h0),fun p hp h0=>Nat.lt_of_lt_of_le (h.2 p hp h0) e.size⟩
end Go.Proofs.YtgjnnbomnoafcaaGreatDoor
