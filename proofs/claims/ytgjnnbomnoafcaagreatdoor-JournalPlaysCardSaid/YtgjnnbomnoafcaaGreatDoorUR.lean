/- Texts of one proof, joined: JourF, JourG, JourH, JourLive, JourI, JourJ. -/
import Derived.Test.YtgjnnbomnoafcaaGreatDoorUQ
import Derived.Test.YtgjnnbomnoafcaaGreatDoorUI
import Derived.Test.YtgjnnbomnoafcaaGreatDoorUG
set_option linter.unusedVariables false
set_option linter.unusedSimpArgs false
namespace Go.Proofs.YtgjnnbomnoafcaaGreatDoor
set_option linter.unusedVariables false
open Go Go.RowKit
set_option maxRecDepth 100000 in
set_option maxHeartbeats 4000000 in
theorem jgood_c {S:Nat->Prop} {w:World} {r:Nat} {R:Rck} (h:RackAt S w r R) (c:Cfg) (hc:c.Good) (d:Nat) (slot:Int) (h0:0<=slot) (h1:slot < c.slots) (i:Nat) (hi:i < 8) :
  Calls Tryz.prog 190 #[.pointer (some ⟨r,0,none⟩),.agg (Cfg.A c),.int .i64 d,.int .i64 slot,.int .i64 i] w fun e w'=>e=.returned (gotO (R.jgood c d slot i))/\Ext w w':=by
 have hz:=Zav
 have hbz:=Zao
 have HZ:=hid (Frm.A_size _ Za5)
 obtain ⟨W0,hW0⟩:∃ W,w.alloc (.cells (Cfg.A c) 74)=W:=⟨_,rfl⟩
 have x0:Ext w W0:=hW0▸(Ext.refl w).alloc _
 have hc0:W0.heap[w.heap.size]?=some (.cells (Cfg.A c) 74 (0,0)):=hW0▸heap_alloc_new _ _
 have hsz0:W0.heap.size=w.heap.size+1:=by rw [<- hW0]; simp
 obtain ⟨W1,hW1⟩:∃ W,W0.alloc (.cells (Frm.A Frm.zero) 42)=W:=⟨_,rfl⟩
 have x1:Ext W0 W1:=hW1▸(Ext.refl W0).alloc _
 have hr1:W1.heap[w.heap.size+1]?=some (.cells (Frm.A Frm.zero) 42 (0,0)):=by rw [<- hsz0]; exact hW1▸heap_alloc_new _ _
 have HX1:=hid (Ext.trans x0 x1)
 have HC1:=hid (Ext.at x1 hc0)
 have HD1:=hid hr1
 have H1:=hid (h.ext HX1.out)
 have HG:Hid (R.jgood c d slot i=(R.get d (Rck.jsec c slot i) 2 i (-1)).bind fun f=>if c.stripes<=f.stripe\/f.gen=1\/(1 < f.gen/\f.gen % c.slots≠slot) then none else some f):=hid rfl
 have HSEC:=hid (jsector_c c hc slot h0 h1 i hi)
 have HSL:=hid (show 1<=c.slots/\c.slots<=4 from ⟨hc.sl0,hc.sl1⟩)
 clear x0 x1 hc0 hr1 h hc h0 h1 hi
 go_enter Tryz.func190,Tryz.ntmps190
 go_wp2_with (refine Zab rfl 74 _ rfl ⟨w.heap.size,0,none⟩ rfl (Cfg.A c) (Zas c) (Zai HC1.out) ?_)
 refine (HSEC.out _).mono ?_
 rintro e w2 ⟨rfl,x2⟩
 have H2:=hid (H1.out.ext x2)
 have HX2:=hid (Ext.trans HX1.out x2)
 have HC2:=hid (Ext.at x2 HC1.out)
 have HD2:=hid (Ext.at x2 HD1.out)
 clear x2 HSEC
 go_wp2_with fail
 refine (at_get H2.out d (Rck.jsec c slot i) 2 i (-1)).mono ?_
 rintro e w3 ⟨rfl,x3⟩
 have HX3:=hid (Ext.trans HX2.out x3)
 have HC3:=hid (Ext.at x3 HC2.out)
 have HD3:=hid (Ext.at x3 HD2.out)
 have hbs:(w3.alloc (.cells (Frm.A Frm.zero) 42)).heap[w3.heap.size]?=some (.cells (Frm.A Frm.zero) 42 (0,0)):=Zaf
 have hok:∀ f,R.get d (Rck.jsec c slot i) 2 i (-1)=some f->f.Ok:=fun f hf=>H2.out.got_ok hf
 clear x3
 rcases hg:R.get (d:Int) (Rck.jsec c slot i) 2 i (-1) with _ | f
 ·
  have HV:Hid (R.jgood c d slot i=none):=hid (by rw [HG.out,hg]; rfl)
  have HD4:Hid ((w3.alloc (.cells (Frm.A Frm.zero) 42)).heap[w.heap.size+1]?=some (.cells (Frm.A Frm.zero) 42 (0,0))):=hid (Ext.at ((Ext.refl w3).alloc _) HD3.out)
  have HX4:Hid (Ext w (w3.alloc (.cells (Frm.A Frm.zero) 42))):=hid (HX3.out.alloc _)
  simp only [gotO,Option.getD_none,Option.isSome_none]
  clear HG hg hok
  go_wp2_with (first
   | (have hb0:=hbs; clear hbs; refine Zaa rfl 42 _ _ rfl w3.heap.size rfl (Frm.A Frm.zero) _ rfl 42 ?_ hb0 ?_ ?_ ?_; (rw [HZ.out]; exact aggFrame); (rfl); exact Frm.A_one _; rw [Zag])
   | (guard_target=wpList _ _ _ (⟨none,Op.store _ _ _,_,_,_,none⟩::_) _ _; refine Zaa rfl 42 _ _ rfl (w.heap.size+1) rfl (Frm.A Frm.zero) _ rfl 42 ?_ HD4.out ?_ ?_ ?_; (rw [HZ.out]; exact aggFrame); (rfl); exact Frm.A_one _)
   )
  refine bodyPost_ret (Zah Tryz.results190 rfl (by rw [HZ.out]; exact aggFrame) (setRow_heap _ _ _ _ _ _ HD4.out)) rfl ?_
  exact ⟨by rw [HV.out]; rfl,Ext.then HX4.out (Zad _ _ _) (fun i hi=>by omega)⟩
 ·
  have hfo:=hok f hg
  have HFS:=hid (Frm.A_size f hfo)
  have HG2:Hid (R.jgood c d slot i=if c.stripes<=f.stripe\/f.gen=1\/(1 < f.gen/\f.gen % c.slots≠slot) then none else some f):=hid (by rw [HG.out,hg]; rfl)
  have HD4:Hid ((w3.alloc (.cells (Frm.A f) 42)).heap[w.heap.size+1]?=some (.cells (Frm.A Frm.zero) 42 (0,0))):=hid (Ext.at ((Ext.refl w3).alloc _) HD3.out)
  have HX4:Hid (Ext w (w3.alloc (.cells (Frm.A f) 42))):=hid (HX3.out.alloc _)
  simp only [gotO,Option.getD_some,Option.isSome_some]
  have c2:(w3.alloc (.cells (Frm.A f) 42)).cell? ⟨w3.heap.size,2,none⟩=some (.int .i64 f.stripe):=(Zae Zaf).trans (Frm.A2 f)
  have c3:(w3.alloc (.cells (Frm.A f) 42)).cell? ⟨w3.heap.size,3,none⟩=some (.int .i64 f.gen):=(Zae Zaf).trans (Frm.A3 f)
  have d3:(w3.alloc (.cells (Frm.A f) 42)).cell? ⟨w.heap.size,3,none⟩=some (.int .i64 c.stripes):=(Zae (Ext.at ((Ext.refl w3).alloc _) HC3.out)).trans (Cfg.A3 c)
  have d4:(w3.alloc (.cells (Frm.A f) 42)).cell? ⟨w.heap.size,4,none⟩=some (.int .i64 c.slots):=(Zae (Ext.at ((Ext.refl w3).alloc _) HC3.out)).trans (Cfg.A4 c)
  have hs0:¬c.slots=0:=by have:=HSL.out; omega
  clear HG hg hok hfo
  by_cases a:c.stripes<=f.stripe
  ·
   have HV:Hid (R.jgood c d slot i=none):=hid (by rw [HG2.out,if_pos (.inl a)])
   clear HG2
   go_wp2_with (first
    | (have hb0:=hbs; clear hbs; refine Zaa rfl 42 _ _ rfl w3.heap.size rfl (Frm.A f) _ rfl 42 ?_ hb0 ?_ ?_ ?_; (rw [HFS.out]; exact aggFrame); (rw [HFS.out,HZ.out]); exact Frm.A_one _; rw [Zag])
    | (guard_target=wpList _ _ _ (⟨none,Op.store _ _ _,_,_,_,none⟩::_) _ _; refine Zaa rfl 42 _ _ rfl (w.heap.size+1) rfl (Frm.A Frm.zero) _ rfl 42 ?_ HD4.out ?_ ?_ ?_; (rw [HZ.out]; exact aggFrame); (rfl); exact Frm.A_one _)
    )
   refine bodyPost_ret (Zah Tryz.results190 rfl (by rw [HZ.out]; exact aggFrame) (setRow_heap _ _ _ _ _ _ HD4.out)) rfl ?_
   exact ⟨by rw [HV.out]; rfl,Ext.then HX4.out (Zad _ _ _) (fun i hi=>by omega)⟩
  by_cases b:f.gen=1
  ·
   have HV:Hid (R.jgood c d slot i=none):=hid (by rw [HG2.out,if_pos (.inr (.inl b))])
   rw [b] at c3
   clear HG2 b
   go_wp2_with (first
    | (have hb0:=hbs; clear hbs; refine Zaa rfl 42 _ _ rfl w3.heap.size rfl (Frm.A f) _ rfl 42 ?_ hb0 ?_ ?_ ?_; (rw [HFS.out]; exact aggFrame); (rw [HFS.out,HZ.out]); exact Frm.A_one _; rw [Zag])
    | (guard_target=wpList _ _ _ (⟨none,Op.store _ _ _,_,_,_,none⟩::_) _ _; refine Zaa rfl 42 _ _ rfl (w.heap.size+1) rfl (Frm.A Frm.zero) _ rfl 42 ?_ HD4.out ?_ ?_ ?_; (rw [HZ.out]; exact aggFrame); (rfl); exact Frm.A_one _)
    )
   refine bodyPost_ret (Zah Tryz.results190 rfl (by rw [HZ.out]; exact aggFrame) (setRow_heap _ _ _ _ _ _ HD4.out)) rfl ?_
   exact ⟨by rw [HV.out]; rfl,Ext.then HX4.out (Zad _ _ _) (fun i hi=>by omega)⟩
  have ab:(f.gen == 1)=false:=by simpa using b
  by_cases g:1 < f.gen
  ·
   have hm:Int.tmod f.gen c.slots=f.gen % c.slots:=Int.tmod_eq_emod_of_nonneg (by omega)
   by_cases q:f.gen % c.slots=slot
   ·
    have HV:Hid (R.jgood c d slot i=some f):=hid (by rw [HG2.out,if_neg (fun z=>by rcases z with z | z | z; exact a z; exact b z; exact z.2 q)])
    have aq:((f.gen % c.slots:Int) != slot)=false:=by rw [q]; simp
    clear HG2 b
    go_wp2_with (first
     | (have hb0:=hbs; clear hbs; refine Zaa rfl 42 _ _ rfl w3.heap.size rfl (Frm.A f) _ rfl 42 ?_ hb0 ?_ ?_ ?_; (rw [HFS.out]; exact aggFrame); (rw [HFS.out,HZ.out]); exact Frm.A_one _; rw [Zag])
     | (guard_target=wpList _ _ _ (⟨none,Op.store _ _ _,_,_,_,none⟩::_) _ _; refine Zaa rfl 42 _ _ rfl (w.heap.size+1) rfl (Frm.A f) _ rfl 42 ?_ HD4.out ?_ ?_ ?_; (rw [HFS.out]; exact aggFrame); (rw [HFS.out,HZ.out]); exact Frm.A_one _)
     | (guard_target=wpList _ _ _ (⟨some _,Op.load _ _,_,_,_,none⟩::_) _ _; refine Zab rfl 42 _ rfl ⟨w3.heap.size,0,none⟩ rfl (Frm.A f) (by rw [HFS.out]; exact aggFrame) (Zai Zaf) ?_))
    refine bodyPost_ret (Zah Tryz.results190 rfl (by rw [HFS.out]; exact aggFrame) (setRow_heap _ _ _ _ _ _ HD4.out)) rfl ?_
    exact ⟨by rw [HV.out]; rfl,Ext.then HX4.out (Zad _ _ _) (fun i hi=>by omega)⟩
   ·
    have HV:Hid (R.jgood c d slot i=none):=hid (by rw [HG2.out,if_pos (.inr (.inr ⟨g,q⟩))])
    have aq:((f.gen % c.slots:Int) != slot)=true:=by simpa using q
    clear HG2 b q
    go_wp2_with (first
     | (have hb0:=hbs; clear hbs; refine Zaa rfl 42 _ _ rfl w3.heap.size rfl (Frm.A f) _ rfl 42 ?_ hb0 ?_ ?_ ?_; (rw [HFS.out]; exact aggFrame); (rw [HFS.out,HZ.out]); exact Frm.A_one _; rw [Zag])
     | (guard_target=wpList _ _ _ (⟨none,Op.store _ _ _,_,_,_,none⟩::_) _ _; refine Zaa rfl 42 _ _ rfl (w.heap.size+1) rfl (Frm.A Frm.zero) _ rfl 42 ?_ HD4.out ?_ ?_ ?_; (rw [HZ.out]; exact aggFrame); (rfl); exact Frm.A_one _)
     )
    refine bodyPost_ret (Zah Tryz.results190 rfl (by rw [HZ.out]; exact aggFrame) (setRow_heap _ _ _ _ _ _ HD4.out)) rfl ?_
    exact ⟨by rw [HV.out]; rfl,Ext.then HX4.out (Zad _ _ _) (fun i hi=>by omega)⟩
  ·
   have HV:Hid (R.jgood c d slot i=some f):=hid (by rw [HG2.out,if_neg (fun z=>by rcases z with z | z | z; exact a z; exact b z; exact g z.1)])
   clear HG2 b
   go_wp2_with (first
    | (have hb0:=hbs; clear hbs; refine Zaa rfl 42 _ _ rfl w3.heap.size rfl (Frm.A f) _ rfl 42 ?_ hb0 ?_ ?_ ?_; (rw [HFS.out]; exact aggFrame); (rw [HFS.out,HZ.out]); exact Frm.A_one _; rw [Zag])
    | (guard_target=wpList _ _ _ (⟨none,Op.store _ _ _,_,_,_,none⟩::_) _ _; refine Zaa rfl 42 _ _ rfl (w.heap.size+1) rfl (Frm.A f) _ rfl 42 ?_ HD4.out ?_ ?_ ?_; (rw [HFS.out]; exact aggFrame); (rw [HFS.out,HZ.out]); exact Frm.A_one _)
    | (guard_target=wpList _ _ _ (⟨some _,Op.load _ _,_,_,_,none⟩::_) _ _; refine Zab rfl 42 _ rfl ⟨w3.heap.size,0,none⟩ rfl (Frm.A f) (by rw [HFS.out]; exact aggFrame) (Zai Zaf) ?_))
   refine bodyPost_ret (Zah Tryz.results190 rfl (by rw [HFS.out]; exact aggFrame) (setRow_heap _ _ _ _ _ _ HD4.out)) rfl ?_
   exact ⟨by rw [HV.out]; rfl,Ext.then HX4.out (Zad _ _ _) (fun i hi=>by omega)⟩
theorem infoFr:(Tryz.prog.info? 42).map (fun i=>(i.zero,i.size,i.bytes))=some (some (.agg (Frm.A Frm.zero)),112,144):=by kernel_rfl
def Rck.jgoodsTo (R:Rck) (c:Cfg) (slot:Int) (i j:Nat):List Frm:=(List.range j).filterMap fun d=>R.jgood c d slot i
theorem Rck.jgoodsTo_succ (R:Rck) (c:Cfg) (slot:Int) (i j:Nat):R.jgoodsTo c slot i (j+1)=R.jgoodsTo c slot i j++(R.jgood c j slot i).toList:=by
 unfold jgoodsTo
 rw [List.range_succ,List.filterMap_append]
 rcases h:R.jgood c j slot i with _ | f<;>simp [h]
theorem Rck.jgoodsTo_len (R:Rck) (c:Cfg) (slot:Int) (i j:Nat):(R.jgoodsTo c slot i j).length<=j:=by
 unfold jgoodsTo
 have:=List.length_filterMap_le (fun d=>R.jgood c d slot i) (List.range j)
 simpa using this
theorem RackAt.jgood_ok {S:Nat->Prop} {w:World} {r:Nat} {R:Rck} (h:RackAt S w r R) {c:Cfg} {d:Nat} {slot:Int} {i:Nat} {f:Frm} (hf:R.jgood c d slot i=some f):f.Ok:=by
 unfold Rck.jgood at hf
 rcases hg:R.get d (Rck.jsec c slot i) 2 i (-1) with _ | g
 ·
  rw [hg] at hf; cases hf
 ·
  rw [hg] at hf
  simp only [Option.bind_some] at hf
  split at hf
  ·
   cases hf
  ·
   cases hf; exact h.got_ok hg
theorem RackAt.jgoods_ok {S:Nat->Prop} {w:World} {r:Nat} {R:Rck} (h:RackAt S w r R) {c:Cfg} {slot:Int} {i:Nat}:∀ f∈R.jgoods c slot i,f.Ok:=fun f hf=>by
 unfold Rck.jgoods at hf
 obtain ⟨d,_,hd⟩:=List.mem_filterMap.1 hf
 exact h.jgood_ok hd
def JGoodsPost (w:World) (l:List Frm) (e:Ending) (w':World):Prop:=∃ v,e=.returned v/\OwnVs w' w.heap.size 42 112 v (l.map Frm.A)/\Ext w w'
set_option maxRecDepth 100000 in
set_option maxHeartbeats 1000000 in
theorem jgoods_c {S:Nat->Prop} {w:World} {r:Nat} {R:Rck} (h:RackAt S w r R) (c:Cfg) (hc:c.Good) (slot:Int) (h0:0<=slot) (h1:slot < c.slots) (i:Nat) (hi:i < 8) :
  Calls Tryz.prog 142 #[.pointer (some ⟨r,0,none⟩),.agg (Cfg.A c),.int .i64 slot,.int .i64 i] w (JGoodsPost w (R.jgoods c slot i)):=by
 have hz:=Zav
 have HZ:=hid (Frm.A_size _ Za5)
 obtain ⟨W0,hW0⟩:∃ W,w.alloc (.cells (Cfg.A c) 74)=W:=⟨_,rfl⟩
 have HX0:=hid (show Ext w W0 from hW0▸(Ext.refl w).alloc _)
 have HC0:=hid (show W0.heap[w.heap.size]?=some (.cells (Cfg.A c) 74 (0,0)) from hW0▸heap_alloc_new _ _)
 have hsz0:W0.heap.size=w.heap.size+1:=by rw [<- hW0]; simp
 have H0:=hid (h.ext HX0.out)
 obtain ⟨n,hn⟩:∃ n:Nat,c.n=n:=⟨c.n.toNat,by have:=hc.k0; have:=hc.k1; omega⟩
 have hn8:n<=8:=by have:=hc.n1; omega
 have HG:=hid (fun (d:Nat) (wr:World) (hx:Ext W0 wr)=>jgood_c (H0.out.ext hx) c hc d slot h0 h1 i hi)
 have HALL:Hid (R.jgoodsTo c slot i n=R.jgoods c slot i):=hid (by unfold Rck.jgoodsTo Rck.jgoods; rw [hn]; rfl)
 have HOK:=hid (fun (d:Nat) (f:Frm) (hf:R.jgood c d slot i=some f)=>H0.out.jgood_ok hf)
 have c2:W0.cell? ⟨w.heap.size,2,none⟩=some (.int .i64 n):=(Zae HC0.out).trans (by rw [<- hn]; exact Cfg.A2 c)
 clear h hc h0 h1 hi hn
 go_enter Tryz.func142,Tryz.ntmps142
 go_wp2
 clear c2
 go_loopw [15,9] (fun t v wr=>∃ j:Nat,t=.int .i64 j/\j<=n/\OwnVs wr (w.heap.size+1) 42 112 v ((R.jgoodsTo c slot i j).map Frm.A)/\Ext W0 wr) (fun t _ _=>n - (intOf t).toNat)
 case atStart=>exact ⟨0,rfl,by omega,OwnVs.nil _ _ _ _,Ext.refl _⟩
 case round =>
  obtain ⟨j,rfl,hj,hown,hx⟩:=hrel
  by_cases hlt:j < n
  ·
   have HGJ:=hid (HG.out j wr hx)
   have HCR:=hid (hx.at HC0.out)
   have HS:=hid (R.jgoodsTo_succ c slot i j)
   have hlen:=R.jgoodsTo_len c slot i j
   have HL:=hid (show ((R.jgoodsTo c slot i j).map Frm.A).length < 1000 by rw [List.length_map]; omega)
   have HO:=hid hown; have HX:=hid hx
   have HLT:=hid (show w.heap.size+1<=wr.heap.size from by rw [<- hsz0]; exact hx.size)
   clear hown hx hlen
   go_wp2_with (guard_target=wpList _ _ _ (⟨some _,Op.load _ _,_,_,_,none⟩::_) _ _; refine Zab rfl 74 _ rfl ⟨w.heap.size,0,none⟩ rfl (Cfg.A c) (Zas c) (Zai HCR.out) ?_)
   refine HGJ.out.mono ?_
   rintro e w1 ⟨rfl,x1⟩
   have HX1:=hid (Ext.trans HX.out x1)
   have HO1:=hid (HO.out.ext x1)
   have HLT1:=hid (Nat.le_trans HLT.out x1.size)
   clear x1 HGJ HO HX HLT HCR
   have hbs:(w1.alloc (.cells (Frm.A Frm.zero) 42)).heap[w1.heap.size]?=some (.cells (Frm.A Frm.zero) 42 (0,0)):=Zaf
   rcases hg:R.jgood c j slot i with _ | f
   ·
    rw [hg] at HS
    simp only [gotO,Option.getD_none,Option.isSome_none]
    have HS2:Hid (R.jgoodsTo c slot i (j+1)=R.jgoodsTo c slot i j):=hid (by rw [HS.out]; simp)
    clear hg HS
    go_wp2_with (guard_target=wpList _ _ _ (⟨none,Op.store _ _ _,_,_,_,none⟩::_) _ _; refine Zaa rfl 42 _ _ rfl w1.heap.size rfl (Frm.A Frm.zero) _ rfl 42 ?_ hbs ?_ ?_ ?_; (rw [HZ.out]; exact aggFrame); (rfl); exact Frm.A_one _; rw [Zag])
    go_roundw
    case rel=>exact ⟨j+1,by go_num,by omega,by rw [HS2.out]; exact HO1.out.ext ((Ext.refl w1).alloc _),HX1.out.alloc _⟩
    case measure=>simp [intOf]; omega
   ·
    have hfo:=HOK.out j f hg
    have HFS:=hid (Frm.A_size f hfo)
    rw [hg] at HS
    simp only [gotO,Option.getD_some,Option.isSome_some]
    obtain ⟨W2,hW2⟩:∃ W,w1.alloc (.cells (Frm.A f) 42)=W:=⟨_,rfl⟩
    have x2:Ext w1 W2:=hW2▸(Ext.refl w1).alloc _
    have hb2:W2.heap[w1.heap.size]?=some (.cells (Frm.A f) 42 (0,0)):=hW2▸heap_alloc_new _ _
    obtain ⟨v',W3,hap,hown3,_,hx3⟩:=(HO1.out.ext x2).add (tsl:=213) Tryz.underlying213 infoFr HZ.out (by omega) (Frm.A f) HFS.out (Frm.A_one f) HL.out (by omega) (Nat.le_trans HLT1.out x2.size)
    have HO3:Hid (OwnVs W3 (w.heap.size+1) 42 112 v' ((R.jgoodsTo c slot i (j+1)).map Frm.A)):=hid (by rw [HS.out]; simpa using hown3)
    have HX3:Hid (Ext W0 W3):=hid (hx3 W0 (by rw [hsz0]; exact Nat.le_refl _) (Ext.trans HX1.out x2))
    have HW2:=hid hW2
    have HB2:=hid hb2
    clear hg HS hown3 hx3 x2 hb2 hfo hW2
    go_wp2_with (first
     | (guard_target=wpList _ _ _ (⟨none,Op.store _ _ _,_,_,_,none⟩::_) _ _; refine Zaa rfl 42 _ _ rfl w1.heap.size rfl (Frm.A f) _ rfl 42 ?_ hbs ?_ ?_ ?_; (rw [HFS.out]; exact aggFrame); (rw [HFS.out,HZ.out]); exact Frm.A_one _; rw [Zag,HW2.out])
     | (guard_target=wpList _ _ _ (⟨some _,Op.load _ _,_,_,_,none⟩::_) _ _; refine Zab rfl 42 _ rfl ⟨w1.heap.size,0,none⟩ rfl (Frm.A f) (by rw [HFS.out]; exact aggFrame) (Zai HB2.out) ?_)
     | (guard_target=wpList _ _ _ (⟨some _,Op.buildSlice _ _ _,_,_,_,none⟩::_) _ _; refine Zaz rfl 213 42 _ rfl (Frm.A f) _ _ 112 144 Tryz.underlying213 infoFr (by omega) (by omega) rfl rfl HFS.out ?_)
     | (at_builtin; refine Zam rfl _ _ _ rfl _ _ _ _ rfl rfl hap ?_))
    go_roundw
    case rel=>exact ⟨j+1,by go_num,by omega,HO3.out,HX3.out⟩
    case measure=>simp [intOf]; omega
  ·
   obtain rfl:n=j:=by omega
   rw [HALL.out] at hown
   have HO:=hid hown; have HX:=hid (Ext.trans HX0.out hx)
   clear hown hx
   go_wp2
   go_ret
   exact ⟨_,rfl,HO.out.down (by omega),HX.out⟩
theorem aggData:AggType Tryz.prog 40 108:=⟨by kernel_rfl,by kernel_rfl⟩
def LsAt (w:World) (a:Option Addr) (ls:List (List Frm)):Prop:=∀ i fs,ls[i]?=some fs->∃ g b c,a=some ⟨g,0,none⟩/\w.cell? ⟨g,i,none⟩=some (.slice (some ⟨b,0,none⟩) fs.length c)/\fs.length<=c/\VsAt w b 112 (fs.map Frm.A)
theorem LsAt.ext {w w':World} {a:Option Addr} {ls:List (List Frm)} (h:LsAt w a ls) (e:Ext w w'):LsAt w' a ls:=fun i fs hi=>by
 obtain ⟨g,b,c,h1,h2,h3,h4⟩:=h i fs hi
 exact ⟨g,b,c,h1,e.cell h2,h3,h4.ext e⟩
structure WSt (w0 wr:World) (g:Nat) (seq:Int) (x:Rcd):Prop where
 ext:Ext w0 wr
 seq:x.seq=seq
 ok:∀ b∈x.blocks,b.length=108
 ex:∃ a c,wr.heap[g]?=some (.cells (x.V a c) 101 (0,0))/\OwnVs wr (g+1) 120 108 (.slice a x.blocks.length c) (x.blocks.map bA)
theorem WSt.more {w0 wr wr':World} {g:Nat} {seq:Int} {x:Rcd} (h:WSt w0 wr g seq x) (e:Ext wr wr'):WSt w0 wr' g seq x:=by
 obtain ⟨h1,h2,h3,a,c,h4,h5⟩:=h
 exact ⟨Ext.trans h1 e,h2,h3,a,c,e.at h4,h5.ext e⟩
theorem WSt.lt {w0 wr:World} {g:Nat} {seq:Int} {x:Rcd} (h:WSt w0 wr g seq x):g < wr.heap.size:=by
 obtain ⟨_,_,_,a,c,h4,_⟩:=h
 exact lt_of_block h4
theorem WSt.take {w0 W:World} {g:Nat} {seq:Int} {x:Rcd} (h:WSt w0 W g seq x) (hg:w0.heap.size<=g) (f:Frm) (hf:f.Ok) (hl:x.blocks.length < 1000) :
  ∃ va vc W3 a' c' W4,W.cell? ⟨g,1,none⟩=some (.int .i64 x.stripe)/\W.frozen? ⟨g,1,none⟩=false/\W.setCell ⟨g,1,none⟩ (.int .i64 f.stripe)=W3/\Only (fun k=>k=g) W W3 ∧
   W3.cell? ⟨g,2,none⟩=some (.slice va x.blocks.length vc) ∧
   (Builtin.append_ #[98,98] 98 #[.slice va x.blocks.length vc,.slice (some ⟨W3.heap.size,0,none⟩) 1 1]).run Tryz.prog (W3.alloc (.cells (bA f.data) 120))=.ok (.slice a' (x.blocks.length+1) c') W4 ∧
   W4.cell? ⟨g,2,none⟩=some (.slice va x.blocks.length vc)/\W4.frozen? ⟨g,2,none⟩=false ∧
   WSt w0 (W4.setCell ⟨g,2,none⟩ (.slice a' (x.blocks.length+1) c')) g seq ⟨seq,f.stripe,x.blocks++[f.data]⟩:=by
 obtain ⟨h1,h2,h3,va,vc,h4,h5⟩:=h
 obtain ⟨W3,hW3⟩:∃ W3,W.setCell ⟨g,1,none⟩ (.int .i64 f.stripe)=W3:=⟨_,rfl⟩
 have o3:Only (fun k=>k=g) W W3:=hW3▸Only.setCell (F:=fun k=>k=g) (Only.refl _ W) (.inr rfl) _
 have hb3:=Zar h4 (i:=1) (.int .i64 f.stripe)
 rw [hW3] at hb3
 have hsz3:g+1<=W3.heap.size:=lt_of_block hb3
 have hv3:OwnVs W3 (g+1) 120 108 (.slice va x.blocks.length vc) (x.blocks.map bA):=h5.only o3 fun b hb e=>by have:=(h5.lt b hb).1; omega
 have x3:Ext w0 W3:=hW3▸Only.setCell (F:=fun _=>False) h1 (.inl hg) _
 obtain ⟨v',W4,hap,hown,ho,hx⟩:=hv3.add (tsl:=98) Tryz.underlying98 infoBlk (by show (bA z108).size=108; rw [Za6]; simp [z108]) (by omega) (bA f.data) (by rw [Za6]; exact hf.len) (bA_one _) (by rw [List.length_map]; exact hl) (by omega) hsz3
 obtain ⟨a',c',hv',_⟩:=hown.slice
 have hn:(x.blocks.map bA++[bA f.data]).length=x.blocks.length+1:=by simp
 rw [hn] at hv'
 subst hv'
 have hb4:=ho.at hb3 (fun e=>by have:=(hv3.lt g e).1; omega)
 refine ⟨va,vc,W3,a',c',W4,(Zae h4).trans rfl,Zax h4,hW3,o3,(Zae hb3).trans rfl,hap,(Zae hb4).trans rfl,Zax hb4,?_,rfl,?_,a',c',?_,?_⟩
 ·
  exact Only.setCell (F:=fun _=>False) (hx w0 (by omega) x3) (.inl hg) _
 ·
  intro b hb
  rcases List.mem_append.1 hb with hb | hb
  ·
   exact h3 b hb
  ·
   rw [List.mem_singleton.1 hb]; exact hf.len
 ·
  have:=Zar hb4 (i:=2) (.slice a' (x.blocks.length+1) c')
  rw [this,<- h2]
  simp [Rcd.V]
 ·
  have o5:Only (fun k=>k=g) W4 (W4.setCell ⟨g,2,none⟩ (.slice a' (x.blocks.length+1) c')):=Only.setCell (F:=fun k=>k=g) (Only.refl _ W4) (.inr rfl) _
  have:=hown.only o5 fun b hb e=>by have:=(hown.lt b hb).1; omega
  simpa using this
def JWholePost (w:World) (o:Option Rcd) (e:Ending) (w':World):Prop :=
 ∃ a c,e=.returned (.tuple #[.agg ((o.getD Rcd.none_).V a c),.bool o.isSome])/\Ext w w'/\BlksAt w' a (o.getD Rcd.none_).blocks/\∀ p,a=some p->w.heap.size<=p.block
theorem wholeFrom_nil (seq:Int) (i:Nat) (x:Rcd):wholeFrom seq i x []=some x:=by unfold wholeFrom; rfl
theorem wholeFrom_none {seq:Int} {i:Nat} {x:Rcd} {fs:List Frm} {l:List (List Frm)} (h:pickF seq i x.stripe fs=none):wholeFrom seq i x (fs::l)=none:=by unfold wholeFrom; rw [h]
theorem wholeFrom_some {seq:Int} {i:Nat} {x:Rcd} {fs:List Frm} {l:List (List Frm)} {f:Frm} (h:pickF seq i x.stripe fs=some f):wholeFrom seq i x (fs::l)=wholeFrom seq (i+1) ⟨seq,f.stripe,x.blocks++[f.data]⟩ l:=by
 conv=>lhs; unfold wholeFrom
 rw [h]
theorem pickF_drop {seq:Int} {i:Nat} {st:Int} {fs:List Frm} {j:Nat} {f:Frm} (h:fs[j]?=some f):pickF seq i st (fs.drop j)=if f.gen=seq/\(i=0\/f.stripe=st) then some f else pickF seq i st (fs.drop (j+1)):=by
 have hlt:=(List.getElem?_eq_some_iff.1 h).1
 have e:fs.drop j=f::fs.drop (j+1):=by
  rw [List.drop_eq_getElem_cons hlt]
  congr 1
  exact (List.getElem?_eq_some_iff.1 h).2
 rw [e]
 unfold pickF
 rw [List.find?_cons]
 by_cases q:f.gen=seq/\(i=0\/f.stripe=st)
 ·
  rw [if_pos q]
  have:(decide (f.gen=seq) && (decide (i=0) || decide (f.stripe=st)))=true:=by simpa using q
  rw [this]
 ·
  rw [if_neg q]
  have:(decide (f.gen=seq) && (decide (i=0) || decide (f.stripe=st)))=false:=by
   rw [<- Bool.not_eq_true]; simpa using q
  rw [this]
theorem Za0 (x:Rcd) (a:Option Addr) (c:Nat):AggType Tryz.prog 101 (x.V a c).size:=⟨by kernel_rfl,by kernel_rfl⟩
theorem V_one (x:Rcd) (a:Option Addr) (c:Nat):∀ v∈(x.V a c).toList,v.oneCell'=true:=by
 intro v hv
 unfold Rcd.V at hv
 simp only [List.mem_cons,List.not_mem_nil,or_false] at hv
 rcases hv with rfl | rfl | rfl<;>rfl
theorem zero_rec (w:World):Sem.run Tryz.prog (zeroValue 101) w=.ok (.agg (Rcd.none_.V none 0)) w:=by kernel_rfl
theorem built_rec0:Tryz.prog.built 101 []=some (Rcd.none_.V none 0):=by kernel_rfl
theorem built_rec1 (seq:Int):Tryz.prog.built 101 [(0,.int .i64 seq)]=some ((⟨seq,0,[]⟩:Rcd).V none 0):=by kernel_rfl
attribute [local irreducible] wpSQ
set_option maxRecDepth 100000 in
set_option maxHeartbeats 2000000 in
theorem jwhole_c (ls:List (List Frm)) (seq:Int) (a:Option Addr) (cp:Nat) (w:World) (hl:LsAt w a ls) (hlen:ls.length<=8) (hcp:ls.length<=cp) (hok:∀ fs∈ls,fs.length<=8/\∀ f∈fs,f.Ok) :
  Calls Tryz.prog 143 #[.slice a ls.length cp,.int .i64 seq] w (JWholePost w (whole seq ls)):=by
 have hz:=zero_rec
 have hzf:=Zav
 have HZF:=hid (Frm.A_size _ Za5)
 have hb0:=built_rec0
 have hb1:=built_rec1 seq
 obtain ⟨W0,hW0⟩:∃ W,w.alloc (.cells (Rcd.none_.V none 0) 101)=W:=⟨_,rfl⟩
 have x0:Ext w W0:=hW0▸(Ext.refl w).alloc _
 have hr0:W0.heap[w.heap.size]?=some (.cells (Rcd.none_.V none 0) 101 (0,0)):=hW0▸heap_alloc_new _ _
 have hsz0:W0.heap.size=w.heap.size+1:=by rw [<- hW0]; simp
 obtain ⟨W1,hW1⟩:∃ W,W0.alloc (.cells ((⟨seq,0,[]⟩:Rcd).V none 0) 101)=W:=⟨_,rfl⟩
 have x1:Ext W0 W1:=hW1▸(Ext.refl W0).alloc _
 have HST:Hid (WSt W0 W1 (w.heap.size+1) seq ⟨seq,0,[]⟩):=hid ⟨x1,rfl,by simp,none,0,by rw [<- hsz0]; exact hW1▸heap_alloc_new _ _,OwnVs.nil _ _ _ _⟩
 have hbs:(W0.alloc (.cells (Rcd.none_.V none 0) 101)).heap[W0.heap.size]?=some (.cells (Rcd.none_.V none 0) 101 (0,0)):=Zaf
 have HX0:=hid x0
 have HR0:=hid hr0
 have HL:=hid (hl.ext x0)
 have HOK:=hid hok
 have HW:Hid (whole seq ls=wholeFrom seq 0 ⟨seq,0,[]⟩ (ls.drop 0)):=hid (by rw [List.drop_zero]; rfl)
 have HW1:=hid hW1
 have hlen8:(ls.length:Int)<=8:=by omega
 clear x0 x1 hr0 hl hok hW1
 go_enter Tryz.func143,Tryz.ntmps143
 go_wp2_with (first
  | (guard_target=wpList _ _ _ (⟨none,Op.store _ _ _,_,_,_,none⟩::_) _ _; rw [hsz0] at hbs; refine Zaa rfl 101 _ _ rfl (w.heap.size+1) rfl ((⟨seq,0,[]⟩:Rcd).V none 0) _ rfl 101 (Za0 _ _ _) hbs rfl (V_one _ _ _) ?_; rw [<- hsz0,Zag,HW1.out])
  | (guard_target=wpList _ _ _ (⟨some _,Op.build _ _,_,_,_,none⟩::_) _ _; refine Zal rfl 101 _ rfl ((⟨seq,0,[]⟩:Rcd).V none 0) ?_ ?_; (simp only [List.map_toArray,List.map_cons,List.map_nil,Act.eval]; simp only [Array.getD_eq_getD_getElem?,List.getElem?_toArray,List.getElem?_cons_succ,List.getElem?_cons_zero,Option.getD_some]; exact hb1)))
 clear hb1 hbs
 go_loopw [16] (fun t wr=>∃ (i:Nat) (x:Rcd),t=.int .i64 i/\i<=ls.length/\WSt W0 wr (w.heap.size+1) seq x/\whole seq ls=wholeFrom seq i x (ls.drop i)/\x.blocks.length=i) (fun t _=>ls.length - (intOf t).toNat)
 case atStart=>exact ⟨0,_,rfl,by omega,HST.out,HW.out,rfl⟩
 case round =>
  clear HST HW
  obtain ⟨i,x,rfl,hi,hst,hw,hbl⟩:=hrel
  have HBL:=hid hbl
  have hbl8:x.blocks.length<=8:=by omega
  clear hbl
  by_cases hlt:i < ls.length
  ·
   have i0:(0:Int)<=(i:Int):=by omega
   have i1:(i:Int) < (ls.length:Int):=by omega
   obtain ⟨fs,hfs⟩:∃ fs,ls[i]?=some fs:=⟨ls[i],List.getElem?_eq_getElem hlt⟩
   obtain ⟨g,b,cc,rfl,hcell,hcc,hat⟩:=HL.out i fs hfs
   obtain ⟨hf8,hfok⟩:=HOK.out fs (List.mem_of_getElem? hfs)
   have hdrop:ls.drop i=fs::ls.drop (i+1):=by
    rw [List.drop_eq_getElem_cons hlt]
    congr 1
    exact (List.getElem?_eq_some_iff.1 hfs).2
   have HW2:Hid (whole seq ls=wholeFrom seq i x (fs::ls.drop (i+1))):=hid (by rw [hw,hdrop])
   have c1:wr.cell? ⟨g,i,none⟩=some (.slice (some ⟨b,0,none⟩) fs.length cc):=Ext.cell hst.ext hcell
   have HAT:=hid hat
   have HFOK:=hid hfok
   have HST:=hid hst
   have hfl8:(fs.length:Int)<=8:=by omega
   have HG:=hid (show W0.heap.size<=w.heap.size+1 from by omega)
   clear hw hst hcell hat hfok hdrop hfs
   go_wp2
   clear c1
   go_loopw [23,9] (fun t v wq=>∃ (j:Nat),t=.int .i64 j/\j<=fs.length/\((v=.bool false/\WSt W0 wq (w.heap.size+1) seq x/\pickF seq i x.stripe fs=pickF seq i x.stripe (fs.drop j))\/(v=.bool true/\∃ f,pickF seq i x.stripe fs=some f/\WSt W0 wq (w.heap.size+1) seq ⟨seq,f.stripe,x.blocks++[f.data]⟩))) (fun t _ _=>fs.length - (intOf t).toNat)
   case atStart=>exact ⟨0,rfl,by omega,.inl ⟨rfl,HST.out,by rw [List.drop_zero]⟩⟩
   case round =>
    clear HST
    obtain ⟨j,rfl,hj,hor⟩:=hrel
    by_cases hjt:j < fs.length
    ·
     have j0:(0:Int)<=(j:Int):=by omega
     have j1:(j:Int) < (fs.length:Int):=by omega
     obtain ⟨f,hfj⟩:∃ f,fs[j]?=some f:=⟨fs[j],List.getElem?_eq_getElem hjt⟩
     have hfo:=HFOK.out f (List.mem_of_getElem? hfj)
     have HFS:=hid (Frm.A_size f hfo)
     have HFO:=hid hfo
     have HPD:=hid (fun st=>pickF_drop (seq:=seq) (i:=i) (st:=st) hfj)
     have hxq:Ext W0 wr:=by
      rcases hor with ⟨_,h,_⟩ | ⟨_,_,_,h⟩
      ·
       exact h.ext
      ·
       exact h.ext
     have HFA:Hid (∀ q v,(Frm.A f).toList[q]?=some v->wr.cell? ((⟨b,j*112,none⟩:Addr).add q)=some v):=hid (fun q v hv=>by
      have:=HAT.out j (Frm.A f) (by rw [List.getElem?_map,hfj]; rfl) q v hv
      have e:(⟨b,j*112,none⟩:Addr).add q=⟨b,j*112+q,none⟩:=by unfold Addr.add; split<;>simp_all
      rw [e]; exact Ext.cell hxq this)
     have hbf:(wr.alloc (.cells (Frm.A Frm.zero) 42)).heap[wr.heap.size]?=some (.cells (Frm.A Frm.zero) 42 (0,0)):=Zaf
     obtain ⟨W2,hW2⟩:∃ W,wr.alloc (.cells (Frm.A f) 42)=W:=⟨_,rfl⟩
     have x2:Ext wr W2:=hW2▸(Ext.refl wr).alloc _
     have hb2:W2.heap[wr.heap.size]?=some (.cells (Frm.A f) 42 (0,0)):=hW2▸heap_alloc_new _ _
     have HX2:=hid x2
     have HB2:=hid hb2
     have HW2':=hid hW2
     clear hfo hfj hxq x2 hb2 hW2
     rcases hor with ⟨rfl,hst,hpk⟩ | ⟨rfl,f0,hpk,hst⟩
     ·
      have c3:W2.cell? ⟨wr.heap.size,3,none⟩=some (.int .i64 f.gen):=(Zae HB2.out).trans (Frm.A3 f)
      have c2:W2.cell? ⟨wr.heap.size,2,none⟩=some (.int .i64 f.stripe):=(Zae HB2.out).trans (Frm.A2 f)
      have cg:W2.cell? ⟨w.heap.size+1,1,none⟩=some (.int .i64 x.stripe):=by
       obtain ⟨_,_,_,ya,yc,h4,_⟩:=hst.more HX2.out
       exact (Zae h4).trans rfl
      have HLT:=hid (hst.lt)
      by_cases q1:f.gen=seq
      case neg =>
       have ab:(f.gen != seq)=true:=by simpa using q1
       have hpd:=HPD.out x.stripe
       rw [if_neg (fun z=>q1 z.1)] at hpd
       have HP:=hid (hpk.trans hpd)
       have HS2:=hid (hst.more HX2.out)
       clear hpk hpd hst q1
       go_wp2_with (first
        | (guard_target=wpList _ _ _ (⟨some _,Op.load _ _,_,_,_,none⟩::_) _ _; refine Zab rfl 42 _ rfl ⟨b,j*112,none⟩ rfl (Frm.A f) (by rw [HFS.out]; exact aggFrame) HFA.out ?_)
        | (guard_target=wpList _ _ _ (⟨none,Op.store _ _ _,_,_,_,none⟩::_) _ _; refine Zaa rfl 42 _ _ rfl wr.heap.size rfl (Frm.A f) _ rfl 42 ?_ hbf ?_ ?_ ?_; (rw [HFS.out]; exact aggFrame); (rw [HFS.out,HZF.out]); exact Frm.A_one _; rw [Zag,HW2'.out]))
       go_roundw
       case rel=>exact ⟨j+1,by go_num,by omega,.inl ⟨rfl,HS2.out,HP.out⟩⟩
       case measure=>simp [intOf]; omega
      have ab:(f.gen != seq)=false:=by simpa using q1
      by_cases q0:i=0
      case pos =>
       have hpd:=HPD.out x.stripe
       rw [if_pos ⟨q1,.inl q0⟩] at hpd
       have iz:¬(0:Int) < (i:Int):=by omega
       clear q1 q0
       have hpk2:pickF seq i x.stripe fs=some f:=hpk.trans hpd
       have HPK:=hid hpk2
       have HS2:=hid (hst.more HX2.out)
       have HBLN:=hid (show x.blocks.length < 1000 by omega)
       clear hst hpk hpk2 hpd HPD
       go_wp2_with (first
        | (guard_target=wpList _ _ _ (⟨some _,Op.load _ _,_,_,_,none⟩::_) _ _; refine Zab rfl 42 _ rfl ⟨b,j*112,none⟩ rfl (Frm.A f) (by rw [HFS.out]; exact aggFrame) HFA.out ?_)
        | (guard_target=wpList _ _ _ (⟨none,Op.store _ _ _,_,_,_,none⟩::_) _ _; refine Zaa rfl 42 _ _ rfl wr.heap.size rfl (Frm.A f) _ rfl 42 ?_ hbf ?_ ?_ ?_; (rw [HFS.out]; exact aggFrame); (rw [HFS.out,HZF.out]); exact Frm.A_one _; rw [Zag,HW2'.out]))
       refine Zaq (S:=Ext) 3 (.fin [0,1,2]) (by kernel_rfl) (by kernel_rfl) (fun _ _ d _ _ h=>by cases d<;>exact h) ?_
       have xd:Ext W2 W2.drew:=(Ext.refl W2).drew
       have c0:∀ y:SW Ext W2.drew,y.w.cell? ⟨wr.heap.size,2,none⟩=some (.int .i64 f.stripe):=fun y=>(Zae ((Ext.trans xd y.ext).at HB2.out)).trans (Frm.A2 f)
       rw [wpS]
       simp only [opsAt,opA,opB,opC,opD,opE,opF,opG]
       iterate 3 ((refine Zac (fun K hK=>?_); go_simp; refine hK _ ?_; clear hK K))
       refine Zak ?_
       intro W hW
       have HXW:=hid (Ext.trans xd hW)
       clear c0 hW c3 c2 cg
       obtain ⟨va,vc,W3,a',c',W4,q1,q2,q3,q4,q5,q6,q7,q8,q9⟩:=(HS2.out.more HXW.out).take HG.out f HFO.out HBLN.out
       have hb4:W3.heap[wr.heap.size]?=some (.cells (Frm.A f) 42 (0,0)):=q4.at (HXW.out.at HB2.out) (fun e=>by have:=HLT.out; omega)
       have HDA:Hid (∀ q v,(bA f.data).toList[q]?=some v->W3.cell? ((⟨wr.heap.size,4,none⟩:Addr).add q)=some v):=hid (fun q v hv=>by
        have e:(⟨wr.heap.size,4,none⟩:Addr).add q=⟨wr.heap.size,4+q,none⟩:=by unfold Addr.add; split<;>simp_all
        rw [e,Zae hb4]
        have hq:q < 108:=by
         rcases Nat.lt_or_ge q 108 with h | h
         ·
          exact h
         ·
          rw [List.getElem?_eq_none (by rw [Array.length_toList,Za6,HFO.out.len]; exact h)] at hv; cases hv
        have h1:=Zbo f.data q (by rw [HFO.out.len]; exact hq)
        rw [Array.getElem?_toList] at hv
        rw [h1] at hv
        rw [<- hv]
        exact Frm.A4 f q (by rw [HFO.out.len]; exact hq))
       have HDS:=hid (show (bA f.data).size=108 by rw [Za6]; exact HFO.out.len)
       have HQ9:=hid q9
       clear q4 q9 hb4
       go_wp2_with (first
        | (guard_target=wpList _ _ _ (⟨some _,Op.load _ _,_,_,_,none⟩::_) _ _; refine Zab rfl 40 _ rfl ⟨wr.heap.size,4,none⟩ rfl (bA f.data) (by rw [HDS.out]; exact aggData) HDA.out ?_)
        | (guard_target=wpList _ _ _ (⟨some _,Op.buildSlice _ _ _,_,_,_,none⟩::_) _ _; refine Zaz rfl 98 120 _ rfl (bA f.data) _ _ 108 108 Tryz.underlying98 infoBlk (by omega) (by omega) rfl rfl HDS.out ?_)
        | (at_builtin; refine Zam rfl _ _ _ rfl _ _ _ _ rfl rfl q6 ?_))
       go_roundw
       case rel=>exact ⟨j+1,by go_num,by omega,.inr ⟨rfl,f,HPK.out,HQ9.out⟩⟩
       case measure=>simp [intOf]; omega
      have iz:(0:Int) < (i:Int):=by omega
      by_cases q2:f.stripe=x.stripe
      case pos =>
       have hpd:=HPD.out x.stripe
       rw [if_pos ⟨q1,.inr q2⟩] at hpd
       have ac:(f.stripe != x.stripe)=false:=by simpa using q2
       clear q1 q2
       have hpk2:pickF seq i x.stripe fs=some f:=hpk.trans hpd
       have HPK:=hid hpk2
       have HS2:=hid (hst.more HX2.out)
       have HBLN:=hid (show x.blocks.length < 1000 by omega)
       clear hst hpk hpk2 hpd HPD
       go_wp2_with (first
        | (guard_target=wpList _ _ _ (⟨some _,Op.load _ _,_,_,_,none⟩::_) _ _; refine Zab rfl 42 _ rfl ⟨b,j*112,none⟩ rfl (Frm.A f) (by rw [HFS.out]; exact aggFrame) HFA.out ?_)
        | (guard_target=wpList _ _ _ (⟨none,Op.store _ _ _,_,_,_,none⟩::_) _ _; refine Zaa rfl 42 _ _ rfl wr.heap.size rfl (Frm.A f) _ rfl 42 ?_ hbf ?_ ?_ ?_; (rw [HFS.out]; exact aggFrame); (rw [HFS.out,HZF.out]); exact Frm.A_one _; rw [Zag,HW2'.out]))
       refine Zaq (S:=Ext) 3 (.fin [0,1,2]) (by kernel_rfl) (by kernel_rfl) (fun _ _ d _ _ h=>by cases d<;>exact h) ?_
       have xd:Ext W2 W2.drew:=(Ext.refl W2).drew
       have c0:∀ y:SW Ext W2.drew,y.w.cell? ⟨wr.heap.size,2,none⟩=some (.int .i64 f.stripe):=fun y=>(Zae ((Ext.trans xd y.ext).at HB2.out)).trans (Frm.A2 f)
       rw [wpS]
       simp only [opsAt,opA,opB,opC,opD,opE,opF,opG]
       iterate 3 ((refine Zac (fun K hK=>?_); go_simp; refine hK _ ?_; clear hK K))
       refine Zak ?_
       intro W hW
       have HXW:=hid (Ext.trans xd hW)
       clear c0 hW c3 c2 cg
       obtain ⟨va,vc,W3,a',c',W4,q1,q2,q3,q4,q5,q6,q7,q8,q9⟩:=(HS2.out.more HXW.out).take HG.out f HFO.out HBLN.out
       have hb4:W3.heap[wr.heap.size]?=some (.cells (Frm.A f) 42 (0,0)):=q4.at (HXW.out.at HB2.out) (fun e=>by have:=HLT.out; omega)
       have HDA:Hid (∀ q v,(bA f.data).toList[q]?=some v->W3.cell? ((⟨wr.heap.size,4,none⟩:Addr).add q)=some v):=hid (fun q v hv=>by
        have e:(⟨wr.heap.size,4,none⟩:Addr).add q=⟨wr.heap.size,4+q,none⟩:=by unfold Addr.add; split<;>simp_all
        rw [e,Zae hb4]
        have hq:q < 108:=by
         rcases Nat.lt_or_ge q 108 with h | h
         ·
          exact h
         ·
          rw [List.getElem?_eq_none (by rw [Array.length_toList,Za6,HFO.out.len]; exact h)] at hv; cases hv
        have h1:=Zbo f.data q (by rw [HFO.out.len]; exact hq)
        rw [Array.getElem?_toList] at hv
        rw [h1] at hv
        rw [<- hv]
        exact Frm.A4 f q (by rw [HFO.out.len]; exact hq))
       have HDS:=hid (show (bA f.data).size=108 by rw [Za6]; exact HFO.out.len)
       have HQ9:=hid q9
       clear q4 q9 hb4
       go_wp2_with (first
        | (guard_target=wpList _ _ _ (⟨some _,Op.load _ _,_,_,_,none⟩::_) _ _; refine Zab rfl 40 _ rfl ⟨wr.heap.size,4,none⟩ rfl (bA f.data) (by rw [HDS.out]; exact aggData) HDA.out ?_)
        | (guard_target=wpList _ _ _ (⟨some _,Op.buildSlice _ _ _,_,_,_,none⟩::_) _ _; refine Zaz rfl 98 120 _ rfl (bA f.data) _ _ 108 108 Tryz.underlying98 infoBlk (by omega) (by omega) rfl rfl HDS.out ?_)
        | (at_builtin; refine Zam rfl _ _ _ rfl _ _ _ _ rfl rfl q6 ?_))
       go_roundw
       case rel=>exact ⟨j+1,by go_num,by omega,.inr ⟨rfl,f,HPK.out,HQ9.out⟩⟩
       case measure=>simp [intOf]; omega
      have ac:(f.stripe != x.stripe)=true:=by simpa using q2
      have hpd:=HPD.out x.stripe
      rw [if_neg (fun z=>by rcases z.2 with h | h; exact q0 h; exact q2 h)] at hpd
      have HP:=hid (hpk.trans hpd)
      have HS2:=hid (hst.more HX2.out)
      clear hpk hpd hst q1 q2
      go_wp2_with (first
       | (guard_target=wpList _ _ _ (⟨some _,Op.load _ _,_,_,_,none⟩::_) _ _; refine Zab rfl 42 _ rfl ⟨b,j*112,none⟩ rfl (Frm.A f) (by rw [HFS.out]; exact aggFrame) HFA.out ?_)
       | (guard_target=wpList _ _ _ (⟨none,Op.store _ _ _,_,_,_,none⟩::_) _ _; refine Zaa rfl 42 _ _ rfl wr.heap.size rfl (Frm.A f) _ rfl 42 ?_ hbf ?_ ?_ ?_; (rw [HFS.out]; exact aggFrame); (rw [HFS.out,HZF.out]); exact Frm.A_one _; rw [Zag,HW2'.out]))
      go_roundw
      case rel=>exact ⟨j+1,by go_num,by omega,.inl ⟨rfl,HS2.out,HP.out⟩⟩
      case measure=>simp [intOf]; omega
     ·
      have HP:=hid hpk
      have HS2:=hid (hst.more HX2.out)
      clear hpk hst HPD
      go_wp2_with (first
       | (guard_target=wpList _ _ _ (⟨some _,Op.load _ _,_,_,_,none⟩::_) _ _; refine Zab rfl 42 _ rfl ⟨b,j*112,none⟩ rfl (Frm.A f) (by rw [HFS.out]; exact aggFrame) HFA.out ?_)
       | (guard_target=wpList _ _ _ (⟨none,Op.store _ _ _,_,_,_,none⟩::_) _ _; refine Zaa rfl 42 _ _ rfl wr.heap.size rfl (Frm.A f) _ rfl 42 ?_ hbf ?_ ?_ ?_; (rw [HFS.out]; exact aggFrame); (rw [HFS.out,HZF.out]); exact Frm.A_one _; rw [Zag,HW2'.out]))
      go_roundw
      case rel=>exact ⟨j+1,by go_num,by omega,.inr ⟨rfl,f0,HP.out,HS2.out⟩⟩
      case measure=>simp [intOf]; omega
    ·
     obtain rfl:fs.length=j:=by omega
     rcases hor with ⟨rfl,hst,hpk⟩ | ⟨rfl,f0,hpk,hst⟩
     ·
      have hno:whole seq ls=none:=by
       rw [HW2.out]
       refine wholeFrom_none ?_
       rw [hpk,List.drop_length]; rfl
      have HNO:=hid hno
      have HR:=hid (Ext.at hst.ext HR0.out)
      have HX:=hid (Ext.trans HX0.out hst.ext)
      clear hpk hst hno
      go_wp2_with (first
       | (guard_target=wpList _ _ _ (⟨none,Op.store _ _ _,_,_,_,none⟩::_) _ _; refine Zaa rfl 101 _ _ rfl w.heap.size rfl (Rcd.none_.V none 0) _ rfl 101 (Za0 _ _ _) HR.out rfl (V_one _ _ _) ?_)
       | (guard_target=wpList _ _ _ (⟨some _,Op.build _ _,_,_,_,none⟩::_) _ _; refine Zal rfl 101 _ rfl (Rcd.none_.V none 0) ?_ ?_; exact hb0))
      refine bodyPost_ret (Zah Tryz.results143 rfl (Za0 _ _ _) (setRow_heap _ _ _ _ _ _ HR.out)) rfl ?_
      exact ⟨none,0,by rw [HNO.out]; rfl,Ext.then HX.out (Zad _ _ _) (fun i hi=>by omega),by rw [HNO.out]; intro i b hb; simp [Rcd.none_] at hb,by intro p hp; cases hp⟩
     ·
      have HW3:Hid (whole seq ls=wholeFrom seq (i+1) ⟨seq,f0.stripe,x.blocks++[f0.data]⟩ (ls.drop (i+1))):=hid (by rw [HW2.out]; exact wholeFrom_some hpk)
      have HST:=hid hst
      clear hpk hst
      go_wp2
      go_roundw
      case rel=>exact ⟨i+1,_,by go_num,by omega,HST.out,HW3.out,by simp [HBL.out]⟩
      case measure=>simp [intOf]; omega
  ·
   obtain rfl:ls.length=i:=by omega
   have hyes:whole seq ls=some x:=by rw [hw,List.drop_length,wholeFrom_nil]
   have HY:=hid hyes
   have HR:=hid (Ext.at hst.ext HR0.out)
   have HX:=hid (Ext.trans HX0.out hst.ext)
   obtain ⟨_,_,hbo,ya,yc,h4,h5⟩:=hst
   have H4:=hid h4
   have H5:=hid h5
   have HBO:=hid hbo
   clear hw hyes h4 h5 hbo
   go_wp2_with (first
    | (guard_target=wpList _ _ _ (⟨some _,Op.load _ _,_,_,_,none⟩::_) _ _; refine Zab rfl 101 _ rfl ⟨w.heap.size+1,0,none⟩ rfl (x.V ya yc) (Za0 _ _ _) (Zai H4.out) ?_)
    | (guard_target=wpList _ _ _ (⟨none,Op.store _ _ _,_,_,_,none⟩::_) _ _; refine Zaa rfl 101 _ _ rfl w.heap.size rfl (x.V ya yc) _ rfl 101 (Za0 _ _ _) HR.out rfl (V_one _ _ _) ?_))
   refine bodyPost_ret (Zah Tryz.results143 rfl (Za0 _ _ _) (setRow_heap _ _ _ _ _ _ HR.out)) rfl ?_
   have e1:Only (fun k=>k=w.heap.size) wr (wr.setRow w.heap.size (x.V ya yc)):=Zad _ _ _
   obtain ⟨a2,c2,e2,h⟩:=(H5.out.only e1 (fun b hb e=>by have:=(H5.out.lt b hb).1; omega)).slice
   simp only [List.length_map] at e2
   cases e2
   refine ⟨ya,yc,by rw [HY.out]; rfl,Ext.then HX.out (Zad _ _ _) (fun i hi=>by omega),?_,?_⟩
   ·
    rw [HY.out]
    rcases h with ⟨h0,rfl⟩ | ⟨g2,rfl,_,_,_,hv⟩
    ·
     have:x.blocks=[]:=by simpa using h0
     intro i b hb
     simp [this] at hb
    ·
     exact BlksAt.of_vs HBO.out hv
   ·
    intro p hp
    rcases h with ⟨h0,rfl⟩ | ⟨g2,rfl,hg2,_⟩
    ·
     cases hp
    ·
     cases hp; show w.heap.size<=g2; omega
end Go.Proofs.YtgjnnbomnoafcaaGreatDoor
namespace Go.Proofs.YtgjnnbomnoafcaaGreatDoor
set_option linter.unusedVariables false
theorem newestF_ge:∀ (fs:List Frm) (m:Int),m<=newestF m fs/\∀ f∈fs,f.gen<=newestF m fs
 | [],m=>⟨Int.le_refl _,by simp⟩
 | g::fs,m=>by
  obtain ⟨h1,h2⟩:=newestF_ge fs (max m g.gen)
  have e:newestF m (g::fs)=newestF (max m g.gen) fs:=rfl
  rw [e]
  refine ⟨by omega,fun f hf=>?_⟩
  rcases List.mem_cons.1 hf with rfl | hf
  ·
   omega
  ·
   exact h2 f hf
theorem newestF_le:∀ (fs:List Frm) (m B:Int),m<=B->(∀ f∈fs,f.gen<=B)->newestF m fs<=B
 | [],m,B,hm,_=>hm
 | g::fs,m,B,hm,h=>by
  have e:newestF m (g::fs)=newestF (max m g.gen) fs:=rfl
  rw [e]
  have:=h g List.mem_cons_self
  exact newestF_le fs _ B (by omega) fun f hf=>h f (List.mem_cons_of_mem _ hf)
theorem newest_ge':∀ (l:List (List Frm)) (m:Int),m<=l.foldl newestF m/\∀ fs∈l,∀ f∈fs,f.gen<=l.foldl newestF m
 | [],m=>⟨Int.le_refl _,by simp⟩
 | gs::l,m=>by
  obtain ⟨h1,h2⟩:=newest_ge' l (newestF m gs)
  obtain ⟨h3,h4⟩:=newestF_ge gs m
  have e:(gs::l).foldl newestF m=l.foldl newestF (newestF m gs):=rfl
  rw [e]
  refine ⟨by omega,fun fs hfs f hf=>?_⟩
  rcases List.mem_cons.1 hfs with rfl | hfs
  ·
   have:=h4 f hf; omega
  ·
   exact h2 fs hfs f hf
theorem newest_le':∀ (l:List (List Frm)) (m B:Int),m<=B->(∀ fs∈l,∀ f∈fs,f.gen<=B)->l.foldl newestF m<=B
 | [],m,B,hm,_=>hm
 | gs::l,m,B,hm,h=>by
  have e:(gs::l).foldl newestF m=l.foldl newestF (newestF m gs):=rfl
  rw [e]
  exact newest_le' l _ B (newestF_le gs m B hm (h gs List.mem_cons_self)) fun fs hfs=>h fs (List.mem_cons_of_mem _ hfs)
theorem newest_eq {l:List (List Frm)} {s:Int} (h0:0<=s) (hle:∀ fs∈l,∀ f∈fs,f.gen<=s) (hm:s=0\/∃ fs∈l,∃ f∈fs,f.gen=s):newest l=s:=by
 have h1:newest l<=s:=newest_le' l 0 s h0 hle
 obtain ⟨h2,h3⟩:=newest_ge' l 0
 have e:newest l=l.foldl newestF 0:=rfl
 rcases hm with rfl | ⟨fs,hfs,f,hf,hs⟩
 ·
  omega
 ·
  have:=h3 fs hfs f hf; omega
theorem wholeFrom_of (X:Rcd):∀ (l:List (List Frm)) (i:Nat) (x:Rcd),(∀ j fs,l[j]?=some fs->(∃ f∈fs,f.gen=X.seq)/\∀ f∈fs,f.gen=X.seq->f=X.frm (i+j))->(i=0\/x.stripe=X.stripe)->x.seq=X.seq ->
  wholeFrom X.seq i x l=some ⟨X.seq,if l=[] then x.stripe else X.stripe,x.blocks++(List.range' i l.length).map fun j=>(X.frm j).data⟩
 | [],i,x,_,_,hq=>by
  unfold wholeFrom
  simp [<- hq]
 | fs::l,i,x,h,hi,hq=>by
  obtain ⟨⟨f,hf,hg⟩,h2⟩:=h 0 fs rfl
  have hp:pickF X.seq i x.stripe fs=some (X.frm i):=by
   unfold pickF
   have hsome:(fs.find? fun f=>decide (f.gen=X.seq) && (decide (i=0) || decide (f.stripe=x.stripe))).isSome:=by
    rw [List.find?_isSome]
    refine ⟨f,hf,?_⟩
    have e:=h2 f hf hg
    have es:f.stripe=X.stripe:=by rw [e]; rfl
    rcases hi with hi | hi
    ·
     simp [hg,hi]
    ·
     simp [hg,es,hi]
   obtain ⟨g,hgg⟩:=Option.isSome_iff_exists.1 hsome
   rw [hgg]
   have m1:=List.mem_of_find?_eq_some hgg
   have m2:=List.find?_some hgg
   simp only [Bool.and_eq_true,decide_eq_true_eq] at m2
   rw [h2 g m1 m2.1]; rfl
  have hr:=wholeFrom_of X l (i+1) ⟨X.seq,(X.frm i).stripe,x.blocks++[(X.frm i).data]⟩ (fun j gs hj=>by
   have:=h (j+1) gs hj
   rw [show i+(j+1)=i+1+j by omega] at this
   exact this) (.inr rfl) rfl
  unfold wholeFrom
  rw [hp]
  simp only
  rw [hr]
  have e2:(X.frm i).stripe=X.stripe:=rfl
  simp [List.range'_succ,e2]
theorem whole_yes (X:Rcd) (l:List (List Frm)) (hl:l.length=X.blocks.length) (h0:0 < l.length) (h:∀ j fs,l[j]?=some fs->(∃ f∈fs,f.gen=X.seq)/\∀ f∈fs,f.gen=X.seq->f=X.frm j) :
  whole X.seq l=some X:=by
 unfold whole
 rw [wholeFrom_of X l 0 ⟨X.seq,0,[]⟩ (fun j fs hj=>by rw [Nat.zero_add]; exact h j fs hj) (.inl rfl) rfl,if_neg (fun e=>by rw [e] at h0; simp at h0)]
 have e:(List.range' 0 l.length).map (fun j=>(X.frm j).data)=X.blocks:=by
  apply List.ext_getElem?
  intro i
  rcases Nat.lt_or_ge i l.length with hi | hi
  ·
   have hb:i < X.blocks.length:=by omega
   simp only [List.getElem?_map]
   rw [List.getElem?_range' hi]
   simp [Rcd.frm,List.getD_eq_getElem?_getD,hb]
  ·
   rw [List.getElem?_eq_none (by simpa using hi),List.getElem?_eq_none (by omega)]
 rw [e]
 simp
namespace Rck
variable {R:Rck} {c:Cfg} {slot:Int}
theorem jall_len:(R.jall c slot).length=c.k.toNat:=by simp [jall]
theorem jall_get {i:Nat} {fs:List Frm} (h:(R.jall c slot)[i]?=some fs):i < c.k.toNat/\fs=R.jgoods c slot i:=by
 have hi:i < c.k.toNat:=by
  have:=(List.getElem?_eq_some_iff.1 h).1
  rwa [jall_len] at this
 refine ⟨hi,?_⟩
 unfold jall at h
 simp [hi] at h
 exact h.symm
theorem jall_at {i:Nat} (h:i < c.k.toNat):(R.jall c slot)[i]?=some (R.jgoods c slot i):=by
 unfold jall
 simp [h]
theorem jall_mem {fs:List Frm}:fs∈R.jall c slot↔∃ i,i < c.k.toNat/\fs=R.jgoods c slot i:=by
 unfold jall
 simp only [List.mem_map,List.mem_range]
 exact ⟨fun ⟨i,h,e⟩=>⟨i,h,e.symm⟩,fun ⟨i,h,e⟩=>⟨i,h,e.symm⟩⟩
theorem jgoods_mem {i:Nat} {f:Frm}:f∈R.jgoods c slot i↔∃ d:Nat,d < c.n.toNat/\R.jgood c d slot i=some f:=by
 unfold jgoods
 simp only [List.mem_filterMap,List.mem_range]
theorem jslot_lost (hk:R.jknown c slot=true) {i:Nat} (hi:i < c.k.toNat) (he:R.jgoods c slot i=[]):R.jslot c slot=(Rcd.none_,false,0,some (.fault sJSlot slot (.loss slot 0 1))):=by
 unfold jslot
 rw [if_pos hk,if_pos]
 rw [List.any_eq_true]
 exact ⟨[],jall_mem.2 ⟨i,hi,he.symm⟩,rfl⟩
theorem jslot_there (hk:R.jknown c slot=true) (he:∀ i,i < c.k.toNat->R.jgoods c slot i≠[]) {s:Int} (hs:newest (R.jall c slot)=s) :
  R.jslot c slot=((whole s (R.jall c slot)).getD Rcd.none_,(whole s (R.jall c slot)).isSome,s,none):=by
 unfold jslot
 rw [if_pos hk,if_neg,hs]
 rw [List.any_eq_true]
 rintro ⟨fs,hm,h⟩
 obtain ⟨i,hi,rfl⟩:=jall_mem.1 hm
 exact he i hi (List.isEmpty_iff.1 h)
theorem jslot_full (hk:R.jknown c slot=true) (k0:0 < c.k.toNat) {Y:Rcd} (hl:(Y.blocks.length:Int)=c.k) (hY:0<=Y.seq) (h:∀ i,i < c.k.toNat->(∃ f∈R.jgoods c slot i,f.gen=Y.seq)/\∀ f∈R.jgoods c slot i,f.gen<=Y.seq/\(f.gen=Y.seq->f=Y.frm i)) :
  R.jslot c slot=(Y,true,Y.seq,none):=by
 have hn:newest (R.jall c slot)=Y.seq:=by
  refine newest_eq hY (fun fs hm f hf=>?_) (.inr ?_)
  ·
   obtain ⟨i,hi,rfl⟩:=jall_mem.1 hm
   exact ((h i hi).2 f hf).1
  ·
   obtain ⟨f,hf,hg⟩:=(h 0 k0).1
   exact ⟨_,jall_mem.2 ⟨0,k0,rfl⟩,f,hf,hg⟩
 have hw:whole Y.seq (R.jall c slot)=some Y:=by
  refine whole_yes Y _ (by rw [jall_len]; omega) (by rw [jall_len]; exact k0) fun j fs hj=>?_
  obtain ⟨hi,rfl⟩:=jall_get hj
  exact ⟨(h j hi).1,fun f hf=>((h j hi).2 f hf).2⟩
 rw [jslot_there hk (fun i hi q=>by obtain ⟨f,hf,_⟩:=(h i hi).1; rw [q] at hf; simp at hf) hn,hw]
 rfl
theorem jslot_one (hk:R.jknown c slot=true) (k0:0 < c.k.toNat) {X:Rcd} (hl:(X.blocks.length:Int)=c.k) (hX:0<=X.seq) (h:∀ i,i < c.k.toNat->R.jgoods c slot i≠[]/\∀ f∈R.jgoods c slot i,f=X.frm i) :
  R.jslot c slot=(X,true,X.seq,none):=by
 refine jslot_full hk k0 hl hX fun i hi=>⟨?_,fun f hf=>?_⟩
 ·
  obtain ⟨f,hf⟩:=List.exists_mem_of_ne_nil _ (h i hi).1
  exact ⟨f,hf,by rw [(h i hi).2 f hf]; rfl⟩
 ·
  have e:=(h i hi).2 f hf
  exact ⟨by rw [e]; exact Int.le_refl _,fun _=>e⟩
end Rck
end Go.Proofs.YtgjnnbomnoafcaaGreatDoor
namespace Go
theorem wpList_max_int {P:Program} {ops:Array Oper} {rest:List Oper} {o:Oper} {a:Act} {w:World} {Q:Exit->Act->World->Prop} (hgd:o.guard=none) (x y:Operand) (t:TypeId)
  (ho:o.op=.call { callee:=.builtin .max,args:=#[x,y],argTypes:=#[t,t] }) (m n:Int) (hx:a.eval x=.int .i64 m) (hy:a.eval y=.int .i64 n)
  (h:wpList P ops Q rest (a.put o.dst (.int .i64 (max m n))) w):wpList P ops Q (o::rest) a w :=
 wpList_plain hgd fun _ hK=>by
  have e:(if n > m then n else m)=max m n:=by split<;>omega
  have hr:(Builtin.max_ #[t,t] o.type #[.int .i64 m,.int .i64 n]).run P w=.ok (.int .i64 (max m n)) w:=by
   rw [<- e]
   simp [Builtin.max_,Builtin.max2]
  unfold Oper.wp
  simp [execOp,ho,resolve,invoke,builtin,hx,hy,hr,Result.andThen]
  exact hK _ _ h
theorem Za2 {P:Program} {fn:Func} {p u v x:Tmp} {ty t:TypeId} {g:Nat} {A:Array Value} {tmps:Array Value} {w:World} (h:fn.results=#[.cell p ty,.tmp u,.tmp v,.tmp x]) (hp:tmps.getD p undef=.pointer (some ⟨g,0,none⟩))
  (ht:AggType P ty A.size) (hg:w.heap[g]?=some (.cells A t (0,0))):(results fn tmps).run P w=.ok (.tuple #[.agg A,tmps.getD u undef,tmps.getD v undef,tmps.getD x undef]) w:=by
 have hl:=Za8 (P:=P) w ty ⟨g,0,none⟩ A ht (fun j v hv=>by
  have e:(⟨g,0,none⟩:Addr).add j=⟨g,j,none⟩:=by unfold Addr.add; split<;>simp_all
  rw [e]; simp only [World.cell?,hg]
  simpa using hv)
 have hp':tmps[p]?.getD undef=.pointer (some ⟨g,0,none⟩):=by rw [<- Array.getD_eq_getD_getElem?]; exact hp
 simp only [results,h]
 simp [Sem.run_bind,Result.andThen,hp',asAddr,hl]
end Go
namespace Go.Proofs.YtgjnnbomnoafcaaGreatDoor
set_option linter.unusedVariables false
open Go Go.RowKit
theorem infoFrs:(Tryz.prog.info? 213).map (fun i=>(i.zero,i.size,i.bytes))=some (some (.slice none 0 0),1,24):=by kernel_rfl
theorem OwnVs.apart {w:World} {B1 B2 sz1 sz2:Nat} {t1 t2:TypeId} {v1 v2:Value} {l1 l2:List (Array Value)} (h1:OwnVs w B1 t1 sz1 v1 l1) (h2:OwnVs w B2 t2 sz2 v2 l2) (hn:t1≠t2) {b:Nat} (e1:v1.ownBlock=some b):v2.ownBlock≠some b:=by
 intro e2
 rcases h1.own.2 with ⟨q,_⟩ | ⟨g,c,cur,q1,_,q3,_⟩
 ·
  rw [q] at e1; cases e1
 ·
  rcases h2.own.2 with ⟨q,_⟩ | ⟨g2,c2,cur2,p1,_,p3,_⟩
  ·
   rw [q] at e2; cases e2
  ·
   rw [q1] at e1; rw [p1] at e2
   cases e1; cases e2
   rw [q3] at p3
   injection p3 with p3
   injection p3 with _ p4 _
   exact hn p4
def FrsAt (w:World) (hs:List (Array Value)) (ls:List (List Frm)):Prop:=hs.length=ls.length/\∀ (i:Nat) (fs:List Frm),ls[i]?=some fs->∃ b c,hs[i]?=some #[Value.slice (some ⟨b,0,none⟩) fs.length c]/\fs.length<=c/\OwnVs w 0 42 112 (.slice (some ⟨b,0,none⟩) fs.length c) (fs.map Frm.A)
theorem FrsAt.nil (w:World):FrsAt w [] []:=⟨rfl,fun i fs h=>by simp at h⟩
theorem FrsAt.only {F:Nat->Prop} {w w':World} {hs:List (Array Value)} {ls:List (List Frm)} (h:FrsAt w hs ls) (e:Only F w w') (hn:∀ v b,OwnVs w 0 42 112 v []\/(∃ l,OwnVs w 0 42 112 v l)->v.ownBlock=some b->¬F b):FrsAt w' hs ls:=⟨h.1,fun i fs hi=>by
 obtain ⟨b,c,h1,h2,h3⟩:=h.2 i fs hi
 exact ⟨b,c,h1,h2,h3.only e fun b' hb=>hn _ b' (.inr ⟨_,h3⟩) hb⟩⟩
theorem FrsAt.ext {w w':World} {hs:List (Array Value)} {ls:List (List Frm)} (h:FrsAt w hs ls) (e:Ext w w'):FrsAt w' hs ls:=h.only e fun _ _ _ _ x=>x
theorem FrsAt.snoc {w:World} {hs:List (Array Value)} {ls:List (List Frm)} (h:FrsAt w hs ls) {b c:Nat} {fs:List Frm} (hc:fs.length<=c) (h3:OwnVs w 0 42 112 (.slice (some ⟨b,0,none⟩) fs.length c) (fs.map Frm.A)):FrsAt w (hs++[#[Value.slice (some ⟨b,0,none⟩) fs.length c]]) (ls++[fs]):=by
 refine ⟨by simp [h.1],fun i gs hi=>?_⟩
 rcases Nat.lt_or_ge i ls.length with hlt | hge
 ·
  rw [List.getElem?_append_left hlt] at hi
  obtain ⟨b',c',q1,q2,q3⟩:=h.2 i gs hi
  exact ⟨b',c',by rw [List.getElem?_append_left (by rw [h.1]; exact hlt)]; exact q1,q2,q3⟩
 ·
  rw [List.getElem?_append_right hge] at hi
  obtain ⟨e,rfl⟩:i - ls.length=0/\gs=fs:=by
   rcases hd:i - ls.length with _ | k
   ·
    rw [hd] at hi; simp at hi; exact ⟨rfl,hi.symm⟩
   ·
    rw [hd] at hi; simp at hi
  exact ⟨b,c,by rw [List.getElem?_append_right (by rw [h.1]; exact hge),h.1,e]; rfl,hc,h3⟩
theorem LsAt.of_frs {w:World} {g:Nat} {hs:List (Array Value)} {ls:List (List Frm)} (hv:VsAt w g 1 hs) (h:FrsAt w hs ls):LsAt w (some ⟨g,0,none⟩) ls:=fun i fs hi=>by
 obtain ⟨b,c,q1,q2,q3⟩:=h.2 i fs hi
 obtain ⟨a2,c2,e2,h2⟩:=q3.slice
 simp only [List.length_map] at e2
 refine ⟨g,b,c,rfl,?_,q2,?_⟩
 ·
  have:=hv i _ q1 0 _ rfl
  simpa using this
 ·
  cases e2
  rcases h2 with ⟨_,e⟩ | ⟨g2,e,_,_,_,hvs⟩
  ·
   cases e
  ·
   cases e; exact hvs
def JSlotPost (w:World) (q:Rcd × Bool × Int × Option Err) (e:Ending) (w':World):Prop :=
 ∃ a c,e=.returned (.tuple #[.agg (q.1.V a c),.bool q.2.1,.int .i64 q.2.2.1,oErr q.2.2.2])/\Ext w w'/\BlksAt w' a q.1.blocks/\∀ p,a=some p->w.heap.size<=p.block
theorem newestF_take {m:Int} {fs:List Frm} {j:Nat} {f:Frm} (h:fs[j]?=some f):newestF m (fs.take (j+1))=max (newestF m (fs.take j)) f.gen:=by
 unfold newestF
 rw [List.take_add_one,h,Option.toList_some,List.foldl_append]; rfl
theorem Rck.jall_take (R:Rck) (c:Cfg) (slot:Int) {i:Nat} (h:i < c.k.toNat):(R.jall c slot).take (i+1)=(R.jall c slot).take i++[R.jgoods c slot i]:=by
 rw [List.take_add_one,Rck.jall_at h]; rfl
theorem built_loss (slot:Int):Tryz.prog.built 127 [(0,.int .i64 slot),(2,.int .i64 1)]=some #[.int .i64 slot,.int .i64 0,.int .i64 1]:=by kernel_rfl
set_option maxRecDepth 100000 in
set_option maxHeartbeats 4000000 in
theorem jslot_c {S:Nat->Prop} {w:World} {r:Nat} {R:Rck} (h:RackAt S w r R) (c:Cfg) (slot:Int) :
  Calls Tryz.prog 59 #[.pointer (some ⟨r,0,none⟩),.agg (Cfg.A c),.int .i64 slot] w (JSlotPost w (R.jslot c slot)):=by
 have hz:=zero_rec
 have hzf:=Zav
 have HZF:=hid (Frm.A_size _ Za5)
 have hb0:=built_rec0
 have HBL:=hid (built_loss slot)
 obtain ⟨W0,hW0⟩:∃ W,w.alloc (.cells (Cfg.A c) 74)=W:=⟨_,rfl⟩
 have x0:Ext w W0:=hW0▸(Ext.refl w).alloc _
 have hc0:W0.heap[w.heap.size]?=some (.cells (Cfg.A c) 74 (0,0)):=hW0▸heap_alloc_new _ _
 have hsz0:W0.heap.size=w.heap.size+1:=by rw [<- hW0]; simp
 obtain ⟨W1,hW1⟩:∃ W,W0.alloc (.cells (Rcd.none_.V none 0) 101)=W:=⟨_,rfl⟩
 have x1:Ext W0 W1:=hW1▸(Ext.refl W0).alloc _
 have hr1:W1.heap[w.heap.size+1]?=some (.cells (Rcd.none_.V none 0) 101 (0,0)):=by rw [<- hsz0]; exact hW1▸heap_alloc_new _ _
 have HX1:=hid (Ext.trans x0 x1)
 have HC1:=hid (Ext.at x1 hc0)
 have HD1:=hid hr1
 have H1:=hid (h.ext HX1.out)
 have HKN:=hid (fun hk:R.jknown c slot=true=>(show c.Good/\0<=slot/\slot < c.slots from by
  unfold Rck.jknown at hk
  simp only [Bool.and_eq_true,decide_eq_true_eq] at hk
  have hf:=hk.1.1
  unfold Rck.fits at hf
  simp only [Bool.and_eq_true,decide_eq_true_eq] at hf
  exact ⟨(Cfg.right_iff c).1 hf.1.1,hk.1.2,hk.2⟩))
 clear x0 x1 hc0 hr1 h
 go_enter Tryz.func59,Tryz.ntmps59
 go_wp2_with (guard_target=wpList _ _ _ (⟨some _,Op.load _ _,_,_,_,none⟩::_) _ _; refine Zab rfl 74 _ rfl ⟨w.heap.size,0,none⟩ rfl (Cfg.A c) (Zas c) (Zai HC1.out) ?_)
 refine (jknown_c H1.out c slot).mono ?_
 rintro e w2 ⟨rfl,x2⟩
 have HX2:=hid (Ext.trans HX1.out x2)
 have HC2:=hid (Ext.at x2 HC1.out)
 have HD2:=hid (Ext.at x2 HD1.out)
 have H2:=hid (H1.out.ext x2)
 clear x2
 rcases hk:R.jknown c slot with _ | _
 ·
  have HV:Hid (R.jslot c slot=(Rcd.none_,false,0,some (.fault sJSlot slot (.no 1)))):=hid (by unfold Rck.jslot; rw [hk]; rfl)
  have HW:=hid (Za3 sJSlot slot (.no 1) w2)
  simp only [Err.val] at HW
  clear hk HKN
  go_wp2_with (guard_target=wpList _ _ _ (⟨some _,Op.build _ _,_,_,_,none⟩::_) _ _; refine Zal rfl 101 _ rfl (Rcd.none_.V none 0) ?_ ?_; exact hb0)
  refine HW.out.mono ?_
  rintro e w3 ⟨rfl,rfl⟩
  go_wp2_with (guard_target=wpList _ _ _ (⟨none,Op.store _ _ _,_,_,_,none⟩::_) _ _; refine Zaa rfl 101 _ _ rfl (w.heap.size+1) rfl (Rcd.none_.V none 0) _ rfl 101 (Za0 _ _ _) HD2.out rfl (V_one _ _ _) ?_)
  refine bodyPost_ret (Za2 Tryz.results59 rfl (Za0 _ _ _) (setRow_heap _ _ _ _ _ _ HD2.out)) rfl ?_
  exact ⟨none,0,by rw [HV.out]; rfl,Ext.then HX2.out (Zad _ _ _) (fun i hi=>by omega),by rw [HV.out]; intro i b hb; simp [Rcd.none_] at hb,by intro p hp; cases hp⟩
 ·
  obtain ⟨g1,g2,g3⟩:=HKN.out hk
  obtain ⟨k,hkk⟩:∃ k:Nat,c.k=k:=⟨c.k.toNat,by have:=g1.k0; omega⟩
  have hkt:c.k.toNat=k:=by omega
  have hk8:k<=8:=by have:=g1.k1; have:=g1.n1; omega
  have hk1:1<=k:=by have:=g1.k0; omega
  have hn8:c.n.toNat<=8:=by have:=g1.n1; omega
  have HK:=hid hk
  have HG:=hid (fun (i:Nat) (hi:i < 8) (wr:World) (hx:Ext w2 wr)=>jgoods_c (H2.out.ext hx) c g1 slot g2 g3 i hi)
  have HOK:=hid (fun (i:Nat)=>(H2.out.jgoods_ok (c:=c) (slot:=slot) (i:=i)))
  have HLEN:=hid (fun (i:Nat)=>(show (R.jgoods c slot i).length<=8 from by
   have:=R.jgoodsTo_len c slot i c.n.toNat
   have e:R.jgoodsTo c slot i c.n.toNat=R.jgoods c slot i:=rfl
   rw [e] at this; omega))
  have HKT:=hid hkt
  have HSZ:=hid (show w.heap.size+1 < w2.heap.size from lt_of_block HD2.out)
  have c1:w2.cell? ⟨w.heap.size,1,none⟩=some (.int .i64 k):=(Zae HC2.out).trans (by rw [<- hkk]; exact Cfg.A1 c)
  clear hk HKN g1 g2 g3 hkk hkt hn8
  go_wp2
  clear c1
  go_loopw [29,10,11] (fun t m v wr=>∃ (i:Nat) (hs:List (Array Value)),t=.int .i64 i/\i<=k/\m=.int .i64 (newest ((R.jall c slot).take i))/\OwnVs wr w2.heap.size 213 1 v hs/\FrsAt wr hs ((R.jall c slot).take i)/\(∀ j,j < i->R.jgoods c slot j≠[])/\Ext w2 wr) (fun t _ _ _=>k - (intOf t).toNat)
  case atStart=>exact ⟨0,[],rfl,by omega,rfl,OwnVs.nil _ _ _ _,FrsAt.nil _,fun j hj=>absurd hj (Nat.not_lt_zero _),Ext.refl _⟩
  case round =>
   obtain ⟨i,hs,rfl,hi,rfl,hown,hfr,hne,hx⟩:=hrel
   by_cases hlt:i < k
   ·
    have HGI:=hid (HG.out i (by omega) wr hx)
    have HCR:=hid (hx.at HC2.out)
    have HDR:=hid (hx.at HD2.out)
    have HX:=hid hx
    have HOWN:=hid hown
    have HFR:=hid hfr
    have HNE:=hid hne
    have hti:=R.jall_take c slot (i:=i) (by rw [HKT.out]; exact hlt)
    have HTI:=hid hti
    have hlenf:=HLEN.out i
    have HOKF:=hid (HOK.out i)
    clear hx hown hfr hne hti
    go_wp2_with (guard_target=wpList _ _ _ (⟨some _,Op.load _ _,_,_,_,none⟩::_) _ _; refine Zab rfl 74 _ rfl ⟨w.heap.size,0,none⟩ rfl (Cfg.A c) (Zas c) (Zai HCR.out) ?_)
    refine HGI.out.mono ?_
    rintro e w3 ⟨vf,rfl,hof,x3⟩
    obtain ⟨m0,hm0⟩:∃ m,newest ((R.jall c slot).take i)=m:=⟨_,rfl⟩
    have HM0:=hid hm0
    rw [hm0]
    have HNEW:=hid (fun fs (e:R.jgoods c slot i=fs)=>(show newest ((R.jall c slot).take (i+1))=newestF m0 fs from by
     rw [HTI.out,e,<- HM0.out]; unfold newest; rw [List.foldl_append]; rfl))
    have HGE:=hid (show ∀ fs,R.jgoods c slot i=fs->(R.jall c slot).take (i+1)=(R.jall c slot).take i++[fs] from fun fs e=>by rw [HTI.out,e])
    have HLOST:=hid (fun (e:R.jgoods c slot i=[])=>Rck.jslot_lost HK.out (by rw [HKT.out]; exact hlt) e)
    clear hm0 HM0 HTI
    generalize hfs:R.jgoods c slot i=fs at hof hlenf HOKF
    have HNEW2:=hid (HNEW.out fs hfs)
    have HGE2:=hid (HGE.out fs hfs)
    have HFS:=hid hfs
    obtain ⟨fa,fc,rfl,hsl⟩:=hof.slice
    simp only [List.length_map] at hsl ⊢
    have hof2:=hof.down (Nat.zero_le _)
    rw [List.length_map] at hof2
    have HOF:=hid hof2
    have HX3:=hid (Ext.trans HX.out x3)
    have HXR:=hid x3
    clear HNEW HGE hfs hof hof2 x3
    rcases fs with _ | ⟨f0,fs0⟩
    ·
     have HV:Hid (R.jslot c slot=(Rcd.none_,false,0,some (.fault sJSlot slot (.loss slot 0 1)))):=hid (HLOST.out HFS.out)
     have HD3:=hid (HXR.out.at HDR.out)
     have HW:=hid (Za3 sJSlot slot (.loss slot 0 1) w3)
     simp only [Err.val] at HW
     clear HLOST hsl
     go_wp2_with (first
      | (guard_target=wpList _ _ _ (⟨some _,Op.build _ _,_,_,_,none⟩::_) _ _; refine Zal rfl 101 _ rfl (Rcd.none_.V none 0) ?_ ?_; exact hb0)
      | (guard_target=wpList _ _ _ (⟨some _,Op.build _ _,_,_,_,none⟩::_) _ _; refine Zal rfl 127 _ rfl #[.int .i64 slot,.int .i64 0,.int .i64 1] ?_ ?_; (simp only [List.map_toArray,List.map_cons,List.map_nil,Act.eval]; simp only [Array.getD_eq_getD_getElem?,List.getElem?_toArray,List.getElem?_cons_succ,List.getElem?_cons_zero,Option.getD_some]; exact HBL.out)))
     refine HW.out.mono ?_
     rintro e w4 ⟨rfl,rfl⟩
     go_wp2_with (guard_target=wpList _ _ _ (⟨none,Op.store _ _ _,_,_,_,none⟩::_) _ _; refine Zaa rfl 101 _ _ rfl (w.heap.size+1) rfl (Rcd.none_.V none 0) _ rfl 101 (Za0 _ _ _) HD3.out rfl (V_one _ _ _) ?_)
     refine bodyPost_ret (Za2 Tryz.results59 rfl (Za0 _ _ _) (setRow_heap _ _ _ _ _ _ HD3.out)) rfl ?_
     exact ⟨none,0,by rw [HV.out]; rfl,Ext.then (Ext.trans HX2.out HX3.out) (Zad _ _ _) (fun i hi=>by omega),by rw [HV.out]; intro i b hb; simp [Rcd.none_] at hb,by intro p hp; cases hp⟩
    ·
     obtain ⟨b,rfl,hcc,hat⟩:∃ b,fa=some ⟨b,0,none⟩/\(f0::fs0).length<=fc/\VsAt w3 b 112 ((f0::fs0).map Frm.A):=by
      rcases hsl with ⟨q,_⟩ | ⟨b,q,_,_,q2,q3⟩
      ·
       simp at q
      ·
       exact ⟨b,q,by simpa using q2,q3⟩
     have HGNE:=hid (show R.jgoods c slot i≠[] from by rw [HFS.out]; simp)
     clear HLOST HFS hsl
     obtain ⟨fs,hfs⟩:∃ fs,f0::fs0=fs:=⟨_,rfl⟩
     have hpos:0 < fs.length:=by rw [<- hfs]; simp
     rw [hfs] at hat HOF HNEW2 HGE2 HOKF hlenf hcc ⊢
     clear hfs
     have h0:((fs.length:Int) == 0)=false:=by rw [beq_eq_false_iff_ne]; omega
     have hfl8:(fs.length:Int)<=8:=by omega
     have HAT:=hid hat
     clear hat
     go_wp2
     go_loopw [48,10] (fun t m wq=>∃ (j:Nat),t=.int .i64 j/\j<=fs.length/\m=.int .i64 (newestF m0 (fs.take j))/\Ext w3 wq) (fun t _ _=>fs.length - (intOf t).toNat)
     case atStart=>exact ⟨0,rfl,by omega,rfl,Ext.refl _⟩
     case round =>
      obtain ⟨j,rfl,hj,rfl,hxq⟩:=hrel
      by_cases hjt:j < fs.length
      ·
       have j0:(0:Int)<=(j:Int):=by omega
       have j1:(j:Int) < (fs.length:Int):=by omega
       obtain ⟨f,hfj⟩:∃ f,fs[j]?=some f:=⟨fs[j],List.getElem?_eq_getElem hjt⟩
       have hfo:=HOKF.out f (List.mem_of_getElem? hfj)
       have HFSZ:=hid (Frm.A_size f hfo)
       have HNT:=hid (newestF_take (m:=m0) hfj)
       have HFA:Hid (∀ q v,(Frm.A f).toList[q]?=some v->wr.cell? ((⟨b,j*112,none⟩:Addr).add q)=some v):=hid (fun q v hv=>by
        have:=HAT.out j (Frm.A f) (by rw [List.getElem?_map,hfj]; rfl) q v hv
        have e:(⟨b,j*112,none⟩:Addr).add q=⟨b,j*112+q,none⟩:=by unfold Addr.add; split<;>simp_all
        rw [e]; exact Ext.cell hxq this)
       have hbf:(wr.alloc (.cells (Frm.A Frm.zero) 42)).heap[wr.heap.size]?=some (.cells (Frm.A Frm.zero) 42 (0,0)):=Zaf
       have c3:(wr.alloc (.cells (Frm.A f) 42)).cell? ⟨wr.heap.size,3,none⟩=some (.int .i64 f.gen):=(Zae Zaf).trans (Frm.A3 f)
       have HXQ:=hid hxq
       generalize newestF m0 (fs.take j)=mj at *
       clear hxq hfo hfj
       go_wp2_with (first
        | (guard_target=wpList _ _ _ (⟨some _,Op.load _ _,_,_,_,none⟩::_) _ _; refine Zab rfl 42 _ rfl ⟨b,j*112,none⟩ rfl (Frm.A f) (by rw [HFSZ.out]; exact aggFrame) HFA.out ?_)
        | (guard_target=wpList _ _ _ (⟨none,Op.store _ _ _,_,_,_,none⟩::_) _ _; refine Zaa rfl 42 _ _ rfl wr.heap.size rfl (Frm.A f) _ rfl 42 ?_ hbf ?_ ?_ ?_; (rw [HFSZ.out]; exact aggFrame); (rw [HFSZ.out,HZF.out]); exact Frm.A_one _; rw [Zag])
        | (guard_target=wpList _ _ _ (⟨some _,Op.call _,_,_,_,none⟩::_) _ _; refine wpList_max_int rfl _ _ 3 rfl mj f.gen rfl rfl ?_))
       go_roundw
       case rel=>exact ⟨j+1,by go_num,by omega,by rw [HNT.out],HXQ.out.alloc _⟩
       case measure=>simp [intOf]; omega
      ·
       obtain rfl:fs.length=j:=by omega
       rw [List.take_length,<- HNEW2.out]
       have hown2:=(HOWN.out.ext HXR.out).ext hxq
       have hszr:w2.heap.size<=wr.heap.size:=Nat.le_trans HX3.out.size hxq.size
       obtain ⟨v',W4,hap,hown4,ho4,hx4⟩:=hown2.add (tsl:=212) Tryz.underlying212 infoFrs rfl (by omega) #[Value.slice (some ⟨b,0,none⟩) fs.length fc] rfl (by intro u hu; simp at hu; subst hu; rfl) (by
        have:=HFR.out.1
        rw [this,List.length_take]; omega) (by omega) hszr
       have hfr4:FrsAt W4 (hs++[#[Value.slice (some ⟨b,0,none⟩) fs.length fc]]) ((R.jall c slot).take (i+1)):=by
        rw [HGE2.out]
        refine FrsAt.only (((HFR.out.ext HXR.out).ext hxq).snoc hcc (HOF.out.ext hxq)) ho4 fun v b hv hb e=>?_
        rcases hv with hv | ⟨l,hv⟩
        ·
         exact hv.apart hown2 (by decide) hb e
        ·
         exact hv.apart hown2 (by decide) hb e
       have HO4:=hid hown4
       have HF4:=hid hfr4
       have HX4:=hid (hx4 w2 (Nat.le_refl _) (Ext.trans HX3.out hxq))
       clear hown2 hown4 ho4 hx4 hfr4 hxq
       go_wp2_with (first
        | (guard_target=wpList _ _ _ (⟨some _,Op.buildSlice _ _ _,_,_,_,none⟩::_) _ _; refine Zaz rfl 212 213 _ rfl #[Value.slice (some ⟨b,0,none⟩) fs.length fc] _ _ 1 24 Tryz.underlying212 infoFrs (by omega) (by omega) rfl rfl rfl ?_)
        | (at_builtin; refine Zam rfl _ _ _ rfl _ _ _ _ rfl rfl hap ?_))
       go_roundw
       case rel=>exact ⟨i+1,_,by go_num,by omega,rfl,HO4.out,HF4.out,fun j hj=>by
        by_cases e:j=i
        ·
         rw [e]; exact HGNE.out
        ·
         exact HNE.out j (by omega),HX4.out⟩
       case measure=>simp [intOf]; omega
   ·
    obtain rfl:k=i:=by omega
    have hall:(R.jall c slot).take k=R.jall c slot:=List.take_of_length_le (by rw [Rck.jall_len,HKT.out]; exact Nat.le_refl _)
    rw [hall] at hfr ⊢
    have hlen:hs.length=k:=by rw [hfr.1,Rck.jall_len,HKT.out]
    obtain ⟨la,lc,rfl,hsl⟩:=hown.slice
    obtain ⟨g,rfl,hcap,hvs⟩:∃ g,la=some ⟨g,0,none⟩/\hs.length<=lc/\VsAt wr g 1 hs:=by
     rcases hsl with ⟨q,_⟩ | ⟨g,q,_,_,q2,q3⟩
     ·
      rw [q] at hlen; simp at hlen; omega
     ·
      exact ⟨g,q,q2,q3⟩
    have hls:=LsAt.of_frs hvs hfr
    have hll:(R.jall c slot).length=hs.length:=hfr.1.symm
    obtain ⟨m0,hm0⟩:∃ m,newest (R.jall c slot)=m:=⟨_,rfl⟩
    have HV:=hid (Rck.jslot_there HK.out (fun i hi=>hne i (by rw [HKT.out] at hi; exact hi)) hm0)
    rw [hm0]
    have HWC:=hid (jwhole_c (R.jall c slot) m0 (some ⟨g,0,none⟩) lc wr hls (by omega) (by omega) (fun fs hfs=>by
     obtain ⟨i,hi,rfl⟩:=Rck.jall_mem.1 hfs
     exact ⟨HLEN.out i,fun f hf=>HOK.out i f hf⟩))
    rw [hll,hlen] at HWC
    rw [hlen]
    have HDR:=hid (hx.at HD2.out)
    have HX:=hid (Ext.trans HX2.out hx)
    have HLT:=hid (Nat.lt_of_lt_of_le HSZ.out hx.size)
    clear hall hfr hsl hown hvs hls hll hm0 hne hx hcap hlen
    go_wp2_with fail
    refine HWC.out.mono ?_
    rintro e w4 ⟨ra,rc,rfl,x4,hbl,hbb⟩
    obtain ⟨o,ho⟩:∃ o,whole m0 (R.jall c slot)=o:=⟨_,rfl⟩
    rw [ho] at hbl HV ⊢
    have HBK:=hid hbl
    have HBB:=hid hbb
    have HD4:Hid ((w4.alloc (.cells ((o.getD Rcd.none_).V ra rc) 101)).heap[w.heap.size+1]?=some (.cells (Rcd.none_.V none 0) 101 (0,0))):=hid (Ext.at ((Ext.refl w4).alloc _) (x4.at HDR.out))
    have HX4:=hid ((Ext.trans HX.out x4).alloc (.cells ((o.getD Rcd.none_).V ra rc) 101))
    have hbs:(w4.alloc (.cells (Rcd.none_.V none 0) 101)).heap[w4.heap.size]?=some (.cells (Rcd.none_.V none 0) 101 (0,0)):=Zaf
    have HX5:=hid x4
    have HBN:Hid ((w4.alloc (.cells ((o.getD Rcd.none_).V ra rc) 101)).heap[w4.heap.size]?=some (.cells ((o.getD Rcd.none_).V ra rc) 101 (0,0))):=hid Zaf
    clear ho hbl hbb x4
    go_wp2_with (first
     | (guard_target=wpList _ _ _ (⟨none,Op.store _ _ _,_,_,_,none⟩::_) _ _; have hb0':=hbs; clear hbs; refine Zaa rfl 101 _ _ rfl w4.heap.size rfl ((o.getD Rcd.none_).V ra rc) _ rfl 101 (Za0 _ _ _) hb0' rfl (V_one _ _ _) ?_; rw [Zag])
     | (guard_target=wpList _ _ _ (⟨none,Op.store _ _ _,_,_,_,none⟩::_) _ _; refine Zaa rfl 101 _ _ rfl (w.heap.size+1) rfl ((o.getD Rcd.none_).V ra rc) _ rfl 101 (Za0 _ _ _) HD4.out rfl (V_one _ _ _) ?_)
     | (guard_target=wpList _ _ _ (⟨some _,Op.load _ _,_,_,_,none⟩::_) _ _; refine Zab rfl 101 _ rfl ⟨w4.heap.size,0,none⟩ rfl ((o.getD Rcd.none_).V ra rc) (Za0 _ _ _) (Zai HBN.out) ?_))
    refine bodyPost_ret (Za2 Tryz.results59 rfl (Za0 _ _ _) (setRow_heap _ _ _ _ _ _ HD4.out)) rfl ?_
    refine ⟨ra,rc,by rw [HV.out]; rfl,Ext.then HX4.out (Zad _ _ _) (fun i hi=>by omega),?_,fun p hp=>by
     have:=HBB.out p hp
     have:=HX.out.size
     have:=HLT.out
     omega⟩
    rw [HV.out]
    intro i bb hb
    obtain ⟨g',hg',hcell⟩:=HBK.out i bb hb
    refine ⟨g',hg',fun j hj=>?_⟩
    have h1:(w4.alloc (.cells ((o.getD Rcd.none_).V ra rc) 101)).cell? ⟨g',i*108+j,none⟩=some (.int .u8 (nth bb j)):=Ext.cell ((Ext.refl w4).alloc _) (hcell j hj)
    refine (Zad _ _ _).cell h1 (fun e=>?_)
    have q1:wr.heap.size<=g':=HBB.out _ hg'
    have q2:=HLT.out
    have q3:g'=w.heap.size+1:=e
    omega
end Go.Proofs.YtgjnnbomnoafcaaGreatDoor
