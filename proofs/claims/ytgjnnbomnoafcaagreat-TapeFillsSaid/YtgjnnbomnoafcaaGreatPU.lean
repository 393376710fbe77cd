/- Texts of one proof, joined: SupB, SupD, SupE, SupF. -/
import Derived.Test.YtgjnnbomnoafcaaGreatPH
import Derived.Test.YtgjnnbomnoafcaaGreatPC
import Derived.Test.YtgjnnbomnoafcaaGreatPI
set_option linter.unusedVariables false
set_option linter.unusedSimpArgs false
namespace Go.Proofs.YtgjnnbomnoafcaaGreat
set_option linter.unusedVariables false
open Go Go.RowKit
theorem part_step (l:List Nat) (n j:Nat) (h:j < n) (hl:j < l.length):(l.take j++List.replicate (n - j) 0).set j (nth l j)=l.take (j+1)++List.replicate (n - (j+1)) 0:=by
 have e:n - j=(n - (j+1))+1:=by omega
 have ht:(l.take j).length=j:=by simp; omega
 rw [e,List.replicate_succ,List.set_append_right _ _ (by omega),ht,Nat.sub_self,List.set_cons_zero]
 have e2:l.take (j+1)=l.take j++[nth l j]:=by
  rw [List.take_add_one,List.getElem?_eq_getElem hl]
  unfold nth
  simp [List.getD_eq_getElem?_getD,hl]
 rw [e2,List.append_assoc]; rfl
theorem nth_right (a b:List Nat) (n j:Nat) (h:a.length=n):nth (a++b) (n+j)=nth b j:=by
 unfold nth
 rw [List.getD_eq_getElem?_getD,List.getD_eq_getElem?_getD,List.getElem?_append_right (by omega),show n+j - a.length=j by omega]
theorem Frm.A_put (f:Frm) (j x:Nat):(Frm.A f).setIfInBounds (4+j) (.int .u8 x)=Frm.A { f with data:=f.data.set j x }:=by
 rw [Frm.A_def,Frm.A_def]
 unfold Frm.cl
 rw [List.setIfInBounds_toArray,List.set_append_right _ _ (by simp)]
 simp [bv,List.map_set]
def FBlk (w:World) (g:Nat) (f:Frm):Prop:=w.heap[g]?=some (.cells (Frm.A f) 113 (0,0))
theorem FBlk.set {w:World} {g:Nat} {f:Frm} (h:FBlk w g f) (j x:Nat):FBlk (w.setCell ⟨g,4+j,none⟩ (.int .u8 x)) g { f with data:=f.data.set j x }:=by
 have:=Zay h (i:=4+j) (.int .u8 (x:Int))
 rw [Frm.A_put] at this
 exact this
namespace Cfg
def full (c:Cfg):List Nat:=c.bytes++List.replicate 100 0
theorem full_len (c:Cfg):c.full.length=108:=by unfold full; simp [bytes_len]
def sf (c:Cfg) (i:Int) (j:Nat):Frm:=⟨1,i,0,1,c.full.take j++List.replicate (108 - j) 0⟩
theorem sf_ok (c:Cfg) (i:Int) (j:Nat) (h:c.Good) (hj:j<=108):(c.sf i j).Ok:=by
 have hb:=(block_ok c i h).byte
 refine ⟨by simp [sf,full_len]; omega,fun x hx=>?_⟩
 rcases List.mem_append.1 hx with hx | hx
 ·
  exact hb x (List.mem_of_mem_take hx)
 ·
  rw [(List.mem_replicate.1 hx).2]; omega
theorem sf_end (c:Cfg) (i:Int):c.sf i 8=c.block i:=by
 unfold sf block full
 rw [List.take_append_of_le_length (by rw [bytes_len]; omega),List.take_of_length_le (by rw [bytes_len]; omega)]
theorem sf_step (c:Cfg) (i:Int) (j:Nat) (hj:j < 8):{ c.sf i j with data:=(c.sf i j).data.set j (nth c.full j) }=c.sf i (j+1):=by
 have:=part_step c.full 108 j (by omega) (by rw [full_len]; omega)
 unfold sf
 rw [this]
theorem full_id (c:Cfg) (j:Nat) (hj:j < 4):nth c.full j=c.id.toNat / 2 ^ (8*j) % 256:=by
 unfold full bytes
 rw [List.append_assoc,<- low_nth 4 c.id.toNat j hj]
 unfold nth
 simp [List.getD_eq_getElem?_getD,List.getElem?_append_left,Frm.low_len,hj]
theorem full_id_int (c:Cfg) (h:c.Good) (j:Nat) (hj:j < 4):c.id / 2 ^ (8*j) % 256=((nth c.full j:Nat):Int):=by
 rw [full_id c j hj]
 obtain ⟨m,hm⟩:=Int.eq_ofNat_of_zero_le (show 0<=c.id by have:=h.id0; omega)
 rw [hm,Int.toNat_natCast,Int.natCast_emod,Int.natCast_ediv,Int.natCast_pow]; rfl
theorem full_more (c:Cfg) (j:Nat) (hj:j < 4):nth c.full (4+j)=nth [c.k.toNat,c.n.toNat,c.stripes.toNat,c.slots.toNat] j:=by
 unfold full bytes
 rw [List.append_assoc,nth_right _ _ 4 j (Frm.low_len _ _)]
 have h:j=0\/j=1\/j=2\/j=3:=by omega
 rcases h with rfl | rfl | rfl | rfl<;>rfl
def nums (c:Cfg):Array Value:=#[.int .i64 c.k,.int .i64 c.n,.int .i64 c.stripes,.int .i64 c.slots]
theorem nums_at (c:Cfg) (h:c.Good) (j:Nat) (hj:j < 4):∃ v:Int,c.nums[j]?=some (.int .i64 v)/\v % 256=((nth c.full (4+j):Nat):Int):=by
 have e:=full_more c j hj
 obtain ⟨h1,h2,h3,h4,h5,h6,h7,h8,h9⟩:=h
 have h:j=0\/j=1\/j=2\/j=3:=by omega
 rcases h with rfl | rfl | rfl | rfl
 ·
  exact ⟨c.k,rfl,by rw [e]; show c.k % 256=((c.k.toNat:Nat):Int); omega⟩
 ·
  exact ⟨c.n,rfl,by rw [e]; show c.n % 256=((c.n.toNat:Nat):Int); omega⟩
 ·
  exact ⟨c.stripes,rfl,by rw [e]; show c.stripes % 256=((c.stripes.toNat:Nat):Int); omega⟩
 ·
  exact ⟨c.slots,rfl,by rw [e]; show c.slots % 256=((c.slots.toNat:Nat):Int); omega⟩
end Cfg
theorem built_three (k s g:Int):Tryz.prog.built 113 [(0,.int .i64 k),(1,.int .i64 s),(3,.int .i64 g)]=some (Frm.A ⟨k,s,0,g,List.replicate 108 0⟩):=by kernel_rfl
def SBlockPost (w:World) (c:Cfg) (i:Int) (e:Ending) (w':World):Prop:=e=.returned (.agg (Frm.A (c.block i)))/\Ext w w'
structure SBlk (w:World) (c:Cfg) (i:Int) (j:Nat) (wr:World):Prop where
 ext:Ext w wr
 cfg:wr.heap[w.heap.size]?=some (.cells (Cfg.A c) 26 (0,0))
 res:FBlk wr (w.heap.size+1) Frm.zero
 own:FBlk wr (w.heap.size+1+1) (c.sf i j)
theorem SBlk.more {w wr wr':World} {c:Cfg} {i:Int} {j:Nat} (h:SBlk w c i j wr) (e:Ext wr wr'):SBlk w c i j wr':=⟨Ext.trans h.ext e,e.at h.cfg,e.at h.res,e.at h.own⟩
theorem SBlk.set {w wr:World} {c:Cfg} {i:Int} {j:Nat} (h:SBlk w c i j wr) (hj:j < 8) (x:Nat) (hx:x=nth c.full j):SBlk w c i (j+1) (wr.setCell ⟨w.heap.size+1+1,4+j,none⟩ (.int .u8 x)):=by
 refine ⟨Only.setCell (F:=fun _=>False) h.ext (.inl (by show _<=w.heap.size+1+1; omega)) _,(Zas _ (by omega)).trans h.cfg,(Zas _ (by omega)).trans h.res,?_⟩
 have:=h.own.set j x
 rw [hx,Cfg.sf_step c i j hj] at this
 rw [hx]; exact this
set_option maxRecDepth 100000 in
set_option maxHeartbeats 2000000 in
theorem sblock_c (c:Cfg) (hg:c.Good) (i:Int) (w:World):Calls Tryz.prog 65 #[.agg (Cfg.A c),.int .i64 i] w (SBlockPost w c i):=by
 have hz:=Za0
 have HZ:=hid (Frm.A_size _ Zbc)
 have HCZ:=hid (Cfg.A_size c)
 have HB:Hid (Tryz.prog.built 113 [(0,.int .i64 1),(1,.int .i64 i),(3,.int .i64 1)]=some (Frm.A (c.sf i 0))):=hid (built_three 1 i 1)
 have HS0:=hid (Frm.A_size _ (Cfg.sf_ok c i 0 hg (by omega)))
 have HG:=hid hg
 clear hg
 have hr:(((w.alloc (.cells (Cfg.A c) 26)).alloc (.cells (Frm.A Frm.zero) 113)).alloc (.cells (Frm.A Frm.zero) 113)).heap[w.heap.size+1+1]?=some (.cells (Frm.A Frm.zero) 113 (0,0)):=by
  have e:((w.alloc (.cells (Cfg.A c) 26)).alloc (.cells (Frm.A Frm.zero) 113)).heap.size=w.heap.size+1+1:=by simp
  rw [<- e]; exact heap_alloc_new _ _
 go_enter Tryz.func65,Tryz.ntmps65
 go_wp2_with (first
  | (refine Zao rfl 113 _ rfl (Frm.A (c.sf i 0)) ?_ ?_; (simp only [List.map_toArray,List.map_cons,List.map_nil,Act.eval]; simp only [Array.getD_eq_getD_getElem?,List.getElem?_toArray,List.getElem?_cons_succ,List.getElem?_cons_zero,Option.getD_some]; exact HB.out))
  | (refine Zaa rfl 113 _ _ rfl (w.heap.size+1+1) rfl (Frm.A (c.sf i 0)) _ rfl 113 ?_ hr ?_ ?_ ?_; (rw [HS0.out]; exact aggFrame); (rw [HS0.out,HZ.out]); exact Frm.A_one _))
 have HS:Hid (SBlk w c i 0 ((((w.alloc (.cells (Cfg.A c) 26)).alloc (.cells (Frm.A Frm.zero) 113)).alloc (.cells (Frm.A Frm.zero) 113)).setRow (w.heap.size+1+1) (Frm.A (c.sf i 0)))):=hid (by
  have e2:((w.alloc (.cells (Cfg.A c) 26)).alloc (.cells (Frm.A Frm.zero) 113)).heap.size=w.heap.size+1+1:=by simp
  have e1:(w.alloc (.cells (Cfg.A c) 26)).heap.size=w.heap.size+1:=by simp
  rw [<- e2,Zaj]
  refine ⟨(((Ext.refl w).alloc _).alloc _).alloc _,?_,?_,by rw [<- e2]; exact heap_alloc_new _ _⟩
  ·
   rw [heap_alloc_old _ _ (by simp; omega),heap_alloc_old _ _ (by simp)]; exact heap_alloc_new _ _
  ·
   unfold FBlk; rw [heap_alloc_old _ _ (by simp),<- e1]; exact heap_alloc_new _ _)
 clear hr
 go_loopw [11] (fun v wr=>∃ j:Nat,v=.int .i64 j/\j<=4/\SBlk w c i j wr) (fun v _=>4 - (intOf v).toNat)
 case atStart=>exact ⟨0,rfl,by omega,HS.out⟩
 case round =>
  clear HS
  obtain ⟨j,rfl,hj,hst⟩:=hrel
  by_cases hlt:j < 4
  ·
   have i0:(0:Int)<=(j:Int):=by omega
   have i1:(j:Int) < 4:=by omega
   have c0:wr.cell? ⟨w.heap.size,0,none⟩=some (.int .i64 c.id):=(Zaf hst.cfg).trans (Cfg.A0 c)
   have c1:wr.cell? ⟨w.heap.size+1+1,4+j,none⟩=some (.int .u8 (nth (c.sf i j).data j)):=(Zaf hst.own).trans (Frm.A4 _ _ (by rw [(Cfg.sf_ok c i j HG.out (by omega)).len]; omega))
   have f1:wr.frozen? ⟨w.heap.size+1+1,4+j,none⟩=false:=Za7 hst.own
   have HST:=hid hst
   clear hst
   --M1
   go_wp2
   go_roundw
   case rel=>exact ⟨j+1,by go_num,by omega,by rw [Cfg.full_id_int c HG.out j hlt]; exact HST.out.set (by omega) _ rfl⟩
   case measure=>simp [intOf]; omega
  ·
   obtain rfl:j=4:=by omega
   rw [show ((4:Nat):Int)=4 from rfl]
   have c1:wr.cell? ⟨w.heap.size,1,none⟩=some (.int .i64 c.k):=(Zaf hst.cfg).trans (Cfg.A1 c)
   have c2:wr.cell? ⟨w.heap.size,2,none⟩=some (.int .i64 c.n):=(Zaf hst.cfg).trans (Cfg.A2 c)
   have c3:wr.cell? ⟨w.heap.size,3,none⟩=some (.int .i64 c.stripes):=(Zaf hst.cfg).trans (Cfg.A3 c)
   have c4:wr.cell? ⟨w.heap.size,4,none⟩=some (.int .i64 c.slots):=(Zaf hst.cfg).trans (Cfg.A4 c)
   go_wp2_with fail
   have HS:Hid (SBlk w c i (4+0) (wr.alloc (.cells c.nums 3))/\(wr.alloc (.cells c.nums 3)).heap[wr.heap.size]?=some (.cells c.nums 3 (0,0))/\w.heap.size+1+1 < wr.heap.size):=hid ⟨hst.more ((Ext.refl wr).alloc _),heap_alloc_new _ _,lt_of_block hst.own⟩
   rw [show (#[Value.int .i64 c.k,.int .i64 c.n,.int .i64 c.stripes,.int .i64 c.slots]:Array Value)=c.nums from rfl]
   clear c1 c2 c3 c4 hst
   generalize wr.alloc (.cells c.nums 3)=v0 at *
   generalize wr.heap.size=g at *
   go_loopw [35] (fun v wr=>∃ j:Nat,v=.int .i64 j/\j<=4/\SBlk w c i (4+j) wr/\wr.heap[g]?=some (.cells c.nums 3 (0,0))/\w.heap.size+1+1 < g) (fun v _=>4 - (intOf v).toNat)
   case atStart=>exact ⟨0,rfl,by omega,HS.out.1,HS.out.2.1,HS.out.2.2⟩
   case round =>
    clear HS
    obtain ⟨j,rfl,hj,hst,hn,hgt⟩:=hrel
    by_cases hlt:j < 4
    ·
     have i0:(0:Int)<=(j:Int):=by omega
     have i1:(j:Int) < 4:=by omega
     obtain ⟨v,hv,hv2⟩:=Cfg.nums_at c HG.out j hlt
     have c0:wr.cell? ⟨g,j,none⟩=some (.int .i64 v):=(Zaf hn).trans hv
     have c1:wr.cell? ⟨w.heap.size+1+1,4+(4+j),none⟩=some (.int .u8 (nth (c.sf i (4+j)).data (4+j))):=(Zaf hst.own).trans (Frm.A4 _ _ (by rw [(Cfg.sf_ok c i (4+j) HG.out (by omega)).len]; omega))
     have f1:wr.frozen? ⟨w.heap.size+1+1,4+(4+j),none⟩=false:=Za7 hst.own
     have HST:=hid hst; have HN:=hid hn; have HGT:=hid hgt
     clear hst hn hgt hv
     go_wp2
     go_roundw
     case rel=>exact ⟨j+1,by go_num,by omega,HST.out.set (by omega) _ rfl,(Zas _ (by have:=HGT.out; omega)).trans HN.out,HGT.out⟩
     case measure=>simp [intOf]; omega
    ·
     obtain rfl:j=4:=by omega
     rw [show ((4:Nat):Int)=4 from rfl]
     have HS8:=hid (Frm.A_size _ (Cfg.sf_ok c i 8 HG.out (by omega)))
     have hb':wr.heap[w.heap.size+1+1]?=some (.cells (Frm.A (c.sf i 8)) 113 (0,0)):=hst.own
     have hr':wr.heap[w.heap.size+1]?=some (.cells (Frm.A Frm.zero) 113 (0,0)):=hst.res
     have HX:=hid hst.ext
     have HE:=hid (Cfg.sf_end c i)
     clear hst hn
     go_wp2_with (first
      | (refine Zac rfl 113 _ rfl ⟨w.heap.size+1+1,0,none⟩ rfl (Frm.A (c.sf i 8)) ?_ ?_ ?_; (rw [HS8.out]; exact aggFrame); exact Zai hb')
      | (refine Zaa rfl 113 _ _ rfl (w.heap.size+1) rfl (Frm.A (c.sf i 8)) _ rfl 113 ?_ hr' ?_ ?_ ?_; (rw [HS8.out]; exact aggFrame); (rw [HS8.out,HZ.out]); exact Frm.A_one _))
     refine bodyPost_ret (results_cell_row Tryz.results65 _ _ (w.heap.size+1) _ (Frm.A (c.sf i 8)) _ _ rfl (setRow_heap _ _ _ _ _ _ hr') Tryz.underlying113 rfl (by rw [HS8.out]; exact aggFrame.2)) rfl ?_
     exact ⟨by rw [HE.out],Ext.then HX.out (Zag _ _ _) (fun i hi=>by omega)⟩
theorem Rck.fits_good {R:Rck} {c:Cfg} (h:R.fits c=true):c.Good:=by
 unfold Rck.fits at h
 simp only [Bool.and_eq_true] at h
 exact (Cfg.right_iff c).1 h.1.1
def SPutPost (S:Nat->Prop) (w:World) (r:Nat) (R:Rck) (c:Cfg) (i:Int) (e:Ending) (w':World):Prop :=
 e=.returned (oErr (R.superPut c i).1)/\RackAt S w' r (R.superPut c i).2/\Keeps S w w'
set_option maxRecDepth 100000 in
set_option maxHeartbeats 1200000 in
theorem sput_c {S:Nat->Prop} {w:World} {r:Nat} {R:Rck} (h:RackAt S w r R) (c:Cfg) (i:Int) :
  Calls Tryz.prog 46 #[.pointer (some ⟨r,0,none⟩),.agg (Cfg.A c),.int .i64 i] w (SPutPost S w r R c i):=by
 obtain ⟨W0,hW0⟩:∃ W,w.alloc (.cells (Cfg.A c) 26)=W:=⟨_,rfl⟩
 have X0:Ext w W0:=hW0▸(Ext.refl w).alloc _
 have hc:W0.heap[w.heap.size]?=some (.cells (Cfg.A c) 26 (0,0)):=hW0▸heap_alloc_new _ _
 have HX0:=hid X0
 have H0:=hid (h.ext X0)
 have HC:=hid hc
 have HAG:=hid (Zat c)
 clear X0 h hc
 rcases hf:R.fits c with _ | _
 ·
  have HP:Hid (R.superPut c i=(some (.fault sSuperPut i (.no 1)),R)):=hid (by unfold Rck.superPut; rw [hf]; rfl)
  have HFI:=hid hf
  clear hf
  go_enter Tryz.func46,Tryz.ntmps46
  go_wp2_with (refine Zac rfl 26 _ rfl ⟨w.heap.size,0,none⟩ rfl (Cfg.A c) HAG.out (Zai HC.out) ?_)
  refine (sfits_c H0.out c).mono ?_
  rintro e w2 ⟨rfl,x2⟩
  rw [HFI.out]
  have X2:=hid (Ext.trans HX0.out x2)
  have H2:=hid (H0.out.ext x2)
  clear x2
  go_wp2_with fail
  refine (Zap sSuperPut i (.no 1) w2).mono ?_
  rintro e w3 ⟨rfl,rfl⟩
  go_wp2
  go_ret
  exact ⟨by rw [HP.out]; rfl,by rw [HP.out]; exact H2.out,Ext.only X2.out⟩
 ·
  have HG:=hid (Rck.fits_good hf)
  have HFI:=hid hf
  have HFO:=hid (Cfg.block_ok c i HG.out)
  have HP:Hid (R.superPut c i=if (R.write i 0 (c.block i).put).1=none then (((R.write i 0 (c.block i).put).2.flush i).1.map (.fault sSuperPut i),((R.write i 0 (c.block i).put).2.flush i).2)
   else ((R.write i 0 (c.block i).put).1.map (.fault sSuperPut i),(R.write i 0 (c.block i).put).2)):=hid (by unfold Rck.superPut; rw [if_pos hf])
  clear hf
  go_enter Tryz.func46,Tryz.ntmps46
  go_wp2_with (refine Zac rfl 26 _ rfl ⟨w.heap.size,0,none⟩ rfl (Cfg.A c) HAG.out (Zai HC.out) ?_)
  refine (sfits_c H0.out c).mono ?_
  rintro e w2 ⟨rfl,x2⟩
  rw [HFI.out]
  have X2:=hid (Ext.trans HX0.out x2)
  have H2:=hid (H0.out.ext x2)
  have HC2:=hid (x2.at HC.out)
  clear x2
  go_wp2_with (refine Zac rfl 26 _ rfl ⟨w.heap.size,0,none⟩ rfl (Cfg.A c) HAG.out (Zai HC2.out) ?_)
  refine (sblock_c c HG.out i w2).mono ?_
  rintro e w3 ⟨rfl,x3⟩
  have X3:=hid (Ext.trans X2.out x3)
  have H3:=hid (H2.out.ext x3)
  clear x3
  go_wp2_with fail
  refine (fput_b (c.block i) w3 HFO.out).mono ?_
  rintro e w4 ⟨a,n,rfl,hb,_,x4⟩
  have X4:=hid (Ext.trans X3.out x4)
  have H4:=hid (H3.out.ext x4)
  have HB:=hid hb
  clear hb x4
  go_wp2_with fail
  refine (at_write H4.out i 0 a n n _ HB.out).mono ?_
  rintro e w5 ⟨rfl,h5,k5⟩
  rcases hw:R.write i 0 (c.block i).put with ⟨o,R1⟩
  rw [hw] at h5 HP
  simp only at h5 ⊢
  have H5:=hid h5
  have K5:Hid (Keeps S w w5):=hid (Only.trans (Ext.only X4.out) k5 fun _ _ x=>x)
  clear h5 k5 hw
  rcases o with _ | er
  ·
   have HP2:Hid (R.superPut c i=((R1.flush i).1.map (.fault sSuperPut i),(R1.flush i).2)):=hid (by rw [HP.out]; rfl)
   clear HP
   simp only [oErr]
   go_wp2_with fail
   refine (at_flush H5.out i).mono ?_
   rintro e w6 ⟨rfl,h6,k6⟩
   rcases hw:R1.flush i with ⟨o,R2⟩
   rw [hw] at h6 HP2
   simp only at h6 ⊢
   have H6:=hid h6
   have K6:Hid (Keeps S w w6):=hid (Only.trans K5.out k6 fun _ _ x=>x)
   clear h6 k6 hw
   rcases o with _ | er
   ·
    simp only [oErr]
    go_wp2_with fail
    refine (Zb7 sSuperPut i w6).mono ?_
    rintro e w7 ⟨rfl,rfl⟩
    go_wp2
    go_ret
    exact ⟨by rw [HP2.out]; rfl,by rw [HP2.out]; exact H6.out,K6.out⟩
   ·
    simp only [oErr]
    go_wp2_with fail
    refine (Zap sSuperPut i er w6).mono ?_
    rintro e w7 ⟨rfl,rfl⟩
    go_wp2
    go_ret
    exact ⟨by rw [HP2.out]; rfl,by rw [HP2.out]; exact H6.out,K6.out⟩
  ·
   have HP2:Hid (R.superPut c i=(some (.fault sSuperPut i er),R1)):=hid (by rw [HP.out]; rfl)
   clear HP
   simp only [oErr]
   obtain ⟨t2,v2,hq⟩:∃ t v,er.val=.iface t v:=by cases er<;>exact ⟨_,_,rfl⟩
   have HW:=hid (Zap sSuperPut i er w5)
   rw [hq] at HW ⊢
   clear hq
   go_wp2_with fail
   refine HW.out.mono ?_
   rintro e w7 ⟨rfl,rfl⟩
   go_wp2
   go_ret
   exact ⟨by rw [HP2.out]; rfl,by rw [HP2.out]; exact H5.out,K5.out⟩
namespace Cfg
def pj (l:List Nat) (j:Nat):Cfg:=⟨Frm.numI (l.take j),(nth l 4:Nat),(nth l 5:Nat),(nth l 6:Nat),(nth l 7:Nat)⟩
theorem pj_end (l:List Nat) (h:∀ x∈l,x < 256):pj l 4=parse l:=by
 unfold pj parse Frm.numI
 have h1:=Frm.num_bd (l.take 4) (fun x hx=>h x (List.mem_of_mem_take hx))
 have h2:(256:Nat) ^ (l.take 4).length<=256 ^ 4:=Nat.pow_le_pow_right (by omega) (by simp; omega)
 have h3:(256:Nat) ^ 4=4294967296:=by decide
 have:wrap64 ((Frm.num (l.take 4):Nat):Int)=((Frm.num (l.take 4):Nat):Int):=by unfold wrap64; omega
 rw [this]
theorem A_id (c:Cfg) (x:Int):(A c).setIfInBounds 0 (.int .i64 x)=A { c with id:=x }:=by
 rw [A_def,A_def]; rfl
end Cfg
def CBlk (w:World) (g:Nat) (c:Cfg):Prop:=w.heap[g]?=some (.cells (Cfg.A c) 26 (0,0))
theorem CBlk.id {w:World} {g:Nat} {c:Cfg} (h:CBlk w g c) (x:Int):CBlk (w.setCell ⟨g,0,none⟩ (.int .i64 x)) g { c with id:=x }:=by
 have:=Zay h (i:=0) (.int .i64 x)
 rw [Cfg.A_id] at this
 exact this
theorem built_cfg4 (k n s t:Int):Tryz.prog.built 26 [(1,.int .i64 k),(2,.int .i64 n),(3,.int .i64 s),(4,.int .i64 t)]=some (Cfg.A ⟨0,k,n,s,t⟩):=by kernel_rfl
structure SGet (w:World) (g:Nat) (f:Frm) (j:Nat) (wr:World):Prop where
 ext:Ext w wr
 res:CBlk wr w.heap.size Cfg.zero
 frm:FBlk wr g f
 own:CBlk wr (g+1) (Cfg.pj f.data j)
 new:w.heap.size < g
theorem SGet.more {w wr wr':World} {g:Nat} {f:Frm} {j:Nat} (h:SGet w g f j wr) (e:Ext wr wr'):SGet w g f j wr':=⟨Ext.trans h.ext e,e.at h.res,e.at h.frm,e.at h.own,h.new⟩
theorem SGet.step {w wr:World} {g:Nat} {f:Frm} {j:Nat} (h:SGet w g f j wr) (x:Int) (hx:x=Frm.numI (f.data.take (j+1))):SGet w g f (j+1) (wr.setCell ⟨g+1,0,none⟩ (.int .i64 x)):=by
 have hn:=h.new
 refine ⟨Only.setCell (F:=fun _=>False) h.ext (.inl (by show _<=g+1; omega)) _,(Zas _ (by omega)).trans h.res,(Zas _ (by omega)).trans h.frm,?_,hn⟩
 have:=h.own.id x
 rw [hx] at this ⊢
 exact this
def toldO (o:Option Cfg):Value:=.tuple #[.agg (Cfg.A (o.getD Cfg.zero)),.bool o.isSome]
def SPGetPost (w:World) (R:Rck) (i:Int) (e:Ending) (w':World):Prop:=e=.returned (toldO (R.superGet i))/\Ext w w'
set_option maxRecDepth 100000 in
set_option maxHeartbeats 2000000 in
theorem spget_c {S:Nat->Prop} {w:World} {r:Nat} {R:Rck} (h:RackAt S w r R) (i:Int) :
  Calls Tryz.prog 66 #[.pointer (some ⟨r,0,none⟩),.int .i64 i] w (SPGetPost w R i):=by
 have hz:=Za0
 have hzc:=zero_cfg
 have HZ:=hid (Frm.A_size _ Zbc)
 have HCS:=hid Cfg.A_size
 obtain ⟨W0,hW0⟩:∃ W,w.alloc (.cells (Cfg.A Cfg.zero) 26)=W:=⟨_,rfl⟩
 have X0:Ext w W0:=hW0▸(Ext.refl w).alloc _
 have HC0:=hid (show W0.heap[w.heap.size]?=some (.cells (Cfg.A Cfg.zero) 26 (0,0)) from hW0▸heap_alloc_new _ _)
 have HX0:=hid X0
 have H0:=hid (h.ext X0)
 have hbz:=built_cfg0
 rcases hg:R.get i 0 1 i 0 with _ | f
 ·
  have HS:Hid (R.superGet i=none):=hid (by unfold Rck.superGet; rw [hg]; rfl)
  have HG:=hid hg
  clear X0 h hg
  go_enter Tryz.func66,Tryz.ntmps66
  go_wp2_with fail
  refine (at_get H0.out i 0 1 i 0).mono ?_
  rintro e w1 ⟨rfl,x1⟩
  rw [HG.out]
  simp only [gotO,Option.getD_none,Option.isSome_none]
  have HC1:=hid (Ext.at ((Ext.refl w1).alloc (.cells (Frm.A Frm.zero) 113)) (x1.at HC0.out))
  have X1:=hid ((Ext.trans HX0.out x1).alloc (.cells (Frm.A Frm.zero) 113))
  have hbs:(w1.alloc (.cells (Frm.A Frm.zero) 113)).heap[w1.heap.size]?=some (.cells (Frm.A Frm.zero) 113 (0,0)):=Zad
  clear x1
  go_wp2_with (first
   | (refine Zaa rfl 113 _ _ rfl w1.heap.size rfl (Frm.A Frm.zero) _ rfl 113 ?_ hbs ?_ ?_ ?_; (rw [HZ.out]; exact aggFrame); (rfl); exact Frm.A_one _)
   | (rw [Zaj]; refine Zaa rfl 26 _ _ rfl w.heap.size rfl (Cfg.A Cfg.zero) _ rfl 26 ?_ HC1.out ?_ ?_ ?_; (rw [HCS.out]; exact aggCfg); (rfl); exact Cfg.A_one _))
  refine bodyPost_ret (Zan Tryz.results66 rfl (by rw [HCS.out]; exact aggCfg) (setRow_heap _ _ _ _ _ _ HC1.out)) rfl ?_
  exact ⟨by rw [HS.out]; rfl,Ext.then X1.out (Zag _ _ _) (fun i hi=>by omega)⟩
 ·
  have hok:=h.got_ok hg
  have HS:Hid (R.superGet i=Cfg.told f i):=hid (by unfold Rck.superGet; rw [hg]; rfl)
  have HG:=hid hg
  have HOK:=hid hok
  have HFS:=hid (Frm.A_size f hok)
  have hlen:=hok.len
  have b4:=Frm.nth_bd hok.byte 4
  have b5:=Frm.nth_bd hok.byte 5
  have b6:=Frm.nth_bd hok.byte 6
  have b7:=Frm.nth_bd hok.byte 7
  have HB4:Hid (Tryz.prog.built 26 [(1,.int .i64 (nth f.data 4:Nat)),(2,.int .i64 (nth f.data 5:Nat)),(3,.int .i64 (nth f.data 6:Nat)),(4,.int .i64 (nth f.data 7:Nat))]=some (Cfg.A (Cfg.pj f.data 0))):=hid (by
   rw [built_cfg4]; unfold Cfg.pj; rw [List.take_zero,numI_nil])
  have hb4:=HB4.out
  clear X0 h hg hok
  go_enter Tryz.func66,Tryz.ntmps66
  go_wp2_with fail
  refine (at_get H0.out i 0 1 i 0).mono ?_
  rintro e w1 ⟨rfl,x1⟩
  rw [HG.out]
  simp only [gotO,Option.getD_some,Option.isSome_some]
  have HC1:Hid (((w1.alloc (.cells (Frm.A f) 113)).alloc (.cells (Cfg.A Cfg.zero) 26)).heap[w.heap.size]?=some (.cells (Cfg.A Cfg.zero) 26 (0,0))):=hid (Ext.at (((Ext.refl w1).alloc _).alloc _) (x1.at HC0.out))
  have X1:=hid (Ext.trans HX0.out x1)
  have hbs:(w1.alloc (.cells (Frm.A Frm.zero) 113)).heap[w1.heap.size]?=some (.cells (Frm.A Frm.zero) 113 (0,0)):=Zad
  have hcs:((w1.alloc (.cells (Frm.A f) 113)).alloc (.cells (Cfg.A Cfg.zero) 26)).heap[w1.heap.size+1]?=some (.cells (Cfg.A Cfg.zero) 26 (0,0)):=by
   have e:(w1.alloc (.cells (Frm.A f) 113)).heap.size=w1.heap.size+1:=by simp
   rw [<- e]; exact heap_alloc_new _ _
  have c4:((w1.alloc (.cells (Frm.A Frm.zero) 113)).setRow w1.heap.size (Frm.A f)).cell? ⟨w1.heap.size,8,none⟩=some (.int .u8 (nth f.data 4:Nat)):=by rw [Zaj]; exact (Zaf Zad).trans (Frm.A4 f 4 (by omega))
  have c5:((w1.alloc (.cells (Frm.A Frm.zero) 113)).setRow w1.heap.size (Frm.A f)).cell? ⟨w1.heap.size,9,none⟩=some (.int .u8 (nth f.data 5:Nat)):=by rw [Zaj]; exact (Zaf Zad).trans (Frm.A4 f 5 (by omega))
  have c6:((w1.alloc (.cells (Frm.A Frm.zero) 113)).setRow w1.heap.size (Frm.A f)).cell? ⟨w1.heap.size,10,none⟩=some (.int .u8 (nth f.data 6:Nat)):=by rw [Zaj]; exact (Zaf Zad).trans (Frm.A4 f 6 (by omega))
  have c7:((w1.alloc (.cells (Frm.A Frm.zero) 113)).setRow w1.heap.size (Frm.A f)).cell? ⟨w1.heap.size,11,none⟩=some (.int .u8 (nth f.data 7:Nat)):=by rw [Zaj]; exact (Zaf Zad).trans (Frm.A4 f 7 (by omega))
  have HSZ:Hid (w.heap.size+1<=w1.heap.size):=hid (by have:=x1.size; have:=lt_of_block HC0.out; omega)
  clear x1
  go_wp2_with (first
   | (refine Zaa rfl 113 _ _ rfl w1.heap.size rfl (Frm.A f) _ rfl 113 ?_ hbs ?_ ?_ ?_; (rw [HFS.out]; exact aggFrame); (rw [HFS.out,HZ.out]); exact Frm.A_one _)
   | (refine Zao rfl 26 _ rfl (Cfg.A (Cfg.pj f.data 0)) ?_ ?_; (simp only [List.map_toArray,List.map_cons,List.map_nil,Act.eval]; simp only [Array.getD_eq_getD_getElem?,List.getElem?_toArray,List.getElem?_cons_succ,List.getElem?_cons_zero,Option.getD_some]; exact HB4.out))
   | (rw [Zaj]; refine Zaa rfl 26 _ _ rfl (w1.heap.size+1) rfl (Cfg.A (Cfg.pj f.data 0)) _ rfl 26 ?_ hcs ?_ ?_ ?_; (rw [HCS.out]; exact aggCfg); (rw [HCS.out,HCS.out]); exact Cfg.A_one _))
  have HST:Hid (SGet w w1.heap.size f 0 (((w1.alloc (.cells (Frm.A f) 113)).alloc (.cells (Cfg.A Cfg.zero) 26)).setRow (w1.heap.size+1) (Cfg.A (Cfg.pj f.data 0)))):=hid (by
   have e:(w1.alloc (.cells (Frm.A f) 113)).heap.size=w1.heap.size+1:=by simp
   have q:=lt_of_block HC1.out
   have q1:=X1.out.size
   have q2:=lt_of_block HC0.out
   have hlt:w.heap.size < w1.heap.size:=by have:=HSZ.out; omega
   rw [<- e,Zaj]
   refine ⟨(Ext.trans X1.out ((Ext.refl w1).alloc _)).alloc _,?_,?_,by rw [<- e]; exact heap_alloc_new _ _,hlt⟩
   ·
    have:=HC1.out
    unfold CBlk
    rw [heap_alloc_old _ _ (by simp; omega)] at this ⊢
    exact this
   ·
    unfold FBlk; rw [heap_alloc_old _ _ (by simp)]; exact heap_alloc_new _ _)
  clear c4 c5 c6 c7 hbs hcs HC1 hb4
  generalize ((w1.alloc (.cells (Frm.A f) 113)).alloc (.cells (Cfg.A Cfg.zero) 26)).setRow (w1.heap.size+1) (Cfg.A (Cfg.pj f.data 0))=v0 at *
  generalize w1.heap.size=g at *
  go_loopw [37] (fun v wr=>∃ j:Nat,v=.int .i64 j/\j<=4/\SGet w g f j wr) (fun v _=>4 - (intOf v).toNat)
  case atStart=>exact ⟨0,rfl,by omega,HST.out⟩
  case round =>
   clear HST
   obtain ⟨j,rfl,hj,hst⟩:=hrel
   by_cases hlt:j < 4
   ·
    have i0:(0:Int)<=(j:Int):=by omega
    have i1:(j:Int) < 4:=by omega
    have i2:(j:Int) < 108:=by omega
    have HST:=hid hst
    have xd:Ext wr wr.drew:=(Ext.refl wr).drew
    have bj:=Frm.nth_bd HOK.out.byte j
    have c0:∀ x:SW Ext wr.drew,x.w.cell? ⟨g+1,0,none⟩=some (.int .i64 (Frm.numI (f.data.take j))):=fun x=>(Zaf ((Ext.trans xd x.ext).at HST.out.own)).trans (Cfg.A0 _)
    have c1:∀ x:SW Ext wr.drew,x.w.cell? ⟨g,4+j,none⟩=some (.int .u8 (nth f.data j:Nat)):=fun x=>(Zaf ((Ext.trans xd x.ext).at HST.out.frm)).trans (Frm.A4 f j (by omega))
    have HNT:=hid (numI_take f.data j (by omega) (by omega) HOK.out.byte)
    clear hst b4 b5 b6 b7
    go_wp2_with fail
    refine Zaq (S:=Ext) 12 (.fin [0,1,2,3,4,5,6,7,8,9,10,11]) (by kernel_rfl) (by kernel_rfl) (fun _ _ d _ _ h=>by cases d<;>exact h) ?_
    rw [wpS]
    simp only [opsAt,opA,opB,opC,opD,opE,opF,opG]
    iterate 12 ((refine Zab (fun K hK=>?_); go_simp; refine hK _ ?_; clear hK K))
    refine Zae ?_
    intro W hW
    have HS2:=hid (HST.out.more (Ext.trans xd hW))
    have f1:W.frozen? ⟨g+1,0,none⟩=false:=Za7 HS2.out.own
    have c2:W.cell? ⟨g+1,0,none⟩=some (.int .i64 (Frm.numI (f.data.take j))):=(Zaf HS2.out.own).trans (Cfg.A0 _)
    clear c0 c1 hW
    go_wp2
    go_roundw
    case rel=>exact ⟨j+1,by go_num,by omega,HS2.out.step _ (by rw [Nat.min_eq_left (by omega)]; exact HNT.out)⟩
    case measure=>simp [intOf]; omega
   ·
    obtain rfl:j=4:=by omega
    rw [show ((4:Nat):Int)=4 from rfl]
    have hown:=hst.own
    rw [Cfg.pj_end _ HOK.out.byte] at hown
    have hfrm:=hst.frm
    have xd:Ext wr wr.drew:=(Ext.refl wr).drew
    have HX:=hid hst.ext
    have hT:Cfg.told f i=if (Cfg.parse f.data).right=true/\f=(Cfg.parse f.data).block i then some (Cfg.parse f.data) else none:=rfl
    generalize Cfg.parse f.data=c at *
    have HT:=hid (HS.out.trans hT)
    have HRES:=hid hst.res
    have HOWN:=hid hown
    have lc:Hid (∀ x:SW Ext wr.drew,∀ j v,(Cfg.A c).toList[j]?=some v->x.w.cell? ((⟨g+1,0,none⟩:Addr).add j)=some v):=hid fun x=>Zai ((Ext.trans xd x.ext).at hown)
    have lf:Hid (∀ x:SW Ext wr.drew,∀ j v,(Frm.A f).toList[j]?=some v->x.w.cell? ((⟨g,0,none⟩:Addr).add j)=some v):=hid fun x=>Zai ((Ext.trans xd x.ext).at hfrm)
    have rc:Hid (∀ x:SW Ext wr.drew,Calls Tryz.prog 37 #[.agg (Cfg.A c)] x.w fun e w''=>e=.returned (.bool c.right)/\Ext x.w w''):=hid fun x=>sright_c c x.w
    have HAG:=hid (Zat c)
    clear hown hfrm hT hst HS b4 b5 b6 b7 HB4
    go_wp2_with fail
    refine Zal (S:=Ext) (.fin [0,1,2,3,4,5,6,7,8,9]) (by kernel_rfl) (by kernel_rfl) (fun _ _ d _ _ h=>by cases d<;>exact h) ?_
    rw [wpS]
    simp only [opsAt,opA,opB,opC,opD,opE,opF,opG]
    refine Zam 26 _ rfl ⟨g+1,0,none⟩ rfl (Cfg.A c) rfl HAG.out lc.out ?_
    rcases hr:c.right with _ | _
    ·
     have HN:Hid (R.superGet i=none):=hid (by rw [HT.out,if_neg (fun q=>by rw [hr] at q; exact absurd q.1 (by simp))])
     rw [hr] at rc
     clear hr
     (refine Zab (fun K hK=>?_); go_simp; (apply Exists.intro; refine ⟨fun x=>?_,hK _ ?_⟩; (exact rc.out x); clear hK K))
     iterate 2 ((refine Zab (fun K hK=>?_); go_simp; refine hK _ ?_; clear hK K))
     iterate 5 (refine wpSQ_skip rfl ?_)
     (refine Zab (fun K hK=>?_); go_simp; refine hK _ ?_; clear hK K)
     refine Zae ?_
     intro W hW
     have hres:W.heap[w.heap.size]?=some (.cells (Cfg.A Cfg.zero) 26 (0,0)):=(Ext.trans xd hW).at HRES.out
     have HXW:=hid (Ext.trans HX.out (Ext.trans xd hW))
     clear hW lc lf rc
     go_wp2_with (refine Zaa rfl 26 _ _ rfl w.heap.size rfl (Cfg.A Cfg.zero) _ rfl 26 ?_ hres ?_ ?_ ?_; (rw [HCS.out]; exact aggCfg); (rfl); exact Cfg.A_one _)
     refine bodyPost_ret (Zan Tryz.results66 rfl (by rw [HCS.out]; exact aggCfg) (setRow_heap _ _ _ _ _ _ hres)) rfl ?_
     exact ⟨by rw [HN.out]; rfl,Ext.then HXW.out (Zag _ _ _) (fun i hi=>by omega)⟩
    ·
     have hgood:=(Cfg.right_iff c).1 hr
     rw [hr] at rc
     have bc:Hid (∀ x:SW Ext wr.drew,Calls Tryz.prog 65 #[.agg (Cfg.A c),.int .i64 i] x.w fun e w''=>e=.returned (.agg (Frm.A (c.block i)))/\Ext x.w w''):=hid fun x=>sblock_c c hgood i x.w
     have HBO:=hid (Cfg.block_ok c i hgood)
     have HNE:=hid (frame_neq f (c.block i) HOK.out HBO.out)
     by_cases he:f=c.block i
     ·
      have HN:Hid (R.superGet i=some c):=hid (by rw [HT.out,if_pos ⟨hr,he⟩])
      rw [show (!f.eqB (c.block i))=false from by rw [(Frm.eqB_iff _ _).2 he]; rfl] at HNE
      clear hr hgood he
      (refine Zab (fun K hK=>?_); go_simp; (apply Exists.intro; refine ⟨fun x=>?_,hK _ ?_⟩; (exact rc.out x); clear hK K))
      iterate 2 ((refine Zab (fun K hK=>?_); go_simp; refine hK _ ?_; clear hK K))
      refine Zam 113 _ rfl ⟨g,0,none⟩ rfl (Frm.A f) rfl (by rw [HFS.out]; exact aggFrame) lf.out ?_
      refine Zam 26 _ rfl ⟨g+1,0,none⟩ rfl (Cfg.A c) rfl HAG.out lc.out ?_
      (refine Zab (fun K hK=>?_); go_simp; refine hK _ ?_; clear hK K)
      (refine Zab (fun K hK=>?_); go_simp; (apply Exists.intro; refine ⟨fun x=>?_,hK _ ?_⟩; (exact bc.out x); clear hK K))
      refine wpSQ_eql .neq 113 _ _ _ rfl (Frm.A f) (Frm.A (c.block i)) rfl rfl (.bool false) rfl (fun w=>frame_guard _ _ _ _ _ w) HNE.out ?_
      (refine Zab (fun K hK=>?_); go_simp; refine hK _ ?_; clear hK K)
      refine Zae ?_
      intro W hW
      have hres:W.heap[w.heap.size]?=some (.cells (Cfg.A Cfg.zero) 26 (0,0)):=(Ext.trans xd hW).at HRES.out
      have hown:W.heap[g+1]?=some (.cells (Cfg.A c) 26 (0,0)):=(Ext.trans xd hW).at HOWN.out
      have HXW:=hid (Ext.trans HX.out (Ext.trans xd hW))
      clear hW lc lf rc bc
      go_wp2_with (first
       | (refine Zac rfl 26 _ rfl ⟨g+1,0,none⟩ rfl (Cfg.A c) HAG.out (Zai hown) ?_)
       | (refine Zaa rfl 26 _ _ rfl w.heap.size rfl (Cfg.A c) _ rfl 26 ?_ hres ?_ ?_ ?_; (rw [HCS.out]; exact aggCfg); (rw [HCS.out,HCS.out]); exact Cfg.A_one _))
      refine bodyPost_ret (Zan Tryz.results66 rfl (by rw [HCS.out]; exact aggCfg) (setRow_heap _ _ _ _ _ _ hres)) rfl ?_
      exact ⟨by rw [HN.out]; rfl,Ext.then HXW.out (Zag _ _ _) (fun i hi=>by omega)⟩
     ·
      have HN:Hid (R.superGet i=none):=hid (by rw [HT.out,if_neg (fun q=>he q.2)])
      rw [show (!f.eqB (c.block i))=true from by
       rcases hq:f.eqB (c.block i) with _ | _
       ·
        rfl
       ·
        exact absurd ((Frm.eqB_iff _ _).1 hq) he] at HNE
      clear hr hgood he
      (refine Zab (fun K hK=>?_); go_simp; (apply Exists.intro; refine ⟨fun x=>?_,hK _ ?_⟩; (exact rc.out x); clear hK K))
      iterate 2 ((refine Zab (fun K hK=>?_); go_simp; refine hK _ ?_; clear hK K))
      refine Zam 113 _ rfl ⟨g,0,none⟩ rfl (Frm.A f) rfl (by rw [HFS.out]; exact aggFrame) lf.out ?_
      refine Zam 26 _ rfl ⟨g+1,0,none⟩ rfl (Cfg.A c) rfl HAG.out lc.out ?_
      (refine Zab (fun K hK=>?_); go_simp; refine hK _ ?_; clear hK K)
      (refine Zab (fun K hK=>?_); go_simp; (apply Exists.intro; refine ⟨fun x=>?_,hK _ ?_⟩; (exact bc.out x); clear hK K))
      refine wpSQ_eql .neq 113 _ _ _ rfl (Frm.A f) (Frm.A (c.block i)) rfl rfl (.bool true) rfl (fun w=>frame_guard _ _ _ _ _ w) HNE.out ?_
      (refine Zab (fun K hK=>?_); go_simp; refine hK _ ?_; clear hK K)
      refine Zae ?_
      intro W hW
      have hres:W.heap[w.heap.size]?=some (.cells (Cfg.A Cfg.zero) 26 (0,0)):=(Ext.trans xd hW).at HRES.out
      have HXW:=hid (Ext.trans HX.out (Ext.trans xd hW))
      clear hW lc lf rc
      go_wp2_with (refine Zaa rfl 26 _ _ rfl w.heap.size rfl (Cfg.A Cfg.zero) _ rfl 26 ?_ hres ?_ ?_ ?_; (rw [HCS.out]; exact aggCfg); (rfl); exact Cfg.A_one _)
      refine bodyPost_ret (Zan Tryz.results66 rfl (by rw [HCS.out]; exact aggCfg) (setRow_heap _ _ _ _ _ _ hres)) rfl ?_
      exact ⟨by rw [HN.out]; rfl,Ext.then HXW.out (Zag _ _ _) (fun i hi=>by omega)⟩
theorem Rck.counted_le (R:Rck) (m:Nat):(R.counted m).2<=m:=by
 induction m with
 | zero=>exact Nat.le_refl 0
 | succ m ih =>
  rw [Rck.counted_succ]
  rcases hc:R.counted m with ⟨c,n⟩
  rw [hc] at ih
  rcases R.superGet (m:Int) with _ | x
  ·
   show n<=m+1; have:n<=m:=ih; omega
  ·
   have h1:n<=m:=ih
   have h2:∀ (p:Prop) [Decidable p] (a b:Cfg),(if p then (a,n+1) else (b,n)).2<=m+1:=fun p _ a b=>by
    split
    ·
     show n+1<=m+1; omega
    ·
     show n<=m+1; omega
   exact h2 _ _ _
theorem RackAt.n8 {S:Nat->Prop} {w:World} {r:Nat} {R:Rck} (h:RackAt S w r R):R.l.length<=8:=by
 obtain ⟨_,K,_,h2,_⟩:=h
 have:=h2.small
 rw [h2.len]; omega
structure SFnd (w:World) (c:Cfg) (wr:World):Prop where
 ext:Ext w wr
 res:CBlk wr w.heap.size Cfg.zero
 own:CBlk wr (w.heap.size+1) c
theorem SFnd.more {w wr wr':World} {c:Cfg} (h:SFnd w c wr) (e:Ext wr wr'):SFnd w c wr':=⟨Ext.trans h.ext e,e.at h.res,e.at h.own⟩
theorem SFnd.put {w wr:World} {c:Cfg} (h:SFnd w c wr) (x:Cfg):SFnd w x (wr.setRow (w.heap.size+1) (Cfg.A x)) :=
 ⟨Ext.then h.ext (Zag _ _ _) (fun i hi=>by omega),by
  have:=(Zag wr (w.heap.size+1) (Cfg.A x)).at h.res (by omega)
  exact this,setRow_heap _ _ _ _ _ _ h.own⟩
def SFindPost (w:World) (R:Rck) (e:Ending) (w':World):Prop:=e=.returned (.tuple #[.agg (Cfg.A R.superFind.1),oErr R.superFind.2])/\Ext w w'
set_option maxRecDepth 100000 in
set_option maxHeartbeats 3000000 in
theorem sfind_c {S:Nat->Prop} {w:World} {r:Nat} {R:Rck} (h:RackAt S w r R) :
  Calls Tryz.prog 47 #[.pointer (some ⟨r,0,none⟩)] w (SFindPost w R):=by
 have hzc:=zero_cfg
 have hbz:=built_cfg0
 have HCS:=hid Cfg.A_size
 have H:=hid h
 have h8:=h.n8
 clear h
 go_enter Tryz.func47,Tryz.ntmps47
 go_wp2_with fail
 have X0:Ext w ((w.alloc (.cells (Cfg.A Cfg.zero) 26)).alloc (.cells (Cfg.A Cfg.zero) 26)):=((Ext.refl w).alloc _).alloc _
 have HS:Hid (SFnd w (R.counted 0).1 ((w.alloc (.cells (Cfg.A Cfg.zero) 26)).alloc (.cells (Cfg.A Cfg.zero) 26))):=hid ⟨X0,by
  unfold CBlk; rw [heap_alloc_old _ _ (by simp)]; exact heap_alloc_new _ _,by
  have e:(w.alloc (.cells (Cfg.A Cfg.zero) 26)).heap.size=w.heap.size+1:=by simp
  unfold CBlk; rw [<- e]; exact heap_alloc_new _ _⟩
 refine (at_n (H.out.ext X0)).mono ?_
 rintro e w2 ⟨rfl,rfl⟩
 clear X0
 generalize (w.alloc (.cells (Cfg.A Cfg.zero) 26)).alloc (.cells (Cfg.A Cfg.zero) 26)=v0 at *
 obtain ⟨N,hN⟩:∃ N,R.l.length=N:=⟨_,rfl⟩
 have HN:=hid hN
 rw [hN] at h8 ⊢
 clear hN
 go_wp2
 go_loopw [5,11] (fun v i wr=>∃ j:Nat,i=.int .i64 j/\v=.int .i64 (R.counted j).2/\j<=N/\SFnd w (R.counted j).1 wr) (fun _ i _=>N - (intOf i).toNat)
 case atStart=>exact ⟨0,rfl,rfl,by omega,HS.out⟩
 case round =>
  clear HS
  obtain ⟨j,rfl,rfl,hj,hst⟩:=hrel
  have HST:=hid hst
  have hsucc:=R.counted_succ j
  have hle:=R.counted_le j
  have hfind:R.l.length=j->R.superFind=(if (R.counted j).2=0\/((R.counted j).2:Int) < (R.counted j).1.k\/R.fits (R.counted j).1=false then (Cfg.zero,some (.fault sSuperFind ((R.counted j).2:Int) (.no 7))) else ((R.counted j).1,none)):=fun e=>by unfold Rck.superFind; rw [e]
  clear hst
  generalize R.counted j=cn at *
  obtain ⟨c,n⟩:=cn
  simp only at hle HST hfind ⊢
  by_cases hlt:j < N
  ·
   clear hfind
   have i0:(0:Int)<=(j:Int):=by omega
   have i1:(j:Int) < (N:Int):=by omega
   have n0:(0:Int)<=(n:Int):=by omega
   have n1:(n:Int)<=8:=by omega
   go_wp2_with fail
   refine (spget_c (H.out.ext HST.out.ext) j).mono ?_
   rintro e w3 ⟨rfl,x3⟩
   rcases ho:R.superGet (j:Int) with _ | x
   ·
    rw [ho] at hsucc
    have HSU:=hid hsucc
    clear ho hsucc
    simp only [toldO,Option.getD_none,Option.isSome_none]
    have HS3:=hid ((HST.out.more x3).more ((Ext.refl w3).alloc (.cells (Cfg.A Cfg.zero) 26)))
    have hbs:(w3.alloc (.cells (Cfg.A Cfg.zero) 26)).heap[w3.heap.size]?=some (.cells (Cfg.A Cfg.zero) 26 (0,0)):=Zad
    clear x3
    go_wp2_with (refine Zaa rfl 26 _ _ rfl w3.heap.size rfl (Cfg.A Cfg.zero) _ rfl 26 ?_ hbs ?_ ?_ ?_; (rw [HCS.out]; exact aggCfg); (rfl); exact Cfg.A_one _)
    rw [Zaj]
    go_roundw
    case rel=>exact ⟨j+1,by go_num,by rw [HSU.out]; rfl,by omega,by rw [HSU.out]; exact HS3.out⟩
    case measure=>simp [intOf]; omega
   ·
    rw [ho] at hsucc
    clear ho
    simp only [toldO,Option.getD_some,Option.isSome_some]
    have HS3:=hid ((HST.out.more x3).more ((Ext.refl w3).alloc (.cells (Cfg.A x) 26)))
    have hbs:(w3.alloc (.cells (Cfg.A Cfg.zero) 26)).heap[w3.heap.size]?=some (.cells (Cfg.A Cfg.zero) 26 (0,0)):=Zad
    have HX3:Hid ((w3.alloc (.cells (Cfg.A x) 26)).heap[w3.heap.size]?=some (.cells (Cfg.A x) 26 (0,0))):=hid Zad
    have HLT:Hid (w.heap.size+1 < w3.heap.size):=hid (by have:=lt_of_block (x3.at HST.out.own); omega)
    clear x3
    by_cases hn0:n=0
    ·
     subst hn0
     have HSU:Hid (R.counted (j+1)=(x,1)):=hid (by rw [hsucc]; simp [Rck.count])
     have HE:=hid (cfg_eql x x)
     rw [Cfg.eqB_self] at HE
     clear hsucc n0 n1
     rw [show ((0:Nat):Int)=0 from rfl]
     have HS4:=hid (HS3.out.put x)
     have HX4:Hid (((w3.alloc (.cells (Cfg.A x) 26)).setRow (w.heap.size+1) (Cfg.A x)).heap[w3.heap.size]?=some (.cells (Cfg.A x) 26 (0,0))):=hid ((Zag _ _ _).at HX3.out (by have:=HLT.out; omega))
     go_wp2_with (first
      | (refine Zaa rfl 26 _ _ rfl w3.heap.size rfl (Cfg.A x) _ rfl 26 ?_ hbs ?_ ?_ ?_; (rw [HCS.out]; exact aggCfg); (rw [HCS.out,HCS.out]); exact Cfg.A_one _)
      | (rw [Zaj]; refine Zac rfl 26 _ rfl ⟨w3.heap.size,0,none⟩ rfl (Cfg.A x) (Zat x) (Zai HX3.out) ?_)
      | (refine Zaa rfl 26 _ _ rfl (w.heap.size+1) rfl (Cfg.A x) _ rfl 26 ?_ HS3.out.own ?_ ?_ ?_; (rw [HCS.out]; exact aggCfg); (rw [HCS.out,HCS.out]); exact Cfg.A_one _)
      | (refine Zaw 26 _ rfl ⟨w3.heap.size,0,none⟩ rfl (Cfg.A x) rfl (Zat x) (Zai HX4.out) ?_)
      | (refine Zaw 26 _ rfl ⟨w.heap.size+1,0,none⟩ rfl (Cfg.A x) rfl (Zat x) (Zai HS4.out.own) ?_)
      | (refine wpListG_eql .eql 26 _ _ _ rfl (Cfg.A x) (Cfg.A x) rfl rfl (.bool true) rfl (cfg_guard _ _ _ _ _ _) (HE.out _) ?_))
     go_roundw
     case rel=>exact ⟨j+1,by go_num,by rw [HSU.out]; rfl,by omega,by rw [HSU.out]; exact HS4.out⟩
     case measure=>simp [intOf]; omega
    ·
     have n2:((n:Int) == 0)=false:=by simp; omega
     have HE:=hid (cfg_eql x c)
     have HS3':Hid (SFnd w c ((w3.alloc (.cells (Cfg.A Cfg.zero) 26)).setRow w3.heap.size (Cfg.A x))):=hid (by rw [Zaj]; exact HS3.out)
     by_cases hxc:x=c
     ·
      rw [(Cfg.eqB_iff _ _).2 hxc] at HE
      have HSU:Hid (R.counted (j+1)=(c,n+1)):=hid (by rw [hsucc]; simp [Rck.count,hn0,hxc])
      clear hsucc hxc hn0
      go_wp2_with (first
       | (refine Zaa rfl 26 _ _ rfl w3.heap.size rfl (Cfg.A x) _ rfl 26 ?_ hbs ?_ ?_ ?_; (rw [HCS.out]; exact aggCfg); (rw [HCS.out,HCS.out]); exact Cfg.A_one _)
       | (rw [Zaj]; refine Zaw 26 _ rfl ⟨w3.heap.size,0,none⟩ rfl (Cfg.A x) rfl (Zat x) (Zai HX3.out) ?_)
       | (refine Zaw 26 _ rfl ⟨w.heap.size+1,0,none⟩ rfl (Cfg.A c) rfl (Zat c) (Zai HS3.out.own) ?_)
       | (refine wpListG_eql .eql 26 _ _ _ rfl (Cfg.A x) (Cfg.A c) rfl rfl (.bool true) rfl (cfg_guard _ _ _ _ _ _) (HE.out _) ?_))
      go_roundw
      case rel=>exact ⟨j+1,by go_num,by rw [HSU.out]; go_num,by omega,by rw [HSU.out]; exact HS3.out⟩
      case measure=>simp [intOf]; omega
     ·
      rw [show x.eqB c=false from by
       rcases hq:x.eqB c with _ | _
       ·
        rfl
       ·
        exact absurd ((Cfg.eqB_iff _ _).1 hq) hxc] at HE
      have HSU:Hid (R.counted (j+1)=(c,n)):=hid (by rw [hsucc]; simp [Rck.count,hn0,hxc])
      clear hsucc hxc hn0
      go_wp2_with (first
       | (refine Zaa rfl 26 _ _ rfl w3.heap.size rfl (Cfg.A x) _ rfl 26 ?_ hbs ?_ ?_ ?_; (rw [HCS.out]; exact aggCfg); (rw [HCS.out,HCS.out]); exact Cfg.A_one _)
       | (rw [Zaj]; refine Zaw 26 _ rfl ⟨w3.heap.size,0,none⟩ rfl (Cfg.A x) rfl (Zat x) (Zai HX3.out) ?_)
       | (refine Zaw 26 _ rfl ⟨w.heap.size+1,0,none⟩ rfl (Cfg.A c) rfl (Zat c) (Zai HS3.out.own) ?_)
       | (refine wpListG_eql .eql 26 _ _ _ rfl (Cfg.A x) (Cfg.A c) rfl rfl (.bool false) rfl (cfg_guard _ _ _ _ _ _) (HE.out _) ?_))
      go_roundw
      case rel=>exact ⟨j+1,by go_num,by rw [HSU.out],by omega,by rw [HSU.out]; exact HS3.out⟩
      case measure=>simp [intOf]; omega
  ·
   obtain rfl:N=j:=by omega
   have hf:=hfind HN.out
   have HX:=hid HST.out.ext
   have HRES:Hid (wr.heap[w.heap.size]?=some (.cells (Cfg.A Cfg.zero) 26 (0,0))):=hid HST.out.res
   have HOWN:Hid (wr.heap[w.heap.size+1]?=some (.cells (Cfg.A c) 26 (0,0))):=hid HST.out.own
   clear hfind hsucc
   by_cases hn0:n=0
   ·
    have HF:Hid (R.superFind=(Cfg.zero,some (.fault sSuperFind (n:Int) (.no 7)))):=hid (by rw [hf,if_pos (.inl hn0)])
    subst hn0
    clear hf
    rw [show ((0:Nat):Int)=0 from rfl] at HF ⊢
    go_wp2_with fail
    refine (Zap sSuperFind 0 (.no 7) wr).mono ?_
    rintro e w7 ⟨rfl,rfl⟩
    go_wp2_with (refine Zaa rfl 26 _ _ rfl w.heap.size rfl (Cfg.A Cfg.zero) _ rfl 26 ?_ HRES.out ?_ ?_ ?_; (rw [HCS.out]; exact aggCfg); (rfl); exact Cfg.A_one _)
    refine bodyPost_ret (Zan Tryz.results47 rfl (by rw [HCS.out]; exact aggCfg) (setRow_heap _ _ _ _ _ _ HRES.out)) rfl ?_
    exact ⟨by rw [HF.out]; rfl,Ext.then HX.out (Zag _ _ _) (fun i hi=>by omega)⟩
   ·
    have n2:((n:Int) == 0)=false:=by simp; omega
    have c1:wr.cell? ⟨w.heap.size+1,1,none⟩=some (.int .i64 c.k):=(Zaf HOWN.out).trans (Cfg.A1 c)
    by_cases hk:(n:Int) < c.k
    ·
     have HF:Hid (R.superFind=(Cfg.zero,some (.fault sSuperFind (n:Int) (.no 7)))):=hid (by rw [hf,if_pos (.inr (.inl hk))])
     clear hf hn0
     go_wp2_with fail
     refine (Zap sSuperFind n (.no 7) wr).mono ?_
     rintro e w7 ⟨rfl,rfl⟩
     go_wp2_with (refine Zaa rfl 26 _ _ rfl w.heap.size rfl (Cfg.A Cfg.zero) _ rfl 26 ?_ HRES.out ?_ ?_ ?_; (rw [HCS.out]; exact aggCfg); (rfl); exact Cfg.A_one _)
     refine bodyPost_ret (Zan Tryz.results47 rfl (by rw [HCS.out]; exact aggCfg) (setRow_heap _ _ _ _ _ _ HRES.out)) rfl ?_
     exact ⟨by rw [HF.out]; rfl,Ext.then HX.out (Zag _ _ _) (fun i hi=>by omega)⟩
    ·
     rcases hft:R.fits c with _ | _
     ·
      have HF:Hid (R.superFind=(Cfg.zero,some (.fault sSuperFind (n:Int) (.no 7)))):=hid (by rw [hf,if_pos (.inr (.inr hft))])
      have HFT:=hid hft
      clear hf hn0 hft
      go_wp2_with (refine Zaw 26 _ rfl ⟨w.heap.size+1,0,none⟩ rfl (Cfg.A c) rfl (Zat c) (Zai HOWN.out) ?_)
      refine (sfits_c (H.out.ext HX.out) c).mono ?_
      rintro e w6 ⟨rfl,x6⟩
      rw [HFT.out]
      have HRES:=hid (x6.at HRES.out)
      have HX:=hid (Ext.trans HX.out x6)
      clear x6 c1
      go_wp2_with fail
      refine (Zap sSuperFind n (.no 7) w6).mono ?_
      rintro e w7 ⟨rfl,rfl⟩
      go_wp2_with (refine Zaa rfl 26 _ _ rfl w.heap.size rfl (Cfg.A Cfg.zero) _ rfl 26 ?_ HRES.out ?_ ?_ ?_; (rw [HCS.out]; exact aggCfg); (rfl); exact Cfg.A_one _)
      refine bodyPost_ret (Zan Tryz.results47 rfl (by rw [HCS.out]; exact aggCfg) (setRow_heap _ _ _ _ _ _ HRES.out)) rfl ?_
      exact ⟨by rw [HF.out]; rfl,Ext.then HX.out (Zag _ _ _) (fun i hi=>by omega)⟩
     ·
      have HF:Hid (R.superFind=(c,none)):=hid (by rw [hf,if_neg]; intro q; rcases q with q | q | q; exact hn0 q; exact hk q; rw [hft] at q; cases q)
      have HFT:=hid hft
      clear hf hn0 hft
      go_wp2_with (refine Zaw 26 _ rfl ⟨w.heap.size+1,0,none⟩ rfl (Cfg.A c) rfl (Zat c) (Zai HOWN.out) ?_)
      refine (sfits_c (H.out.ext HX.out) c).mono ?_
      rintro e w6 ⟨rfl,x6⟩
      rw [HFT.out]
      have HRES:=hid (x6.at HRES.out)
      have HOWN:=hid (x6.at HOWN.out)
      have HX:=hid (Ext.trans HX.out x6)
      clear x6 c1
      go_wp2_with (first
       | (refine Zac rfl 26 _ rfl ⟨w.heap.size+1,0,none⟩ rfl (Cfg.A c) (Zat c) (Zai HOWN.out) ?_)
       | (refine Zaa rfl 26 _ _ rfl w.heap.size rfl (Cfg.A c) _ rfl 26 ?_ HRES.out ?_ ?_ ?_; (rw [HCS.out]; exact aggCfg); (rw [HCS.out,HCS.out]); exact Cfg.A_one _))
      refine bodyPost_ret (Zan Tryz.results47 rfl (by rw [HCS.out]; exact aggCfg) (setRow_heap _ _ _ _ _ _ HRES.out)) rfl ?_
      exact ⟨by rw [HF.out]; rfl,Ext.then HX.out (Zag _ _ _) (fun i hi=>by omega)⟩
end Go.Proofs.YtgjnnbomnoafcaaGreat
