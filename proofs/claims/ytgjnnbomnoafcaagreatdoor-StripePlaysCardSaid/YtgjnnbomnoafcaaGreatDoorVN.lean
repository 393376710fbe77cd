/- Texts of one proof, joined: SupC, SupD, SupE, SupF, KFix, SupG. -/
import Derived.Test.YtgjnnbomnoafcaaGreatDoorVH
import Derived.Test.YtgjnnbomnoafcaaGreatDoorVB
import Derived.Test.YtgjnnbomnoafcaaGreatDoorVF
import Derived.Test.YtgjnnbomnoafcaaGreatDoorVC
import Derived.Test.YtgjnnbomnoafcaaGreatDoorVI
import Derived.Test.YtgjnnbomnoafcaaGreatDoorVA
set_option linter.unusedVariables false
set_option linter.unusedSimpArgs false
namespace Go.Proofs.YtgjnnbomnoafcaaGreatDoor
set_option linter.unusedVariables false
open Go Go.RowKit
def Cfg.eqB (a b:Cfg):Bool:=a.id == b.id && (a.k == b.k && (a.n == b.n && (a.stripes == b.stripes && a.slots == b.slots)))
theorem Za6 (c:Cfg):AggType Tryz.prog 74 (Cfg.A c).size:=by rw [Cfg.A_size]; exact aggCfg
set_option maxRecDepth 100000 in
set_option maxHeartbeats 1200000 in
theorem sfits_c {S:Nat->Prop} {w:World} {r:Nat} {R:Rck} (h:RackAt S w r R) (c:Cfg) :
  Calls Tryz.prog 130 #[.pointer (some ⟨r,0,none⟩),.agg (Cfg.A c)] w fun e w'=>e=.returned (.bool (R.fits c))/\Ext w w':=by
 obtain ⟨W0,hW0⟩:∃ W,w.alloc (.cells (Cfg.A c) 74)=W:=⟨_,rfl⟩
 have X0:Ext w W0:=hW0▸(Ext.refl w).alloc _
 have xd:Ext W0 W0.drew:=(Ext.refl W0).drew
 have hc:W0.heap[w.heap.size]?=some (.cells (Cfg.A c) 74 (0,0)):=hW0▸heap_alloc_new _ _
 have lc:Hid (∀ x:SW Ext W0.drew,∀ j v,(Cfg.A c).toList[j]?=some v->x.w.cell? ((⟨w.heap.size,0,none⟩:Addr).add j)=some v):=hid fun x=>Zaj ((Ext.trans xd x.ext).at hc)
 have c2:∀ x:SW Ext W0.drew,x.w.cell? ⟨w.heap.size,2,none⟩=some (.int .i64 c.n):=fun x=>(Zaf ((Ext.trans xd x.ext).at hc)).trans (Cfg.A2 c)
 have rc:Hid (∀ x:SW Ext W0.drew,Calls Tryz.prog 135 #[.agg (Cfg.A c)] x.w fun e w''=>e=.returned (.bool c.right)/\Ext x.w w''):=hid fun x=>sright_c c x.w
 have nc:Hid (∀ x:SW Ext W0.drew,Calls Tryz.prog 40 #[.pointer (some ⟨r,0,none⟩)] x.w fun e w''=>e=.returned (.int .i64 R.l.length)/\Ext x.w w''):=hid fun x =>
  (at_n (h.ext (Ext.trans X0 (Ext.trans xd x.ext)))).mono fun e w'' he=>⟨he.1,he.2▸Ext.refl _⟩
 have sc:Hid (∀ x:SW Ext W0.drew,Calls Tryz.prog 41 #[.pointer (some ⟨r,0,none⟩)] x.w fun e w''=>e=.returned (.int .i64 R.sectors)/\Ext x.w w''):=hid fun x =>
  (at_sectors (h.ext (Ext.trans X0 (Ext.trans xd x.ext)))).mono fun e w'' he=>⟨he.1,he.2▸Ext.refl _⟩
 have HX0:=hid X0
 have HF:Hid (R.fits c=(c.right && decide (c.n=(R.l.length:Int)) && decide (c.sectors<=(R.sectors:Int)))):=hid rfl
 have HAG:=hid (Za6 c)
 clear h hc X0
 go_enter Tryz.func130,Tryz.ntmps130
 go_wp2_with fail
 refine Zan (S:=Ext) 16 (.fin [0,1,2,3,4,5,6,7,8,9,10,11,12,13,14,15]) (by kernel_rfl) (by kernel_rfl) (fun _ _ d _ _ h=>by cases d<;>exact h) ?_
 rw [wpS]
 simp only [opsAt,opA,opB,opC,opD,opE,opF,opG]
 refine Zaz 74 _ rfl ⟨w.heap.size,0,none⟩ rfl (Cfg.A c) rfl HAG.out lc.out ?_
 --M1
 rcases hr:c.right with _ | _
 ·
  rw [hr] at rc
  have hf:R.fits c=false:=by rw [HF.out,hr]; rfl
  have HFI:=hid hf; clear hf
  (refine Zaa (fun K hK=>?_); go_simp; (apply Exists.intro; refine ⟨fun x=>?_,hK _ ?_⟩; (exact rc.out x); clear hK K))
  (refine Zaa (fun K hK=>?_); go_simp; refine hK _ ?_; clear hK K)
  iterate 5 (refine wpSQ_skip rfl ?_)
  iterate 2 ((refine Zaa (fun K hK=>?_); go_simp; refine hK _ ?_; clear hK K))
  iterate 5 (refine wpSQ_skip rfl ?_)
  (refine Zaa (fun K hK=>?_); go_simp; refine hK _ ?_; clear hK K)
  refine Zac ?_
  intro W hW
  go_wp2
  go_ret
  exact ⟨Zas HFI.out.symm,Ext.trans HX0.out (Ext.trans xd hW)⟩
 ·
  rw [hr] at rc
  have hg:=(Cfg.right_iff c).1 hr
  rcases hn:c.n == (R.l.length:Int) with _ | _
  ·
   have hf:R.fits c=false:=by rw [HF.out,hr,decide_eq_false (by simpa using hn)]; rfl
   have HFI:=hid hf; clear hf
   clear hr hg
   (refine Zaa (fun K hK=>?_); go_simp; (apply Exists.intro; refine ⟨fun x=>?_,hK _ ?_⟩; (exact rc.out x); clear hK K))
   iterate 4 ((refine Zaa (fun K hK=>?_); go_simp; refine hK _ ?_; clear hK K))
   (refine Zaa (fun K hK=>?_); go_simp; (apply Exists.intro; refine ⟨fun x=>?_,hK _ ?_⟩; (exact nc.out x); clear hK K))
   iterate 3 ((refine Zaa (fun K hK=>?_); go_simp; refine hK _ ?_; clear hK K))
   iterate 5 (refine wpSQ_skip rfl ?_)
   (refine Zaa (fun K hK=>?_); go_simp; refine hK _ ?_; clear hK K)
   refine Zac ?_
   intro W hW
   go_wp2
   go_ret
   exact ⟨Zas HFI.out.symm,Ext.trans HX0.out (Ext.trans xd hW)⟩
  ·
   have hf:R.fits c=decide (c.sectors<=(R.sectors:Int)):=by rw [HF.out,hr,decide_eq_true (by simpa using hn)]; rfl
   have HFI:=hid hf; clear hf
   have ss:Hid (∀ x:SW Ext W0.drew,Calls Tryz.prog 138 #[.agg (Cfg.A c)] x.w fun e w''=>e=.returned (.int .i64 c.sectors)/\Ext x.w w''):=hid fun x=>ssectors_c c hg x.w
   clear hr hg
   (refine Zaa (fun K hK=>?_); go_simp; (apply Exists.intro; refine ⟨fun x=>?_,hK _ ?_⟩; (exact rc.out x); clear hK K))
   iterate 4 ((refine Zaa (fun K hK=>?_); go_simp; refine hK _ ?_; clear hK K))
   (refine Zaa (fun K hK=>?_); go_simp; (apply Exists.intro; refine ⟨fun x=>?_,hK _ ?_⟩; (exact nc.out x); clear hK K))
   iterate 3 ((refine Zaa (fun K hK=>?_); go_simp; refine hK _ ?_; clear hK K))
   refine Zaz 74 _ rfl ⟨w.heap.size,0,none⟩ rfl (Cfg.A c) rfl HAG.out lc.out ?_
   (refine Zaa (fun K hK=>?_); go_simp; (apply Exists.intro; refine ⟨fun x=>?_,hK _ ?_⟩; (exact ss.out x); clear hK K))
   (refine Zaa (fun K hK=>?_); go_simp; refine hK _ ?_; clear hK K)
   (refine Zaa (fun K hK=>?_); go_simp; (apply Exists.intro; refine ⟨fun x=>?_,hK _ ?_⟩; (exact sc.out x); clear hK K))
   iterate 2 ((refine Zaa (fun K hK=>?_); go_simp; refine hK _ ?_; clear hK K))
   refine Zac ?_
   intro W hW
   go_wp2
   go_ret
   exact ⟨Zas HFI.out.symm,Ext.trans HX0.out (Ext.trans xd hW)⟩
theorem Rck.fits_good {R:Rck} {c:Cfg} (h:R.fits c=true):c.Good:=by
 unfold Rck.fits at h
 simp only [Bool.and_eq_true] at h
 exact (Cfg.right_iff c).1 h.1.1
namespace Cfg
end Cfg
def CBlk (w:World) (g:Nat) (c:Cfg):Prop:=w.heap[g]?=some (.cells (Cfg.A c) 74 (0,0))
theorem built_cfg3 (i k s t:Int):Tryz.prog.built 74 [(0,.int .i64 i),(1,.int .i64 k),(3,.int .i64 s),(4,.int .i64 t)]=some (Cfg.A ⟨i,k,0,s,t⟩):=by kernel_rfl
theorem Cfg.A_n (c:Cfg) (x:Int):(Cfg.A c).setIfInBounds 2 (.int .i64 x)=Cfg.A { c with n:=x }:=by
 rw [Cfg.A_def,Cfg.A_def]; rfl
def KCfgPost (w:World) (c:Cfg) (e:Ending) (w':World):Prop:=e=.returned (.agg (Cfg.A c))/\Ext w w'
theorem sectors_nat (c:Cfg) (h:c.Good):∃ m:Nat,c.sectors=(m:Int)/\1<=m/\m<=128:=by
 have b0:0<=c.slots*c.k:=Int.mul_nonneg (by have:=h.sl0; omega) (by have:=h.k0; omega)
 have b1:c.slots*c.k<=4*8:=Int.mul_le_mul h.sl1 (by have:=h.k1; have:=h.n1; omega) (by have:=h.k0; omega) (by omega)
 have b2:=h.st0
 have b3:=h.st1
 have e:c.sectors=1+c.slots*c.k+c.stripes:=rfl
 refine ⟨c.sectors.toNat,?_,?_,?_⟩<;>omega
def keepCfg (k n stripes slots:Int):Cfg:=⟨7,within k 1 4,within n (within k 1 4) 6,within stripes 1 6,within slots 1 3⟩
theorem keepCfg_good (k n stripes slots:Int):(keepCfg k n stripes slots).Good:=by
 obtain ⟨a0,a1⟩:=Zbl k 1 4 (by omega)
 obtain ⟨b0,b1⟩:=Zbl n (within k 1 4) 6 (by omega)
 obtain ⟨c0,c1⟩:=Zbl stripes 1 6 (by omega)
 obtain ⟨d0,d1⟩:=Zbl slots 1 3 (by omega)
 exact ⟨by show (1:Int)<=7; omega,by show (7:Int)<=2147483647; omega,by show within n (within k 1 4) 6<=8; omega,a0,b0,c0,by show within stripes 1 6<=64; omega,d0,by show within slots 1 3<=4; omega⟩
set_option maxRecDepth 100000 in
set_option maxHeartbeats 1000000 in
theorem kconfig_c (k n stripes slots:Int) (w:World):Calls Tryz.prog 43 #[.int .i64 k,.int .i64 n,.int .i64 stripes,.int .i64 slots] w (KCfgPost w (keepCfg k n stripes slots)):=by
 have hzc:=zero_cfg
 have HCS:=hid Cfg.A_size
 have HK:Hid (keepCfg k n stripes slots=⟨7,within k 1 4,within n (within k 1 4) 6,within stripes 1 6,within slots 1 3⟩):=hid rfl
 rw [HK.out]
 clear HK
 obtain ⟨a0,a1⟩:=Zbl k 1 4 (by omega)
 have HWK:=hid (Zb7 k 1 4)
 generalize within k 1 4=kk at *
 have hb3:=built_cfg3
 go_enter Tryz.func43,Tryz.ntmps43
 go_wp2_with fail
 refine (HWK.out _ (by omega) (by omega) (by omega)).mono ?_
 rintro e w2 ⟨rfl,rfl⟩
 go_wp2_with fail
 refine (Zb7 stripes 1 6 _ (by omega) (by omega) (by omega)).mono ?_
 rintro e w2 ⟨rfl,rfl⟩
 go_wp2_with fail
 refine (Zb7 slots 1 3 _ (by omega) (by omega) (by omega)).mono ?_
 rintro e w2 ⟨rfl,rfl⟩
 generalize within stripes 1 6=st at *
 generalize within slots 1 3=sl at *
 have e1:(w.alloc (.cells (Cfg.A Cfg.zero) 74)).heap.size=w.heap.size+1:=by simp
 have hbs:((w.alloc (.cells (Cfg.A Cfg.zero) 74)).alloc (.cells (Cfg.A Cfg.zero) 74)).heap[w.heap.size+1]?=some (.cells (Cfg.A Cfg.zero) 74 (0,0)):=by rw [<- e1]; exact heap_alloc_new _ _
 have HB3:Hid (Tryz.prog.built 74 [(0,.int .i64 7),(1,.int .i64 kk),(3,.int .i64 st),(4,.int .i64 sl)]=some (Cfg.A ⟨7,kk,0,st,sl⟩)):=hid (built_cfg3 7 kk st sl)
 clear hb3
 have c1:(((w.alloc (.cells (Cfg.A Cfg.zero) 74)).alloc (.cells (Cfg.A Cfg.zero) 74)).setRow (w.heap.size+1) (Cfg.A ⟨7,kk,0,st,sl⟩)).cell? ⟨w.heap.size+1,1,none⟩=some (.int .i64 kk):=(Zaf (setRow_heap _ _ _ _ _ _ hbs)).trans (Cfg.A1 _)
 go_wp2_with (first
  | (refine Zav rfl 74 _ rfl (Cfg.A ⟨7,kk,0,st,sl⟩) ?_ ?_; (simp only [List.map_toArray,List.map_cons,List.map_nil,Act.eval]; simp only [Array.getD_eq_getD_getElem?,List.getElem?_toArray,List.getElem?_cons_succ,List.getElem?_cons_zero,Option.getD_some]; exact HB3.out))
  | (refine Zab rfl 74 _ _ rfl (w.heap.size+1) rfl (Cfg.A ⟨7,kk,0,st,sl⟩) _ rfl 74 ?_ hbs ?_ ?_ ?_; (rw [HCS.out]; exact aggCfg); (rw [HCS.out,HCS.out]); exact Cfg.A_one _))
 have HO:Hid (CBlk (((w.alloc (.cells (Cfg.A Cfg.zero) 74)).alloc (.cells (Cfg.A Cfg.zero) 74)).setRow (w.heap.size+1) (Cfg.A ⟨7,kk,0,st,sl⟩)) (w.heap.size+1) ⟨7,kk,0,st,sl⟩):=hid (setRow_heap _ _ _ _ _ _ hbs)
 have HR:Hid (CBlk (((w.alloc (.cells (Cfg.A Cfg.zero) 74)).alloc (.cells (Cfg.A Cfg.zero) 74)).setRow (w.heap.size+1) (Cfg.A ⟨7,kk,0,st,sl⟩)) w.heap.size Cfg.zero):=hid (by
  have:=(Zah ((w.alloc (.cells (Cfg.A Cfg.zero) 74)).alloc (.cells (Cfg.A Cfg.zero) 74)) (w.heap.size+1) (Cfg.A ⟨7,kk,0,st,sl⟩)).at (k:=w.heap.size) (o:=.cells (Cfg.A Cfg.zero) 74) (by rw [heap_alloc_old _ _ (by simp)]; exact heap_alloc_new _ _) (by omega)
  exact this)
 have HX:Hid (Ext w (((w.alloc (.cells (Cfg.A Cfg.zero) 74)).alloc (.cells (Cfg.A Cfg.zero) 74)).setRow (w.heap.size+1) (Cfg.A ⟨7,kk,0,st,sl⟩))):=hid (Ext.then (((Ext.refl w).alloc _).alloc _) (Zah _ _ _) (fun i hi=>by omega))
 clear hbs c1 HB3
 generalize ((w.alloc (.cells (Cfg.A Cfg.zero) 74)).alloc (.cells (Cfg.A Cfg.zero) 74)).setRow (w.heap.size+1) (Cfg.A ⟨7,kk,0,st,sl⟩)=W at *
 refine (Zb7 n kk 6 W (by omega) (by omega) (by omega)).mono ?_
 rintro e w2 ⟨rfl,rfl⟩
 generalize within n kk 6=nn at *
 have c2:W.cell? ⟨w.heap.size+1,2,none⟩=some (.int .i64 0):=(Zaf HO.out).trans (Cfg.A2 _)
 have f2:W.frozen? ⟨w.heap.size+1,2,none⟩=false:=Zax HO.out
 have HO2:Hid ((W.setCell ⟨w.heap.size+1,2,none⟩ (.int .i64 nn)).heap[w.heap.size+1]?=some (.cells (Cfg.A ⟨7,kk,nn,st,sl⟩) 74 (0,0))):=hid (by
  have:=Zar HO.out (i:=2) (.int .i64 nn)
  rw [Cfg.A_n] at this
  exact this)
 have HR2:Hid ((W.setCell ⟨w.heap.size+1,2,none⟩ (.int .i64 nn)).heap[w.heap.size]?=some (.cells (Cfg.A Cfg.zero) 74 (0,0))):=hid ((Zai _ (by omega)).trans HR.out)
 have HX2:Hid (Ext w (W.setCell ⟨w.heap.size+1,2,none⟩ (.int .i64 nn))):=hid (Only.setCell (F:=fun _=>False) HX.out (.inl (by show _<=w.heap.size+1; omega)) _)
 go_wp2_with (first
  | (refine Zae rfl 74 _ rfl ⟨w.heap.size+1,0,none⟩ rfl (Cfg.A ⟨7,kk,nn,st,sl⟩) (Za6 _) (Zaj HO2.out) ?_)
  | (refine Zab rfl 74 _ _ rfl w.heap.size rfl (Cfg.A ⟨7,kk,nn,st,sl⟩) _ rfl 74 ?_ HR2.out ?_ ?_ ?_; (rw [HCS.out]; exact aggCfg); (rw [HCS.out,HCS.out]); exact Cfg.A_one _))
 refine bodyPost_ret (results_cell_row Tryz.results43 _ _ w.heap.size _ (Cfg.A ⟨7,kk,nn,st,sl⟩) _ _ rfl (setRow_heap _ _ _ _ _ _ HR2.out) Tryz.underlying74 rfl (by rw [HCS.out]; exact aggCfg.2)) rfl ?_
 exact ⟨rfl,Ext.then HX2.out (Zah _ _ _) (fun i hi=>by omega)⟩
end Go.Proofs.YtgjnnbomnoafcaaGreatDoor
