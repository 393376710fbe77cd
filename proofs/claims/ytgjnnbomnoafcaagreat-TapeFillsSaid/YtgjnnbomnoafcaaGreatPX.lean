/- Texts of one proof, joined: KFix, VolX, VolNum. -/
import Derived.Test.YtgjnnbomnoafcaaGreatPH
import Derived.Test.YtgjnnbomnoafcaaGreatPA
import Derived.Test.YtgjnnbomnoafcaaGreatPT
import Derived.Test.YtgjnnbomnoafcaaGreatPV
import Derived.Test.YtgjnnbomnoafcaaGreatPS
set_option linter.unusedVariables false
set_option linter.unusedSimpArgs false
namespace Go.Proofs.YtgjnnbomnoafcaaGreat
set_option linter.unusedVariables false
open Go Go.RowKit
theorem built_cfg3 (i k s t:Int):Tryz.prog.built 26 [(0,.int .i64 i),(1,.int .i64 k),(3,.int .i64 s),(4,.int .i64 t)]=some (Cfg.A ⟨i,k,0,s,t⟩):=by kernel_rfl
theorem Cfg.A_n (c:Cfg) (x:Int):(Cfg.A c).setIfInBounds 2 (.int .i64 x)=Cfg.A { c with n:=x }:=by
 rw [Cfg.A_def,Cfg.A_def]; rfl
def KCfgPost (w:World) (c:Cfg) (e:Ending) (w':World):Prop:=e=.returned (.agg (Cfg.A c))/\Ext w w'
def KCBlk (w:World) (g:Nat) (c:Cfg):Prop:=w.heap[g]?=some (.cells (Cfg.A c) 26 (0,0))
def keepFixed (k n stripes slots:Int):Cfg:=⟨7,within k 1 4,within n (within k 1 4) 6,stripes,slots⟩
set_option maxRecDepth 100000 in
set_option maxHeartbeats 1000000 in
theorem kfixed_c (k n stripes slots:Int) (w:World):Calls Tryz.prog 4 #[.int .i64 k,.int .i64 n,.int .i64 stripes,.int .i64 slots] w (KCfgPost w (keepFixed k n stripes slots)):=by
 have hzc:=zero_cfg
 have HCS:=hid Cfg.A_size
 have HK:Hid (keepFixed k n stripes slots=⟨7,within k 1 4,within n (within k 1 4) 6,stripes,slots⟩):=hid rfl
 rw [HK.out]
 clear HK
 obtain ⟨a0,a1⟩:=within_bd k 1 4 (by omega)
 have HWK:=hid (within_c k 1 4)
 generalize within k 1 4=kk at *
 have hb3:=built_cfg3
 go_enter Tryz.func4,Tryz.ntmps4
 go_wp2_with fail
 refine (HWK.out _ (by omega) (by omega) (by omega)).mono ?_
 rintro e w2 ⟨rfl,rfl⟩
 generalize hst:stripes=st at *
 generalize hsl:slots=sl at *
 clear hst hsl
 have e1:(w.alloc (.cells (Cfg.A Cfg.zero) 26)).heap.size=w.heap.size+1:=by simp
 have hbs:((w.alloc (.cells (Cfg.A Cfg.zero) 26)).alloc (.cells (Cfg.A Cfg.zero) 26)).heap[w.heap.size+1]?=some (.cells (Cfg.A Cfg.zero) 26 (0,0)):=by rw [<- e1]; exact heap_alloc_new _ _
 have HB3:Hid (Tryz.prog.built 26 [(0,.int .i64 7),(1,.int .i64 kk),(3,.int .i64 st),(4,.int .i64 sl)]=some (Cfg.A ⟨7,kk,0,st,sl⟩)):=hid (built_cfg3 7 kk st sl)
 clear hb3
 have c1:(((w.alloc (.cells (Cfg.A Cfg.zero) 26)).alloc (.cells (Cfg.A Cfg.zero) 26)).setRow (w.heap.size+1) (Cfg.A ⟨7,kk,0,st,sl⟩)).cell? ⟨w.heap.size+1,1,none⟩=some (.int .i64 kk):=(Zaf (setRow_heap _ _ _ _ _ _ hbs)).trans (Cfg.A1 _)
 go_wp2_with (first
  | (refine Zao rfl 26 _ rfl (Cfg.A ⟨7,kk,0,st,sl⟩) ?_ ?_; (simp only [List.map_toArray,List.map_cons,List.map_nil,Act.eval]; simp only [Array.getD_eq_getD_getElem?,List.getElem?_toArray,List.getElem?_cons_succ,List.getElem?_cons_zero,Option.getD_some]; exact HB3.out))
  | (refine Zaa rfl 26 _ _ rfl (w.heap.size+1) rfl (Cfg.A ⟨7,kk,0,st,sl⟩) _ rfl 26 ?_ hbs ?_ ?_ ?_; (rw [HCS.out]; exact aggCfg); (rw [HCS.out,HCS.out]); exact Cfg.A_one _))
 have HO:Hid (KCBlk (((w.alloc (.cells (Cfg.A Cfg.zero) 26)).alloc (.cells (Cfg.A Cfg.zero) 26)).setRow (w.heap.size+1) (Cfg.A ⟨7,kk,0,st,sl⟩)) (w.heap.size+1) ⟨7,kk,0,st,sl⟩):=hid (setRow_heap _ _ _ _ _ _ hbs)
 have HR:Hid (KCBlk (((w.alloc (.cells (Cfg.A Cfg.zero) 26)).alloc (.cells (Cfg.A Cfg.zero) 26)).setRow (w.heap.size+1) (Cfg.A ⟨7,kk,0,st,sl⟩)) w.heap.size Cfg.zero):=hid (by
  have:=(Zag ((w.alloc (.cells (Cfg.A Cfg.zero) 26)).alloc (.cells (Cfg.A Cfg.zero) 26)) (w.heap.size+1) (Cfg.A ⟨7,kk,0,st,sl⟩)).at (k:=w.heap.size) (o:=.cells (Cfg.A Cfg.zero) 26) (by rw [heap_alloc_old _ _ (by simp)]; exact heap_alloc_new _ _) (by omega)
  exact this)
 have HX:Hid (Ext w (((w.alloc (.cells (Cfg.A Cfg.zero) 26)).alloc (.cells (Cfg.A Cfg.zero) 26)).setRow (w.heap.size+1) (Cfg.A ⟨7,kk,0,st,sl⟩))):=hid (Ext.then (((Ext.refl w).alloc _).alloc _) (Zag _ _ _) (fun i hi=>by omega))
 clear hbs c1 HB3
 generalize ((w.alloc (.cells (Cfg.A Cfg.zero) 26)).alloc (.cells (Cfg.A Cfg.zero) 26)).setRow (w.heap.size+1) (Cfg.A ⟨7,kk,0,st,sl⟩)=W at *
 refine (within_c n kk 6 W (by omega) (by omega) (by omega)).mono ?_
 rintro e w2 ⟨rfl,rfl⟩
 generalize within n kk 6=nn at *
 have c2:W.cell? ⟨w.heap.size+1,2,none⟩=some (.int .i64 0):=(Zaf HO.out).trans (Cfg.A2 _)
 have f2:W.frozen? ⟨w.heap.size+1,2,none⟩=false:=Za7 HO.out
 have HO2:Hid ((W.setCell ⟨w.heap.size+1,2,none⟩ (.int .i64 nn)).heap[w.heap.size+1]?=some (.cells (Cfg.A ⟨7,kk,nn,st,sl⟩) 26 (0,0))):=hid (by
  have:=Zay HO.out (i:=2) (.int .i64 nn)
  rw [Cfg.A_n] at this
  exact this)
 have HR2:Hid ((W.setCell ⟨w.heap.size+1,2,none⟩ (.int .i64 nn)).heap[w.heap.size]?=some (.cells (Cfg.A Cfg.zero) 26 (0,0))):=hid ((Zas _ (by omega)).trans HR.out)
 have HX2:Hid (Ext w (W.setCell ⟨w.heap.size+1,2,none⟩ (.int .i64 nn))):=hid (Only.setCell (F:=fun _=>False) HX.out (.inl (by show _<=w.heap.size+1; omega)) _)
 go_wp2_with (first
  | (refine Zac rfl 26 _ rfl ⟨w.heap.size+1,0,none⟩ rfl (Cfg.A ⟨7,kk,nn,st,sl⟩) (Zat _) (Zai HO2.out) ?_)
  | (refine Zaa rfl 26 _ _ rfl w.heap.size rfl (Cfg.A ⟨7,kk,nn,st,sl⟩) _ rfl 26 ?_ HR2.out ?_ ?_ ?_; (rw [HCS.out]; exact aggCfg); (rw [HCS.out,HCS.out]); exact Cfg.A_one _))
 refine bodyPost_ret (results_cell_row Tryz.results4 _ _ w.heap.size _ (Cfg.A ⟨7,kk,nn,st,sl⟩) _ _ rfl (setRow_heap _ _ _ _ _ _ HR2.out) Tryz.underlying26 rfl (by rw [HCS.out]; exact aggCfg.2)) rfl ?_
 exact ⟨rfl,Ext.then HX2.out (Zag _ _ _) (fun i hi=>by omega)⟩
theorem keepFixed_good (k n stripes slots:Int) (h1:1<=stripes) (h2:stripes<=64) (h3:1<=slots) (h4:slots<=4):(keepFixed k n stripes slots).Good:=by
 obtain ⟨a0,a1⟩:=within_bd k 1 4 (by omega)
 obtain ⟨b0,b1⟩:=within_bd n (within k 1 4) 6 (by omega)
 exact ⟨by show (1:Int)<=7; omega,by show (7:Int)<=2147483647; omega,by show within n (within k 1 4) 6<=8; omega,a0,b0,h1,h2,h3,h4⟩
theorem keepFixed_k4 (k n stripes slots:Int):(keepFixed k n stripes slots).k<=4:=(within_bd k 1 4 (by omega)).2
structure VX (w0 w:World) (S:Nat->Prop) (r:Nat) (R:Rck) (gc:Nat) (c:Cfg) (g:Nat) (v:Vol):Prop where
 ve:VE w0 w S r R
 cfg:CBlkAt w gc c
 cfgS:S gc
 vol:VolAt w g r v
 gS:S g
 gw:w0.heap.size<=g
 ne:gc≠g
namespace VX
variable {w0 w w':World} {S T:Nat->Prop} {r g gc:Nat} {R R':Rck} {c:Cfg} {v v':Vol}
theorem rack (h:VX w0 w S r R gc c g v):RackAt S w r R:=h.ve.rack
theorem ext (h:VX w0 w S r R gc c g v):Ext w0 w:=h.ve.ext
theorem more (h:VX w0 w S r R gc c g v) (e:Ext w w'):VX w0 w' S r R gc c g v:=⟨h.ve.more e,e.at h.cfg,h.cfgS,h.vol.ext e,h.gS,h.gw,h.ne⟩
end VX
def GAt (w:World) (b:Nat) (G:Nat->Int):Prop:=∃ C:Array Value,w.heap[b]?=some (.cells C 3 (0,0))/\C.size=4/\∀ x,x < 4->C[x]?=some (.int .i64 (G x))
namespace GAt
variable {w w':World} {b:Nat} {G:Nat->Int}
end GAt
end Go.Proofs.YtgjnnbomnoafcaaGreat
namespace Go.Proofs.YtgjnnbomnoafcaaGreat
set_option linter.unusedVariables false
theorem VH.start {c:Cfg} (hc:c.Good) (k4:c.k<=4) (n6:c.n<=6) {m:Nat} (hm:c.sectors<=(m:Int)):∃ R1 R2,(Rck.new c.n.toNat m).vmake c=(none,R1)/\R1.vopen=(none,R2,c,1)/\VH R2 c m true (VH.jNew c) (VH.fNew c)/\VV c 1 (VH.jNew c) (VH.fNew c):=by
 obtain ⟨R1,e1,h1⟩:=(VH.new hc hm).make
 obtain ⟨R2,cur1,e2,h2,v2,hle⟩:=h1.opened k4 n6 (VH.vv_new hc)
 have hc1:cur1=1:=by have:=v2.cur; omega
 subst hc1
 exact ⟨R1,R2,e1,e2,h2,v2⟩
structure Nums (R:Rck) (c:Cfg) (m:Nat) (i:Nat) (G:Nat->Int):Prop where
 ex:∃ j f,VH R c m true j f/\VV c (1+(i:Int)) j f/\∀ x,x < c.stripes.toNat->∃ l,f x=some (G x,l)
namespace Nums
variable {R:Rck} {c:Cfg} {m i:Nat} {G:Nat->Int}
end Nums
structure Fewer (R0 R:Rck) (c:Cfg) (m:Nat) (t:Nat):Prop where
 live:Live R c.n.toNat m
 same:∀ d:Nat,d < c.n.toNat->(d < c.k.toNat - 1\/t<=d)->R.dsk (d:Nat)=R0.dsk (d:Nat)
 dead:∀ d:Nat,d < c.n.toNat->c.k.toNat - 1<=d->d < t->(R.dsk (d:Nat)).dead=true
namespace Fewer
variable {R0 R:Rck} {c:Cfg} {m t:Nat}
end Fewer
end Go.Proofs.YtgjnnbomnoafcaaGreat
