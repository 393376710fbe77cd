/- Texts of one proof, joined: SupG, SameBlk2, WearRow, HadAt, KindNil. -/
import Derived.Test.YtkipjmbplmdaaaaGreatDoorMR
import Derived.Test.YtkipjmbplmdaaaaGreatDoorMA
import Derived.Test.YtkipjmbplmdaaaaGreatDoorMW
import Derived.Test.YtkipjmbplmdaaaaGreatDoorMJ
import Derived.Test.YtkipjmbplmdaaaaGreatDoorProg
import Derived.Deep.SlicePairs
import Derived.OpenShut
import Derived.RowKit
import Derived.Test.YtkipjmbplmdaaaaGreatDoorMI
import Derived.Test.YtkipjmbplmdaaaaGreatDoorMAC
import Derived.Test.YtkipjmbplmdaaaaGreatDoorMC
set_option linter.unusedVariables false
set_option linter.unusedSimpArgs false
namespace Go.Proofs.YtkipjmbplmdaaaaGreatDoor
set_option linter.unusedVariables false
open Go Go.RowKit
def keepCfg (k n stripes slots:Int):Cfg:=⟨7,within k 1 4,within n (within k 1 4) 6,within stripes 1 6,within slots 1 3⟩
theorem keepCfg_good (k n stripes slots:Int):(keepCfg k n stripes slots).Good:=by
 obtain ⟨a0,a1⟩:=within_bd k 1 4 (by omega)
 obtain ⟨b0,b1⟩:=within_bd n (within k 1 4) 6 (by omega)
 obtain ⟨c0,c1⟩:=within_bd stripes 1 6 (by omega)
 obtain ⟨d0,d1⟩:=within_bd slots 1 3 (by omega)
 exact ⟨by show (1:Int)<=7; omega,by show (7:Int)<=2147483647; omega,by show within n (within k 1 4) 6<=8; omega,a0,b0,c0,by show within stripes 1 6<=64; omega,d0,by show within slots 1 3<=4; omega⟩
set_option maxRecDepth 100000 in
set_option maxHeartbeats 1000000 in
theorem kconfig_c (k n stripes slots:Int) (w:World):Calls Tryz.prog 18 #[.int .i64 k,.int .i64 n,.int .i64 stripes,.int .i64 slots] w (KCfgPost w (keepCfg k n stripes slots)):=by
 have hzc:=Zbz
 have HCS:=hid Cfg.A_size
 have HK:Hid (keepCfg k n stripes slots=⟨7,within k 1 4,within n (within k 1 4) 6,within stripes 1 6,within slots 1 3⟩):=hid rfl
 rw [HK.out]
 clear HK
 obtain ⟨a0,a1⟩:=within_bd k 1 4 (by omega)
 have HWK:=hid (within_c k 1 4)
 generalize within k 1 4=kk at *
 have hb3:=built_cfg3
 go_enter Tryz.func18,Tryz.ntmps18
 go_wp2_with fail
 refine (HWK.out _ (by omega) (by omega) (by omega)).mono ?_
 rintro e w2 ⟨rfl,rfl⟩
 go_wp2_with fail
 refine (within_c stripes 1 6 _ (by omega) (by omega) (by omega)).mono ?_
 rintro e w2 ⟨rfl,rfl⟩
 go_wp2_with fail
 refine (within_c slots 1 3 _ (by omega) (by omega) (by omega)).mono ?_
 rintro e w2 ⟨rfl,rfl⟩
 generalize within stripes 1 6=st at *
 generalize within slots 1 3=sl at *
 have e1:(w.alloc (.cells (Cfg.A Cfg.zero) 23)).heap.size=w.heap.size+1:=by simp
 have hbs:((w.alloc (.cells (Cfg.A Cfg.zero) 23)).alloc (.cells (Cfg.A Cfg.zero) 23)).heap[w.heap.size+1]?=some (.cells (Cfg.A Cfg.zero) 23 (0,0)):=by rw [<- e1]; exact heap_alloc_new _ _
 have HB3:Hid (Tryz.prog.built 23 [(0,.int .i64 7),(1,.int .i64 kk),(3,.int .i64 st),(4,.int .i64 sl)]=some (Cfg.A ⟨7,kk,0,st,sl⟩)):=hid (built_cfg3 7 kk st sl)
 clear hb3
 have c1:(((w.alloc (.cells (Cfg.A Cfg.zero) 23)).alloc (.cells (Cfg.A Cfg.zero) 23)).setRow (w.heap.size+1) (Cfg.A ⟨7,kk,0,st,sl⟩)).cell? ⟨w.heap.size+1,1,none⟩=some (.int .i64 kk):=(Zag (setRow_heap _ _ _ _ _ _ hbs)).trans (Cfg.A1 _)
 go_wp2_with (first
  | (refine Zat rfl 23 _ rfl (Cfg.A ⟨7,kk,0,st,sl⟩) ?_ ?_; (simp only [List.map_toArray,List.map_cons,List.map_nil,Act.eval]; simp only [Array.getD_eq_getD_getElem?,List.getElem?_toArray,List.getElem?_cons_succ,List.getElem?_cons_zero,Option.getD_some]; exact HB3.out))
  | (refine Zaa rfl 23 _ _ rfl (w.heap.size+1) rfl (Cfg.A ⟨7,kk,0,st,sl⟩) _ rfl 23 ?_ hbs ?_ ?_ ?_; (rw [HCS.out]; exact aggCfg); (rw [HCS.out,HCS.out]); exact Cfg.A_one _))
 have HO:Hid (CBlk (((w.alloc (.cells (Cfg.A Cfg.zero) 23)).alloc (.cells (Cfg.A Cfg.zero) 23)).setRow (w.heap.size+1) (Cfg.A ⟨7,kk,0,st,sl⟩)) (w.heap.size+1) ⟨7,kk,0,st,sl⟩):=hid (setRow_heap _ _ _ _ _ _ hbs)
 have HR:Hid (CBlk (((w.alloc (.cells (Cfg.A Cfg.zero) 23)).alloc (.cells (Cfg.A Cfg.zero) 23)).setRow (w.heap.size+1) (Cfg.A ⟨7,kk,0,st,sl⟩)) w.heap.size Cfg.zero):=hid (by
  have:=(Zaf ((w.alloc (.cells (Cfg.A Cfg.zero) 23)).alloc (.cells (Cfg.A Cfg.zero) 23)) (w.heap.size+1) (Cfg.A ⟨7,kk,0,st,sl⟩)).at (k:=w.heap.size) (o:=.cells (Cfg.A Cfg.zero) 23) (by rw [heap_alloc_old _ _ (by simp)]; exact heap_alloc_new _ _) (by omega)
  exact this)
 have HX:Hid (Ext w (((w.alloc (.cells (Cfg.A Cfg.zero) 23)).alloc (.cells (Cfg.A Cfg.zero) 23)).setRow (w.heap.size+1) (Cfg.A ⟨7,kk,0,st,sl⟩))):=hid (Ext.then (((Ext.refl w).alloc _).alloc _) (Zaf _ _ _) (fun i hi=>by omega))
 clear hbs c1 HB3
 generalize ((w.alloc (.cells (Cfg.A Cfg.zero) 23)).alloc (.cells (Cfg.A Cfg.zero) 23)).setRow (w.heap.size+1) (Cfg.A ⟨7,kk,0,st,sl⟩)=W at *
 refine (within_c n kk 6 W (by omega) (by omega) (by omega)).mono ?_
 rintro e w2 ⟨rfl,rfl⟩
 generalize within n kk 6=nn at *
 have c2:W.cell? ⟨w.heap.size+1,2,none⟩=some (.int .i64 0):=(Zag HO.out).trans (Cfg.A2 _)
 have f2:W.frozen? ⟨w.heap.size+1,2,none⟩=false:=Zba HO.out
 have HO2:Hid ((W.setCell ⟨w.heap.size+1,2,none⟩ (.int .i64 nn)).heap[w.heap.size+1]?=some (.cells (Cfg.A ⟨7,kk,nn,st,sl⟩) 23 (0,0))):=hid (by
  have:=Zaz HO.out (i:=2) (.int .i64 nn)
  rw [Cfg.A_n] at this
  exact this)
 have HR2:Hid ((W.setCell ⟨w.heap.size+1,2,none⟩ (.int .i64 nn)).heap[w.heap.size]?=some (.cells (Cfg.A Cfg.zero) 23 (0,0))):=hid ((Zao _ (by omega)).trans HR.out)
 have HX2:Hid (Ext w (W.setCell ⟨w.heap.size+1,2,none⟩ (.int .i64 nn))):=hid (Only.setCell (F:=fun _=>False) HX.out (.inl (by show _<=w.heap.size+1; omega)) _)
 go_wp2_with (first
  | (refine Zac rfl 23 _ rfl ⟨w.heap.size+1,0,none⟩ rfl (Cfg.A ⟨7,kk,nn,st,sl⟩) (Zap _) (Zae HO2.out) ?_)
  | (refine Zaa rfl 23 _ _ rfl w.heap.size rfl (Cfg.A ⟨7,kk,nn,st,sl⟩) _ rfl 23 ?_ HR2.out ?_ ?_ ?_; (rw [HCS.out]; exact aggCfg); (rw [HCS.out,HCS.out]); exact Cfg.A_one _))
 refine bodyPost_ret (results_cell_row Tryz.results18 _ _ w.heap.size _ (Cfg.A ⟨7,kk,nn,st,sl⟩) _ _ rfl (setRow_heap _ _ _ _ _ _ HR2.out) Tryz.underlying23 rfl (by rw [HCS.out]; exact aggCfg.2)) rfl ?_
 exact ⟨rfl,Ext.then HX2.out (Zaf _ _ _) (fun i hi=>by omega)⟩
theorem block_neq2 (l m:List Nat) (hl:l.length=108) (hm:m.length=108) (w:World):(binOp .neq 63 (.agg (bA l)) (.agg (bA m))).run Tryz.prog w=.ok (.bool (!(l == m))) w:=by
 rw [run_neq_struct]
 have h:=run_bytes_eq 9998 63 l m hl hm Tryz.underlying63 w
 rw [show (Op.equalIn 10000 63 (.agg (bA l)) (.agg (bA m))).run Tryz.prog w=.ok (l == m) w from h]; rfl
attribute [local irreducible] wpSQ
set_option maxRecDepth 100000 in
set_option maxHeartbeats 1000000 in
theorem sameblk2_c (l m:List (List Nat)) (hl:∀ b∈l,b.length=108) (hm:∀ b∈m,b.length=108) (hlm:m.length=l.length) (hn:l.length<=8) (a1 a2:Option Addr) (c1 c2:Nat) (w:World) (h1:BlksAt w a1 l) (h2:BlksAt w a2 m) :
  Calls Tryz.prog 26 #[.slice a1 l.length c1,.slice a2 m.length c2] w fun e w'=>e=.returned (.bool (decide (l=m)))/\Ext w w':=by
 rw [hlm]
 have HM:=hid hm
 have HLM:=hid hlm
 clear hm hlm
 have H1:=hid h1
 have H2:=hid h2
 have HL:=hid hl
 have hn8:(l.length:Int)<=8:=by omega
 have hne:((l.length:Int) != (l.length:Int))=false:=by simp
 clear h1 h2 hl
 go_enter Tryz.func26,Tryz.ntmps26
 go_wp2
 clear hne
 go_loopw [5] (fun t wr=>∃ j:Nat,t=.int .i64 j/\j<=l.length/\(∀ i,i < j->l[i]?=m[i]?)/\Ext w wr) (fun t _=>l.length - (intOf t).toNat)
 case atStart=>exact ⟨0,rfl,by omega,fun i hi=>by omega,Ext.refl _⟩
 case round =>
  obtain ⟨j,rfl,hj,heq,hx⟩:=hrel
  have HEQ:=hid heq
  clear heq
  by_cases hlt:j < l.length
  ·
   have j0:(0:Int)<=(j:Int):=by omega
   have j1:(j:Int) < (l.length:Int):=by omega
   obtain ⟨b,hb⟩:∃ b,l[j]?=some b:=⟨l[j],List.getElem?_eq_getElem hlt⟩
   have hbl:=HL.out b (List.mem_of_getElem? hb)
   obtain ⟨b',hb'⟩:∃ b',m[j]?=some b':=⟨m[j]'(by rw [HLM.out]; exact hlt),List.getElem?_eq_getElem _⟩
   have hbl':=HM.out b' (List.mem_of_getElem? hb')
   obtain ⟨g1,rfl,k1⟩:=H1.out j b hb
   obtain ⟨g2,rfl,k2⟩:=H2.out j b' hb'
   have xd:Ext wr wr.drew:=(Ext.refl wr).drew
   have cells:∀ (b:List Nat) (hbl:b.length=108) (g:Nat),(∀ q,q < 108->w.cell? ⟨g,j*108+q,none⟩=some (.int .u8 (nth b q)))->∀ x:SW Ext wr.drew,∀ q v,(bA b).toList[q]?=some v->x.w.cell? ((⟨g,j*108,none⟩:Addr).add q)=some v:=fun b hbl g hk x q v hv=>by
    have hq:q < 108:=by
     rcases Nat.lt_or_ge q 108 with h | h
     ·
      exact h
     ·
      rw [List.getElem?_eq_none (by rw [Array.length_toList,Za0,hbl]; exact h)] at hv; cases hv
    have e:(⟨g,j*108,none⟩:Addr).add q=⟨g,j*108+q,none⟩:=by unfold Addr.add; split<;>simp_all
    have h:=Zb0 b q (by rw [hbl]; exact hq)
    rw [Array.getElem?_toList,h] at hv
    rw [e,<- hv]
    exact Ext.cell (Ext.trans hx (Ext.trans xd x.ext)) (hk q hq)
   have L1:=hid (cells b hbl g1 k1)
   have L2:=hid (cells b' hbl' g2 k2)
   have HSZ:=hid (show (bA b).size=108 by rw [Za0]; exact hbl)
   have HSY:=hid (show (bA b').size=108 by rw [Za0]; exact hbl')
   have HNE:=hid (block_neq2 b b' hbl hbl')
   have HB:=hid hb; have HB':=hid hb'
   have HX:=hid hx
   clear cells k1 k2 hb hbl hx hb' hbl'
   go_wp2_with fail
   refine Zan (S:=Ext) (.fin [0,1,2,3,4,5,6,7,8]) (by kernel_rfl) (by kernel_rfl) (fun _ _ d _ _ h=>by cases d<;>exact h) ?_
   rw [wpS]
   simp only [opsAt,opA,opB,opC,opD,opE,opF,opG]
   iterate 3 ((refine Zab (fun K hK=>?_); go_simp; refine hK _ ?_; clear hK K))
   refine Zaj 63 _ rfl ⟨g1,j*108,none⟩ rfl (bA b) rfl (by rw [HSZ.out]; exact aggBlock) L1.out ?_
   iterate 3 ((refine Zab (fun K hK=>?_); go_simp; refine hK _ ?_; clear hK K))
   refine Zaj 63 _ rfl ⟨g2,j*108,none⟩ rfl (bA b') rfl (by rw [HSY.out]; exact aggBlock) L2.out ?_
   refine wpSQ_eql .neq 63 _ _ _ rfl (bA b) (bA b') rfl rfl (.bool (!(b == b'))) rfl (fun w=>block_guard _ _ _ _ _ w) HNE.out ?_
   refine Zah ?_
   intro W hW
   have HXW:=hid (Ext.trans HX.out (Ext.trans xd hW))
   clear hW L1 L2
   by_cases hbb:b=b'
   ·
    have hq:(!(b == b'))=false:=by rw [hbb]; simp
    rw [hq]
    have HQ:=hid hbb
    clear hbb hq
    go_wp2
    go_roundw
    case rel=>exact ⟨j+1,by go_num,by omega,fun i hi=>by
     by_cases e:i=j
     ·
      rw [e,HB.out,HB'.out,HQ.out]
     ·
      exact HEQ.out i (by omega),HXW.out⟩
    case measure=>simp [intOf]; omega
   ·
    have hq:(!(b == b'))=true:=by simpa using hbb
    rw [hq]
    have HQ:=hid (show l≠m from fun q=>hbb (by have:=HB.out; rw [q,HB'.out] at this; cases this; rfl))
    clear hbb hq
    go_wp2
    go_ret
    exact ⟨by rw [decide_eq_false HQ.out]; rfl,HXW.out⟩
  ·
   obtain rfl:l.length=j:=by omega
   have HX:=hid hx
   have HQ:=hid (show l=m from List.ext_getElem? fun i=>by
    by_cases e:i < l.length
    ·
     exact HEQ.out i e
    ·
     rw [List.getElem?_eq_none (by omega),List.getElem?_eq_none (by rw [HLM.out]; omega)])
   clear hx
   go_wp2
   go_ret
   exact ⟨by rw [decide_eq_true HQ.out]; rfl,HX.out⟩
end Go.Proofs.YtkipjmbplmdaaaaGreatDoor
namespace Go.Proofs.YtkipjmbplmdaaaaGreatDoor
set_option linter.unusedVariables false
open Go Go.RowKit
def WrA (k d s q x:Int) (ba:Option Addr) (bl bc:Nat):Array Value:=#[.int .i64 k,.int .i64 d,.int .i64 s,.int .i64 q,.int .u32 x,.slice ba bl bc]
theorem aggWr:AggType Tryz.prog 53 6:=⟨by kernel_rfl,by kernel_rfl⟩
theorem zero_wr (w:World):Sem.run Tryz.prog (zeroValue 53) w=.ok (.agg (WrA 0 0 0 0 0 none 0 0)) w:=by kernel_rfl
theorem WrA_one (k d s q x:Int) (ba:Option Addr) (bl bc:Nat):∀ v∈(WrA k d s q x ba bl bc).toList,v.oneCell'=true:=by
 intro v hv
 simp only [WrA,List.mem_cons,List.not_mem_nil,or_false] at hv
 rcases hv with rfl | rfl | rfl | rfl | rfl | rfl<;>rfl
def WearsAt (w:World) (a:Option Addr) (len:Nat):Prop:=∀ i,i < len->∃ b off k d s q x ba bl bc,a=some ⟨b,off,none⟩/\b < w.heap.size/\0<=x/\x < 4294967296/\∀ y v,(WrA k d s q x ba bl bc).toList[y]?=some v->w.cell? ⟨b,off+i*6+y,none⟩=some v
set_option maxRecDepth 100000 in
theorem open_wears {H:Type} {enc:TypeId × Value->H} {w:World} {base:Nat} {spare:Nat->Bool} {held:Bool} {fuel:Nat} {a:Option Addr} {len cap:Nat} {x:DataW H × List MemPlace} (h:DataW.trod enc Tryz.prog w base spare held fuel 47 [.slice a len cap]=some x):WearsAt w a len:=by
 intro i hi
 rcases Go.Deep.open_slice Tryz.underlying47 h with ⟨hcs,_⟩ | ⟨ad,len',cap',m,n,D,Pl,hcs,hb,hl,hm,hmm,_,hx⟩
 ·
  simp at hcs; omega
 ·
  simp only [List.cons.injEq,Value.slice.injEq,and_true] at hcs
  obtain ⟨rfl,rfl,rfl⟩:=hcs
  have him:i < m:=by
   rw [hmm]; split<;>omega
  obtain ⟨cs',h1,h2⟩:=hx i him
  have ce:Tryz.prog.cellsOf 53=6:=by kernel_rfl
  have c3:Tryz.prog.cellsOf 3=1:=by kernel_rfl
  have c5:Tryz.prog.cellsOf 51=1:=by kernel_rfl
  have c4:Tryz.prog.cellsOf 31=1:=by kernel_rfl
  rw [ce] at h1
  obtain ⟨_,hlen,hcell⟩:=World.cells?_some h1
  obtain ⟨xs,k,hk,hxy,_,hxl,hf⟩:=DataW.trod_struct Tryz.underlying53 h2
  match xs,hxl,cs',hlen with
  | [y0,y1,y2,y3,y4,y5],_,[v0,v1,v2,v3,v4,v5],_ =>
   have g0:=hf 0 _ rfl
   have g1:=hf 1 _ rfl
   have g2:=hf 2 _ rfl
   have g3:=hf 3 _ rfl
   have g4:=hf 4 _ rfl
   have g5:=hf 5 _ rfl
   simp [c3,c4,c5] at g0 g1 g2 g3 g4 g5
   obtain ⟨z0,e0,_,_⟩:=DataW.trod_int Tryz.underlying3 g0
   obtain ⟨z1,e1,_,_⟩:=DataW.trod_int Tryz.underlying3 g1
   obtain ⟨z2,e2,_,_⟩:=DataW.trod_int Tryz.underlying3 g2
   obtain ⟨z3,e3,_,_⟩:=DataW.trod_int Tryz.underlying3 g3
   obtain ⟨z4,e4,_,hw⟩:=DataW.trod_int Tryz.underlying31 g4
   obtain ⟨ba,bl,bc,e5⟩:∃ ba bl bc,v5=Value.slice ba bl bc:=by
    rcases Go.Deep.open_slice Tryz.underlying51 g5 with ⟨q,_⟩ | ⟨p1,p2,p3,_,_,_,_,q,_⟩
    ·
     exact ⟨none,0,0,by simpa using q⟩
    ·
     exact ⟨some p1,p2,p3,by simpa using q⟩
   simp only [List.cons.injEq,and_true] at e0 e1 e2 e3 e4
   subst e0 e1 e2 e3 e4 e5
   have hc0:=hcell 0 (by omega)
   have hxw:0<=z4/\z4 < 4294967296:=by
    have:=hw
    simp only [Lit.wf,Bool.and_eq_true,decide_eq_true_eq] at this
    simp only [IntKind.min,IntKind.max,IntKind.signed,IntKind.bits,Bool.false_eq_true,if_false] at this
    omega
   have hz0:∃ v,w.cell? (ad.add 0)=some v:=by
    obtain ⟨cs0,k1,_⟩:=hx 0 (by omega)
    rw [ce] at k1
    obtain ⟨_,k2,k3⟩:=World.cells?_some k1
    have k4:=k3 0 (by omega)
    rw [Go.Deep.add_add] at k4
    match cs0,k2 with
    | v::_,_=>exact ⟨v,k4⟩
   obtain ⟨b,off,sp⟩:=ad
   have hcell':∀ y,y < 6->w.cell? ((⟨b,off,sp⟩:Addr).add (i*6+y))=[Value.int .i64 z0,.int .i64 z1,.int .i64 z2,.int .i64 z3,.int .u32 z4,.slice ba bl bc][y]?:=fun y hy=>by
    have:=hcell y hy
    rw [Go.Deep.add_add] at this
    exact this
   have hbl:=World.block_lt_of_cell? w _ (hcell' 0 (by omega))
   have hbl':b < w.heap.size:=by
    unfold Addr.add at hbl
    split at hbl<;>simp_all
   rcases sp with _ | sp
   ·
    have ea:∀ y,(⟨b,off,none⟩:Addr).add y=⟨b,off+y,none⟩:=fun y=>by unfold Addr.add; split<;>simp_all
    refine ⟨b,off,z0,z1,z2,z3,z4,ba,bl,bc,rfl,hbl',hxw.1,hxw.2,fun y v hv=>?_⟩
    have hy:y < 6:=by
     rcases Nat.lt_or_ge y 6 with q | q
     ·
      exact q
     ·
      rw [List.getElem?_eq_none (by simpa [WrA] using q)] at hv; cases hv
    have:=hcell' y hy
    rw [ea,<- Nat.add_assoc] at this
    rw [this]
    exact hv
   ·
    exfalso
    obtain ⟨v,h1⟩:=hz0
    unfold World.cell? Addr.add at h1
    split at h1<;>simp_all
theorem infoBh:(Tryz.prog.info? 49).map (fun i=>(i.zero,i.size,i.bytes))=some (some (.slice none 0 0),1,24):=by kernel_rfl
theorem infoEn:(Tryz.prog.info? 59).map (fun i=>(i.zero,i.size,i.bytes))=some (some (.int .i64 0),1,8):=by kernel_rfl
def hadL (T:Nat->Told) (A:Nat->Option Addr) (C:Nat->Nat) (s:Nat):List (Array Value):=(List.range s).map fun t=>#[.slice (A t) (T t).1.length (C t)]
def kindL (T:Nat->Told) (s:Nat):List (Array Value):=(List.range s).map fun t=>#[.int .i64 (tellK T t)]
theorem hadL_succ (T:Nat->Told) (A:Nat->Option Addr) (C:Nat->Nat) (s:Nat) (a:Option Addr) (k:Nat):hadL T (fun t=>if t=s then a else A t) (fun t=>if t=s then k else C t) (s+1)=hadL T A C s++[#[.slice a (T s).1.length k]]:=by
 unfold hadL
 rw [List.range_succ,List.map_append]
 congr 1
 ·
  refine List.map_congr_left fun t ht=>?_
  have:t≠s:=by have:=List.mem_range.1 ht; omega
  simp [this]
 ·
  simp
theorem hadL_len (T:Nat->Told) (A:Nat->Option Addr) (C:Nat->Nat) (s:Nat):(hadL T A C s).length=s:=by simp [hadL]
theorem kindL_len (T:Nat->Told) (s:Nat):(kindL T s).length=s:=by simp [kindL]
structure HadOwn (W0 w:World) (hv kv:Value) (T:Nat->Told) (s q:Nat):Prop where
 ex:∃ (A:Nat->Option Addr) (C:Nat->Nat),OwnVs w W0.heap.size 49 1 hv (hadL T A C s)/\(∀ t,t < s->BlksAt w (A t) (T t).1) ∧
  ∀ t,t < s->(T t).1≠[]->∀ b,A t=some ⟨b,0,none⟩->W0.heap.size<=b/\b < w.heap.size/\hv.ownBlock≠some b/\kv.ownBlock≠some b
 kinds:OwnVs w W0.heap.size 59 1 kv (kindL T q)
 apart:∀ b,hv.ownBlock=some b->kv.ownBlock≠some b
 ext:Ext W0 w
namespace HadOwn
variable {W0 w w':World} {hv kv:Value} {T:Nat->Told} {s q:Nat}
theorem start (w:World) (T:Nat->Told):HadOwn w w (.slice none 0 0) (.slice none 0 0) T 0 0 :=
 ⟨⟨fun _=>none,fun _=>0,OwnVs.nil _ _ _ _,fun t ht=>(by omega),fun t ht=>(by omega)⟩,OwnVs.nil _ _ _ _,fun b hb=>(by cases hb),Ext.refl _⟩
theorem more (h:HadOwn W0 w hv kv T s q) (e:Ext w w'):HadOwn W0 w' hv kv T s q:=by
 obtain ⟨A,C,h1,h2,h3⟩:=h.ex
 exact ⟨⟨A,C,h1.ext e,fun t ht=>(h2 t ht).ext e,fun t ht hn b eb=>by
  obtain ⟨a1,a2,a3⟩:=h3 t ht hn b eb
  exact ⟨a1,Nat.lt_of_lt_of_le a2 e.size,a3⟩⟩,h.kinds.ext e,h.apart,Ext.trans h.ext e⟩
theorem lowH (h:HadOwn W0 w hv kv T s q) (b:Nat) (e:hv.ownBlock=some b):b < w.heap.size:=by
 obtain ⟨A,C,h1,_⟩:=h.ex
 exact (h1.lt b e).2
theorem lowK (h:HadOwn W0 w hv kv T s q) (b:Nat) (e:kv.ownBlock=some b):b < w.heap.size:=(h.kinds.lt b e).2
theorem addH (h:HadOwn W0 w hv kv T s q) (hs:s < 100) (a:Option Addr) (k:Nat) (hb:BlksAt w a (T s).1) (ho:∀ b,a=some ⟨b,0,none⟩->W0.heap.size<=b/\hv.ownBlock≠some b/\kv.ownBlock≠some b) :
  ∃ v' w',(Builtin.append_ #[56,56] 56 #[hv,.slice (some ⟨w.heap.size,0,none⟩) 1 1]).run Tryz.prog (w.alloc (.cells #[.slice a (T s).1.length k] 49))=.ok v' w'/\HadOwn W0 w' v' kv T (s+1) q:=by
 obtain ⟨A,C,h1,h2,h3⟩:=h.ex
 have xa:Ext w (w.alloc (.cells #[.slice a (T s).1.length k] 49)):=(Ext.refl w).alloc _
 have hsz:=h.ext.size
 obtain ⟨v',w',e1,e2,e3,e4,e5⟩:=(h1.ext xa).push (tsl:=56) Tryz.underlying56 infoBh rfl (by decide) #[.slice a (T s).1.length k] rfl (by intro u hu; simp at hu; subst hu; rfl) ⟨w.heap.size,0,none⟩ (Zae Zad) 1 (by rw [hadL_len]; omega) (by decide) (by simp; omega)
 rw [<- hadL_succ T A C s a k] at e2
 have ew:Only (fun b=>hv.ownBlock=some b) w w':=Only.trans (Ext.only xa) e3 (fun _ _ h=>h)
 have hnew:∀ b,b < w.heap.size->hv.ownBlock≠some b->v'.ownBlock≠some b:=fun b hb hn q=>by
  rcases e5 with z | z
  ·
   rw [z] at q; exact hn q
  ·
   rw [z] at q; simp at q; omega
 refine ⟨v',w',e1,⟨_,_,e2,fun t ht=>?_,fun t ht hn b eb=>?_⟩,h.kinds.only ew fun b eb q=>h.apart b q eb,fun b eb q=>?_,e4 W0 (Nat.le_refl _) (h.ext.alloc _)⟩
 ·
  by_cases z:t=s
  ·
   subst z; simp only [if_true]
   by_cases hn:(T t).1=[]
   ·
    rw [hn]; intro i b hb; simp at hb
   ·
    exact hb.only ew fun b eb q=>(ho b eb).2.1 q
  ·
   simp only [z,if_false]
   by_cases hn:(T t).1=[]
   ·
    rw [hn]; intro i b hb; simp at hb
   ·
    exact (h2 t (by omega)).only ew fun b eb q=>(h3 t (by omega) hn b eb).2.2.1 q
 ·
  by_cases z:t=s
  ·
   subst z
   simp only [if_true] at eb
   obtain ⟨a1,a2,a3⟩:=ho b eb
   have hlt:=hb.lt hn b eb
   exact ⟨a1,Nat.lt_of_lt_of_le hlt ew.size,hnew b hlt a2,a3⟩
  ·
   simp only [z,if_false] at eb
   obtain ⟨a1,a2,a3,a4⟩:=h3 t (by omega) hn b eb
   exact ⟨a1,Nat.lt_of_lt_of_le a2 ew.size,hnew b a2 a3,a4⟩
 ·
  have hlt:=(h.kinds.lt b q).2
  exact hnew b hlt (fun z=>h.apart b z q) eb
theorem addK (h:HadOwn W0 w hv kv T s q) (hs:q < 100) :
  ∃ v' w',(Builtin.append_ #[55,55] 55 #[kv,.slice (some ⟨w.heap.size,0,none⟩) 1 1]).run Tryz.prog (w.alloc (.cells #[.int .i64 (tellK T q)] 59))=.ok v' w'/\HadOwn W0 w' hv v' T s (q+1):=by
 obtain ⟨A,C,h1,h2,h3⟩:=h.ex
 have xa:Ext w (w.alloc (.cells #[.int .i64 (tellK T q)] 59)):=(Ext.refl w).alloc _
 have hsz:=h.ext.size
 obtain ⟨v',w',e1,e2,e3,e4,e5⟩:=(h.kinds.ext xa).push (tsl:=55) Tryz.underlying55 infoEn rfl (by decide) #[.int .i64 (tellK T q)] rfl (by intro u hu; simp at hu; subst hu; rfl) ⟨w.heap.size,0,none⟩ (Zae Zad) 1 (by rw [kindL_len]; omega) (by decide) (by simp; omega)
 rw [show kindL T q++[#[.int .i64 (tellK T q)]]=kindL T (q+1) from by simp [kindL,List.range_succ]] at e2
 have ew:Only (fun b=>kv.ownBlock=some b) w w':=Only.trans (Ext.only xa) e3 (fun _ _ h=>h)
 have hnew:∀ b,b < w.heap.size->kv.ownBlock≠some b->v'.ownBlock≠some b:=fun b hb hn q=>by
  rcases e5 with z | z
  ·
   rw [z] at q; exact hn q
  ·
   rw [z] at q; simp at q; omega
 refine ⟨v',w',e1,⟨A,C,h1.only ew fun b eb q=>h.apart b eb q,fun t ht=>?_,fun t ht hn b eb=>?_⟩,e2,fun b eb=>hnew b (h1.lt b eb).2 (h.apart b eb),e4 W0 (Nat.le_refl _) (h.ext.alloc _)⟩
 ·
  by_cases hn:(T t).1=[]
  ·
   rw [hn]; intro i b hb; simp at hb
  ·
   exact (h2 t ht).only ew fun b eb q=>(h3 t ht hn b eb).2.2.2 q
 ·
  obtain ⟨a1,a2,a3,a4⟩:=h3 t ht hn b eb
  exact ⟨a1,Nat.lt_of_lt_of_le a2 ew.size,a3,hnew b a2 a4⟩
end HadOwn
structure HadAt (w:World) (S:Nat->Prop) (ss:Nat) (T:Nat->Told) (hb kb:Nat) (A:Nat->Option Addr) (C:Nat->Nat):Prop where
 had:∀ t,t < ss->w.cell? ⟨hb,t,none⟩=some (.slice (A t) (T t).1.length (C t))
 kind:∀ t,t < ss->w.cell? ⟨kb,t,none⟩=some (.int .i64 (tellK T t))
 bks:∀ t,t < ss->BlksAt w (A t) (T t).1
 hS:S hb
 kS:S kb
 bS:∀ t,t < ss->(T t).1≠[]->∀ b,A t=some ⟨b,0,none⟩->S b
namespace HadAt
variable {w w':World} {S:Nat->Prop} {ss:Nat} {T:Nat->Told} {hb kb:Nat} {A:Nat->Option Addr} {C:Nat->Nat}
theorem only {P:Nat->Prop} (h:HadAt w S ss T hb kb A C) (e:Only P w w') (hP:∀ b,S b->¬P b):HadAt w' S ss T hb kb A C :=
 ⟨fun t ht=>e.cell (h.had t ht) (hP _ h.hS),fun t ht=>e.cell (h.kind t ht) (hP _ h.kS),fun t ht=>by
  by_cases hn:(T t).1=[]
  ·
   rw [hn]; intro i b hb; simp at hb
  ·
   exact (h.bks t ht).only e fun b eb=>hP b (h.bS t ht hn b eb),h.hS,h.kS,h.bS⟩
theorem ext (h:HadAt w S ss T hb kb A C) (e:Ext w w'):HadAt w' S ss T hb kb A C:=h.only (P:=fun _=>False) e fun _ _ q=>q
theorem mono {S':Nat->Prop} (h:HadAt w S ss T hb kb A C) (hS:∀ b,S b->S' b):HadAt w S' ss T hb kb A C:=⟨h.had,h.kind,h.bks,hS _ h.hS,hS _ h.kS,fun t ht hn b eb=>hS _ (h.bS t ht hn b eb)⟩
end HadAt
theorem HadOwn.at {W0 w:World} {hv kv:Value} {T:Nat->Told} {ss:Nat} (h:HadOwn W0 w hv kv T ss ss) (h0:0 < ss) :
  ∃ hb kb hc kc A C,hv=.slice (some ⟨hb,0,none⟩) ss hc/\kv=.slice (some ⟨kb,0,none⟩) ss kc/\HadAt w (fun b=>W0.heap.size<=b/\b < w.heap.size) ss T hb kb A C:=by
 obtain ⟨A,C,h1,h2,h3⟩:=h.ex
 obtain ⟨a,hc,e1,q1⟩:=h1.slice
 obtain ⟨a',kc,e2,q2⟩:=h.kinds.slice
 rw [hadL_len] at e1
 rw [kindL_len] at e2
 rcases q1 with ⟨z,_⟩ | ⟨hb,rfl,g1,g2,_,g3⟩
 ·
  have:=hadL_len T A C ss; rw [z] at this; simp at this; omega
 rcases q2 with ⟨z,_⟩ | ⟨kb,rfl,k1,k2,_,k3⟩
 ·
  have:=kindL_len T ss; rw [z] at this; simp at this; omega
 refine ⟨hb,kb,hc,kc,A,C,e1,e2,fun t ht=>?_,fun t ht=>?_,h2,⟨g1,g2⟩,⟨k1,k2⟩,fun t ht hn b eb=>⟨(h3 t ht hn b eb).1,(h3 t ht hn b eb).2.1⟩⟩
 ·
  have:=g3 t #[.slice (A t) (T t).1.length (C t)] (by unfold hadL; rw [List.getElem?_map,List.getElem?_range ht]; rfl) 0 _ rfl
  simpa using this
 ·
  have:=k3 t #[.int .i64 (tellK T t)] (by unfold kindL; rw [List.getElem?_map,List.getElem?_range ht]; rfl) 0 _ rfl
  simpa using this
end Go.Proofs.YtkipjmbplmdaaaaGreatDoor
namespace Go.Proofs.YtkipjmbplmdaaaaGreatDoor
set_option linter.unusedVariables false
open Go.RowKit Go.Extern.Stop Go.Stop Go.Extern Go
set_option maxRecDepth 100000 in
theorem As_nilE (t:Value) (w:World):Calls Tryz.prog 46 #[.nilIface,t] w fun e w'=>e=.returned (.bool false)/\w=w':=by
 go_enter Tryz.func46,Tryz.ntmps46
 go_wp2
 go_ret
 exact ⟨rfl,rfl⟩
theorem Zcz (t:TypeId) (v:Value) (w:World):(binOp .eql 37 .nilIface (.iface t v)).run Tryz.prog w=.ok (.bool false) w:=by
 have h:∀ d:Nat,(Op.equalIn (d+1) 37 .nilIface (.iface t v)).run Tryz.prog w=.ok false w:=fun d=>by simp [Op.equalIn,run_underlying Tryz.underlying37]
 simp only [binOp]
 simp [Op.equal,Op.maxDepth,h 9999]
set_option maxRecDepth 100000 in
theorem Is_nil (t:TypeId) (v:Value) (w:World):Calls Tryz.prog 45 #[.nilIface,.iface t v] w fun e w'=>e=.returned (.bool false)/\w=w':=by
 have hE:=Zcz t v
 go_enter Tryz.func45,Tryz.ntmps45
 go_wp2
 go_ret
 exact ⟨rfl,rfl⟩
set_option maxRecDepth 100000 in
set_option maxHeartbeats 2000000 in
theorem kind_nil (w:World):Calls Tryz.prog 25 #[.nilIface] w fun e w'=>e=.returned (.int .i64 0)/\Ext w w':=by
 go_enter Tryz.func25,Tryz.ntmps25
 go_wp2_with (first
  | (go_at_call 46; refine (As_nilE _ _).mono ?_; rintro e w' ⟨rfl,rfl⟩)
  | (go_at_call 45; refine (Is_nil _ _ _).mono ?_; rintro e w' ⟨rfl,rfl⟩))
 go_ret
 exact ⟨rfl,(Ext.refl w).alloc _⟩
end Go.Proofs.YtkipjmbplmdaaaaGreatDoor
