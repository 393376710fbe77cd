/- Texts of one proof, joined: SupC, SupD, SupE, SupF, Fill, Told, SuperLive, WSuperRuns, KFix, SupG. -/
import Derived.Test.YtgjnnbomnoafcaaGreatDoorUH
import Derived.Test.YtgjnnbomnoafcaaGreatDoorUB
import Derived.Test.YtgjnnbomnoafcaaGreatDoorUF
import Derived.Test.YtgjnnbomnoafcaaGreatDoorUC
import Derived.Test.YtgjnnbomnoafcaaGreatDoorUI
import Derived.Test.YtgjnnbomnoafcaaGreatDoorUG
import Derived.Test.YtgjnnbomnoafcaaGreatDoorUA
set_option linter.unusedVariables false
set_option linter.unusedSimpArgs false
namespace Go.Proofs.YtgjnnbomnoafcaaGreatDoor
set_option linter.unusedVariables false
open Go Go.RowKit
def Cfg.eqB (a b:Cfg):Bool:=a.id == b.id && (a.k == b.k && (a.n == b.n && (a.stripes == b.stripes && a.slots == b.slots)))
theorem Cfg.eqB_iff (a b:Cfg):a.eqB b=true↔a=b:=by
 rw [Cfg.ext_iff']; simp [Cfg.eqB]
theorem Cfg.eqB_self (a:Cfg):a.eqB a=true:=(Cfg.eqB_iff a a).2 rfl
theorem cfg_stood:Tryz.prog.stoodInHeld 74=false:=by kernel_rfl
theorem cfg_list:(Tryz.prog.fieldsOf 74).toList=[fld "Id" 3 0 0,fld "K" 3 1 8,fld "N" 3 2 16,fld "Stripes" 3 3 24,fld "Slots" 3 4 32]:=by unfold Program.fieldsOf; rw [Tryz.underlying74]; rfl
theorem cfg_fields:Tryz.prog.underlying 74=some (.struct (Tryz.prog.fieldsOf 74)):=by unfold Program.fieldsOf; rw [Tryz.underlying74]
set_option maxHeartbeats 400000 in
theorem cfg_eqIn (d:Nat) (f g:Cfg) (w:World):(Op.equalIn (d+2) 74 (.agg (Cfg.A f)) (.agg (Cfg.A g))).run Tryz.prog w=.ok (f.eqB g) w:=by
 rw [run_equalIn_struct w (d+1) 74 (Cfg.A f) (Cfg.A g) cfg_fields cfg_stood]
 rw [cfg_list]
 have q0:=run_part_plain (P:=Tryz.prog) w plainI (Cfg.A0 f)
 have q1:=run_part_plain (P:=Tryz.prog) w plainI (Cfg.A1 f)
 have q2:=run_part_plain (P:=Tryz.prog) w plainI (Cfg.A2 f)
 have q3:=run_part_plain (P:=Tryz.prog) w plainI (Cfg.A3 f)
 have q4:=run_part_plain (P:=Tryz.prog) w plainI (Cfg.A4 f)
 have r0:=run_part_plain (P:=Tryz.prog) w plainI (Cfg.A0 g)
 have r1:=run_part_plain (P:=Tryz.prog) w plainI (Cfg.A1 g)
 have r2:=run_part_plain (P:=Tryz.prog) w plainI (Cfg.A2 g)
 have r3:=run_part_plain (P:=Tryz.prog) w plainI (Cfg.A3 g)
 have r4:=run_part_plain (P:=Tryz.prog) w plainI (Cfg.A4 g)
 have e:∀ a b:Int,(Op.equalIn (d+1) 3 (.int .i64 a) (.int .i64 b)).run Tryz.prog w=.ok (a == b) w:=fun a b=>run_equalIn_int (P:=Tryz.prog) w d 3 .i64 .i64 a b Tryz.underlying3
 refine (Za1 (by decide) q0 r0 (e _ _)).trans ?_
 rcases h0:f.id == g.id with _ | _
 ·
  have hb:f.eqB g=false:=by unfold Cfg.eqB; simp only [h0]; rfl
  rw [hb]; rfl
 rw [if_pos rfl]
 refine (Za1 (by decide) q1 r1 (e _ _)).trans ?_
 rcases h1:f.k == g.k with _ | _
 ·
  have hb:f.eqB g=false:=by unfold Cfg.eqB; simp only [h0,h1]; rfl
  rw [hb]; rfl
 rw [if_pos rfl]
 refine (Za1 (by decide) q2 r2 (e _ _)).trans ?_
 rcases h2:f.n == g.n with _ | _
 ·
  have hb:f.eqB g=false:=by unfold Cfg.eqB; simp only [h0,h1,h2]; rfl
  rw [hb]; rfl
 rw [if_pos rfl]
 refine (Za1 (by decide) q3 r3 (e _ _)).trans ?_
 rcases h3:f.stripes == g.stripes with _ | _
 ·
  have hb:f.eqB g=false:=by unfold Cfg.eqB; simp only [h0,h1,h2,h3]; rfl
  rw [hb]; rfl
 rw [if_pos rfl]
 refine (Za1 (by decide) q4 r4 (e _ _)).trans ?_
 have hb:f.eqB g=(f.slots == g.slots):=by unfold Cfg.eqB; simp only [h0,h1,h2,h3]; rfl
 rw [hb]
 cases f.slots == g.slots<;>rfl
theorem cfg_eqAt (D:Nat) (hD:∃ d,D=d+2) (f g:Cfg) (w:World):(Op.equalIn D 74 (.agg (Cfg.A f)) (.agg (Cfg.A g))).run Tryz.prog w=.ok (f.eqB g) w:=by
 obtain ⟨d,rfl⟩:=hD
 exact cfg_eqIn d f g w
theorem cfg_eql (f g:Cfg) (w:World):(binOp .eql 74 (.agg (Cfg.A f)) (.agg (Cfg.A g))).run Tryz.prog w=.ok (.bool (f.eqB g)) w:=by
 rw [run_eql_struct]
 rw [cfg_eqAt 10000 ⟨9998,by omega⟩ f g w]; rfl
theorem cfg_guardB:Tryz.prog.eqGuardType Tryz.prog.depth 74=false:=by kernel_rfl
theorem cfg_guard (op:BinOp) (x y:Operand) (xs ys:Array Value) (w:World):(eqGuard op 74 x y (.agg xs) (.agg ys)).run Tryz.prog w=.ok () w:=run_eqGuard_agg w op 74 x y xs ys cfg_guardB
theorem Zas (c:Cfg):AggType Tryz.prog 74 (Cfg.A c).size:=by rw [Cfg.A_size]; exact aggCfg
set_option maxRecDepth 100000 in
set_option maxHeartbeats 1200000 in
theorem sfits_c {S:Nat->Prop} {w:World} {r:Nat} {R:Rck} (h:RackAt S w r R) (c:Cfg) :
  Calls Tryz.prog 130 #[.pointer (some ⟨r,0,none⟩),.agg (Cfg.A c)] w fun e w'=>e=.returned (.bool (R.fits c))/\Ext w w':=by
 obtain ⟨W0,hW0⟩:∃ W,w.alloc (.cells (Cfg.A c) 74)=W:=⟨_,rfl⟩
 have X0:Ext w W0:=hW0▸(Ext.refl w).alloc _
 have xd:Ext W0 W0.drew:=(Ext.refl W0).drew
 have hc:W0.heap[w.heap.size]?=some (.cells (Cfg.A c) 74 (0,0)):=hW0▸heap_alloc_new _ _
 have lc:Hid (∀ x:SW Ext W0.drew,∀ j v,(Cfg.A c).toList[j]?=some v->x.w.cell? ((⟨w.heap.size,0,none⟩:Addr).add j)=some v):=hid fun x=>Zai ((Ext.trans xd x.ext).at hc)
 have c2:∀ x:SW Ext W0.drew,x.w.cell? ⟨w.heap.size,2,none⟩=some (.int .i64 c.n):=fun x=>(Zae ((Ext.trans xd x.ext).at hc)).trans (Cfg.A2 c)
 have rc:Hid (∀ x:SW Ext W0.drew,Calls Tryz.prog 135 #[.agg (Cfg.A c)] x.w fun e w''=>e=.returned (.bool c.right)/\Ext x.w w''):=hid fun x=>sright_c c x.w
 have nc:Hid (∀ x:SW Ext W0.drew,Calls Tryz.prog 40 #[.pointer (some ⟨r,0,none⟩)] x.w fun e w''=>e=.returned (.int .i64 R.l.length)/\Ext x.w w''):=hid fun x =>
  (at_n (h.ext (Ext.trans X0 (Ext.trans xd x.ext)))).mono fun e w'' he=>⟨he.1,he.2▸Ext.refl _⟩
 have sc:Hid (∀ x:SW Ext W0.drew,Calls Tryz.prog 41 #[.pointer (some ⟨r,0,none⟩)] x.w fun e w''=>e=.returned (.int .i64 R.sectors)/\Ext x.w w''):=hid fun x =>
  (at_sectors (h.ext (Ext.trans X0 (Ext.trans xd x.ext)))).mono fun e w'' he=>⟨he.1,he.2▸Ext.refl _⟩
 have HX0:=hid X0
 have HF:Hid (R.fits c=(c.right && decide (c.n=(R.l.length:Int)) && decide (c.sectors<=(R.sectors:Int)))):=hid rfl
 have HAG:=hid (Zas c)
 clear h hc X0
 go_enter Tryz.func130,Tryz.ntmps130
 go_wp2_with fail
 refine Zaq (S:=Ext) 16 (.fin [0,1,2,3,4,5,6,7,8,9,10,11,12,13,14,15]) (by kernel_rfl) (by kernel_rfl) (fun _ _ d _ _ h=>by cases d<;>exact h) ?_
 rw [wpS]
 simp only [opsAt,opA,opB,opC,opD,opE,opF,opG]
 refine Zap 74 _ rfl ⟨w.heap.size,0,none⟩ rfl (Cfg.A c) rfl HAG.out lc.out ?_
 --M1
 rcases hr:c.right with _ | _
 ·
  rw [hr] at rc
  have hf:R.fits c=false:=by rw [HF.out,hr]; rfl
  have HFI:=hid hf; clear hf
  (refine Zac (fun K hK=>?_); go_simp; (apply Exists.intro; refine ⟨fun x=>?_,hK _ ?_⟩; (exact rc.out x); clear hK K))
  (refine Zac (fun K hK=>?_); go_simp; refine hK _ ?_; clear hK K)
  iterate 5 (refine wpSQ_skip rfl ?_)
  iterate 2 ((refine Zac (fun K hK=>?_); go_simp; refine hK _ ?_; clear hK K))
  iterate 5 (refine wpSQ_skip rfl ?_)
  (refine Zac (fun K hK=>?_); go_simp; refine hK _ ?_; clear hK K)
  refine Zak ?_
  intro W hW
  go_wp2
  go_ret
  exact ⟨Zat HFI.out.symm,Ext.trans HX0.out (Ext.trans xd hW)⟩
 ·
  rw [hr] at rc
  have hg:=(Cfg.right_iff c).1 hr
  rcases hn:c.n == (R.l.length:Int) with _ | _
  ·
   have hf:R.fits c=false:=by rw [HF.out,hr,decide_eq_false (by simpa using hn)]; rfl
   have HFI:=hid hf; clear hf
   clear hr hg
   (refine Zac (fun K hK=>?_); go_simp; (apply Exists.intro; refine ⟨fun x=>?_,hK _ ?_⟩; (exact rc.out x); clear hK K))
   iterate 4 ((refine Zac (fun K hK=>?_); go_simp; refine hK _ ?_; clear hK K))
   (refine Zac (fun K hK=>?_); go_simp; (apply Exists.intro; refine ⟨fun x=>?_,hK _ ?_⟩; (exact nc.out x); clear hK K))
   iterate 3 ((refine Zac (fun K hK=>?_); go_simp; refine hK _ ?_; clear hK K))
   iterate 5 (refine wpSQ_skip rfl ?_)
   (refine Zac (fun K hK=>?_); go_simp; refine hK _ ?_; clear hK K)
   refine Zak ?_
   intro W hW
   go_wp2
   go_ret
   exact ⟨Zat HFI.out.symm,Ext.trans HX0.out (Ext.trans xd hW)⟩
  ·
   have hf:R.fits c=decide (c.sectors<=(R.sectors:Int)):=by rw [HF.out,hr,decide_eq_true (by simpa using hn)]; rfl
   have HFI:=hid hf; clear hf
   have ss:Hid (∀ x:SW Ext W0.drew,Calls Tryz.prog 138 #[.agg (Cfg.A c)] x.w fun e w''=>e=.returned (.int .i64 c.sectors)/\Ext x.w w''):=hid fun x=>ssectors_c c hg x.w
   clear hr hg
   (refine Zac (fun K hK=>?_); go_simp; (apply Exists.intro; refine ⟨fun x=>?_,hK _ ?_⟩; (exact rc.out x); clear hK K))
   iterate 4 ((refine Zac (fun K hK=>?_); go_simp; refine hK _ ?_; clear hK K))
   (refine Zac (fun K hK=>?_); go_simp; (apply Exists.intro; refine ⟨fun x=>?_,hK _ ?_⟩; (exact nc.out x); clear hK K))
   iterate 3 ((refine Zac (fun K hK=>?_); go_simp; refine hK _ ?_; clear hK K))
   refine Zap 74 _ rfl ⟨w.heap.size,0,none⟩ rfl (Cfg.A c) rfl HAG.out lc.out ?_
   (refine Zac (fun K hK=>?_); go_simp; (apply Exists.intro; refine ⟨fun x=>?_,hK _ ?_⟩; (exact ss.out x); clear hK K))
   (refine Zac (fun K hK=>?_); go_simp; refine hK _ ?_; clear hK K)
   (refine Zac (fun K hK=>?_); go_simp; (apply Exists.intro; refine ⟨fun x=>?_,hK _ ?_⟩; (exact sc.out x); clear hK K))
   iterate 2 ((refine Zac (fun K hK=>?_); go_simp; refine hK _ ?_; clear hK K))
   refine Zak ?_
   intro W hW
   go_wp2
   go_ret
   exact ⟨Zat HFI.out.symm,Ext.trans HX0.out (Ext.trans xd hW)⟩
theorem Rck.fits_good {R:Rck} {c:Cfg} (h:R.fits c=true):c.Good:=by
 unfold Rck.fits at h
 simp only [Bool.and_eq_true] at h
 exact (Cfg.right_iff c).1 h.1.1
def SPutPost (S:Nat->Prop) (w:World) (r:Nat) (R:Rck) (c:Cfg) (i:Int) (e:Ending) (w':World):Prop :=
 e=.returned (oErr (R.superPut c i).1)/\RackAt S w' r (R.superPut c i).2/\Keeps S w w'
set_option maxRecDepth 100000 in
set_option maxHeartbeats 1200000 in
theorem sput_c {S:Nat->Prop} {w:World} {r:Nat} {R:Rck} (h:RackAt S w r R) (c:Cfg) (i:Int) :
  Calls Tryz.prog 45 #[.pointer (some ⟨r,0,none⟩),.agg (Cfg.A c),.int .i64 i] w (SPutPost S w r R c i):=by
 obtain ⟨W0,hW0⟩:∃ W,w.alloc (.cells (Cfg.A c) 74)=W:=⟨_,rfl⟩
 have X0:Ext w W0:=hW0▸(Ext.refl w).alloc _
 have hc:W0.heap[w.heap.size]?=some (.cells (Cfg.A c) 74 (0,0)):=hW0▸heap_alloc_new _ _
 have HX0:=hid X0
 have H0:=hid (h.ext X0)
 have HC:=hid hc
 have HAG:=hid (Zas c)
 clear X0 h hc
 rcases hf:R.fits c with _ | _
 ·
  have HP:Hid (R.superPut c i=(some (.fault sSuperPut i (.no 1)),R)):=hid (by unfold Rck.superPut; rw [hf]; rfl)
  have HFI:=hid hf
  clear hf
  go_enter Tryz.func45,Tryz.ntmps45
  go_wp2_with (refine Zab rfl 74 _ rfl ⟨w.heap.size,0,none⟩ rfl (Cfg.A c) HAG.out (Zai HC.out) ?_)
  refine (sfits_c H0.out c).mono ?_
  rintro e w2 ⟨rfl,x2⟩
  rw [HFI.out]
  have X2:=hid (Ext.trans HX0.out x2)
  have H2:=hid (H0.out.ext x2)
  clear x2
  go_wp2_with fail
  refine (Za3 sSuperPut i (.no 1) w2).mono ?_
  rintro e w3 ⟨rfl,rfl⟩
  go_wp2
  go_ret
  exact ⟨by rw [HP.out]; rfl,by rw [HP.out]; exact H2.out,Ext.only X2.out⟩
 ·
  have HG:=hid (Rck.fits_good hf)
  have HFI:=hid hf
  have HFO:=hid (Cfg.block_ok c i HG.out)
  have HP:Hid (R.superPut c i=if (R.write i 0 (c.block i).put).1=none then (((R.write i 0 (c.block i).put).2.flush i).1.map (.fault sSuperPut i),((R.write i 0 (c.block i).put).2.flush i).2)
   else ((R.write i 0 (c.block i).put).1.map (.fault sSuperPut i),(R.write i 0 (c.block i).put).2)):=hid (by unfold Rck.superPut; rw [if_pos hf])
  clear hf
  go_enter Tryz.func45,Tryz.ntmps45
  go_wp2_with (refine Zab rfl 74 _ rfl ⟨w.heap.size,0,none⟩ rfl (Cfg.A c) HAG.out (Zai HC.out) ?_)
  refine (sfits_c H0.out c).mono ?_
  rintro e w2 ⟨rfl,x2⟩
  rw [HFI.out]
  have X2:=hid (Ext.trans HX0.out x2)
  have H2:=hid (H0.out.ext x2)
  have HC2:=hid (x2.at HC.out)
  clear x2
  go_wp2_with (refine Zab rfl 74 _ rfl ⟨w.heap.size,0,none⟩ rfl (Cfg.A c) HAG.out (Zai HC2.out) ?_)
  refine (sblock_c c HG.out i w2).mono ?_
  rintro e w3 ⟨rfl,x3⟩
  have X3:=hid (Ext.trans X2.out x3)
  have H3:=hid (H2.out.ext x3)
  clear x3
  go_wp2_with fail
  refine (fput_b (c.block i) w3 HFO.out).mono ?_
  rintro e w4 ⟨a,n,rfl,hb,_,x4⟩
  have X4:=hid (Ext.trans X3.out x4)
  have H4:=hid (H3.out.ext x4)
  have HB:=hid hb
  clear hb x4
  go_wp2_with fail
  refine (at_write H4.out i 0 a n n _ HB.out).mono ?_
  rintro e w5 ⟨rfl,h5,k5⟩
  rcases hw:R.write i 0 (c.block i).put with ⟨o,R1⟩
  rw [hw] at h5 HP
  simp only at h5 ⊢
  have H5:=hid h5
  have K5:Hid (Keeps S w w5):=hid (Only.trans (Ext.only X4.out) k5 fun _ _ x=>x)
  clear h5 k5 hw
  rcases o with _ | er
  ·
   have HP2:Hid (R.superPut c i=((R1.flush i).1.map (.fault sSuperPut i),(R1.flush i).2)):=hid (by rw [HP.out]; rfl)
   clear HP
   simp only [oErr]
   go_wp2_with fail
   refine (at_flush H5.out i).mono ?_
   rintro e w6 ⟨rfl,h6,k6⟩
   rcases hw:R1.flush i with ⟨o,R2⟩
   rw [hw] at h6 HP2
   simp only at h6 ⊢
   have H6:=hid h6
   have K6:Hid (Keeps S w w6):=hid (Only.trans K5.out k6 fun _ _ x=>x)
   clear h6 k6 hw
   rcases o with _ | er
   ·
    simp only [oErr]
    go_wp2_with fail
    refine (wrap_nil sSuperPut i w6).mono ?_
    rintro e w7 ⟨rfl,rfl⟩
    go_wp2
    go_ret
    exact ⟨by rw [HP2.out]; rfl,by rw [HP2.out]; exact H6.out,K6.out⟩
   ·
    simp only [oErr]
    go_wp2_with fail
    refine (Za3 sSuperPut i er w6).mono ?_
    rintro e w7 ⟨rfl,rfl⟩
    go_wp2
    go_ret
    exact ⟨by rw [HP2.out]; rfl,by rw [HP2.out]; exact H6.out,K6.out⟩
  ·
   have HP2:Hid (R.superPut c i=(some (.fault sSuperPut i er),R1)):=hid (by rw [HP.out]; rfl)
   clear HP
   simp only [oErr]
   obtain ⟨t2,v2,hq⟩:∃ t v,er.val=.iface t v:=by cases er<;>exact ⟨_,_,rfl⟩
   have HW:=hid (Za3 sSuperPut i er w5)
   rw [hq] at HW ⊢
   clear hq
   go_wp2_with fail
   refine HW.out.mono ?_
   rintro e w7 ⟨rfl,rfl⟩
   go_wp2
   go_ret
   exact ⟨by rw [HP2.out]; rfl,by rw [HP2.out]; exact H5.out,K5.out⟩
namespace Cfg
def pj (l:List Nat) (j:Nat):Cfg:=⟨Frm.numI (l.take j),(nth l 4:Nat),(nth l 5:Nat),(nth l 6:Nat),(nth l 7:Nat)⟩
theorem pj_end (l:List Nat) (h:∀ x∈l,x < 256):pj l 4=parse l:=by
 unfold pj parse Frm.numI
 have h1:=Frm.num_bd (l.take 4) (fun x hx=>h x (List.mem_of_mem_take hx))
 have h2:(256:Nat) ^ (l.take 4).length<=256 ^ 4:=Nat.pow_le_pow_right (by omega) (by simp; omega)
 have h3:(256:Nat) ^ 4=4294967296:=by decide
 have:wrap64 ((Frm.num (l.take 4):Nat):Int)=((Frm.num (l.take 4):Nat):Int):=by unfold wrap64; omega
 rw [this]
theorem A_id (c:Cfg) (x:Int):(A c).setIfInBounds 0 (.int .i64 x)=A { c with id:=x }:=by
 rw [A_def,A_def]; rfl
end Cfg
def CBlk (w:World) (g:Nat) (c:Cfg):Prop:=w.heap[g]?=some (.cells (Cfg.A c) 74 (0,0))
theorem CBlk.id {w:World} {g:Nat} {c:Cfg} (h:CBlk w g c) (x:Int):CBlk (w.setCell ⟨g,0,none⟩ (.int .i64 x)) g { c with id:=x }:=by
 have:=Zar h (i:=0) (.int .i64 x)
 rw [Cfg.A_id] at this
 exact this
theorem built_cfg4 (k n s t:Int):Tryz.prog.built 74 [(1,.int .i64 k),(2,.int .i64 n),(3,.int .i64 s),(4,.int .i64 t)]=some (Cfg.A ⟨0,k,n,s,t⟩):=by kernel_rfl
structure SGet (w:World) (g:Nat) (f:Frm) (j:Nat) (wr:World):Prop where
 ext:Ext w wr
 res:CBlk wr w.heap.size Cfg.zero
 frm:FBlk wr g f
 own:CBlk wr (g+1) (Cfg.pj f.data j)
 new:w.heap.size < g
theorem SGet.more {w wr wr':World} {g:Nat} {f:Frm} {j:Nat} (h:SGet w g f j wr) (e:Ext wr wr'):SGet w g f j wr':=⟨Ext.trans h.ext e,e.at h.res,e.at h.frm,e.at h.own,h.new⟩
theorem SGet.step {w wr:World} {g:Nat} {f:Frm} {j:Nat} (h:SGet w g f j wr) (x:Int) (hx:x=Frm.numI (f.data.take (j+1))):SGet w g f (j+1) (wr.setCell ⟨g+1,0,none⟩ (.int .i64 x)):=by
 have hn:=h.new
 refine ⟨Only.setCell (F:=fun _=>False) h.ext (.inl (by show _<=g+1; omega)) _,(Zaj _ (by omega)).trans h.res,(Zaj _ (by omega)).trans h.frm,?_,hn⟩
 have:=h.own.id x
 rw [hx] at this ⊢
 exact this
def toldO (o:Option Cfg):Value:=.tuple #[.agg (Cfg.A (o.getD Cfg.zero)),.bool o.isSome]
def SPGetPost (w:World) (R:Rck) (i:Int) (e:Ending) (w':World):Prop:=e=.returned (toldO (R.superGet i))/\Ext w w'
set_option maxRecDepth 100000 in
set_option maxHeartbeats 2000000 in
theorem spget_c {S:Nat->Prop} {w:World} {r:Nat} {R:Rck} (h:RackAt S w r R) (i:Int) :
  Calls Tryz.prog 48 #[.pointer (some ⟨r,0,none⟩),.int .i64 i] w (SPGetPost w R i):=by
 have hz:=Zav
 have hzc:=zero_cfg
 have HZ:=hid (Frm.A_size _ Za5)
 have HCS:=hid Cfg.A_size
 obtain ⟨W0,hW0⟩:∃ W,w.alloc (.cells (Cfg.A Cfg.zero) 74)=W:=⟨_,rfl⟩
 have X0:Ext w W0:=hW0▸(Ext.refl w).alloc _
 have HC0:=hid (show W0.heap[w.heap.size]?=some (.cells (Cfg.A Cfg.zero) 74 (0,0)) from hW0▸heap_alloc_new _ _)
 have HX0:=hid X0
 have H0:=hid (h.ext X0)
 have hbz:=built_cfg0
 rcases hg:R.get i 0 1 i 0 with _ | f
 ·
  have HS:Hid (R.superGet i=none):=hid (by unfold Rck.superGet; rw [hg]; rfl)
  have HG:=hid hg
  clear X0 h hg
  go_enter Tryz.func48,Tryz.ntmps48
  go_wp2_with fail
  refine (at_get H0.out i 0 1 i 0).mono ?_
  rintro e w1 ⟨rfl,x1⟩
  rw [HG.out]
  simp only [gotO,Option.getD_none,Option.isSome_none]
  have HC1:=hid (Ext.at ((Ext.refl w1).alloc (.cells (Frm.A Frm.zero) 42)) (x1.at HC0.out))
  have X1:=hid ((Ext.trans HX0.out x1).alloc (.cells (Frm.A Frm.zero) 42))
  have hbs:(w1.alloc (.cells (Frm.A Frm.zero) 42)).heap[w1.heap.size]?=some (.cells (Frm.A Frm.zero) 42 (0,0)):=Zaf
  clear x1
  go_wp2_with (first
   | (refine Zaa rfl 42 _ _ rfl w1.heap.size rfl (Frm.A Frm.zero) _ rfl 42 ?_ hbs ?_ ?_ ?_; (rw [HZ.out]; exact aggFrame); (rfl); exact Frm.A_one _)
   | (rw [Zag]; refine Zaa rfl 74 _ _ rfl w.heap.size rfl (Cfg.A Cfg.zero) _ rfl 74 ?_ HC1.out ?_ ?_ ?_; (rw [HCS.out]; exact aggCfg); (rfl); exact Cfg.A_one _))
  refine bodyPost_ret (Zah Tryz.results48 rfl (by rw [HCS.out]; exact aggCfg) (setRow_heap _ _ _ _ _ _ HC1.out)) rfl ?_
  exact ⟨by rw [HS.out]; rfl,Ext.then X1.out (Zad _ _ _) (fun i hi=>by omega)⟩
 ·
  have hok:=h.got_ok hg
  have HS:Hid (R.superGet i=Cfg.told f i):=hid (by unfold Rck.superGet; rw [hg]; rfl)
  have HG:=hid hg
  have HOK:=hid hok
  have HFS:=hid (Frm.A_size f hok)
  have hlen:=hok.len
  have b4:=Frm.nth_bd hok.byte 4
  have b5:=Frm.nth_bd hok.byte 5
  have b6:=Frm.nth_bd hok.byte 6
  have b7:=Frm.nth_bd hok.byte 7
  have HB4:Hid (Tryz.prog.built 74 [(1,.int .i64 (nth f.data 4:Nat)),(2,.int .i64 (nth f.data 5:Nat)),(3,.int .i64 (nth f.data 6:Nat)),(4,.int .i64 (nth f.data 7:Nat))]=some (Cfg.A (Cfg.pj f.data 0))):=hid (by
   rw [built_cfg4]; unfold Cfg.pj; rw [List.take_zero,numI_nil])
  have hb4:=HB4.out
  clear X0 h hg hok
  go_enter Tryz.func48,Tryz.ntmps48
  go_wp2_with fail
  refine (at_get H0.out i 0 1 i 0).mono ?_
  rintro e w1 ⟨rfl,x1⟩
  rw [HG.out]
  simp only [gotO,Option.getD_some,Option.isSome_some]
  have HC1:Hid (((w1.alloc (.cells (Frm.A f) 42)).alloc (.cells (Cfg.A Cfg.zero) 74)).heap[w.heap.size]?=some (.cells (Cfg.A Cfg.zero) 74 (0,0))):=hid (Ext.at (((Ext.refl w1).alloc _).alloc _) (x1.at HC0.out))
  have X1:=hid (Ext.trans HX0.out x1)
  have hbs:(w1.alloc (.cells (Frm.A Frm.zero) 42)).heap[w1.heap.size]?=some (.cells (Frm.A Frm.zero) 42 (0,0)):=Zaf
  have hcs:((w1.alloc (.cells (Frm.A f) 42)).alloc (.cells (Cfg.A Cfg.zero) 74)).heap[w1.heap.size+1]?=some (.cells (Cfg.A Cfg.zero) 74 (0,0)):=by
   have e:(w1.alloc (.cells (Frm.A f) 42)).heap.size=w1.heap.size+1:=by simp
   rw [<- e]; exact heap_alloc_new _ _
  have c4:((w1.alloc (.cells (Frm.A Frm.zero) 42)).setRow w1.heap.size (Frm.A f)).cell? ⟨w1.heap.size,8,none⟩=some (.int .u8 (nth f.data 4:Nat)):=by rw [Zag]; exact (Zae Zaf).trans (Frm.A4 f 4 (by omega))
  have c5:((w1.alloc (.cells (Frm.A Frm.zero) 42)).setRow w1.heap.size (Frm.A f)).cell? ⟨w1.heap.size,9,none⟩=some (.int .u8 (nth f.data 5:Nat)):=by rw [Zag]; exact (Zae Zaf).trans (Frm.A4 f 5 (by omega))
  have c6:((w1.alloc (.cells (Frm.A Frm.zero) 42)).setRow w1.heap.size (Frm.A f)).cell? ⟨w1.heap.size,10,none⟩=some (.int .u8 (nth f.data 6:Nat)):=by rw [Zag]; exact (Zae Zaf).trans (Frm.A4 f 6 (by omega))
  have c7:((w1.alloc (.cells (Frm.A Frm.zero) 42)).setRow w1.heap.size (Frm.A f)).cell? ⟨w1.heap.size,11,none⟩=some (.int .u8 (nth f.data 7:Nat)):=by rw [Zag]; exact (Zae Zaf).trans (Frm.A4 f 7 (by omega))
  have HSZ:Hid (w.heap.size+1<=w1.heap.size):=hid (by have:=x1.size; have:=lt_of_block HC0.out; omega)
  clear x1
  go_wp2_with (first
   | (refine Zaa rfl 42 _ _ rfl w1.heap.size rfl (Frm.A f) _ rfl 42 ?_ hbs ?_ ?_ ?_; (rw [HFS.out]; exact aggFrame); (rw [HFS.out,HZ.out]); exact Frm.A_one _)
   | (refine Zal rfl 74 _ rfl (Cfg.A (Cfg.pj f.data 0)) ?_ ?_; (simp only [List.map_toArray,List.map_cons,List.map_nil,Act.eval]; simp only [Array.getD_eq_getD_getElem?,List.getElem?_toArray,List.getElem?_cons_succ,List.getElem?_cons_zero,Option.getD_some]; exact HB4.out))
   | (rw [Zag]; refine Zaa rfl 74 _ _ rfl (w1.heap.size+1) rfl (Cfg.A (Cfg.pj f.data 0)) _ rfl 74 ?_ hcs ?_ ?_ ?_; (rw [HCS.out]; exact aggCfg); (rw [HCS.out,HCS.out]); exact Cfg.A_one _))
  have HST:Hid (SGet w w1.heap.size f 0 (((w1.alloc (.cells (Frm.A f) 42)).alloc (.cells (Cfg.A Cfg.zero) 74)).setRow (w1.heap.size+1) (Cfg.A (Cfg.pj f.data 0)))):=hid (by
   have e:(w1.alloc (.cells (Frm.A f) 42)).heap.size=w1.heap.size+1:=by simp
   have q:=lt_of_block HC1.out
   have q1:=X1.out.size
   have q2:=lt_of_block HC0.out
   have hlt:w.heap.size < w1.heap.size:=by have:=HSZ.out; omega
   rw [<- e,Zag]
   refine ⟨(Ext.trans X1.out ((Ext.refl w1).alloc _)).alloc _,?_,?_,by rw [<- e]; exact heap_alloc_new _ _,hlt⟩
   ·
    have:=HC1.out
    unfold CBlk
    rw [heap_alloc_old _ _ (by simp; omega)] at this ⊢
    exact this
   ·
    unfold FBlk; rw [heap_alloc_old _ _ (by simp)]; exact heap_alloc_new _ _)
  clear c4 c5 c6 c7 hbs hcs HC1 hb4
  generalize ((w1.alloc (.cells (Frm.A f) 42)).alloc (.cells (Cfg.A Cfg.zero) 74)).setRow (w1.heap.size+1) (Cfg.A (Cfg.pj f.data 0))=v0 at *
  generalize w1.heap.size=g at *
  go_loopw [37] (fun v wr=>∃ j:Nat,v=.int .i64 j/\j<=4/\SGet w g f j wr) (fun v _=>4 - (intOf v).toNat)
  case atStart=>exact ⟨0,rfl,by omega,HST.out⟩
  case round =>
   clear HST
   obtain ⟨j,rfl,hj,hst⟩:=hrel
   by_cases hlt:j < 4
   ·
    have i0:(0:Int)<=(j:Int):=by omega
    have i1:(j:Int) < 4:=by omega
    have i2:(j:Int) < 108:=by omega
    have HST:=hid hst
    have xd:Ext wr wr.drew:=(Ext.refl wr).drew
    have bj:=Frm.nth_bd HOK.out.byte j
    have c0:∀ x:SW Ext wr.drew,x.w.cell? ⟨g+1,0,none⟩=some (.int .i64 (Frm.numI (f.data.take j))):=fun x=>(Zae ((Ext.trans xd x.ext).at HST.out.own)).trans (Cfg.A0 _)
    have c1:∀ x:SW Ext wr.drew,x.w.cell? ⟨g,4+j,none⟩=some (.int .u8 (nth f.data j:Nat)):=fun x=>(Zae ((Ext.trans xd x.ext).at HST.out.frm)).trans (Frm.A4 f j (by omega))
    have HNT:=hid (numI_take f.data j (by omega) (by omega) HOK.out.byte)
    clear hst b4 b5 b6 b7
    go_wp2_with fail
    refine Zaq (S:=Ext) 12 (.fin [0,1,2,3,4,5,6,7,8,9,10,11]) (by kernel_rfl) (by kernel_rfl) (fun _ _ d _ _ h=>by cases d<;>exact h) ?_
    rw [wpS]
    simp only [opsAt,opA,opB,opC,opD,opE,opF,opG]
    iterate 12 ((refine Zac (fun K hK=>?_); go_simp; refine hK _ ?_; clear hK K))
    refine Zak ?_
    intro W hW
    have HS2:=hid (HST.out.more (Ext.trans xd hW))
    have f1:W.frozen? ⟨g+1,0,none⟩=false:=Zax HS2.out.own
    have c2:W.cell? ⟨g+1,0,none⟩=some (.int .i64 (Frm.numI (f.data.take j))):=(Zae HS2.out.own).trans (Cfg.A0 _)
    clear c0 c1 hW
    go_wp2
    go_roundw
    case rel=>exact ⟨j+1,by go_num,by omega,HS2.out.step _ (by rw [Nat.min_eq_left (by omega)]; exact HNT.out)⟩
    case measure=>simp [intOf]; omega
   ·
    obtain rfl:j=4:=by omega
    rw [show ((4:Nat):Int)=4 from rfl]
    have hown:=hst.own
    rw [Cfg.pj_end _ HOK.out.byte] at hown
    have hfrm:=hst.frm
    have xd:Ext wr wr.drew:=(Ext.refl wr).drew
    have HX:=hid hst.ext
    have hT:Cfg.told f i=if (Cfg.parse f.data).right=true/\f=(Cfg.parse f.data).block i then some (Cfg.parse f.data) else none:=rfl
    generalize Cfg.parse f.data=c at *
    have HT:=hid (HS.out.trans hT)
    have HRES:=hid hst.res
    have HOWN:=hid hown
    have lc:Hid (∀ x:SW Ext wr.drew,∀ j v,(Cfg.A c).toList[j]?=some v->x.w.cell? ((⟨g+1,0,none⟩:Addr).add j)=some v):=hid fun x=>Zai ((Ext.trans xd x.ext).at hown)
    have lf:Hid (∀ x:SW Ext wr.drew,∀ j v,(Frm.A f).toList[j]?=some v->x.w.cell? ((⟨g,0,none⟩:Addr).add j)=some v):=hid fun x=>Zai ((Ext.trans xd x.ext).at hfrm)
    have rc:Hid (∀ x:SW Ext wr.drew,Calls Tryz.prog 135 #[.agg (Cfg.A c)] x.w fun e w''=>e=.returned (.bool c.right)/\Ext x.w w''):=hid fun x=>sright_c c x.w
    have HAG:=hid (Zas c)
    clear hown hfrm hT hst HS b4 b5 b6 b7 HB4
    go_wp2_with fail
    refine Zau (S:=Ext) (.fin [0,1,2,3,4,5,6,7,8,9]) (by kernel_rfl) (by kernel_rfl) (fun _ _ d _ _ h=>by cases d<;>exact h) ?_
    rw [wpS]
    simp only [opsAt,opA,opB,opC,opD,opE,opF,opG]
    refine Zap 74 _ rfl ⟨g+1,0,none⟩ rfl (Cfg.A c) rfl HAG.out lc.out ?_
    rcases hr:c.right with _ | _
    ·
     have HN:Hid (R.superGet i=none):=hid (by rw [HT.out,if_neg (fun q=>by rw [hr] at q; exact absurd q.1 (by simp))])
     rw [hr] at rc
     clear hr
     (refine Zac (fun K hK=>?_); go_simp; (apply Exists.intro; refine ⟨fun x=>?_,hK _ ?_⟩; (exact rc.out x); clear hK K))
     iterate 2 ((refine Zac (fun K hK=>?_); go_simp; refine hK _ ?_; clear hK K))
     iterate 5 (refine wpSQ_skip rfl ?_)
     (refine Zac (fun K hK=>?_); go_simp; refine hK _ ?_; clear hK K)
     refine Zak ?_
     intro W hW
     have hres:W.heap[w.heap.size]?=some (.cells (Cfg.A Cfg.zero) 74 (0,0)):=(Ext.trans xd hW).at HRES.out
     have HXW:=hid (Ext.trans HX.out (Ext.trans xd hW))
     clear hW lc lf rc
     go_wp2_with (refine Zaa rfl 74 _ _ rfl w.heap.size rfl (Cfg.A Cfg.zero) _ rfl 74 ?_ hres ?_ ?_ ?_; (rw [HCS.out]; exact aggCfg); (rfl); exact Cfg.A_one _)
     refine bodyPost_ret (Zah Tryz.results48 rfl (by rw [HCS.out]; exact aggCfg) (setRow_heap _ _ _ _ _ _ hres)) rfl ?_
     exact ⟨by rw [HN.out]; rfl,Ext.then HXW.out (Zad _ _ _) (fun i hi=>by omega)⟩
    ·
     have hgood:=(Cfg.right_iff c).1 hr
     rw [hr] at rc
     have bc:Hid (∀ x:SW Ext wr.drew,Calls Tryz.prog 131 #[.agg (Cfg.A c),.int .i64 i] x.w fun e w''=>e=.returned (.agg (Frm.A (c.block i)))/\Ext x.w w''):=hid fun x=>sblock_c c hgood i x.w
     have HBO:=hid (Cfg.block_ok c i hgood)
     have HNE:=hid (frame_neq f (c.block i) HOK.out HBO.out)
     by_cases he:f=c.block i
     ·
      have HN:Hid (R.superGet i=some c):=hid (by rw [HT.out,if_pos ⟨hr,he⟩])
      rw [show (!f.eqB (c.block i))=false from by rw [(Frm.eqB_iff _ _).2 he]; rfl] at HNE
      clear hr hgood he
      (refine Zac (fun K hK=>?_); go_simp; (apply Exists.intro; refine ⟨fun x=>?_,hK _ ?_⟩; (exact rc.out x); clear hK K))
      iterate 2 ((refine Zac (fun K hK=>?_); go_simp; refine hK _ ?_; clear hK K))
      refine Zap 42 _ rfl ⟨g,0,none⟩ rfl (Frm.A f) rfl (by rw [HFS.out]; exact aggFrame) lf.out ?_
      refine Zap 74 _ rfl ⟨g+1,0,none⟩ rfl (Cfg.A c) rfl HAG.out lc.out ?_
      (refine Zac (fun K hK=>?_); go_simp; refine hK _ ?_; clear hK K)
      (refine Zac (fun K hK=>?_); go_simp; (apply Exists.intro; refine ⟨fun x=>?_,hK _ ?_⟩; (exact bc.out x); clear hK K))
      refine wpSQ_eql .neq 42 _ _ _ rfl (Frm.A f) (Frm.A (c.block i)) rfl rfl (.bool false) rfl (fun w=>frame_guard _ _ _ _ _ w) HNE.out ?_
      (refine Zac (fun K hK=>?_); go_simp; refine hK _ ?_; clear hK K)
      refine Zak ?_
      intro W hW
      have hres:W.heap[w.heap.size]?=some (.cells (Cfg.A Cfg.zero) 74 (0,0)):=(Ext.trans xd hW).at HRES.out
      have hown:W.heap[g+1]?=some (.cells (Cfg.A c) 74 (0,0)):=(Ext.trans xd hW).at HOWN.out
      have HXW:=hid (Ext.trans HX.out (Ext.trans xd hW))
      clear hW lc lf rc bc
      go_wp2_with (first
       | (refine Zab rfl 74 _ rfl ⟨g+1,0,none⟩ rfl (Cfg.A c) HAG.out (Zai hown) ?_)
       | (refine Zaa rfl 74 _ _ rfl w.heap.size rfl (Cfg.A c) _ rfl 74 ?_ hres ?_ ?_ ?_; (rw [HCS.out]; exact aggCfg); (rw [HCS.out,HCS.out]); exact Cfg.A_one _))
      refine bodyPost_ret (Zah Tryz.results48 rfl (by rw [HCS.out]; exact aggCfg) (setRow_heap _ _ _ _ _ _ hres)) rfl ?_
      exact ⟨by rw [HN.out]; rfl,Ext.then HXW.out (Zad _ _ _) (fun i hi=>by omega)⟩
     ·
      have HN:Hid (R.superGet i=none):=hid (by rw [HT.out,if_neg (fun q=>he q.2)])
      rw [show (!f.eqB (c.block i))=true from by
       rcases hq:f.eqB (c.block i) with _ | _
       ·
        rfl
       ·
        exact absurd ((Frm.eqB_iff _ _).1 hq) he] at HNE
      clear hr hgood he
      (refine Zac (fun K hK=>?_); go_simp; (apply Exists.intro; refine ⟨fun x=>?_,hK _ ?_⟩; (exact rc.out x); clear hK K))
      iterate 2 ((refine Zac (fun K hK=>?_); go_simp; refine hK _ ?_; clear hK K))
      refine Zap 42 _ rfl ⟨g,0,none⟩ rfl (Frm.A f) rfl (by rw [HFS.out]; exact aggFrame) lf.out ?_
      refine Zap 74 _ rfl ⟨g+1,0,none⟩ rfl (Cfg.A c) rfl HAG.out lc.out ?_
      (refine Zac (fun K hK=>?_); go_simp; refine hK _ ?_; clear hK K)
      (refine Zac (fun K hK=>?_); go_simp; (apply Exists.intro; refine ⟨fun x=>?_,hK _ ?_⟩; (exact bc.out x); clear hK K))
      refine wpSQ_eql .neq 42 _ _ _ rfl (Frm.A f) (Frm.A (c.block i)) rfl rfl (.bool true) rfl (fun w=>frame_guard _ _ _ _ _ w) HNE.out ?_
      (refine Zac (fun K hK=>?_); go_simp; refine hK _ ?_; clear hK K)
      refine Zak ?_
      intro W hW
      have hres:W.heap[w.heap.size]?=some (.cells (Cfg.A Cfg.zero) 74 (0,0)):=(Ext.trans xd hW).at HRES.out
      have HXW:=hid (Ext.trans HX.out (Ext.trans xd hW))
      clear hW lc lf rc
      go_wp2_with (refine Zaa rfl 74 _ _ rfl w.heap.size rfl (Cfg.A Cfg.zero) _ rfl 74 ?_ hres ?_ ?_ ?_; (rw [HCS.out]; exact aggCfg); (rfl); exact Cfg.A_one _)
      refine bodyPost_ret (Zah Tryz.results48 rfl (by rw [HCS.out]; exact aggCfg) (setRow_heap _ _ _ _ _ _ hres)) rfl ?_
      exact ⟨by rw [HN.out]; rfl,Ext.then HXW.out (Zad _ _ _) (fun i hi=>by omega)⟩
theorem Rck.counted_le (R:Rck) (m:Nat):(R.counted m).2<=m:=by
 induction m with
 | zero=>exact Nat.le_refl 0
 | succ m ih =>
  rw [Rck.counted_succ]
  rcases hc:R.counted m with ⟨c,n⟩
  rw [hc] at ih
  rcases R.superGet (m:Int) with _ | x
  ·
   show n<=m+1; have:n<=m:=ih; omega
  ·
   have h1:n<=m:=ih
   have h2:∀ (p:Prop) [Decidable p] (a b:Cfg),(if p then (a,n+1) else (b,n)).2<=m+1:=fun p _ a b=>by
    split
    ·
     show n+1<=m+1; omega
    ·
     show n<=m+1; omega
   exact h2 _ _ _
theorem RackAt.n8 {S:Nat->Prop} {w:World} {r:Nat} {R:Rck} (h:RackAt S w r R):R.l.length<=8:=by
 obtain ⟨_,K,_,h2,_⟩:=h
 have:=h2.small
 rw [h2.len]; omega
structure SFnd (w:World) (c:Cfg) (wr:World):Prop where
 ext:Ext w wr
 res:CBlk wr w.heap.size Cfg.zero
 own:CBlk wr (w.heap.size+1) c
theorem SFnd.more {w wr wr':World} {c:Cfg} (h:SFnd w c wr) (e:Ext wr wr'):SFnd w c wr':=⟨Ext.trans h.ext e,e.at h.res,e.at h.own⟩
theorem SFnd.put {w wr:World} {c:Cfg} (h:SFnd w c wr) (x:Cfg):SFnd w x (wr.setRow (w.heap.size+1) (Cfg.A x)) :=
 ⟨Ext.then h.ext (Zad _ _ _) (fun i hi=>by omega),by
  have:=(Zad wr (w.heap.size+1) (Cfg.A x)).at h.res (by omega)
  exact this,setRow_heap _ _ _ _ _ _ h.own⟩
def SFindPost (w:World) (R:Rck) (e:Ending) (w':World):Prop:=e=.returned (.tuple #[.agg (Cfg.A R.superFind.1),oErr R.superFind.2])/\Ext w w'
set_option maxRecDepth 100000 in
set_option maxHeartbeats 3000000 in
theorem sfind_c {S:Nat->Prop} {w:World} {r:Nat} {R:Rck} (h:RackAt S w r R) :
  Calls Tryz.prog 50 #[.pointer (some ⟨r,0,none⟩)] w (SFindPost w R):=by
 have hzc:=zero_cfg
 have hbz:=built_cfg0
 have HCS:=hid Cfg.A_size
 have H:=hid h
 have h8:=h.n8
 clear h
 go_enter Tryz.func50,Tryz.ntmps50
 go_wp2_with fail
 have X0:Ext w ((w.alloc (.cells (Cfg.A Cfg.zero) 74)).alloc (.cells (Cfg.A Cfg.zero) 74)):=((Ext.refl w).alloc _).alloc _
 have HS:Hid (SFnd w (R.counted 0).1 ((w.alloc (.cells (Cfg.A Cfg.zero) 74)).alloc (.cells (Cfg.A Cfg.zero) 74))):=hid ⟨X0,by
  unfold CBlk; rw [heap_alloc_old _ _ (by simp)]; exact heap_alloc_new _ _,by
  have e:(w.alloc (.cells (Cfg.A Cfg.zero) 74)).heap.size=w.heap.size+1:=by simp
  unfold CBlk; rw [<- e]; exact heap_alloc_new _ _⟩
 refine (at_n (H.out.ext X0)).mono ?_
 rintro e w2 ⟨rfl,rfl⟩
 clear X0
 generalize (w.alloc (.cells (Cfg.A Cfg.zero) 74)).alloc (.cells (Cfg.A Cfg.zero) 74)=v0 at *
 obtain ⟨N,hN⟩:∃ N,R.l.length=N:=⟨_,rfl⟩
 have HN:=hid hN
 rw [hN] at h8 ⊢
 clear hN
 go_wp2
 go_loopw [5,11] (fun v i wr=>∃ j:Nat,i=.int .i64 j/\v=.int .i64 (R.counted j).2/\j<=N/\SFnd w (R.counted j).1 wr) (fun _ i _=>N - (intOf i).toNat)
 case atStart=>exact ⟨0,rfl,rfl,by omega,HS.out⟩
 case round =>
  clear HS
  obtain ⟨j,rfl,rfl,hj,hst⟩:=hrel
  have HST:=hid hst
  have hsucc:=R.counted_succ j
  have hle:=R.counted_le j
  have hfind:R.l.length=j->R.superFind=(if (R.counted j).2=0\/((R.counted j).2:Int) < (R.counted j).1.k\/R.fits (R.counted j).1=false then (Cfg.zero,some (.fault sSuperFind ((R.counted j).2:Int) (.no 7))) else ((R.counted j).1,none)):=fun e=>by unfold Rck.superFind; rw [e]
  clear hst
  generalize R.counted j=cn at *
  obtain ⟨c,n⟩:=cn
  simp only at hle HST hfind ⊢
  by_cases hlt:j < N
  ·
   clear hfind
   have i0:(0:Int)<=(j:Int):=by omega
   have i1:(j:Int) < (N:Int):=by omega
   have n0:(0:Int)<=(n:Int):=by omega
   have n1:(n:Int)<=8:=by omega
   go_wp2_with fail
   refine (spget_c (H.out.ext HST.out.ext) j).mono ?_
   rintro e w3 ⟨rfl,x3⟩
   rcases ho:R.superGet (j:Int) with _ | x
   ·
    rw [ho] at hsucc
    have HSU:=hid hsucc
    clear ho hsucc
    simp only [toldO,Option.getD_none,Option.isSome_none]
    have HS3:=hid ((HST.out.more x3).more ((Ext.refl w3).alloc (.cells (Cfg.A Cfg.zero) 74)))
    have hbs:(w3.alloc (.cells (Cfg.A Cfg.zero) 74)).heap[w3.heap.size]?=some (.cells (Cfg.A Cfg.zero) 74 (0,0)):=Zaf
    clear x3
    go_wp2_with (refine Zaa rfl 74 _ _ rfl w3.heap.size rfl (Cfg.A Cfg.zero) _ rfl 74 ?_ hbs ?_ ?_ ?_; (rw [HCS.out]; exact aggCfg); (rfl); exact Cfg.A_one _)
    rw [Zag]
    go_roundw
    case rel=>exact ⟨j+1,by go_num,by rw [HSU.out]; rfl,by omega,by rw [HSU.out]; exact HS3.out⟩
    case measure=>simp [intOf]; omega
   ·
    rw [ho] at hsucc
    clear ho
    simp only [toldO,Option.getD_some,Option.isSome_some]
    have HS3:=hid ((HST.out.more x3).more ((Ext.refl w3).alloc (.cells (Cfg.A x) 74)))
    have hbs:(w3.alloc (.cells (Cfg.A Cfg.zero) 74)).heap[w3.heap.size]?=some (.cells (Cfg.A Cfg.zero) 74 (0,0)):=Zaf
    have HX3:Hid ((w3.alloc (.cells (Cfg.A x) 74)).heap[w3.heap.size]?=some (.cells (Cfg.A x) 74 (0,0))):=hid Zaf
    have HLT:Hid (w.heap.size+1 < w3.heap.size):=hid (by have:=lt_of_block (x3.at HST.out.own); omega)
    clear x3
    by_cases hn0:n=0
    ·
     subst hn0
     have HSU:Hid (R.counted (j+1)=(x,1)):=hid (by rw [hsucc]; simp [Rck.count])
     have HE:=hid (cfg_eql x x)
     rw [Cfg.eqB_self] at HE
     clear hsucc n0 n1
     rw [show ((0:Nat):Int)=0 from rfl]
     have HS4:=hid (HS3.out.put x)
     have HX4:Hid (((w3.alloc (.cells (Cfg.A x) 74)).setRow (w.heap.size+1) (Cfg.A x)).heap[w3.heap.size]?=some (.cells (Cfg.A x) 74 (0,0))):=hid ((Zad _ _ _).at HX3.out (by have:=HLT.out; omega))
     go_wp2_with (first
      | (refine Zaa rfl 74 _ _ rfl w3.heap.size rfl (Cfg.A x) _ rfl 74 ?_ hbs ?_ ?_ ?_; (rw [HCS.out]; exact aggCfg); (rw [HCS.out,HCS.out]); exact Cfg.A_one _)
      | (rw [Zag]; refine Zab rfl 74 _ rfl ⟨w3.heap.size,0,none⟩ rfl (Cfg.A x) (Zas x) (Zai HX3.out) ?_)
      | (refine Zaa rfl 74 _ _ rfl (w.heap.size+1) rfl (Cfg.A x) _ rfl 74 ?_ HS3.out.own ?_ ?_ ?_; (rw [HCS.out]; exact aggCfg); (rw [HCS.out,HCS.out]); exact Cfg.A_one _)
      | (refine Zan 74 _ rfl ⟨w3.heap.size,0,none⟩ rfl (Cfg.A x) rfl (Zas x) (Zai HX4.out) ?_)
      | (refine Zan 74 _ rfl ⟨w.heap.size+1,0,none⟩ rfl (Cfg.A x) rfl (Zas x) (Zai HS4.out.own) ?_)
      | (refine Zbr .eql 74 _ _ _ rfl (Cfg.A x) (Cfg.A x) rfl rfl (.bool true) rfl (cfg_guard _ _ _ _ _ _) (HE.out _) ?_))
     go_roundw
     case rel=>exact ⟨j+1,by go_num,by rw [HSU.out]; rfl,by omega,by rw [HSU.out]; exact HS4.out⟩
     case measure=>simp [intOf]; omega
    ·
     have n2:((n:Int) == 0)=false:=by simp; omega
     have HE:=hid (cfg_eql x c)
     have HS3':Hid (SFnd w c ((w3.alloc (.cells (Cfg.A Cfg.zero) 74)).setRow w3.heap.size (Cfg.A x))):=hid (by rw [Zag]; exact HS3.out)
     by_cases hxc:x=c
     ·
      rw [(Cfg.eqB_iff _ _).2 hxc] at HE
      have HSU:Hid (R.counted (j+1)=(c,n+1)):=hid (by rw [hsucc]; simp [Rck.count,hn0,hxc])
      clear hsucc hxc hn0
      go_wp2_with (first
       | (refine Zaa rfl 74 _ _ rfl w3.heap.size rfl (Cfg.A x) _ rfl 74 ?_ hbs ?_ ?_ ?_; (rw [HCS.out]; exact aggCfg); (rw [HCS.out,HCS.out]); exact Cfg.A_one _)
       | (rw [Zag]; refine Zan 74 _ rfl ⟨w3.heap.size,0,none⟩ rfl (Cfg.A x) rfl (Zas x) (Zai HX3.out) ?_)
       | (refine Zan 74 _ rfl ⟨w.heap.size+1,0,none⟩ rfl (Cfg.A c) rfl (Zas c) (Zai HS3.out.own) ?_)
       | (refine Zbr .eql 74 _ _ _ rfl (Cfg.A x) (Cfg.A c) rfl rfl (.bool true) rfl (cfg_guard _ _ _ _ _ _) (HE.out _) ?_))
      go_roundw
      case rel=>exact ⟨j+1,by go_num,by rw [HSU.out]; go_num,by omega,by rw [HSU.out]; exact HS3.out⟩
      case measure=>simp [intOf]; omega
     ·
      rw [show x.eqB c=false from by
       rcases hq:x.eqB c with _ | _
       ·
        rfl
       ·
        exact absurd ((Cfg.eqB_iff _ _).1 hq) hxc] at HE
      have HSU:Hid (R.counted (j+1)=(c,n)):=hid (by rw [hsucc]; simp [Rck.count,hn0,hxc])
      clear hsucc hxc hn0
      go_wp2_with (first
       | (refine Zaa rfl 74 _ _ rfl w3.heap.size rfl (Cfg.A x) _ rfl 74 ?_ hbs ?_ ?_ ?_; (rw [HCS.out]; exact aggCfg); (rw [HCS.out,HCS.out]); exact Cfg.A_one _)
       | (rw [Zag]; refine Zan 74 _ rfl ⟨w3.heap.size,0,none⟩ rfl (Cfg.A x) rfl (Zas x) (Zai HX3.out) ?_)
       | (refine Zan 74 _ rfl ⟨w.heap.size+1,0,none⟩ rfl (Cfg.A c) rfl (Zas c) (Zai HS3.out.own) ?_)
       | (refine Zbr .eql 74 _ _ _ rfl (Cfg.A x) (Cfg.A c) rfl rfl (.bool false) rfl (cfg_guard _ _ _ _ _ _) (HE.out _) ?_))
      go_roundw
      case rel=>exact ⟨j+1,by go_num,by rw [HSU.out],by omega,by rw [HSU.out]; exact HS3.out⟩
      case measure=>simp [intOf]; omega
  ·
   obtain rfl:N=j:=by omega
   have hf:=hfind HN.out
   have HX:=hid HST.out.ext
   have HRES:Hid (wr.heap[w.heap.size]?=some (.cells (Cfg.A Cfg.zero) 74 (0,0))):=hid HST.out.res
   have HOWN:Hid (wr.heap[w.heap.size+1]?=some (.cells (Cfg.A c) 74 (0,0))):=hid HST.out.own
   clear hfind hsucc
   by_cases hn0:n=0
   ·
    have HF:Hid (R.superFind=(Cfg.zero,some (.fault sSuperFind (n:Int) (.no 7)))):=hid (by rw [hf,if_pos (.inl hn0)])
    subst hn0
    clear hf
    rw [show ((0:Nat):Int)=0 from rfl] at HF ⊢
    go_wp2_with fail
    refine (Za3 sSuperFind 0 (.no 7) wr).mono ?_
    rintro e w7 ⟨rfl,rfl⟩
    go_wp2_with (refine Zaa rfl 74 _ _ rfl w.heap.size rfl (Cfg.A Cfg.zero) _ rfl 74 ?_ HRES.out ?_ ?_ ?_; (rw [HCS.out]; exact aggCfg); (rfl); exact Cfg.A_one _)
    refine bodyPost_ret (Zah Tryz.results50 rfl (by rw [HCS.out]; exact aggCfg) (setRow_heap _ _ _ _ _ _ HRES.out)) rfl ?_
    exact ⟨by rw [HF.out]; rfl,Ext.then HX.out (Zad _ _ _) (fun i hi=>by omega)⟩
   ·
    have n2:((n:Int) == 0)=false:=by simp; omega
    have c1:wr.cell? ⟨w.heap.size+1,1,none⟩=some (.int .i64 c.k):=(Zae HOWN.out).trans (Cfg.A1 c)
    by_cases hk:(n:Int) < c.k
    ·
     have HF:Hid (R.superFind=(Cfg.zero,some (.fault sSuperFind (n:Int) (.no 7)))):=hid (by rw [hf,if_pos (.inr (.inl hk))])
     clear hf hn0
     go_wp2_with fail
     refine (Za3 sSuperFind n (.no 7) wr).mono ?_
     rintro e w7 ⟨rfl,rfl⟩
     go_wp2_with (refine Zaa rfl 74 _ _ rfl w.heap.size rfl (Cfg.A Cfg.zero) _ rfl 74 ?_ HRES.out ?_ ?_ ?_; (rw [HCS.out]; exact aggCfg); (rfl); exact Cfg.A_one _)
     refine bodyPost_ret (Zah Tryz.results50 rfl (by rw [HCS.out]; exact aggCfg) (setRow_heap _ _ _ _ _ _ HRES.out)) rfl ?_
     exact ⟨by rw [HF.out]; rfl,Ext.then HX.out (Zad _ _ _) (fun i hi=>by omega)⟩
    ·
     rcases hft:R.fits c with _ | _
     ·
      have HF:Hid (R.superFind=(Cfg.zero,some (.fault sSuperFind (n:Int) (.no 7)))):=hid (by rw [hf,if_pos (.inr (.inr hft))])
      have HFT:=hid hft
      clear hf hn0 hft
      go_wp2_with (refine Zan 74 _ rfl ⟨w.heap.size+1,0,none⟩ rfl (Cfg.A c) rfl (Zas c) (Zai HOWN.out) ?_)
      refine (sfits_c (H.out.ext HX.out) c).mono ?_
      rintro e w6 ⟨rfl,x6⟩
      rw [HFT.out]
      have HRES:=hid (x6.at HRES.out)
      have HX:=hid (Ext.trans HX.out x6)
      clear x6 c1
      go_wp2_with fail
      refine (Za3 sSuperFind n (.no 7) w6).mono ?_
      rintro e w7 ⟨rfl,rfl⟩
      go_wp2_with (refine Zaa rfl 74 _ _ rfl w.heap.size rfl (Cfg.A Cfg.zero) _ rfl 74 ?_ HRES.out ?_ ?_ ?_; (rw [HCS.out]; exact aggCfg); (rfl); exact Cfg.A_one _)
      refine bodyPost_ret (Zah Tryz.results50 rfl (by rw [HCS.out]; exact aggCfg) (setRow_heap _ _ _ _ _ _ HRES.out)) rfl ?_
      exact ⟨by rw [HF.out]; rfl,Ext.then HX.out (Zad _ _ _) (fun i hi=>by omega)⟩
     ·
      have HF:Hid (R.superFind=(c,none)):=hid (by rw [hf,if_neg]; intro q; rcases q with q | q | q; exact hn0 q; exact hk q; rw [hft] at q; cases q)
      have HFT:=hid hft
      clear hf hn0 hft
      go_wp2_with (refine Zan 74 _ rfl ⟨w.heap.size+1,0,none⟩ rfl (Cfg.A c) rfl (Zas c) (Zai HOWN.out) ?_)
      refine (sfits_c (H.out.ext HX.out) c).mono ?_
      rintro e w6 ⟨rfl,x6⟩
      rw [HFT.out]
      have HRES:=hid (x6.at HRES.out)
      have HOWN:=hid (x6.at HOWN.out)
      have HX:=hid (Ext.trans HX.out x6)
      clear x6 c1
      go_wp2_with (first
       | (refine Zab rfl 74 _ rfl ⟨w.heap.size+1,0,none⟩ rfl (Cfg.A c) (Zas c) (Zai HOWN.out) ?_)
       | (refine Zaa rfl 74 _ _ rfl w.heap.size rfl (Cfg.A c) _ rfl 74 ?_ HRES.out ?_ ?_ ?_; (rw [HCS.out]; exact aggCfg); (rw [HCS.out,HCS.out]); exact Cfg.A_one _))
      refine bodyPost_ret (Zah Tryz.results50 rfl (by rw [HCS.out]; exact aggCfg) (setRow_heap _ _ _ _ _ _ HRES.out)) rfl ?_
      exact ⟨by rw [HF.out]; rfl,Ext.then HX.out (Zad _ _ _) (fun i hi=>by omega)⟩
section
variable {n m:Nat} {P:Nat->Dsk} {R:Rck} {d:Nat} {D:Dsk}
end
namespace Apart
def fr (d x:Nat):Frm:=keepFrm 2 d x 5 (d*3+x)
def W (d:Nat):Nat->Dsk
 | 0=>Dsk.new 3
 | s+1=>(W d s).write s (fr d s).bytes
def P (d:Nat):Dsk:=(W d 3).flush
end Apart
end Go.Proofs.YtgjnnbomnoafcaaGreatDoor
namespace Go.Proofs.YtgjnnbomnoafcaaGreatDoor
set_option linter.unusedVariables false
def Dsk.told (D:Dsk) (i:Nat):Option Cfg :=
 if D.dead then none else (match Frm.get (D.read 0) with
  | some f=>if f.kind=1/\f.slot=i/\(0<=(0:Int)->f.stripe=0) then some f else none
  | none=>none).bind fun f=>Cfg.told f i
theorem Live.superGet {R:Rck} {n m:Nat} (h:Live R n m) (hm:1<=m) {i:Nat} (hi:i < n):R.superGet i=(R.dsk i).told i:=by
 unfold Rck.superGet Dsk.told
 rcases hd:(R.dsk i).dead with _ | _
 ·
  have e:R.get (i:Int) 0 1 (i:Int) 0=_:=h.get (s:=0) hi (by omega) hd 1 i 0
  rw [e]; rfl
 ·
  have e:R.get (i:Int) 0 1 (i:Int) 0=none:=h.get_dead (s:=0) hi (by omega) hd 1 i 0
  rw [e]; rfl
namespace Dsk
theorem told_none (D:Dsk) (i:Nat) (h:D.dead=false) (hr:Frm.get (D.read 0)=none):D.told i=none:=by
 unfold told; rw [h,hr]; rfl
theorem told_new (m i:Nat) (hm:1<=m):(Dsk.new m).told i=none:=told_none _ i rfl (by rw [new_read m 0 (by omega)]; exact zeros_get)
theorem told_dead (D:Dsk) (i:Nat) (h:D.dead=true):D.told i=none:=by unfold told; rw [h]; rfl
theorem told_of (D:Dsk) (i:Nat) (h:D.dead=false) (f:Frm) (hf:f.Ok) (hr:f.right=true) (hb:D.read 0=f.bytes):D.told i=if f.kind=1/\f.slot=i/\f.stripe=0 then Cfg.told f i else none:=by
 unfold told
 rw [h,hb,Frm.get_bytes f hf hr,if_neg (by simp)]
 show ((if f.kind=1/\f.slot=i/\(0<=(0:Int)->f.stripe=0) then some f else none).bind fun f=>Cfg.told f i)=_
 by_cases q:f.kind=1/\f.slot=i/\f.stripe=0
 ·
  rw [if_pos q,if_pos ⟨q.1,q.2.1,fun _=>q.2.2⟩]; rfl
 ·
  rw [if_neg q,if_neg (fun x=>q ⟨x.1,x.2.1,x.2.2 (Int.le_refl 0)⟩)]; rfl
theorem disk_read (D:Dsk) (b:List Nat) (h:1<=D.l.length):(Super.disk D b).read 0=b:=by
 unfold Super.disk
 rw [flush_read _ _ (by rw [write_len]; omega),write_read,if_pos rfl]
theorem disk_len (D:Dsk) (b:List Nat):(Super.disk D b).l.length=D.l.length:=by unfold Super.disk; rw [flush_len,write_len]
theorem disk_dead (D:Dsk) (b:List Nat):(Super.disk D b).dead=D.dead:=by unfold Super.disk; rw [flush_dead]; rfl
theorem told_disk (D:Dsk) (h:1<=D.l.length) (ha:D.dead=false) (c:Cfg) (hc:c.Good) (i:Nat) (hi:i < 8):(Super.disk D (c.block i).bytes).told i=some c:=by
 rw [told_of _ i (by rw [disk_dead]; exact ha) (c.block i) (Cfg.block_ok c i hc) (Cfg.block_right c i hi) (disk_read D _ h),if_pos ⟨rfl,rfl,rfl⟩]
 exact Cfg.told_block c hc i
end Dsk
namespace SRuns
def C:Cfg:=⟨9,2,3,1,1⟩
theorem C_good:C.Good:=by constructor<;>decide
def R0:Rck:=Rck.new 3 4
def D (i:Nat):Dsk:=Super.disk (Dsk.new 4) (C.block i).bytes
def R1:Rck:=R0.setD (1:Nat) (D 1)
def R2:Rck:=R1.setD (2:Nat) (D 2)
theorem l0:Live R0 3 4:=Live.new 3 4 (by omega)
theorem D_len (i:Nat):(D i).l.length=4:=by unfold D; rw [Dsk.disk_len]; exact Dsk.new_len 4
theorem l1:Live R1 3 4/\∀ j:Nat,R1.dsk j=if j=1 then D 1 else R0.dsk j:=l0.setD (i:=1) (D 1) (D_len 1) (by omega)
theorem l2:Live R2 3 4/\∀ j:Nat,R2.dsk j=if j=2 then D 2 else R1.dsk j:=l1.1.setD (i:=2) (D 2) (D_len 2) (by omega)
theorem put1:R0.superPut C 1=(none,R1):=by
 have h:Super R0 C 4:=⟨l0,C_good,by decide⟩
 have e:R0.dsk (1:Nat)=Dsk.new 4:=Live.new_dsk 3 4 1 (by omega)
 have:=h.put (i:=1) (by decide) (by rw [e]; rfl)
 rw [e] at this
 exact this
theorem put2:R1.superPut C 2=(none,R2):=by
 have h:Super R1 C 4:=⟨l1.1,C_good,by decide⟩
 have e:R1.dsk (2:Nat)=Dsk.new 4:=by rw [l1.2,if_neg (by omega)]; exact Live.new_dsk 3 4 2 (by omega)
 have:=h.put (i:=2) (by decide) (by rw [e]; rfl)
 rw [e] at this
 exact this
theorem fits2 {R:Rck} (h:Live R 3 4):R.fits C=true:=Super.fits (m:=4) ⟨h,C_good,by decide⟩
theorem d0:R2.dsk (0:Nat)=Dsk.new 4:=by rw [l2.2,if_neg (by omega),l1.2,if_neg (by omega)]; exact Live.new_dsk 3 4 0 (by omega)
theorem d1:R2.dsk (1:Nat)=D 1:=by rw [l2.2,if_neg (by omega),l1.2,if_pos rfl]
theorem d2:R2.dsk (2:Nat)=D 2:=by rw [l2.2,if_pos rfl]
theorem told_D (i:Nat) (hi:i < 8):(D i).told i=some C:=by
 unfold D
 exact Dsk.told_disk _ (by rw [Dsk.new_len]; omega) rfl C C_good i hi
theorem cnt {R:Rck} (h:Live R 3 4) (x y z:Option Cfg) (h0:(R.dsk (0:Nat)).told 0=x) (h1:(R.dsk (1:Nat)).told 1=y) (h2:(R.dsk (2:Nat)).told 2=z):R.counted 3=Rck.count (Rck.count (Rck.count (Cfg.zero,0) x) y) z:=by
 rw [Rck.counted_succ,Rck.counted_succ,Rck.counted_succ,h.superGet (by omega) (by omega),h.superGet (by omega) (by omega),h.superGet (by omega) (by omega),h0,h1,h2]
 rfl
theorem find2:R2.superFind=(C,none):=by
 have hc:R2.counted 3=(C,2):=by
  rw [cnt l2.1 none (some C) (some C) (by rw [d0]; exact Dsk.told_new 4 0 (by omega)) (by rw [d1]; exact told_D 1 (by omega)) (by rw [d2]; exact told_D 2 (by omega))]
  simp [Rck.count]
 unfold Rck.superFind
 rw [l2.1.len,hc,if_neg]
 intro q
 rcases q with q | q | q
 ·
  exact absurd q (by decide)
 ·
  exact absurd q (by decide)
 ·
  rw [show (C,2).1=C from rfl,fits2 l2.1] at q; cases q
theorem find3:(R2.die 2).superFind=(Cfg.zero,some (.fault sSuperFind 1 (.no 7))):=by
 have hl:=l2.1.setD (i:=2) (R2.dsk (2:Nat)).die (by rw [Dsk.die_len]; exact l2.1.secs 2 (by omega)) (by omega)
 have e:R2.die 2=R2.setD (2:Nat) (R2.dsk (2:Nat)).die:=l2.1.die (i:=2) (by omega)
 rw [e]
 generalize R2.setD (2:Nat) (R2.dsk (2:Nat)).die=R at *
 have hc:R.counted 3=(C,1):=by
  rw [cnt hl.1 none (some C) none (by rw [hl.2,if_neg (by omega),d0]; exact Dsk.told_new 4 0 (by omega)) (by rw [hl.2,if_neg (by omega),d1]; exact told_D 1 (by omega)) (by rw [hl.2,if_pos rfl]; exact Dsk.told_dead _ 2 rfl)]
  simp [Rck.count]
 unfold Rck.superFind
 rw [hl.1.len,hc,if_pos (.inr (.inl (by decide)))]
 rfl
end SRuns
open Go Go.RowKit
open SRuns in
set_option maxRecDepth 100000 in
set_option maxHeartbeats 2000000 in
theorem superRuns_c (w:World) (hg:EtLaid w):Calls Tryz.prog 53 #[] w fun e w'=>e=.returned (.bool true)/\Ext w w':=by
 have HG:=hid hg
 have hzc:=zero_cfg
 have HCS:=hid Cfg.A_size
 have HB:Hid (Tryz.prog.built 74 [(0,.int .i64 9),(1,.int .i64 2),(2,.int .i64 3),(3,.int .i64 1),(4,.int .i64 1)]=some (Cfg.A C)):=hid (built_cfg C)
 clear hg
 obtain ⟨W1,hW1⟩:∃ W,w.alloc (.cells (Cfg.A C) 74)=W:=⟨_,rfl⟩
 have X1:=hid (show Ext w W1 from hW1▸(Ext.refl w).alloc _)
 have HC:=hid (show W1.heap[w.heap.size]?=some (.cells (Cfg.A C) 74 (0,0)) from hW1▸heap_alloc_new _ _)
 have HLT:=hid (lt_of_block HC.out)
 have hbs:(w.alloc (.cells (Cfg.A Cfg.zero) 74)).heap[w.heap.size]?=some (.cells (Cfg.A Cfg.zero) 74 (0,0)):=Zaf
 go_enter Tryz.func53,Tryz.ntmps53
 go_wp2_with (first
  | (refine Zal rfl 74 _ rfl (Cfg.A C) ?_ ?_; (simp only [List.map_toArray,List.map_cons,List.map_nil,Act.eval]; exact HB.out))
  | (refine Zaa rfl 74 _ _ rfl w.heap.size rfl (Cfg.A C) _ rfl 74 ?_ hbs ?_ ?_ ?_; (rw [HCS.out]; exact aggCfg); (rw [HCS.out,HCS.out]); exact Cfg.A_one _))
 rw [Zag,hW1]
 refine (at_new 3 4 (by omega) (by omega) (by omega) (by omega) W1).mono ?_
 rintro e w2 ⟨r,rfl,h2,x2⟩
 have H2:=hid (show RackAt (fun b=>b < W1.heap.size) w2 r R0 from h2)
 have X2:=hid (Ext.trans X1.out x2)
 have HC2:=hid (x2.at HC.out)
 clear h2 x2 hbs
 --M1
 go_wp2_with (refine Zan 74 _ rfl ⟨w.heap.size,0,none⟩ rfl (Cfg.A C) rfl (Zas C) (Zai HC2.out) ?_)
 refine (sput_c H2.out C 1).mono ?_
 rintro e w3 ⟨rfl,h3,k3⟩
 rw [put1] at h3 ⊢
 simp only [oErr]
 have H3:=hid h3
 have X3:=hid (Keeps.ext X2.out k3 fun q hq=>Nat.lt_of_lt_of_le hq X1.out.size)
 have HC3:=hid (k3.at HC2.out fun q=>q HLT.out)
 clear h3 k3
 go_wp2_with (refine Zan 74 _ rfl ⟨w.heap.size,0,none⟩ rfl (Cfg.A C) rfl (Zas C) (Zai HC3.out) ?_)
 refine (sput_c H3.out C 2).mono ?_
 rintro e w4 ⟨rfl,h4,k4⟩
 rw [put2] at h4 ⊢
 simp only [oErr]
 have H4:=hid h4
 have X4:=hid (Keeps.ext X3.out k4 fun q hq=>Nat.lt_of_lt_of_le hq X1.out.size)
 have HC4:=hid (k4.at HC3.out fun q=>q HLT.out)
 clear h4 k4
 go_wp2_with fail
 refine (sfind_c H4.out).mono ?_
 rintro e w5 ⟨rfl,x5⟩
 rw [find2]
 simp only [oErr]
 have H5:Hid (RackAt (fun b=>b < W1.heap.size\/b=w5.heap.size) (w5.alloc (.cells (Cfg.A C) 74)) r R2):=hid (H4.out.more (x5.alloc _) fun b hb=>by
  have q:=x5.size
  have q2:(w5.alloc (.cells (Cfg.A C) 74)).heap.size=w5.heap.size+1:=by simp
  have q3:=H4.out.there
  rcases hb with hb | rfl
  ·
   exact ⟨by have:=q3 b hb; omega,.inl hb⟩
  ·
   exact ⟨by omega,.inr q⟩)
 have X5:=hid (Ext.trans X4.out (x5.alloc (.cells (Cfg.A C) 74)))
 have HC5:=hid (Ext.at (x5.alloc (.cells (Cfg.A C) 74)) HC4.out)
 have HD5:Hid ((w5.alloc (.cells (Cfg.A C) 74)).heap[w5.heap.size]?=some (.cells (Cfg.A C) 74 (0,0))):=hid Zaf
 have hbs:(w5.alloc (.cells (Cfg.A Cfg.zero) 74)).heap[w5.heap.size]?=some (.cells (Cfg.A Cfg.zero) 74 (0,0)):=Zaf
 clear x5
 go_wp2_with (refine Zaa rfl 74 _ _ rfl w5.heap.size rfl (Cfg.A C) _ rfl 74 ?_ hbs ?_ ?_ ?_; (rw [HCS.out]; exact aggCfg); (rw [HCS.out,HCS.out]); exact Cfg.A_one _)
 rw [Zag]
 clear hbs
 generalize w5.heap.size=g5 at *
 generalize w5.alloc (.cells (Cfg.A C) 74)=v5 at *
 refine (at_die H5.out 2).mono ?_
 rintro e w6 ⟨rfl,h6,k6⟩
 obtain ⟨b6,hb6⟩:∃ b,R2.has 2=b:=⟨_,rfl⟩
 rw [hb6]
 clear hb6
 have H6:=hid h6
 have X6:=hid (Keeps.ext X5.out k6 fun q hq=>.inl (Nat.lt_of_lt_of_le hq X1.out.size))
 have HC6:=hid (k6.at HC5.out fun q=>q (.inl HLT.out))
 have HD6:=hid (k6.at HD5.out fun q=>q (.inr rfl))
 clear h6 k6
 go_wp2_with fail
 refine (sfind_c H6.out).mono ?_
 rintro e w7 ⟨rfl,x7⟩
 rw [find3]
 simp only [oErr]
 have X7:=hid (Ext.trans X6.out (x7.alloc (.cells (Cfg.A Cfg.zero) 74)))
 have HC7:=hid (Ext.at (x7.alloc (.cells (Cfg.A Cfg.zero) 74)) HC6.out)
 have HD7:=hid (Ext.at (x7.alloc (.cells (Cfg.A Cfg.zero) 74)) HD6.out)
 have hbs:(w7.alloc (.cells (Cfg.A Cfg.zero) 74)).heap[w7.heap.size]?=some (.cells (Cfg.A Cfg.zero) 74 (0,0)):=Zaf
 have HE:=hid (cfg_eql C C)
 rw [Cfg.eqB_self] at HE
 have HER:Hid ((Err.fault sSuperFind 1 (.no 7)).kind=7):=hid rfl
 obtain ⟨er,hre⟩:∃ er,Err.fault sSuperFind 1 (.no 7)=er:=⟨_,rfl⟩
 rw [hre] at HER ⊢
 clear x7 hre
 go_wp2_with (first
  | (refine Zaa rfl 74 _ _ rfl w7.heap.size rfl (Cfg.A Cfg.zero) _ rfl 74 ?_ hbs ?_ ?_ ?_; (rw [HCS.out]; exact aggCfg); (rfl); exact Cfg.A_one _)
  | (rw [Zag]; refine Zan 74 _ rfl ⟨g5,0,none⟩ rfl (Cfg.A C) rfl (Zas C) (Zai HD7.out) ?_)
  | (refine Zan 74 _ rfl ⟨w.heap.size,0,none⟩ rfl (Cfg.A C) rfl (Zas C) (Zai HC7.out) ?_)
  | (refine Zbr .eql 74 _ _ _ rfl (Cfg.A C) (Cfg.A C) rfl rfl (.bool true) rfl (cfg_guard _ _ _ _ _ _) (HE.out _) ?_))
 clear hbs
 refine (kind_err er _ (HG.out.only X7.out (fun x=>x))).mono ?_
 rintro e w8 ⟨rfl,x8⟩
 rw [HER.out]
 have X8:=hid (Ext.trans X7.out x8)
 have HC8:=hid (Ext.at x8 HC7.out)
 clear x8
 go_wp2_with (refine Zan 74 _ rfl ⟨w.heap.size,0,none⟩ rfl (Cfg.A C) rfl (Zas C) (Zai HC8.out) ?_)
 refine (ssectors_c C C_good w8).mono ?_
 rintro e w9 ⟨rfl,x9⟩
 rw [show C.sectors=4 from rfl]
 have X9:=hid (Ext.trans X8.out x9)
 clear x9
 go_wp2
 go_ret
 exact ⟨rfl,X9.out⟩
theorem built_cfg3 (i k s t:Int):Tryz.prog.built 74 [(0,.int .i64 i),(1,.int .i64 k),(3,.int .i64 s),(4,.int .i64 t)]=some (Cfg.A ⟨i,k,0,s,t⟩):=by kernel_rfl
theorem Cfg.A_n (c:Cfg) (x:Int):(Cfg.A c).setIfInBounds 2 (.int .i64 x)=Cfg.A { c with n:=x }:=by
 rw [Cfg.A_def,Cfg.A_def]; rfl
def KCfgPost (w:World) (c:Cfg) (e:Ending) (w':World):Prop:=e=.returned (.agg (Cfg.A c))/\Ext w w'
theorem sectors_nat (c:Cfg) (h:c.Good):∃ m:Nat,c.sectors=(m:Int)/\1<=m/\m<=128:=by
 have b0:0<=c.slots*c.k:=Int.mul_nonneg (by have:=h.sl0; omega) (by have:=h.k0; omega)
 have b1:c.slots*c.k<=4*8:=Int.mul_le_mul h.sl1 (by have:=h.k1; have:=h.n1; omega) (by have:=h.k0; omega) (by omega)
 have b2:=h.st0
 have b3:=h.st1
 have e:c.sectors=1+c.slots*c.k+c.stripes:=rfl
 refine ⟨c.sectors.toNat,?_,?_,?_⟩<;>omega
def keepCfg (k n stripes slots:Int):Cfg:=⟨7,within k 1 4,within n (within k 1 4) 6,within stripes 1 6,within slots 1 3⟩
theorem keepCfg_good (k n stripes slots:Int):(keepCfg k n stripes slots).Good:=by
 obtain ⟨a0,a1⟩:=Zbg k 1 4 (by omega)
 obtain ⟨b0,b1⟩:=Zbg n (within k 1 4) 6 (by omega)
 obtain ⟨c0,c1⟩:=Zbg stripes 1 6 (by omega)
 obtain ⟨d0,d1⟩:=Zbg slots 1 3 (by omega)
 exact ⟨by show (1:Int)<=7; omega,by show (7:Int)<=2147483647; omega,by show within n (within k 1 4) 6<=8; omega,a0,b0,c0,by show within stripes 1 6<=64; omega,d0,by show within slots 1 3<=4; omega⟩
set_option maxRecDepth 100000 in
set_option maxHeartbeats 1000000 in
theorem kconfig_c (k n stripes slots:Int) (w:World):Calls Tryz.prog 43 #[.int .i64 k,.int .i64 n,.int .i64 stripes,.int .i64 slots] w (KCfgPost w (keepCfg k n stripes slots)):=by
 have hzc:=zero_cfg
 have HCS:=hid Cfg.A_size
 have HK:Hid (keepCfg k n stripes slots=⟨7,within k 1 4,within n (within k 1 4) 6,within stripes 1 6,within slots 1 3⟩):=hid rfl
 rw [HK.out]
 clear HK
 obtain ⟨a0,a1⟩:=Zbg k 1 4 (by omega)
 have HWK:=hid (Zbt k 1 4)
 generalize within k 1 4=kk at *
 have hb3:=built_cfg3
 go_enter Tryz.func43,Tryz.ntmps43
 go_wp2_with fail
 refine (HWK.out _ (by omega) (by omega) (by omega)).mono ?_
 rintro e w2 ⟨rfl,rfl⟩
 go_wp2_with fail
 refine (Zbt stripes 1 6 _ (by omega) (by omega) (by omega)).mono ?_
 rintro e w2 ⟨rfl,rfl⟩
 go_wp2_with fail
 refine (Zbt slots 1 3 _ (by omega) (by omega) (by omega)).mono ?_
 rintro e w2 ⟨rfl,rfl⟩
 generalize within stripes 1 6=st at *
 generalize within slots 1 3=sl at *
 have e1:(w.alloc (.cells (Cfg.A Cfg.zero) 74)).heap.size=w.heap.size+1:=by simp
 have hbs:((w.alloc (.cells (Cfg.A Cfg.zero) 74)).alloc (.cells (Cfg.A Cfg.zero) 74)).heap[w.heap.size+1]?=some (.cells (Cfg.A Cfg.zero) 74 (0,0)):=by rw [<- e1]; exact heap_alloc_new _ _
 have HB3:Hid (Tryz.prog.built 74 [(0,.int .i64 7),(1,.int .i64 kk),(3,.int .i64 st),(4,.int .i64 sl)]=some (Cfg.A ⟨7,kk,0,st,sl⟩)):=hid (built_cfg3 7 kk st sl)
 clear hb3
 have c1:(((w.alloc (.cells (Cfg.A Cfg.zero) 74)).alloc (.cells (Cfg.A Cfg.zero) 74)).setRow (w.heap.size+1) (Cfg.A ⟨7,kk,0,st,sl⟩)).cell? ⟨w.heap.size+1,1,none⟩=some (.int .i64 kk):=(Zae (setRow_heap _ _ _ _ _ _ hbs)).trans (Cfg.A1 _)
 go_wp2_with (first
  | (refine Zal rfl 74 _ rfl (Cfg.A ⟨7,kk,0,st,sl⟩) ?_ ?_; (simp only [List.map_toArray,List.map_cons,List.map_nil,Act.eval]; simp only [Array.getD_eq_getD_getElem?,List.getElem?_toArray,List.getElem?_cons_succ,List.getElem?_cons_zero,Option.getD_some]; exact HB3.out))
  | (refine Zaa rfl 74 _ _ rfl (w.heap.size+1) rfl (Cfg.A ⟨7,kk,0,st,sl⟩) _ rfl 74 ?_ hbs ?_ ?_ ?_; (rw [HCS.out]; exact aggCfg); (rw [HCS.out,HCS.out]); exact Cfg.A_one _))
 have HO:Hid (CBlk (((w.alloc (.cells (Cfg.A Cfg.zero) 74)).alloc (.cells (Cfg.A Cfg.zero) 74)).setRow (w.heap.size+1) (Cfg.A ⟨7,kk,0,st,sl⟩)) (w.heap.size+1) ⟨7,kk,0,st,sl⟩):=hid (setRow_heap _ _ _ _ _ _ hbs)
 have HR:Hid (CBlk (((w.alloc (.cells (Cfg.A Cfg.zero) 74)).alloc (.cells (Cfg.A Cfg.zero) 74)).setRow (w.heap.size+1) (Cfg.A ⟨7,kk,0,st,sl⟩)) w.heap.size Cfg.zero):=hid (by
  have:=(Zad ((w.alloc (.cells (Cfg.A Cfg.zero) 74)).alloc (.cells (Cfg.A Cfg.zero) 74)) (w.heap.size+1) (Cfg.A ⟨7,kk,0,st,sl⟩)).at (k:=w.heap.size) (o:=.cells (Cfg.A Cfg.zero) 74) (by rw [heap_alloc_old _ _ (by simp)]; exact heap_alloc_new _ _) (by omega)
  exact this)
 have HX:Hid (Ext w (((w.alloc (.cells (Cfg.A Cfg.zero) 74)).alloc (.cells (Cfg.A Cfg.zero) 74)).setRow (w.heap.size+1) (Cfg.A ⟨7,kk,0,st,sl⟩))):=hid (Ext.then (((Ext.refl w).alloc _).alloc _) (Zad _ _ _) (fun i hi=>by omega))
 clear hbs c1 HB3
 generalize ((w.alloc (.cells (Cfg.A Cfg.zero) 74)).alloc (.cells (Cfg.A Cfg.zero) 74)).setRow (w.heap.size+1) (Cfg.A ⟨7,kk,0,st,sl⟩)=W at *
 refine (Zbt n kk 6 W (by omega) (by omega) (by omega)).mono ?_
 rintro e w2 ⟨rfl,rfl⟩
 generalize within n kk 6=nn at *
 have c2:W.cell? ⟨w.heap.size+1,2,none⟩=some (.int .i64 0):=(Zae HO.out).trans (Cfg.A2 _)
 have f2:W.frozen? ⟨w.heap.size+1,2,none⟩=false:=Zax HO.out
 have HO2:Hid ((W.setCell ⟨w.heap.size+1,2,none⟩ (.int .i64 nn)).heap[w.heap.size+1]?=some (.cells (Cfg.A ⟨7,kk,nn,st,sl⟩) 74 (0,0))):=hid (by
  have:=Zar HO.out (i:=2) (.int .i64 nn)
  rw [Cfg.A_n] at this
  exact this)
 have HR2:Hid ((W.setCell ⟨w.heap.size+1,2,none⟩ (.int .i64 nn)).heap[w.heap.size]?=some (.cells (Cfg.A Cfg.zero) 74 (0,0))):=hid ((Zaj _ (by omega)).trans HR.out)
 have HX2:Hid (Ext w (W.setCell ⟨w.heap.size+1,2,none⟩ (.int .i64 nn))):=hid (Only.setCell (F:=fun _=>False) HX.out (.inl (by show _<=w.heap.size+1; omega)) _)
 go_wp2_with (first
  | (refine Zab rfl 74 _ rfl ⟨w.heap.size+1,0,none⟩ rfl (Cfg.A ⟨7,kk,nn,st,sl⟩) (Zas _) (Zai HO2.out) ?_)
  | (refine Zaa rfl 74 _ _ rfl w.heap.size rfl (Cfg.A ⟨7,kk,nn,st,sl⟩) _ rfl 74 ?_ HR2.out ?_ ?_ ?_; (rw [HCS.out]; exact aggCfg); (rw [HCS.out,HCS.out]); exact Cfg.A_one _))
 refine bodyPost_ret (results_cell_row Tryz.results43 _ _ w.heap.size _ (Cfg.A ⟨7,kk,nn,st,sl⟩) _ _ rfl (setRow_heap _ _ _ _ _ _ HR2.out) Tryz.underlying74 rfl (by rw [HCS.out]; exact aggCfg.2)) rfl ?_
 exact ⟨rfl,Ext.then HX2.out (Zad _ _ _) (fun i hi=>by omega)⟩
end Go.Proofs.YtgjnnbomnoafcaaGreatDoor
