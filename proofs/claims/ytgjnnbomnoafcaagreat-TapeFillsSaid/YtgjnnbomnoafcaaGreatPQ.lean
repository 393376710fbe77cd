/- Texts of one proof, joined: JourA, JourB, JourC, JourD, JourE, JourF, JourG, JourH, JourI, JourJ. -/
import Derived.Test.YtgjnnbomnoafcaaGreatPI
import Derived.Test.YtgjnnbomnoafcaaGreatPH
import Derived.Test.YtgjnnbomnoafcaaGreatPB
import Derived.Test.YtgjnnbomnoafcaaGreatPJ
import Derived.Test.YtgjnnbomnoafcaaGreatPF
import Derived.Test.YtgjnnbomnoafcaaGreatPC
set_option linter.unusedVariables false
set_option linter.unusedSimpArgs false
namespace Go.Proofs.YtgjnnbomnoafcaaGreat
set_option linter.unusedVariables false
open Go Go.RowKit
theorem jsec_bd (c:Cfg) (h:c.Good) (slot:Int) (h0:0<=slot) (h1:slot < c.slots):0<=slot*c.k/\slot*c.k<=32:=by
 obtain ⟨q1,q2,q3,q4,q5,q6,q7,q8,q9⟩:=h
 have e1:0<=slot*c.k:=Int.mul_nonneg h0 (by omega)
 have e2:slot*c.k<=4*c.k:=Int.mul_le_mul_of_nonneg_right (by omega) (by omega)
 omega
set_option maxRecDepth 100000 in
theorem jsector_c (c:Cfg) (h:c.Good) (slot:Int) (h0:0<=slot) (h1:slot < c.slots) (i:Nat) (hi:i < 8) (w:World) :
  Calls Tryz.prog 73 #[.agg (Cfg.A c),.int .i64 slot,.int .i64 i] w fun e w'=>e=.returned (.int .i64 (Rck.jsec c slot i))/\Ext w w':=by
 have a1:=Cfg.A1 c
 obtain ⟨b0,b1⟩:=jsec_bd c h slot h0 h1
 have HR:Hid (Rck.jsec c slot i=1+slot*c.k+i):=hid rfl
 rw [HR.out]
 clear HR h h1
 obtain ⟨id,k,n,st,sl⟩:=c
 simp only at a1 b0 b1 ⊢
 generalize Cfg.A _=A at *
 obtain ⟨p,hp⟩:∃ p,slot*k=p:=⟨_,rfl⟩
 rw [hp] at b0 b1 ⊢
 have hw:wrap64 (slot*k)=p:=by rw [hp]; unfold wrap64; omega
 have w2:wrap64 (1+p)=1+p:=by unfold wrap64; omega
 have w3:wrap64 (1+p+(i:Int))=1+p+i:=by unfold wrap64; omega
 clear hp b0 b1
 go_enter Tryz.func73,Tryz.ntmps73
 go_wp2
 go_ret
 exact ⟨ret_int (by simp only [hw,w2,w3]),(Ext.refl w).alloc _⟩
def Rcd.V (x:Rcd) (a:Option Addr) (c:Nat):Array Value:=#[.int .i64 x.seq,.int .i64 x.stripe,.slice a x.blocks.length c]
theorem Frm.A_data (f:Frm) (hf:f.Ok) (b:List Nat) (hb:b.length=108):((Frm.A f).toList.take 4++(bA b).toList++(Frm.A f).toList.drop (4+(bA b).size)).toArray=Frm.A { f with data:=b }:=by
 have hs:=hf.len
 rw [Frm.A_def,Frm.A_def,Zaz,hb,Zb0]
 unfold Frm.cl
 apply Array.ext'
 simp [hs]
def JFramePost (w:World) (x:Rcd) (i:Nat) (e:Ending) (w':World):Prop:=e=.returned (.agg (Frm.A (x.frm i)))/\Ext w w'
set_option maxRecDepth 100000 in
set_option maxHeartbeats 1000000 in
theorem jframe_c (x:Rcd) (hx:x.Ok) (hl:x.blocks.length<=8) (a:Option Addr) (c:Nat) (w:World) (hb:BlksAt w a x.blocks) (i:Nat) (hi:i < 8) :
  Calls Tryz.prog 74 #[.agg (x.V a c),.int .i64 i] w (JFramePost w x i):=by
 have hz:=Za0
 have HZ:=hid (Frm.A_size _ Zbc)
 have HB:Hid (Tryz.prog.built 113 [(0,.int .i64 2),(1,.int .i64 i),(2,.int .i64 x.stripe),(3,.int .i64 x.seq)]=some (Frm.A ⟨2,i,x.stripe,x.seq,List.replicate 108 0⟩)):=hid (built_four 2 i x.stripe x.seq)
 have hok0:(⟨2,i,x.stripe,x.seq,List.replicate 108 0⟩:Frm).Ok:=⟨by simp,by intro y hy; rw [(List.mem_replicate.1 hy).2]; omega⟩
 have HS0:=hid (Frm.A_size _ hok0)
 have HOK:=hid (Rcd.frm_ok x hx i)
 have HS1:=hid (Frm.A_size _ HOK.out)
 obtain ⟨F0,hF0⟩:∃ F,(⟨2,i,x.stripe,x.seq,List.replicate 108 0⟩:Frm)=F:=⟨_,rfl⟩
 -- the worlds
 obtain ⟨W0,hW0⟩:∃ W,w.alloc (.cells (x.V a c) 101)=W:=⟨_,rfl⟩
 have HX0:=hid (show Ext w W0 from hW0▸(Ext.refl w).alloc _)
 have HR0:=hid (show W0.heap[w.heap.size]?=some (.cells (x.V a c) 101 (0,0)) from hW0▸heap_alloc_new _ _)
 have hsz0:W0.heap.size=w.heap.size+1:=by rw [<- hW0]; simp
 obtain ⟨W1,hW1⟩:∃ W,W0.alloc (.cells (Frm.A Frm.zero) 113)=W:=⟨_,rfl⟩
 have HX1:=hid (show Ext W0 W1 from hW1▸(Ext.refl W0).alloc _)
 have HRES:=hid (show W1.heap[W0.heap.size]?=some (.cells (Frm.A Frm.zero) 113 (0,0)) from hW1▸heap_alloc_new _ _)
 have hsz1:W1.heap.size=w.heap.size+1+1:=by rw [<- hW1]; simp [hsz0]
 have hbs:(W1.alloc (.cells (Frm.A Frm.zero) 113)).heap[w.heap.size+1+1]?=some (.cells (Frm.A Frm.zero) 113 (0,0)):=by rw [<- hsz1]; exact heap_alloc_new _ _
 obtain ⟨W2,hW2⟩:∃ W,(W1.alloc (.cells (Frm.A Frm.zero) 113)).setRow (w.heap.size+1+1) (Frm.A F0)=W:=⟨_,rfl⟩
 have HW2:=hid hW2
 have X12:Ext W1 W2:=by rw [<- hW2]; exact Ext.then ((Ext.refl W1).alloc _) (Zag _ _ _) (fun i hi=>by omega)
 have HF2:Hid (W2.heap[w.heap.size+1+1]?=some (.cells (Frm.A F0) 113 (0,0))):=hid (by rw [<- hW2]; exact setRow_heap _ _ _ _ _ _ hbs)
 have hres2:W2.heap[w.heap.size+1]?=some (.cells (Frm.A Frm.zero) 113 (0,0)):=by rw [<- hsz0]; exact Ext.at X12 HRES.out
 have hrec2:W2.heap[w.heap.size]?=some (.cells (x.V a c) 101 (0,0)):=Ext.at X12 (Ext.at HX1.out HR0.out)
 have HX2:=hid (Ext.trans HX0.out (Ext.trans HX1.out X12))
 have c0:W1.cell? ⟨w.heap.size,0,none⟩=some (.int .i64 x.seq):=(Zaf (Ext.at HX1.out HR0.out)).trans rfl
 have c1:W1.cell? ⟨w.heap.size,1,none⟩=some (.int .i64 x.stripe):=(Zaf (Ext.at HX1.out HR0.out)).trans rfl
 have c2:W2.cell? ⟨w.heap.size,2,none⟩=some (.slice a x.blocks.length c):=(Zaf hrec2).trans rfl
 have i0:(0:Int)<=(i:Int):=by omega
 have hF:x.frm i={ F0 with data:=x.blocks.getD i (List.replicate 108 0) }:=by rw [<- hF0]; rfl
 have hlen8:(x.blocks.length:Int)<=8:=by omega
 rw [hF0] at HB HS0 hok0
 have HRES2:=hid hres2
 clear hres2 hrec2 X12 hW2
 go_enter Tryz.func74,Tryz.ntmps74
 by_cases hlt:i < x.blocks.length
 ·
  have i1:(i:Int) < (x.blocks.length:Int):=by omega
  obtain ⟨g,rfl,hbc⟩:=hb i x.blocks[i] (List.getElem?_eq_getElem hlt)
  have hbl:x.blocks[i].length=108:=hx.len _ (List.getElem_mem hlt)
  have hgd:x.blocks.getD i (List.replicate 108 0)=x.blocks[i]:=by simp [List.getD_eq_getElem?_getD,hlt]
  rw [hgd] at hF
  generalize x.blocks[i]=b at *
  have HBC:Hid (∀ j v,(bA b).toList[j]?=some v->W2.cell? ((⟨g,i*108,none⟩:Addr).add j)=some v):=hid fun j v hv=>by
   have hj:j < 108:=by
    rcases Nat.lt_or_ge j 108 with q | q
    ·
     exact q
    ·
     rw [List.getElem?_eq_none (by rw [Array.length_toList,Zaz]; omega)] at hv; cases hv
   have e:(⟨g,i*108,none⟩:Addr).add j=⟨g,i*108+j,none⟩:=by unfold Addr.add; split<;>simp_all
   rw [e,Ext.cell HX2.out (hbc j hj)]
   have:=Zbf b j (by omega)
   rw [<- Array.getElem?_toList] at this
   rw [<- hv,<- this]
  have HSB:Hid ((bA b).size=108):=hid (by rw [Zaz,hbl])
  have HDT:=hid (Frm.A_data F0 hok0 b hbl)
  have hrow:(W2.setRow (w.heap.size+1+1) (Frm.A { F0 with data:=b })).heap[w.heap.size+1+1]?=some (.cells (Frm.A { F0 with data:=b }) 113 (0,0)):=setRow_heap _ _ _ _ _ _ HF2.out
  have hres3:(W2.setRow (w.heap.size+1+1) (Frm.A { F0 with data:=b })).heap[w.heap.size+1]?=some (.cells (Frm.A Frm.zero) 113 (0,0)):=(Zag _ _ _).at HRES2.out (by omega)
  rw [<- hF] at hrow hres3 HDT
  have HROW:=hid hrow; have HRES3:=hid hres3
  clear hrow hres3 hb hbc hbl hgd hF hok0 hF0
  go_wp2_with (first
   | (refine Zao rfl 113 _ rfl (Frm.A F0) ?_ ?_; (simp only [List.map_toArray,List.map_cons,List.map_nil,Act.eval]; simp only [Array.getD_eq_getD_getElem?,List.getElem?_toArray,List.getElem?_cons_succ,List.getElem?_cons_zero,Option.getD_some]; exact HB.out))
   | (refine Zaa rfl 113 _ _ rfl (w.heap.size+1+1) rfl (Frm.A F0) _ rfl 113 ?_ hbs ?_ ?_ ?_; (rw [HS0.out]; exact aggFrame); (rw [HS0.out,HZ.out]); exact Frm.A_one _; rw [HW2.out])
   | (refine Zac rfl 24 _ rfl ⟨g,i*108,none⟩ rfl (bA b) ?_ HBC.out ?_; (rw [HSB.out]; exact aggBlock))
   | (refine Zbk rfl 23 _ _ rfl (w.heap.size+1+1) 4 rfl (bA b) (Frm.A F0) rfl 113 ?_ HF2.out ?_ ?_ ?_; (rw [HSB.out]; exact agg108); (rw [HSB.out,HS0.out]; omega); exact bA_one _; rw [HDT.out])
   | (refine Zac rfl 113 _ rfl ⟨w.heap.size+1+1,0,none⟩ rfl (Frm.A (x.frm i)) ?_ (Zai HROW.out) ?_; (rw [HS1.out]; exact aggFrame))
   | (refine Zaa rfl 113 _ _ rfl (w.heap.size+1) rfl (Frm.A (x.frm i)) _ rfl 113 ?_ HRES3.out ?_ ?_ ?_; (rw [HS1.out]; exact aggFrame); (rw [HS1.out,HZ.out]); exact Frm.A_one _))
  --M1
  refine bodyPost_ret (results_cell_row Tryz.results74 _ _ (w.heap.size+1) _ (Frm.A (x.frm i)) _ _ rfl (setRow_heap _ _ _ _ _ _ HRES3.out) Tryz.underlying113 rfl (by rw [HS1.out]; exact aggFrame.2)) rfl ?_
  exact ⟨rfl,Ext.then (Ext.then HX2.out (Zag _ _ _) (fun i hi=>by omega)) (Zag _ _ _) (fun i hi=>by omega)⟩
 ·
  have i1:¬(i:Int) < (x.blocks.length:Int):=by omega
  have hgd:x.blocks.getD i (List.replicate 108 0)=List.replicate 108 0:=by simp [List.getD_eq_getElem?_getD,Nat.le_of_not_lt hlt]
  have hF1:x.frm i=F0:=by rw [hF,hgd,<- hF0]
  have HF1:=hid hF1
  have hrow2:=HF2.out
  rw [<- HF1.out] at hrow2
  have HROW:=hid hrow2
  clear hb hgd hF hok0 hF0 hF1 hrow2
  go_wp2_with (first
   | (refine Zao rfl 113 _ rfl (Frm.A F0) ?_ ?_; (simp only [List.map_toArray,List.map_cons,List.map_nil,Act.eval]; simp only [Array.getD_eq_getD_getElem?,List.getElem?_toArray,List.getElem?_cons_succ,List.getElem?_cons_zero,Option.getD_some]; exact HB.out))
   | (refine Zaa rfl 113 _ _ rfl (w.heap.size+1+1) rfl (Frm.A F0) _ rfl 113 ?_ hbs ?_ ?_ ?_; (rw [HS0.out]; exact aggFrame); (rw [HS0.out,HZ.out]); exact Frm.A_one _; rw [HW2.out])
   | (refine Zac rfl 113 _ rfl ⟨w.heap.size+1+1,0,none⟩ rfl (Frm.A (x.frm i)) ?_ (Zai HROW.out) ?_; (rw [HS1.out]; exact aggFrame))
   | (refine Zaa rfl 113 _ _ rfl (w.heap.size+1) rfl (Frm.A (x.frm i)) _ rfl 113 ?_ HRES2.out ?_ ?_ ?_; (rw [HS1.out]; exact aggFrame); (rw [HS1.out,HZ.out]); exact Frm.A_one _))
  refine bodyPost_ret (results_cell_row Tryz.results74 _ _ (w.heap.size+1) _ (Frm.A (x.frm i)) _ _ rfl (setRow_heap _ _ _ _ _ _ HRES2.out) Tryz.underlying113 rfl (by rw [HS1.out]; exact aggFrame.2)) rfl ?_
  exact ⟨rfl,Ext.then HX2.out (Zag _ _ _) (fun i hi=>by omega)⟩
set_option maxRecDepth 100000 in
set_option maxHeartbeats 1000000 in
theorem jknown_c {S:Nat->Prop} {w:World} {r:Nat} {R:Rck} (h:RackAt S w r R) (c:Cfg) (slot:Int) :
  Calls Tryz.prog 59 #[.pointer (some ⟨r,0,none⟩),.agg (Cfg.A c),.int .i64 slot] w fun e w'=>e=.returned (.bool (R.jknown c slot))/\Ext w w':=by
 obtain ⟨W0,hW0⟩:∃ W,w.alloc (.cells (Cfg.A c) 26)=W:=⟨_,rfl⟩
 have X0:Ext w W0:=hW0▸(Ext.refl w).alloc _
 have HC:=hid (show W0.heap[w.heap.size]?=some (.cells (Cfg.A c) 26 (0,0)) from hW0▸heap_alloc_new _ _)
 have HX0:=hid X0
 have H0:=hid (h.ext X0)
 have HF:Hid (R.jknown c slot=(R.fits c && decide (0<=slot) && decide (slot < c.slots))):=hid rfl
 obtain ⟨kb,hkb⟩:∃ b,R.jknown c slot=b:=⟨_,rfl⟩
 rw [hkb] at HF ⊢
 clear X0 h hkb
 go_enter Tryz.func59,Tryz.ntmps59
 go_wp2_with (refine Zac rfl 26 _ rfl ⟨w.heap.size,0,none⟩ rfl (Cfg.A c) (Zat c) (Zai HC.out) ?_)
 refine (sfits_c H0.out c).mono ?_
 rintro e w2 ⟨rfl,x2⟩
 have HX2:=hid (Ext.trans HX0.out x2)
 have c4:w2.cell? ⟨w.heap.size,4,none⟩=some (.int .i64 c.slots):=(Zaf (Ext.at x2 HC.out)).trans (Cfg.A4 c)
 clear x2
 rcases hf:R.fits c with _ | _
 ·
  have HV:=hid (show kb=false by rw [HF.out,hf]; rfl)
  clear hf
  go_wp2
  go_ret
  exact ⟨Zbo HV.out.symm,HX2.out⟩
 ·
  by_cases h0:0<=slot
  ·
   have HV:=hid (show kb=decide (slot < c.slots) by rw [HF.out,hf,decide_eq_true h0]; rfl)
   clear hf
   go_wp2
   go_ret
   exact ⟨Zbo HV.out.symm,HX2.out⟩
  ·
   have HV:=hid (show kb=false by rw [HF.out,hf,decide_eq_false h0]; rfl)
   clear hf
   go_wp2
   go_ret
   exact ⟨Zbo HV.out.symm,HX2.out⟩
theorem aggRec:AggType Tryz.prog 101 3:=⟨by kernel_rfl,by kernel_rfl⟩
attribute [local irreducible] wpSQ
set_option maxRecDepth 100000 in
set_option maxHeartbeats 2000000 in
theorem jput_c {S:Nat->Prop} {w:World} {r:Nat} {R:Rck} (h:RackAt S w r R) (c:Cfg) (hc:c.Good) (slot:Int) (h0:0<=slot) (h1:slot < c.slots) (x:Rcd) (hx:x.Ok) (hl:x.blocks.length<=8) (a:Option Addr) (cp:Nat)
  (hb:BlksAt w a x.blocks) (ha:∀ g,a=some ⟨g,0,none⟩->S g) :
  Calls Tryz.prog 60 #[.pointer (some ⟨r,0,none⟩),.agg (Cfg.A c),.int .i64 slot,.agg (x.V a cp)] w fun e w'=>e=.returned (oErr (R.jput c slot x).1)/\RackAt S w' r (R.jput c slot x).2/\Keeps S w w':=by
 obtain ⟨W0,hW0⟩:∃ W,w.alloc (.cells (Cfg.A c) 26)=W:=⟨_,rfl⟩
 have x0:Ext w W0:=hW0▸(Ext.refl w).alloc _
 have hc0:W0.heap[w.heap.size]?=some (.cells (Cfg.A c) 26 (0,0)):=hW0▸heap_alloc_new _ _
 have hsz0:W0.heap.size=w.heap.size+1:=by rw [<- hW0]; simp
 obtain ⟨W1,hW1⟩:∃ W,W0.alloc (.cells (x.V a cp) 101)=W:=⟨_,rfl⟩
 have x1:Ext W0 W1:=hW1▸(Ext.refl W0).alloc _
 have hc1:W1.heap[w.heap.size+1]?=some (.cells (x.V a cp) 101 (0,0)):=by rw [<- hsz0]; exact hW1▸heap_alloc_new _ _
 have H:=hid h
 have HX1:=hid (Ext.trans x0 x1)
 have HC1:=hid (Ext.at x1 hc0)
 have HD1:=hid hc1
 have HBL:=hid hb
 have HGC:=hid hc
 clear x0 x1 hc0 hc1 h hb
 go_enter Tryz.func60,Tryz.ntmps60
 go_wp2_with fail
 refine (Zbx (H.out.ext HX1.out)).mono ?_
 rintro e W2 ⟨v,rfl,hown,x2⟩
 obtain ⟨oa,oc,rfl,hcell⟩:=hown.slice
 obtain ⟨L,hL⟩:∃ L,R.online=L:=⟨_,rfl⟩
 have hLn:L.length<=8:=by rw [<- hL]; have:=R.online_len; have:=H.out.disks8; omega
 have HL:=hid hL
 rw [hL] at hcell ⊢
 obtain ⟨K,hK⟩:∃ K:Nat,c.k=(K:Int):=⟨c.k.toNat,by have:=hc.k0; omega⟩
 have hK8:K<=8:=by have:=hc.k1; have:=hc.n1; omega
 have HK:=hid hK
 have hXX:=Ext.trans HX1.out x2
 have HX2:=hid hXX
 have hcW:W2.heap[w.heap.size]?=some (.cells (Cfg.A c) 26 (0,0)):=Ext.at x2 HC1.out
 have hdW:W2.heap[w.heap.size+1]?=some (.cells (x.V a cp) 101 (0,0)):=Ext.at x2 HD1.out
 have hlt:=lt_of_block hdW
 have HCW:=hid hcW; have HDW:=hid hdW
 have HBW:=hid (HBL.out.ext hXX)
 have HSG:Hid (∀ g,a=some ⟨g,0,none⟩->¬ ¬PutT S w.heap.size W2.heap.size g):=hid fun g hg q=>q (.inl (ha g hg))
 have HPC:Hid (PutT S w.heap.size W2.heap.size w.heap.size/\PutT S w.heap.size W2.heap.size (w.heap.size+1)):=hid ⟨.inr ⟨Nat.le_refl _,by omega⟩,.inr ⟨by omega,hlt⟩⟩
 have HON:Hid (∀ wr,Only (fun b=>¬PutT S w.heap.size W2.heap.size b) W2 wr->∀ j d:Nat,L[j]?=some d->∃ g,oa=some ⟨g,0,none⟩/\wr.cell? ⟨g,j,none⟩=some (.int .i64 d)):=hid fun wr e j d hd=>by
  rcases hcell with ⟨q,_⟩ | ⟨g,q1,q2,q3,q4,q5⟩
  ·
   subst q; simp at hd
  ·
   have hjl:j < L.length:=by
    rcases Nat.lt_or_ge j L.length with q | q
    ·
     exact q
    ·
     rw [List.getElem?_eq_none q] at hd; cases hd
   refine ⟨g,q1,e.cell ?_ (fun q=>q (.inr ⟨Nat.le_trans HX1.out.size q2,q3⟩))⟩
   rw [q5 j hjl]
   have:L.getD j 0=d:=by rw [List.getD_eq_getElem?_getD,hd]; rfl
   rw [this]; rfl
 have HST:Hid (JPut S w W2 r R W2):=hid ⟨H.out.more hXX fun b hb=>by
  have:=hXX.size
  rcases hb with hb | hb
  ·
   exact ⟨by have:=H.out.there b hb; omega,.inl hb⟩
  ·
   exact ⟨hb.2,.inr hb.1⟩,Only.refl _ _⟩
 clear hcell hown x2 hXX hcW hdW hlt hK hL hc
 go_wp2
 go_loopw [19] (fun v wr=>∃ (j:Nat) (Rj:Rck),v=.int .i64 j/\j<=L.length/\each (Rck.jrow c slot x) (L.take j) R=(none,Rj)/\JPut S w W2 r Rj wr) (fun v _=>L.length - (intOf v).toNat)
 case atStart=>exact ⟨0,R,rfl,by omega,rfl,HST.out⟩
 case round =>
  clear HST
  obtain ⟨j,Rj,rfl,hj,hej,hst⟩:=hrel
  have HEJ:=hid hej; have HS:=hid hst
  clear hej hst
  by_cases hlt:j < L.length
  ·
   have j0:(0:Int)<=(j:Int):=by omega
   have j1:(j:Int) < (L.length:Int):=by omega
   obtain ⟨d,hd⟩:∃ d,L[j]?=some d:=⟨L[j],List.getElem?_eq_getElem hlt⟩
   obtain ⟨g,rfl,cd⟩:=HON.out wr HS.out.keeps j d hd
   have ck:wr.cell? ⟨w.heap.size,1,none⟩=some (.int .i64 K):=(Zaf (HS.out.keeps.at HCW.out (fun q=>q HPC.out.1))).trans (by rw [Cfg.A1,HK.out])
   have HD:=hid hd
   clear hd
   go_wp2
   go_loopw [25] (fun v wr=>∃ (i:Nat) (Ri:Rck),v=.int .i64 i/\i<=K/\each (fun R i=>R.write d (Rck.jsec c slot i) (x.frm i).put) (List.range i) Rj=(none,Ri)/\JPut S w W2 r Ri wr) (fun v _=>K - (intOf v).toNat)
   case atStart=>exact ⟨0,Rj,rfl,by omega,rfl,HS.out⟩
   case round =>
    clear HS
    obtain ⟨i,Ri,rfl,hi,hei,hst⟩:=hrel
    have HEI:=hid hei; have HS:=hid hst
    clear hei hst
    by_cases hli:i < K
    ·
     have i0:(0:Int)<=(i:Int):=by omega
     have i1:(i:Int) < (K:Int):=by omega
     --M2
     go_wp2_with fail
     have xd:Ext wr wr.drew:=(Ext.refl wr).drew
     have base:Hid (∀ y:SW Ext wr.drew,Only (fun b=>¬PutT S w.heap.size W2.heap.size b) W2 y.w):=hid fun y=>Only.ext HS.out.keeps (Ext.trans xd y.ext)
     have lc:Hid (∀ y:SW Ext wr.drew,∀ j v,(Cfg.A c).toList[j]?=some v->y.w.cell? ((⟨w.heap.size,0,none⟩:Addr).add j)=some v):=hid fun y=>Zai ((base.out y).at HCW.out (fun q=>q HPC.out.1))
     have lr:Hid (∀ y:SW Ext wr.drew,∀ j v,(x.V a cp).toList[j]?=some v->y.w.cell? ((⟨w.heap.size+1,0,none⟩:Addr).add j)=some v):=hid fun y=>Zai ((base.out y).at HDW.out (fun q=>q HPC.out.2))
     have sc:Hid (∀ y:SW Ext wr.drew,Calls Tryz.prog 73 #[.agg (Cfg.A c),.int .i64 slot,.int .i64 i] y.w fun e w''=>e=.returned (.int .i64 (Rck.jsec c slot i))/\Ext y.w w''):=hid fun y=>jsector_c c HGC.out slot h0 h1 i (by omega) y.w
     have fc:Hid (∀ y:SW Ext wr.drew,Calls Tryz.prog 74 #[.agg (x.V a cp),.int .i64 i] y.w fun e w''=>e=.returned (.agg (Frm.A (x.frm i)))/\Ext y.w w''):=hid fun y=>jframe_c x hx hl a cp y.w (HBW.out.only (base.out y) HSG.out) i (by omega)
     refine Zaq (S:=Ext) 10 (.one [0,1,2,3,4,5,6,7,8] 9 (.fin [])) (by kernel_rfl) (by kernel_rfl) (fun _ _ d _ _ h=>by cases d<;>exact h) ?_
     rw [wpS]
     simp only [opsAt,opA,opB,opC,opD,opE,opF,opG]
     iterate 2 ((refine Zab (fun K hK=>?_); go_simp; refine hK _ ?_; clear hK K))
     refine Zam 26 _ rfl ⟨w.heap.size,0,none⟩ rfl (Cfg.A c) rfl (Zat c) lc.out ?_
     iterate 2 ((refine Zab (fun K hK=>?_); go_simp; refine hK _ ?_; clear hK K))
     (refine Zab (fun K hK=>?_); go_simp; (apply Exists.intro; refine ⟨fun x=>?_,hK _ ?_⟩; (exact sc.out x); clear hK K))
     refine Zam 101 _ rfl ⟨w.heap.size+1,0,none⟩ rfl (x.V a cp) rfl aggRec lr.out ?_
     (refine Zab (fun K hK=>?_); go_simp; refine hK _ ?_; clear hK K)
     (refine Zab (fun K hK=>?_); go_simp; (apply Exists.intro; refine ⟨fun x=>?_,hK _ ?_⟩; (exact fc.out x); clear hK K))
     refine Zae ?_
     intro V1 hV1
     refine Zav fun Q hQ=>?_
     --M3
     go_wp2_with fail
     refine (fput_b (x.frm i) V1 (Rcd.frm_ok x hx i)).mono ?_
     rintro e V2 ⟨fa,fn,rfl,hbt,_,xf⟩
     go_wp2
     refine hQ _ _ xf ?_
     clear hQ Q
     rw [wpS]
     simp only [opsAt,List.map_nil]
     refine Zae ?_
     intro V3 hV3
     have X3:=Ext.trans xd (Ext.trans hV1 (Ext.trans xf hV3))
     have HB3:=hid (hbt.ext hV3)
     have HR3:=hid (HS.out.rack.ext X3)
     have HK3:Hid (Only (fun b=>¬PutT S w.heap.size W2.heap.size b) W2 V3):=hid (Only.ext HS.out.keeps X3)
     clear base lc lr sc fc hV1 hV3 hbt xf X3 xd
     simp only [List.drop_succ_cons,List.drop_zero]
     --M4
     go_wp2_with fail
     refine (at_write HR3.out d (Rck.jsec c slot i) fa fn fn _ HB3.out).mono ?_
     rintro e V4 ⟨rfl,h4,k4⟩
     rcases hw:Ri.write d (Rck.jsec c slot i) (x.frm i).put with ⟨o,Rn⟩
     rw [hw] at h4
     simp only at h4 ⊢
     have HST4:Hid (JPut S w W2 r Rn V4):=hid ⟨h4,Only.trans HK3.out k4 fun _ _ q=>q⟩
     have HW:=hid hw
     clear h4 k4 hw
     rcases o with _ | er
     ·
      have HE1:Hid (each (fun R i=>R.write d (Rck.jsec c slot i) (x.frm i).put) (List.range (i+1)) Rj=(none,Rn)):=hid (by
       rw [List.range_succ,each_app,HEI.out]
       exact (Zb8 (l:=[]) HW.out).trans rfl)
      simp only [oErr]
      go_wp2
      go_roundw
      case rel=>exact ⟨i+1,Rn,by go_num,by omega,HE1.out,HST4.out⟩
      case measure=>simp [intOf]; omega
     ·
      --M5
      have HR:Hid (R.jput c slot x=(some er,Rn)):=hid (by
       have e1:Rck.jrow c slot x Rj d=(some er,Rn):=by
        have:c.k.toNat=K:=by rw [HK.out]; rfl
        unfold Rck.jrow
        rw [this]
        exact Zbp (i:=i) (b:=i) (by rw [List.getElem?_range hli]) (by rw [Zbz K i (by omega)]; exact HEI.out) HW.out
       have e2:each (Rck.jrow c slot x) R.online R=(some er,Rn):=by rw [HL.out]; exact Zbp HD.out HEJ.out e1
       unfold Rck.jput
       rw [e2])
      obtain ⟨t2,v2,hq⟩:∃ t v,er.val=.iface t v:=by cases er<;>exact ⟨_,_,rfl⟩
      have HQ:=hid hq
      simp only [oErr]
      rw [hq]
      clear hq
      go_wp2
      go_ret
      rw [HR.out]
      exact ⟨by rw [<- HQ.out]; rfl,(HST4.out.out HX2.out).1,(HST4.out.out HX2.out).2⟩
    ·
     obtain rfl:i=K:=by omega
     have HE2:Hid (each (Rck.jrow c slot x) (L.take (j+1)) R=(none,Ri)):=hid (Zbg HD.out HEJ.out (by
      have:c.k.toNat=i:=by rw [HK.out]; rfl
      unfold Rck.jrow
      rw [this]
      exact HEI.out))
     go_wp2
     --M6
     exact ⟨⟨j+1,Ri,by go_num,by omega,HE2.out,HS.out⟩,by simp [intOf]; omega⟩
  ·
   obtain rfl:j=L.length:=by omega
   have HR:Hid (R.jput c slot x=each (fun R d=>R.flush (d:Nat)) Rj.online Rj):=hid (by
    have e2:each (Rck.jrow c slot x) R.online R=(none,Rj):=by rw [HL.out,<- HEJ.out,List.take_length]
    unfold Rck.jput
    rw [e2])
   clear HON HEJ
   go_wp2_with fail
   --M7
   refine (Zbx HS.out.rack).mono ?_
   rintro e W3 ⟨v,rfl,hown,x3⟩
   obtain ⟨oa2,oc2,rfl,hcell⟩:=hown.slice
   obtain ⟨L2,hL2⟩:∃ L,Rj.online=L:=⟨_,rfl⟩
   have hLn2:L2.length<=8:=by rw [<- hL2]; have:=Rj.online_len; have:=HS.out.rack.disks8; omega
   rw [hL2] at hcell ⊢
   have HL2:=hid hL2
   have HOUT:=hid (HS.out.out HX2.out)
   have HON:Hid (∀ wx,Only (fun b=>¬PutT S wr.heap.size W3.heap.size b) W3 wx->∀ j d:Nat,L2[j]?=some d->∃ g,oa2=some ⟨g,0,none⟩/\wx.cell? ⟨g,j,none⟩=some (.int .i64 d)):=hid fun wx e j d hd=>by
    rcases hcell with ⟨q,_⟩ | ⟨g,q1,q2,q3,q4,q5⟩
    ·
     subst q; simp at hd
    ·
     have hjl:j < L2.length:=by
      rcases Nat.lt_or_ge j L2.length with q | q
      ·
       exact q
      ·
       rw [List.getElem?_eq_none q] at hd; cases hd
     refine ⟨g,q1,e.cell ?_ (fun q=>q (.inr ⟨q2,q3⟩))⟩
     rw [q5 j hjl]
     have:L2.getD j 0=d:=by rw [List.getD_eq_getElem?_getD,hd]; rfl
     rw [this]; rfl
   have HK3:Hid (Keeps S w W3):=hid (Only.ext HOUT.out.2 x3)
   have HST:Hid (JPut S wr W3 r Rj W3):=hid ⟨HOUT.out.1.more x3 fun b hb=>by
    have:=x3.size
    rcases hb with hb | hb
    ·
     exact ⟨by have:=HOUT.out.1.there b hb; omega,.inl hb⟩
    ·
     exact ⟨hb.2,.inr hb.1⟩,Only.refl _ _⟩
   have HKO:Hid (∀ wx Rx,JPut S wr W3 r Rx wx->RackAt S wx r Rx/\Keeps S w wx):=hid fun wx Rx q=>⟨q.rack.less fun b hb=>.inl hb,Only.trans HK3.out q.keeps fun b _ hb q=>hb (.inl q)⟩
   clear hcell hown x3 hL2 HS
   go_wp2
   go_loopw [47] (fun v wx=>∃ (m:Nat) (Rm:Rck),v=.int .i64 m/\m<=L2.length/\each (fun R d=>R.flush (d:Nat)) (L2.take m) Rj=(none,Rm)/\JPut S wr W3 r Rm wx) (fun v _=>L2.length - (intOf v).toNat)
   case atStart=>exact ⟨0,Rj,rfl,by omega,rfl,HST.out⟩
   case round =>
    clear HST
    obtain ⟨m,Rm,rfl,hm,hem,hst⟩:=hrel
    have HEM:=hid hem; have HS:=hid hst
    clear hem hst
    by_cases hlt2:m < L2.length
    ·
     have j0:(0:Int)<=(m:Int):=by omega
     have j1:(m:Int) < (L2.length:Int):=by omega
     obtain ⟨d,hd⟩:∃ d,L2[m]?=some d:=⟨L2[m],List.getElem?_eq_getElem hlt2⟩
     obtain ⟨g,rfl,cd⟩:=HON.out wr HS.out.keeps m d hd
     have HD:=hid hd
     clear hd
     go_wp2_with fail
     --M8
     refine (at_flush HS.out.rack d).mono ?_
     rintro e W4 ⟨rfl,h4,k4⟩
     rcases hw:Rm.flush d with ⟨o,Rn⟩
     rw [hw] at h4
     simp only at h4 ⊢
     have HST4:=hid (JPut.step HS.out h4 k4)
     have HW:=hid hw
     clear h4 k4 hw
     rcases o with _ | er
     ·
      have HE1:=hid (Zbg (f:=fun R d=>R.flush (d:Nat)) HD.out HEM.out HW.out)
      simp only [oErr]
      go_wp2
      exact ⟨⟨m+1,Rn,by go_num,by omega,HE1.out,HST4.out⟩,by simp [intOf]; omega⟩
     ·
      have HE3:Hid (R.jput c slot x=(some er,Rn)):=hid (by rw [HR.out,HL2.out]; exact Zbp HD.out HEM.out HW.out)
      obtain ⟨t2,v2,hq⟩:∃ t v,er.val=.iface t v:=by cases er<;>exact ⟨_,_,rfl⟩
      have HQ:=hid hq
      simp only [oErr]
      rw [hq]
      clear hq
      go_wp2
      go_ret
      rw [HE3.out]
      exact ⟨by rw [<- HQ.out]; rfl,HKO.out _ _ HST4.out⟩
    ·
     obtain rfl:m=L2.length:=by omega
     have HE3:Hid (R.jput c slot x=(none,Rm)):=hid (by rw [HR.out,HL2.out,<- HEM.out,List.take_length])
     go_wp2
     --M9
     go_ret
     rw [HE3.out]
     exact ⟨rfl,HKO.out _ _ HS.out⟩
end Go.Proofs.YtgjnnbomnoafcaaGreat
namespace Go.Proofs.YtgjnnbomnoafcaaGreat
set_option linter.unusedVariables false
open Go Go.RowKit
attribute [local irreducible] wpSQ
set_option maxRecDepth 100000 in
set_option maxHeartbeats 1000000 in
theorem jblank_c {S:Nat->Prop} {w:World} {r:Nat} {R:Rck} (h:RackAt S w r R) (c:Cfg) (slot:Int) :
  Calls Tryz.prog 44 #[.pointer (some ⟨r,0,none⟩),.agg (Cfg.A c),.int .i64 slot] w fun e w'=>e=.returned (oErr (R.jblank c slot).1)/\RackAt S w' r (R.jblank c slot).2/\Keeps S w w':=by
 obtain ⟨W0,hW0⟩:∃ W,w.alloc (.cells (Cfg.A c) 26)=W:=⟨_,rfl⟩
 have X0:Ext w W0:=hW0▸(Ext.refl w).alloc _
 have HC:=hid (show W0.heap[w.heap.size]?=some (.cells (Cfg.A c) 26 (0,0)) from hW0▸heap_alloc_new _ _)
 have HX0:=hid X0
 have H0:=hid (h.ext X0)
 have HB0:Hid (R.jblank c slot=if R.jknown c slot=true then ((R.jput c slot Rcd.none_).1.map (.fault sJBlank slot),(R.jput c slot Rcd.none_).2) else (some (.fault sJBlank slot (.no 1)),R)):=hid rfl
 have HKN:=hid (fun hk:R.jknown c slot=true=>(show c.Good/\0<=slot/\slot < c.slots from by
  unfold Rck.jknown at hk
  simp only [Bool.and_eq_true,decide_eq_true_eq] at hk
  have hf:=hk.1.1
  unfold Rck.fits at hf
  simp only [Bool.and_eq_true,decide_eq_true_eq] at hf
  exact ⟨(Cfg.right_iff c).1 hf.1.1,hk.1.2,hk.2⟩))
 clear X0 h
 go_enter Tryz.func44,Tryz.ntmps44
 go_wp2_with (refine Zac rfl 26 _ rfl ⟨w.heap.size,0,none⟩ rfl (Cfg.A c) (Zat c) (Zai HC.out) ?_)
 refine (jknown_c H0.out c slot).mono ?_
 rintro e w2 ⟨rfl,x2⟩
 rcases hk:R.jknown c slot with _ | _
 ·
  have HV:=hid (show R.jblank c slot=(some (.fault sJBlank slot (.no 1)),R) by rw [HB0.out,hk]; rfl)
  have HX2:=hid (Ext.trans HX0.out x2)
  have H2:=hid (H0.out.ext x2)
  have HW:=hid (Zap sJBlank slot (.no 1) w2)
  simp only [Err.val] at HW
  clear hk HB0 HKN x2 HC
  go_wp2_with fail
  refine HW.out.mono ?_
  rintro e w3 ⟨rfl,rfl⟩
  go_wp2
  go_ret
  rw [HV.out]
  exact ⟨rfl,H2.out,Ext.only HX2.out⟩
 ·
  obtain ⟨g1,g2,g3⟩:=HKN.out hk
  have HV:=hid (show R.jblank c slot=((R.jput c slot Rcd.none_).1.map (.fault sJBlank slot),(R.jput c slot Rcd.none_).2) by rw [HB0.out,hk]; rfl)
  have HX2:=hid (Ext.trans HX0.out x2)
  have H2:=hid (H0.out.ext x2)
  have HC2:=hid (Ext.at x2 HC.out)
  clear hk HB0 HKN x2 HC
  go_wp2_with (first
   | (refine Zac rfl 26 _ rfl ⟨w.heap.size,0,none⟩ rfl (Cfg.A c) (Zat c) (Zai HC2.out) ?_)
   | (refine Zao rfl 101 _ rfl (Rcd.none_.V none 0) (by kernel_rfl) ?_))
  refine (jput_c H2.out c g1 slot g2 g3 Rcd.none_ ⟨(by intro b hb; cases hb),(by intro b hb; cases hb)⟩ (Nat.zero_le _) none 0 (by intro i b hb; simp [Rcd.none_] at hb) (by intro g hg; cases hg)).mono ?_
  rintro e w3 ⟨rfl,h3,k3⟩
  rcases hp:R.jput c slot Rcd.none_ with ⟨o,Rn⟩
  rw [hp] at HV h3
  simp only at h3 ⊢
  have H3:=hid h3
  have K3:Hid (Keeps S w w3):=hid (Only.trans (Ext.only HX2.out) k3 fun _ _ x=>x)
  clear h3 k3 hp g1 g2 g3
  rcases o with _ | er
  ·
   simp only [oErr]
   go_wp2_with fail
   refine (Zb7 sJBlank slot w3).mono ?_
   rintro e w4 ⟨rfl,rfl⟩
   go_wp2
   go_ret
   rw [HV.out]
   exact ⟨rfl,H3.out,K3.out⟩
  ·
   have HW:=hid (Zap sJBlank slot er w3)
   obtain ⟨t2,v2,hq⟩:∃ t v,er.val=.iface t v:=by cases er<;>exact ⟨_,_,rfl⟩
   simp only [oErr]
   rw [hq] at HW ⊢
   clear hq
   go_wp2_with fail
   refine HW.out.mono ?_
   rintro e w4 ⟨rfl,rfl⟩
   go_wp2
   go_ret
   rw [HV.out]
   exact ⟨rfl,H3.out,K3.out⟩
set_option maxRecDepth 100000 in
set_option maxHeartbeats 1000000 in
theorem jlog_c {S:Nat->Prop} {w:World} {r:Nat} {R:Rck} (h:RackAt S w r R) (c:Cfg) (x:Rcd) (hx:x.Ok) (a:Option Addr) (cp:Nat)
  (hb:BlksAt w a x.blocks) (ha:∀ g,a=some ⟨g,0,none⟩->S g) :
  Calls Tryz.prog 51 #[.pointer (some ⟨r,0,none⟩),.agg (Cfg.A c),.agg (x.V a cp)] w fun e w'=>e=.returned (oErr (R.jlog c x).1)/\RackAt S w' r (R.jlog c x).2/\Keeps S w w':=by
 obtain ⟨W0,hW0⟩:∃ W,w.alloc (.cells (Cfg.A c) 26)=W:=⟨_,rfl⟩
 have x0:Ext w W0:=hW0▸(Ext.refl w).alloc _
 have hc0:W0.heap[w.heap.size]?=some (.cells (Cfg.A c) 26 (0,0)):=hW0▸heap_alloc_new _ _
 have hsz0:W0.heap.size=w.heap.size+1:=by rw [<- hW0]; simp
 obtain ⟨W1,hW1⟩:∃ W,W0.alloc (.cells (x.V a cp) 101)=W:=⟨_,rfl⟩
 have x1:Ext W0 W1:=hW1▸(Ext.refl W0).alloc _
 have hc1:W1.heap[w.heap.size+1]?=some (.cells (x.V a cp) 101 (0,0)):=by rw [<- hsz0]; exact hW1▸heap_alloc_new _ _
 have HX1:=hid (Ext.trans x0 x1)
 have HC1:=hid (Ext.at x1 hc0)
 have HD1:=hid hc1
 have H1:=hid (h.ext HX1.out)
 have H:=hid h
 have HB0:Hid (R.jlog c x=if R.jlogOk c x=true then ((R.jput c (x.seq % c.slots) x).1.map (.fault sJLog x.seq),(R.jput c (x.seq % c.slots) x).2) else (some (.fault sJLog x.seq (.no 1)),R)):=hid rfl
 have HOK:Hid (R.jlogOk c x=true↔(((((R.fits c=true/\2<=x.seq)/\x.seq<=1152921504606846976)/\0<=x.stripe)/\x.stripe < c.stripes)/\(x.blocks.length:Int)=c.k)):=hid (by
  unfold Rck.jlogOk
  simp only [Bool.and_eq_true,decide_eq_true_eq])
 have HKN:=hid (fun hf:R.fits c=true=>(show c.Good from by
  unfold Rck.fits at hf
  simp only [Bool.and_eq_true,decide_eq_true_eq] at hf
  exact (Cfg.right_iff c).1 hf.1.1))
 have HBW:=hid (hb.ext HX1.out)
 have HG:=hid ha
 have HOKX:=hid hx
 clear x0 x1 hc0 hc1 h hb ha hx
 go_enter Tryz.func51,Tryz.ntmps51
 go_wp2_with (refine Zac rfl 26 _ rfl ⟨w.heap.size,0,none⟩ rfl (Cfg.A c) (Zat c) (Zai HC1.out) ?_)
 refine (sfits_c H1.out c).mono ?_
 rintro e w2 ⟨rfl,x2⟩
 have HX2:=hid (Ext.trans HX1.out x2)
 have H2:=hid (H1.out.ext x2)
 have HC2:=hid (Ext.at x2 HC1.out)
 have HD2:=hid (Ext.at x2 HD1.out)
 have HBL:=hid (HBW.out.ext x2)
 have d0:w2.cell? ⟨w.heap.size+1,0,none⟩=some (.int .i64 x.seq):=(Zaf HD2.out).trans rfl
 have d1:w2.cell? ⟨w.heap.size+1,1,none⟩=some (.int .i64 x.stripe):=(Zaf HD2.out).trans rfl
 have d2:w2.cell? ⟨w.heap.size+1,2,none⟩=some (.slice a x.blocks.length cp):=(Zaf HD2.out).trans rfl
 have c1:w2.cell? ⟨w.heap.size,1,none⟩=some (.int .i64 c.k):=(Zaf HC2.out).trans (Cfg.A1 c)
 have c3:w2.cell? ⟨w.heap.size,3,none⟩=some (.int .i64 c.stripes):=(Zaf HC2.out).trans (Cfg.A3 c)
 have HW:=hid (Zap sJLog x.seq (.no 1) w2)
 simp only [Err.val] at HW
 clear x2 HBW
 rcases hf:R.fits c with _ | _
 ·
  have HNE:=hid (show ¬R.fits c=true by rw [hf]; simp)
  clear hf
  have HV:=hid (show R.jlog c x=(some (.fault sJLog x.seq (.no 1)),R) by rw [HB0.out]; exact if_neg (by rw [HOK.out]; intro q; exact absurd q (by first | (exact fun q=>HNE.out q.1.1.1.1.1) | omega | (exact fun q=>HNE.out q.2))))
  clear HKN HB0 HOK HNE
  go_wp2_with fail
  refine HW.out.mono ?_
  rintro e w3 ⟨rfl,rfl⟩
  go_wp2
  go_ret
  rw [HV.out]
  exact ⟨rfl,H2.out,Ext.only HX2.out⟩
 ·
  have HF:=hid hf
  clear hf
  by_cases a0:2<=x.seq
  case neg =>
   have HNE:=hid a0
   have HV:=hid (show R.jlog c x=(some (.fault sJLog x.seq (.no 1)),R) by rw [HB0.out]; exact if_neg (by rw [HOK.out]; intro q; exact absurd q (by first | (exact fun q=>HNE.out q.1.1.1.1.1) | omega | (exact fun q=>HNE.out q.2))))
   clear HKN HB0 HOK HNE
   go_wp2_with fail
   refine HW.out.mono ?_
   rintro e w3 ⟨rfl,rfl⟩
   go_wp2
   go_ret
   rw [HV.out]
   exact ⟨rfl,H2.out,Ext.only HX2.out⟩
  by_cases a1:x.seq<=1152921504606846976
  case neg =>
   have HNE:=hid a1
   have HV:=hid (show R.jlog c x=(some (.fault sJLog x.seq (.no 1)),R) by rw [HB0.out]; exact if_neg (by rw [HOK.out]; intro q; exact absurd q (by first | (exact fun q=>HNE.out q.1.1.1.1.1) | omega | (exact fun q=>HNE.out q.2))))
   clear HKN HB0 HOK HNE
   go_wp2_with fail
   refine HW.out.mono ?_
   rintro e w3 ⟨rfl,rfl⟩
   go_wp2
   go_ret
   rw [HV.out]
   exact ⟨rfl,H2.out,Ext.only HX2.out⟩
  by_cases a2:0<=x.stripe
  case neg =>
   have HNE:=hid a2
   have HV:=hid (show R.jlog c x=(some (.fault sJLog x.seq (.no 1)),R) by rw [HB0.out]; exact if_neg (by rw [HOK.out]; intro q; exact absurd q (by first | (exact fun q=>HNE.out q.1.1.1.1.1) | omega | (exact fun q=>HNE.out q.2))))
   clear HKN HB0 HOK HNE
   go_wp2_with fail
   refine HW.out.mono ?_
   rintro e w3 ⟨rfl,rfl⟩
   go_wp2
   go_ret
   rw [HV.out]
   exact ⟨rfl,H2.out,Ext.only HX2.out⟩
  by_cases a3:x.stripe < c.stripes
  case neg =>
   have HNE:=hid a3
   have HV:=hid (show R.jlog c x=(some (.fault sJLog x.seq (.no 1)),R) by rw [HB0.out]; exact if_neg (by rw [HOK.out]; intro q; exact absurd q (by first | (exact fun q=>HNE.out q.1.1.1.1.1) | omega | (exact fun q=>HNE.out q.2))))
   clear HKN HB0 HOK HNE
   go_wp2_with fail
   refine HW.out.mono ?_
   rintro e w3 ⟨rfl,rfl⟩
   go_wp2
   go_ret
   rw [HV.out]
   exact ⟨rfl,H2.out,Ext.only HX2.out⟩
  by_cases a4:(x.blocks.length:Int)=c.k
  case neg =>
   have HNE:=hid a4
   have ab:((x.blocks.length:Int) != c.k)=true:=by simpa using a4
   have HV:=hid (show R.jlog c x=(some (.fault sJLog x.seq (.no 1)),R) by rw [HB0.out]; exact if_neg (by rw [HOK.out]; intro q; exact absurd q (by first | (exact fun q=>HNE.out q.1.1.1.1.1) | omega | (exact fun q=>HNE.out q.2))))
   clear HKN HB0 HOK HNE
   go_wp2_with fail
   refine HW.out.mono ?_
   rintro e w3 ⟨rfl,rfl⟩
   go_wp2
   go_ret
   rw [HV.out]
   exact ⟨rfl,H2.out,Ext.only HX2.out⟩
  have ab:((x.blocks.length:Int) != c.k)=false:=by simpa using a4
  have HV:=hid (show R.jlog c x=((R.jput c (x.seq % c.slots) x).1.map (.fault sJLog x.seq),(R.jput c (x.seq % c.slots) x).2) by rw [HB0.out]; exact if_pos (HOK.out.2 ⟨⟨⟨⟨⟨HF.out,a0⟩,a1⟩,a2⟩,a3⟩,a4⟩))
  have HGC:=hid (HKN.out HF.out)
  clear HKN HB0 HOK HW
  have HL8:=hid (show x.blocks.length<=8 by have:=HGC.out.k1; have:=HGC.out.n1; omega)
  have HS0:=hid (show 1<=c.slots from HGC.out.sl0)
  have hm:x.seq.tmod c.slots=x.seq % c.slots:=Int.tmod_eq_emod_of_nonneg (by omega)
  have hs0:¬c.slots=0:=by have:=HS0.out; omega
  have b0:0<=x.seq % c.slots:=Int.emod_nonneg _ (by have:=HS0.out; omega)
  have b1:x.seq % c.slots < c.slots:=Int.emod_lt_of_pos _ (by have:=HS0.out; omega)
  generalize hz:x.seq % c.slots=z at *
  have HB:=hid (And.intro b0 b1)
  go_wp2_with fail
  clear a0 a1 a2 a3 a4 b0 b1 hz HF
  have xd:Ext w2 w2.drew:=(Ext.refl w2).drew
  have base:Hid (∀ y:SW (Only fun b=>¬PutT S w.heap.size (w.heap.size+2) b) w2.drew,Only (fun b=>¬PutT S w.heap.size (w.heap.size+2) b) w2 y.w):=hid fun y=>Only.trans (Ext.only xd) y.ext fun _ _ q=>q
  have t0:PutT S w.heap.size (w.heap.size+2) w.heap.size:=.inr ⟨Nat.le_refl _,by omega⟩
  have t1:PutT S w.heap.size (w.heap.size+2) (w.heap.size+1):=.inr ⟨by omega,by omega⟩
  have lc:Hid (∀ y:SW (Only fun b=>¬PutT S w.heap.size (w.heap.size+2) b) w2.drew,∀ j v,(Cfg.A c).toList[j]?=some v->y.w.cell? ((⟨w.heap.size,0,none⟩:Addr).add j)=some v):=hid fun y=>Zai ((base.out y).at HC2.out (fun q=>q t0))
  have lr:Hid (∀ y:SW (Only fun b=>¬PutT S w.heap.size (w.heap.size+2) b) w2.drew,∀ j v,(x.V a cp).toList[j]?=some v->y.w.cell? ((⟨w.heap.size+1,0,none⟩:Addr).add j)=some v):=hid fun y=>Zai ((base.out y).at HD2.out (fun q=>q t1))
  have cs:∀ y:SW (Only fun b=>¬PutT S w.heap.size (w.heap.size+2) b) w2.drew,y.w.cell? ⟨w.heap.size+1,0,none⟩=some (.int .i64 x.seq):=fun y=>(Zaf ((base.out y).at HD2.out (fun q=>q t1))).trans rfl
  have cl:∀ y:SW (Only fun b=>¬PutT S w.heap.size (w.heap.size+2) b) w2.drew,y.w.cell? ⟨w.heap.size,4,none⟩=some (.int .i64 c.slots):=fun y=>(Zaf ((base.out y).at HC2.out (fun q=>q t0))).trans (Cfg.A4 c)
  clear d0 d1 d2 c1 c3 base
  refine Zb1 (E:=Ext) (S:=Only fun b=>¬PutT S w.heap.size (w.heap.size+2) b) 11 (.one [0,1,2,3,4,5,6,7,8,9] 10 (.fin [])) (by kernel_rfl) (by kernel_rfl) (fun _ _ d _ _ h=>by cases d<;>exact h) ?_
  rw [wpS]
  simp only [opsAt,opA,opB,opC,opD,opE,opF,opG]
  iterate 3 ((refine Zab (fun K hK=>?_); go_simp; refine hK _ ?_; clear hK K))
  refine Zam 26 _ rfl ⟨w.heap.size,0,none⟩ rfl (Cfg.A c) rfl (Zat c) lc.out ?_
  iterate 4 ((refine Zab (fun K hK=>?_); go_simp; refine hK _ ?_; clear hK K))
  (refine Zab (fun K hK=>?_); go_simp; refine hK _ ?_; clear hK K)
  refine Zam 101 _ rfl ⟨w.heap.size+1,0,none⟩ rfl (x.V a cp) rfl aggRec lr.out ?_
  refine Zae ?_
  intro V1 hV1
  refine Zav fun Q hQ=>?_
  go_wp2_with fail
  have HT:Hid (RackAt (PutT S w.heap.size (w.heap.size+2)) V1 r R):=hid (H.out.more (Ext.trans HX2.out (Ext.trans xd hV1)) fun b hb=>by
   have q1:=(Ext.trans HX2.out (Ext.trans xd hV1)).size
   have q2:=HX1.out.size
   have q3:=lt_of_block HD2.out
   have q4:=(Ext.trans xd hV1).size
   rcases hb with hb | hb
   ·
    exact ⟨by have:=H.out.there b hb; omega,.inl hb⟩
   ·
    exact ⟨by omega,.inr hb.1⟩)
  --M1
  refine (jput_c HT.out c HGC.out z HB.out.1 HB.out.2 x HOKX.out HL8.out a cp (HBL.out.ext (Ext.trans xd hV1)) (fun g hg=>.inl (HG.out g hg))).mono ?_
  rintro e V2 ⟨rfl,h3,k3⟩
  rcases hp:R.jput c z x with ⟨o,Rn⟩
  rw [hp] at HV h3
  simp only at h3 ⊢
  go_wp2
  refine hQ _ _ k3 ?_
  clear hQ Q
  rw [wpS]
  simp only [opsAt,List.map_nil]
  refine Zae ?_
  intro V3 hV3
  have H3:=hid ((h3.less fun b hb=>Or.inl hb:RackAt S V2 r Rn).ext hV3)
  have K3:Hid (Keeps S w V3):=hid (Only.ext (Only.trans (Ext.only (Ext.trans HX2.out (Ext.trans xd hV1))) k3 fun b _ hb q=>hb (.inl q)) hV3)
  clear h3 k3 hp lc lr cs cl hV1 hV3 xd t0 t1
  simp only [List.drop_succ_cons,List.drop_zero]
  rcases o with _ | er
  ·
   simp only [oErr]
   go_wp2_with fail
   refine (Zb7 sJLog x.seq V3).mono ?_
   rintro e w4 ⟨rfl,rfl⟩
   go_wp2
   go_ret
   rw [HV.out]
   exact ⟨rfl,H3.out,K3.out⟩
  ·
   have HW:=hid (Zap sJLog x.seq er V3)
   obtain ⟨t2,v2,hq⟩:∃ t v,er.val=.iface t v:=by cases er<;>exact ⟨_,_,rfl⟩
   simp only [oErr]
   rw [hq] at HW ⊢
   clear hq
   go_wp2_with fail
   refine HW.out.mono ?_
   rintro e w4 ⟨rfl,rfl⟩
   go_wp2
   go_ret
   rw [HV.out]
   exact ⟨rfl,H3.out,K3.out⟩
end Go.Proofs.YtgjnnbomnoafcaaGreat
namespace Go.Proofs.YtgjnnbomnoafcaaGreat
set_option linter.unusedVariables false
open Go Go.RowKit
set_option maxRecDepth 100000 in
set_option maxHeartbeats 4000000 in
theorem jgood_c {S:Nat->Prop} {w:World} {r:Nat} {R:Rck} (h:RackAt S w r R) (c:Cfg) (hc:c.Good) (d:Nat) (slot:Int) (h0:0<=slot) (h1:slot < c.slots) (i:Nat) (hi:i < 8) :
  Calls Tryz.prog 105 #[.pointer (some ⟨r,0,none⟩),.agg (Cfg.A c),.int .i64 d,.int .i64 slot,.int .i64 i] w fun e w'=>e=.returned (gotO (R.jgood c d slot i))/\Ext w w':=by
 have hz:=Za0
 have hbz:=Za1
 have HZ:=hid (Frm.A_size _ Zbc)
 obtain ⟨W0,hW0⟩:∃ W,w.alloc (.cells (Cfg.A c) 26)=W:=⟨_,rfl⟩
 have x0:Ext w W0:=hW0▸(Ext.refl w).alloc _
 have hc0:W0.heap[w.heap.size]?=some (.cells (Cfg.A c) 26 (0,0)):=hW0▸heap_alloc_new _ _
 have hsz0:W0.heap.size=w.heap.size+1:=by rw [<- hW0]; simp
 obtain ⟨W1,hW1⟩:∃ W,W0.alloc (.cells (Frm.A Frm.zero) 113)=W:=⟨_,rfl⟩
 have x1:Ext W0 W1:=hW1▸(Ext.refl W0).alloc _
 have hr1:W1.heap[w.heap.size+1]?=some (.cells (Frm.A Frm.zero) 113 (0,0)):=by rw [<- hsz0]; exact hW1▸heap_alloc_new _ _
 have HX1:=hid (Ext.trans x0 x1)
 have HC1:=hid (Ext.at x1 hc0)
 have HD1:=hid hr1
 have H1:=hid (h.ext HX1.out)
 have HG:Hid (R.jgood c d slot i=(R.get d (Rck.jsec c slot i) 2 i (-1)).bind fun f=>if c.stripes<=f.stripe\/f.gen=1\/(1 < f.gen/\f.gen % c.slots≠slot) then none else some f):=hid rfl
 have HSEC:=hid (jsector_c c hc slot h0 h1 i hi)
 have HSL:=hid (show 1<=c.slots/\c.slots<=4 from ⟨hc.sl0,hc.sl1⟩)
 clear x0 x1 hc0 hr1 h hc h0 h1 hi
 go_enter Tryz.func105,Tryz.ntmps105
 go_wp2_with (refine Zac rfl 26 _ rfl ⟨w.heap.size,0,none⟩ rfl (Cfg.A c) (Zat c) (Zai HC1.out) ?_)
 refine (HSEC.out _).mono ?_
 rintro e w2 ⟨rfl,x2⟩
 have H2:=hid (H1.out.ext x2)
 have HX2:=hid (Ext.trans HX1.out x2)
 have HC2:=hid (Ext.at x2 HC1.out)
 have HD2:=hid (Ext.at x2 HD1.out)
 clear x2 HSEC
 go_wp2_with fail
 refine (at_get H2.out d (Rck.jsec c slot i) 2 i (-1)).mono ?_
 rintro e w3 ⟨rfl,x3⟩
 have HX3:=hid (Ext.trans HX2.out x3)
 have HC3:=hid (Ext.at x3 HC2.out)
 have HD3:=hid (Ext.at x3 HD2.out)
 have hbs:(w3.alloc (.cells (Frm.A Frm.zero) 113)).heap[w3.heap.size]?=some (.cells (Frm.A Frm.zero) 113 (0,0)):=Zad
 have hok:∀ f,R.get d (Rck.jsec c slot i) 2 i (-1)=some f->f.Ok:=fun f hf=>H2.out.got_ok hf
 clear x3
 rcases hg:R.get (d:Int) (Rck.jsec c slot i) 2 i (-1) with _ | f
 ·
  have HV:Hid (R.jgood c d slot i=none):=hid (by rw [HG.out,hg]; rfl)
  have HD4:Hid ((w3.alloc (.cells (Frm.A Frm.zero) 113)).heap[w.heap.size+1]?=some (.cells (Frm.A Frm.zero) 113 (0,0))):=hid (Ext.at ((Ext.refl w3).alloc _) HD3.out)
  have HX4:Hid (Ext w (w3.alloc (.cells (Frm.A Frm.zero) 113))):=hid (HX3.out.alloc _)
  simp only [gotO,Option.getD_none,Option.isSome_none]
  clear HG hg hok
  go_wp2_with (first
   | (have hb0:=hbs; clear hbs; refine Zaa rfl 113 _ _ rfl w3.heap.size rfl (Frm.A Frm.zero) _ rfl 113 ?_ hb0 ?_ ?_ ?_; (rw [HZ.out]; exact aggFrame); (rfl); exact Frm.A_one _; rw [Zaj])
   | (guard_target=wpList _ _ _ (⟨none,Op.store _ _ _,_,_,_,none⟩::_) _ _; refine Zaa rfl 113 _ _ rfl (w.heap.size+1) rfl (Frm.A Frm.zero) _ rfl 113 ?_ HD4.out ?_ ?_ ?_; (rw [HZ.out]; exact aggFrame); (rfl); exact Frm.A_one _)
   )
  refine bodyPost_ret (Zan Tryz.results105 rfl (by rw [HZ.out]; exact aggFrame) (setRow_heap _ _ _ _ _ _ HD4.out)) rfl ?_
  exact ⟨by rw [HV.out]; rfl,Ext.then HX4.out (Zag _ _ _) (fun i hi=>by omega)⟩
 ·
  have hfo:=hok f hg
  have HFS:=hid (Frm.A_size f hfo)
  have HG2:Hid (R.jgood c d slot i=if c.stripes<=f.stripe\/f.gen=1\/(1 < f.gen/\f.gen % c.slots≠slot) then none else some f):=hid (by rw [HG.out,hg]; rfl)
  have HD4:Hid ((w3.alloc (.cells (Frm.A f) 113)).heap[w.heap.size+1]?=some (.cells (Frm.A Frm.zero) 113 (0,0))):=hid (Ext.at ((Ext.refl w3).alloc _) HD3.out)
  have HX4:Hid (Ext w (w3.alloc (.cells (Frm.A f) 113))):=hid (HX3.out.alloc _)
  simp only [gotO,Option.getD_some,Option.isSome_some]
  have c2:(w3.alloc (.cells (Frm.A f) 113)).cell? ⟨w3.heap.size,2,none⟩=some (.int .i64 f.stripe):=(Zaf Zad).trans (Frm.A2 f)
  have c3:(w3.alloc (.cells (Frm.A f) 113)).cell? ⟨w3.heap.size,3,none⟩=some (.int .i64 f.gen):=(Zaf Zad).trans (Frm.A3 f)
  have d3:(w3.alloc (.cells (Frm.A f) 113)).cell? ⟨w.heap.size,3,none⟩=some (.int .i64 c.stripes):=(Zaf (Ext.at ((Ext.refl w3).alloc _) HC3.out)).trans (Cfg.A3 c)
  have d4:(w3.alloc (.cells (Frm.A f) 113)).cell? ⟨w.heap.size,4,none⟩=some (.int .i64 c.slots):=(Zaf (Ext.at ((Ext.refl w3).alloc _) HC3.out)).trans (Cfg.A4 c)
  have hs0:¬c.slots=0:=by have:=HSL.out; omega
  clear HG hg hok hfo
  by_cases a:c.stripes<=f.stripe
  ·
   have HV:Hid (R.jgood c d slot i=none):=hid (by rw [HG2.out,if_pos (.inl a)])
   clear HG2
   go_wp2_with (first
    | (have hb0:=hbs; clear hbs; refine Zaa rfl 113 _ _ rfl w3.heap.size rfl (Frm.A f) _ rfl 113 ?_ hb0 ?_ ?_ ?_; (rw [HFS.out]; exact aggFrame); (rw [HFS.out,HZ.out]); exact Frm.A_one _; rw [Zaj])
    | (guard_target=wpList _ _ _ (⟨none,Op.store _ _ _,_,_,_,none⟩::_) _ _; refine Zaa rfl 113 _ _ rfl (w.heap.size+1) rfl (Frm.A Frm.zero) _ rfl 113 ?_ HD4.out ?_ ?_ ?_; (rw [HZ.out]; exact aggFrame); (rfl); exact Frm.A_one _)
    )
   refine bodyPost_ret (Zan Tryz.results105 rfl (by rw [HZ.out]; exact aggFrame) (setRow_heap _ _ _ _ _ _ HD4.out)) rfl ?_
   exact ⟨by rw [HV.out]; rfl,Ext.then HX4.out (Zag _ _ _) (fun i hi=>by omega)⟩
  by_cases b:f.gen=1
  ·
   have HV:Hid (R.jgood c d slot i=none):=hid (by rw [HG2.out,if_pos (.inr (.inl b))])
   rw [b] at c3
   clear HG2 b
   go_wp2_with (first
    | (have hb0:=hbs; clear hbs; refine Zaa rfl 113 _ _ rfl w3.heap.size rfl (Frm.A f) _ rfl 113 ?_ hb0 ?_ ?_ ?_; (rw [HFS.out]; exact aggFrame); (rw [HFS.out,HZ.out]); exact Frm.A_one _; rw [Zaj])
    | (guard_target=wpList _ _ _ (⟨none,Op.store _ _ _,_,_,_,none⟩::_) _ _; refine Zaa rfl 113 _ _ rfl (w.heap.size+1) rfl (Frm.A Frm.zero) _ rfl 113 ?_ HD4.out ?_ ?_ ?_; (rw [HZ.out]; exact aggFrame); (rfl); exact Frm.A_one _)
    )
   refine bodyPost_ret (Zan Tryz.results105 rfl (by rw [HZ.out]; exact aggFrame) (setRow_heap _ _ _ _ _ _ HD4.out)) rfl ?_
   exact ⟨by rw [HV.out]; rfl,Ext.then HX4.out (Zag _ _ _) (fun i hi=>by omega)⟩
  have ab:(f.gen == 1)=false:=by simpa using b
  by_cases g:1 < f.gen
  ·
   have hm:Int.tmod f.gen c.slots=f.gen % c.slots:=Int.tmod_eq_emod_of_nonneg (by omega)
   by_cases q:f.gen % c.slots=slot
   ·
    have HV:Hid (R.jgood c d slot i=some f):=hid (by rw [HG2.out,if_neg (fun z=>by rcases z with z | z | z; exact a z; exact b z; exact z.2 q)])
    have aq:((f.gen % c.slots:Int) != slot)=false:=by rw [q]; simp
    clear HG2 b
    go_wp2_with (first
     | (have hb0:=hbs; clear hbs; refine Zaa rfl 113 _ _ rfl w3.heap.size rfl (Frm.A f) _ rfl 113 ?_ hb0 ?_ ?_ ?_; (rw [HFS.out]; exact aggFrame); (rw [HFS.out,HZ.out]); exact Frm.A_one _; rw [Zaj])
     | (guard_target=wpList _ _ _ (⟨none,Op.store _ _ _,_,_,_,none⟩::_) _ _; refine Zaa rfl 113 _ _ rfl (w.heap.size+1) rfl (Frm.A f) _ rfl 113 ?_ HD4.out ?_ ?_ ?_; (rw [HFS.out]; exact aggFrame); (rw [HFS.out,HZ.out]); exact Frm.A_one _)
     | (guard_target=wpList _ _ _ (⟨some _,Op.load _ _,_,_,_,none⟩::_) _ _; refine Zac rfl 113 _ rfl ⟨w3.heap.size,0,none⟩ rfl (Frm.A f) (by rw [HFS.out]; exact aggFrame) (Zai Zad) ?_))
    refine bodyPost_ret (Zan Tryz.results105 rfl (by rw [HFS.out]; exact aggFrame) (setRow_heap _ _ _ _ _ _ HD4.out)) rfl ?_
    exact ⟨by rw [HV.out]; rfl,Ext.then HX4.out (Zag _ _ _) (fun i hi=>by omega)⟩
   ·
    have HV:Hid (R.jgood c d slot i=none):=hid (by rw [HG2.out,if_pos (.inr (.inr ⟨g,q⟩))])
    have aq:((f.gen % c.slots:Int) != slot)=true:=by simpa using q
    clear HG2 b q
    go_wp2_with (first
     | (have hb0:=hbs; clear hbs; refine Zaa rfl 113 _ _ rfl w3.heap.size rfl (Frm.A f) _ rfl 113 ?_ hb0 ?_ ?_ ?_; (rw [HFS.out]; exact aggFrame); (rw [HFS.out,HZ.out]); exact Frm.A_one _; rw [Zaj])
     | (guard_target=wpList _ _ _ (⟨none,Op.store _ _ _,_,_,_,none⟩::_) _ _; refine Zaa rfl 113 _ _ rfl (w.heap.size+1) rfl (Frm.A Frm.zero) _ rfl 113 ?_ HD4.out ?_ ?_ ?_; (rw [HZ.out]; exact aggFrame); (rfl); exact Frm.A_one _)
     )
    refine bodyPost_ret (Zan Tryz.results105 rfl (by rw [HZ.out]; exact aggFrame) (setRow_heap _ _ _ _ _ _ HD4.out)) rfl ?_
    exact ⟨by rw [HV.out]; rfl,Ext.then HX4.out (Zag _ _ _) (fun i hi=>by omega)⟩
  ·
   have HV:Hid (R.jgood c d slot i=some f):=hid (by rw [HG2.out,if_neg (fun z=>by rcases z with z | z | z; exact a z; exact b z; exact g z.1)])
   clear HG2 b
   go_wp2_with (first
    | (have hb0:=hbs; clear hbs; refine Zaa rfl 113 _ _ rfl w3.heap.size rfl (Frm.A f) _ rfl 113 ?_ hb0 ?_ ?_ ?_; (rw [HFS.out]; exact aggFrame); (rw [HFS.out,HZ.out]); exact Frm.A_one _; rw [Zaj])
    | (guard_target=wpList _ _ _ (⟨none,Op.store _ _ _,_,_,_,none⟩::_) _ _; refine Zaa rfl 113 _ _ rfl (w.heap.size+1) rfl (Frm.A f) _ rfl 113 ?_ HD4.out ?_ ?_ ?_; (rw [HFS.out]; exact aggFrame); (rw [HFS.out,HZ.out]); exact Frm.A_one _)
    | (guard_target=wpList _ _ _ (⟨some _,Op.load _ _,_,_,_,none⟩::_) _ _; refine Zac rfl 113 _ rfl ⟨w3.heap.size,0,none⟩ rfl (Frm.A f) (by rw [HFS.out]; exact aggFrame) (Zai Zad) ?_))
   refine bodyPost_ret (Zan Tryz.results105 rfl (by rw [HFS.out]; exact aggFrame) (setRow_heap _ _ _ _ _ _ HD4.out)) rfl ?_
   exact ⟨by rw [HV.out]; rfl,Ext.then HX4.out (Zag _ _ _) (fun i hi=>by omega)⟩
theorem infoFr:(Tryz.prog.info? 113).map (fun i=>(i.zero,i.size,i.bytes))=some (some (.agg (Frm.A Frm.zero)),112,144):=by kernel_rfl
def Rck.jgoodsTo (R:Rck) (c:Cfg) (slot:Int) (i j:Nat):List Frm:=(List.range j).filterMap fun d=>R.jgood c d slot i
theorem Rck.jgoodsTo_succ (R:Rck) (c:Cfg) (slot:Int) (i j:Nat):R.jgoodsTo c slot i (j+1)=R.jgoodsTo c slot i j++(R.jgood c j slot i).toList:=by
 unfold jgoodsTo
 rw [List.range_succ,List.filterMap_append]
 rcases h:R.jgood c j slot i with _ | f<;>simp [h]
theorem Rck.jgoodsTo_len (R:Rck) (c:Cfg) (slot:Int) (i j:Nat):(R.jgoodsTo c slot i j).length<=j:=by
 unfold jgoodsTo
 have:=List.length_filterMap_le (fun d=>R.jgood c d slot i) (List.range j)
 simpa using this
theorem RackAt.jgood_ok {S:Nat->Prop} {w:World} {r:Nat} {R:Rck} (h:RackAt S w r R) {c:Cfg} {d:Nat} {slot:Int} {i:Nat} {f:Frm} (hf:R.jgood c d slot i=some f):f.Ok:=by
 unfold Rck.jgood at hf
 rcases hg:R.get d (Rck.jsec c slot i) 2 i (-1) with _ | g
 ·
  rw [hg] at hf; cases hf
 ·
  rw [hg] at hf
  simp only [Option.bind_some] at hf
  split at hf
  ·
   cases hf
  ·
   cases hf; exact h.got_ok hg
theorem RackAt.jgoods_ok {S:Nat->Prop} {w:World} {r:Nat} {R:Rck} (h:RackAt S w r R) {c:Cfg} {slot:Int} {i:Nat}:∀ f∈R.jgoods c slot i,f.Ok:=fun f hf=>by
 unfold Rck.jgoods at hf
 obtain ⟨d,_,hd⟩:=List.mem_filterMap.1 hf
 exact h.jgood_ok hd
def JGoodsPost (w:World) (l:List Frm) (e:Ending) (w':World):Prop:=∃ v,e=.returned v/\OwnVs w' w.heap.size 113 112 v (l.map Frm.A)/\Ext w w'
set_option maxRecDepth 100000 in
set_option maxHeartbeats 1000000 in
theorem jgoods_c {S:Nat->Prop} {w:World} {r:Nat} {R:Rck} (h:RackAt S w r R) (c:Cfg) (hc:c.Good) (slot:Int) (h0:0<=slot) (h1:slot < c.slots) (i:Nat) (hi:i < 8) :
  Calls Tryz.prog 95 #[.pointer (some ⟨r,0,none⟩),.agg (Cfg.A c),.int .i64 slot,.int .i64 i] w (JGoodsPost w (R.jgoods c slot i)):=by
 have hz:=Za0
 have HZ:=hid (Frm.A_size _ Zbc)
 obtain ⟨W0,hW0⟩:∃ W,w.alloc (.cells (Cfg.A c) 26)=W:=⟨_,rfl⟩
 have HX0:=hid (show Ext w W0 from hW0▸(Ext.refl w).alloc _)
 have HC0:=hid (show W0.heap[w.heap.size]?=some (.cells (Cfg.A c) 26 (0,0)) from hW0▸heap_alloc_new _ _)
 have hsz0:W0.heap.size=w.heap.size+1:=by rw [<- hW0]; simp
 have H0:=hid (h.ext HX0.out)
 obtain ⟨n,hn⟩:∃ n:Nat,c.n=n:=⟨c.n.toNat,by have:=hc.k0; have:=hc.k1; omega⟩
 have hn8:n<=8:=by have:=hc.n1; omega
 have HG:=hid (fun (d:Nat) (wr:World) (hx:Ext W0 wr)=>jgood_c (H0.out.ext hx) c hc d slot h0 h1 i hi)
 have HALL:Hid (R.jgoodsTo c slot i n=R.jgoods c slot i):=hid (by unfold Rck.jgoodsTo Rck.jgoods; rw [hn]; rfl)
 have HOK:=hid (fun (d:Nat) (f:Frm) (hf:R.jgood c d slot i=some f)=>H0.out.jgood_ok hf)
 have c2:W0.cell? ⟨w.heap.size,2,none⟩=some (.int .i64 n):=(Zaf HC0.out).trans (by rw [<- hn]; exact Cfg.A2 c)
 clear h hc h0 h1 hi hn
 go_enter Tryz.func95,Tryz.ntmps95
 go_wp2
 clear c2
 go_loopw [15,9] (fun t v wr=>∃ j:Nat,t=.int .i64 j/\j<=n/\OwnVs wr (w.heap.size+1) 113 112 v ((R.jgoodsTo c slot i j).map Frm.A)/\Ext W0 wr) (fun t _ _=>n - (intOf t).toNat)
 case atStart=>exact ⟨0,rfl,by omega,OwnVs.nil _ _ _ _,Ext.refl _⟩
 case round =>
  obtain ⟨j,rfl,hj,hown,hx⟩:=hrel
  by_cases hlt:j < n
  ·
   have HGJ:=hid (HG.out j wr hx)
   have HCR:=hid (hx.at HC0.out)
   have HS:=hid (R.jgoodsTo_succ c slot i j)
   have hlen:=R.jgoodsTo_len c slot i j
   have HL:=hid (show ((R.jgoodsTo c slot i j).map Frm.A).length < 1000 by rw [List.length_map]; omega)
   have HO:=hid hown; have HX:=hid hx
   have HLT:=hid (show w.heap.size+1<=wr.heap.size from by rw [<- hsz0]; exact hx.size)
   clear hown hx hlen
   go_wp2_with (guard_target=wpList _ _ _ (⟨some _,Op.load _ _,_,_,_,none⟩::_) _ _; refine Zac rfl 26 _ rfl ⟨w.heap.size,0,none⟩ rfl (Cfg.A c) (Zat c) (Zai HCR.out) ?_)
   refine HGJ.out.mono ?_
   rintro e w1 ⟨rfl,x1⟩
   have HX1:=hid (Ext.trans HX.out x1)
   have HO1:=hid (HO.out.ext x1)
   have HLT1:=hid (Nat.le_trans HLT.out x1.size)
   clear x1 HGJ HO HX HLT HCR
   have hbs:(w1.alloc (.cells (Frm.A Frm.zero) 113)).heap[w1.heap.size]?=some (.cells (Frm.A Frm.zero) 113 (0,0)):=Zad
   rcases hg:R.jgood c j slot i with _ | f
   ·
    rw [hg] at HS
    simp only [gotO,Option.getD_none,Option.isSome_none]
    have HS2:Hid (R.jgoodsTo c slot i (j+1)=R.jgoodsTo c slot i j):=hid (by rw [HS.out]; simp)
    clear hg HS
    go_wp2_with (guard_target=wpList _ _ _ (⟨none,Op.store _ _ _,_,_,_,none⟩::_) _ _; refine Zaa rfl 113 _ _ rfl w1.heap.size rfl (Frm.A Frm.zero) _ rfl 113 ?_ hbs ?_ ?_ ?_; (rw [HZ.out]; exact aggFrame); (rfl); exact Frm.A_one _; rw [Zaj])
    go_roundw
    case rel=>exact ⟨j+1,by go_num,by omega,by rw [HS2.out]; exact HO1.out.ext ((Ext.refl w1).alloc _),HX1.out.alloc _⟩
    case measure=>simp [intOf]; omega
   ·
    have hfo:=HOK.out j f hg
    have HFS:=hid (Frm.A_size f hfo)
    rw [hg] at HS
    simp only [gotO,Option.getD_some,Option.isSome_some]
    obtain ⟨W2,hW2⟩:∃ W,w1.alloc (.cells (Frm.A f) 113)=W:=⟨_,rfl⟩
    have x2:Ext w1 W2:=hW2▸(Ext.refl w1).alloc _
    have hb2:W2.heap[w1.heap.size]?=some (.cells (Frm.A f) 113 (0,0)):=hW2▸heap_alloc_new _ _
    obtain ⟨v',W3,hap,hown3,_,hx3⟩:=(HO1.out.ext x2).add (tsl:=107) Tryz.underlying107 infoFr HZ.out (by omega) (Frm.A f) HFS.out (Frm.A_one f) HL.out (by omega) (Nat.le_trans HLT1.out x2.size)
    have HO3:Hid (OwnVs W3 (w.heap.size+1) 113 112 v' ((R.jgoodsTo c slot i (j+1)).map Frm.A)):=hid (by rw [HS.out]; simpa using hown3)
    have HX3:Hid (Ext W0 W3):=hid (hx3 W0 (by rw [hsz0]; exact Nat.le_refl _) (Ext.trans HX1.out x2))
    have HW2:=hid hW2
    have HB2:=hid hb2
    clear hg HS hown3 hx3 x2 hb2 hfo hW2
    go_wp2_with (first
     | (guard_target=wpList _ _ _ (⟨none,Op.store _ _ _,_,_,_,none⟩::_) _ _; refine Zaa rfl 113 _ _ rfl w1.heap.size rfl (Frm.A f) _ rfl 113 ?_ hbs ?_ ?_ ?_; (rw [HFS.out]; exact aggFrame); (rw [HFS.out,HZ.out]); exact Frm.A_one _; rw [Zaj,HW2.out])
     | (guard_target=wpList _ _ _ (⟨some _,Op.load _ _,_,_,_,none⟩::_) _ _; refine Zac rfl 113 _ rfl ⟨w1.heap.size,0,none⟩ rfl (Frm.A f) (by rw [HFS.out]; exact aggFrame) (Zai HB2.out) ?_)
     | (guard_target=wpList _ _ _ (⟨some _,Op.buildSlice _ _ _,_,_,_,none⟩::_) _ _; refine Zak rfl 107 113 _ rfl (Frm.A f) _ _ 112 144 Tryz.underlying107 infoFr (by omega) (by omega) rfl rfl HFS.out ?_)
     | (at_builtin; refine Zah rfl _ _ _ rfl _ _ _ _ rfl rfl hap ?_))
    go_roundw
    case rel=>exact ⟨j+1,by go_num,by omega,HO3.out,HX3.out⟩
    case measure=>simp [intOf]; omega
  ·
   obtain rfl:n=j:=by omega
   rw [HALL.out] at hown
   have HO:=hid hown; have HX:=hid (Ext.trans HX0.out hx)
   clear hown hx
   go_wp2
   go_ret
   exact ⟨_,rfl,HO.out.down (by omega),HX.out⟩
theorem aggData:AggType Tryz.prog 23 108:=⟨by kernel_rfl,by kernel_rfl⟩
def LsAt (w:World) (a:Option Addr) (ls:List (List Frm)):Prop:=∀ i fs,ls[i]?=some fs->∃ g b c,a=some ⟨g,0,none⟩/\w.cell? ⟨g,i,none⟩=some (.slice (some ⟨b,0,none⟩) fs.length c)/\fs.length<=c/\VsAt w b 112 (fs.map Frm.A)
theorem LsAt.ext {w w':World} {a:Option Addr} {ls:List (List Frm)} (h:LsAt w a ls) (e:Ext w w'):LsAt w' a ls:=fun i fs hi=>by
 obtain ⟨g,b,c,h1,h2,h3,h4⟩:=h i fs hi
 exact ⟨g,b,c,h1,e.cell h2,h3,h4.ext e⟩
structure WSt (w0 wr:World) (g:Nat) (seq:Int) (x:Rcd):Prop where
 ext:Ext w0 wr
 seq:x.seq=seq
 ok:∀ b∈x.blocks,b.length=108
 ex:∃ a c,wr.heap[g]?=some (.cells (x.V a c) 101 (0,0))/\OwnVs wr (g+1) 24 108 (.slice a x.blocks.length c) (x.blocks.map bA)
theorem WSt.more {w0 wr wr':World} {g:Nat} {seq:Int} {x:Rcd} (h:WSt w0 wr g seq x) (e:Ext wr wr'):WSt w0 wr' g seq x:=by
 obtain ⟨h1,h2,h3,a,c,h4,h5⟩:=h
 exact ⟨Ext.trans h1 e,h2,h3,a,c,e.at h4,h5.ext e⟩
theorem WSt.lt {w0 wr:World} {g:Nat} {seq:Int} {x:Rcd} (h:WSt w0 wr g seq x):g < wr.heap.size:=by
 obtain ⟨_,_,_,a,c,h4,_⟩:=h
 exact lt_of_block h4
theorem WSt.take {w0 W:World} {g:Nat} {seq:Int} {x:Rcd} (h:WSt w0 W g seq x) (hg:w0.heap.size<=g) (f:Frm) (hf:f.Ok) (hl:x.blocks.length < 1000) :
  ∃ va vc W3 a' c' W4,W.cell? ⟨g,1,none⟩=some (.int .i64 x.stripe)/\W.frozen? ⟨g,1,none⟩=false/\W.setCell ⟨g,1,none⟩ (.int .i64 f.stripe)=W3/\Only (fun k=>k=g) W W3 ∧
   W3.cell? ⟨g,2,none⟩=some (.slice va x.blocks.length vc) ∧
   (Builtin.append_ #[29,29] 29 #[.slice va x.blocks.length vc,.slice (some ⟨W3.heap.size,0,none⟩) 1 1]).run Tryz.prog (W3.alloc (.cells (bA f.data) 24))=.ok (.slice a' (x.blocks.length+1) c') W4 ∧
   W4.cell? ⟨g,2,none⟩=some (.slice va x.blocks.length vc)/\W4.frozen? ⟨g,2,none⟩=false ∧
   WSt w0 (W4.setCell ⟨g,2,none⟩ (.slice a' (x.blocks.length+1) c')) g seq ⟨seq,f.stripe,x.blocks++[f.data]⟩:=by
 obtain ⟨h1,h2,h3,va,vc,h4,h5⟩:=h
 obtain ⟨W3,hW3⟩:∃ W3,W.setCell ⟨g,1,none⟩ (.int .i64 f.stripe)=W3:=⟨_,rfl⟩
 have o3:Only (fun k=>k=g) W W3:=hW3▸Only.setCell (F:=fun k=>k=g) (Only.refl _ W) (.inr rfl) _
 have hb3:=Zay h4 (i:=1) (.int .i64 f.stripe)
 rw [hW3] at hb3
 have hsz3:g+1<=W3.heap.size:=lt_of_block hb3
 have hv3:OwnVs W3 (g+1) 24 108 (.slice va x.blocks.length vc) (x.blocks.map bA):=h5.only o3 fun b hb e=>by have:=(h5.lt b hb).1; omega
 have x3:Ext w0 W3:=hW3▸Only.setCell (F:=fun _=>False) h1 (.inl hg) _
 obtain ⟨v',W4,hap,hown,ho,hx⟩:=hv3.add (tsl:=29) Tryz.underlying29 infoBlk (by show (bA z108).size=108; rw [Zaz]; simp [z108]) (by omega) (bA f.data) (by rw [Zaz]; exact hf.len) (bA_one _) (by rw [List.length_map]; exact hl) (by omega) hsz3
 obtain ⟨a',c',hv',_⟩:=hown.slice
 have hn:(x.blocks.map bA++[bA f.data]).length=x.blocks.length+1:=by simp
 rw [hn] at hv'
 subst hv'
 have hb4:=ho.at hb3 (fun e=>by have:=(hv3.lt g e).1; omega)
 refine ⟨va,vc,W3,a',c',W4,(Zaf h4).trans rfl,Za7 h4,hW3,o3,(Zaf hb3).trans rfl,hap,(Zaf hb4).trans rfl,Za7 hb4,?_,rfl,?_,a',c',?_,?_⟩
 ·
  exact Only.setCell (F:=fun _=>False) (hx w0 (by omega) x3) (.inl hg) _
 ·
  intro b hb
  rcases List.mem_append.1 hb with hb | hb
  ·
   exact h3 b hb
  ·
   rw [List.mem_singleton.1 hb]; exact hf.len
 ·
  have:=Zay hb4 (i:=2) (.slice a' (x.blocks.length+1) c')
  rw [this,<- h2]
  simp [Rcd.V]
 ·
  have o5:Only (fun k=>k=g) W4 (W4.setCell ⟨g,2,none⟩ (.slice a' (x.blocks.length+1) c')):=Only.setCell (F:=fun k=>k=g) (Only.refl _ W4) (.inr rfl) _
  have:=hown.only o5 fun b hb e=>by have:=(hown.lt b hb).1; omega
  simpa using this
def JWholePost (w:World) (o:Option Rcd) (e:Ending) (w':World):Prop :=
 ∃ a c,e=.returned (.tuple #[.agg ((o.getD Rcd.none_).V a c),.bool o.isSome])/\Ext w w'/\BlksAt w' a (o.getD Rcd.none_).blocks/\∀ p,a=some p->w.heap.size<=p.block
theorem wholeFrom_nil (seq:Int) (i:Nat) (x:Rcd):wholeFrom seq i x []=some x:=by unfold wholeFrom; rfl
theorem wholeFrom_none {seq:Int} {i:Nat} {x:Rcd} {fs:List Frm} {l:List (List Frm)} (h:pickF seq i x.stripe fs=none):wholeFrom seq i x (fs::l)=none:=by unfold wholeFrom; rw [h]
theorem wholeFrom_some {seq:Int} {i:Nat} {x:Rcd} {fs:List Frm} {l:List (List Frm)} {f:Frm} (h:pickF seq i x.stripe fs=some f):wholeFrom seq i x (fs::l)=wholeFrom seq (i+1) ⟨seq,f.stripe,x.blocks++[f.data]⟩ l:=by
 conv=>lhs; unfold wholeFrom
 rw [h]
theorem pickF_drop {seq:Int} {i:Nat} {st:Int} {fs:List Frm} {j:Nat} {f:Frm} (h:fs[j]?=some f):pickF seq i st (fs.drop j)=if f.gen=seq/\(i=0\/f.stripe=st) then some f else pickF seq i st (fs.drop (j+1)):=by
 have hlt:=(List.getElem?_eq_some_iff.1 h).1
 have e:fs.drop j=f::fs.drop (j+1):=by
  rw [List.drop_eq_getElem_cons hlt]
  congr 1
  exact (List.getElem?_eq_some_iff.1 h).2
 rw [e]
 unfold pickF
 rw [List.find?_cons]
 by_cases q:f.gen=seq/\(i=0\/f.stripe=st)
 ·
  rw [if_pos q]
  have:(decide (f.gen=seq) && (decide (i=0) || decide (f.stripe=st)))=true:=by simpa using q
  rw [this]
 ·
  rw [if_neg q]
  have:(decide (f.gen=seq) && (decide (i=0) || decide (f.stripe=st)))=false:=by
   rw [<- Bool.not_eq_true]; simpa using q
  rw [this]
theorem Za6 (x:Rcd) (a:Option Addr) (c:Nat):AggType Tryz.prog 101 (x.V a c).size:=⟨by kernel_rfl,by kernel_rfl⟩
theorem V_one (x:Rcd) (a:Option Addr) (c:Nat):∀ v∈(x.V a c).toList,v.oneCell'=true:=by
 intro v hv
 unfold Rcd.V at hv
 simp only [List.mem_cons,List.not_mem_nil,or_false] at hv
 rcases hv with rfl | rfl | rfl<;>rfl
theorem zero_rec (w:World):Sem.run Tryz.prog (zeroValue 101) w=.ok (.agg (Rcd.none_.V none 0)) w:=by kernel_rfl
theorem built_rec0:Tryz.prog.built 101 []=some (Rcd.none_.V none 0):=by kernel_rfl
theorem built_rec1 (seq:Int):Tryz.prog.built 101 [(0,.int .i64 seq)]=some ((⟨seq,0,[]⟩:Rcd).V none 0):=by kernel_rfl
attribute [local irreducible] wpSQ
set_option maxRecDepth 100000 in
set_option maxHeartbeats 2000000 in
theorem jwhole_c (ls:List (List Frm)) (seq:Int) (a:Option Addr) (cp:Nat) (w:World) (hl:LsAt w a ls) (hlen:ls.length<=8) (hcp:ls.length<=cp) (hok:∀ fs∈ls,fs.length<=8/\∀ f∈fs,f.Ok) :
  Calls Tryz.prog 96 #[.slice a ls.length cp,.int .i64 seq] w (JWholePost w (whole seq ls)):=by
 have hz:=zero_rec
 have hzf:=Za0
 have HZF:=hid (Frm.A_size _ Zbc)
 have hb0:=built_rec0
 have hb1:=built_rec1 seq
 obtain ⟨W0,hW0⟩:∃ W,w.alloc (.cells (Rcd.none_.V none 0) 101)=W:=⟨_,rfl⟩
 have x0:Ext w W0:=hW0▸(Ext.refl w).alloc _
 have hr0:W0.heap[w.heap.size]?=some (.cells (Rcd.none_.V none 0) 101 (0,0)):=hW0▸heap_alloc_new _ _
 have hsz0:W0.heap.size=w.heap.size+1:=by rw [<- hW0]; simp
 obtain ⟨W1,hW1⟩:∃ W,W0.alloc (.cells ((⟨seq,0,[]⟩:Rcd).V none 0) 101)=W:=⟨_,rfl⟩
 have x1:Ext W0 W1:=hW1▸(Ext.refl W0).alloc _
 have HST:Hid (WSt W0 W1 (w.heap.size+1) seq ⟨seq,0,[]⟩):=hid ⟨x1,rfl,by simp,none,0,by rw [<- hsz0]; exact hW1▸heap_alloc_new _ _,OwnVs.nil _ _ _ _⟩
 have hbs:(W0.alloc (.cells (Rcd.none_.V none 0) 101)).heap[W0.heap.size]?=some (.cells (Rcd.none_.V none 0) 101 (0,0)):=Zad
 have HX0:=hid x0
 have HR0:=hid hr0
 have HL:=hid (hl.ext x0)
 have HOK:=hid hok
 have HW:Hid (whole seq ls=wholeFrom seq 0 ⟨seq,0,[]⟩ (ls.drop 0)):=hid (by rw [List.drop_zero]; rfl)
 have HW1:=hid hW1
 have hlen8:(ls.length:Int)<=8:=by omega
 clear x0 x1 hr0 hl hok hW1
 go_enter Tryz.func96,Tryz.ntmps96
 go_wp2_with (first
  | (guard_target=wpList _ _ _ (⟨none,Op.store _ _ _,_,_,_,none⟩::_) _ _; rw [hsz0] at hbs; refine Zaa rfl 101 _ _ rfl (w.heap.size+1) rfl ((⟨seq,0,[]⟩:Rcd).V none 0) _ rfl 101 (Za6 _ _ _) hbs rfl (V_one _ _ _) ?_; rw [<- hsz0,Zaj,HW1.out])
  | (guard_target=wpList _ _ _ (⟨some _,Op.build _ _,_,_,_,none⟩::_) _ _; refine Zao rfl 101 _ rfl ((⟨seq,0,[]⟩:Rcd).V none 0) ?_ ?_; (simp only [List.map_toArray,List.map_cons,List.map_nil,Act.eval]; simp only [Array.getD_eq_getD_getElem?,List.getElem?_toArray,List.getElem?_cons_succ,List.getElem?_cons_zero,Option.getD_some]; exact hb1)))
 clear hb1 hbs
 go_loopw [16] (fun t wr=>∃ (i:Nat) (x:Rcd),t=.int .i64 i/\i<=ls.length/\WSt W0 wr (w.heap.size+1) seq x/\whole seq ls=wholeFrom seq i x (ls.drop i)/\x.blocks.length=i) (fun t _=>ls.length - (intOf t).toNat)
 case atStart=>exact ⟨0,_,rfl,by omega,HST.out,HW.out,rfl⟩
 case round =>
  clear HST HW
  obtain ⟨i,x,rfl,hi,hst,hw,hbl⟩:=hrel
  have HBL:=hid hbl
  have hbl8:x.blocks.length<=8:=by omega
  clear hbl
  by_cases hlt:i < ls.length
  ·
   have i0:(0:Int)<=(i:Int):=by omega
   have i1:(i:Int) < (ls.length:Int):=by omega
   obtain ⟨fs,hfs⟩:∃ fs,ls[i]?=some fs:=⟨ls[i],List.getElem?_eq_getElem hlt⟩
   obtain ⟨g,b,cc,rfl,hcell,hcc,hat⟩:=HL.out i fs hfs
   obtain ⟨hf8,hfok⟩:=HOK.out fs (List.mem_of_getElem? hfs)
   have hdrop:ls.drop i=fs::ls.drop (i+1):=by
    rw [List.drop_eq_getElem_cons hlt]
    congr 1
    exact (List.getElem?_eq_some_iff.1 hfs).2
   have HW2:Hid (whole seq ls=wholeFrom seq i x (fs::ls.drop (i+1))):=hid (by rw [hw,hdrop])
   have c1:wr.cell? ⟨g,i,none⟩=some (.slice (some ⟨b,0,none⟩) fs.length cc):=Ext.cell hst.ext hcell
   have HAT:=hid hat
   have HFOK:=hid hfok
   have HST:=hid hst
   have hfl8:(fs.length:Int)<=8:=by omega
   have HG:=hid (show W0.heap.size<=w.heap.size+1 from by omega)
   clear hw hst hcell hat hfok hdrop hfs
   go_wp2
   clear c1
   go_loopw [23,9] (fun t v wq=>∃ (j:Nat),t=.int .i64 j/\j<=fs.length/\((v=.bool false/\WSt W0 wq (w.heap.size+1) seq x/\pickF seq i x.stripe fs=pickF seq i x.stripe (fs.drop j))\/(v=.bool true/\∃ f,pickF seq i x.stripe fs=some f/\WSt W0 wq (w.heap.size+1) seq ⟨seq,f.stripe,x.blocks++[f.data]⟩))) (fun t _ _=>fs.length - (intOf t).toNat)
   case atStart=>exact ⟨0,rfl,by omega,.inl ⟨rfl,HST.out,by rw [List.drop_zero]⟩⟩
   case round =>
    clear HST
    obtain ⟨j,rfl,hj,hor⟩:=hrel
    by_cases hjt:j < fs.length
    ·
     have j0:(0:Int)<=(j:Int):=by omega
     have j1:(j:Int) < (fs.length:Int):=by omega
     obtain ⟨f,hfj⟩:∃ f,fs[j]?=some f:=⟨fs[j],List.getElem?_eq_getElem hjt⟩
     have hfo:=HFOK.out f (List.mem_of_getElem? hfj)
     have HFS:=hid (Frm.A_size f hfo)
     have HFO:=hid hfo
     have HPD:=hid (fun st=>pickF_drop (seq:=seq) (i:=i) (st:=st) hfj)
     have hxq:Ext W0 wr:=by
      rcases hor with ⟨_,h,_⟩ | ⟨_,_,_,h⟩
      ·
       exact h.ext
      ·
       exact h.ext
     have HFA:Hid (∀ q v,(Frm.A f).toList[q]?=some v->wr.cell? ((⟨b,j*112,none⟩:Addr).add q)=some v):=hid (fun q v hv=>by
      have:=HAT.out j (Frm.A f) (by rw [List.getElem?_map,hfj]; rfl) q v hv
      have e:(⟨b,j*112,none⟩:Addr).add q=⟨b,j*112+q,none⟩:=by unfold Addr.add; split<;>simp_all
      rw [e]; exact Ext.cell hxq this)
     have hbf:(wr.alloc (.cells (Frm.A Frm.zero) 113)).heap[wr.heap.size]?=some (.cells (Frm.A Frm.zero) 113 (0,0)):=Zad
     obtain ⟨W2,hW2⟩:∃ W,wr.alloc (.cells (Frm.A f) 113)=W:=⟨_,rfl⟩
     have x2:Ext wr W2:=hW2▸(Ext.refl wr).alloc _
     have hb2:W2.heap[wr.heap.size]?=some (.cells (Frm.A f) 113 (0,0)):=hW2▸heap_alloc_new _ _
     have HX2:=hid x2
     have HB2:=hid hb2
     have HW2':=hid hW2
     clear hfo hfj hxq x2 hb2 hW2
     rcases hor with ⟨rfl,hst,hpk⟩ | ⟨rfl,f0,hpk,hst⟩
     ·
      have c3:W2.cell? ⟨wr.heap.size,3,none⟩=some (.int .i64 f.gen):=(Zaf HB2.out).trans (Frm.A3 f)
      have c2:W2.cell? ⟨wr.heap.size,2,none⟩=some (.int .i64 f.stripe):=(Zaf HB2.out).trans (Frm.A2 f)
      have cg:W2.cell? ⟨w.heap.size+1,1,none⟩=some (.int .i64 x.stripe):=by
       obtain ⟨_,_,_,ya,yc,h4,_⟩:=hst.more HX2.out
       exact (Zaf h4).trans rfl
      have HLT:=hid (hst.lt)
      by_cases q1:f.gen=seq
      case neg =>
       have ab:(f.gen != seq)=true:=by simpa using q1
       have hpd:=HPD.out x.stripe
       rw [if_neg (fun z=>q1 z.1)] at hpd
       have HP:=hid (hpk.trans hpd)
       have HS2:=hid (hst.more HX2.out)
       clear hpk hpd hst q1
       go_wp2_with (first
        | (guard_target=wpList _ _ _ (⟨some _,Op.load _ _,_,_,_,none⟩::_) _ _; refine Zac rfl 113 _ rfl ⟨b,j*112,none⟩ rfl (Frm.A f) (by rw [HFS.out]; exact aggFrame) HFA.out ?_)
        | (guard_target=wpList _ _ _ (⟨none,Op.store _ _ _,_,_,_,none⟩::_) _ _; refine Zaa rfl 113 _ _ rfl wr.heap.size rfl (Frm.A f) _ rfl 113 ?_ hbf ?_ ?_ ?_; (rw [HFS.out]; exact aggFrame); (rw [HFS.out,HZF.out]); exact Frm.A_one _; rw [Zaj,HW2'.out]))
       go_roundw
       case rel=>exact ⟨j+1,by go_num,by omega,.inl ⟨rfl,HS2.out,HP.out⟩⟩
       case measure=>simp [intOf]; omega
      have ab:(f.gen != seq)=false:=by simpa using q1
      by_cases q0:i=0
      case pos =>
       have hpd:=HPD.out x.stripe
       rw [if_pos ⟨q1,.inl q0⟩] at hpd
       have iz:¬(0:Int) < (i:Int):=by omega
       clear q1 q0
       have hpk2:pickF seq i x.stripe fs=some f:=hpk.trans hpd
       have HPK:=hid hpk2
       have HS2:=hid (hst.more HX2.out)
       have HBLN:=hid (show x.blocks.length < 1000 by omega)
       clear hst hpk hpk2 hpd HPD
       go_wp2_with (first
        | (guard_target=wpList _ _ _ (⟨some _,Op.load _ _,_,_,_,none⟩::_) _ _; refine Zac rfl 113 _ rfl ⟨b,j*112,none⟩ rfl (Frm.A f) (by rw [HFS.out]; exact aggFrame) HFA.out ?_)
        | (guard_target=wpList _ _ _ (⟨none,Op.store _ _ _,_,_,_,none⟩::_) _ _; refine Zaa rfl 113 _ _ rfl wr.heap.size rfl (Frm.A f) _ rfl 113 ?_ hbf ?_ ?_ ?_; (rw [HFS.out]; exact aggFrame); (rw [HFS.out,HZF.out]); exact Frm.A_one _; rw [Zaj,HW2'.out]))
       refine Zaq (S:=Ext) 3 (.fin [0,1,2]) (by kernel_rfl) (by kernel_rfl) (fun _ _ d _ _ h=>by cases d<;>exact h) ?_
       have xd:Ext W2 W2.drew:=(Ext.refl W2).drew
       have c0:∀ y:SW Ext W2.drew,y.w.cell? ⟨wr.heap.size,2,none⟩=some (.int .i64 f.stripe):=fun y=>(Zaf ((Ext.trans xd y.ext).at HB2.out)).trans (Frm.A2 f)
       rw [wpS]
       simp only [opsAt,opA,opB,opC,opD,opE,opF,opG]
       iterate 3 ((refine Zab (fun K hK=>?_); go_simp; refine hK _ ?_; clear hK K))
       refine Zae ?_
       intro W hW
       have HXW:=hid (Ext.trans xd hW)
       clear c0 hW c3 c2 cg
       obtain ⟨va,vc,W3,a',c',W4,q1,q2,q3,q4,q5,q6,q7,q8,q9⟩:=(HS2.out.more HXW.out).take HG.out f HFO.out HBLN.out
       have hb4:W3.heap[wr.heap.size]?=some (.cells (Frm.A f) 113 (0,0)):=q4.at (HXW.out.at HB2.out) (fun e=>by have:=HLT.out; omega)
       have HDA:Hid (∀ q v,(bA f.data).toList[q]?=some v->W3.cell? ((⟨wr.heap.size,4,none⟩:Addr).add q)=some v):=hid (fun q v hv=>by
        have e:(⟨wr.heap.size,4,none⟩:Addr).add q=⟨wr.heap.size,4+q,none⟩:=by unfold Addr.add; split<;>simp_all
        rw [e,Zaf hb4]
        have hq:q < 108:=by
         rcases Nat.lt_or_ge q 108 with h | h
         ·
          exact h
         ·
          rw [List.getElem?_eq_none (by rw [Array.length_toList,Zaz,HFO.out.len]; exact h)] at hv; cases hv
        have h1:=Zbf f.data q (by rw [HFO.out.len]; exact hq)
        rw [Array.getElem?_toList] at hv
        rw [h1] at hv
        rw [<- hv]
        exact Frm.A4 f q (by rw [HFO.out.len]; exact hq))
       have HDS:=hid (show (bA f.data).size=108 by rw [Zaz]; exact HFO.out.len)
       have HQ9:=hid q9
       clear q4 q9 hb4
       go_wp2_with (first
        | (guard_target=wpList _ _ _ (⟨some _,Op.load _ _,_,_,_,none⟩::_) _ _; refine Zac rfl 23 _ rfl ⟨wr.heap.size,4,none⟩ rfl (bA f.data) (by rw [HDS.out]; exact aggData) HDA.out ?_)
        | (guard_target=wpList _ _ _ (⟨some _,Op.buildSlice _ _ _,_,_,_,none⟩::_) _ _; refine Zak rfl 29 24 _ rfl (bA f.data) _ _ 108 108 Tryz.underlying29 infoBlk (by omega) (by omega) rfl rfl HDS.out ?_)
        | (at_builtin; refine Zah rfl _ _ _ rfl _ _ _ _ rfl rfl q6 ?_))
       go_roundw
       case rel=>exact ⟨j+1,by go_num,by omega,.inr ⟨rfl,f,HPK.out,HQ9.out⟩⟩
       case measure=>simp [intOf]; omega
      have iz:(0:Int) < (i:Int):=by omega
      by_cases q2:f.stripe=x.stripe
      case pos =>
       have hpd:=HPD.out x.stripe
       rw [if_pos ⟨q1,.inr q2⟩] at hpd
       have ac:(f.stripe != x.stripe)=false:=by simpa using q2
       clear q1 q2
       have hpk2:pickF seq i x.stripe fs=some f:=hpk.trans hpd
       have HPK:=hid hpk2
       have HS2:=hid (hst.more HX2.out)
       have HBLN:=hid (show x.blocks.length < 1000 by omega)
       clear hst hpk hpk2 hpd HPD
       go_wp2_with (first
        | (guard_target=wpList _ _ _ (⟨some _,Op.load _ _,_,_,_,none⟩::_) _ _; refine Zac rfl 113 _ rfl ⟨b,j*112,none⟩ rfl (Frm.A f) (by rw [HFS.out]; exact aggFrame) HFA.out ?_)
        | (guard_target=wpList _ _ _ (⟨none,Op.store _ _ _,_,_,_,none⟩::_) _ _; refine Zaa rfl 113 _ _ rfl wr.heap.size rfl (Frm.A f) _ rfl 113 ?_ hbf ?_ ?_ ?_; (rw [HFS.out]; exact aggFrame); (rw [HFS.out,HZF.out]); exact Frm.A_one _; rw [Zaj,HW2'.out]))
       refine Zaq (S:=Ext) 3 (.fin [0,1,2]) (by kernel_rfl) (by kernel_rfl) (fun _ _ d _ _ h=>by cases d<;>exact h) ?_
       have xd:Ext W2 W2.drew:=(Ext.refl W2).drew
       have c0:∀ y:SW Ext W2.drew,y.w.cell? ⟨wr.heap.size,2,none⟩=some (.int .i64 f.stripe):=fun y=>(Zaf ((Ext.trans xd y.ext).at HB2.out)).trans (Frm.A2 f)
       rw [wpS]
       simp only [opsAt,opA,opB,opC,opD,opE,opF,opG]
       iterate 3 ((refine Zab (fun K hK=>?_); go_simp; refine hK _ ?_; clear hK K))
       refine Zae ?_
       intro W hW
       have HXW:=hid (Ext.trans xd hW)
       clear c0 hW c3 c2 cg
       obtain ⟨va,vc,W3,a',c',W4,q1,q2,q3,q4,q5,q6,q7,q8,q9⟩:=(HS2.out.more HXW.out).take HG.out f HFO.out HBLN.out
       have hb4:W3.heap[wr.heap.size]?=some (.cells (Frm.A f) 113 (0,0)):=q4.at (HXW.out.at HB2.out) (fun e=>by have:=HLT.out; omega)
       have HDA:Hid (∀ q v,(bA f.data).toList[q]?=some v->W3.cell? ((⟨wr.heap.size,4,none⟩:Addr).add q)=some v):=hid (fun q v hv=>by
        have e:(⟨wr.heap.size,4,none⟩:Addr).add q=⟨wr.heap.size,4+q,none⟩:=by unfold Addr.add; split<;>simp_all
        rw [e,Zaf hb4]
        have hq:q < 108:=by
         rcases Nat.lt_or_ge q 108 with h | h
         ·
          exact h
         ·
          rw [List.getElem?_eq_none (by rw [Array.length_toList,Zaz,HFO.out.len]; exact h)] at hv; cases hv
        have h1:=Zbf f.data q (by rw [HFO.out.len]; exact hq)
        rw [Array.getElem?_toList] at hv
        rw [h1] at hv
        rw [<- hv]
        exact Frm.A4 f q (by rw [HFO.out.len]; exact hq))
       have HDS:=hid (show (bA f.data).size=108 by rw [Zaz]; exact HFO.out.len)
       have HQ9:=hid q9
       clear q4 q9 hb4
       go_wp2_with (first
        | (guard_target=wpList _ _ _ (⟨some _,Op.load _ _,_,_,_,none⟩::_) _ _; refine Zac rfl 23 _ rfl ⟨wr.heap.size,4,none⟩ rfl (bA f.data) (by rw [HDS.out]; exact aggData) HDA.out ?_)
        | (guard_target=wpList _ _ _ (⟨some _,Op.buildSlice _ _ _,_,_,_,none⟩::_) _ _; refine Zak rfl 29 24 _ rfl (bA f.data) _ _ 108 108 Tryz.underlying29 infoBlk (by omega) (by omega) rfl rfl HDS.out ?_)
        | (at_builtin; refine Zah rfl _ _ _ rfl _ _ _ _ rfl rfl q6 ?_))
       go_roundw
       case rel=>exact ⟨j+1,by go_num,by omega,.inr ⟨rfl,f,HPK.out,HQ9.out⟩⟩
       case measure=>simp [intOf]; omega
      have ac:(f.stripe != x.stripe)=true:=by simpa using q2
      have hpd:=HPD.out x.stripe
      rw [if_neg (fun z=>by rcases z.2 with h | h; exact q0 h; exact q2 h)] at hpd
      have HP:=hid (hpk.trans hpd)
      have HS2:=hid (hst.more HX2.out)
      clear hpk hpd hst q1 q2
      go_wp2_with (first
       | (guard_target=wpList _ _ _ (⟨some _,Op.load _ _,_,_,_,none⟩::_) _ _; refine Zac rfl 113 _ rfl ⟨b,j*112,none⟩ rfl (Frm.A f) (by rw [HFS.out]; exact aggFrame) HFA.out ?_)
       | (guard_target=wpList _ _ _ (⟨none,Op.store _ _ _,_,_,_,none⟩::_) _ _; refine Zaa rfl 113 _ _ rfl wr.heap.size rfl (Frm.A f) _ rfl 113 ?_ hbf ?_ ?_ ?_; (rw [HFS.out]; exact aggFrame); (rw [HFS.out,HZF.out]); exact Frm.A_one _; rw [Zaj,HW2'.out]))
      go_roundw
      case rel=>exact ⟨j+1,by go_num,by omega,.inl ⟨rfl,HS2.out,HP.out⟩⟩
      case measure=>simp [intOf]; omega
     ·
      have HP:=hid hpk
      have HS2:=hid (hst.more HX2.out)
      clear hpk hst HPD
      go_wp2_with (first
       | (guard_target=wpList _ _ _ (⟨some _,Op.load _ _,_,_,_,none⟩::_) _ _; refine Zac rfl 113 _ rfl ⟨b,j*112,none⟩ rfl (Frm.A f) (by rw [HFS.out]; exact aggFrame) HFA.out ?_)
       | (guard_target=wpList _ _ _ (⟨none,Op.store _ _ _,_,_,_,none⟩::_) _ _; refine Zaa rfl 113 _ _ rfl wr.heap.size rfl (Frm.A f) _ rfl 113 ?_ hbf ?_ ?_ ?_; (rw [HFS.out]; exact aggFrame); (rw [HFS.out,HZF.out]); exact Frm.A_one _; rw [Zaj,HW2'.out]))
      go_roundw
      case rel=>exact ⟨j+1,by go_num,by omega,.inr ⟨rfl,f0,HP.out,HS2.out⟩⟩
      case measure=>simp [intOf]; omega
    ·
     obtain rfl:fs.length=j:=by omega
     rcases hor with ⟨rfl,hst,hpk⟩ | ⟨rfl,f0,hpk,hst⟩
     ·
      have hno:whole seq ls=none:=by
       rw [HW2.out]
       refine wholeFrom_none ?_
       rw [hpk,List.drop_length]; rfl
      have HNO:=hid hno
      have HR:=hid (Ext.at hst.ext HR0.out)
      have HX:=hid (Ext.trans HX0.out hst.ext)
      clear hpk hst hno
      go_wp2_with (first
       | (guard_target=wpList _ _ _ (⟨none,Op.store _ _ _,_,_,_,none⟩::_) _ _; refine Zaa rfl 101 _ _ rfl w.heap.size rfl (Rcd.none_.V none 0) _ rfl 101 (Za6 _ _ _) HR.out rfl (V_one _ _ _) ?_)
       | (guard_target=wpList _ _ _ (⟨some _,Op.build _ _,_,_,_,none⟩::_) _ _; refine Zao rfl 101 _ rfl (Rcd.none_.V none 0) ?_ ?_; exact hb0))
      refine bodyPost_ret (Zan Tryz.results96 rfl (Za6 _ _ _) (setRow_heap _ _ _ _ _ _ HR.out)) rfl ?_
      exact ⟨none,0,by rw [HNO.out]; rfl,Ext.then HX.out (Zag _ _ _) (fun i hi=>by omega),by rw [HNO.out]; intro i b hb; simp [Rcd.none_] at hb,by intro p hp; cases hp⟩
     ·
      have HW3:Hid (whole seq ls=wholeFrom seq (i+1) ⟨seq,f0.stripe,x.blocks++[f0.data]⟩ (ls.drop (i+1))):=hid (by rw [HW2.out]; exact wholeFrom_some hpk)
      have HST:=hid hst
      clear hpk hst
      go_wp2
      go_roundw
      case rel=>exact ⟨i+1,_,by go_num,by omega,HST.out,HW3.out,by simp [HBL.out]⟩
      case measure=>simp [intOf]; omega
  ·
   obtain rfl:ls.length=i:=by omega
   have hyes:whole seq ls=some x:=by rw [hw,List.drop_length,wholeFrom_nil]
   have HY:=hid hyes
   have HR:=hid (Ext.at hst.ext HR0.out)
   have HX:=hid (Ext.trans HX0.out hst.ext)
   obtain ⟨_,_,hbo,ya,yc,h4,h5⟩:=hst
   have H4:=hid h4
   have H5:=hid h5
   have HBO:=hid hbo
   clear hw hyes h4 h5 hbo
   go_wp2_with (first
    | (guard_target=wpList _ _ _ (⟨some _,Op.load _ _,_,_,_,none⟩::_) _ _; refine Zac rfl 101 _ rfl ⟨w.heap.size+1,0,none⟩ rfl (x.V ya yc) (Za6 _ _ _) (Zai H4.out) ?_)
    | (guard_target=wpList _ _ _ (⟨none,Op.store _ _ _,_,_,_,none⟩::_) _ _; refine Zaa rfl 101 _ _ rfl w.heap.size rfl (x.V ya yc) _ rfl 101 (Za6 _ _ _) HR.out rfl (V_one _ _ _) ?_))
   refine bodyPost_ret (Zan Tryz.results96 rfl (Za6 _ _ _) (setRow_heap _ _ _ _ _ _ HR.out)) rfl ?_
   have e1:Only (fun k=>k=w.heap.size) wr (wr.setRow w.heap.size (x.V ya yc)):=Zag _ _ _
   obtain ⟨a2,c2,e2,h⟩:=(H5.out.only e1 (fun b hb e=>by have:=(H5.out.lt b hb).1; omega)).slice
   simp only [List.length_map] at e2
   cases e2
   refine ⟨ya,yc,by rw [HY.out]; rfl,Ext.then HX.out (Zag _ _ _) (fun i hi=>by omega),?_,?_⟩
   ·
    rw [HY.out]
    rcases h with ⟨h0,rfl⟩ | ⟨g2,rfl,_,_,_,hv⟩
    ·
     have:x.blocks=[]:=by simpa using h0
     intro i b hb
     simp [this] at hb
    ·
     exact BlksAt.of_vs HBO.out hv
   ·
    intro p hp
    rcases h with ⟨h0,rfl⟩ | ⟨g2,rfl,hg2,_⟩
    ·
     cases hp
    ·
     cases hp; show w.heap.size<=g2; omega
end Go.Proofs.YtgjnnbomnoafcaaGreat
namespace Go
theorem Zbi {P:Program} {ops:Array Oper} {rest:List Oper} {o:Oper} {a:Act} {w:World} {Q:Exit->Act->World->Prop} (hgd:o.guard=none) (x y:Operand) (t:TypeId)
  (ho:o.op=.call { callee:=.builtin .max,args:=#[x,y],argTypes:=#[t,t] }) (m n:Int) (hx:a.eval x=.int .i64 m) (hy:a.eval y=.int .i64 n)
  (h:wpList P ops Q rest (a.put o.dst (.int .i64 (max m n))) w):wpList P ops Q (o::rest) a w :=
 wpList_plain hgd fun _ hK=>by
  have e:(if n > m then n else m)=max m n:=by split<;>omega
  have hr:(Builtin.max_ #[t,t] o.type #[.int .i64 m,.int .i64 n]).run P w=.ok (.int .i64 (max m n)) w:=by
   rw [<- e]
   simp [Builtin.max_,Builtin.max2]
  unfold Oper.wp
  simp [execOp,ho,resolve,invoke,builtin,hx,hy,hr,Result.andThen]
  exact hK _ _ h
theorem Zby {P:Program} {fn:Func} {p u v x:Tmp} {ty t:TypeId} {g:Nat} {A:Array Value} {tmps:Array Value} {w:World} (h:fn.results=#[.cell p ty,.tmp u,.tmp v,.tmp x]) (hp:tmps.getD p undef=.pointer (some ⟨g,0,none⟩))
  (ht:AggType P ty A.size) (hg:w.heap[g]?=some (.cells A t (0,0))):(results fn tmps).run P w=.ok (.tuple #[.agg A,tmps.getD u undef,tmps.getD v undef,tmps.getD x undef]) w:=by
 have hl:=Zbb (P:=P) w ty ⟨g,0,none⟩ A ht (fun j v hv=>by
  have e:(⟨g,0,none⟩:Addr).add j=⟨g,j,none⟩:=by unfold Addr.add; split<;>simp_all
  rw [e]; simp only [World.cell?,hg]
  simpa using hv)
 have hp':tmps[p]?.getD undef=.pointer (some ⟨g,0,none⟩):=by rw [<- Array.getD_eq_getD_getElem?]; exact hp
 simp only [results,h]
 simp [Sem.run_bind,Result.andThen,hp',asAddr,hl]
end Go
namespace Go.Proofs.YtgjnnbomnoafcaaGreat
set_option linter.unusedVariables false
open Go Go.RowKit
theorem infoFrs:(Tryz.prog.info? 107).map (fun i=>(i.zero,i.size,i.bytes))=some (some (.slice none 0 0),1,24):=by kernel_rfl
theorem OwnVs.apart {w:World} {B1 B2 sz1 sz2:Nat} {t1 t2:TypeId} {v1 v2:Value} {l1 l2:List (Array Value)} (h1:OwnVs w B1 t1 sz1 v1 l1) (h2:OwnVs w B2 t2 sz2 v2 l2) (hn:t1≠t2) {b:Nat} (e1:v1.ownBlock=some b):v2.ownBlock≠some b:=by
 intro e2
 rcases h1.own.2 with ⟨q,_⟩ | ⟨g,c,cur,q1,_,q3,_⟩
 ·
  rw [q] at e1; cases e1
 ·
  rcases h2.own.2 with ⟨q,_⟩ | ⟨g2,c2,cur2,p1,_,p3,_⟩
  ·
   rw [q] at e2; cases e2
  ·
   rw [q1] at e1; rw [p1] at e2
   cases e1; cases e2
   rw [q3] at p3
   injection p3 with p3
   injection p3 with _ p4 _
   exact hn p4
def FrsAt (w:World) (hs:List (Array Value)) (ls:List (List Frm)):Prop:=hs.length=ls.length/\∀ (i:Nat) (fs:List Frm),ls[i]?=some fs->∃ b c,hs[i]?=some #[Value.slice (some ⟨b,0,none⟩) fs.length c]/\fs.length<=c/\OwnVs w 0 113 112 (.slice (some ⟨b,0,none⟩) fs.length c) (fs.map Frm.A)
theorem FrsAt.nil (w:World):FrsAt w [] []:=⟨rfl,fun i fs h=>by simp at h⟩
theorem FrsAt.only {F:Nat->Prop} {w w':World} {hs:List (Array Value)} {ls:List (List Frm)} (h:FrsAt w hs ls) (e:Only F w w') (hn:∀ v b,OwnVs w 0 113 112 v []\/(∃ l,OwnVs w 0 113 112 v l)->v.ownBlock=some b->¬F b):FrsAt w' hs ls:=⟨h.1,fun i fs hi=>by
 obtain ⟨b,c,h1,h2,h3⟩:=h.2 i fs hi
 exact ⟨b,c,h1,h2,h3.only e fun b' hb=>hn _ b' (.inr ⟨_,h3⟩) hb⟩⟩
theorem FrsAt.ext {w w':World} {hs:List (Array Value)} {ls:List (List Frm)} (h:FrsAt w hs ls) (e:Ext w w'):FrsAt w' hs ls:=h.only e fun _ _ _ _ x=>x
theorem FrsAt.snoc {w:World} {hs:List (Array Value)} {ls:List (List Frm)} (h:FrsAt w hs ls) {b c:Nat} {fs:List Frm} (hc:fs.length<=c) (h3:OwnVs w 0 113 112 (.slice (some ⟨b,0,none⟩) fs.length c) (fs.map Frm.A)):FrsAt w (hs++[#[Value.slice (some ⟨b,0,none⟩) fs.length c]]) (ls++[fs]):=by
 refine ⟨by simp [h.1],fun i gs hi=>?_⟩
 rcases Nat.lt_or_ge i ls.length with hlt | hge
 ·
  rw [List.getElem?_append_left hlt] at hi
  obtain ⟨b',c',q1,q2,q3⟩:=h.2 i gs hi
  exact ⟨b',c',by rw [List.getElem?_append_left (by rw [h.1]; exact hlt)]; exact q1,q2,q3⟩
 ·
  rw [List.getElem?_append_right hge] at hi
  obtain ⟨e,rfl⟩:i - ls.length=0/\gs=fs:=by
   rcases hd:i - ls.length with _ | k
   ·
    rw [hd] at hi; simp at hi; exact ⟨rfl,hi.symm⟩
   ·
    rw [hd] at hi; simp at hi
  exact ⟨b,c,by rw [List.getElem?_append_right (by rw [h.1]; exact hge),h.1,e]; rfl,hc,h3⟩
theorem LsAt.of_frs {w:World} {g:Nat} {hs:List (Array Value)} {ls:List (List Frm)} (hv:VsAt w g 1 hs) (h:FrsAt w hs ls):LsAt w (some ⟨g,0,none⟩) ls:=fun i fs hi=>by
 obtain ⟨b,c,q1,q2,q3⟩:=h.2 i fs hi
 obtain ⟨a2,c2,e2,h2⟩:=q3.slice
 simp only [List.length_map] at e2
 refine ⟨g,b,c,rfl,?_,q2,?_⟩
 ·
  have:=hv i _ q1 0 _ rfl
  simpa using this
 ·
  cases e2
  rcases h2 with ⟨_,e⟩ | ⟨g2,e,_,_,_,hvs⟩
  ·
   cases e
  ·
   cases e; exact hvs
def JSlotPost (w:World) (q:Rcd × Bool × Int × Option Err) (e:Ending) (w':World):Prop :=
 ∃ a c,e=.returned (.tuple #[.agg (q.1.V a c),.bool q.2.1,.int .i64 q.2.2.1,oErr q.2.2.2])/\Ext w w'/\BlksAt w' a q.1.blocks/\∀ p,a=some p->w.heap.size<=p.block
theorem newestF_take {m:Int} {fs:List Frm} {j:Nat} {f:Frm} (h:fs[j]?=some f):newestF m (fs.take (j+1))=max (newestF m (fs.take j)) f.gen:=by
 unfold newestF
 rw [List.take_add_one,h,Option.toList_some,List.foldl_append]; rfl
theorem Rck.jall_take (R:Rck) (c:Cfg) (slot:Int) {i:Nat} (h:i < c.k.toNat):(R.jall c slot).take (i+1)=(R.jall c slot).take i++[R.jgoods c slot i]:=by
 rw [List.take_add_one,Rck.jall_at h]; rfl
theorem built_loss (slot:Int):Tryz.prog.built 79 [(0,.int .i64 slot),(2,.int .i64 1)]=some #[.int .i64 slot,.int .i64 0,.int .i64 1]:=by kernel_rfl
set_option maxRecDepth 100000 in
set_option maxHeartbeats 4000000 in
theorem jslot_c {S:Nat->Prop} {w:World} {r:Nat} {R:Rck} (h:RackAt S w r R) (c:Cfg) (slot:Int) :
  Calls Tryz.prog 81 #[.pointer (some ⟨r,0,none⟩),.agg (Cfg.A c),.int .i64 slot] w (JSlotPost w (R.jslot c slot)):=by
 have hz:=zero_rec
 have hzf:=Za0
 have HZF:=hid (Frm.A_size _ Zbc)
 have hb0:=built_rec0
 have HBL:=hid (built_loss slot)
 obtain ⟨W0,hW0⟩:∃ W,w.alloc (.cells (Cfg.A c) 26)=W:=⟨_,rfl⟩
 have x0:Ext w W0:=hW0▸(Ext.refl w).alloc _
 have hc0:W0.heap[w.heap.size]?=some (.cells (Cfg.A c) 26 (0,0)):=hW0▸heap_alloc_new _ _
 have hsz0:W0.heap.size=w.heap.size+1:=by rw [<- hW0]; simp
 obtain ⟨W1,hW1⟩:∃ W,W0.alloc (.cells (Rcd.none_.V none 0) 101)=W:=⟨_,rfl⟩
 have x1:Ext W0 W1:=hW1▸(Ext.refl W0).alloc _
 have hr1:W1.heap[w.heap.size+1]?=some (.cells (Rcd.none_.V none 0) 101 (0,0)):=by rw [<- hsz0]; exact hW1▸heap_alloc_new _ _
 have HX1:=hid (Ext.trans x0 x1)
 have HC1:=hid (Ext.at x1 hc0)
 have HD1:=hid hr1
 have H1:=hid (h.ext HX1.out)
 have HKN:=hid (fun hk:R.jknown c slot=true=>(show c.Good/\0<=slot/\slot < c.slots from by
  unfold Rck.jknown at hk
  simp only [Bool.and_eq_true,decide_eq_true_eq] at hk
  have hf:=hk.1.1
  unfold Rck.fits at hf
  simp only [Bool.and_eq_true,decide_eq_true_eq] at hf
  exact ⟨(Cfg.right_iff c).1 hf.1.1,hk.1.2,hk.2⟩))
 clear x0 x1 hc0 hr1 h
 go_enter Tryz.func81,Tryz.ntmps81
 go_wp2_with (guard_target=wpList _ _ _ (⟨some _,Op.load _ _,_,_,_,none⟩::_) _ _; refine Zac rfl 26 _ rfl ⟨w.heap.size,0,none⟩ rfl (Cfg.A c) (Zat c) (Zai HC1.out) ?_)
 refine (jknown_c H1.out c slot).mono ?_
 rintro e w2 ⟨rfl,x2⟩
 have HX2:=hid (Ext.trans HX1.out x2)
 have HC2:=hid (Ext.at x2 HC1.out)
 have HD2:=hid (Ext.at x2 HD1.out)
 have H2:=hid (H1.out.ext x2)
 clear x2
 rcases hk:R.jknown c slot with _ | _
 ·
  have HV:Hid (R.jslot c slot=(Rcd.none_,false,0,some (.fault sJSlot slot (.no 1)))):=hid (by unfold Rck.jslot; rw [hk]; rfl)
  have HW:=hid (Zap sJSlot slot (.no 1) w2)
  simp only [Err.val] at HW
  clear hk HKN
  go_wp2_with (guard_target=wpList _ _ _ (⟨some _,Op.build _ _,_,_,_,none⟩::_) _ _; refine Zao rfl 101 _ rfl (Rcd.none_.V none 0) ?_ ?_; exact hb0)
  refine HW.out.mono ?_
  rintro e w3 ⟨rfl,rfl⟩
  go_wp2_with (guard_target=wpList _ _ _ (⟨none,Op.store _ _ _,_,_,_,none⟩::_) _ _; refine Zaa rfl 101 _ _ rfl (w.heap.size+1) rfl (Rcd.none_.V none 0) _ rfl 101 (Za6 _ _ _) HD2.out rfl (V_one _ _ _) ?_)
  refine bodyPost_ret (Zby Tryz.results81 rfl (Za6 _ _ _) (setRow_heap _ _ _ _ _ _ HD2.out)) rfl ?_
  exact ⟨none,0,by rw [HV.out]; rfl,Ext.then HX2.out (Zag _ _ _) (fun i hi=>by omega),by rw [HV.out]; intro i b hb; simp [Rcd.none_] at hb,by intro p hp; cases hp⟩
 ·
  obtain ⟨g1,g2,g3⟩:=HKN.out hk
  obtain ⟨k,hkk⟩:∃ k:Nat,c.k=k:=⟨c.k.toNat,by have:=g1.k0; omega⟩
  have hkt:c.k.toNat=k:=by omega
  have hk8:k<=8:=by have:=g1.k1; have:=g1.n1; omega
  have hk1:1<=k:=by have:=g1.k0; omega
  have hn8:c.n.toNat<=8:=by have:=g1.n1; omega
  have HK:=hid hk
  have HG:=hid (fun (i:Nat) (hi:i < 8) (wr:World) (hx:Ext w2 wr)=>jgoods_c (H2.out.ext hx) c g1 slot g2 g3 i hi)
  have HOK:=hid (fun (i:Nat)=>(H2.out.jgoods_ok (c:=c) (slot:=slot) (i:=i)))
  have HLEN:=hid (fun (i:Nat)=>(show (R.jgoods c slot i).length<=8 from by
   have:=R.jgoodsTo_len c slot i c.n.toNat
   have e:R.jgoodsTo c slot i c.n.toNat=R.jgoods c slot i:=rfl
   rw [e] at this; omega))
  have HKT:=hid hkt
  have HSZ:=hid (show w.heap.size+1 < w2.heap.size from lt_of_block HD2.out)
  have c1:w2.cell? ⟨w.heap.size,1,none⟩=some (.int .i64 k):=(Zaf HC2.out).trans (by rw [<- hkk]; exact Cfg.A1 c)
  clear hk HKN g1 g2 g3 hkk hkt hn8
  go_wp2
  clear c1
  go_loopw [29,10,11] (fun t m v wr=>∃ (i:Nat) (hs:List (Array Value)),t=.int .i64 i/\i<=k/\m=.int .i64 (newest ((R.jall c slot).take i))/\OwnVs wr w2.heap.size 107 1 v hs/\FrsAt wr hs ((R.jall c slot).take i)/\(∀ j,j < i->R.jgoods c slot j≠[])/\Ext w2 wr) (fun t _ _ _=>k - (intOf t).toNat)
  case atStart=>exact ⟨0,[],rfl,by omega,rfl,OwnVs.nil _ _ _ _,FrsAt.nil _,fun j hj=>absurd hj (Nat.not_lt_zero _),Ext.refl _⟩
  case round =>
   obtain ⟨i,hs,rfl,hi,rfl,hown,hfr,hne,hx⟩:=hrel
   by_cases hlt:i < k
   ·
    have HGI:=hid (HG.out i (by omega) wr hx)
    have HCR:=hid (hx.at HC2.out)
    have HDR:=hid (hx.at HD2.out)
    have HX:=hid hx
    have HOWN:=hid hown
    have HFR:=hid hfr
    have HNE:=hid hne
    have hti:=R.jall_take c slot (i:=i) (by rw [HKT.out]; exact hlt)
    have HTI:=hid hti
    have hlenf:=HLEN.out i
    have HOKF:=hid (HOK.out i)
    clear hx hown hfr hne hti
    go_wp2_with (guard_target=wpList _ _ _ (⟨some _,Op.load _ _,_,_,_,none⟩::_) _ _; refine Zac rfl 26 _ rfl ⟨w.heap.size,0,none⟩ rfl (Cfg.A c) (Zat c) (Zai HCR.out) ?_)
    refine HGI.out.mono ?_
    rintro e w3 ⟨vf,rfl,hof,x3⟩
    obtain ⟨m0,hm0⟩:∃ m,newest ((R.jall c slot).take i)=m:=⟨_,rfl⟩
    have HM0:=hid hm0
    rw [hm0]
    have HNEW:=hid (fun fs (e:R.jgoods c slot i=fs)=>(show newest ((R.jall c slot).take (i+1))=newestF m0 fs from by
     rw [HTI.out,e,<- HM0.out]; unfold newest; rw [List.foldl_append]; rfl))
    have HGE:=hid (show ∀ fs,R.jgoods c slot i=fs->(R.jall c slot).take (i+1)=(R.jall c slot).take i++[fs] from fun fs e=>by rw [HTI.out,e])
    have HLOST:=hid (fun (e:R.jgoods c slot i=[])=>Rck.jslot_lost HK.out (by rw [HKT.out]; exact hlt) e)
    clear hm0 HM0 HTI
    generalize hfs:R.jgoods c slot i=fs at hof hlenf HOKF
    have HNEW2:=hid (HNEW.out fs hfs)
    have HGE2:=hid (HGE.out fs hfs)
    have HFS:=hid hfs
    obtain ⟨fa,fc,rfl,hsl⟩:=hof.slice
    simp only [List.length_map] at hsl ⊢
    have hof2:=hof.down (Nat.zero_le _)
    rw [List.length_map] at hof2
    have HOF:=hid hof2
    have HX3:=hid (Ext.trans HX.out x3)
    have HXR:=hid x3
    clear HNEW HGE hfs hof hof2 x3
    rcases fs with _ | ⟨f0,fs0⟩
    ·
     have HV:Hid (R.jslot c slot=(Rcd.none_,false,0,some (.fault sJSlot slot (.loss slot 0 1)))):=hid (HLOST.out HFS.out)
     have HD3:=hid (HXR.out.at HDR.out)
     have HW:=hid (Zap sJSlot slot (.loss slot 0 1) w3)
     simp only [Err.val] at HW
     clear HLOST hsl
     go_wp2_with (first
      | (guard_target=wpList _ _ _ (⟨some _,Op.build _ _,_,_,_,none⟩::_) _ _; refine Zao rfl 101 _ rfl (Rcd.none_.V none 0) ?_ ?_; exact hb0)
      | (guard_target=wpList _ _ _ (⟨some _,Op.build _ _,_,_,_,none⟩::_) _ _; refine Zao rfl 79 _ rfl #[.int .i64 slot,.int .i64 0,.int .i64 1] ?_ ?_; (simp only [List.map_toArray,List.map_cons,List.map_nil,Act.eval]; simp only [Array.getD_eq_getD_getElem?,List.getElem?_toArray,List.getElem?_cons_succ,List.getElem?_cons_zero,Option.getD_some]; exact HBL.out)))
     refine HW.out.mono ?_
     rintro e w4 ⟨rfl,rfl⟩
     go_wp2_with (guard_target=wpList _ _ _ (⟨none,Op.store _ _ _,_,_,_,none⟩::_) _ _; refine Zaa rfl 101 _ _ rfl (w.heap.size+1) rfl (Rcd.none_.V none 0) _ rfl 101 (Za6 _ _ _) HD3.out rfl (V_one _ _ _) ?_)
     refine bodyPost_ret (Zby Tryz.results81 rfl (Za6 _ _ _) (setRow_heap _ _ _ _ _ _ HD3.out)) rfl ?_
     exact ⟨none,0,by rw [HV.out]; rfl,Ext.then (Ext.trans HX2.out HX3.out) (Zag _ _ _) (fun i hi=>by omega),by rw [HV.out]; intro i b hb; simp [Rcd.none_] at hb,by intro p hp; cases hp⟩
    ·
     obtain ⟨b,rfl,hcc,hat⟩:∃ b,fa=some ⟨b,0,none⟩/\(f0::fs0).length<=fc/\VsAt w3 b 112 ((f0::fs0).map Frm.A):=by
      rcases hsl with ⟨q,_⟩ | ⟨b,q,_,_,q2,q3⟩
      ·
       simp at q
      ·
       exact ⟨b,q,by simpa using q2,q3⟩
     have HGNE:=hid (show R.jgoods c slot i≠[] from by rw [HFS.out]; simp)
     clear HLOST HFS hsl
     obtain ⟨fs,hfs⟩:∃ fs,f0::fs0=fs:=⟨_,rfl⟩
     have hpos:0 < fs.length:=by rw [<- hfs]; simp
     rw [hfs] at hat HOF HNEW2 HGE2 HOKF hlenf hcc ⊢
     clear hfs
     have h0:((fs.length:Int) == 0)=false:=by rw [beq_eq_false_iff_ne]; omega
     have hfl8:(fs.length:Int)<=8:=by omega
     have HAT:=hid hat
     clear hat
     go_wp2
     go_loopw [48,10] (fun t m wq=>∃ (j:Nat),t=.int .i64 j/\j<=fs.length/\m=.int .i64 (newestF m0 (fs.take j))/\Ext w3 wq) (fun t _ _=>fs.length - (intOf t).toNat)
     case atStart=>exact ⟨0,rfl,by omega,rfl,Ext.refl _⟩
     case round =>
      obtain ⟨j,rfl,hj,rfl,hxq⟩:=hrel
      by_cases hjt:j < fs.length
      ·
       have j0:(0:Int)<=(j:Int):=by omega
       have j1:(j:Int) < (fs.length:Int):=by omega
       obtain ⟨f,hfj⟩:∃ f,fs[j]?=some f:=⟨fs[j],List.getElem?_eq_getElem hjt⟩
       have hfo:=HOKF.out f (List.mem_of_getElem? hfj)
       have HFSZ:=hid (Frm.A_size f hfo)
       have HNT:=hid (newestF_take (m:=m0) hfj)
       have HFA:Hid (∀ q v,(Frm.A f).toList[q]?=some v->wr.cell? ((⟨b,j*112,none⟩:Addr).add q)=some v):=hid (fun q v hv=>by
        have:=HAT.out j (Frm.A f) (by rw [List.getElem?_map,hfj]; rfl) q v hv
        have e:(⟨b,j*112,none⟩:Addr).add q=⟨b,j*112+q,none⟩:=by unfold Addr.add; split<;>simp_all
        rw [e]; exact Ext.cell hxq this)
       have hbf:(wr.alloc (.cells (Frm.A Frm.zero) 113)).heap[wr.heap.size]?=some (.cells (Frm.A Frm.zero) 113 (0,0)):=Zad
       have c3:(wr.alloc (.cells (Frm.A f) 113)).cell? ⟨wr.heap.size,3,none⟩=some (.int .i64 f.gen):=(Zaf Zad).trans (Frm.A3 f)
       have HXQ:=hid hxq
       generalize newestF m0 (fs.take j)=mj at *
       clear hxq hfo hfj
       go_wp2_with (first
        | (guard_target=wpList _ _ _ (⟨some _,Op.load _ _,_,_,_,none⟩::_) _ _; refine Zac rfl 113 _ rfl ⟨b,j*112,none⟩ rfl (Frm.A f) (by rw [HFSZ.out]; exact aggFrame) HFA.out ?_)
        | (guard_target=wpList _ _ _ (⟨none,Op.store _ _ _,_,_,_,none⟩::_) _ _; refine Zaa rfl 113 _ _ rfl wr.heap.size rfl (Frm.A f) _ rfl 113 ?_ hbf ?_ ?_ ?_; (rw [HFSZ.out]; exact aggFrame); (rw [HFSZ.out,HZF.out]); exact Frm.A_one _; rw [Zaj])
        | (guard_target=wpList _ _ _ (⟨some _,Op.call _,_,_,_,none⟩::_) _ _; refine Zbi rfl _ _ 3 rfl mj f.gen rfl rfl ?_))
       go_roundw
       case rel=>exact ⟨j+1,by go_num,by omega,by rw [HNT.out],HXQ.out.alloc _⟩
       case measure=>simp [intOf]; omega
      ·
       obtain rfl:fs.length=j:=by omega
       rw [List.take_length,<- HNEW2.out]
       have hown2:=(HOWN.out.ext HXR.out).ext hxq
       have hszr:w2.heap.size<=wr.heap.size:=Nat.le_trans HX3.out.size hxq.size
       obtain ⟨v',W4,hap,hown4,ho4,hx4⟩:=hown2.add (tsl:=164) Tryz.underlying164 infoFrs rfl (by omega) #[Value.slice (some ⟨b,0,none⟩) fs.length fc] rfl (by intro u hu; simp at hu; subst hu; rfl) (by
        have:=HFR.out.1
        rw [this,List.length_take]; omega) (by omega) hszr
       have hfr4:FrsAt W4 (hs++[#[Value.slice (some ⟨b,0,none⟩) fs.length fc]]) ((R.jall c slot).take (i+1)):=by
        rw [HGE2.out]
        refine FrsAt.only (((HFR.out.ext HXR.out).ext hxq).snoc hcc (HOF.out.ext hxq)) ho4 fun v b hv hb e=>?_
        rcases hv with hv | ⟨l,hv⟩
        ·
         exact hv.apart hown2 (by decide) hb e
        ·
         exact hv.apart hown2 (by decide) hb e
       have HO4:=hid hown4
       have HF4:=hid hfr4
       have HX4:=hid (hx4 w2 (Nat.le_refl _) (Ext.trans HX3.out hxq))
       clear hown2 hown4 ho4 hx4 hfr4 hxq
       go_wp2_with (first
        | (guard_target=wpList _ _ _ (⟨some _,Op.buildSlice _ _ _,_,_,_,none⟩::_) _ _; refine Zak rfl 164 107 _ rfl #[Value.slice (some ⟨b,0,none⟩) fs.length fc] _ _ 1 24 Tryz.underlying164 infoFrs (by omega) (by omega) rfl rfl rfl ?_)
        | (at_builtin; refine Zah rfl _ _ _ rfl _ _ _ _ rfl rfl hap ?_))
       go_roundw
       case rel=>exact ⟨i+1,_,by go_num,by omega,rfl,HO4.out,HF4.out,fun j hj=>by
        by_cases e:j=i
        ·
         rw [e]; exact HGNE.out
        ·
         exact HNE.out j (by omega),HX4.out⟩
       case measure=>simp [intOf]; omega
   ·
    obtain rfl:k=i:=by omega
    have hall:(R.jall c slot).take k=R.jall c slot:=List.take_of_length_le (by rw [Rck.jall_len,HKT.out]; exact Nat.le_refl _)
    rw [hall] at hfr ⊢
    have hlen:hs.length=k:=by rw [hfr.1,Rck.jall_len,HKT.out]
    obtain ⟨la,lc,rfl,hsl⟩:=hown.slice
    obtain ⟨g,rfl,hcap,hvs⟩:∃ g,la=some ⟨g,0,none⟩/\hs.length<=lc/\VsAt wr g 1 hs:=by
     rcases hsl with ⟨q,_⟩ | ⟨g,q,_,_,q2,q3⟩
     ·
      rw [q] at hlen; simp at hlen; omega
     ·
      exact ⟨g,q,q2,q3⟩
    have hls:=LsAt.of_frs hvs hfr
    have hll:(R.jall c slot).length=hs.length:=hfr.1.symm
    obtain ⟨m0,hm0⟩:∃ m,newest (R.jall c slot)=m:=⟨_,rfl⟩
    have HV:=hid (Rck.jslot_there HK.out (fun i hi=>hne i (by rw [HKT.out] at hi; exact hi)) hm0)
    rw [hm0]
    have HWC:=hid (jwhole_c (R.jall c slot) m0 (some ⟨g,0,none⟩) lc wr hls (by omega) (by omega) (fun fs hfs=>by
     obtain ⟨i,hi,rfl⟩:=Rck.jall_mem.1 hfs
     exact ⟨HLEN.out i,fun f hf=>HOK.out i f hf⟩))
    rw [hll,hlen] at HWC
    rw [hlen]
    have HDR:=hid (hx.at HD2.out)
    have HX:=hid (Ext.trans HX2.out hx)
    have HLT:=hid (Nat.lt_of_lt_of_le HSZ.out hx.size)
    clear hall hfr hsl hown hvs hls hll hm0 hne hx hcap hlen
    go_wp2_with fail
    refine HWC.out.mono ?_
    rintro e w4 ⟨ra,rc,rfl,x4,hbl,hbb⟩
    obtain ⟨o,ho⟩:∃ o,whole m0 (R.jall c slot)=o:=⟨_,rfl⟩
    rw [ho] at hbl HV ⊢
    have HBK:=hid hbl
    have HBB:=hid hbb
    have HD4:Hid ((w4.alloc (.cells ((o.getD Rcd.none_).V ra rc) 101)).heap[w.heap.size+1]?=some (.cells (Rcd.none_.V none 0) 101 (0,0))):=hid (Ext.at ((Ext.refl w4).alloc _) (x4.at HDR.out))
    have HX4:=hid ((Ext.trans HX.out x4).alloc (.cells ((o.getD Rcd.none_).V ra rc) 101))
    have hbs:(w4.alloc (.cells (Rcd.none_.V none 0) 101)).heap[w4.heap.size]?=some (.cells (Rcd.none_.V none 0) 101 (0,0)):=Zad
    have HX5:=hid x4
    have HBN:Hid ((w4.alloc (.cells ((o.getD Rcd.none_).V ra rc) 101)).heap[w4.heap.size]?=some (.cells ((o.getD Rcd.none_).V ra rc) 101 (0,0))):=hid Zad
    clear ho hbl hbb x4
    go_wp2_with (first
     | (guard_target=wpList _ _ _ (⟨none,Op.store _ _ _,_,_,_,none⟩::_) _ _; have hb0':=hbs; clear hbs; refine Zaa rfl 101 _ _ rfl w4.heap.size rfl ((o.getD Rcd.none_).V ra rc) _ rfl 101 (Za6 _ _ _) hb0' rfl (V_one _ _ _) ?_; rw [Zaj])
     | (guard_target=wpList _ _ _ (⟨none,Op.store _ _ _,_,_,_,none⟩::_) _ _; refine Zaa rfl 101 _ _ rfl (w.heap.size+1) rfl ((o.getD Rcd.none_).V ra rc) _ rfl 101 (Za6 _ _ _) HD4.out rfl (V_one _ _ _) ?_)
     | (guard_target=wpList _ _ _ (⟨some _,Op.load _ _,_,_,_,none⟩::_) _ _; refine Zac rfl 101 _ rfl ⟨w4.heap.size,0,none⟩ rfl ((o.getD Rcd.none_).V ra rc) (Za6 _ _ _) (Zai HBN.out) ?_))
    refine bodyPost_ret (Zby Tryz.results81 rfl (Za6 _ _ _) (setRow_heap _ _ _ _ _ _ HD4.out)) rfl ?_
    refine ⟨ra,rc,by rw [HV.out]; rfl,Ext.then HX4.out (Zag _ _ _) (fun i hi=>by omega),?_,fun p hp=>by
     have:=HBB.out p hp
     have:=HX.out.size
     have:=HLT.out
     omega⟩
    rw [HV.out]
    intro i bb hb
    obtain ⟨g',hg',hcell⟩:=HBK.out i bb hb
    refine ⟨g',hg',fun j hj=>?_⟩
    have h1:(w4.alloc (.cells ((o.getD Rcd.none_).V ra rc) 101)).cell? ⟨g',i*108+j,none⟩=some (.int .u8 (nth bb j)):=Ext.cell ((Ext.refl w4).alloc _) (hcell j hj)
    refine (Zag _ _ _).cell h1 (fun e=>?_)
    have q1:wr.heap.size<=g':=HBB.out _ hg'
    have q2:=HLT.out
    have q3:g'=w.heap.size+1:=e
    omega
end Go.Proofs.YtgjnnbomnoafcaaGreat
