/- Texts of one proof, joined: RfJourA, RfJourB, RfJourD, RfJourE, RfJourF, RfJourPure, RfJourJ. -/
import Derived.Test.YtgjnnbomnoafcaaGreatDoorUM
import Derived.Test.YtgjnnbomnoafcaaGreatDoorUP
import Derived.Test.YtgjnnbomnoafcaaGreatDoorUF
import Derived.Test.YtgjnnbomnoafcaaGreatDoorUQ
import Derived.Test.YtgjnnbomnoafcaaGreatDoorUL
import Derived.Test.YtgjnnbomnoafcaaGreatDoorUR
import Derived.Test.YtgjnnbomnoafcaaGreatDoorUC
set_option linter.unusedVariables false
set_option linter.unusedSimpArgs false
namespace Go.Proofs.YtgjnnbomnoafcaaGreatDoor
set_option linter.unusedVariables false
open Go Go.RowKit
set_option maxHeartbeats 2000000 in
theorem fall_c {S:Nat->Prop} {w:World} {r:Nat} {R:Rck} (h:FRackAt S w r R) (hsm:R.l.length<=8) :
  Calls Tryz.prog 149 #[.pointer (some ⟨r,0,none⟩)] w (ROnlinePost w R):=by
 obtain ⟨gl,cl,c0⟩:=fat_n h
 have H:=hid h
 obtain ⟨n,hn⟩:∃ n,R.l.length=n:=⟨_,rfl⟩
 have HW:Hid (R.onTo n=R.online):=hid (by unfold Rck.onTo Rck.online; rw [hn])
 rw [hn] at c0 hsm
 clear h hn
 go_enter Tryz.func149,Tryz.ntmps149
 go_wp2
 clear c0
 go_loopw [3,10] (fun v i wr=>∃ j:Nat,i=.int .i64 j/\j<=n/\OwnInts wr w.heap.size v (R.onTo j)/\Ext w wr) (fun _ i _=>n - (intOf i).toNat)
 case atStart=>exact ⟨0,rfl,by omega,OwnInts.nil _ _,Ext.refl _⟩
 case round =>
  obtain ⟨j,rfl,hj,hown,hx⟩:=hrel
  by_cases hlt:j < n
  ·
   have hup:=R.onTo_succ j
   have hlen:=R.onTo_len j
   have HU:=hid (fat_up (H.out.ext hx) (j:Int))
   rcases hu:R.up (j:Int) with _ | _
   ·
    rw [hu] at hup
    simp only [Bool.false_eq_true,if_false,List.append_nil] at hup
    rw [<- hup] at hown
    have HO:=hid hown; have HX:=hid hx; have HV:=hid hu
    clear hu hup hown hx
    go_wp2_with (go_at_call 30; refine HU.out.mono ?_; rintro e w' ⟨rfl,rfl⟩; rw [HV.out])
    go_roundw
    case rel=>exact ⟨j+1,by go_num,by omega,HO.out,HX.out⟩
    case measure=>simp [intOf]; omega
   ·
    rw [hu] at hup
    simp only [if_true] at hup
    obtain ⟨v',W2,hap,hown2,_,hx2⟩:=hown.push j (by omega) hx.size
    rw [<- hup] at hown2
    have HO:=hid hown2; have HX:=hid (hx2 w (Nat.le_refl _) hx); have HV:=hid hu
    clear hu hup hown hx hown2 hx2
    go_wp2_with (first
     | (go_at_call 30; refine HU.out.mono ?_; rintro e w' ⟨rfl,rfl⟩; rw [HV.out])
     | (at_builtin; refine Zam rfl _ _ _ rfl _ _ _ _ rfl rfl hap ?_))
    go_roundw
    case rel=>exact ⟨j+1,by go_num,by omega,HO.out,HX.out⟩
    case measure=>simp [intOf]; omega
  ·
   obtain rfl:n=j:=by omega
   rw [HW.out] at hown
   have HO:=hid hown; have HX:=hid hx
   clear hown hx
   go_wp2
   go_ret
   exact ⟨_,rfl,HO.out,HX.out⟩
theorem Rck.flush_kind {R:Rck} {i:Int} {er:Err} (h:(R.flush i).1=some er):er.kind≠0:=by
 unfold Rck.flush at h
 split at h
 ·
  cases h
 ·
  rename_i hm
  simp only [Option.some.injEq] at h
  subst h
  exact hm
structure FJPut (S:Nat->Prop) (w W:World) (r:Nat) (R:Rck) (wr:World):Prop where
 rack:FRackAt (PutT S w.heap.size W.heap.size) wr r R
 keeps:Only (fun b=>¬PutT S w.heap.size W.heap.size b) W wr
theorem FJPut.out {S:Nat->Prop} {w W:World} {r:Nat} {R:Rck} {wr:World} (h:FJPut S w W r R wr) (e:Ext w W):FRackAt S wr r R/\Keeps S w wr :=
 ⟨h.rack.less fun b hb=>.inl hb,Only.trans (Ext.only e) h.keeps fun b _ hb q=>hb (.inl q)⟩
theorem FJPut.step {S:Nat->Prop} {w W:World} {r:Nat} {R R2:Rck} {wr w4:World} (h:FJPut S w W r R wr) (h4:FRackAt (PutT S w.heap.size W.heap.size) w4 r R2) (k:Keeps (PutT S w.heap.size W.heap.size) wr w4):FJPut S w W r R2 w4 :=
 ⟨h4,Only.trans h.keeps k fun _ _ q=>q⟩
def Rck.flushAll (R:Rck):Option Err × Rck:=each (fun R d=>R.flush (d:Nat)) R.online R
set_option maxRecDepth 100000 in
set_option maxHeartbeats 2000000 in
theorem fflush_all {S:Nat->Prop} {w:World} {r:Nat} {R:Rck} (h:FRackAt S w r R) (hsm:R.l.length<=8) :
  Calls Tryz.prog 151 #[.pointer (some ⟨r,0,none⟩)] w fun e w'=>e=.returned (.int .i64 (okind R.flushAll.1))/\FRackAt S w' r R.flushAll.2/\Keeps S w w':=by
 have H:=hid h
 have HALL:=hid (fall_c h hsm)
 have HR:Hid (R.flushAll=each (fun R d=>R.flush (d:Nat)) R.online R):=hid rfl
 have hlen:=R.online_len
 clear h
 go_enter Tryz.func151,Tryz.ntmps151
 go_wp2_with fail
 refine HALL.out.mono ?_
 rintro e W3 ⟨v,rfl,hown,x3⟩
 obtain ⟨oa2,oc2,rfl,hcell⟩:=hown.slice
 obtain ⟨L2,hL2⟩:∃ L,R.online=L:=⟨_,rfl⟩
 have hLn2:L2.length<=8:=by rw [<- hL2]; omega
 rw [hL2] at hcell HR ⊢
 have HX3:=hid x3
 have HON:Hid (∀ wx,Only (fun b=>¬PutT S w.heap.size W3.heap.size b) W3 wx->∀ j d:Nat,L2[j]?=some d->∃ g,oa2=some ⟨g,0,none⟩/\wx.cell? ⟨g,j,none⟩=some (.int .i64 d)):=hid fun wx e j d hd=>by
  rcases hcell with ⟨q,_⟩ | ⟨g,q1,q2,q3,q4,q5⟩
  ·
   subst q; simp at hd
  ·
   have hjl:j < L2.length:=by
    rcases Nat.lt_or_ge j L2.length with q | q
    ·
     exact q
    ·
     rw [List.getElem?_eq_none q] at hd; cases hd
   refine ⟨g,q1,e.cell ?_ (fun q=>q (.inr ⟨q2,q3⟩))⟩
   rw [q5 j hjl]
   have:L2.getD j 0=d:=by rw [List.getD_eq_getElem?_getD,hd]; rfl
   rw [this]; rfl
 have HST:Hid (FJPut S w W3 r R W3):=hid ⟨H.out.more x3 fun b hb=>by
  have:=x3.size
  rcases hb with hb | hb
  ·
   exact ⟨by have:=H.out.there b hb; omega,.inl hb⟩
  ·
   exact ⟨hb.2,.inr hb.1⟩,Only.refl _ _⟩
 clear hcell hown x3 hL2 hlen HALL
 go_wp2
 go_loopw [9] (fun v wx=>∃ (m:Nat) (Rm:Rck),v=.int .i64 m/\m<=L2.length/\each (fun R d=>R.flush (d:Nat)) (L2.take m) R=(none,Rm)/\FJPut S w W3 r Rm wx) (fun v _=>L2.length - (intOf v).toNat)
 case atStart=>exact ⟨0,R,rfl,by omega,rfl,HST.out⟩
 case round =>
  clear HST
  obtain ⟨m,Rm,rfl,hm,hem,hst⟩:=hrel
  have HEM:=hid hem; have HS:=hid hst
  clear hem hst
  by_cases hlt2:m < L2.length
  ·
   have j0:(0:Int)<=(m:Int):=by omega
   have j1:(m:Int) < (L2.length:Int):=by omega
   obtain ⟨d,hd⟩:∃ d,L2[m]?=some d:=⟨L2[m],List.getElem?_eq_getElem hlt2⟩
   obtain ⟨g,rfl,cd⟩:=HON.out wr HS.out.keeps m d hd
   have HD:=hid hd
   clear hd
   go_wp2_with fail
   refine (fat_flush HS.out.rack d).mono ?_
   rintro e W4 ⟨rfl,h4,k4⟩
   have HFK:=hid (fun er=>Rck.flush_kind (R:=Rm) (i:=d) (er:=er))
   rcases hw:Rm.flush d with ⟨o,Rn⟩
   rw [hw] at h4 HFK
   simp only at h4 HFK ⊢
   have HST4:=hid (FJPut.step HS.out h4 k4)
   have HW:=hid hw
   clear h4 k4 hw cd
   rcases o with _ | er
   ·
    have HE1:=hid (each_next (f:=fun R d=>R.flush (d:Nat)) HD.out HEM.out HW.out)
    simp only [okind]
    go_wp2
    exact ⟨⟨m+1,Rn,by go_num,by omega,HE1.out,HST4.out⟩,by simp [intOf]; omega⟩
   ·
    have HE3:Hid (R.flushAll=(some er,Rn)):=hid (by rw [HR.out]; exact each_mid HD.out HEM.out HW.out)
    have hk:=HFK.out er rfl
    simp only [okind]
    obtain ⟨k,hkk⟩:∃ k,er.kind=k:=⟨_,rfl⟩
    rw [hkk] at hk ⊢
    have HKK:=hid hkk
    have hk0:(k != 0)=true:=by simp [hk]
    clear hk hkk HFK
    go_wp2
    go_ret
    rw [HE3.out]
    exact ⟨by rw [<- HKK.out]; rfl,HST4.out.out HX3.out⟩
  ·
   obtain rfl:m=L2.length:=by omega
   have HE3:Hid (R.flushAll=(none,Rm)):=hid (by rw [HR.out,<- HEM.out,List.take_length])
   go_wp2
   go_ret
   rw [HE3.out]
   exact ⟨rfl,HS.out.out HX3.out⟩
set_option maxRecDepth 100000 in
theorem fjat_c (c:Cfg) (h:c.Good) (slot:Int) (h0:0<=slot) (h1:slot < c.slots) (i:Nat) (hi:i < 8) (w:World) :
  Calls Tryz.prog 188 #[.agg (Cfg.A c),.int .i64 slot,.int .i64 i] w fun e w'=>e=.returned (.int .i64 (Rck.jsec c slot i))/\Ext w w':=by
 have a1:=Cfg.A1 c
 obtain ⟨b0,b1⟩:=jsec_bd c h slot h0 h1
 have HR:Hid (Rck.jsec c slot i=1+slot*c.k+i):=hid rfl
 rw [HR.out]
 clear HR h h1
 obtain ⟨id,k,n,st,sl⟩:=c
 simp only at a1 b0 b1 ⊢
 generalize Cfg.A _=A at *
 obtain ⟨p,hp⟩:∃ p,slot*k=p:=⟨_,rfl⟩
 rw [hp] at b0 b1 ⊢
 have hw:wrap64 (slot*k)=p:=by rw [hp]; unfold wrap64; omega
 have w2:wrap64 (1+p)=1+p:=by unfold wrap64; omega
 have w3:wrap64 (1+p+(i:Int))=1+p+i:=by unfold wrap64; omega
 clear hp b0 b1
 go_enter Tryz.func188,Tryz.ntmps188
 go_wp2
 go_ret
 exact ⟨ret_int (by simp only [hw,w2,w3]),(Ext.refl w).alloc _⟩
set_option maxRecDepth 100000 in
set_option maxHeartbeats 2000000 in
theorem fjframe_c (x:Rcd) (hx:x.Ok) (hl:x.blocks.length<=8) (a:Option Addr) (c:Nat) (w:World) (hb:BlksAt w a x.blocks) (i:Nat) (hi:i < 8) :
  Calls Tryz.prog 189 #[.int .i64 i,.agg (x.V a c)] w (JFramePost w x i):=by
 have hz:=Zav
 have HZ:=hid (Frm.A_size _ Za5)
 have HB:Hid (Tryz.prog.built 42 [(0,.int .i64 2),(1,.int .i64 i),(2,.int .i64 x.stripe),(3,.int .i64 x.seq)]=some (Frm.A ⟨2,i,x.stripe,x.seq,List.replicate 108 0⟩)):=hid (Zb2 2 i x.stripe x.seq)
 have hok0:(⟨2,i,x.stripe,x.seq,List.replicate 108 0⟩:Frm).Ok:=⟨by simp,by intro y hy; rw [(List.mem_replicate.1 hy).2]; omega⟩
 have HS0:=hid (Frm.A_size _ hok0)
 have HOK:=hid (Rcd.frm_ok x hx i)
 have HS1:=hid (Frm.A_size _ HOK.out)
 obtain ⟨F0,hF0⟩:∃ F,(⟨2,i,x.stripe,x.seq,List.replicate 108 0⟩:Frm)=F:=⟨_,rfl⟩
 -- the worlds
 obtain ⟨W0,hW0⟩:∃ W,w.alloc (.cells (x.V a c) 101)=W:=⟨_,rfl⟩
 have HX0:=hid (show Ext w W0 from hW0▸(Ext.refl w).alloc _)
 have HR0:=hid (show W0.heap[w.heap.size]?=some (.cells (x.V a c) 101 (0,0)) from hW0▸heap_alloc_new _ _)
 have hsz0:W0.heap.size=w.heap.size+1:=by rw [<- hW0]; simp
 obtain ⟨W1,hW1⟩:∃ W,W0.alloc (.cells (Frm.A Frm.zero) 42)=W:=⟨_,rfl⟩
 have HX1:=hid (show Ext W0 W1 from hW1▸(Ext.refl W0).alloc _)
 have HRES:=hid (show W1.heap[W0.heap.size]?=some (.cells (Frm.A Frm.zero) 42 (0,0)) from hW1▸heap_alloc_new _ _)
 have hsz1:W1.heap.size=w.heap.size+1+1:=by rw [<- hW1]; simp [hsz0]
 have hbs:(W1.alloc (.cells (Frm.A Frm.zero) 42)).heap[w.heap.size+1+1]?=some (.cells (Frm.A Frm.zero) 42 (0,0)):=by rw [<- hsz1]; exact heap_alloc_new _ _
 obtain ⟨W2,hW2⟩:∃ W,(W1.alloc (.cells (Frm.A Frm.zero) 42)).setRow (w.heap.size+1+1) (Frm.A F0)=W:=⟨_,rfl⟩
 have HW2:=hid hW2
 have X12:Ext W1 W2:=by rw [<- hW2]; exact Ext.then ((Ext.refl W1).alloc _) (Zad _ _ _) (fun i hi=>by omega)
 have HF2:Hid (W2.heap[w.heap.size+1+1]?=some (.cells (Frm.A F0) 42 (0,0))):=hid (by rw [<- hW2]; exact setRow_heap _ _ _ _ _ _ hbs)
 have hres2:W2.heap[w.heap.size+1]?=some (.cells (Frm.A Frm.zero) 42 (0,0)):=by rw [<- hsz0]; exact Ext.at X12 HRES.out
 have hrec2:W2.heap[w.heap.size]?=some (.cells (x.V a c) 101 (0,0)):=Ext.at X12 (Ext.at HX1.out HR0.out)
 have HX2:=hid (Ext.trans HX0.out (Ext.trans HX1.out X12))
 have c0:W1.cell? ⟨w.heap.size,0,none⟩=some (.int .i64 x.seq):=(Zae (Ext.at HX1.out HR0.out)).trans rfl
 have c1:W1.cell? ⟨w.heap.size,1,none⟩=some (.int .i64 x.stripe):=(Zae (Ext.at HX1.out HR0.out)).trans rfl
 have c2:W2.cell? ⟨w.heap.size,2,none⟩=some (.slice a x.blocks.length c):=(Zae hrec2).trans rfl
 have i0:(0:Int)<=(i:Int):=by omega
 have hF:x.frm i={ F0 with data:=x.blocks.getD i (List.replicate 108 0) }:=by rw [<- hF0]; rfl
 have hlen8:(x.blocks.length:Int)<=8:=by omega
 rw [hF0] at HB HS0 hok0
 have HRES2:=hid hres2
 clear hres2 hrec2 X12 hW2
 go_enter Tryz.func189,Tryz.ntmps189
 by_cases hlt:i < x.blocks.length
 ·
  have i1:(i:Int) < (x.blocks.length:Int):=by omega
  obtain ⟨g,rfl,hbc⟩:=hb i x.blocks[i] (List.getElem?_eq_getElem hlt)
  have hbl:x.blocks[i].length=108:=hx.len _ (List.getElem_mem hlt)
  have hgd:x.blocks.getD i (List.replicate 108 0)=x.blocks[i]:=by simp [List.getD_eq_getElem?_getD,hlt]
  rw [hgd] at hF
  generalize x.blocks[i]=b at *
  have HBC:Hid (∀ j v,(bA b).toList[j]?=some v->W2.cell? ((⟨g,i*108,none⟩:Addr).add j)=some v):=hid fun j v hv=>by
   have hj:j < 108:=by
    rcases Nat.lt_or_ge j 108 with q | q
    ·
     exact q
    ·
     rw [List.getElem?_eq_none (by rw [Array.length_toList,Za6]; omega)] at hv; cases hv
   have e:(⟨g,i*108,none⟩:Addr).add j=⟨g,i*108+j,none⟩:=by unfold Addr.add; split<;>simp_all
   rw [e,Ext.cell HX2.out (hbc j hj)]
   have:=Zbo b j (by omega)
   rw [<- Array.getElem?_toList] at this
   rw [<- hv,<- this]
  have HSB:Hid ((bA b).size=108):=hid (by rw [Za6,hbl])
  have HDT:=hid (Frm.A_data F0 hok0 b hbl)
  have hrow:(W2.setRow (w.heap.size+1+1) (Frm.A { F0 with data:=b })).heap[w.heap.size+1+1]?=some (.cells (Frm.A { F0 with data:=b }) 42 (0,0)):=setRow_heap _ _ _ _ _ _ HF2.out
  have hres3:(W2.setRow (w.heap.size+1+1) (Frm.A { F0 with data:=b })).heap[w.heap.size+1]?=some (.cells (Frm.A Frm.zero) 42 (0,0)):=(Zad _ _ _).at HRES2.out (by omega)
  rw [<- hF] at hrow hres3 HDT
  have HROW:=hid hrow; have HRES3:=hid hres3
  clear hrow hres3 hb hbc hbl hgd hF hok0 hF0
  go_wp2_with (first
   | (refine Zal rfl 42 _ rfl (Frm.A F0) ?_ ?_; (simp only [List.map_toArray,List.map_cons,List.map_nil,Act.eval]; simp only [Array.getD_eq_getD_getElem?,List.getElem?_toArray,List.getElem?_cons_succ,List.getElem?_cons_zero,Option.getD_some]; exact HB.out))
   | (refine Zaa rfl 42 _ _ rfl (w.heap.size+1+1) rfl (Frm.A F0) _ rfl 42 ?_ hbs ?_ ?_ ?_; (rw [HS0.out]; exact aggFrame); (rw [HS0.out,HZ.out]); exact Frm.A_one _; rw [HW2.out])
   | (refine Zab rfl 120 _ rfl ⟨g,i*108,none⟩ rfl (bA b) ?_ HBC.out ?_; (rw [HSB.out]; exact aggBlock))
   | (refine Zbn rfl 40 _ _ rfl (w.heap.size+1+1) 4 rfl (bA b) (Frm.A F0) rfl 42 ?_ HF2.out ?_ ?_ ?_; (rw [HSB.out]; exact agg108); (rw [HSB.out,HS0.out]; omega); exact bA_one _; rw [HDT.out])
   | (refine Zab rfl 42 _ rfl ⟨w.heap.size+1+1,0,none⟩ rfl (Frm.A (x.frm i)) ?_ (Zai HROW.out) ?_; (rw [HS1.out]; exact aggFrame))
   | (refine Zaa rfl 42 _ _ rfl (w.heap.size+1) rfl (Frm.A (x.frm i)) _ rfl 42 ?_ HRES3.out ?_ ?_ ?_; (rw [HS1.out]; exact aggFrame); (rw [HS1.out,HZ.out]); exact Frm.A_one _))
  --M1
  refine bodyPost_ret (results_cell_row Tryz.results189 _ _ (w.heap.size+1) _ (Frm.A (x.frm i)) _ _ rfl (setRow_heap _ _ _ _ _ _ HRES3.out) Tryz.underlying42 rfl (by rw [HS1.out]; exact aggFrame.2)) rfl ?_
  exact ⟨rfl,Ext.then (Ext.then HX2.out (Zad _ _ _) (fun i hi=>by omega)) (Zad _ _ _) (fun i hi=>by omega)⟩
 ·
  have i1:¬(i:Int) < (x.blocks.length:Int):=by omega
  have hgd:x.blocks.getD i (List.replicate 108 0)=List.replicate 108 0:=by simp [List.getD_eq_getElem?_getD,Nat.le_of_not_lt hlt]
  have hF1:x.frm i=F0:=by rw [hF,hgd,<- hF0]
  have HF1:=hid hF1
  have hrow2:=HF2.out
  rw [<- HF1.out] at hrow2
  have HROW:=hid hrow2
  clear hb hgd hF hok0 hF0 hF1 hrow2
  go_wp2_with (first
   | (refine Zal rfl 42 _ rfl (Frm.A F0) ?_ ?_; (simp only [List.map_toArray,List.map_cons,List.map_nil,Act.eval]; simp only [Array.getD_eq_getD_getElem?,List.getElem?_toArray,List.getElem?_cons_succ,List.getElem?_cons_zero,Option.getD_some]; exact HB.out))
   | (refine Zaa rfl 42 _ _ rfl (w.heap.size+1+1) rfl (Frm.A F0) _ rfl 42 ?_ hbs ?_ ?_ ?_; (rw [HS0.out]; exact aggFrame); (rw [HS0.out,HZ.out]); exact Frm.A_one _; rw [HW2.out])
   | (refine Zab rfl 42 _ rfl ⟨w.heap.size+1+1,0,none⟩ rfl (Frm.A (x.frm i)) ?_ (Zai HROW.out) ?_; (rw [HS1.out]; exact aggFrame))
   | (refine Zaa rfl 42 _ _ rfl (w.heap.size+1) rfl (Frm.A (x.frm i)) _ rfl 42 ?_ HRES2.out ?_ ?_ ?_; (rw [HS1.out]; exact aggFrame); (rw [HS1.out,HZ.out]); exact Frm.A_one _))
  refine bodyPost_ret (results_cell_row Tryz.results189 _ _ (w.heap.size+1) _ (Frm.A (x.frm i)) _ _ rfl (setRow_heap _ _ _ _ _ _ HRES2.out) Tryz.underlying42 rfl (by rw [HS1.out]; exact aggFrame.2)) rfl ?_
  exact ⟨rfl,Ext.then HX2.out (Zad _ _ _) (fun i hi=>by omega)⟩
theorem Rck.asked_len (R:Rck) (i:Int) (b:Bool):(R.asked i b).l.length=R.l.length:=by
 unfold Rck.asked
 split
 ·
  rfl
 ·
  split
  ·
   rfl
  ·
   split
   ·
    rfl
   ·
    split
    ·
     rfl
    ·
     split<;>rfl
theorem Rck.write_len (R:Rck) (i s:Int) (b:List Nat):(R.write i s b).2.l.length=R.l.length:=by
 unfold Rck.write
 split
 ·
  show ((R.asked i (R.badW s b)).setD i _).l.length=_
  unfold Rck.setD
  rw [List.length_set,Rck.asked_len]
 ·
  exact Rck.asked_len _ _ _
attribute [local irreducible] wpSQ
set_option maxRecDepth 100000 in
set_option maxHeartbeats 4000000 in
theorem fjput_c {S:Nat->Prop} {w:World} {r:Nat} {R:Rck} (h:FRackAt S w r R) (hsm:R.l.length<=8) (c:Cfg) (hc:c.Good) (slot:Int) (h0:0<=slot) (h1:slot < c.slots) (x:Rcd) (hx:x.Ok) (hl:x.blocks.length<=8) (a:Option Addr) (cp:Nat)
  (hb:BlksAt w a x.blocks) (ha:∀ g,a=some ⟨g,0,none⟩->S g) :
  Calls Tryz.prog 141 #[.pointer (some ⟨r,0,none⟩),.agg (Cfg.A c),.int .i64 slot,.agg (x.V a cp)] w fun e w'=>e=.returned (.int .i64 (okind (R.jput c slot x).1))/\FRackAt S w' r (R.jput c slot x).2/\Keeps S w w':=by
 obtain ⟨W0,hW0⟩:∃ W,w.alloc (.cells (Cfg.A c) 74)=W:=⟨_,rfl⟩
 have x0:Ext w W0:=hW0▸(Ext.refl w).alloc _
 have hc0:W0.heap[w.heap.size]?=some (.cells (Cfg.A c) 74 (0,0)):=hW0▸heap_alloc_new _ _
 have hsz0:W0.heap.size=w.heap.size+1:=by rw [<- hW0]; simp
 obtain ⟨W1,hW1⟩:∃ W,W0.alloc (.cells (x.V a cp) 101)=W:=⟨_,rfl⟩
 have x1:Ext W0 W1:=hW1▸(Ext.refl W0).alloc _
 have hc1:W1.heap[w.heap.size+1]?=some (.cells (x.V a cp) 101 (0,0)):=by rw [<- hsz0]; exact hW1▸heap_alloc_new _ _
 have H:=hid h; have HSM:=hid hsm
 have HX1:=hid (Ext.trans x0 x1)
 have HC1:=hid (Ext.at x1 hc0)
 have HD1:=hid hc1
 have HBL:=hid hb
 have HGC:=hid hc
 clear x0 x1 hc0 hc1 h hb
 go_enter Tryz.func141,Tryz.ntmps141
 go_wp2_with fail
 refine (fall_c (H.out.ext HX1.out) hsm).mono ?_
 rintro e W2 ⟨v,rfl,hown,x2⟩
 obtain ⟨oa,oc,rfl,hcell⟩:=hown.slice
 obtain ⟨L,hL⟩:∃ L,R.online=L:=⟨_,rfl⟩
 have hLn:L.length<=8:=by rw [<- hL]; have:=R.online_len; omega
 have HL:=hid hL
 rw [hL] at hcell ⊢
 obtain ⟨K,hK⟩:∃ K:Nat,c.k=(K:Int):=⟨c.k.toNat,by have:=hc.k0; omega⟩
 have hK8:K<=8:=by have:=hc.k1; have:=hc.n1; omega
 have HK:=hid hK
 have hXX:=Ext.trans HX1.out x2
 have HX2:=hid hXX
 have hcW:W2.heap[w.heap.size]?=some (.cells (Cfg.A c) 74 (0,0)):=Ext.at x2 HC1.out
 have hdW:W2.heap[w.heap.size+1]?=some (.cells (x.V a cp) 101 (0,0)):=Ext.at x2 HD1.out
 have hlt:=lt_of_block hdW
 have HCW:=hid hcW; have HDW:=hid hdW
 have HBW:=hid (HBL.out.ext hXX)
 have HSG:Hid (∀ g,a=some ⟨g,0,none⟩->¬ ¬PutT S w.heap.size W2.heap.size g):=hid fun g hg q=>q (.inl (ha g hg))
 have HPC:Hid (PutT S w.heap.size W2.heap.size w.heap.size/\PutT S w.heap.size W2.heap.size (w.heap.size+1)):=hid ⟨.inr ⟨Nat.le_refl _,by omega⟩,.inr ⟨by omega,hlt⟩⟩
 have HON:Hid (∀ wr,Only (fun b=>¬PutT S w.heap.size W2.heap.size b) W2 wr->∀ j d:Nat,L[j]?=some d->∃ g,oa=some ⟨g,0,none⟩/\wr.cell? ⟨g,j,none⟩=some (.int .i64 d)):=hid fun wr e j d hd=>by
  rcases hcell with ⟨q,_⟩ | ⟨g,q1,q2,q3,q4,q5⟩
  ·
   subst q; simp at hd
  ·
   have hjl:j < L.length:=by
    rcases Nat.lt_or_ge j L.length with q | q
    ·
     exact q
    ·
     rw [List.getElem?_eq_none q] at hd; cases hd
   refine ⟨g,q1,e.cell ?_ (fun q=>q (.inr ⟨Nat.le_trans HX1.out.size q2,q3⟩))⟩
   rw [q5 j hjl]
   have:L.getD j 0=d:=by rw [List.getD_eq_getElem?_getD,hd]; rfl
   rw [this]; rfl
 have HST:Hid (FJPut S w W2 r R W2):=hid ⟨H.out.more hXX fun b hb=>by
  have:=hXX.size
  rcases hb with hb | hb
  ·
   exact ⟨by have:=H.out.there b hb; omega,.inl hb⟩
  ·
   exact ⟨hb.2,.inr hb.1⟩,Only.refl _ _⟩
 clear hcell hown x2 hXX hcW hdW hlt hK hL hc
 go_wp2
 go_loopw [16] (fun v wr=>∃ (j:Nat) (Rj:Rck),v=.int .i64 j/\j<=L.length/\each (Rck.jrow c slot x) (L.take j) R=(none,Rj)/\FJPut S w W2 r Rj wr/\Rj.l.length<=8) (fun v _=>L.length - (intOf v).toNat)
 case atStart=>exact ⟨0,R,rfl,by omega,rfl,HST.out,HSM.out⟩
 case round =>
  clear HST
  obtain ⟨j,Rj,rfl,hj,hej,hst,hsj⟩:=hrel
  have HSJ:=hid hsj
  clear hsj
  have HEJ:=hid hej; have HS:=hid hst
  clear hej hst
  by_cases hlt:j < L.length
  ·
   have j0:(0:Int)<=(j:Int):=by omega
   have j1:(j:Int) < (L.length:Int):=by omega
   obtain ⟨d,hd⟩:∃ d,L[j]?=some d:=⟨L[j],List.getElem?_eq_getElem hlt⟩
   obtain ⟨g,rfl,cd⟩:=HON.out wr HS.out.keeps j d hd
   have ck:wr.cell? ⟨w.heap.size,1,none⟩=some (.int .i64 K):=(Zae (HS.out.keeps.at HCW.out (fun q=>q HPC.out.1))).trans (by rw [Cfg.A1,HK.out])
   have HD:=hid hd
   clear hd
   go_wp2
   go_loopw [11] (fun v wr=>∃ (i:Nat) (Ri:Rck),v=.int .i64 i/\i<=K/\each (fun R i=>R.write d (Rck.jsec c slot i) (x.frm i).put) (List.range i) Rj=(none,Ri)/\FJPut S w W2 r Ri wr/\Ri.l.length<=8) (fun v _=>K - (intOf v).toNat)
   case atStart=>exact ⟨0,Rj,rfl,by omega,rfl,HS.out,HSJ.out⟩
   case round =>
    clear HS
    obtain ⟨i,Ri,rfl,hi,hei,hst,hsi⟩:=hrel
    have HSI:=hid hsi
    clear hsi
    have HEI:=hid hei; have HS:=hid hst
    clear hei hst
    have ck2:=Zae (i:=1) (HS.out.keeps.at HCW.out (fun q=>q HPC.out.1))
    rw [Cfg.A1,HK.out] at ck2
    by_cases hli:i < K
    ·
     have i0:(0:Int)<=(i:Int):=by omega
     have i1:(i:Int) < (K:Int):=by omega
     --M2
     go_wp2_with fail
     have xd:Ext wr wr.drew:=(Ext.refl wr).drew
     have base:Hid (∀ y:SW Ext wr.drew,Only (fun b=>¬PutT S w.heap.size W2.heap.size b) W2 y.w):=hid fun y=>Only.ext HS.out.keeps (Ext.trans xd y.ext)
     have lc:Hid (∀ y:SW Ext wr.drew,∀ j v,(Cfg.A c).toList[j]?=some v->y.w.cell? ((⟨w.heap.size,0,none⟩:Addr).add j)=some v):=hid fun y=>Zai ((base.out y).at HCW.out (fun q=>q HPC.out.1))
     have lr:Hid (∀ y:SW Ext wr.drew,∀ j v,(x.V a cp).toList[j]?=some v->y.w.cell? ((⟨w.heap.size+1,0,none⟩:Addr).add j)=some v):=hid fun y=>Zai ((base.out y).at HDW.out (fun q=>q HPC.out.2))
     have sc:Hid (∀ y:SW Ext wr.drew,Calls Tryz.prog 188 #[.agg (Cfg.A c),.int .i64 slot,.int .i64 i] y.w fun e w''=>e=.returned (.int .i64 (Rck.jsec c slot i))/\Ext y.w w''):=hid fun y=>fjat_c c HGC.out slot h0 h1 i (by omega) y.w
     have fc:Hid (∀ y:SW Ext wr.drew,Calls Tryz.prog 189 #[.int .i64 i,.agg (x.V a cp)] y.w fun e w''=>e=.returned (.agg (Frm.A (x.frm i)))/\Ext y.w w''):=hid fun y=>fjframe_c x hx hl a cp y.w (HBW.out.only (base.out y) HSG.out) i (by omega)
     refine Zaq (S:=Ext) 10 (.one [0,1,2,3,4,5,6,7,8] 9 (.fin [])) (by kernel_rfl) (by kernel_rfl) (fun _ _ d _ _ h=>by cases d<;>exact h) ?_
     rw [wpS]
     simp only [opsAt,opA,opB,opC,opD,opE,opF,opG]
     iterate 2 ((refine Zac (fun K hK=>?_); go_simp; refine hK _ ?_; clear hK K))
     refine Zap 74 _ rfl ⟨w.heap.size,0,none⟩ rfl (Cfg.A c) rfl (Zas c) lc.out ?_
     iterate 2 ((refine Zac (fun K hK=>?_); go_simp; refine hK _ ?_; clear hK K))
     (refine Zac (fun K hK=>?_); go_simp; (apply Exists.intro; refine ⟨fun x=>?_,hK _ ?_⟩; (exact sc.out x); clear hK K))
     (refine Zac (fun K hK=>?_); go_simp; refine hK _ ?_; clear hK K)
     refine Zap 101 _ rfl ⟨w.heap.size+1,0,none⟩ rfl (x.V a cp) rfl aggRec lr.out ?_
     (refine Zac (fun K hK=>?_); go_simp; (apply Exists.intro; refine ⟨fun x=>?_,hK _ ?_⟩; (exact fc.out x); clear hK K))
     refine Zak ?_
     intro V1 hV1
     refine Zay fun Q hQ=>?_
     --M3
     go_wp2_with fail
     refine (fputf_c (x.frm i) V1 (Rcd.frm_ok x hx i)).mono ?_
     rintro e V2 ⟨fa,fn,fc2,rfl,hbt,xf⟩
     go_wp2
     refine hQ _ _ xf ?_
     clear hQ Q
     rw [wpS]
     simp only [opsAt,List.map_nil]
     refine Zak ?_
     intro V3 hV3
     have X3:=Ext.trans xd (Ext.trans hV1 (Ext.trans xf hV3))
     have HB3:=hid (hbt.ext hV3)
     have HR3:=hid (HS.out.rack.ext X3)
     have HK3:Hid (Only (fun b=>¬PutT S w.heap.size W2.heap.size b) W2 V3):=hid (Only.ext HS.out.keeps X3)
     clear base lc lr sc fc hV1 hV3 hbt xf X3 xd
     simp only [List.drop_succ_cons,List.drop_zero]
     --M4
     go_wp2_with fail
     refine (fat_write HR3.out d (Rck.jsec c slot i) fa fn fc2 _ HB3.out).mono ?_
     rintro e V4 ⟨rfl,h4,k4⟩
     clear ck2
     have HFK:=hid (fun er=>Rck.write_kind (R:=Ri) (i:=d) (s:=Rck.jsec c slot i) (b:=(x.frm i).put) (er:=er))
     have hwl:=Ri.write_len d (Rck.jsec c slot i) (x.frm i).put
     rcases hw:Ri.write d (Rck.jsec c slot i) (x.frm i).put with ⟨o,Rn⟩
     rw [hw] at h4 HFK hwl
     simp only at h4 HFK hwl ⊢
     have HSN:=hid (show Rn.l.length<=8 from hwl▸HSI.out)
     clear hwl
     have HST4:Hid (FJPut S w W2 r Rn V4):=hid ⟨h4,Only.trans HK3.out k4 fun _ _ q=>q⟩
     have HW:=hid hw
     clear h4 k4 hw
     rcases o with _ | er
     ·
      have HE1:Hid (each (fun R i=>R.write d (Rck.jsec c slot i) (x.frm i).put) (List.range (i+1)) Rj=(none,Rn)):=hid (by
       rw [List.range_succ,each_app,HEI.out]
       exact (each_ok (l:=[]) HW.out).trans rfl)
      simp only [okind]
      go_wp2
      go_roundw
      case rel=>exact ⟨i+1,Rn,by go_num,by omega,HE1.out,HST4.out,HSN.out⟩
      case measure=>simp [intOf]; omega
     ·
      --M5
      have HR:Hid (R.jput c slot x=(some er,Rn)):=hid (by
       have e1:Rck.jrow c slot x Rj d=(some er,Rn):=by
        have:c.k.toNat=K:=by rw [HK.out]; rfl
        unfold Rck.jrow
        rw [this]
        exact each_mid (i:=i) (b:=i) (by rw [List.getElem?_range hli]) (by rw [range_take K i (by omega)]; exact HEI.out) HW.out
       have e2:each (Rck.jrow c slot x) R.online R=(some er,Rn):=by rw [HL.out]; exact each_mid HD.out HEJ.out e1
       unfold Rck.jput
       rw [e2])
      have hk:=HFK.out er rfl
      simp only [okind]
      obtain ⟨k,hkk⟩:∃ k,er.kind=k:=⟨_,rfl⟩
      rw [hkk] at hk ⊢
      have HKK:=hid hkk
      have hk0:(k != 0)=true:=by simp [hk]
      clear hk hkk HFK
      go_wp2
      go_ret
      rw [HR.out]
      exact ⟨by rw [<- HKK.out]; rfl,(HST4.out.out HX2.out).1,(HST4.out.out HX2.out).2⟩
    ·
     obtain rfl:i=K:=by omega
     have HE2:Hid (each (Rck.jrow c slot x) (L.take (j+1)) R=(none,Ri)):=hid (each_next HD.out HEJ.out (by
      have:c.k.toNat=i:=by rw [HK.out]; rfl
      unfold Rck.jrow
      rw [this]
      exact HEI.out))
     go_wp2
     --M6
     exact ⟨⟨j+1,Ri,by go_num,by omega,HE2.out,HS.out,HSI.out⟩,by simp [intOf]; omega⟩
  ·
   obtain rfl:j=L.length:=by omega
   have HR:Hid (R.jput c slot x=Rj.flushAll):=hid (by
    have e2:each (Rck.jrow c slot x) R.online R=(none,Rj):=by rw [HL.out,<- HEJ.out,List.take_length]
    unfold Rck.jput Rck.flushAll
    rw [e2])
   clear HON HEJ
   go_wp2_with fail
   refine (fflush_all HS.out.rack HSJ.out).mono ?_
   rintro e W3 ⟨rfl,h5,k5⟩
   have HF:=hid (HS.out.out HX2.out)
   have H5:=hid (show FRackAt S W3 r (R.jput c slot x).2/\Keeps S w W3 from ⟨HR.out▸h5.less fun b hb=>.inl hb,HF.out.2.trans k5 fun _ _ hb q=>hb (.inl q)⟩)
   rw [<- HR.out]
   obtain ⟨ck,hck⟩:∃ ck,okind (R.jput c slot x).1=ck:=⟨_,rfl⟩
   rw [hck]
   have HCK:=hid hck
   clear h5 k5 hck
   go_wp2
   go_ret
   exact ⟨by rw [HCK.out]; rfl,H5.out.1,H5.out.2⟩
end Go.Proofs.YtgjnnbomnoafcaaGreatDoor
namespace Go.Proofs.YtgjnnbomnoafcaaGreatDoor
set_option linter.unusedVariables false
open Go Go.RowKit
attribute [local irreducible] wpSQ
set_option maxRecDepth 100000 in
set_option maxHeartbeats 2000000 in
theorem fjblank_c {S:Nat->Prop} {w:World} {r:Nat} {R:Rck} (h:FRackAt S w r R) (hn1:1<=R.l.length) (hsm:R.l.length<=8) (c:Cfg) (slot:Int) :
  Calls Tryz.prog 55 #[.pointer (some ⟨r,0,none⟩),.agg (Cfg.A c),.int .i64 slot] w fun e w'=>e=.returned (.int .i64 (okind (R.jblank c slot).1))/\FRackAt S w' r (R.jblank c slot).2/\Keeps S w w':=by
 obtain ⟨W0,hW0⟩:∃ W,w.alloc (.cells (Cfg.A c) 74)=W:=⟨_,rfl⟩
 have X0:Ext w W0:=hW0▸(Ext.refl w).alloc _
 have HC:=hid (show W0.heap[w.heap.size]?=some (.cells (Cfg.A c) 74 (0,0)) from hW0▸heap_alloc_new _ _)
 have HX0:=hid X0
 have H0:=hid (h.ext X0)
 have HSM:=hid hsm; have HN1:=hid hn1
 have HB0:Hid (R.jblank c slot=if R.jknown c slot=true then ((R.jput c slot Rcd.none_).1.map (.fault sJBlank slot),(R.jput c slot Rcd.none_).2) else (some (.fault sJBlank slot (.no 1)),R)):=hid rfl
 have HNO:=hid (fun hk:R.jknown c slot=false=>(show R.jblank c slot=(some (.fault sJBlank slot (.no 1)),R) by rw [HB0.out,hk]; rfl))
 have HKK:Hid (R.jknown c slot=(R.fits c && decide (0<=slot) && decide (slot < c.slots))):=hid rfl
 clear X0 h hn1 hsm
 go_enter Tryz.func55,Tryz.ntmps55
 go_wp2_with (refine Zab rfl 74 _ rfl ⟨w.heap.size,0,none⟩ rfl (Cfg.A c) (Zas c) (Zai HC.out) ?_)
 refine (rffits_c H0.out HN1.out c).mono ?_
 rintro e w2 ⟨rfl,x2⟩
 have HX2:=hid (Ext.trans HX0.out x2)
 have H2:=hid (H0.out.ext x2)
 have HC2:=hid (Ext.at x2 HC.out)
 have c4:w2.cell? ⟨w.heap.size,4,none⟩=some (.int .i64 c.slots):=(Zae HC2.out).trans (Cfg.A4 c)
 clear x2 HC
 rcases hf:R.fits c with _ | _
 ·
  have HV:=hid (HNO.out (by rw [HKK.out,hf]; rfl))
  clear hf c4
  go_wp2
  go_ret
  rw [HV.out]
  exact ⟨rfl,H2.out,Ext.only HX2.out⟩
 ·
  have HF:=hid hf
  clear hf
  by_cases a0:0<=slot
  case neg =>
   have HV:=hid (HNO.out (by rw [HKK.out,HF.out,decide_eq_false a0]; rfl))
   clear c4
   go_wp2
   go_ret
   rw [HV.out]
   exact ⟨rfl,H2.out,Ext.only HX2.out⟩
  by_cases a1:slot < c.slots
  case neg =>
   have HV:=hid (HNO.out (by rw [HKK.out,HF.out,decide_eq_true a0,decide_eq_false a1]; rfl))
   go_wp2
   go_ret
   rw [HV.out]
   exact ⟨rfl,H2.out,Ext.only HX2.out⟩
  have HV:=hid (show R.jblank c slot=((R.jput c slot Rcd.none_).1.map (.fault sJBlank slot),(R.jput c slot Rcd.none_).2) by rw [HB0.out,HKK.out,HF.out,decide_eq_true a0,decide_eq_true a1]; rfl)
  have HGC:=hid (Rck.fits_good HF.out)
  have HA:=hid (And.intro a0 a1)
  clear HB0 HNO HKK HF
  go_wp2_with (first
   | (refine Zab rfl 74 _ rfl ⟨w.heap.size,0,none⟩ rfl (Cfg.A c) (Zas c) (Zai HC2.out) ?_)
   | (refine Zal rfl 101 _ rfl (Rcd.none_.V none 0) (by kernel_rfl) ?_))
  refine (fjput_c H2.out HSM.out c HGC.out slot HA.out.1 HA.out.2 Rcd.none_ ⟨(by intro b hb; cases hb),(by intro b hb; cases hb)⟩ (Nat.zero_le _) none 0 (by intro i b hb; simp [Rcd.none_] at hb) (by intro g hg; cases hg)).mono ?_
  rintro e w3 ⟨rfl,h3,k3⟩
  have HK:Hid (okind (R.jput c slot Rcd.none_).1=okind (R.jblank c slot).1):=hid (by rw [HV.out]; cases (R.jput c slot Rcd.none_).1<;>rfl)
  have H3:=hid (show FRackAt S w3 r (R.jblank c slot).2 from by rw [HV.out]; exact h3)
  have K3:Hid (Keeps S w w3):=hid (Only.trans (Ext.only HX2.out) k3 fun _ _ x=>x)
  rw [HK.out]
  obtain ⟨ck,hck⟩:∃ ck,okind (R.jblank c slot).1=ck:=⟨_,rfl⟩
  rw [hck]
  have HCK:=hid hck
  clear h3 k3 hck a0 a1 c4
  go_wp2
  go_ret
  exact ⟨by rw [HCK.out]; rfl,H3.out,K3.out⟩
set_option maxRecDepth 100000 in
set_option maxHeartbeats 2000000 in
theorem fjlog_c {S:Nat->Prop} {w:World} {r:Nat} {R:Rck} (h:FRackAt S w r R) (hn1:1<=R.l.length) (hsm:R.l.length<=8) (c:Cfg) (x:Rcd) (hx:x.Ok) (a:Option Addr) (cp:Nat)
  (hb:BlksAt w a x.blocks) (ha:∀ g,a=some ⟨g,0,none⟩->S g) :
  Calls Tryz.prog 58 #[.pointer (some ⟨r,0,none⟩),.agg (Cfg.A c),.agg (x.V a cp)] w fun e w'=>e=.returned (.int .i64 (okind (R.jlog c x).1))/\FRackAt S w' r (R.jlog c x).2/\Keeps S w w':=by
 obtain ⟨W0,hW0⟩:∃ W,w.alloc (.cells (Cfg.A c) 74)=W:=⟨_,rfl⟩
 have x0:Ext w W0:=hW0▸(Ext.refl w).alloc _
 have hc0:W0.heap[w.heap.size]?=some (.cells (Cfg.A c) 74 (0,0)):=hW0▸heap_alloc_new _ _
 have hsz0:W0.heap.size=w.heap.size+1:=by rw [<- hW0]; simp
 obtain ⟨W1,hW1⟩:∃ W,W0.alloc (.cells (x.V a cp) 101)=W:=⟨_,rfl⟩
 have x1:Ext W0 W1:=hW1▸(Ext.refl W0).alloc _
 have hc1:W1.heap[w.heap.size+1]?=some (.cells (x.V a cp) 101 (0,0)):=by rw [<- hsz0]; exact hW1▸heap_alloc_new _ _
 have HX1:=hid (Ext.trans x0 x1)
 have HC1:=hid (Ext.at x1 hc0)
 have HD1:=hid hc1
 have H1:=hid (h.ext HX1.out)
 have H:=hid h; have HN1:=hid hn1; have HSM:=hid hsm
 have HB0:Hid (R.jlog c x=if R.jlogOk c x=true then ((R.jput c (x.seq % c.slots) x).1.map (.fault sJLog x.seq),(R.jput c (x.seq % c.slots) x).2) else (some (.fault sJLog x.seq (.no 1)),R)):=hid rfl
 have HOK:Hid (R.jlogOk c x=true↔(((((R.fits c=true/\2<=x.seq)/\x.seq<=1152921504606846976)/\0<=x.stripe)/\x.stripe < c.stripes)/\(x.blocks.length:Int)=c.k)):=hid (by
  unfold Rck.jlogOk
  simp only [Bool.and_eq_true,decide_eq_true_eq])
 have HKN:=hid (fun hf:R.fits c=true=>(show c.Good from by
  unfold Rck.fits at hf
  simp only [Bool.and_eq_true,decide_eq_true_eq] at hf
  exact (Cfg.right_iff c).1 hf.1.1))
 have HBW:=hid (hb.ext HX1.out)
 have HG:=hid ha
 have HOKX:=hid hx
 clear hn1 hsm x0 x1 hc0 hc1 h hb ha hx
 go_enter Tryz.func58,Tryz.ntmps58
 go_wp2_with (refine Zab rfl 74 _ rfl ⟨w.heap.size,0,none⟩ rfl (Cfg.A c) (Zas c) (Zai HC1.out) ?_)
 refine (rffits_c H1.out HN1.out c).mono ?_
 rintro e w2 ⟨rfl,x2⟩
 have HX2:=hid (Ext.trans HX1.out x2)
 have H2:=hid (H1.out.ext x2)
 have HC2:=hid (Ext.at x2 HC1.out)
 have HD2:=hid (Ext.at x2 HD1.out)
 have HBL:=hid (HBW.out.ext x2)
 have d0:w2.cell? ⟨w.heap.size+1,0,none⟩=some (.int .i64 x.seq):=(Zae HD2.out).trans rfl
 have d1:w2.cell? ⟨w.heap.size+1,1,none⟩=some (.int .i64 x.stripe):=(Zae HD2.out).trans rfl
 have d2:w2.cell? ⟨w.heap.size+1,2,none⟩=some (.slice a x.blocks.length cp):=(Zae HD2.out).trans rfl
 have c1:w2.cell? ⟨w.heap.size,1,none⟩=some (.int .i64 c.k):=(Zae HC2.out).trans (Cfg.A1 c)
 have c3:w2.cell? ⟨w.heap.size,3,none⟩=some (.int .i64 c.stripes):=(Zae HC2.out).trans (Cfg.A3 c)
 clear x2 HBW
 rcases hf:R.fits c with _ | _
 ·
  have HNE:=hid (show ¬R.fits c=true by rw [hf]; simp)
  clear hf
  have HV:=hid (show R.jlog c x=(some (.fault sJLog x.seq (.no 1)),R) by rw [HB0.out]; exact if_neg (by rw [HOK.out]; intro q; exact absurd q (by first | (exact fun q=>HNE.out q.1.1.1.1.1) | omega | (exact fun q=>HNE.out q.2))))
  clear HKN HB0 HOK HNE
  go_wp2
  go_ret
  rw [HV.out]
  exact ⟨rfl,H2.out,Ext.only HX2.out⟩
 ·
  have HF:=hid hf
  clear hf
  by_cases a0:2<=x.seq
  case neg =>
   have HNE:=hid a0
   have HV:=hid (show R.jlog c x=(some (.fault sJLog x.seq (.no 1)),R) by rw [HB0.out]; exact if_neg (by rw [HOK.out]; intro q; exact absurd q (by first | (exact fun q=>HNE.out q.1.1.1.1.1) | omega | (exact fun q=>HNE.out q.2))))
   clear HKN HB0 HOK HNE
   go_wp2
   go_ret
   rw [HV.out]
   exact ⟨rfl,H2.out,Ext.only HX2.out⟩
  by_cases a1:x.seq<=1152921504606846976
  case neg =>
   have HNE:=hid a1
   have HV:=hid (show R.jlog c x=(some (.fault sJLog x.seq (.no 1)),R) by rw [HB0.out]; exact if_neg (by rw [HOK.out]; intro q; exact absurd q (by first | (exact fun q=>HNE.out q.1.1.1.1.1) | omega | (exact fun q=>HNE.out q.2))))
   clear HKN HB0 HOK HNE
   go_wp2
   go_ret
   rw [HV.out]
   exact ⟨rfl,H2.out,Ext.only HX2.out⟩
  by_cases a2:0<=x.stripe
  case neg =>
   have HNE:=hid a2
   have HV:=hid (show R.jlog c x=(some (.fault sJLog x.seq (.no 1)),R) by rw [HB0.out]; exact if_neg (by rw [HOK.out]; intro q; exact absurd q (by first | (exact fun q=>HNE.out q.1.1.1.1.1) | omega | (exact fun q=>HNE.out q.2))))
   clear HKN HB0 HOK HNE
   go_wp2
   go_ret
   rw [HV.out]
   exact ⟨rfl,H2.out,Ext.only HX2.out⟩
  by_cases a3:x.stripe < c.stripes
  case neg =>
   have HNE:=hid a3
   have HV:=hid (show R.jlog c x=(some (.fault sJLog x.seq (.no 1)),R) by rw [HB0.out]; exact if_neg (by rw [HOK.out]; intro q; exact absurd q (by first | (exact fun q=>HNE.out q.1.1.1.1.1) | omega | (exact fun q=>HNE.out q.2))))
   clear HKN HB0 HOK HNE
   go_wp2
   go_ret
   rw [HV.out]
   exact ⟨rfl,H2.out,Ext.only HX2.out⟩
  by_cases a4:(x.blocks.length:Int)=c.k
  case neg =>
   have HNE:=hid a4
   have ab:((x.blocks.length:Int) != c.k)=true:=by simpa using a4
   have HV:=hid (show R.jlog c x=(some (.fault sJLog x.seq (.no 1)),R) by rw [HB0.out]; exact if_neg (by rw [HOK.out]; intro q; exact absurd q (by first | (exact fun q=>HNE.out q.1.1.1.1.1) | omega | (exact fun q=>HNE.out q.2))))
   clear HKN HB0 HOK HNE
   go_wp2
   go_ret
   rw [HV.out]
   exact ⟨rfl,H2.out,Ext.only HX2.out⟩
  have ab:((x.blocks.length:Int) != c.k)=false:=by simpa using a4
  have HV:=hid (show R.jlog c x=((R.jput c (x.seq % c.slots) x).1.map (.fault sJLog x.seq),(R.jput c (x.seq % c.slots) x).2) by rw [HB0.out]; exact if_pos (HOK.out.2 ⟨⟨⟨⟨⟨HF.out,a0⟩,a1⟩,a2⟩,a3⟩,a4⟩))
  have HGC:=hid (HKN.out HF.out)
  clear HKN HB0 HOK
  have HL8:=hid (show x.blocks.length<=8 by have:=HGC.out.k1; have:=HGC.out.n1; omega)
  have HS0:=hid (show 1<=c.slots from HGC.out.sl0)
  have hm:x.seq.tmod c.slots=x.seq % c.slots:=Int.tmod_eq_emod_of_nonneg (by omega)
  have hs0:¬c.slots=0:=by have:=HS0.out; omega
  have b0:0<=x.seq % c.slots:=Int.emod_nonneg _ (by have:=HS0.out; omega)
  have b1:x.seq % c.slots < c.slots:=Int.emod_lt_of_pos _ (by have:=HS0.out; omega)
  generalize hz:x.seq % c.slots=z at *
  have HB:=hid (And.intro b0 b1)
  go_wp2_with fail
  clear a0 a1 a2 a3 a4 b0 b1 hz HF
  have xd:Ext w2 w2.drew:=(Ext.refl w2).drew
  have base:Hid (∀ y:SW (Only fun b=>¬PutT S w.heap.size (w.heap.size+2) b) w2.drew,Only (fun b=>¬PutT S w.heap.size (w.heap.size+2) b) w2 y.w):=hid fun y=>Only.trans (Ext.only xd) y.ext fun _ _ q=>q
  have t0:PutT S w.heap.size (w.heap.size+2) w.heap.size:=.inr ⟨Nat.le_refl _,by omega⟩
  have t1:PutT S w.heap.size (w.heap.size+2) (w.heap.size+1):=.inr ⟨by omega,by omega⟩
  have lc:Hid (∀ y:SW (Only fun b=>¬PutT S w.heap.size (w.heap.size+2) b) w2.drew,∀ j v,(Cfg.A c).toList[j]?=some v->y.w.cell? ((⟨w.heap.size,0,none⟩:Addr).add j)=some v):=hid fun y=>Zai ((base.out y).at HC2.out (fun q=>q t0))
  have lr:Hid (∀ y:SW (Only fun b=>¬PutT S w.heap.size (w.heap.size+2) b) w2.drew,∀ j v,(x.V a cp).toList[j]?=some v->y.w.cell? ((⟨w.heap.size+1,0,none⟩:Addr).add j)=some v):=hid fun y=>Zai ((base.out y).at HD2.out (fun q=>q t1))
  have cs:∀ y:SW (Only fun b=>¬PutT S w.heap.size (w.heap.size+2) b) w2.drew,y.w.cell? ⟨w.heap.size+1,0,none⟩=some (.int .i64 x.seq):=fun y=>(Zae ((base.out y).at HD2.out (fun q=>q t1))).trans rfl
  have cl:∀ y:SW (Only fun b=>¬PutT S w.heap.size (w.heap.size+2) b) w2.drew,y.w.cell? ⟨w.heap.size,4,none⟩=some (.int .i64 c.slots):=fun y=>(Zae ((base.out y).at HC2.out (fun q=>q t0))).trans (Cfg.A4 c)
  clear d0 d1 d2 c1 c3 base
  refine Zaw (E:=Ext) (S:=Only fun b=>¬PutT S w.heap.size (w.heap.size+2) b) (.one [0,1,2,3,4,5,6,7] 8 (.fin [9])) (by kernel_rfl) (by kernel_rfl) (fun _ _ d _ _ h=>by cases d<;>exact h) ?_
  rw [wpS]
  simp only [opsAt,opA,opB,opC,opD,opE,opF,opG]
  (refine Zac (fun K hK=>?_); go_simp; refine hK _ ?_; clear hK K)
  refine Zap 74 _ rfl ⟨w.heap.size,0,none⟩ rfl (Cfg.A c) rfl (Zas c) lc.out ?_
  iterate 5 ((refine Zac (fun K hK=>?_); go_simp; refine hK _ ?_; clear hK K))
  refine Zap 101 _ rfl ⟨w.heap.size+1,0,none⟩ rfl (x.V a cp) rfl aggRec lr.out ?_
  refine Zak ?_
  intro V1 hV1
  refine Zay fun Q hQ=>?_
  go_wp2_with fail
  have HT:Hid (FRackAt (PutT S w.heap.size (w.heap.size+2)) V1 r R):=hid (H.out.more (Ext.trans HX2.out (Ext.trans xd hV1)) fun b hb=>by
   have q1:=(Ext.trans HX2.out (Ext.trans xd hV1)).size
   have q2:=HX1.out.size
   have q3:=lt_of_block HD2.out
   have q4:=(Ext.trans xd hV1).size
   rcases hb with hb | hb
   ·
    exact ⟨by have:=H.out.there b hb; omega,.inl hb⟩
   ·
    exact ⟨by omega,.inr hb.1⟩)
  --M1
  refine (fjput_c HT.out HSM.out c HGC.out z HB.out.1 HB.out.2 x HOKX.out HL8.out a cp (HBL.out.ext (Ext.trans xd hV1)) (fun g hg=>.inl (HG.out g hg))).mono ?_
  rintro e V2 ⟨rfl,h3,k3⟩
  have HK:Hid (okind (R.jput c z x).1=okind (R.jlog c x).1):=hid (by rw [HV.out]; cases (R.jput c z x).1<;>rfl)
  have h3':FRackAt (PutT S w.heap.size (w.heap.size+2)) V2 r (R.jlog c x).2:=by rw [HV.out]; exact h3
  rw [HK.out]
  obtain ⟨ck,hck⟩:∃ ck,okind (R.jlog c x).1=ck:=⟨_,rfl⟩
  rw [hck]
  have HCK:=hid hck
  clear hck
  go_wp2
  refine hQ _ _ k3 ?_
  clear hQ Q
  rw [wpS]
  simp only [opsAt,opA,opB,opC,opD,opE,opF,opG]
  (refine Zac (fun K hK=>?_); go_simp; refine hK _ ?_; clear hK K)
  refine Zak ?_
  intro V3 hV3
  have H3:=hid ((h3'.less fun b hb=>Or.inl hb:FRackAt S V2 r (R.jlog c x).2).ext hV3)
  have K3:Hid (Keeps S w V3):=hid (Only.ext (Only.trans (Ext.only (Ext.trans HX2.out (Ext.trans xd hV1))) k3 fun b _ hb q=>hb (.inl q)) hV3)
  clear h3 h3' k3 lc lr cs cl hV1 hV3 xd t0 t1
  go_wp2
  go_ret
  exact ⟨by rw [HCK.out]; rfl,H3.out,K3.out⟩
end Go.Proofs.YtgjnnbomnoafcaaGreatDoor
namespace Go.Proofs.YtgjnnbomnoafcaaGreatDoor
set_option linter.unusedVariables false
open Go Go.RowKit
set_option maxRecDepth 100000 in
set_option maxHeartbeats 4000000 in
theorem fjgood_c {S:Nat->Prop} {w:World} {r:Nat} {R:Rck} (h:FRackAt S w r R) (hrok:∀ (i s k sl st:Int) f,R.get i s k sl st=some f->f.Ok) (c:Cfg) (hc:c.Good) (d:Nat) (slot:Int) (h0:0<=slot) (h1:slot < c.slots) (i:Nat) (hi:i < 8) :
  Calls Tryz.prog 144 #[.pointer (some ⟨r,0,none⟩),.agg (Cfg.A c),.int .i64 d,.int .i64 slot,.int .i64 i] w fun e w'=>e=.returned (gotO (R.jgood c d slot i))/\Ext w w':=by
 have hz:=Zav
 have hbz:=Zao
 have HZ:=hid (Frm.A_size _ Za5)
 obtain ⟨W0,hW0⟩:∃ W,w.alloc (.cells (Cfg.A c) 74)=W:=⟨_,rfl⟩
 have x0:Ext w W0:=hW0▸(Ext.refl w).alloc _
 have hc0:W0.heap[w.heap.size]?=some (.cells (Cfg.A c) 74 (0,0)):=hW0▸heap_alloc_new _ _
 have hsz0:W0.heap.size=w.heap.size+1:=by rw [<- hW0]; simp
 obtain ⟨W1,hW1⟩:∃ W,W0.alloc (.cells (Frm.A Frm.zero) 42)=W:=⟨_,rfl⟩
 have x1:Ext W0 W1:=hW1▸(Ext.refl W0).alloc _
 have hr1:W1.heap[w.heap.size+1]?=some (.cells (Frm.A Frm.zero) 42 (0,0)):=by rw [<- hsz0]; exact hW1▸heap_alloc_new _ _
 have HX1:=hid (Ext.trans x0 x1)
 have HC1:=hid (Ext.at x1 hc0)
 have HD1:=hid hr1
 have H1:=hid (h.ext HX1.out)
 have HROK:=hid hrok
 have HG:Hid (R.jgood c d slot i=(R.get d (Rck.jsec c slot i) 2 i (-1)).bind fun f=>if c.stripes<=f.stripe\/f.gen=1\/(1 < f.gen/\f.gen % c.slots≠slot) then none else some f):=hid rfl
 have HSEC:=hid (fjat_c c hc slot h0 h1 i hi)
 have HSL:=hid (show 1<=c.slots/\c.slots<=4 from ⟨hc.sl0,hc.sl1⟩)
 clear x0 x1 hc0 hr1 h hrok hc h0 h1 hi
 go_enter Tryz.func144,Tryz.ntmps144
 go_wp2_with (refine Zab rfl 74 _ rfl ⟨w.heap.size,0,none⟩ rfl (Cfg.A c) (Zas c) (Zai HC1.out) ?_)
 refine (HSEC.out _).mono ?_
 rintro e w2 ⟨rfl,x2⟩
 have H2:=hid (H1.out.ext x2)
 have HX2:=hid (Ext.trans HX1.out x2)
 have HC2:=hid (Ext.at x2 HC1.out)
 have HD2:=hid (Ext.at x2 HD1.out)
 clear x2 HSEC
 go_wp2_with fail
 refine (fat_get H2.out d (Rck.jsec c slot i) 2 i (-1)).mono ?_
 rintro e w3 ⟨rfl,x3⟩
 have HX3:=hid (Ext.trans HX2.out x3)
 have HC3:=hid (Ext.at x3 HC2.out)
 have HD3:=hid (Ext.at x3 HD2.out)
 have hbs:(w3.alloc (.cells (Frm.A Frm.zero) 42)).heap[w3.heap.size]?=some (.cells (Frm.A Frm.zero) 42 (0,0)):=Zaf
 have hok:∀ f,R.get d (Rck.jsec c slot i) 2 i (-1)=some f->f.Ok:=fun f hf=>HROK.out _ _ _ _ _ f hf
 clear x3
 rcases hg:R.get (d:Int) (Rck.jsec c slot i) 2 i (-1) with _ | f
 ·
  have HV:Hid (R.jgood c d slot i=none):=hid (by rw [HG.out,hg]; rfl)
  have HD4:Hid ((w3.alloc (.cells (Frm.A Frm.zero) 42)).heap[w.heap.size+1]?=some (.cells (Frm.A Frm.zero) 42 (0,0))):=hid (Ext.at ((Ext.refl w3).alloc _) HD3.out)
  have HX4:Hid (Ext w (w3.alloc (.cells (Frm.A Frm.zero) 42))):=hid (HX3.out.alloc _)
  simp only [gotO,Option.getD_none,Option.isSome_none]
  clear HG hg hok
  go_wp2_with (first
   | (have hb0:=hbs; clear hbs; refine Zaa rfl 42 _ _ rfl w3.heap.size rfl (Frm.A Frm.zero) _ rfl 42 ?_ hb0 ?_ ?_ ?_; (rw [HZ.out]; exact aggFrame); (rfl); exact Frm.A_one _; rw [Zag])
   | (guard_target=wpList _ _ _ (⟨none,Op.store _ _ _,_,_,_,none⟩::_) _ _; refine Zaa rfl 42 _ _ rfl (w.heap.size+1) rfl (Frm.A Frm.zero) _ rfl 42 ?_ HD4.out ?_ ?_ ?_; (rw [HZ.out]; exact aggFrame); (rfl); exact Frm.A_one _)
   )
  refine bodyPost_ret (Zah Tryz.results144 rfl (by rw [HZ.out]; exact aggFrame) (setRow_heap _ _ _ _ _ _ HD4.out)) rfl ?_
  exact ⟨by rw [HV.out]; rfl,Ext.then HX4.out (Zad _ _ _) (fun i hi=>by omega)⟩
 ·
  have hfo:=hok f hg
  have HFS:=hid (Frm.A_size f hfo)
  have HG2:Hid (R.jgood c d slot i=if c.stripes<=f.stripe\/f.gen=1\/(1 < f.gen/\f.gen % c.slots≠slot) then none else some f):=hid (by rw [HG.out,hg]; rfl)
  have HD4:Hid ((w3.alloc (.cells (Frm.A f) 42)).heap[w.heap.size+1]?=some (.cells (Frm.A Frm.zero) 42 (0,0))):=hid (Ext.at ((Ext.refl w3).alloc _) HD3.out)
  have HX4:Hid (Ext w (w3.alloc (.cells (Frm.A f) 42))):=hid (HX3.out.alloc _)
  simp only [gotO,Option.getD_some,Option.isSome_some]
  have c2:(w3.alloc (.cells (Frm.A f) 42)).cell? ⟨w3.heap.size,2,none⟩=some (.int .i64 f.stripe):=(Zae Zaf).trans (Frm.A2 f)
  have c3:(w3.alloc (.cells (Frm.A f) 42)).cell? ⟨w3.heap.size,3,none⟩=some (.int .i64 f.gen):=(Zae Zaf).trans (Frm.A3 f)
  have d3:(w3.alloc (.cells (Frm.A f) 42)).cell? ⟨w.heap.size,3,none⟩=some (.int .i64 c.stripes):=(Zae (Ext.at ((Ext.refl w3).alloc _) HC3.out)).trans (Cfg.A3 c)
  have d4:(w3.alloc (.cells (Frm.A f) 42)).cell? ⟨w.heap.size,4,none⟩=some (.int .i64 c.slots):=(Zae (Ext.at ((Ext.refl w3).alloc _) HC3.out)).trans (Cfg.A4 c)
  have hs0:¬c.slots=0:=by have:=HSL.out; omega
  clear HG hg hok hfo
  have hm:Int.tmod f.gen c.slots=Int.tmod f.gen c.slots:=rfl
  clear hm
  by_cases b:f.gen=1
  ·
   have HV:Hid (R.jgood c d slot i=none):=hid (by rw [HG2.out,if_pos (.inr (.inl b))])
   rw [b] at c3
   clear HG2
   go_wp2_with (first
    | (have hb0:=hbs; clear hbs; refine Zaa rfl 42 _ _ rfl w3.heap.size rfl (Frm.A f) _ rfl 42 ?_ hb0 ?_ ?_ ?_; (rw [HFS.out]; exact aggFrame); (rw [HFS.out,HZ.out]); exact Frm.A_one _; rw [Zag])
    | (guard_target=wpList _ _ _ (⟨none,Op.store _ _ _,_,_,_,none⟩::_) _ _; refine Zaa rfl 42 _ _ rfl (w.heap.size+1) rfl (Frm.A Frm.zero) _ rfl 42 ?_ HD4.out ?_ ?_ ?_; (rw [HZ.out]; exact aggFrame); (rfl); exact Frm.A_one _)
    )
   refine bodyPost_ret (Zah Tryz.results144 rfl (by rw [HZ.out]; exact aggFrame) (setRow_heap _ _ _ _ _ _ HD4.out)) rfl ?_
   exact ⟨by rw [HV.out]; rfl,Ext.then HX4.out (Zad _ _ _) (fun i hi=>by omega)⟩
  have ab:(f.gen == 1)=false:=by simpa using b
  have HNB:=hid b
  clear b
  by_cases g:1 < f.gen
  ·
   have hm:Int.tmod f.gen c.slots=f.gen % c.slots:=Int.tmod_eq_emod_of_nonneg (by omega)
   by_cases q:f.gen % c.slots=slot
   ·
    have aq:((f.gen % c.slots:Int) != slot)=false:=by rw [q]; simp
    by_cases a:c.stripes<=f.stripe
    ·
     have HV:Hid (R.jgood c d slot i=none):=hid (by rw [HG2.out,if_pos (.inl a)])
     clear HG2
     go_wp2_with (first
      | (have hb0:=hbs; clear hbs; refine Zaa rfl 42 _ _ rfl w3.heap.size rfl (Frm.A f) _ rfl 42 ?_ hb0 ?_ ?_ ?_; (rw [HFS.out]; exact aggFrame); (rw [HFS.out,HZ.out]); exact Frm.A_one _; rw [Zag])
      | (guard_target=wpList _ _ _ (⟨none,Op.store _ _ _,_,_,_,none⟩::_) _ _; refine Zaa rfl 42 _ _ rfl (w.heap.size+1) rfl (Frm.A Frm.zero) _ rfl 42 ?_ HD4.out ?_ ?_ ?_; (rw [HZ.out]; exact aggFrame); (rfl); exact Frm.A_one _)
      )
     refine bodyPost_ret (Zah Tryz.results144 rfl (by rw [HZ.out]; exact aggFrame) (setRow_heap _ _ _ _ _ _ HD4.out)) rfl ?_
     exact ⟨by rw [HV.out]; rfl,Ext.then HX4.out (Zad _ _ _) (fun i hi=>by omega)⟩
    ·
     have HV:Hid (R.jgood c d slot i=some f):=hid (by rw [HG2.out,if_neg (fun z=>by rcases z with z | z | z; exact a z; exact HNB.out z; exact z.2 q)])
     clear HG2
     go_wp2_with (first
      | (have hb0:=hbs; clear hbs; refine Zaa rfl 42 _ _ rfl w3.heap.size rfl (Frm.A f) _ rfl 42 ?_ hb0 ?_ ?_ ?_; (rw [HFS.out]; exact aggFrame); (rw [HFS.out,HZ.out]); exact Frm.A_one _; rw [Zag])
      | (guard_target=wpList _ _ _ (⟨none,Op.store _ _ _,_,_,_,none⟩::_) _ _; refine Zaa rfl 42 _ _ rfl (w.heap.size+1) rfl (Frm.A f) _ rfl 42 ?_ HD4.out ?_ ?_ ?_; (rw [HFS.out]; exact aggFrame); (rw [HFS.out,HZ.out]); exact Frm.A_one _)
      | (guard_target=wpList _ _ _ (⟨some _,Op.load _ _,_,_,_,none⟩::_) _ _; refine Zab rfl 42 _ rfl ⟨w3.heap.size,0,none⟩ rfl (Frm.A f) (by rw [HFS.out]; exact aggFrame) (Zai Zaf) ?_))
     refine bodyPost_ret (Zah Tryz.results144 rfl (by rw [HFS.out]; exact aggFrame) (setRow_heap _ _ _ _ _ _ HD4.out)) rfl ?_
     exact ⟨by rw [HV.out]; rfl,Ext.then HX4.out (Zad _ _ _) (fun i hi=>by omega)⟩
   ·
    have aq:((f.gen % c.slots:Int) != slot)=true:=by simpa using q
    have HV:Hid (R.jgood c d slot i=none):=hid (by rw [HG2.out,if_pos (.inr (.inr ⟨g,q⟩))])
    clear q
    clear HG2
    go_wp2_with (first
     | (have hb0:=hbs; clear hbs; refine Zaa rfl 42 _ _ rfl w3.heap.size rfl (Frm.A f) _ rfl 42 ?_ hb0 ?_ ?_ ?_; (rw [HFS.out]; exact aggFrame); (rw [HFS.out,HZ.out]); exact Frm.A_one _; rw [Zag])
     | (guard_target=wpList _ _ _ (⟨none,Op.store _ _ _,_,_,_,none⟩::_) _ _; refine Zaa rfl 42 _ _ rfl (w.heap.size+1) rfl (Frm.A Frm.zero) _ rfl 42 ?_ HD4.out ?_ ?_ ?_; (rw [HZ.out]; exact aggFrame); (rfl); exact Frm.A_one _)
     )
    refine bodyPost_ret (Zah Tryz.results144 rfl (by rw [HZ.out]; exact aggFrame) (setRow_heap _ _ _ _ _ _ HD4.out)) rfl ?_
    exact ⟨by rw [HV.out]; rfl,Ext.then HX4.out (Zad _ _ _) (fun i hi=>by omega)⟩
  ·
   by_cases a:c.stripes<=f.stripe
   ·
    have HV:Hid (R.jgood c d slot i=none):=hid (by rw [HG2.out,if_pos (.inl a)])
    clear HG2
    go_wp2_with (first
     | (have hb0:=hbs; clear hbs; refine Zaa rfl 42 _ _ rfl w3.heap.size rfl (Frm.A f) _ rfl 42 ?_ hb0 ?_ ?_ ?_; (rw [HFS.out]; exact aggFrame); (rw [HFS.out,HZ.out]); exact Frm.A_one _; rw [Zag])
     | (guard_target=wpList _ _ _ (⟨none,Op.store _ _ _,_,_,_,none⟩::_) _ _; refine Zaa rfl 42 _ _ rfl (w.heap.size+1) rfl (Frm.A Frm.zero) _ rfl 42 ?_ HD4.out ?_ ?_ ?_; (rw [HZ.out]; exact aggFrame); (rfl); exact Frm.A_one _)
     )
    refine bodyPost_ret (Zah Tryz.results144 rfl (by rw [HZ.out]; exact aggFrame) (setRow_heap _ _ _ _ _ _ HD4.out)) rfl ?_
    exact ⟨by rw [HV.out]; rfl,Ext.then HX4.out (Zad _ _ _) (fun i hi=>by omega)⟩
   ·
    have HV:Hid (R.jgood c d slot i=some f):=hid (by rw [HG2.out,if_neg (fun z=>by rcases z with z | z | z; exact a z; exact HNB.out z; exact g z.1)])
    clear HG2
    go_wp2_with (first
     | (have hb0:=hbs; clear hbs; refine Zaa rfl 42 _ _ rfl w3.heap.size rfl (Frm.A f) _ rfl 42 ?_ hb0 ?_ ?_ ?_; (rw [HFS.out]; exact aggFrame); (rw [HFS.out,HZ.out]); exact Frm.A_one _; rw [Zag])
     | (guard_target=wpList _ _ _ (⟨none,Op.store _ _ _,_,_,_,none⟩::_) _ _; refine Zaa rfl 42 _ _ rfl (w.heap.size+1) rfl (Frm.A f) _ rfl 42 ?_ HD4.out ?_ ?_ ?_; (rw [HFS.out]; exact aggFrame); (rw [HFS.out,HZ.out]); exact Frm.A_one _)
     | (guard_target=wpList _ _ _ (⟨some _,Op.load _ _,_,_,_,none⟩::_) _ _; refine Zab rfl 42 _ rfl ⟨w3.heap.size,0,none⟩ rfl (Frm.A f) (by rw [HFS.out]; exact aggFrame) (Zai Zaf) ?_))
    refine bodyPost_ret (Zah Tryz.results144 rfl (by rw [HFS.out]; exact aggFrame) (setRow_heap _ _ _ _ _ _ HD4.out)) rfl ?_
    exact ⟨by rw [HV.out]; rfl,Ext.then HX4.out (Zad _ _ _) (fun i hi=>by omega)⟩
theorem newestF_neg {fs:List Frm} (h:fs≠[]) (hp:∀ f∈fs,0<=f.gen):newestF (-1) fs=newestF 0 fs:=by
 cases fs with
 | nil=>exact absurd rfl h
 | cons f t =>
  have h1:=hp f (List.mem_cons_self ..)
  show newestF (max (-1) f.gen) t=newestF (max 0 f.gen) t
  congr 1; omega
theorem newest_neg {l:List (List Frm)} (h:∀ fs∈l,fs≠[]/\∀ f∈fs,0<=f.gen) (hl:l≠[]):l.foldl newestF (-1)=newest l:=by
 cases l with
 | nil=>exact absurd rfl hl
 | cons fs t =>
  obtain ⟨h1,h2⟩:=h fs (List.mem_cons_self ..)
  show t.foldl newestF (newestF (-1) fs)=t.foldl newestF (newestF 0 fs)
  rw [newestF_neg h1 h2]
theorem pickF_app (seq:Int) (i:Nat) (st:Int) (l l':List Frm):pickF seq i st (l++l')=(pickF seq i st l).or (pickF seq i st l'):=by
 unfold pickF; rw [List.find?_append]
theorem pickF_one (seq:Int) (i:Nat) (st:Int) (f:Frm):pickF seq i st [f]=if f.gen=seq/\(i=0\/f.stripe=st) then some f else none:=by
 unfold pickF
 simp only [List.find?_cons,List.find?_nil]
 by_cases h:f.gen=seq/\(i=0\/f.stripe=st)
 ·
  rw [if_pos h]; simp [h.1]; rcases h.2 with q | q<;>simp [q]
 ·
  rw [if_neg h]
  have:(decide (f.gen=seq) && (decide (i=0) || decide (f.stripe=st)))=false:=by
   rcases hq:(decide (f.gen=seq) && (decide (i=0) || decide (f.stripe=st))) with _ | _
   ·
    rfl
   ·
    exfalso; apply h; simpa using hq
  rw [this]
def FSlotPost (w:World) (q:Rcd × Bool × Int × Option Err) (e:Ending) (w':World):Prop :=
 ∃ a c,e=.returned (.tuple #[.agg (q.1.V a c),.bool q.2.1,.int .i64 q.2.2.1,.int .i64 (okind q.2.2.2)])/\Ext w w'/\BlksAt w' a q.1.blocks/\∀ p,a=some p->w.heap.size<=p.block
set_option maxRecDepth 100000 in
set_option maxHeartbeats 3000000 in
theorem fjslot_c {S:Nat->Prop} {w:World} {r:Nat} {R:Rck} (h:FRackAt S w r R) (hn1:1<=R.l.length) (hsm:R.l.length<=8) (hrok:∀ (i s k sl st:Int) f,R.get i s k sl st=some f->f.Ok) (hrr:∀ (i s k sl st:Int) f,R.get i s k sl st=some f->f.right=true) (c:Cfg) (slot:Int) :
  Calls Tryz.prog 60 #[.pointer (some ⟨r,0,none⟩),.agg (Cfg.A c),.int .i64 slot] w (FSlotPost w (R.jslot c slot)):=by
 have hz:=zero_rec
 have hzf:=Zav
 have HZF:=hid (Frm.A_size _ Za5)
 have hb0:=built_rec0
 obtain ⟨W0,hW0⟩:∃ W,w.alloc (.cells (Cfg.A c) 74)=W:=⟨_,rfl⟩
 have x0:Ext w W0:=hW0▸(Ext.refl w).alloc _
 have hc0:W0.heap[w.heap.size]?=some (.cells (Cfg.A c) 74 (0,0)):=hW0▸heap_alloc_new _ _
 have hsz0:W0.heap.size=w.heap.size+1:=by rw [<- hW0]; simp
 obtain ⟨W1,hW1⟩:∃ W,W0.alloc (.cells (Rcd.none_.V none 0) 101)=W:=⟨_,rfl⟩
 have x1:Ext W0 W1:=hW1▸(Ext.refl W0).alloc _
 have hr1:W1.heap[w.heap.size+1]?=some (.cells (Rcd.none_.V none 0) 101 (0,0)):=by rw [<- hsz0]; exact hW1▸heap_alloc_new _ _
 have HX1:=hid (Ext.trans x0 x1)
 have HC1:=hid (Ext.at x1 hc0)
 have HD1:=hid hr1
 have H1:=hid (h.ext HX1.out)
 have HROK:=hid hrok; have HRR:=hid hrr; have HN1:=hid hn1; have HSM:=hid hsm
 have HKK:Hid (R.jknown c slot=(R.fits c && decide (0<=slot) && decide (slot < c.slots))):=hid rfl
 have HNO:=hid (fun hk:R.jknown c slot=false=>(show R.jslot c slot=(Rcd.none_,false,0,some (.fault sJSlot slot (.no 1))) by unfold Rck.jslot; rw [hk]; rfl))
 clear x0 x1 hc0 hr1 h hrok hrr hn1 hsm
 go_enter Tryz.func60,Tryz.ntmps60
 go_wp2_with (guard_target=wpList _ _ _ (⟨some _,Op.load _ _,_,_,_,none⟩::_) _ _; refine Zab rfl 74 _ rfl ⟨w.heap.size,0,none⟩ rfl (Cfg.A c) (Zas c) (Zai HC1.out) ?_)
 refine (rffits_c H1.out HN1.out c).mono ?_
 rintro e w2 ⟨rfl,x2⟩
 have HX2:=hid (Ext.trans HX1.out x2)
 have HC2:=hid (Ext.at x2 HC1.out)
 have HD2:=hid (Ext.at x2 HD1.out)
 have H2:=hid (H1.out.ext x2)
 have c4:w2.cell? ⟨w.heap.size,4,none⟩=some (.int .i64 c.slots):=(Zae HC2.out).trans (Cfg.A4 c)
 clear x2
 rcases hf:R.fits c with _ | _
 case false =>
  have HV:=hid (HNO.out (by rw [HKK.out,hf]; rfl))
  clear hf c4
  go_wp2_with (first
   | (guard_target=wpList _ _ _ (⟨some _,Op.build _ _,_,_,_,none⟩::_) _ _; refine Zal rfl 101 _ rfl (Rcd.none_.V none 0) ?_ ?_; exact hb0)
   | (guard_target=wpList _ _ _ (⟨none,Op.store _ _ _,_,_,_,none⟩::_) _ _; refine Zaa rfl 101 _ _ rfl (w.heap.size+1) rfl (Rcd.none_.V none 0) _ rfl 101 (Za0 _ _ _) HD2.out rfl (V_one _ _ _) ?_))
  refine bodyPost_ret (Za2 Tryz.results60 rfl (Za0 _ _ _) (setRow_heap _ _ _ _ _ _ HD2.out)) rfl ?_
  exact ⟨none,0,by rw [HV.out]; rfl,Ext.then HX2.out (Zad _ _ _) (fun i hi=>by omega),by rw [HV.out]; intro i b hb; simp [Rcd.none_] at hb,by intro p hp; cases hp⟩
 have HF:=hid hf
 clear hf
 by_cases a0:0<=slot
 case neg =>
  have HV:=hid (HNO.out (by rw [HKK.out,HF.out,decide_eq_false a0]; rfl))
  clear c4
  go_wp2_with (first
   | (guard_target=wpList _ _ _ (⟨some _,Op.build _ _,_,_,_,none⟩::_) _ _; refine Zal rfl 101 _ rfl (Rcd.none_.V none 0) ?_ ?_; exact hb0)
   | (guard_target=wpList _ _ _ (⟨none,Op.store _ _ _,_,_,_,none⟩::_) _ _; refine Zaa rfl 101 _ _ rfl (w.heap.size+1) rfl (Rcd.none_.V none 0) _ rfl 101 (Za0 _ _ _) HD2.out rfl (V_one _ _ _) ?_))
  refine bodyPost_ret (Za2 Tryz.results60 rfl (Za0 _ _ _) (setRow_heap _ _ _ _ _ _ HD2.out)) rfl ?_
  exact ⟨none,0,by rw [HV.out]; rfl,Ext.then HX2.out (Zad _ _ _) (fun i hi=>by omega),by rw [HV.out]; intro i b hb; simp [Rcd.none_] at hb,by intro p hp; cases hp⟩
 by_cases a1:slot < c.slots
 case neg =>
  have HV:=hid (HNO.out (by rw [HKK.out,HF.out,decide_eq_true a0,decide_eq_false a1]; rfl))
  go_wp2_with (first
   | (guard_target=wpList _ _ _ (⟨some _,Op.build _ _,_,_,_,none⟩::_) _ _; refine Zal rfl 101 _ rfl (Rcd.none_.V none 0) ?_ ?_; exact hb0)
   | (guard_target=wpList _ _ _ (⟨none,Op.store _ _ _,_,_,_,none⟩::_) _ _; refine Zaa rfl 101 _ _ rfl (w.heap.size+1) rfl (Rcd.none_.V none 0) _ rfl 101 (Za0 _ _ _) HD2.out rfl (V_one _ _ _) ?_))
  refine bodyPost_ret (Za2 Tryz.results60 rfl (Za0 _ _ _) (setRow_heap _ _ _ _ _ _ HD2.out)) rfl ?_
  exact ⟨none,0,by rw [HV.out]; rfl,Ext.then HX2.out (Zad _ _ _) (fun i hi=>by omega),by rw [HV.out]; intro i b hb; simp [Rcd.none_] at hb,by intro p hp; cases hp⟩
 have HK:=hid (show R.jknown c slot=true by rw [HKK.out,HF.out,decide_eq_true a0,decide_eq_true a1]; rfl)
 have HGC:=hid (Rck.fits_good HF.out)
 have hnl:c.n=(R.l.length:Int):=by
  have hf:=HF.out
  unfold Rck.fits at hf
  simp only [Bool.and_eq_true,decide_eq_true_eq] at hf
  exact hf.1.2
 obtain ⟨k,hkk⟩:∃ k:Nat,c.k=k:=⟨c.k.toNat,by have:=HGC.out.k0; omega⟩
 have hk8:k<=8:=by have:=HGC.out.k1; have:=HGC.out.n1; omega
 have hk1:1<=k:=by have:=HGC.out.k0; omega
 obtain ⟨nn,hnn⟩:∃ nn,R.l.length=nn:=⟨_,rfl⟩
 have HNN:=hid hnn
 have HNT:=hid (show c.n.toNat=nn by omega)
 have hn8:nn<=8:=by have:=HSM.out; omega
 have HKT:=hid (show c.k.toNat=k by omega)
 have HCK:=hid hkk
 have HA:=hid (And.intro a0 a1)
 have HG:=hid (fun (d i:Nat) (hi:i < 8) (wr:World) (hx:Ext w2 wr)=>fjgood_c (H2.out.ext hx) HROK.out c HGC.out d slot HA.out.1 HA.out.2 i hi)
 have HOK:=hid (fun (d i:Nat) (f:Frm) (hf:R.jgood c d slot i=some f)=>(show f.Ok/\0<=f.gen from by
  unfold Rck.jgood at hf
  rcases hg:R.get d (Rck.jsec c slot i) 2 i (-1) with _ | g
  ·
   rw [hg] at hf; cases hf
  ·
   rw [hg] at hf
   simp only [Option.bind_some] at hf
   split at hf
   ·
    cases hf
   ·
    cases hf
    have hr:=HRR.out _ _ _ _ _ _ hg
    refine ⟨HROK.out _ _ _ _ _ _ hg,?_⟩
    unfold Frm.right Frm.isIn at hr
    simp only [Bool.and_eq_true,decide_eq_true_eq] at hr
    exact hr.2.1))
 have HALL:Hid (∀ i,R.jgoodsTo c slot i nn=R.jgoods c slot i):=hid fun i=>by unfold Rck.jgoodsTo Rck.jgoods; rw [HNT.out]
 have HSZ:=hid (show w.heap.size+1 < w2.heap.size from lt_of_block HD2.out)
 clear hkk hnn hnl HNO HKK
 go_wp2_with fail
 clear a0 a1 c4
 go_loopw [10,11] (fun m t wr=>∃ i:Nat,t=.int .i64 i/\i<=k/\m=.int .i64 (((R.jall c slot).take i).foldl newestF (-1))/\(∀ j,j < i->R.jgoods c slot j≠[])/\Ext w2 wr) (fun _ t _=>k - (intOf t).toNat)
 case atStart=>exact ⟨0,rfl,by omega,rfl,fun j hj=>absurd hj (Nat.not_lt_zero _),Ext.refl _⟩
 case round =>
  obtain ⟨i,rfl,hi,rfl,hne,hx⟩:=hrel
  have HX:=hid hx
  have HNE:=hid hne
  clear hx hne
  have c1:wr.cell? ⟨w.heap.size,1,none⟩=some (.int .i64 k):=(Zae (HX.out.at HC2.out)).trans (by rw [<- HCK.out]; exact Cfg.A1 c)
  by_cases hlt:i < k
  ·
   have i0:(i:Int) < (k:Int):=by omega
   have i1:(0:Int)<=(i:Int):=by omega
   have HI:=hid hlt
   have HTI:=hid (R.jall_take c slot (i:=i) (by rw [HKT.out]; exact hlt))
   obtain ⟨m0,hm0⟩:∃ m,((R.jall c slot).take i).foldl newestF (-1)=m:=⟨_,rfl⟩
   have HM0:=hid (show ((R.jall c slot).take (i+1)).foldl newestF (-1)=newestF m0 (R.jgoods c slot i) by rw [HTI.out,List.foldl_append,hm0]; rfl)
   rw [hm0]
   have HLOST:=hid (fun (e:R.jgoods c slot i=[])=>Rck.jslot_lost HK.out (by rw [HKT.out]; exact hlt) e)
   obtain ⟨gl,cl,hnl⟩:=fat_n (H2.out.ext HX.out)
   rw [HNN.out] at hnl
   clear hm0 HTI hlt
   go_wp2_with fail
   clear hnl c1
   go_loopw [12,10,48] (fun n m t wq=>∃ d:Nat,t=.int .i64 d/\d<=nn/\n=.int .i64 ((R.jgoodsTo c slot i d).length:Nat)/\m=.int .i64 (newestF m0 (R.jgoodsTo c slot i d))/\Ext wr wq) (fun _ _ t _=>nn - (intOf t).toNat)
   case atStart=>exact ⟨0,rfl,by omega,rfl,rfl,Ext.refl _⟩
   case round =>
    obtain ⟨d,rfl,hd,rfl,rfl,hxq⟩:=hrel
    have HXQ:=hid (Ext.trans HX.out hxq)
    have HXR:=hid hxq
    clear hxq
    have HS:=hid (R.jgoodsTo_succ c slot i d)
    have hlen:=R.jgoodsTo_len c slot i d
    by_cases hdl:d < nn
    ·
     have d0:(d:Int) < (nn:Int):=by omega
     have d1:(0:Int)<=(d:Int):=by omega
     have HD:=hid hdl
     obtain ⟨L,hL⟩:∃ L,R.jgoodsTo c slot i d=L:=⟨_,rfl⟩
     rw [hL] at hlen HS ⊢
     have HLL:=hid (show L.length<=8 by omega)
     have HCQ:=hid (HXQ.out.at HC2.out)
     clear hL hdl hlen
     go_wp2_with (guard_target=wpList _ _ _ (⟨some _,Op.load _ _,_,_,_,none⟩::_) _ _; refine Zab rfl 74 _ rfl ⟨w.heap.size,0,none⟩ rfl (Cfg.A c) (Zas c) (Zai HCQ.out) ?_)
     refine (HG.out d i (by have:=HI.out; omega) _ HXQ.out).mono ?_
     rintro e w3 ⟨rfl,x3⟩
     have hbf:(w3.alloc (.cells (Frm.A Frm.zero) 42)).heap[w3.heap.size]?=some (.cells (Frm.A Frm.zero) 42 (0,0)):=Zaf
     have HX3:=hid (Ext.trans HXR.out x3)
     clear x3
     rcases hg:R.jgood c d slot i with _ | f
     ·
      have HS2:=hid (show R.jgoodsTo c slot i (d+1)=L by rw [HS.out,hg]; simp)
      clear hg
      simp only [gotO,Option.getD_none,Option.isSome_none]
      go_wp2_with (guard_target=wpList _ _ _ (⟨none,Op.store _ _ _,_,_,_,none⟩::_) _ _; refine Zaa rfl 42 _ _ rfl w3.heap.size rfl (Frm.A Frm.zero) _ rfl 42 ?_ hbf ?_ ?_ ?_; (rw [HZF.out]; exact aggFrame); (rfl); exact Frm.A_one _; rw [Zag])
      go_roundw
      case rel=>exact ⟨d+1,by go_num,by have:=HD.out; omega,by rw [HS2.out],by rw [HS2.out],HX3.out.alloc _⟩
      case measure=>simp [intOf]; omega
     ·
      have hfo:=(HOK.out d i f hg).1
      have HFSZ:=hid (Frm.A_size f hfo)
      have HS2:=hid (show R.jgoodsTo c slot i (d+1)=L++[f] by rw [HS.out,hg]; rfl)
      have HN2:=hid (show newestF m0 (L++[f])=max (newestF m0 L) f.gen by unfold newestF; rw [List.foldl_append]; rfl)
      have c3:(w3.alloc (.cells (Frm.A f) 42)).cell? ⟨w3.heap.size,3,none⟩=some (.int .i64 f.gen):=(Zae Zaf).trans (Frm.A3 f)
      clear hg hfo
      simp only [gotO,Option.getD_some,Option.isSome_some]
      generalize newestF m0 L=mL at *
      go_wp2_with (first
       | (guard_target=wpList _ _ _ (⟨none,Op.store _ _ _,_,_,_,none⟩::_) _ _; refine Zaa rfl 42 _ _ rfl w3.heap.size rfl (Frm.A f) _ rfl 42 ?_ hbf ?_ ?_ ?_; (rw [HFSZ.out]; exact aggFrame); (rw [HFSZ.out,HZF.out]); exact Frm.A_one _; rw [Zag])
       | (guard_target=wpList _ _ _ (⟨some _,Op.call _,_,_,_,none⟩::_) _ _; refine wpList_max_int rfl _ _ 3 rfl mL f.gen rfl rfl ?_))
      go_roundw
      case rel=>exact ⟨d+1,by go_num,by have:=HD.out; omega,by rw [HS2.out,List.length_append,wwrap1 (by have:=HLL.out; omega)]; rfl,by rw [HS2.out,HN2.out],HX3.out.alloc _⟩
      case measure=>simp [intOf]; omega
    ·
     obtain rfl:nn=d:=by omega
     rw [HALL.out i]
     obtain ⟨L,hL⟩:∃ L,R.jgoods c slot i=L:=⟨_,rfl⟩
     rw [hL] at HM0 HLOST ⊢
     rw [HALL.out i,hL] at hlen
     clear HS
     by_cases hl0:L=[]
     ·
      subst hl0
      have HV:Hid (R.jslot c slot=(Rcd.none_,false,0,some (.fault sJSlot slot (.loss slot 0 1)))):=hid (HLOST.out rfl)
      have HDQ:=hid (HXQ.out.at HD2.out)
      clear HLOST hL hlen
      go_wp2_with (first
       | (guard_target=wpList _ _ _ (⟨some _,Op.build _ _,_,_,_,none⟩::_) _ _; refine Zal rfl 101 _ rfl (Rcd.none_.V none 0) ?_ ?_; exact hb0)
       | (guard_target=wpList _ _ _ (⟨none,Op.store _ _ _,_,_,_,none⟩::_) _ _; refine Zaa rfl 101 _ _ rfl (w.heap.size+1) rfl (Rcd.none_.V none 0) _ rfl 101 (Za0 _ _ _) HDQ.out rfl (V_one _ _ _) ?_))
      refine bodyPost_ret (Za2 Tryz.results60 rfl (Za0 _ _ _) (setRow_heap _ _ _ _ _ _ HDQ.out)) rfl ?_
      exact ⟨none,0,by rw [HV.out]; rfl,Ext.then (Ext.trans HX2.out HXQ.out) (Zad _ _ _) (fun i hi=>by omega),by rw [HV.out]; intro i b hb; simp [Rcd.none_] at hb,by intro p hp; cases hp⟩
     ·
      have h0:((L.length:Int) == 0)=false:=by
       rw [beq_eq_false_iff_ne]
       have:0 < L.length:=List.length_pos_iff.2 hl0
       omega
      have HGNE:=hid (show R.jgoods c slot i≠[] by rw [hL]; exact hl0)
      clear HLOST hL hlen hl0
      rw [<- HM0.out]
      go_wp2
      go_roundw
      case rel=>exact ⟨i+1,by go_num,by have:=HI.out; omega,rfl,fun j hj=>by
       by_cases e:j=i
       ·
        rw [e]; exact HGNE.out
       ·
        exact HNE.out j (by omega),HXQ.out⟩
      case measure=>simp [intOf]; have:=HI.out; omega
  ·
   obtain rfl:k=i:=by omega
   have hall:(R.jall c slot).take k=R.jall c slot:=List.take_of_length_le (by rw [Rck.jall_len,HKT.out]; exact Nat.le_refl _)
   rw [hall]
   have hnw:(R.jall c slot).foldl newestF (-1)=newest (R.jall c slot):=newest_neg (fun fs hfs=>by
    obtain ⟨j,hj,rfl⟩:=Rck.jall_mem.1 hfs
    refine ⟨HNE.out j (by rw [HKT.out] at hj; exact hj),fun f hf=>?_⟩
    unfold Rck.jgoods at hf
    obtain ⟨d,_,hd⟩:=List.mem_filterMap.1 hf
    exact (HOK.out d j f hd).2) (by
    intro e
    have:=Rck.jall_len (R:=R) (c:=c) (slot:=slot)
    rw [e,HKT.out] at this
    simp at this; omega)
   rw [hnw]
   obtain ⟨m0,hm0⟩:∃ m,newest (R.jall c slot)=m:=⟨_,rfl⟩
   have HV0:=hid (Rck.jslot_there HK.out (fun i hi=>HNE.out i (by rw [HKT.out] at hi; exact hi)) hm0)
   rw [hm0]
   clear hall hnw hm0 HNE
   obtain ⟨wB,hwB⟩:∃ W,W=wr:=⟨_,rfl⟩
   subst hwB
   have hb1:=built_rec1 m0
   obtain ⟨wA,hwA⟩:∃ W,wB.alloc (.cells ((⟨m0,0,[]⟩:Rcd).V none 0) 101)=W:=⟨_,rfl⟩
   have HWA:=hid hwA
   have xA:Ext wB wA:=hwA▸(Ext.refl wB).alloc _
   obtain ⟨g,hg⟩:∃ g,wB.heap.size=g:=⟨_,rfl⟩
   have HGG:=hid hg
   have HST:Hid (WSt wB wA g m0 ⟨m0,0,[]⟩):=hid ⟨xA,rfl,by simp,none,0,by rw [<- hg]; exact hwA▸heap_alloc_new _ _,OwnVs.nil _ _ _ _⟩
   have hbs:(wB.alloc (.cells (Rcd.none_.V none 0) 101)).heap[wB.heap.size]?=some (.cells (Rcd.none_.V none 0) 101 (0,0)):=Zaf
   have HW0':Hid (whole m0 (R.jall c slot)=wholeFrom m0 0 ⟨m0,0,[]⟩ ((R.jall c slot).drop 0)):=hid (by rw [List.drop_zero]; rfl)
   have HGE:=hid (show wB.heap.size<=g from by omega)
   have HLTG:=hid (show w.heap.size+1 < g from by have:=HSZ.out; have:=HX.out.size; omega)
   clear hwA xA hg
   go_wp2_with (first
    | (guard_target=wpList _ _ _ (⟨some _,Op.build _ _,_,_,_,none⟩::_) _ _; refine Zal rfl 101 _ rfl ((⟨m0,0,[]⟩:Rcd).V none 0) ?_ ?_; (simp only [List.map_toArray,List.map_cons,List.map_nil,Act.eval]; simp only [Array.getD_eq_getD_getElem?,List.getElem?_toArray,List.getElem?_cons_succ,List.getElem?_cons_zero,Option.getD_some]; exact hb1))
    | (guard_target=wpList _ _ _ (⟨none,Op.store _ _ _,_,_,_,none⟩::_) _ _; have hb0':=hbs; clear hbs; refine Zaa rfl 101 _ _ rfl wB.heap.size rfl ((⟨m0,0,[]⟩:Rcd).V none 0) _ rfl 101 (Za0 _ _ _) hb0' rfl (V_one _ _ _) ?_; rw [Zag,HWA.out,HGG.out]))
   clear hb1 c1
   go_loopw [17] (fun t wq=>∃ (i:Nat) (x:Rcd),t=.int .i64 i/\i<=k/\WSt wB wq g m0 x/\whole m0 (R.jall c slot)=wholeFrom m0 i x ((R.jall c slot).drop i)/\x.blocks.length=i) (fun t _=>k - (intOf t).toNat)
   case atStart=>exact ⟨0,_,rfl,by omega,HST.out,HW0'.out,rfl⟩
   case round =>
    clear HST HW0'
    obtain ⟨i,x,rfl,hi,hst,hw,hbl⟩:=hrel
    have HBL:=hid hbl
    have HST:=hid hst
    have HX4:=hid (Ext.trans HX.out hst.ext)
    have HW2:=hid hw
    clear hbl hst hw
    have c1:wr.cell? ⟨w.heap.size,1,none⟩=some (.int .i64 k):=(Zae (HX4.out.at HC2.out)).trans (by rw [<- HCK.out]; exact Cfg.A1 c)
    by_cases hlt:i < k
    ·
     have i0:(0:Int)<=(i:Int):=by omega
     have i1:(i:Int) < (k:Int):=by omega
     have HI:=hid hlt
     have hdrop:(R.jall c slot).drop i=R.jgoods c slot i::(R.jall c slot).drop (i+1):=by
      have h:=Rck.jall_at (R:=R) (c:=c) (slot:=slot) (i:=i) (by rw [HKT.out]; exact hlt)
      have hl:=(List.getElem?_eq_some_iff.1 h).1
      rw [List.drop_eq_getElem_cons hl]
      congr 1
      exact (List.getElem?_eq_some_iff.1 h).2
     have HW3:Hid (whole m0 (R.jall c slot)=wholeFrom m0 i x (R.jgoods c slot i::(R.jall c slot).drop (i+1))):=hid (by rw [HW2.out,hdrop])
     obtain ⟨gl,cl,hnl⟩:=fat_n (H2.out.ext HX4.out)
     rw [HNN.out] at hnl
     clear hdrop hlt HW2
     go_wp2_with fail
     clear hnl c1
     go_loopw [84,18] (fun t v wq=>∃ d:Nat,t=.int .i64 d/\d<=nn/\((v=.bool false/\WSt wB wq g m0 x/\pickF m0 i x.stripe (R.jgoodsTo c slot i d)=none)\/(v=.bool true/\∃ f,pickF m0 i x.stripe (R.jgoodsTo c slot i d)=some f/\WSt wB wq g m0 ⟨m0,f.stripe,x.blocks++[f.data]⟩))) (fun t _ _=>nn - (intOf t).toNat)
     case atStart=>exact ⟨0,rfl,by omega,.inl ⟨rfl,HST.out,rfl⟩⟩
     case round =>
      clear HST
      obtain ⟨d,rfl,hd,hor⟩:=hrel
      have HXQ:Hid (Ext w2 wr):=hid (Ext.trans HX.out (by
       rcases hor with ⟨_,h,_⟩ | ⟨_,_,_,h⟩
       ·
        exact h.ext
       ·
        exact h.ext))
      have HS:=hid (R.jgoodsTo_succ c slot i d)
      by_cases hdl:d < nn
      ·
       have d0:(0:Int)<=(d:Int):=by omega
       have d1:(d:Int) < (nn:Int):=by omega
       have HD:=hid hdl
       have HCQ:=hid (HXQ.out.at HC2.out)
       have HOR:=hid hor
       clear hdl hor
       go_wp2_with (guard_target=wpList _ _ _ (⟨some _,Op.load _ _,_,_,_,none⟩::_) _ _; refine Zab rfl 74 _ rfl ⟨w.heap.size,0,none⟩ rfl (Cfg.A c) (Zas c) (Zai HCQ.out) ?_)
       refine (HG.out d i (by have:=HI.out; omega) _ HXQ.out).mono ?_
       rintro e w3 ⟨rfl,x3⟩
       have hbf:(w3.alloc (.cells (Frm.A Frm.zero) 42)).heap[w3.heap.size]?=some (.cells (Frm.A Frm.zero) 42 (0,0)):=Zaf
       have HX3:=hid x3
       clear x3
       rcases hgd:R.jgood c d slot i with _ | f
       ·
        have HS2:=hid (show R.jgoodsTo c slot i (d+1)=R.jgoodsTo c slot i d by rw [HS.out,hgd]; simp)
        have hor:=HOR.out
        rw [<- HS2.out] at hor
        clear hgd
        simp only [gotO,Option.getD_none,Option.isSome_none]
        obtain ⟨w4,hw4⟩:∃ W,w3.alloc (.cells (Frm.A Frm.zero) 42)=W:=⟨_,rfl⟩
        have HW4:=hid hw4
        have x4:Ext w3 w4:=hw4▸(Ext.refl w3).alloc _
        have HXX:=hid (Ext.trans HX3.out x4)
        clear hw4 x4
        rcases hor with ⟨rfl,hst,hpk⟩ | ⟨rfl,f0,hpk,hst⟩
        ·
         have HP:=hid hpk; have HS3:=hid (hst.more HXX.out)
         clear hpk hst
         go_wp2_with (guard_target=wpList _ _ _ (⟨none,Op.store _ _ _,_,_,_,none⟩::_) _ _; refine Zaa rfl 42 _ _ rfl w3.heap.size rfl (Frm.A Frm.zero) _ rfl 42 ?_ hbf ?_ ?_ ?_; (rw [HZF.out]; exact aggFrame); (rfl); exact Frm.A_one _; rw [Zag,HW4.out])
         go_roundw
         case rel=>exact ⟨d+1,by go_num,by have:=HD.out; omega,.inl ⟨rfl,HS3.out,HP.out⟩⟩
         case measure=>simp [intOf]; have:=HD.out; omega
        ·
         have HP:=hid hpk; have HS3:=hid (hst.more HXX.out)
         clear hpk hst
         go_wp2_with (guard_target=wpList _ _ _ (⟨none,Op.store _ _ _,_,_,_,none⟩::_) _ _; refine Zaa rfl 42 _ _ rfl w3.heap.size rfl (Frm.A Frm.zero) _ rfl 42 ?_ hbf ?_ ?_ ?_; (rw [HZF.out]; exact aggFrame); (rfl); exact Frm.A_one _; rw [Zag,HW4.out])
         go_roundw
         case rel=>exact ⟨d+1,by go_num,by have:=HD.out; omega,.inr ⟨rfl,f0,HP.out,HS3.out⟩⟩
         case measure=>simp [intOf]; have:=HD.out; omega
       ·
        have hfo:=(HOK.out d i f hgd).1
        have HFO:=hid hfo
        have HFS:=hid (Frm.A_size f hfo)
        have HS2:=hid (show R.jgoodsTo c slot i (d+1)=R.jgoodsTo c slot i d++[f] by rw [HS.out,hgd]; rfl)
        have HPA:=hid (fun st=>(show pickF m0 i st (R.jgoodsTo c slot i (d+1))=(pickF m0 i st (R.jgoodsTo c slot i d)).or (if f.gen=m0/\(i=0\/f.stripe=st) then some f else none) by rw [HS2.out,pickF_app,pickF_one]))
        obtain ⟨w4,hw4⟩:∃ W,w3.alloc (.cells (Frm.A f) 42)=W:=⟨_,rfl⟩
        have HW4:=hid hw4
        have x4:Ext w3 w4:=hw4▸(Ext.refl w3).alloc _
        have HXX:=hid (Ext.trans HX3.out x4)
        obtain ⟨fb,hfb⟩:∃ b,w3.heap.size=b:=⟨_,rfl⟩
        have HFB:=hid hfb
        have HB4:Hid (w4.heap[fb]?=some (.cells (Frm.A f) 42 (0,0))):=hid (hfb▸hw4▸heap_alloc_new _ _)
        have c3:w4.cell? ⟨fb,3,none⟩=some (.int .i64 f.gen):=(Zae HB4.out).trans (Frm.A3 f)
        have c2:w4.cell? ⟨fb,2,none⟩=some (.int .i64 f.stripe):=(Zae HB4.out).trans (Frm.A2 f)
        have hor:=HOR.out
        clear hgd hfo hw4 hfb x4
        simp only [gotO,Option.getD_some,Option.isSome_some]
        rcases hor with ⟨rfl,hst,hpk⟩ | ⟨rfl,f0,hpk,hst⟩
        ·
         have HS3:=hid (hst.more HXX.out)
         have HLT:=hid (show g < fb from by have:=hst.lt; have:=HX3.out.size; have:=HFB.out; omega)
         have hpa:=HPA.out x.stripe
         rw [hpk,Option.none_or] at hpa
         have HP:=hid hpa
         have cg:w4.cell? ⟨g,1,none⟩=some (.int .i64 x.stripe):=by
          obtain ⟨_,_,_,ya,yc,h4,_⟩:=HS3.out
          exact (Zae h4).trans rfl
         clear hst hpk hpa HPA
         by_cases q1:f.gen=m0
         case neg =>
          have ab:(f.gen == m0)=false:=by simpa using q1
          have HP2:=hid (HP.out.trans (if_neg (fun z=>q1 z.1)))
          clear q1
          go_wp2_with (guard_target=wpList _ _ _ (⟨none,Op.store _ _ _,_,_,_,none⟩::_) _ _; refine Zaa rfl 42 _ _ rfl w3.heap.size rfl (Frm.A f) _ rfl 42 ?_ hbf ?_ ?_ ?_; (rw [HFS.out]; exact aggFrame); (rw [HFS.out,HZF.out]); exact Frm.A_one _; rw [Zag,HW4.out,HFB.out])
          go_roundw
          case rel=>exact ⟨d+1,by go_num,by have:=HD.out; omega,.inl ⟨rfl,HS3.out,HP2.out⟩⟩
          case measure=>simp [intOf]; have:=HD.out; omega
         have ab:(f.gen == m0)=true:=by simpa using q1
         by_cases q0:i=0
         case pos =>
          have HP2:=hid (HP.out.trans (if_pos ⟨q1,.inl q0⟩))
          have iz:¬(0:Int) < (i:Int):=by omega
          clear q1 q0
          have HBLN:=hid (show x.blocks.length < 1000 by rw [HBL.out]; have:=HI.out; omega)
          obtain ⟨va,vc,W3,a',c',W4,q1,q2,q3,q4,q5,q6,q7,q8,q9⟩:=HS3.out.take HGE.out f HFO.out HBLN.out
          have hb4:W3.heap[fb]?=some (.cells (Frm.A f) 42 (0,0)):=q4.at HB4.out (fun e=>by have:=HLT.out; omega)
          have HDA:Hid (∀ q v,(bA f.data).toList[q]?=some v->W3.cell? ((⟨fb,4,none⟩:Addr).add q)=some v):=hid (fun q v hv=>by
           have e:(⟨fb,4,none⟩:Addr).add q=⟨fb,4+q,none⟩:=by unfold Addr.add; split<;>simp_all
           rw [e,Zae hb4]
           have hq:q < 108:=by
            rcases Nat.lt_or_ge q 108 with h | h
            ·
             exact h
            ·
             rw [List.getElem?_eq_none (by rw [Array.length_toList,Za6,HFO.out.len]; exact h)] at hv; cases hv
           have h1:=Zbo f.data q (by rw [HFO.out.len]; exact hq)
           rw [Array.getElem?_toList] at hv
           rw [h1] at hv
           rw [<- hv]
           exact Frm.A4 f q (by rw [HFO.out.len]; exact hq))
          have HDS:=hid (show (bA f.data).size=108 by rw [Za6]; exact HFO.out.len)
          have HQ9:=hid q9
          clear q4 q9 hb4
          go_wp2_with (first
           | (guard_target=wpList _ _ _ (⟨none,Op.store _ _ _,_,_,_,none⟩::_) _ _; refine Zaa rfl 42 _ _ rfl w3.heap.size rfl (Frm.A f) _ rfl 42 ?_ hbf ?_ ?_ ?_; (rw [HFS.out]; exact aggFrame); (rw [HFS.out,HZF.out]); exact Frm.A_one _; rw [Zag,HW4.out,HFB.out])
           | (guard_target=wpList _ _ _ (⟨some _,Op.load _ _,_,_,_,none⟩::_) _ _; refine Zab rfl 40 _ rfl ⟨fb,4,none⟩ rfl (bA f.data) (by rw [HDS.out]; exact aggData) HDA.out ?_)
           | (guard_target=wpList _ _ _ (⟨some _,Op.buildSlice _ _ _,_,_,_,none⟩::_) _ _; refine Zaz rfl 98 120 _ rfl (bA f.data) _ _ 108 108 Tryz.underlying98 infoBlk (by omega) (by omega) rfl rfl HDS.out ?_)
           | (at_builtin; refine Zam rfl _ _ _ rfl _ _ _ _ rfl rfl q6 ?_))
          go_roundw
          case rel=>exact ⟨d+1,by go_num,by have:=HD.out; omega,.inr ⟨rfl,f,HP2.out,HQ9.out⟩⟩
          case measure=>simp [intOf]; have:=HD.out; omega
         have iz:(0:Int) < (i:Int):=by omega
         by_cases q2:f.stripe=x.stripe
         case pos =>
          have HP2:=hid (HP.out.trans (if_pos ⟨q1,.inr q2⟩))
          have ac:(f.stripe != x.stripe)=false:=by simpa using q2
          clear q1 q2 q0
          have HBLN:=hid (show x.blocks.length < 1000 by rw [HBL.out]; have:=HI.out; omega)
          obtain ⟨va,vc,W3,a',c',W4,q1,q2,q3,q4,q5,q6,q7,q8,q9⟩:=HS3.out.take HGE.out f HFO.out HBLN.out
          have hb4:W3.heap[fb]?=some (.cells (Frm.A f) 42 (0,0)):=q4.at HB4.out (fun e=>by have:=HLT.out; omega)
          have HDA:Hid (∀ q v,(bA f.data).toList[q]?=some v->W3.cell? ((⟨fb,4,none⟩:Addr).add q)=some v):=hid (fun q v hv=>by
           have e:(⟨fb,4,none⟩:Addr).add q=⟨fb,4+q,none⟩:=by unfold Addr.add; split<;>simp_all
           rw [e,Zae hb4]
           have hq:q < 108:=by
            rcases Nat.lt_or_ge q 108 with h | h
            ·
             exact h
            ·
             rw [List.getElem?_eq_none (by rw [Array.length_toList,Za6,HFO.out.len]; exact h)] at hv; cases hv
           have h1:=Zbo f.data q (by rw [HFO.out.len]; exact hq)
           rw [Array.getElem?_toList] at hv
           rw [h1] at hv
           rw [<- hv]
           exact Frm.A4 f q (by rw [HFO.out.len]; exact hq))
          have HDS:=hid (show (bA f.data).size=108 by rw [Za6]; exact HFO.out.len)
          have HQ9:=hid q9
          clear q4 q9 hb4
          go_wp2_with (first
           | (guard_target=wpList _ _ _ (⟨none,Op.store _ _ _,_,_,_,none⟩::_) _ _; refine Zaa rfl 42 _ _ rfl w3.heap.size rfl (Frm.A f) _ rfl 42 ?_ hbf ?_ ?_ ?_; (rw [HFS.out]; exact aggFrame); (rw [HFS.out,HZF.out]); exact Frm.A_one _; rw [Zag,HW4.out,HFB.out])
           | (guard_target=wpList _ _ _ (⟨some _,Op.load _ _,_,_,_,none⟩::_) _ _; refine Zab rfl 40 _ rfl ⟨fb,4,none⟩ rfl (bA f.data) (by rw [HDS.out]; exact aggData) HDA.out ?_)
           | (guard_target=wpList _ _ _ (⟨some _,Op.buildSlice _ _ _,_,_,_,none⟩::_) _ _; refine Zaz rfl 98 120 _ rfl (bA f.data) _ _ 108 108 Tryz.underlying98 infoBlk (by omega) (by omega) rfl rfl HDS.out ?_)
           | (at_builtin; refine Zam rfl _ _ _ rfl _ _ _ _ rfl rfl q6 ?_))
          go_roundw
          case rel=>exact ⟨d+1,by go_num,by have:=HD.out; omega,.inr ⟨rfl,f,HP2.out,HQ9.out⟩⟩
          case measure=>simp [intOf]; have:=HD.out; omega
         have ac:(f.stripe != x.stripe)=true:=by simpa using q2
         have HP2:=hid (HP.out.trans (if_neg (fun z=>by rcases z.2 with h | h; exact q0 h; exact q2 h)))
         clear q1 q2 q0
         go_wp2_with (guard_target=wpList _ _ _ (⟨none,Op.store _ _ _,_,_,_,none⟩::_) _ _; refine Zaa rfl 42 _ _ rfl w3.heap.size rfl (Frm.A f) _ rfl 42 ?_ hbf ?_ ?_ ?_; (rw [HFS.out]; exact aggFrame); (rw [HFS.out,HZF.out]); exact Frm.A_one _; rw [Zag,HW4.out,HFB.out])
         go_roundw
         case rel=>exact ⟨d+1,by go_num,by have:=HD.out; omega,.inl ⟨rfl,HS3.out,HP2.out⟩⟩
         case measure=>simp [intOf]; have:=HD.out; omega
        ·
         have hpa:=HPA.out x.stripe
         rw [hpk,Option.some_or] at hpa
         have HP:=hid hpa; have HS3:=hid (hst.more HXX.out)
         clear hpk hst hpa HPA c2
         by_cases q1:f.gen=m0
         ·
          have ab:(f.gen == m0)=true:=by simpa using q1
          clear q1
          go_wp2_with (guard_target=wpList _ _ _ (⟨none,Op.store _ _ _,_,_,_,none⟩::_) _ _; refine Zaa rfl 42 _ _ rfl w3.heap.size rfl (Frm.A f) _ rfl 42 ?_ hbf ?_ ?_ ?_; (rw [HFS.out]; exact aggFrame); (rw [HFS.out,HZF.out]); exact Frm.A_one _; rw [Zag,HW4.out,HFB.out])
          go_roundw
          case rel=>exact ⟨d+1,by go_num,by have:=HD.out; omega,.inr ⟨rfl,f0,HP.out,HS3.out⟩⟩
          case measure=>simp [intOf]; have:=HD.out; omega
         ·
          have ab:(f.gen == m0)=false:=by simpa using q1
          clear q1
          go_wp2_with (guard_target=wpList _ _ _ (⟨none,Op.store _ _ _,_,_,_,none⟩::_) _ _; refine Zaa rfl 42 _ _ rfl w3.heap.size rfl (Frm.A f) _ rfl 42 ?_ hbf ?_ ?_ ?_; (rw [HFS.out]; exact aggFrame); (rw [HFS.out,HZF.out]); exact Frm.A_one _; rw [Zag,HW4.out,HFB.out])
          go_roundw
          case rel=>exact ⟨d+1,by go_num,by have:=HD.out; omega,.inr ⟨rfl,f0,HP.out,HS3.out⟩⟩
          case measure=>simp [intOf]; have:=HD.out; omega
      ·
       obtain rfl:nn=d:=by omega
       rw [HALL.out i] at hor
       clear HS
       rcases hor with ⟨rfl,hst,hpk⟩ | ⟨rfl,f0,hpk,hst⟩
       ·
        have hno:whole m0 (R.jall c slot)=none:=by rw [HW3.out]; exact wholeFrom_none hpk
        have HV:Hid (R.jslot c slot=(Rcd.none_,false,m0,none)):=hid (by rw [HV0.out,hno]; rfl)
        have HDQ:=hid (HXQ.out.at HD2.out)
        clear hno hpk hst
        go_wp2_with (first
         | (guard_target=wpList _ _ _ (⟨some _,Op.build _ _,_,_,_,none⟩::_) _ _; refine Zal rfl 101 _ rfl (Rcd.none_.V none 0) ?_ ?_; exact hb0)
         | (guard_target=wpList _ _ _ (⟨none,Op.store _ _ _,_,_,_,none⟩::_) _ _; refine Zaa rfl 101 _ _ rfl (w.heap.size+1) rfl (Rcd.none_.V none 0) _ rfl 101 (Za0 _ _ _) HDQ.out rfl (V_one _ _ _) ?_))
        refine bodyPost_ret (Za2 Tryz.results60 rfl (Za0 _ _ _) (setRow_heap _ _ _ _ _ _ HDQ.out)) rfl ?_
        exact ⟨none,0,by rw [HV.out]; rfl,Ext.then (Ext.trans HX2.out HXQ.out) (Zad _ _ _) (fun i hi=>by omega),by rw [HV.out]; intro i b hb; simp [Rcd.none_] at hb,by intro p hp; cases hp⟩
       ·
        have HW4:Hid (whole m0 (R.jall c slot)=wholeFrom m0 (i+1) ⟨m0,f0.stripe,x.blocks++[f0.data]⟩ ((R.jall c slot).drop (i+1))):=hid (by rw [HW3.out]; exact wholeFrom_some hpk)
        have HS3:=hid hst
        clear hpk hst
        go_wp2
        go_roundw
        case rel=>exact ⟨i+1,_,by go_num,by have:=HI.out; omega,HS3.out,HW4.out,by simp [HBL.out]⟩
        case measure=>simp [intOf]; have:=HI.out; omega
    ·
     obtain rfl:k=i:=by omega
     have hyes:whole m0 (R.jall c slot)=some x:=by
      rw [HW2.out,List.drop_of_length_le (by rw [Rck.jall_len,HKT.out]; exact Nat.le_refl _),wholeFrom_nil]
     have HV:Hid (R.jslot c slot=(x,true,m0,none)):=hid (by rw [HV0.out,hyes]; rfl)
     have HDQ:=hid (HX4.out.at HD2.out)
     obtain ⟨_,_,hbo,ya,yc,h4,h5⟩:=HST.out
     have H4:=hid h4; have H5:=hid h5; have HBO:=hid hbo
     clear hyes h4 h5 hbo
     go_wp2_with (first
      | (guard_target=wpList _ _ _ (⟨some _,Op.load _ _,_,_,_,none⟩::_) _ _; refine Zab rfl 101 _ rfl ⟨g,0,none⟩ rfl (x.V ya yc) (Za0 _ _ _) (Zai H4.out) ?_)
      | (guard_target=wpList _ _ _ (⟨none,Op.store _ _ _,_,_,_,none⟩::_) _ _; refine Zaa rfl 101 _ _ rfl (w.heap.size+1) rfl (x.V ya yc) _ rfl 101 (Za0 _ _ _) HDQ.out rfl (V_one _ _ _) ?_))
     refine bodyPost_ret (Za2 Tryz.results60 rfl (Za0 _ _ _) (setRow_heap _ _ _ _ _ _ HDQ.out)) rfl ?_
     have e1:Only (fun k=>k=w.heap.size+1) wr (wr.setRow (w.heap.size+1) (x.V ya yc)):=Zad _ _ _
     have HLG:=HLTG.out
     obtain ⟨a2,c2,e2,h⟩:=(H5.out.only e1 (fun b hb e=>by have:=(H5.out.lt b hb).1; omega)).slice
     simp only [List.length_map] at e2
     cases e2
     refine ⟨ya,yc,by rw [HV.out]; rfl,Ext.then (Ext.trans HX2.out HX4.out) (Zad _ _ _) (fun i hi=>by omega),?_,?_⟩
     ·
      rw [HV.out]
      rcases h with ⟨h0,rfl⟩ | ⟨g2,rfl,_,_,_,hv⟩
      ·
       have:x.blocks=[]:=by simpa using h0
       intro i b hb
       simp [this] at hb
      ·
       exact BlksAt.of_vs HBO.out hv
     ·
      intro p hp
      rcases h with ⟨h0,rfl⟩ | ⟨g2,rfl,hg2,_⟩
      ·
       cases hp
      ·
       cases hp; show w.heap.size<=g2; omega
end Go.Proofs.YtgjnnbomnoafcaaGreatDoor
