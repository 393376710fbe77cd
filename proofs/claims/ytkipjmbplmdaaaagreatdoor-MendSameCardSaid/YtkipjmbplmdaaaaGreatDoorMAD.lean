/- Texts of one proof, joined: VolRack, MendA, MendB, MendC, MendD. -/
import Derived.Test.YtkipjmbplmdaaaaGreatDoorMS
import Derived.Test.YtkipjmbplmdaaaaGreatDoorMAB
import Derived.Test.YtkipjmbplmdaaaaGreatDoorMO
import Derived.Test.YtkipjmbplmdaaaaGreatDoorMQ
import Derived.Test.YtkipjmbplmdaaaaGreatDoorMH
import Derived.Test.YtkipjmbplmdaaaaGreatDoorMR
import Derived.Test.YtkipjmbplmdaaaaGreatDoorMV
import Derived.Test.YtkipjmbplmdaaaaGreatDoorMA
import Derived.Test.YtkipjmbplmdaaaaGreatDoorMT
import Derived.Test.YtkipjmbplmdaaaaGreatDoorMP
import Derived.Test.YtkipjmbplmdaaaaGreatDoorMJ
set_option linter.unusedVariables false
set_option linter.unusedSimpArgs false
namespace Go.Proofs.YtkipjmbplmdaaaaGreatDoor
set_option linter.unusedVariables false
open Go Go.RowKit
theorem vrack_c {w:World} {g r:Nat} {v:Vol} (h:VolAt w g r v):Calls Tryz.prog 40 #[.pointer (some ⟨g,0,none⟩)] w fun e w'=>e=.returned (.pointer (some ⟨r,0,none⟩))/\w=w':=by
 have c0:=h.rack
 clear h
 go_enter Tryz.func40,Tryz.ntmps40
 go_wp2
 go_ret
 exact ⟨rfl,rfl⟩
attribute [local irreducible] wpSQ
def MendAt (w:World) (p g:Nat) (a:Int):Prop:=w.heap[p]?=some (.cells #[.pointer (some ⟨g,0,none⟩),.int .i64 a] 82 (0,0))
namespace MendAt
variable {w w':World} {p g:Nat} {a:Int}
theorem c0 (h:MendAt w p g a):w.cell? ⟨p,0,none⟩=some (.pointer (some ⟨g,0,none⟩)):=(Zag h).trans rfl
theorem c1 (h:MendAt w p g a):w.cell? ⟨p,1,none⟩=some (.int .i64 a):=(Zag h).trans rfl
theorem ext (h:MendAt w p g a) (e:Ext w w'):MendAt w' p g a:=e.at h
theorem set (h:MendAt w p g a) (x:Int):MendAt (w.setCell ⟨p,1,none⟩ (.int .i64 x)) p g x:=Zaz h (i:=1) (.int .i64 x)
end MendAt
theorem built_mend (g:Nat):Tryz.prog.built 82 [(0,.pointer (some ⟨g,0,none⟩))]=some #[.pointer (some ⟨g,0,none⟩),.int .i64 0]:=by kernel_rfl
theorem mnew_c (g:Nat) (w:World):Calls Tryz.prog 11 #[.pointer (some ⟨g,0,none⟩)] w fun e w'=>∃ p,e=.returned (.pointer (some ⟨p,0,none⟩))/\w.heap.size<=p/\MendAt w' p g 0/\Ext w w':=by
 have HB:=built_mend g
 go_enter Tryz.func11,Tryz.ntmps11
 go_wp2
 go_ret
 exact ⟨_,rfl,Nat.le_refl _,heap_alloc_new _ _,(Ext.refl w).alloc _⟩
theorem mat_c {w:World} {p g:Nat} {a:Int} (h:MendAt w p g a):Calls Tryz.prog 13 #[.pointer (some ⟨p,0,none⟩)] w fun e w'=>e=.returned (.int .i64 a)/\w=w':=by
 have c1:=h.c1
 clear h
 go_enter Tryz.func13,Tryz.ntmps13
 go_wp2
 go_ret
 exact ⟨rfl,rfl⟩
theorem mgroups_c (c:Cfg) (hc:c.Good) (w:World):Calls Tryz.prog 12 #[.agg (Cfg.A c)] w fun e w'=>e=.returned (.int .i64 c.groups)/\Ext w w':=by
 obtain ⟨W1,hW1⟩:∃ W,w.alloc (.cells (Cfg.A c) 23)=W:=⟨_,rfl⟩
 have X1:=hid (show Ext w W1 from hW1▸(Ext.refl w).alloc _)
 have B1:W1.heap[w.heap.size]?=some (.cells (Cfg.A c) 23 (0,0)):=hW1▸heap_alloc_new _ _
 have c3:W1.cell? ⟨w.heap.size,3,none⟩=some (.int .i64 c.stripes):=(Zag B1).trans (Cfg.A3 c)
 have c4:W1.cell? ⟨w.heap.size,4,none⟩=some (.int .i64 c.slots):=(Zag B1).trans (Cfg.A4 c)
 have s0:=hc.sl0; have s1:=hc.sl1; have t0:=hc.st0; have t1:=hc.st1
 have g1:wrap64 (1+c.slots)=1+c.slots:=by unfold wrap64; omega
 have g2:IntKind.i64.wrap (1+c.slots+c.stripes)=1+c.slots+c.stripes:=by rw [IntKind.wrap_i64]; omega
 clear B1 hc s0 s1 t0 t1
 go_enter Tryz.func12,Tryz.ntmps12
 go_wp2
 go_ret
 exact ⟨rfl,X1.out⟩
def MPutPost (S:Nat->Prop) (w:World) (r:Nat) (q:Option Err × Bool × Rck) (e:Ending) (w':World):Prop:=e=.returned (.tuple #[.bool q.2.1,oErr q.1])/\RackAt S w' r q.2.2/\Keeps S w w'
set_option maxRecDepth 100000 in
set_option maxHeartbeats 1000000 in
theorem mput_c {S:Nat->Prop} {w:World} {r:Nat} {R:Rck} (h:RackAt S w r R) (d:Nat) (sec:Int) (F:Frm) (hF:F.Ok) (o:Option Frm) (ho:∀ f,o=some f->f.Ok) :
  Calls Tryz.prog 71 #[.pointer (some ⟨r,0,none⟩),.int .i64 d,.int .i64 sec,.agg (Frm.A F),.agg (Frm.A (o.getD Frm.zero)),.bool o.isSome] w (MPutPost S w r (R.mput d sec F o)):=by
 obtain ⟨H,hH⟩:∃ H,o.getD Frm.zero=H:=⟨_,rfl⟩
 have hHok:H.Ok:=by
  rw [<- hH]
  cases o with
  | none=>exact Za7
  | some f=>exact ho f rfl
 rw [hH]
 obtain ⟨W1,hW1⟩:∃ W,w.alloc (.cells (Frm.A F) 129)=W:=⟨_,rfl⟩
 have x1:Ext w W1:=hW1▸(Ext.refl w).alloc _
 have b1:W1.heap[w.heap.size]?=some (.cells (Frm.A F) 129 (0,0)):=hW1▸heap_alloc_new _ _
 have hsz0:W1.heap.size=w.heap.size+1:=by rw [<- hW1]; simp
 obtain ⟨W2,hW2⟩:∃ W,W1.alloc (.cells (Frm.A H) 129)=W:=⟨_,rfl⟩
 have x2:Ext W1 W2:=hW2▸(Ext.refl W1).alloc _
 have b2:W2.heap[w.heap.size+1]?=some (.cells (Frm.A H) 129 (0,0)):=by rw [<- hsz0]; exact hW2▸heap_alloc_new _ _
 have X2:=hid (Ext.trans x1 x2)
 have B1:=hid (Ext.at x2 b1)
 have B2:=hid b2
 have H2:=hid (h.ext X2.out)
 have HFO:=hid hF
 have SF:=hid (Frm.A_size F hF)
 have SH:=hid (Frm.A_size H hHok)
 have GF:=hid (show AggType Tryz.prog 129 (Frm.A F).size by rw [SF.out]; exact aggFrame)
 have GH:=hid (show AggType Tryz.prog 129 (Frm.A H).size by rw [SH.out]; exact aggFrame)
 have HE:=hid (frame_eql H F hHok hF)
 have HO:=hid hH
 clear x1 x2 b1 b2 h hF ho hHok hH
 by_cases hq:o=some F
 ·
  subst hq
  have hHF:H=F:=HO.out.symm
  subst hHF
  have HE2:=hid (show ∀ w,(binOp .eql 129 (.agg (Frm.A H)) (.agg (Frm.A H))).run Tryz.prog w=.ok (.bool true) w from fun w=>by rw [HE.out w,Frm.eqB_self])
  have HV:=hid (show R.mput d sec H (some H)=(none,false,R) from if_pos rfl)
  simp only [Option.isSome_some]
  clear HE HO
  go_enter Tryz.func71,Tryz.ntmps71
  go_wp2_with (first
   | (guard_target=wpList _ _ _ (⟨some _,Op.load _ _,_,_,_,some _⟩::_) _ _; refine Zau 129 _ rfl ⟨w.heap.size+1,0,none⟩ rfl (Frm.A H) rfl GH.out (Zae B2.out) ?_)
   | (guard_target=wpList _ _ _ (⟨some _,Op.load _ _,_,_,_,some _⟩::_) _ _; refine Zau 129 _ rfl ⟨w.heap.size,0,none⟩ rfl (Frm.A H) rfl GH.out (Zae B1.out) ?_)
   | (guard_target=wpList _ _ _ (⟨some _,Op.binOp _ _ _ _ _,_,_,_,some _⟩::_) _ _; refine Zbs .eql 129 _ _ _ rfl (Frm.A H) (Frm.A H) rfl rfl (.bool true) rfl (Zcv _ _ _ _ _ _) (HE2.out _) ?_))
  go_ret2
  exact ⟨by rw [HV.out]; rfl,by rw [HV.out]; exact H2.out,Ext.only X2.out⟩
 ·
  have HV:=hid (show R.mput d sec F o=match R.write d sec F.put with
   | (some e,R')=>(some e,false,R')
   | (none,R')=>(none,true,R') from if_neg hq)
  have main:∀ (b:Bool),(b=true->∀ w,(binOp .eql 129 (.agg (Frm.A H)) (.agg (Frm.A F))).run Tryz.prog w=.ok (.bool false) w) ->
    Calls Tryz.prog 71 #[.pointer (some ⟨r,0,none⟩),.int .i64 d,.int .i64 sec,.agg (Frm.A F),.agg (Frm.A H),.bool b] w (MPutPost S w r (R.mput d sec F o)):=by
   intro b hb
   have HB:=hid hb
   clear HE HO hq hb
   go_enter Tryz.func71,Tryz.ntmps71
   rcases b with _ | _
   ·
    go_wp2_with (guard_target=wpList _ _ _ (⟨some _,Op.load _ _,_,_,_,none⟩::_) _ _; refine Zac rfl 129 _ rfl ⟨w.heap.size,0,none⟩ rfl (Frm.A F) GF.out (Zae B1.out) ?_)
    refine (fput_b F W2 HFO.out).mono ?_
    rintro e V2 ⟨fa,fn,rfl,hbt,_,xf⟩
    have HBT:=hid hbt
    have H3:=hid (H2.out.ext xf)
    have X3:=hid (Ext.trans X2.out xf)
    clear hbt xf
    go_wp2_with fail
    refine (at_write H3.out d sec fa fn fn _ HBT.out).mono ?_
    rintro e V4 ⟨rfl,h4,k4⟩
    rcases hw:R.write d sec F.put with ⟨o2,Rn⟩
    rw [hw] at h4
    have HV2:=hid (show R.mput d sec F o=match (o2,Rn) with
     | (some e,R')=>(some e,false,R')
     | (none,R')=>(none,true,R') from by rw [HV.out,hw])
    have H4:=hid h4
    have K4:=hid (show Keeps S w V4 from Only.trans (Ext.only X3.out) k4 fun _ _ q=>q)
    clear h4 k4 hw
    simp only
    rcases o2 with _ | er
    ·
     simp only [oErr]
     go_wp2
     go_ret2
     exact ⟨by rw [HV2.out]; rfl,by rw [HV2.out]; exact H4.out,K4.out⟩
    ·
     simp only [oErr]
     obtain ⟨et,ev,hev⟩:=er.iface
     have HEV:=hid hev
     rw [hev]
     clear hev
     go_wp2
     go_ret2
     rw [HV2.out]
     exact ⟨by rw [<- HEV.out]; rfl,H4.out,K4.out⟩
   ·
    have HE2:=hid (HB.out rfl)
    go_wp2_with (first
     | (guard_target=wpList _ _ _ (⟨some _,Op.load _ _,_,_,_,some _⟩::_) _ _; refine Zau 129 _ rfl ⟨w.heap.size+1,0,none⟩ rfl (Frm.A H) rfl GH.out (Zae B2.out) ?_)
     | (guard_target=wpList _ _ _ (⟨some _,Op.load _ _,_,_,_,some _⟩::_) _ _; refine Zau 129 _ rfl ⟨w.heap.size,0,none⟩ rfl (Frm.A F) rfl GF.out (Zae B1.out) ?_)
     | (guard_target=wpList _ _ _ (⟨some _,Op.binOp _ _ _ _ _,_,_,_,some _⟩::_) _ _; refine Zbs .eql 129 _ _ _ rfl (Frm.A H) (Frm.A F) rfl rfl (.bool false) rfl (Zcv _ _ _ _ _ _) (HE2.out _) ?_)
     | (guard_target=wpList _ _ _ (⟨some _,Op.load _ _,_,_,_,none⟩::_) _ _; refine Zac rfl 129 _ rfl ⟨w.heap.size,0,none⟩ rfl (Frm.A F) GF.out (Zae B1.out) ?_))
    refine (fput_b F W2 HFO.out).mono ?_
    rintro e V2 ⟨fa,fn,rfl,hbt,_,xf⟩
    have HBT:=hid hbt
    have H3:=hid (H2.out.ext xf)
    have X3:=hid (Ext.trans X2.out xf)
    clear hbt xf
    go_wp2_with fail
    refine (at_write H3.out d sec fa fn fn _ HBT.out).mono ?_
    rintro e V4 ⟨rfl,h4,k4⟩
    rcases hw:R.write d sec F.put with ⟨o2,Rn⟩
    rw [hw] at h4
    have HV2:=hid (show R.mput d sec F o=match (o2,Rn) with
     | (some e,R')=>(some e,false,R')
     | (none,R')=>(none,true,R') from by rw [HV.out,hw])
    have H4:=hid h4
    have K4:=hid (show Keeps S w V4 from Only.trans (Ext.only X3.out) k4 fun _ _ q=>q)
    clear h4 k4 hw
    simp only
    rcases o2 with _ | er
    ·
     simp only [oErr]
     go_wp2
     go_ret2
     exact ⟨by rw [HV2.out]; rfl,by rw [HV2.out]; exact H4.out,K4.out⟩
    ·
     simp only [oErr]
     obtain ⟨et,ev,hev⟩:=er.iface
     have HEV:=hid hev
     rw [hev]
     clear hev
     go_wp2
     go_ret2
     rw [HV2.out]
     exact ⟨by rw [<- HEV.out]; rfl,H4.out,K4.out⟩
  refine main o.isSome fun hb w=>?_
  rw [HE.out w]
  rcases o with _ | f
  ·
   cases hb
  ·
   have hHf:f=H:=HO.out
   rw [show H.eqB F=false from by
    rcases z:H.eqB F with _ | _
    ·
     rfl
    ·
     exact absurd (by rw [hHf,(Frm.eqB_iff _ _).1 z]) hq]
theorem JPut.start {S:Nat->Prop} {w W:World} {r:Nat} {R:Rck} (h:RackAt S w r R) (x:Ext w W):JPut S w W r R W:=⟨h.more x fun b hb=>by
  have:=x.size
  rcases hb with hb | hb
  ·
   exact ⟨by have:=h.there b hb; omega,.inl hb⟩
  ·
   exact ⟨hb.2,.inr hb.1⟩,Only.refl _ _⟩
set_option maxRecDepth 100000 in
set_option maxHeartbeats 1000000 in
theorem mflush_c {S:Nat->Prop} {w:World} {r:Nat} {R:Rck} (h:RackAt S w r R) (n:Nat) :
  Calls Tryz.prog 74 #[.pointer (some ⟨r,0,none⟩),.int .i64 n] w fun e w'=>e=.returned (oErr (R.mflush n).1)/\RackAt S w' r (R.mflush n).2/\Keeps S w w':=by
 have H:=hid h
 clear h
 go_enter Tryz.func74,Tryz.ntmps74
 by_cases hn0:n=0
 ·
  subst hn0
  have HV:=hid (show R.mflush 0=(none,R) from if_pos rfl)
  rw [show ((0:Nat):Int)=0 from rfl]
  go_wp2
  go_ret
  exact ⟨by rw [HV.out]; rfl,by rw [HV.out]; exact H.out,Only.refl _ _⟩
 ·
  have HV:=hid (show R.mflush n=each (fun R d=>R.flush (d:Nat)) R.online R from if_neg hn0)
  have nb:((n:Int) == 0)=false:=by simp; omega
  clear hn0
  go_wp2_with fail
  refine (Zbi H.out).mono ?_
  rintro e W2 ⟨v,rfl,hown,x2⟩
  obtain ⟨oa,oc,rfl,hcell⟩:=hown.slice
  obtain ⟨L,hL⟩:∃ L,R.online=L:=⟨_,rfl⟩
  have hLn:L.length<=8:=by rw [<- hL]; have:=R.online_len; have:=H.out.disks8; omega
  have HL:=hid hL
  rw [hL] at hcell ⊢
  have HX:=hid x2
  have HON:Hid (∀ wr,Only (fun b=>¬PutT S w.heap.size W2.heap.size b) W2 wr->∀ j d:Nat,L[j]?=some d->∃ g,oa=some ⟨g,0,none⟩/\wr.cell? ⟨g,j,none⟩=some (.int .i64 d)):=hid fun wr e j d hd=>by
   rcases hcell with ⟨q,_⟩ | ⟨g,q1,q2,q3,q4,q5⟩
   ·
    subst q; simp at hd
   ·
    have hjl:j < L.length:=by
     rcases Nat.lt_or_ge j L.length with q | q
     ·
      exact q
     ·
      rw [List.getElem?_eq_none q] at hd; cases hd
    refine ⟨g,q1,e.cell ?_ (fun q=>q (.inr ⟨q2,q3⟩))⟩
    rw [q5 j hjl]
    have:L.getD j 0=d:=by rw [List.getD_eq_getElem?_getD,hd]; rfl
    rw [this]; rfl
  have HST:=hid (JPut.start H.out HX.out)
  clear hcell hown x2 hL nb
  go_wp2
  go_loopw [13] (fun v wx=>∃ (m:Nat) (Rm:Rck),v=.int .i64 m/\m<=L.length/\each (fun R d=>R.flush (d:Nat)) (L.take m) R=(none,Rm)/\JPut S w W2 r Rm wx) (fun v _=>L.length - (intOf v).toNat)
  case atStart=>exact ⟨0,R,rfl,by omega,rfl,HST.out⟩
  case round =>
   clear HST
   obtain ⟨m,Rm,rfl,hm,hem,hst⟩:=hrel
   have HEM:=hid hem; have HS:=hid hst
   clear hem hst
   by_cases hlt2:m < L.length
   ·
    have j0:(0:Int)<=(m:Int):=by omega
    have j1:(m:Int) < (L.length:Int):=by omega
    obtain ⟨d,hd⟩:∃ d,L[m]?=some d:=⟨L[m],List.getElem?_eq_getElem hlt2⟩
    obtain ⟨g,rfl,cd⟩:=HON.out _ HS.out.keeps m d hd
    have HD:=hid hd
    clear hd
    go_wp2_with fail
    refine (at_flush HS.out.rack d).mono ?_
    rintro e W4 ⟨rfl,h4,k4⟩
    rcases hw:Rm.flush d with ⟨o,Rn⟩
    rw [hw] at h4
    simp only at h4 ⊢
    have HST4:=hid (JPut.step HS.out h4 k4)
    have HW:=hid hw
    clear h4 k4 hw
    rcases o with _ | er
    ·
     have HE1:=hid (Zbk (f:=fun R d=>R.flush (d:Nat)) HD.out HEM.out HW.out)
     simp only [oErr]
     go_wp2
     exact ⟨⟨m+1,Rn,by go_num,by omega,HE1.out,HST4.out⟩,by simp [intOf]; omega⟩
    ·
     have HE3:Hid (R.mflush n=(some er,Rn)):=hid (by rw [HV.out,HL.out]; exact Zbp HD.out HEM.out HW.out)
     obtain ⟨et,ev,hev⟩:=er.iface
     have HEV:=hid hev
     simp only [oErr]
     rw [hev]
     clear hev
     go_wp2
     go_ret
     rw [HE3.out]
     exact ⟨(congrArg Ending.returned HEV.out).symm,HST4.out.out HX.out⟩
   ·
    obtain rfl:m=L.length:=by omega
    have HE3:Hid (R.mflush n=(none,Rm)):=hid (by rw [HV.out,HL.out,<- HEM.out,List.take_length])
    go_wp2
    go_ret
    rw [HE3.out]
    exact ⟨rfl,HS.out.out HX.out⟩
end Go.Proofs.YtkipjmbplmdaaaaGreatDoor
namespace Go.Proofs.YtkipjmbplmdaaaaGreatDoor
set_option linter.unusedVariables false
open Go Go.RowKit
attribute [local irreducible] wpSQ
theorem JPut.ext {S:Nat->Prop} {w W:World} {r:Nat} {R:Rck} {wr w4:World} (h:JPut S w W r R wr) (e:Ext wr w4):JPut S w W r R w4:=⟨h.rack.ext e,Only.ext h.keeps e⟩
theorem Zcn {α:Type} {f:Rck->α->Option Err × Bool × Rck} {l:List α} {i n:Nat} {b:α} {R R1 R2:Rck} {did:Bool} {n0:Nat} (hi:l[i]?=some b) (h:meach f (l.take i) R n0=(none,n,R1)) (h2:f R1 b=(none,did,R2)):meach f (l.take (i+1)) R n0=(none,if did then n+1 else n,R2):=by
 have hlt:i < l.length:=by
  rcases Nat.lt_or_ge i l.length with q | q
  ·
   exact q
  ·
   rw [List.getElem?_eq_none q] at hi; cases hi
 rw [List.getElem?_eq_getElem hlt] at hi
 rw [List.take_succ_eq_append_getElem hlt,Option.some.inj hi,Zby,h]
 show meach f [b] R1 n=_
 unfold meach
 rw [h2]
 cases did<;>rfl
theorem meach_mid {α:Type} {f:Rck->α->Option Err × Bool × Rck} {l:List α} {i n:Nat} {b:α} {R R1 R2:Rck} {did:Bool} {er:Err} {n0:Nat} (hi:l[i]?=some b) (h:meach f (l.take i) R n0=(none,n,R1)) (h2:f R1 b=(some er,did,R2)):meach f l R n0=(some er,n,R2):=by
 have hlt:i < l.length:=by
  rcases Nat.lt_or_ge i l.length with q | q
  ·
   exact q
  ·
   rw [List.getElem?_eq_none q] at hi; cases hi
 have e:l=l.take i++(b::l.drop (i+1)):=by
  rw [List.getElem?_eq_getElem hlt] at hi
  rw [<- Option.some.inj hi,<- List.drop_eq_getElem_cons hlt,List.take_append_drop]
 conv=>lhs; rw [e,Zby,h]
 show meach f (b::l.drop (i+1)) R1 n=_
 unfold meach
 rw [h2]
def MGroupPost (S:Nat->Prop) (w:World) (r:Nat) (q:Option Err × Nat × Rck) (e:Ending) (w':World):Prop:=e=.returned (.tuple #[.int .i64 q.2.1,oErr q.1])/\RackAt S w' r q.2.2/\Keeps S w w'
set_option maxRecDepth 100000 in
set_option maxHeartbeats 2000000 in
theorem msupers_c {S:Nat->Prop} {w:World} {r g p:Nat} {R:Rck} {v:Vol} {a:Int} (h:RackAt S w r R) (hv:VolAt w g r v) (hm:MendAt w p g a) :
  Calls Tryz.prog 42 #[.pointer (some ⟨p,0,none⟩)] w (MGroupPost S w r (R.msupers v.c)):=by
 have hzc:=Zbz
 have HCS:=hid Cfg.A_size
 have H:=hid h; have HV:=hid hv; have HM:=hid hm
 obtain ⟨c,hc⟩:∃ c,v.c=c:=⟨_,rfl⟩
 rw [hc]
 have HC:=hid hc
 have hN8:=h.disks8
 clear h hv hm hc
 have xd:Ext w w.drew:=(Ext.refl w).drew
 have HXD:=hid xd
 have m0:∀ x:ExtW w.drew,x.w.cell? ⟨p,0,none⟩=some (.pointer (some ⟨g,0,none⟩)):=fun x=>(HM.out.ext (Ext.trans HXD.out x.ext)).c0
 have R1:Hid (∀ x:ExtW w.drew,Calls Tryz.prog 40 #[.pointer (some ⟨g,0,none⟩)] x.w fun e w''=>e=.returned (.pointer (some ⟨r,0,none⟩))/\Ext x.w w''):=hid fun x=>(vrack_c (HV.out.ext (Ext.trans HXD.out x.ext))).mono fun e w'' q=>⟨q.1,q.2▸Ext.refl _⟩
 have C1:Hid (∀ x:ExtW w.drew,Calls Tryz.prog 39 #[.pointer (some ⟨g,0,none⟩)] x.w fun e w''=>e=.returned (.agg (Cfg.A c))/\Ext x.w w''):=hid fun x=>by
  have:=vconfig_c (HV.out.ext (Ext.trans HXD.out x.ext))
  rw [HC.out] at this; exact this
 clear xd
 go_enter Tryz.func42,Tryz.ntmps42
 go_wp2_with fail
 refine Zbh 11 (.one [0,1,2,3,4,5,6,7,8,9] 10 (.fin [])) (by kernel_rfl) (by kernel_rfl) (fun _ _ d _ _ h=>by cases d<;>exact h) ?_
 rw [wpE]
 simp only [opsAt,opA,opB,opC,opD,opE,opF,opG]
 iterate 4 ((refine Za9 (fun K hK=>?_); go_simp; refine hK _ ?_; clear hK K))
 (refine Za9 (fun K hK=>?_); go_simp; (apply Exists.intro; refine ⟨fun x=>?_,hK _ ?_⟩; (exact R1.out x); clear hK K))
 iterate 4 ((refine Za9 (fun K hK=>?_); go_simp; refine hK _ ?_; clear hK K))
 (refine Za9 (fun K hK=>?_); go_simp; (apply Exists.intro; refine ⟨fun x=>?_,hK _ ?_⟩; (exact C1.out x); clear hK K))
 refine Zcg ?_
 intro V1 hV1
 have X1:=hid (Ext.trans HXD.out hV1)
 clear m0 R1 C1 HXD hV1
 refine wpE_loud fun K hK=>?_
 go_wp2
 refine hK _ _ ((Ext.refl V1).alloc _) ?_
 clear hK K
 have hz1:(V1.alloc (.cells (Cfg.A Cfg.zero) 23)).heap[V1.heap.size]?=some (.cells (Cfg.A Cfg.zero) 23 (0,0)):=Zad
 have hg1:w.heap.size<=V1.heap.size:=X1.out.size
 have hx1:Ext w (V1.alloc (.cells (Cfg.A Cfg.zero) 23)):=X1.out.alloc _
 rw [wpE]
 simp only [opsAt,List.map_nil]
 refine Zcg ?_
 intro V2 hV2
 have hz2:=hV2.at hz1
 have hx2:=Ext.trans hx1 hV2
 generalize V1.heap.size=gc at *
 have HGC:=hid hg1; have HZ2:=hid hz2
 obtain ⟨W3,hW3⟩:∃ W,V2.setRow gc (Cfg.A c)=W:=⟨_,rfl⟩
 have HX3:=hid (show Ext w W3 from hW3▸Ext.then hx2 (Zaf V2 gc (Cfg.A c)) (fun i hi=>by have:=HGC.out; omega))
 have HG3:=hid (show W3.heap[gc]?=some (.cells (Cfg.A c) 23 (0,0)) from hW3▸setRow_heap V2 gc _ _ _ _ hz2)
 have HW3:=hid hW3
 clear hz1 hg1 hx1 hV2 hz2 hx2 hW3 X1
 simp only [List.drop_succ_cons,List.drop_zero]
 go_wp2_with (guard_target=wpList _ _ _ (⟨none,Op.store _ _ _,_,_,_,none⟩::_) _ _; refine Zaa rfl 23 _ _ rfl gc rfl (Cfg.A c) _ rfl 23 ?_ HZ2.out ?_ ?_ ?_; (rw [HCS.out]; exact aggCfg); (rw [HCS.out,HCS.out]); exact Cfg.A_one _)
 rw [HW3.out]
 refine (Zbi (H.out.ext HX3.out)).mono ?_
 rintro e W2 ⟨ov,rfl,hown,x2⟩
 obtain ⟨oa,oc,rfl,hcell⟩:=hown.slice
 obtain ⟨L,hL⟩:∃ L,R.online=L:=⟨_,rfl⟩
 have hLn:L.length<=8:=by rw [<- hL]; have:=R.online_len; omega
 have HL:=hid hL
 rw [hL] at hcell ⊢
 have HX2:=hid (Ext.trans HX3.out x2)
 have HGW:=hid (x2.at HG3.out)
 have HPC:Hid (PutT S w.heap.size W2.heap.size gc):=hid (.inr ⟨HGC.out,lt_of_block HGW.out⟩)
 have HON:Hid (∀ wr,Only (fun b=>¬PutT S w.heap.size W2.heap.size b) W2 wr->∀ j d:Nat,L[j]?=some d->∃ g,oa=some ⟨g,0,none⟩/\wr.cell? ⟨g,j,none⟩=some (.int .i64 d)):=hid fun wr e j d hd=>by
  rcases hcell with ⟨q,_⟩ | ⟨g,q1,q2,q3,q4,q5⟩
  ·
   subst q; simp at hd
  ·
   have hjl:j < L.length:=by
    rcases Nat.lt_or_ge j L.length with q | q
    ·
     exact q
    ·
     rw [List.getElem?_eq_none q] at hd; cases hd
   refine ⟨g,q1,e.cell ?_ (fun q=>q (.inr ⟨Nat.le_trans HX3.out.size q2,q3⟩))⟩
   rw [q5 j hjl]
   have:L.getD j 0=d:=by rw [List.getD_eq_getElem?_getD,hd]; rfl
   rw [this]; rfl
 have HST:=hid (JPut.start H.out HX2.out)
 clear hcell hown x2 hL HZ2 hN8 HW3
 go_wp2
 go_loopw [6,25] (fun nv u wr=>∃ (j n:Nat) (Rj:Rck),u=.int .i64 j/\nv=.int .i64 n/\j<=L.length/\n<=j/\meach (Rck.msuper c) (L.take j) R 0=(none,n,Rj)/\JPut S w W2 r Rj wr) (fun _ u _=>L.length - (intOf u).toNat)
 case atStart=>exact ⟨0,0,R,rfl,rfl,by omega,by omega,rfl,HST.out⟩
 case round =>
  clear HST
  obtain ⟨j,n,Rj,rfl,rfl,hj,hnj,hej,hst⟩:=hrel
  have HEJ:=hid hej; have HS:=hid hst
  clear hej hst
  by_cases hlt:j < L.length
  ·
   have j0:(0:Int)<=(j:Int):=by omega
   have j1:(j:Int) < (L.length:Int):=by omega
   have n0:(0:Int)<=(n:Int):=by omega
   have n8:(n:Int)<=8:=by omega
   obtain ⟨d,hd⟩:∃ d,L[j]?=some d:=⟨L[j],List.getElem?_eq_getElem hlt⟩
   obtain ⟨go,rfl,cd⟩:=HON.out wr HS.out.keeps j d hd
   have HD:=hid hd
   clear hd
   go_wp2_with fail
   refine (spget_c HS.out.rack d).mono ?_
   rintro e w3 ⟨rfl,x3⟩
   have HS3:=hid (HS.out.ext x3)
   clear x3
   rcases ho:Rj.superGet (d:Int) with _ | x
   ·
    have HB:=hid (show Rck.msuper c Rj d=match Rj.superPut c d with
     | (some e,R')=>(some e,false,R')
     | (none,R')=>(none,true,R') from if_neg (by rw [ho]; simp))
    clear ho
    simp only [toldO,Option.getD_none,Option.isSome_none]
    have HS4:=hid (HS3.out.ext ((Ext.refl w3).alloc (.cells (Cfg.A Cfg.zero) 23)))
    have hbs:(w3.alloc (.cells (Cfg.A Cfg.zero) 23)).heap[w3.heap.size]?=some (.cells (Cfg.A Cfg.zero) 23 (0,0)):=Zad
    have HG4:=hid (HS4.out.keeps.at HGW.out (fun q=>q HPC.out))
    go_wp2_with (first
     | (guard_target=wpList _ _ _ (⟨none,Op.store _ _ _,_,_,_,none⟩::_) _ _; refine Zaa rfl 23 _ _ rfl w3.heap.size rfl (Cfg.A Cfg.zero) _ rfl 23 ?_ hbs ?_ ?_ ?_; (rw [HCS.out]; exact aggCfg); (rfl); exact Cfg.A_one _)
     | (guard_target=wpList _ _ _ (⟨some _,Op.load _ _,_,_,_,none⟩::_) _ _; rw [Zai]; refine Zac rfl 23 _ rfl ⟨gc,0,none⟩ rfl (Cfg.A c) (Zap c) (Zae HG4.out) ?_))
    refine (sput_c HS4.out.rack c d).mono ?_
    rintro e w5 ⟨rfl,h5,k5⟩
    rcases hw:Rj.superPut c (d:Int) with ⟨o,Rn⟩
    rw [hw] at h5
    have HB2:=hid (show Rck.msuper c Rj d=match (o,Rn) with
     | (some e,R')=>(some e,false,R')
     | (none,R')=>(none,true,R') from by rw [HB.out,hw])
    have HS5:=hid (HS4.out.step h5 k5)
    clear h5 k5 hw HB
    simp only
    rcases o with _ | er
    ·
     have HN:=hid (Zcn HD.out HEJ.out HB2.out)
     simp only [oErr]
     go_wp2
     go_roundw
     case rel=>exact ⟨j+1,n+1,Rn,by go_num,by go_num,by omega,by omega,HN.out,HS5.out⟩
     case measure=>simp [intOf]; omega
    ·
     have HR:Hid (R.msupers c=(some er,n,Rn)):=hid (by
      unfold Rck.msupers
      rw [HL.out]
      exact meach_mid HD.out HEJ.out HB2.out)
     obtain ⟨et,ev,hev⟩:=er.iface
     have HEV:=hid hev
     simp only [oErr]
     rw [hev]
     clear hev
     go_wp2
     go_ret2
     rw [HR.out]
     exact ⟨by rw [<- HEV.out]; rfl,HS5.out.out HX2.out⟩
   ·
    have HE:=hid (cfg_eql x c)
    by_cases hxc:x=c
    ·
     subst hxc
     have HB:=hid (show Rck.msuper x Rj d=(none,false,Rj) from if_pos ho)
     rw [Cfg.eqB_self] at HE
     clear ho
     simp only [toldO,Option.getD_some,Option.isSome_some]
     have HS4:=hid (HS3.out.ext ((Ext.refl w3).alloc (.cells (Cfg.A x) 23)))
     have hbs:(w3.alloc (.cells (Cfg.A Cfg.zero) 23)).heap[w3.heap.size]?=some (.cells (Cfg.A Cfg.zero) 23 (0,0)):=Zad
     have HG4:=hid (HS4.out.keeps.at HGW.out (fun q=>q HPC.out))
     have HB4:Hid ((w3.alloc (.cells (Cfg.A x) 23)).heap[w3.heap.size]?=some (.cells (Cfg.A x) 23 (0,0))):=hid Zad
     go_wp2_with (first
      | (guard_target=wpList _ _ _ (⟨none,Op.store _ _ _,_,_,_,none⟩::_) _ _; refine Zaa rfl 23 _ _ rfl w3.heap.size rfl (Cfg.A x) _ rfl 23 ?_ hbs ?_ ?_ ?_; (rw [HCS.out]; exact aggCfg); (rw [HCS.out,HCS.out]); exact Cfg.A_one _)
      | (guard_target=wpList _ _ _ (⟨some _,Op.load _ _,_,_,_,some _⟩::_) _ _; rw [Zai]; refine Zau 23 _ rfl ⟨w3.heap.size,0,none⟩ rfl (Cfg.A x) rfl (Zap x) (Zae HB4.out) ?_)
      | (guard_target=wpList _ _ _ (⟨some _,Op.load _ _,_,_,_,some _⟩::_) _ _; refine Zau 23 _ rfl ⟨gc,0,none⟩ rfl (Cfg.A x) rfl (Zap x) (Zae HG4.out) ?_)
      | (guard_target=wpList _ _ _ (⟨some _,Op.binOp _ _ _ _ _,_,_,_,some _⟩::_) _ _; refine Zbs .eql 23 _ _ _ rfl (Cfg.A x) (Cfg.A x) rfl rfl (.bool true) rfl (cfg_guard _ _ _ _ _ _) (HE.out _) ?_))
     have HN:=hid (Zcn HD.out HEJ.out HB.out)
     go_roundw
     case rel=>exact ⟨j+1,n,Rj,by go_num,rfl,by omega,by omega,HN.out,HS4.out⟩
     case measure=>simp [intOf]; omega
    ·
     have HB:=hid (show Rck.msuper c Rj d=match Rj.superPut c d with
      | (some e,R')=>(some e,false,R')
      | (none,R')=>(none,true,R') from if_neg (by rw [ho]; exact fun q=>hxc (Option.some.inj q)))
     rw [show x.eqB c=false from by
      rcases hq:x.eqB c with _ | _
      ·
       rfl
      ·
       exact absurd ((Cfg.eqB_iff _ _).1 hq) hxc] at HE
     clear ho hxc
     simp only [toldO,Option.getD_some,Option.isSome_some]
     have HS4:=hid (HS3.out.ext ((Ext.refl w3).alloc (.cells (Cfg.A x) 23)))
     have hbs:(w3.alloc (.cells (Cfg.A Cfg.zero) 23)).heap[w3.heap.size]?=some (.cells (Cfg.A Cfg.zero) 23 (0,0)):=Zad
     have HG4:=hid (HS4.out.keeps.at HGW.out (fun q=>q HPC.out))
     have HB4:Hid ((w3.alloc (.cells (Cfg.A x) 23)).heap[w3.heap.size]?=some (.cells (Cfg.A x) 23 (0,0))):=hid Zad
     go_wp2_with (first
      | (guard_target=wpList _ _ _ (⟨none,Op.store _ _ _,_,_,_,none⟩::_) _ _; refine Zaa rfl 23 _ _ rfl w3.heap.size rfl (Cfg.A x) _ rfl 23 ?_ hbs ?_ ?_ ?_; (rw [HCS.out]; exact aggCfg); (rw [HCS.out,HCS.out]); exact Cfg.A_one _)
      | (guard_target=wpList _ _ _ (⟨some _,Op.load _ _,_,_,_,some _⟩::_) _ _; rw [Zai]; refine Zau 23 _ rfl ⟨w3.heap.size,0,none⟩ rfl (Cfg.A x) rfl (Zap x) (Zae HB4.out) ?_)
      | (guard_target=wpList _ _ _ (⟨some _,Op.load _ _,_,_,_,some _⟩::_) _ _; refine Zau 23 _ rfl ⟨gc,0,none⟩ rfl (Cfg.A c) rfl (Zap c) (Zae HG4.out) ?_)
      | (guard_target=wpList _ _ _ (⟨some _,Op.binOp _ _ _ _ _,_,_,_,some _⟩::_) _ _; refine Zbs .eql 23 _ _ _ rfl (Cfg.A x) (Cfg.A c) rfl rfl (.bool false) rfl (cfg_guard _ _ _ _ _ _) (HE.out _) ?_)
      | (guard_target=wpList _ _ _ (⟨some _,Op.load _ _,_,_,_,none⟩::_) _ _; refine Zac rfl 23 _ rfl ⟨gc,0,none⟩ rfl (Cfg.A c) (Zap c) (Zae HG4.out) ?_))
     refine (sput_c HS4.out.rack c d).mono ?_
     rintro e w5 ⟨rfl,h5,k5⟩
     rcases hw:Rj.superPut c (d:Int) with ⟨o,Rn⟩
     rw [hw] at h5
     have HB2:=hid (show Rck.msuper c Rj d=match (o,Rn) with
      | (some e,R')=>(some e,false,R')
      | (none,R')=>(none,true,R') from by rw [HB.out,hw])
     have HS5:=hid (HS4.out.step h5 k5)
     clear h5 k5 hw HB
     simp only
     rcases o with _ | er
     ·
      have HN:=hid (Zcn HD.out HEJ.out HB2.out)
      simp only [oErr]
      go_wp2
      go_roundw
      case rel=>exact ⟨j+1,n+1,Rn,by go_num,by go_num,by omega,by omega,HN.out,HS5.out⟩
      case measure=>simp [intOf]; omega
     ·
      have HR:Hid (R.msupers c=(some er,n,Rn)):=hid (by
       unfold Rck.msupers
       rw [HL.out]
       exact meach_mid HD.out HEJ.out HB2.out)
      obtain ⟨et,ev,hev⟩:=er.iface
      have HEV:=hid hev
      simp only [oErr]
      rw [hev]
      clear hev
      go_wp2
      go_ret2
      rw [HR.out]
      exact ⟨by rw [<- HEV.out]; rfl,HS5.out.out HX2.out⟩
  ·
   obtain rfl:L.length=j:=by omega
   have HR:Hid (R.msupers c=(none,n,Rj)):=hid (by
    unfold Rck.msupers
    rw [HL.out,<- HEJ.out,List.take_length])
   clear HON HEJ
   go_wp2
   go_ret2
   rw [HR.out]
   exact ⟨rfl,HS.out.out HX2.out⟩
end Go.Proofs.YtkipjmbplmdaaaaGreatDoor
namespace Go.Proofs.YtkipjmbplmdaaaaGreatDoor
set_option linter.unusedVariables false
open Go Go.RowKit
attribute [local irreducible] wpSQ
theorem RackAt.jslot_fit {S:Nat->Prop} {w:World} {r:Nat} {R:Rck} (h:RackAt S w r R) {c:Cfg} {s:Int} {x:Rcd} {wh:Bool} {nw:Int} (hj:R.jslot c s=(x,wh,nw,none)):c.Good/\0<=s/\s < c.slots/\x.Ok/\x.blocks.length<=8:=by
 have hk:R.jknown c s=true:=by
  rcases e:R.jknown c s with _ | _
  ·
   unfold Rck.jslot at hj
   rw [e,if_neg (by simp)] at hj
   cases hj
  ·
   rfl
 have hk2:=hk
 unfold Rck.jknown at hk2
 simp only [Bool.and_eq_true,decide_eq_true_eq] at hk2
 have hc:=Rck.fits_good hk2.1.1
 refine ⟨hc,hk2.1.2,hk2.2,?_⟩
 rcases wh with _ | _
 ·
  unfold Rck.jslot at hj
  rw [if_pos hk] at hj
  split at hj
  ·
   cases hj
  ·
   have e1:=congrArg (fun q=>q.1) hj
   have e2:=congrArg (fun q=>q.2.1) hj
   have e1:(whole (newest (R.jall c s)) (R.jall c s)).getD Rcd.none_=x:=e1
   have e2:(whole (newest (R.jall c s)) (R.jall c s)).isSome=false:=e2
   rcases z:whole (newest (R.jall c s)) (R.jall c s) with _ | y
   ·
    rw [z] at e1
    rw [<- e1]
    exact ⟨show Rcd.none_.Ok from ⟨fun b hb=>(by cases hb),fun b hb=>(by cases hb)⟩,Nat.zero_le _⟩
   ·
    rw [z] at e2; cases e2
 ·
  have:=Rck.jslot_whole (R:=R) (c:=c) (s:=s) (fun i f hf=>h.jgoods_ok f hf) hc.k0 (by rw [hj])
  rw [hj] at this
  have hn:=hc.n1
  have hk1:=hc.k1
  exact ⟨this.1,by have:=this.2.1; simp only at this; omega⟩
theorem meach_flat_next {α β:Type} {f:Rck->α->Option Err × Bool × Rck} {F:β->List α} {L:List β} {j n0 n:Nat} {d:β} {R R1 R2:Rck} (hd:L[j]?=some d) (h:meach f ((L.take j).flatMap F) R 0=(none,n0,R1)) (h2:meach f (F d) R1 n0=(none,n,R2)):meach f ((L.take (j+1)).flatMap F) R 0=(none,n,R2):=by
 have hlt:j < L.length:=by
  rcases Nat.lt_or_ge j L.length with q | q
  ·
   exact q
  ·
   rw [List.getElem?_eq_none q] at hd; cases hd
 rw [List.getElem?_eq_getElem hlt] at hd
 rw [List.take_succ_eq_append_getElem hlt,Option.some.inj hd,List.flatMap_append,Zby,h]
 show meach f (F d++[]) R1 n0=_
 rw [List.append_nil]; exact h2
theorem meach_flat_mid {α β:Type} {f:Rck->α->Option Err × Bool × Rck} {F:β->List α} {L:List β} {j n0 n:Nat} {d:β} {R R1 R2:Rck} {er:Err} (hd:L[j]?=some d) (h:meach f ((L.take j).flatMap F) R 0=(none,n0,R1)) (h2:meach f (F d) R1 n0=(some er,n,R2)):meach f (L.flatMap F) R 0=(some er,n,R2):=by
 have hlt:j < L.length:=by
  rcases Nat.lt_or_ge j L.length with q | q
  ·
   exact q
  ·
   rw [List.getElem?_eq_none q] at hd; cases hd
 have e:L=L.take j++(d::L.drop (j+1)):=by
  rw [List.getElem?_eq_getElem hlt] at hd
  rw [<- Option.some.inj hd,<- List.drop_eq_getElem_cons hlt,List.take_append_drop]
 conv=>lhs; rw [e,List.flatMap_append,Zby,h]
 show meach f (F d++(L.drop (j+1)).flatMap F) R1 n0=_
 rw [Zby,h2]
def prow (k d:Nat):List (Nat × Nat):=(List.range k).map fun i=>(d,i)
theorem prow_at {k d i:Nat} (hi:i < k):(prow k d)[i]?=some (d,i):=by unfold prow; rw [List.getElem?_map,List.getElem?_range hi]; rfl
theorem prow_take {k d:Nat}:(prow k d).take k=prow k d:=List.take_of_length_le (by unfold prow; rw [List.length_map,List.length_range]; exact Nat.le_refl _)
set_option maxRecDepth 100000 in
set_option maxHeartbeats 4000000 in
theorem mslot_c {S:Nat->Prop} {w:World} {r g p:Nat} {R:Rck} {v:Vol} {a:Int} (h:RackAt S w r R) (hv:VolAt w g r v) (hm:MendAt w p g a) (s:Int) :
  Calls Tryz.prog 43 #[.pointer (some ⟨p,0,none⟩),.int .i64 s] w (MGroupPost S w r (R.mslot v.c s)):=by
 have hzc:=Zbz
 have HCS:=hid Cfg.A_size
 have H:=hid h; have HV:=hid hv; have HM:=hid hm
 obtain ⟨c,hc⟩:∃ c,v.c=c:=⟨_,rfl⟩
 rw [hc]
 have HC:=hid hc
 have hN8:=h.disks8
 have hzr:=zero_rec
 have hzf:=Zay
 have HZF:=hid (Frm.A_size _ Za7)
 clear h hv hm hc
 have xd:Ext w w.drew:=(Ext.refl w).drew
 have HXD:=hid xd
 have m0:∀ x:ExtW w.drew,x.w.cell? ⟨p,0,none⟩=some (.pointer (some ⟨g,0,none⟩)):=fun x=>(HM.out.ext (Ext.trans HXD.out x.ext)).c0
 have R1:Hid (∀ x:ExtW w.drew,Calls Tryz.prog 40 #[.pointer (some ⟨g,0,none⟩)] x.w fun e w''=>e=.returned (.pointer (some ⟨r,0,none⟩))/\Ext x.w w''):=hid fun x=>(vrack_c (HV.out.ext (Ext.trans HXD.out x.ext))).mono fun e w'' q=>⟨q.1,q.2▸Ext.refl _⟩
 have C1:Hid (∀ x:ExtW w.drew,Calls Tryz.prog 39 #[.pointer (some ⟨g,0,none⟩)] x.w fun e w''=>e=.returned (.agg (Cfg.A c))/\Ext x.w w''):=hid fun x=>by
  have:=vconfig_c (HV.out.ext (Ext.trans HXD.out x.ext))
  rw [HC.out] at this; exact this
 clear xd
 go_enter Tryz.func43,Tryz.ntmps43
 go_wp2_with fail
 refine Zbh 11 (.one [0,1,2,3,4,5,6,7,8,9] 10 (.fin [])) (by kernel_rfl) (by kernel_rfl) (fun _ _ d _ _ h=>by cases d<;>exact h) ?_
 rw [wpE]
 simp only [opsAt,opA,opB,opC,opD,opE,opF,opG]
 iterate 4 ((refine Za9 (fun K hK=>?_); go_simp; refine hK _ ?_; clear hK K))
 (refine Za9 (fun K hK=>?_); go_simp; (apply Exists.intro; refine ⟨fun x=>?_,hK _ ?_⟩; (exact R1.out x); clear hK K))
 iterate 4 ((refine Za9 (fun K hK=>?_); go_simp; refine hK _ ?_; clear hK K))
 (refine Za9 (fun K hK=>?_); go_simp; (apply Exists.intro; refine ⟨fun x=>?_,hK _ ?_⟩; (exact C1.out x); clear hK K))
 refine Zcg ?_
 intro V1 hV1
 have X1:=hid (Ext.trans HXD.out hV1)
 clear m0 R1 C1 HXD hV1
 refine wpE_loud fun K hK=>?_
 go_wp2
 refine hK _ _ ((Ext.refl V1).alloc _) ?_
 clear hK K
 have hz1:(V1.alloc (.cells (Cfg.A Cfg.zero) 23)).heap[V1.heap.size]?=some (.cells (Cfg.A Cfg.zero) 23 (0,0)):=Zad
 have hg1:w.heap.size<=V1.heap.size:=X1.out.size
 have hx1:Ext w (V1.alloc (.cells (Cfg.A Cfg.zero) 23)):=X1.out.alloc _
 rw [wpE]
 simp only [opsAt,List.map_nil]
 refine Zcg ?_
 intro V2 hV2
 have hz2:=hV2.at hz1
 have hx2:=Ext.trans hx1 hV2
 generalize V1.heap.size=gc at *
 have HGC:=hid hg1; have HZ2:=hid hz2
 obtain ⟨W3,hW3⟩:∃ W,V2.setRow gc (Cfg.A c)=W:=⟨_,rfl⟩
 have HX3:=hid (show Ext w W3 from hW3▸Ext.then hx2 (Zaf V2 gc (Cfg.A c)) (fun i hi=>by have:=HGC.out; omega))
 have HG3:=hid (show W3.heap[gc]?=some (.cells (Cfg.A c) 23 (0,0)) from hW3▸setRow_heap V2 gc _ _ _ _ hz2)
 have HW3:=hid hW3
 clear hz1 hg1 hx1 hV2 hz2 hx2 hW3 X1
 simp only [List.drop_succ_cons,List.drop_zero]
 rcases hj:R.jslot c s with ⟨x,wh,nw,oe⟩
 have HJ:=hid hj
 clear hj
 obtain ⟨ev0,hev0⟩:∃ ev,oErr oe=ev:=⟨_,rfl⟩
 have HEV0:=hid hev0
 clear hev0
 go_wp2_with (first
  | (guard_target=wpList _ _ _ (⟨none,Op.store _ _ _,_,_,_,none⟩::_) _ _; refine Zaa rfl 23 _ _ rfl gc rfl (Cfg.A c) _ rfl 23 ?_ HZ2.out ?_ ?_ ?_; (rw [HCS.out]; exact aggCfg); (rw [HCS.out,HCS.out]); exact Cfg.A_one _)
  | (guard_target=wpList _ _ _ (⟨some _,Op.load _ _,_,_,_,none⟩::_) _ _; rw [HW3.out]; refine Zac rfl 23 _ rfl ⟨gc,0,none⟩ rfl (Cfg.A c) (Zap c) (Zae HG3.out) ?_))
 refine (jslot_c (H.out.ext HX3.out) c s).mono ?_
 rintro e W4 ⟨ja,jc,rfl,x4,hbk,hlo⟩
 rw [HJ.out] at hbk ⊢
 simp only at hbk ⊢
 rw [HEV0.out]
 have hbs:(W4.alloc (.cells (Rcd.none_.V none 0) 98)).heap[W4.heap.size]?=some (.cells (Rcd.none_.V none 0) 98 (0,0)):=Zad
 have X4:=hid (Ext.trans HX3.out x4)
 have HG4:=hid (x4.at HG3.out)
 have SZ4:=hid x4.size
 have BK4:=hid hbk
 have BLO:=hid (show ∀ b,ja=some ⟨b,0,none⟩->w.heap.size<=b from fun b q=>Nat.le_trans HX3.out.size (hlo _ q))
 clear hbk hlo x4 HG3
 rcases oe with _ | er
 case some =>
  obtain ⟨et,ev,hev⟩:=er.iface
  obtain rfl:ev0=.iface et ev:=by rw [<- HEV0.out]; exact hev
  have HR:=hid (show R.mslot c s=(some er,0,R) by unfold Rck.mslot; rw [HJ.out])
  have HEV:=hid hev
  clear hev HEV0
  go_wp2_with (guard_target=wpList _ _ _ (⟨none,Op.store _ _ _,_,_,_,none⟩::_) _ _; refine Zaa rfl 98 _ _ rfl W4.heap.size rfl (x.V ja jc) _ rfl 98 (Za6 _ _ _) hbs rfl (V_one _ _ _) ?_)
  rw [Zai]
  go_ret2
  rw [HR.out]
  have x5:Ext W4 (W4.alloc (.cells (x.V ja jc) 98)):=(Ext.refl _).alloc _
  exact ⟨by show _=Ending.returned (.tuple #[.int .i64 ((0:Nat):Int),er.val]); rw [HEV.out]; rfl,H.out.ext (Ext.trans X4.out x5),Ext.only (Ext.trans X4.out x5)⟩
 obtain rfl:Value.nilIface=ev0:=HEV0.out
 obtain ⟨hgd,hs0,hs1,hxo,hxl⟩:=(H.out.ext X4.out).jslot_fit HJ.out
 have HGD:=hid hgd; have HS0:=hid hs0; have HS1:=hid hs1; have HXO:=hid hxo; have HXL:=hid hxl
 have HM:=hid (show R.mslot c s=Rck.mdone (meach (Rck.mrow c s x) (R.online.flatMap (prow c.k.toNat)) R 0) by unfold Rck.mslot; rw [HJ.out]; rfl)
 obtain ⟨K,hK⟩:∃ K:Nat,c.k=K:=⟨c.k.toNat,by have:=hgd.k0; omega⟩
 have hKK:c.k.toNat=K:=by omega
 have k0:1<=K:=by have:=hgd.k0; omega
 have k8:K<=8:=by have:=hgd.k1; have:=hgd.n1; omega
 rw [hKK] at HM
 have HK:=hid hK
 obtain ⟨W5,hW5⟩:∃ W,W4.alloc (.cells (x.V ja jc) 98)=W:=⟨_,rfl⟩
 have x5:Ext W4 W5:=hW5▸(Ext.refl W4).alloc _
 have X5:=hid (Ext.trans X4.out x5)
 have HG5:=hid (x5.at HG4.out)
 have HP5:=hid (show W5.heap[W4.heap.size]?=some (.cells (x.V ja jc) 98 (0,0)) from hW5▸heap_alloc_new _ _)
 have BK5:=hid (BK4.out.ext x5)
 have HW5:=hid hW5
 have PLO:=hid (show w.heap.size<=W4.heap.size from X4.out.size)
 have hwn:Hid (R.jslot c s=(x,wh,nw,none)):=HJ
 clear hgd hs0 hs1 hxo hxl hK hKK hW5 x5 HEV0 HG4 X4 BK4
 go_wp2_with (guard_target=wpList _ _ _ (⟨none,Op.store _ _ _,_,_,_,none⟩::_) _ _; refine Zaa rfl 98 _ _ rfl W4.heap.size rfl (x.V ja jc) _ rfl 98 (Za6 _ _ _) hbs rfl (V_one _ _ _) ?_)
 rw [Zai]
 rw [HW5.out]
 generalize W4.heap.size=px at *
 clear hbs SZ4
 refine (Zbi (H.out.ext X5.out)).mono ?_
 rintro e W2 ⟨ov,rfl,hown,x2⟩
 obtain ⟨oa,oc,rfl,hcell⟩:=hown.slice
 obtain ⟨L,hL⟩:∃ L,R.online=L:=⟨_,rfl⟩
 have hLn:L.length<=8:=by rw [<- hL]; have:=R.online_len; omega
 have HL:=hid hL
 rw [hL] at hcell ⊢
 have HX2:=hid (Ext.trans X5.out x2)
 have HGW:=hid (x2.at HG5.out)
 have HPC:Hid (PutT S w.heap.size W2.heap.size gc):=hid (.inr ⟨HGC.out,lt_of_block HGW.out⟩)
 have HON:Hid (∀ wr,Only (fun b=>¬PutT S w.heap.size W2.heap.size b) W2 wr->∀ j d:Nat,L[j]?=some d->∃ g,oa=some ⟨g,0,none⟩/\wr.cell? ⟨g,j,none⟩=some (.int .i64 d)):=hid fun wr e j d hd=>by
  rcases hcell with ⟨q,_⟩ | ⟨g,q1,q2,q3,q4,q5⟩
  ·
   subst q; simp at hd
  ·
   have hjl:j < L.length:=by
    rcases Nat.lt_or_ge j L.length with q | q
    ·
     exact q
    ·
     rw [List.getElem?_eq_none q] at hd; cases hd
   refine ⟨g,q1,e.cell ?_ (fun q=>q (.inr ⟨Nat.le_trans X5.out.size q2,q3⟩))⟩
   rw [q5 j hjl]
   have:L.getD j 0=d:=by rw [List.getD_eq_getElem?_getD,hd]; rfl
   rw [this]; rfl
 have HST:=hid (JPut.start H.out HX2.out)
 have HPP:Hid (PutT S w.heap.size W2.heap.size px):=hid (.inr ⟨PLO.out,lt_of_block (x2.at HP5.out)⟩)
 have HPW:=hid (x2.at HP5.out)
 have HBW:=hid (BK5.out.ext x2)
 have HBL:=hid (show x.blocks≠[]->∀ b,ja=some ⟨b,0,none⟩->PutT S w.heap.size W2.heap.size b from fun hn b q=>.inr ⟨BLO.out b q,HBW.out.lt hn b q⟩)
 clear hcell hown x2 hL HZ2 hN8 HW3 HW5
 have c1:W2.cell? ⟨gc,1,none⟩=some (.int .i64 K):=(Zag HGW.out).trans ((Cfg.A1 c).trans (by rw [HK.out]))
 clear c1
 go_wp2
 go_loopw [12,45] (fun nv u wr=>∃ (j n:Nat) (Rj:Rck),u=.int .i64 j/\nv=.int .i64 n/\j<=L.length/\n<=j*8/\meach (Rck.mrow c s x) ((L.take j).flatMap (prow K)) R 0=(none,n,Rj)/\JPut S w W2 r Rj wr) (fun _ u _=>L.length - (intOf u).toNat)
 case atStart=>exact ⟨0,0,R,rfl,rfl,by omega,by omega,rfl,HST.out⟩
 case round =>
  clear HST
  obtain ⟨j,n,Rj,rfl,rfl,hj,hnj,hej,hst⟩:=hrel
  have HEJ:=hid hej; have HS:=hid hst
  clear hej hst
  by_cases hlt:j < L.length
  ·
   have j0:(0:Int)<=(j:Int):=by omega
   have j1:(j:Int) < (L.length:Int):=by omega
   obtain ⟨d,hd⟩:∃ d,L[j]?=some d:=⟨L[j],List.getElem?_eq_getElem hlt⟩
   obtain ⟨go,rfl,cd⟩:=HON.out wr HS.out.keeps j d hd
   have HD:=hid hd
   have c1:wr.cell? ⟨gc,1,none⟩=some (.int .i64 K):=(Zag (HS.out.keeps.at HGW.out (fun q=>q HPC.out))).trans ((Cfg.A1 c).trans (by rw [HK.out]))
   clear hd
   go_wp2
   clear cd
   go_loopw [12,51] (fun nv u wq=>∃ (i m:Nat) (Ri:Rck),u=.int .i64 i/\nv=.int .i64 m/\i<=K/\m<=j*8+i/\meach (Rck.mrow c s x) ((prow K d).take i) Rj n=(none,m,Ri)/\JPut S w W2 r Ri wq) (fun _ u _=>K - (intOf u).toNat)
   case atStart=>exact ⟨0,n,Rj,rfl,rfl,by omega,by omega,rfl,HS.out⟩
   case round =>
    clear HS c1
    obtain ⟨i,m,Ri,rfl,rfl,hi,hmi,hei,hst⟩:=hrel
    have HEI:=hid hei; have HS:=hid hst
    clear hei hst
    by_cases hlti:i < K
    ·
     have i0:(0:Int)<=(i:Int):=by omega
     have i1:(i:Int) < (K:Int):=by omega
     have m0:(0:Int)<=(m:Int):=by omega
     have m8:(m:Int)<=128:=by omega
     have i8:i < 8:=by omega
     have I8:=hid i8
     have HGI:=hid (HS.out.keeps.at HGW.out (fun q=>q HPC.out))
     clear i8
     go_wp2_with (guard_target=wpList _ _ _ (⟨some _,Op.load _ _,_,_,_,none⟩::_) _ _; refine Zac rfl 23 _ rfl ⟨gc,0,none⟩ rfl (Cfg.A c) (Zap c) (Zae HGI.out) ?_)
     refine (jgood_c HS.out.rack c HGD.out d s HS0.out HS1.out i I8.out).mono ?_
     rintro e V1 ⟨rfl,x1⟩
     obtain ⟨o,ho⟩:∃ o,Ri.jgood c d s i=o:=⟨_,rfl⟩
     have hok:∀ f,o=some f->f.Ok:=fun f hf=>HS.out.rack.jgood_ok (by rw [ho]; exact hf)
     have HOK:=hid hok; have HO:=hid ho
     obtain ⟨Hf,hHf⟩:∃ Hf,o.getD Frm.zero=Hf:=⟨_,rfl⟩
     obtain ⟨bb,hbb⟩:∃ bb,o.isSome=bb:=⟨_,rfl⟩
     have hHo:Hf.Ok:=by
      rw [<- hHf]
      rcases o with _ | f
      ·
       exact Za7
      ·
       exact hok f rfl
     have HHS:=hid (Frm.A_size Hf hHo)
     have HHA:=hid (show AggType Tryz.prog 129 (Frm.A Hf).size by rw [HHS.out]; exact aggFrame)
     rw [ho]
     unfold gotO
     rw [hHf,hbb]
     have HHF:=hid hHf; have HBB:=hid hbb
     have hbs:(V1.alloc (.cells (Frm.A Frm.zero) 129)).heap[V1.heap.size]?=some (.cells (Frm.A Frm.zero) 129 (0,0)):=Zad
     obtain ⟨V2,hV2⟩:∃ V,V1.alloc (.cells (Frm.A Hf) 129)=V:=⟨_,rfl⟩
     have x2:Ext wr V2:=hV2▸x1.alloc _
     have X2:=hid x2
     have HF2:=hid (show V2.heap[V1.heap.size]?=some (.cells (Frm.A Hf) 129 (0,0)) from hV2▸heap_alloc_new _ _)
     have HV2:=hid hV2
     have FLO:=hid x1.size
     clear ho hok hHf hbb hHo hV2 x2 x1
     go_wp2_with (guard_target=wpList _ _ _ (⟨none,Op.store _ _ _,_,_,_,none⟩::_) _ _; refine Zaa rfl 129 _ _ rfl V1.heap.size rfl (Frm.A Hf) _ rfl 129 ?_ hbs ?_ ?_ ?_; (rw [HHS.out]; exact aggFrame); (rw [HHS.out,HZF.out]); exact Frm.A_one _)
     rw [Zai,HV2.out]
     generalize V1.heap.size=fb at *
     clear hbs HV2
     obtain ⟨T1,hT1⟩:∃ T1,wideS (PutT S w.heap.size W2.heap.size) wr V2=T1:=⟨_,rfl⟩
     have HRT:=hid (show RackAt T1 V2 r Ri from hT1▸HS.out.rack.pokes X2.out fun b hb=>hb.elim)
     have HT1:=hid (show ∀ b,PutT S w.heap.size W2.heap.size b->T1 b from fun b hb=>hT1▸.inl hb)
     have HTF:=hid (show T1 fb from hT1▸.inr ⟨FLO.out,lt_of_block HF2.out⟩)
     have HKW:=hid (show Only (fun b=>¬PutT S w.heap.size W2.heap.size b) W2 V2 from Only.ext HS.out.keeps X2.out)
     obtain ⟨F,hF⟩:∃ F,x.frm i=F:=⟨_,rfl⟩
     have HFO:=hid (show F.Ok from hF▸Rcd.frm_ok x HXO.out i)
     have HFE:=hid hF
     have xd:Ext V2 V2.drew:=(Ext.refl V2).drew
     have base:Hid (∀ y:SW (Only fun b=>¬T1 b) V2.drew,Only (fun b=>¬PutT S w.heap.size W2.heap.size b) W2 y.w):=hid fun y=>Only.trans (Only.ext HKW.out xd) y.ext fun b _ q z=>q (HT1.out b z)
     have lc:Hid (∀ y:SW (Only fun b=>¬T1 b) V2.drew,∀ j u,(Cfg.A c).toList[j]?=some u->y.w.cell? ((⟨gc,0,none⟩:Addr).add j)=some u):=hid fun y=>Zae ((base.out y).at HGW.out (fun q=>q HPC.out))
     have lx:Hid (∀ y:SW (Only fun b=>¬T1 b) V2.drew,∀ j u,(x.V ja jc).toList[j]?=some u->y.w.cell? ((⟨px,0,none⟩:Addr).add j)=some u):=hid fun y=>Zae ((base.out y).at HPW.out (fun q=>q HPP.out))
     have lf:Hid (∀ y:SW (Only fun b=>¬T1 b) V2.drew,∀ j u,(Frm.A Hf).toList[j]?=some u->y.w.cell? ((⟨fb,0,none⟩:Addr).add j)=some u):=hid fun y=>Zae (y.ext.at (xd.at HF2.out) (fun q=>q HTF.out))
     have sc:Hid (∀ y:SW (Only fun b=>¬T1 b) V2.drew,Calls Tryz.prog 72 #[.agg (Cfg.A c),.int .i64 s,.int .i64 i] y.w fun e w''=>e=.returned (.int .i64 (Rck.jsec c s i))/\Ext y.w w''):=hid fun y=>jsector_c c HGD.out s HS0.out HS1.out i I8.out y.w
     have jf:Hid (∀ y:SW (Only fun b=>¬T1 b) V2.drew,Calls Tryz.prog 73 #[.agg (x.V ja jc),.int .i64 i] y.w fun e w''=>e=.returned (.agg (Frm.A F))/\Ext y.w w''):=hid fun y=>by
      have hb:BlksAt y.w ja x.blocks:=by
       by_cases hn:x.blocks=[]
       ·
        rw [hn]; intro i b hb; simp at hb
       ·
        exact HBW.out.only (base.out y) fun b q z=>z (HBL.out hn b q)
      have:=jframe_c x HXO.out HXL.out ja jc y.w hb i I8.out
      unfold JFramePost at this
      rw [HFE.out] at this
      exact this
     have XD:=hid xd
     clear xd hF hT1
     go_wp2_with fail
     refine Zav (E:=Ext) (S:=Only fun b=>¬T1 b) (.one [0,1,2,3,4,5,6,7,8,9,10] 11 (.fin [12,13,14,15,16])) (by kernel_rfl) (by kernel_rfl) (fun _ _ d _ _ h=>by cases d<;>exact h) ?_
     rw [wpS]
     simp only [opsAt,opA,opB,opC,opD,opE,opF,opG]
     iterate 2 ((refine Zab (fun K hK=>?_); go_simp; refine hK _ ?_; clear hK K))
     refine Zaj 23 _ rfl ⟨gc,0,none⟩ rfl (Cfg.A c) rfl (Zap c) lc.out ?_
     iterate 2 ((refine Zab (fun K hK=>?_); go_simp; refine hK _ ?_; clear hK K))
     (refine Zab (fun K hK=>?_); go_simp; (apply Exists.intro; refine ⟨fun x=>?_,hK _ ?_⟩; (exact sc.out x); clear hK K))
     refine Zaj 98 _ rfl ⟨px,0,none⟩ rfl (x.V ja jc) rfl (Za6 _ _ _) lx.out ?_
     (refine Zab (fun K hK=>?_); go_simp; refine hK _ ?_; clear hK K)
     (refine Zab (fun K hK=>?_); go_simp; (apply Exists.intro; refine ⟨fun x=>?_,hK _ ?_⟩; (exact jf.out x); clear hK K))
     refine Zaj 129 _ rfl ⟨fb,0,none⟩ rfl (Frm.A Hf) rfl HHA.out lf.out ?_
     (refine Zab (fun K hK=>?_); go_simp; refine hK _ ?_; clear hK K)
     refine Zah ?_
     intro V3 hV3
     have X3:=hid (Ext.trans XD.out hV3)
     clear base lc lx lf sc jf hV3 XD
     have HPUT:=mput_c (HRT.out.ext X3.out) d (Rck.jsec c s i) F HFO.out o HOK.out
     rw [HHF.out,HBB.out] at HPUT
     rcases hq:Ri.mput d (Rck.jsec c s i) F o with ⟨o2,did,R2⟩
     rw [hq] at HPUT
     have HMR:=hid (show Rck.mrow c s x Ri (d,i)=(o2,did,R2) by
      show Ri.mput d (Rck.jsec c s i) (x.frm i) (Ri.jgood c d s i)=_
      rw [HFE.out,HO.out]; exact hq)
     have HPU:=hid HPUT
     have HKW3:=hid (Only.ext HKW.out X3.out)
     clear hq HPUT
     obtain ⟨ov,hov⟩:∃ ov,oErr o2=ov:=⟨_,rfl⟩
     have HOV:=hid hov
     clear hov
     refine Zax fun Q2 hQ2=>?_
     go_wp2_with fail
     refine HPU.out.mono ?_
     rintro e V4 ⟨rfl,h4,k4⟩
     simp only at h4 ⊢
     rw [HOV.out]
     have H4:=hid h4; have K4:=hid k4
     clear h4 k4 HPU
     go_wp2
     refine hQ2 _ _ K4.out ?_
     clear hQ2 Q2
     rw [wpS]
     simp only [opsAt,opA,opB,opC,opD,opE,opF,opG]
     iterate 5 ((refine Zab (fun K hK=>?_); go_simp; refine hK _ ?_; clear hK K))
     refine Zah ?_
     intro V5 hV5
     have HS5:=hid (show JPut S w W2 r R2 V5 from ⟨(H4.out.ext hV5).less HT1.out,Only.ext (Only.trans HKW3.out K4.out fun b _ q z=>q (HT1.out b z)) hV5⟩)
     clear hV5 H4 K4 HKW3 HKW HRT HTF HT1
     rcases o2 with _ | er
     case some =>
      obtain ⟨et,ev,hev⟩:=er.iface
      obtain rfl:ov=.iface et ev:=by rw [<- HOV.out]; exact hev
      have HR:=hid (show R.mslot c s=(some er,m,R2) by
       rw [HM.out,HL.out,meach_flat_mid HD.out HEJ.out (meach_mid (prow_at hlti) HEI.out HMR.out)]
       rfl)
      have HEV:=hid hev
      clear hev
      go_wp2
      go_ret2
      rw [HR.out]
      exact ⟨by show _=Ending.returned (.tuple #[.int .i64 (m:Int),er.val]); rw [HEV.out]; rfl,HS5.out.out HX2.out⟩
     obtain rfl:Value.nilIface=ov:=HOV.out
     have HN:=hid (Zcn (prow_at hlti) HEI.out HMR.out)
     rcases did with _ | _
     ·
      go_wp2
      go_roundw
      case rel=>exact ⟨i+1,m,R2,by go_num,rfl,by omega,by omega,HN.out,HS5.out⟩
      case measure=>simp [intOf]; omega
     ·
      go_wp2
      go_roundw
      case rel=>exact ⟨i+1,m+1,R2,by go_num,by go_num,by omega,by omega,HN.out,HS5.out⟩
      case measure=>simp [intOf]; omega
    ·
     obtain rfl:K=i:=by omega
     have HN:=hid (show meach (Rck.mrow c s x) ((L.take (j+1)).flatMap (prow K)) R 0=(none,m,Ri) from meach_flat_next HD.out HEJ.out (by rw [<- HEI.out,prow_take]))
     go_wp2
     go_roundw
     case rel=>exact ⟨j+1,m,Ri,by go_num,rfl,by omega,by omega,HN.out,HS.out⟩
     case measure=>simp [intOf]; omega
  ·
   obtain rfl:L.length=j:=by omega
   have HR:Hid (R.mslot c s=Rck.mdone (none,n,Rj)):=hid (by
    rw [HM.out,HL.out,<- HEJ.out,List.take_length])
   clear HON HEJ
   go_wp2_with fail
   refine (mflush_c HS.out.rack n).mono ?_
   rintro e V4 ⟨rfl,h4,k4⟩
   have HS4:=hid (HS.out.step h4 k4)
   clear h4 k4
   obtain ⟨ov,hov⟩:∃ ov,oErr (Rj.mflush n).1=ov:=⟨_,rfl⟩
   have HOV:=hid hov
   rw [hov]
   clear hov
   go_wp2
   go_ret2
   rw [HR.out]
   exact ⟨by show _=Ending.returned (.tuple #[.int .i64 (n:Int),oErr (Rj.mflush n).1]); rw [HOV.out]; rfl,HS4.out.out HX2.out⟩
end Go.Proofs.YtkipjmbplmdaaaaGreatDoor
namespace Go.Proofs.YtkipjmbplmdaaaaGreatDoor
set_option linter.unusedVariables false
open Go Go.RowKit
attribute [local irreducible] wpSQ
theorem RackAt.sget_blocks {S:Nat->Prop} {w:World} {r:Nat} {R:Rck} (h:RackAt S w r R) {c:Cfg} {s gen:Int} {l:List (List Nat)} (hg:R.sget c s=(l,gen,none)):c.Good/\0<=s/\s < c.stripes/\Cd.Blocks c.k.toNat 108 l:=by
 have hk:R.sknown c s=true:=by
  rcases e:R.sknown c s with _ | _
  ·
   unfold Rck.sget at hg
   rw [e,if_neg (by simp)] at hg
   cases hg
  ·
   rfl
 obtain ⟨hc,h0,h1⟩:=Zc1 hk
 refine ⟨hc,h0,h1,?_⟩
 unfold Rck.sget at hg
 rw [if_pos hk] at hg
 split at hg
 ·
  cases hg
 split at hg
 ·
  cases hg
 rename_i hlen
 have e1:decoded c (R.slook c s).2=l:=congrArg (fun q=>q.1) hg
 have hps:=Rck.slook_eq hk
 have hps2:(R.slook c s).2=partsG (R.sgood c s) (newG (R.sgood c s) c.n.toNat) c.n.toNat:=by rw [hps]
 have hpl:∀ p∈(R.slook c s).2,p.2.length=108/\∀ y∈p.2,y < 256:=fun p hp=>by
  obtain ⟨_,f,h1,h2⟩:=partsG_mem (hps2▸hp)
  have ok:=h.got_ok h1
  rw [h2]
  exact ⟨ok.len,ok.byte⟩
 have hl:((R.slook c s).2.take c.k.toNat).length=c.k.toNat:=by rw [List.length_take]; omega
 rw [<- e1]
 unfold decoded
 exact Cd.solve_blocks
  (Cd.Blocks.mem (by rw [List.length_map]; exact hl) (by intro b hb; obtain ⟨p,_,rfl⟩:=List.mem_map.1 hb; exact Cd.row_len _ _) (by intro b hb; obtain ⟨p,_,rfl⟩:=List.mem_map.1 hb; exact Cd.row_byte _ _))
  (Cd.Blocks.mem (by rw [List.length_map]; exact hl) (by intro b hb; obtain ⟨p,hp,rfl⟩:=List.mem_map.1 hb; exact (hpl p (List.mem_of_mem_take hp)).1) (by intro b hb; obtain ⟨p,hp,rfl⟩:=List.mem_map.1 hb; exact (hpl p (List.mem_of_mem_take hp)).2))
theorem Cd.Blocks.all {k L:Nat} {l:List (List Nat)} (h:Cd.Blocks k L l):(∀ b∈l,b.length=L)/\∀ b∈l,∀ x∈b,x < 256:=by
 have at_:∀ b∈l,∃ i,i < k/\Cd.B l i=b:=fun b hb=>by
  obtain ⟨i,hi,e⟩:=List.getElem_of_mem hb
  have:=h.n
  exact ⟨i,by omega,by unfold Cd.B; rw [List.getD_eq_getElem?_getD,List.getElem?_eq_getElem hi,e]; rfl⟩
 refine ⟨fun b hb=>?_,fun b hb=>?_⟩
 ·
  obtain ⟨i,hi,e⟩:=at_ b hb
  rw [<- e]; exact h.len i hi
 ·
  obtain ⟨i,hi,e⟩:=at_ b hb
  rw [<- e]; exact h.byte i
set_option maxRecDepth 100000 in
set_option maxHeartbeats 4000000 in
theorem mstripe_c {S:Nat->Prop} {w:World} {r g p:Nat} {R:Rck} {v:Vol} {a:Int} (h:RackAt S w r R) (hv:VolAt w g r v) (hm:MendAt w p g a) (s:Int) :
  Calls Tryz.prog 44 #[.pointer (some ⟨p,0,none⟩),.int .i64 s] w (MGroupPost S w r (R.mstripe v.c s)):=by
 have hzc:=Zbz
 have HCS:=hid Cfg.A_size
 have H:=hid h; have HV:=hid hv; have HM:=hid hm
 obtain ⟨c,hc⟩:∃ c,v.c=c:=⟨_,rfl⟩
 rw [hc]
 have HC:=hid hc
 have hN8:=h.disks8
 have hzf:=Zay
 have HZF:=hid (Frm.A_size _ Za7)
 clear h hv hm hc
 have xd:Ext w w.drew:=(Ext.refl w).drew
 have HXD:=hid xd
 have m0:∀ x:ExtW w.drew,x.w.cell? ⟨p,0,none⟩=some (.pointer (some ⟨g,0,none⟩)):=fun x=>(HM.out.ext (Ext.trans HXD.out x.ext)).c0
 have R1:Hid (∀ x:ExtW w.drew,Calls Tryz.prog 40 #[.pointer (some ⟨g,0,none⟩)] x.w fun e w''=>e=.returned (.pointer (some ⟨r,0,none⟩))/\Ext x.w w''):=hid fun x=>(vrack_c (HV.out.ext (Ext.trans HXD.out x.ext))).mono fun e w'' q=>⟨q.1,q.2▸Ext.refl _⟩
 have C1:Hid (∀ x:ExtW w.drew,Calls Tryz.prog 39 #[.pointer (some ⟨g,0,none⟩)] x.w fun e w''=>e=.returned (.agg (Cfg.A c))/\Ext x.w w''):=hid fun x=>by
  have:=vconfig_c (HV.out.ext (Ext.trans HXD.out x.ext))
  rw [HC.out] at this; exact this
 clear xd
 go_enter Tryz.func44,Tryz.ntmps44
 go_wp2_with fail
 refine Zbh 11 (.one [0,1,2,3,4,5,6,7,8,9] 10 (.fin [])) (by kernel_rfl) (by kernel_rfl) (fun _ _ d _ _ h=>by cases d<;>exact h) ?_
 rw [wpE]
 simp only [opsAt,opA,opB,opC,opD,opE,opF,opG]
 iterate 4 ((refine Za9 (fun K hK=>?_); go_simp; refine hK _ ?_; clear hK K))
 (refine Za9 (fun K hK=>?_); go_simp; (apply Exists.intro; refine ⟨fun x=>?_,hK _ ?_⟩; (exact R1.out x); clear hK K))
 iterate 4 ((refine Za9 (fun K hK=>?_); go_simp; refine hK _ ?_; clear hK K))
 (refine Za9 (fun K hK=>?_); go_simp; (apply Exists.intro; refine ⟨fun x=>?_,hK _ ?_⟩; (exact C1.out x); clear hK K))
 refine Zcg ?_
 intro V1 hV1
 have X1:=hid (Ext.trans HXD.out hV1)
 clear m0 R1 C1 HXD hV1
 refine wpE_loud fun K hK=>?_
 go_wp2
 refine hK _ _ ((Ext.refl V1).alloc _) ?_
 clear hK K
 have hz1:(V1.alloc (.cells (Cfg.A Cfg.zero) 23)).heap[V1.heap.size]?=some (.cells (Cfg.A Cfg.zero) 23 (0,0)):=Zad
 have hg1:w.heap.size<=V1.heap.size:=X1.out.size
 have hx1:Ext w (V1.alloc (.cells (Cfg.A Cfg.zero) 23)):=X1.out.alloc _
 rw [wpE]
 simp only [opsAt,List.map_nil]
 refine Zcg ?_
 intro V2 hV2
 have hz2:=hV2.at hz1
 have hx2:=Ext.trans hx1 hV2
 generalize V1.heap.size=gc at *
 have HGC:=hid hg1; have HZ2:=hid hz2
 obtain ⟨W3,hW3⟩:∃ W,V2.setRow gc (Cfg.A c)=W:=⟨_,rfl⟩
 have HX3:=hid (show Ext w W3 from hW3▸Ext.then hx2 (Zaf V2 gc (Cfg.A c)) (fun i hi=>by have:=HGC.out; omega))
 have HG3:=hid (show W3.heap[gc]?=some (.cells (Cfg.A c) 23 (0,0)) from hW3▸setRow_heap V2 gc _ _ _ _ hz2)
 have HW3:=hid hW3
 clear hz1 hg1 hx1 hV2 hz2 hx2 hW3 X1
 simp only [List.drop_succ_cons,List.drop_zero]
 rcases hj:R.sget c s with ⟨l,gen,oe⟩
 have HJ:=hid hj
 clear hj
 obtain ⟨ev0,hev0⟩:∃ ev,oErr oe=ev:=⟨_,rfl⟩
 have HEV0:=hid hev0
 clear hev0
 go_wp2_with (first
  | (guard_target=wpList _ _ _ (⟨none,Op.store _ _ _,_,_,_,none⟩::_) _ _; refine Zaa rfl 23 _ _ rfl gc rfl (Cfg.A c) _ rfl 23 ?_ HZ2.out ?_ ?_ ?_; (rw [HCS.out]; exact aggCfg); (rw [HCS.out,HCS.out]); exact Cfg.A_one _)
  | (guard_target=wpList _ _ _ (⟨some _,Op.load _ _,_,_,_,none⟩::_) _ _; rw [HW3.out]; refine Zac rfl 23 _ rfl ⟨gc,0,none⟩ rfl (Cfg.A c) (Zap c) (Zae HG3.out) ?_))
 refine (sget_c (H.out.ext HX3.out) c s).mono ?_
 rintro e W4 ⟨bv,rfl,hown,x4⟩
 rw [HJ.out] at hown ⊢
 simp only at hown ⊢
 rw [HEV0.out]
 have X4:=hid (Ext.trans HX3.out x4)
 have HG4:=hid (x4.at HG3.out)
 rcases oe with _ | er
 case some =>
  obtain ⟨et,ev,hev⟩:=er.iface
  obtain rfl:ev0=.iface et ev:=by rw [<- HEV0.out]; exact hev
  have HR:=hid (show R.mstripe c s=(some er,0,R) by unfold Rck.mstripe; rw [HJ.out])
  have HEV:=hid hev
  obtain ⟨ba,bc,rfl,_⟩:=hown.slice
  clear hev HEV0 hown
  go_wp2
  go_ret2
  rw [HR.out]
  exact ⟨by show _=Ending.returned (.tuple #[.int .i64 ((0:Nat):Int),er.val]); rw [HEV.out]; rfl,H.out.ext X4.out,Ext.only X4.out⟩
 obtain rfl:Value.nilIface=ev0:=HEV0.out
 obtain ⟨hgd,hs0,hs1,hbl⟩:=(H.out.ext X4.out).sget_blocks HJ.out
 obtain ⟨hl8,hlb⟩:=Cd.Blocks.all hbl
 have hlk:(l.length:Int)=c.k:=by have:=hbl.n; have:=hgd.k0; omega
 obtain ⟨ba,bc,rfl,hbk,_⟩:=kblocks_at hl8 hown
 have HGD:=hid hgd; have HS0:=hid hs0; have HS1:=hid hs1; have HL8:=hid hl8; have HLB:=hid hlb; have HLK:=hid hlk; have HBL:=hid hbl; have BK4:=hid hbk
 have HM:=hid (show R.mstripe c s=Rck.mdone (meach (Rck.mpart c s gen l) R.online R 0) by unfold Rck.mstripe; rw [HJ.out])
 clear hown hbk hgd hs0 hs1 hl8 hlb hlk hbl x4 HEV0 HG3
 go_wp2_with (guard_target=wpList _ _ _ (⟨some _,Op.load _ _,_,_,_,none⟩::_) _ _; refine Zac rfl 23 _ rfl ⟨gc,0,none⟩ rfl (Cfg.A c) (Zap c) (Zae HG4.out) ?_)
 refine (frames_c c HGD.out s gen l HLK.out HL8.out HLB.out ba bc BK4.out).mono ?_
 rintro e W5 ⟨px,fc,rfl,hfg,hvs,x5⟩
 obtain ⟨N,hN⟩:∃ N:Nat,c.n.toNat=N:=⟨_,rfl⟩
 have n1:1<=N:=by have:=HGD.out.k0; have:=HGD.out.k1; omega
 rw [hN] at hvs ⊢
 have X5:=hid (Ext.trans X4.out x5)
 have HG5:=hid (x5.at HG4.out)
 have HVS:=hid hvs
 have PLO:=hid (show w.heap.size<=px from Nat.le_trans X4.out.size hfg)
 have PHI:=hid (show px < W5.heap.size from by
  have:=hvs 0 _ (by rw [List.getElem?_map,List.getElem?_range n1]; rfl) 0 (.int .i64 3) (by show (Frm.A (sfrm s gen 0 (sfrag c l 0))).toList[0]?=_; rw [Frm.A_def]; rfl)
  exact World.block_lt_of_cell? W5 _ this)
 have HNN:=hid hN
 clear hvs hfg x5 hN n1 HG4 X4 BK4
 go_wp2_with fail
 have hRn:=H.out.disks8
 refine (Zbi (H.out.ext X5.out)).mono ?_
 rintro e W2 ⟨ov,rfl,hown,x2⟩
 obtain ⟨oa,oc,rfl,hcell⟩:=hown.slice
 obtain ⟨L,hL⟩:∃ L,R.online=L:=⟨_,rfl⟩
 have hLn:L.length<=8:=by rw [<- hL]; have:=R.online_len; omega
 have HL:=hid hL
 rw [hL] at hcell ⊢
 have HX2:=hid (Ext.trans X5.out x2)
 have HGW:=hid (x2.at HG5.out)
 have HPC:Hid (PutT S w.heap.size W2.heap.size gc):=hid (.inr ⟨HGC.out,lt_of_block HGW.out⟩)
 have HON:Hid (∀ wr,Only (fun b=>¬PutT S w.heap.size W2.heap.size b) W2 wr->∀ j d:Nat,L[j]?=some d->∃ g,oa=some ⟨g,0,none⟩/\wr.cell? ⟨g,j,none⟩=some (.int .i64 d)):=hid fun wr e j d hd=>by
  rcases hcell with ⟨q,_⟩ | ⟨g,q1,q2,q3,q4,q5⟩
  ·
   subst q; simp at hd
  ·
   have hjl:j < L.length:=by
    rcases Nat.lt_or_ge j L.length with q | q
    ·
     exact q
    ·
     rw [List.getElem?_eq_none q] at hd; cases hd
   refine ⟨g,q1,e.cell ?_ (fun q=>q (.inr ⟨Nat.le_trans X5.out.size q2,q3⟩))⟩
   rw [q5 j hjl]
   have:L.getD j 0=d:=by rw [List.getD_eq_getElem?_getD,hd]; rfl
   rw [this]; rfl
 have HST:=hid (JPut.start H.out HX2.out)
 have HLM:=hid (show ∀ d∈L,d < N from fun d hd=>by
  rw [<- hL] at hd
  have hk:R.sknown c s=true:=by
   rcases e:R.sknown c s with _ | _
   ·
    have hj:=HJ.out
    unfold Rck.sget at hj
    rw [e,if_neg (by simp)] at hj
    cases hj
   ·
    rfl
  unfold Rck.sknown at hk
  simp only [Bool.and_eq_true,decide_eq_true_eq] at hk
  have hf:=hk.1.1
  unfold Rck.fits at hf
  simp only [Bool.and_eq_true,decide_eq_true_eq] at hf
  have h1:=hf.1.2
  have h2:=HNN.out
  unfold Rck.online at hd
  have:=List.mem_range.1 (List.mem_filter.1 hd).1
  omega)
 have HPP:Hid (PutT S w.heap.size W2.heap.size px):=hid (.inr ⟨PLO.out,by have:=PHI.out; have:=x2.size; omega⟩)
 have HVW:=hid (HVS.out.ext x2)
 have n8:N<=8:=by have:=HGD.out.n1; have:=HNN.out; omega
 clear hcell hown x2 hL HZ2 hN8 HW3 hRn HVS
 go_wp2
 go_loopw [12,54] (fun nv u wr=>∃ (j n:Nat) (Rj:Rck),u=.int .i64 j/\nv=.int .i64 n/\j<=L.length/\n<=j/\meach (Rck.mpart c s gen l) (L.take j) R 0=(none,n,Rj)/\JPut S w W2 r Rj wr) (fun _ u _=>L.length - (intOf u).toNat)
 case atStart=>exact ⟨0,0,R,rfl,rfl,by omega,by omega,rfl,HST.out⟩
 case round =>
  clear HST
  obtain ⟨j,n,Rj,rfl,rfl,hj,hnj,hej,hst⟩:=hrel
  have HEJ:=hid hej; have HS:=hid hst
  clear hej hst
  by_cases hlt:j < L.length
  ·
   have j0:(0:Int)<=(j:Int):=by omega
   have j1:(j:Int) < (L.length:Int):=by omega
   have m0:(0:Int)<=(n:Int):=by omega
   have m8:(n:Int)<=8:=by omega
   obtain ⟨d,hd⟩:∃ d,L[j]?=some d:=⟨L[j],List.getElem?_eq_getElem hlt⟩
   obtain ⟨go,rfl,cd⟩:=HON.out wr HS.out.keeps j d hd
   have hdn:d < N:=HLM.out d (List.mem_of_getElem? hd)
   have d0:(0:Int)<=(d:Int):=by omega
   have d1:(d:Int) < (N:Int):=by omega
   have HD:=hid hd
   have HGI:=hid (HS.out.keeps.at HGW.out (fun q=>q HPC.out))
   clear hd
   go_wp2_with (guard_target=wpList _ _ _ (⟨some _,Op.load _ _,_,_,_,none⟩::_) _ _; refine Zac rfl 23 _ rfl ⟨gc,0,none⟩ rfl (Cfg.A c) (Zap c) (Zae HGI.out) ?_)
   refine (ssector_c c HGD.out s HS0.out HS1.out wr).mono ?_
   rintro e V0 ⟨rfl,x0⟩
   have X0:=hid x0
   clear x0 cd
   go_wp2_with fail
   refine (at_get (HS.out.rack.ext X0.out) d (Rck.ssec c s) 3 d s).mono ?_
   rintro e V1 ⟨rfl,x1⟩
   obtain ⟨o,ho⟩:∃ o,Rj.get d (Rck.ssec c s) 3 d s=o:=⟨_,rfl⟩
   have hok:∀ f,o=some f->f.Ok:=fun f hf=>HS.out.rack.got_ok (ho.trans hf)
   have HOK:=hid hok; have HO:=hid ho
   obtain ⟨Hf,hHf⟩:∃ Hf,o.getD Frm.zero=Hf:=⟨_,rfl⟩
   obtain ⟨bb,hbb⟩:∃ bb,o.isSome=bb:=⟨_,rfl⟩
   have hHo:Hf.Ok:=by
    rw [<- hHf]
    rcases o with _ | f
    ·
     exact Za7
    ·
     exact hok f rfl
   have HHS:=hid (Frm.A_size Hf hHo)
   have HHA:=hid (show AggType Tryz.prog 129 (Frm.A Hf).size by rw [HHS.out]; exact aggFrame)
   rw [ho]
   unfold gotO
   rw [hHf,hbb]
   have HHF:=hid hHf; have HBB:=hid hbb
   have hbs:(V1.alloc (.cells (Frm.A Frm.zero) 129)).heap[V1.heap.size]?=some (.cells (Frm.A Frm.zero) 129 (0,0)):=Zad
   obtain ⟨V2,hV2⟩:∃ V,V1.alloc (.cells (Frm.A Hf) 129)=V:=⟨_,rfl⟩
   have x2:Ext wr V2:=hV2▸(Ext.trans X0.out x1).alloc _
   have X2:=hid x2
   have HF2:=hid (show V2.heap[V1.heap.size]?=some (.cells (Frm.A Hf) 129 (0,0)) from hV2▸heap_alloc_new _ _)
   have HV2:=hid hV2
   have FLO:=hid (show wr.heap.size<=V1.heap.size from (Ext.trans X0.out x1).size)
   clear ho hok hHf hbb hHo hV2 x2 x1
   go_wp2_with (guard_target=wpList _ _ _ (⟨none,Op.store _ _ _,_,_,_,none⟩::_) _ _; refine Zaa rfl 129 _ _ rfl V1.heap.size rfl (Frm.A Hf) _ rfl 129 ?_ hbs ?_ ?_ ?_; (rw [HHS.out]; exact aggFrame); (rw [HHS.out,HZF.out]); exact Frm.A_one _)
   rw [Zai,HV2.out]
   generalize V1.heap.size=fb at *
   clear hbs HV2
   obtain ⟨T1,hT1⟩:∃ T1,wideS (PutT S w.heap.size W2.heap.size) wr V2=T1:=⟨_,rfl⟩
   have HRT:=hid (show RackAt T1 V2 r Rj from hT1▸HS.out.rack.pokes X2.out fun b hb=>hb.elim)
   have HT1:=hid (show ∀ b,PutT S w.heap.size W2.heap.size b->T1 b from fun b hb=>hT1▸.inl hb)
   have HTF:=hid (show T1 fb from hT1▸.inr ⟨FLO.out,lt_of_block HF2.out⟩)
   have HKW:=hid (show Only (fun b=>¬PutT S w.heap.size W2.heap.size b) W2 V2 from Only.ext HS.out.keeps X2.out)
   obtain ⟨F,hF⟩:∃ F,sfrm s gen d (sfrag c l d)=F:=⟨_,rfl⟩
   have hFok:F.Ok:=by
    have e0:∀ i,i < l.length->Cd.B l i∈l:=fun i hi=>by unfold Cd.B; rw [List.getD_eq_getElem?_getD,List.getElem?_eq_getElem hi]; exact List.getElem_mem _
    have l0:0 < l.length:=by have:=HGD.out.k0; have:=HLK.out; omega
    rw [<- hF]
    refine ⟨?_,?_⟩
    ·
     show (sfrag c l d).length=108
     unfold sfrag Cd.mix
     rw [Cd.mixK_len]
     exact HL8.out _ (e0 0 l0)
    ·
     show ∀ x∈sfrag c l d,x < 256
     unfold sfrag Cd.mix
     exact Cd.mixK_byte _ l _ (Cd.row_byte _ d) (fun i=>by
      rcases Nat.lt_or_ge i l.length with q | q
      ·
       exact HLB.out _ (e0 i q)
      ·
       unfold Cd.B
       rw [List.getD_eq_getElem?_getD,List.getElem?_eq_none q]
       intro x hx; simp at hx)
   have HFO:=hid hFok
   have HFS:=hid (Frm.A_size F hFok)
   have HAG:=hid (show AggType Tryz.prog 129 (Frm.A F).size by rw [HFS.out]; exact aggFrame)
   have HFE:=hid hF
   have xd:Ext V2 V2.drew:=(Ext.refl V2).drew
   have base:Hid (∀ y:SW (Only fun b=>¬T1 b) V2.drew,Only (fun b=>¬PutT S w.heap.size W2.heap.size b) W2 y.w):=hid fun y=>Only.trans (Only.ext HKW.out xd) y.ext fun b _ q z=>q (HT1.out b z)
   have lc:Hid (∀ y:SW (Only fun b=>¬T1 b) V2.drew,∀ j u,(Cfg.A c).toList[j]?=some u->y.w.cell? ((⟨gc,0,none⟩:Addr).add j)=some u):=hid fun y=>Zae ((base.out y).at HGW.out (fun q=>q HPC.out))
   have lr:Hid (∀ y:SW (Only fun b=>¬T1 b) V2.drew,∀ j u,(Frm.A F).toList[j]?=some u->y.w.cell? ((⟨px,d*112,none⟩:Addr).add j)=some u):=hid fun y j u hu=>by
    rw [addrPlus]
    exact (HVW.out.only (base.out y) (fun q=>q HPP.out)) d _ (by rw [List.getElem?_map,List.getElem?_range hdn,<- hF]; rfl) j u hu
   have lf:Hid (∀ y:SW (Only fun b=>¬T1 b) V2.drew,∀ j u,(Frm.A Hf).toList[j]?=some u->y.w.cell? ((⟨fb,0,none⟩:Addr).add j)=some u):=hid fun y=>Zae (y.ext.at (xd.at HF2.out) (fun q=>q HTF.out))
   have sc:Hid (∀ y:SW (Only fun b=>¬T1 b) V2.drew,Calls Tryz.prog 77 #[.agg (Cfg.A c),.int .i64 s] y.w fun e w''=>e=.returned (.int .i64 (Rck.ssec c s))/\Ext y.w w''):=hid fun y=>ssector_c c HGD.out s HS0.out HS1.out y.w
   have XD:=hid xd
   clear xd hF hT1 hFok
   go_wp2_with fail
   refine Zav (E:=Ext) (S:=Only fun b=>¬T1 b) (.one [0,1,2,3,4,5,6,7,8,9,10] 11 (.fin [12,13,14,15,16])) (by kernel_rfl) (by kernel_rfl) (fun _ _ d _ _ h=>by cases d<;>exact h) ?_
   rw [wpS]
   simp only [opsAt,opA,opB,opC,opD,opE,opF,opG]
   iterate 2 ((refine Zab (fun K hK=>?_); go_simp; refine hK _ ?_; clear hK K))
   refine Zaj 23 _ rfl ⟨gc,0,none⟩ rfl (Cfg.A c) rfl (Zap c) lc.out ?_
   (refine Zab (fun K hK=>?_); go_simp; refine hK _ ?_; clear hK K)
   (refine Zab (fun K hK=>?_); go_simp; (apply Exists.intro; refine ⟨fun x=>?_,hK _ ?_⟩; (exact sc.out x); clear hK K))
   iterate 3 ((refine Zab (fun K hK=>?_); go_simp; refine hK _ ?_; clear hK K))
   refine Zaj 129 _ rfl ⟨px,d*112,none⟩ rfl (Frm.A F) rfl HAG.out lr.out ?_
   refine Zaj 129 _ rfl ⟨fb,0,none⟩ rfl (Frm.A Hf) rfl HHA.out lf.out ?_
   (refine Zab (fun K hK=>?_); go_simp; refine hK _ ?_; clear hK K)
   refine Zah ?_
   intro V3 hV3
   have X3:=hid (Ext.trans XD.out hV3)
   clear base lc lr lf sc hV3 XD
   have HPUT:=mput_c (HRT.out.ext X3.out) d (Rck.ssec c s) F HFO.out o HOK.out
   rw [HHF.out,HBB.out] at HPUT
   rcases hq:Rj.mput d (Rck.ssec c s) F o with ⟨o2,did,R2⟩
   rw [hq] at HPUT
   have HMR:=hid (show Rck.mpart c s gen l Rj d=(o2,did,R2) by
    show Rj.mput d (Rck.ssec c s) (sfrm s gen d (sfrag c l d)) (Rj.get d (Rck.ssec c s) 3 d s)=_
    rw [HFE.out,HO.out]; exact hq)
   have HPU:=hid HPUT
   have HKW3:=hid (Only.ext HKW.out X3.out)
   clear hq HPUT
   obtain ⟨ov,hov⟩:∃ ov,oErr o2=ov:=⟨_,rfl⟩
   have HOV:=hid hov
   clear hov
   refine Zax fun Q2 hQ2=>?_
   go_wp2_with fail
   refine HPU.out.mono ?_
   rintro e V4 ⟨rfl,h4,k4⟩
   simp only at h4 ⊢
   rw [HOV.out]
   have H4:=hid h4; have K4:=hid k4
   clear h4 k4 HPU
   go_wp2
   refine hQ2 _ _ K4.out ?_
   clear hQ2 Q2
   rw [wpS]
   simp only [opsAt,opA,opB,opC,opD,opE,opF,opG]
   iterate 5 ((refine Zab (fun K hK=>?_); go_simp; refine hK _ ?_; clear hK K))
   refine Zah ?_
   intro V5 hV5
   have HS5:=hid (show JPut S w W2 r R2 V5 from ⟨(H4.out.ext hV5).less HT1.out,Only.ext (Only.trans HKW3.out K4.out fun b _ q z=>q (HT1.out b z)) hV5⟩)
   clear hV5 H4 K4 HKW3 HKW HRT HTF HT1
   rcases o2 with _ | er
   case some =>
    obtain ⟨et,ev,hev⟩:=er.iface
    obtain rfl:ov=.iface et ev:=by rw [<- HOV.out]; exact hev
    have HR:=hid (show R.mstripe c s=(some er,n,R2) by
     rw [HM.out,HL.out,meach_mid HD.out HEJ.out HMR.out]
     rfl)
    have HEV:=hid hev
    clear hev
    go_wp2
    go_ret2
    rw [HR.out]
    exact ⟨by show _=Ending.returned (.tuple #[.int .i64 (n:Int),er.val]); rw [HEV.out]; rfl,HS5.out.out HX2.out⟩
   obtain rfl:Value.nilIface=ov:=HOV.out
   have HN:=hid (Zcn HD.out HEJ.out HMR.out)
   rcases did with _ | _
   ·
    go_wp2
    go_roundw
    case rel=>exact ⟨j+1,n,R2,by go_num,rfl,by omega,by omega,HN.out,HS5.out⟩
    case measure=>simp [intOf]; omega
   ·
    go_wp2
    go_roundw
    case rel=>exact ⟨j+1,n+1,R2,by go_num,by go_num,by omega,by omega,HN.out,HS5.out⟩
    case measure=>simp [intOf]; omega
  ·
   obtain rfl:L.length=j:=by omega
   have HR:Hid (R.mstripe c s=Rck.mdone (none,n,Rj)):=hid (by
    rw [HM.out,HL.out,<- HEJ.out,List.take_length])
   clear HON HEJ
   go_wp2_with fail
   refine (mflush_c HS.out.rack n).mono ?_
   rintro e V4 ⟨rfl,h4,k4⟩
   have HS4:=hid (HS.out.step h4 k4)
   clear h4 k4
   obtain ⟨ov,hov⟩:∃ ov,oErr (Rj.mflush n).1=ov:=⟨_,rfl⟩
   have HOV:=hid hov
   rw [hov]
   clear hov
   go_wp2
   go_ret2
   rw [HR.out]
   exact ⟨by show _=Ending.returned (.tuple #[.int .i64 (n:Int),oErr (Rj.mflush n).1]); rw [HOV.out]; rfl,HS4.out.out HX2.out⟩
end Go.Proofs.YtkipjmbplmdaaaaGreatDoor
