/- Texts of one proof, joined: RfJourA, RfJourB, RfJourD. -/
import Derived.Test.YtgjnnbomnoafcaaGreatDoorVM
import Derived.Test.YtgjnnbomnoafcaaGreatDoorVP
import Derived.Test.YtgjnnbomnoafcaaGreatDoorVF
import Derived.Test.YtgjnnbomnoafcaaGreatDoorVQ
import Derived.Test.YtgjnnbomnoafcaaGreatDoorVL
set_option linter.unusedVariables false
set_option linter.unusedSimpArgs false
namespace Go.Proofs.YtgjnnbomnoafcaaGreatDoor
set_option linter.unusedVariables false
open Go Go.RowKit
set_option maxHeartbeats 1000000 in
theorem fall_c {S:Nat->Prop} {w:World} {r:Nat} {R:Rck} (h:FRackAt S w r R) (hsm:R.l.length<=8) :
  Calls Tryz.prog 149 #[.pointer (some ⟨r,0,none⟩)] w (ROnlinePost w R):=by
 obtain ⟨gl,cl,c0⟩:=fat_n h
 have H:=hid h
 obtain ⟨n,hn⟩:∃ n,R.l.length=n:=⟨_,rfl⟩
 have HW:Hid (R.onTo n=R.online):=hid (by unfold Rck.onTo Rck.online; rw [hn])
 rw [hn] at c0 hsm
 clear h hn
 go_enter Tryz.func149,Tryz.ntmps149
 go_wp2
 clear c0
 go_loopw [3,10] (fun v i wr=>∃ j:Nat,i=.int .i64 j/\j<=n/\OwnInts wr w.heap.size v (R.onTo j)/\Ext w wr) (fun _ i _=>n - (intOf i).toNat)
 case atStart=>exact ⟨0,rfl,by omega,OwnInts.nil _ _,Ext.refl _⟩
 case round =>
  obtain ⟨j,rfl,hj,hown,hx⟩:=hrel
  by_cases hlt:j < n
  ·
   have hup:=R.onTo_succ j
   have hlen:=R.onTo_len j
   have HU:=hid (fat_up (H.out.ext hx) (j:Int))
   rcases hu:R.up (j:Int) with _ | _
   ·
    rw [hu] at hup
    simp only [Bool.false_eq_true,if_false,List.append_nil] at hup
    rw [<- hup] at hown
    have HO:=hid hown; have HX:=hid hx; have HV:=hid hu
    clear hu hup hown hx
    go_wp2_with (go_at_call 30; refine HU.out.mono ?_; rintro e w' ⟨rfl,rfl⟩; rw [HV.out])
    go_roundw
    case rel=>exact ⟨j+1,by go_num,by omega,HO.out,HX.out⟩
    case measure=>simp [intOf]; omega
   ·
    rw [hu] at hup
    simp only [if_true] at hup
    obtain ⟨v',W2,hap,hown2,_,hx2⟩:=hown.push j (by omega) hx.size
    rw [<- hup] at hown2
    have HO:=hid hown2; have HX:=hid (hx2 w (Nat.le_refl _) hx); have HV:=hid hu
    clear hu hup hown hx hown2 hx2
    go_wp2_with (first
     | (go_at_call 30; refine HU.out.mono ?_; rintro e w' ⟨rfl,rfl⟩; rw [HV.out])
     | (at_builtin; refine wpList_append_run rfl _ _ _ rfl _ _ _ _ rfl rfl hap ?_))
    go_roundw
    case rel=>exact ⟨j+1,by go_num,by omega,HO.out,HX.out⟩
    case measure=>simp [intOf]; omega
  ·
   obtain rfl:n=j:=by omega
   rw [HW.out] at hown
   have HO:=hid hown; have HX:=hid hx
   clear hown hx
   go_wp2
   go_ret
   exact ⟨_,rfl,HO.out,HX.out⟩
theorem Rck.flush_kind {R:Rck} {i:Int} {er:Err} (h:(R.flush i).1=some er):er.kind≠0:=by
 unfold Rck.flush at h
 split at h
 ·
  cases h
 ·
  rename_i hm
  simp only [Option.some.injEq] at h
  subst h
  exact hm
structure FJPut (S:Nat->Prop) (w W:World) (r:Nat) (R:Rck) (wr:World):Prop where
 rack:FRackAt (PutT S w.heap.size W.heap.size) wr r R
 keeps:Only (fun b=>¬PutT S w.heap.size W.heap.size b) W wr
theorem FJPut.out {S:Nat->Prop} {w W:World} {r:Nat} {R:Rck} {wr:World} (h:FJPut S w W r R wr) (e:Ext w W):FRackAt S wr r R/\Keeps S w wr :=
 ⟨h.rack.less fun b hb=>.inl hb,Only.trans (Ext.only e) h.keeps fun b _ hb q=>hb (.inl q)⟩
theorem FJPut.step {S:Nat->Prop} {w W:World} {r:Nat} {R R2:Rck} {wr w4:World} (h:FJPut S w W r R wr) (h4:FRackAt (PutT S w.heap.size W.heap.size) w4 r R2) (k:Keeps (PutT S w.heap.size W.heap.size) wr w4):FJPut S w W r R2 w4 :=
 ⟨h4,Only.trans h.keeps k fun _ _ q=>q⟩
def Rck.flushAll (R:Rck):Option Err × Rck:=each (fun R d=>R.flush (d:Nat)) R.online R
set_option maxRecDepth 100000 in
set_option maxHeartbeats 1000000 in
theorem fflush_all {S:Nat->Prop} {w:World} {r:Nat} {R:Rck} (h:FRackAt S w r R) (hsm:R.l.length<=8) :
  Calls Tryz.prog 151 #[.pointer (some ⟨r,0,none⟩)] w fun e w'=>e=.returned (.int .i64 (okind R.flushAll.1))/\FRackAt S w' r R.flushAll.2/\Keeps S w w':=by
 have H:=hid h
 have HALL:=hid (fall_c h hsm)
 have HR:Hid (R.flushAll=each (fun R d=>R.flush (d:Nat)) R.online R):=hid rfl
 have hlen:=R.online_len
 clear h
 go_enter Tryz.func151,Tryz.ntmps151
 go_wp2_with fail
 refine HALL.out.mono ?_
 rintro e W3 ⟨v,rfl,hown,x3⟩
 obtain ⟨oa2,oc2,rfl,hcell⟩:=hown.slice
 obtain ⟨L2,hL2⟩:∃ L,R.online=L:=⟨_,rfl⟩
 have hLn2:L2.length<=8:=by rw [<- hL2]; omega
 rw [hL2] at hcell HR ⊢
 have HX3:=hid x3
 have HON:Hid (∀ wx,Only (fun b=>¬PutT S w.heap.size W3.heap.size b) W3 wx->∀ j d:Nat,L2[j]?=some d->∃ g,oa2=some ⟨g,0,none⟩/\wx.cell? ⟨g,j,none⟩=some (.int .i64 d)):=hid fun wx e j d hd=>by
  rcases hcell with ⟨q,_⟩ | ⟨g,q1,q2,q3,q4,q5⟩
  ·
   subst q; simp at hd
  ·
   have hjl:j < L2.length:=by
    rcases Nat.lt_or_ge j L2.length with q | q
    ·
     exact q
    ·
     rw [List.getElem?_eq_none q] at hd; cases hd
   refine ⟨g,q1,e.cell ?_ (fun q=>q (.inr ⟨q2,q3⟩))⟩
   rw [q5 j hjl]
   have:L2.getD j 0=d:=by rw [List.getD_eq_getElem?_getD,hd]; rfl
   rw [this]; rfl
 have HST:Hid (FJPut S w W3 r R W3):=hid ⟨H.out.more x3 fun b hb=>by
  have:=x3.size
  rcases hb with hb | hb
  ·
   exact ⟨by have:=H.out.there b hb; omega,.inl hb⟩
  ·
   exact ⟨hb.2,.inr hb.1⟩,Only.refl _ _⟩
 clear hcell hown x3 hL2 hlen HALL
 go_wp2
 go_loopw [9] (fun v wx=>∃ (m:Nat) (Rm:Rck),v=.int .i64 m/\m<=L2.length/\each (fun R d=>R.flush (d:Nat)) (L2.take m) R=(none,Rm)/\FJPut S w W3 r Rm wx) (fun v _=>L2.length - (intOf v).toNat)
 case atStart=>exact ⟨0,R,rfl,by omega,rfl,HST.out⟩
 case round =>
  clear HST
  obtain ⟨m,Rm,rfl,hm,hem,hst⟩:=hrel
  have HEM:=hid hem; have HS:=hid hst
  clear hem hst
  by_cases hlt2:m < L2.length
  ·
   have j0:(0:Int)<=(m:Int):=by omega
   have j1:(m:Int) < (L2.length:Int):=by omega
   obtain ⟨d,hd⟩:∃ d,L2[m]?=some d:=⟨L2[m],List.getElem?_eq_getElem hlt2⟩
   obtain ⟨g,rfl,cd⟩:=HON.out wr HS.out.keeps m d hd
   have HD:=hid hd
   clear hd
   go_wp2_with fail
   refine (fat_flush HS.out.rack d).mono ?_
   rintro e W4 ⟨rfl,h4,k4⟩
   have HFK:=hid (fun er=>Rck.flush_kind (R:=Rm) (i:=d) (er:=er))
   rcases hw:Rm.flush d with ⟨o,Rn⟩
   rw [hw] at h4 HFK
   simp only at h4 HFK ⊢
   have HST4:=hid (FJPut.step HS.out h4 k4)
   have HW:=hid hw
   clear h4 k4 hw cd
   rcases o with _ | er
   ·
    have HE1:=hid (each_next (f:=fun R d=>R.flush (d:Nat)) HD.out HEM.out HW.out)
    simp only [okind]
    go_wp2
    exact ⟨⟨m+1,Rn,by go_num,by omega,HE1.out,HST4.out⟩,by simp [intOf]; omega⟩
   ·
    have HE3:Hid (R.flushAll=(some er,Rn)):=hid (by rw [HR.out]; exact each_mid HD.out HEM.out HW.out)
    have hk:=HFK.out er rfl
    simp only [okind]
    obtain ⟨k,hkk⟩:∃ k,er.kind=k:=⟨_,rfl⟩
    rw [hkk] at hk ⊢
    have HKK:=hid hkk
    have hk0:(k != 0)=true:=by simp [hk]
    clear hk hkk HFK
    go_wp2
    go_ret
    rw [HE3.out]
    exact ⟨by rw [<- HKK.out]; rfl,HST4.out.out HX3.out⟩
  ·
   obtain rfl:m=L2.length:=by omega
   have HE3:Hid (R.flushAll=(none,Rm)):=hid (by rw [HR.out,<- HEM.out,List.take_length])
   go_wp2
   go_ret
   rw [HE3.out]
   exact ⟨rfl,HS.out.out HX3.out⟩
theorem Rck.asked_len (R:Rck) (i:Int) (b:Bool):(R.asked i b).l.length=R.l.length:=by
 unfold Rck.asked
 split
 ·
  rfl
 ·
  split
  ·
   rfl
  ·
   split
   ·
    rfl
   ·
    split
    ·
     rfl
    ·
     split<;>rfl
theorem Rck.write_len (R:Rck) (i s:Int) (b:List Nat):(R.write i s b).2.l.length=R.l.length:=by
 unfold Rck.write
 split
 ·
  show ((R.asked i (R.badW s b)).setD i _).l.length=_
  unfold Rck.setD
  rw [List.length_set,Rck.asked_len]
 ·
  exact Rck.asked_len _ _ _
attribute [local irreducible] wpSQ
end Go.Proofs.YtgjnnbomnoafcaaGreatDoor
