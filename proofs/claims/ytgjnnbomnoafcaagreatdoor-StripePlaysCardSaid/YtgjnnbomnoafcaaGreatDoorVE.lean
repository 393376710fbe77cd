/- Texts of one proof, joined: RackA, RackB, RackC, RackE, RackF. -/
import Derived.Test.YtgjnnbomnoafcaaGreatDoorVD
set_option linter.unusedVariables false
set_option linter.unusedSimpArgs false
namespace Go.Proofs.YtgjnnbomnoafcaaGreatDoor
set_option linter.unusedVariables false
open Go Go.RowKit
namespace RackRep
variable {w w':World} {K:RSk} {R:Rck}
theorem has_eq (h:RackRep w K R) (i:Int):R.has i=(decide (0<=i) && decide (i < (K.n:Int))):=by unfold Rck.has; rw [h.len]
theorem has_nat (h:RackRep w K R) {i:Int} (hi:R.has i=true):∃ j:Nat,i=j/\j < K.n:=by
 rw [h.has_eq] at hi
 simp only [Bool.and_eq_true,decide_eq_true_eq] at hi
 exact ⟨i.toNat,by omega,by omega⟩
theorem dskAt (h:RackRep w K R) {j:Nat} (hj:j < K.n):DiskRep w (K.ks j) (R.dsk (j:Int)):=by
 unfold Rck.dsk; rw [Int.toNat_natCast]; exact h.dsk j hj
theorem sectors_eq (h:RackRep w K R):R.sectors=K.m:=by
 have:=h.dskAt (j:=0) h.pos
 unfold Rck.sectors
 rw [show ((0:Int))=((0:Nat):Int) from rfl,this.len,h.secs 0 h.pos]
theorem set (h:RackRep w K R) {R':Rck} (hl:R'.l=R.l) (hf:-1<=R'.fuse/\R'.fuse<=9223372036854775807) {i:Nat} {v:Value} (hA:(rckA K R).setIfInBounds i v=rckA K R'):RackRep (w.setCell ⟨K.r,i,none⟩ v) K R' where
 len:=by rw [hl]; exact h.len
 pos:=h.pos
 small:=h.small
 own:=by rw [Zar h.own,hA]
 arr:=by
  have e:(w.setCell ⟨K.r,i,none⟩ v).heap[K.lb]?=w.heap[K.lb]?:=Zai _ (Ne.symm h.two)
  refine ⟨h.arr.1,?_⟩
  rcases h.arr.2 with h' | ⟨g,c,cur,h1,h2,h3,h4⟩
  ·
   exact .inl h'
  ·
   have:=h1; unfold RSk.val at this; cases this
   exact .inr ⟨K.lb,_,cur,rfl,Nat.zero_le _,e.trans h3,h4⟩
 dsk:=fun j hj=>by rw [hl]; exact (h.dsk j hj).same fun b hb=>Zai _ (h.far j b hj hb).1
 secs:=h.secs
 fuse:=hf
 one:=h.one
 far:=h.far
 two:=h.two
theorem free (h:RackRep w K R) (i:Nat):w.frozen? ⟨K.r,i,none⟩=false:=Zax h.own
end RackRep
theorem only_set (w:World) (r i:Nat) (v:Value):Only (fun b=>b=r) w (w.setCell ⟨r,i,none⟩ v):=Only.setCell (Only.refl (fun b=>b=r) w) (.inr rfl) v
theorem Zbm {w:World} {K:RSk} {R:Rck} (h:RackRep w K R) (i:Int) :
  Calls Tryz.prog 117 #[.pointer (some ⟨K.r,0,none⟩),.int .i64 i] w fun e w'=>e=.returned (.bool (R.has i))/\w=w':=by
 have c0:=h.cell0
 rw [h.has_eq]
 clear h
 by_cases h0:0<=i
 ·
  have HV:Hid ((decide (0<=i) && decide (i < (K.n:Int)))=decide (i < (K.n:Int))):=hid (by simp [h0])
  rw [HV.out]
  go_enter Tryz.func117,Tryz.ntmps117
  go_wp2
  go_ret
  exact ⟨rfl,rfl⟩
 ·
  have HV:Hid ((decide (0<=i) && decide (i < (K.n:Int)))=false):=hid (by simp [h0])
  rw [HV.out]
  go_enter Tryz.func117,Tryz.ntmps117
  go_wp2
  go_ret
  exact ⟨rfl,rfl⟩
theorem rup_c {w:World} {K:RSk} {R:Rck} (h:RackRep w K R) (i:Int) :
  Calls Tryz.prog 31 #[.pointer (some ⟨K.r,0,none⟩),.int .i64 i] w fun e w'=>e=.returned (.bool (R.up i))/\w=w':=by
 have c0:=h.cell0
 have H:=hid h
 rcases hh:R.has i with _ | _
 ·
  have HV:Hid (R.up i=false):=hid (by unfold Rck.up; rw [hh]; rfl)
  have HH:=hid hh
  rw [HV.out]
  clear h hh
  go_enter Tryz.func31,Tryz.ntmps31
  go_wp2_with (go_at_call 117; refine (Zbm H.out i).mono ?_; rintro e w' ⟨rfl,rfl⟩; rw [HH.out])
  go_ret
  exact ⟨rfl,rfl⟩
 ·
  obtain ⟨j,rfl,hj⟩:=h.has_nat hh
  have HV:Hid (R.up (j:Int)=!(R.dsk (j:Int)).dead):=hid (by unfold Rck.up; rw [hh]; rfl)
  have HH:=hid hh
  have cP:=h.cellP j hj
  have HD:=hid (h.dskAt hj)
  have i0:(0:Int)<=(j:Int):=by omega
  have i1:(j:Int) < (K.n:Int):=by omega
  rw [HV.out]
  clear h hh hj
  go_enter Tryz.func31,Tryz.ntmps31
  go_wp2_with (first
   | (go_at_call 117; refine (Zbm H.out j).mono ?_; rintro e w' ⟨rfl,rfl⟩; rw [HH.out])
   | (go_at_call 123; refine (ddead_c HD.out).mono ?_; rintro e w' ⟨rfl,rfl⟩))
  go_ret
  exact ⟨rfl,rfl⟩
theorem rn_c {w:World} {K:RSk} {R:Rck} (h:RackRep w K R) :
  Calls Tryz.prog 40 #[.pointer (some ⟨K.r,0,none⟩)] w fun e w'=>e=.returned (.int .i64 K.n)/\w=w':=by
 have c0:=h.cell0
 clear h
 go_enter Tryz.func40,Tryz.ntmps40
 go_wp2
 go_ret
 exact ⟨rfl,rfl⟩
theorem Zce {w:World} {K:RSk} {R:Rck} (h:RackRep w K R) :
  Calls Tryz.prog 41 #[.pointer (some ⟨K.r,0,none⟩)] w fun e w'=>e=.returned (.int .i64 K.m)/\w=w':=by
 have c0:=h.cell0
 have cP:=h.cellP 0 h.pos
 have HD:=hid (h.dskAt h.pos)
 have hm:=h.secs 0 h.pos
 have hp:=h.pos
 have HM:=hid hm
 have i1:(0:Int) < (K.n:Int):=by omega
 clear h hm
 go_enter Tryz.func41,Tryz.ntmps41
 go_wp2_with (go_at_call 128; refine (dsectors_c HD.out).mono ?_; rintro e w' ⟨rfl,rfl⟩; rw [HM.out])
 go_ret
 exact ⟨rfl,rfl⟩
def MayPost (w:World) (K:RSk) (R:Rck) (i:Int) (wrong:Bool) (e:Ending) (w':World):Prop :=
 e=.returned (.int .i64 (R.may i wrong))/\RackRep w' K (R.asked i wrong)/\Only (fun b=>b=K.r) w w'
set_option maxHeartbeats 800000 in
theorem rmay_c {w:World} {K:RSk} {R:Rck} (h:RackRep w K R) (i:Int) (wrong:Bool) :
  Calls Tryz.prog 107 #[.pointer (some ⟨K.r,0,none⟩),.int .i64 i,.bool wrong] w (MayPost w K R i wrong):=by
 have H:=hid h
 have c1:=h.cell1
 have c2:=h.cell2
 have f1:=h.free 1
 have f2:=h.free 2
 have hf:=h.fuse
 rcases hh:R.has i with _ | _
 ·
  have HH:=hid hh
  have HF:Hid (MayPost w K R i wrong (.returned (.int .i64 1)) w):=hid ⟨by unfold Rck.may; rw [hh]; rfl,by unfold Rck.asked; rw [hh]; exact h,Only.refl _ _⟩
  clear h hh
  go_enter Tryz.func107,Tryz.ntmps107
  go_wp2_with (go_at_call 117; refine (Zbm H.out i).mono ?_; rintro e w' ⟨rfl,rfl⟩; rw [HH.out])
  go_ret
  exact HF.out
 ·
  have HH:=hid hh
  rcases ho:R.off with _ | _
  ·
   rw [ho] at c1
   rcases hu:R.up i with _ | _
   ·
    have HU:=hid hu
    have HF:Hid (MayPost w K R i wrong (.returned (.int .i64 5)) w):=hid ⟨by unfold Rck.may; rw [hh,ho,hu]; rfl,by unfold Rck.asked; rw [hh,ho,hu]; exact h,Only.refl _ _⟩
    clear h hh hu ho
    go_enter Tryz.func107,Tryz.ntmps107
    go_wp2_with (first
     | (go_at_call 117; refine (Zbm H.out i).mono ?_; rintro e w' ⟨rfl,rfl⟩; rw [HH.out])
     | (go_at_call 31; refine (rup_c H.out i).mono ?_; rintro e w' ⟨rfl,rfl⟩; rw [HU.out]))
    go_ret
    exact HF.out
   ·
    have HU:=hid hu
    rcases wrong with _ | _
    ·
     by_cases h0:R.fuse=0
     ·
      have hR:=h.set (R':={ R with off:=true }) rfl hf (i:=1) (v:=.bool true) rfl
      have HF:Hid (MayPost w K R i false (.returned (.int .i64 5)) (w.setCell ⟨K.r,1,none⟩ (.bool true))):=hid ⟨by unfold Rck.may; rw [hh,ho,hu,if_neg (by simp),if_neg (by simp),if_neg (by simp),if_pos h0],by unfold Rck.asked; rw [hh,ho,hu,if_neg (by simp),if_neg (by simp),if_neg (by simp),if_pos h0]; exact hR,only_set _ _ _ _⟩
      rw [h0] at c2
      clear h hh hu ho hR h0 hf
      go_enter Tryz.func107,Tryz.ntmps107
      go_wp2_with (first
       | (go_at_call 117; refine (Zbm H.out i).mono ?_; rintro e w' ⟨rfl,rfl⟩; rw [HH.out])
       | (go_at_call 31; refine (rup_c H.out i).mono ?_; rintro e w' ⟨rfl,rfl⟩; rw [HU.out]))
      go_ret
      exact HF.out
     ·
      obtain ⟨fu,hfu⟩:∃ fu,R.fuse=fu:=⟨_,rfl⟩
      rw [hfu] at c2 h0 hf
      by_cases hp:0 < fu
      ·
       have hR:=h.set (R':={ R with fuse:=fu - 1 }) rfl ⟨by simp; omega,by simp; omega⟩ (i:=2) (v:=.int .i64 (fu - 1)) rfl
       have HF:Hid (MayPost w K R i false (.returned (.int .i64 0)) (w.setCell ⟨K.r,2,none⟩ (.int .i64 (fu - 1)))):=hid ⟨by unfold Rck.may; rw [hh,ho,hu,if_neg (by simp),if_neg (by simp),if_neg (by simp),if_neg (by omega)],by unfold Rck.asked; rw [hh,ho,hu,if_neg (by simp),if_neg (by simp),if_neg (by simp),if_neg (by omega),if_pos (by omega)]; rw [ho] at hR; rw [hfu]; exact hR,only_set _ _ _ _⟩
       have b1:(fu == 0)=false:=by simp; omega
       clear h hh hu ho hR h0 hfu
       go_enter Tryz.func107,Tryz.ntmps107
       go_wp2_with (first
        | (go_at_call 117; refine (Zbm H.out i).mono ?_; rintro e w' ⟨rfl,rfl⟩; rw [HH.out])
        | (go_at_call 31; refine (rup_c H.out i).mono ?_; rintro e w' ⟨rfl,rfl⟩; rw [HU.out]))
       go_ret
       exact HF.out
      ·
       have HF:Hid (MayPost w K R i false (.returned (.int .i64 0)) w):=hid ⟨by unfold Rck.may; rw [hh,ho,hu,if_neg (by simp),if_neg (by simp),if_neg (by simp),if_neg (by omega)],by unfold Rck.asked; rw [hh,ho,hu,if_neg (by simp),if_neg (by simp),if_neg (by simp),if_neg (by omega),if_neg (by omega)]; exact h,Only.refl _ _⟩
       have b1:(fu == 0)=false:=by simp; omega
       clear h hh hu ho h0 hfu
       go_enter Tryz.func107,Tryz.ntmps107
       go_wp2_with (first
        | (go_at_call 117; refine (Zbm H.out i).mono ?_; rintro e w' ⟨rfl,rfl⟩; rw [HH.out])
        | (go_at_call 31; refine (rup_c H.out i).mono ?_; rintro e w' ⟨rfl,rfl⟩; rw [HU.out]))
       go_ret
       exact HF.out
    ·
     have HF:Hid (MayPost w K R i true (.returned (.int .i64 1)) w):=hid ⟨by unfold Rck.may; rw [hh,ho,hu]; rfl,by unfold Rck.asked; rw [hh,ho,hu]; exact h,Only.refl _ _⟩
     clear h hh hu ho
     go_enter Tryz.func107,Tryz.ntmps107
     go_wp2_with (first
      | (go_at_call 117; refine (Zbm H.out i).mono ?_; rintro e w' ⟨rfl,rfl⟩; rw [HH.out])
      | (go_at_call 31; refine (rup_c H.out i).mono ?_; rintro e w' ⟨rfl,rfl⟩; rw [HU.out]))
     go_ret
     exact HF.out
  ·
   rw [ho] at c1
   have HF:Hid (MayPost w K R i wrong (.returned (.int .i64 5)) w):=hid ⟨by unfold Rck.may; rw [hh,ho]; rfl,by unfold Rck.asked; rw [hh,ho]; exact h,Only.refl _ _⟩
   clear h hh ho
   go_enter Tryz.func107,Tryz.ntmps107
   go_wp2_with (go_at_call 117; refine (Zbm H.out i).mono ?_; rintro e w' ⟨rfl,rfl⟩; rw [HH.out])
   go_ret
   exact HF.out
end Go.Proofs.YtgjnnbomnoafcaaGreatDoor
namespace Go.Proofs.YtgjnnbomnoafcaaGreatDoor
set_option linter.unusedVariables false
open Go Go.RowKit
namespace Rck
theorem may_zero {R:Rck} {i:Int} {wrong:Bool} (h:R.may i wrong=0):R.has i=true/\R.off=false/\R.up i=true/\wrong=false/\R.fuse≠0:=by
 unfold may at h
 cases hh:R.has i
 ·
  rw [hh] at h; simp at h
 ·
  rw [hh,if_neg (by simp)] at h
  cases ho:R.off
  ·
   cases hu:R.up i
   ·
    rw [ho,hu] at h; simp at h
   ·
    rw [ho,hu,if_neg (by simp)] at h
    cases wrong
    ·
     rw [if_neg (by simp)] at h
     by_cases hf:R.fuse=0
     ·
      rw [if_pos hf] at h; simp at h
     ·
      exact ⟨rfl,rfl,rfl,rfl,hf⟩
    ·
     simp at h
  ·
   rw [ho] at h; simp at h
theorem asked_l (R:Rck) (i:Int) (wrong:Bool):(R.asked i wrong).l=R.l:=by
 unfold asked
 split
 ·
  rfl
 ·
  split
  ·
   rfl
  ·
   split
   ·
    rfl
   ·
    split
    ·
     rfl
    ·
     split<;>rfl
theorem up_alive {R:Rck} {i:Int} (h:R.up i=true):(R.dsk i).dead=false:=by
 unfold up at h
 simp only [Bool.and_eq_true,Bool.not_eq_true'] at h
 exact h.2
end Rck
structure RackTo (w:World) (K:RSk) (w':World) (R':Rck) (K':RSk):Prop where
 rep:RackRep w' K' R'
 r:K'.r=K.r
 foot:∀ b,K'.foot b->K.foot b\/w.heap.size<=b
 only:Only K.foot w w'
theorem RackTo.asked {w w':World} {K:RSk} {R':Rck} (h:RackRep w' K R') (e:Only (fun b=>b=K.r) w w'):RackTo w K w' R' K :=
 ⟨h,rfl,fun b hb=>.inl hb,e.mono fun b _ hb=>.inl hb⟩
theorem RackTo.disk {w w1 w2:World} {K:RSk} {R1:Rck} (h:RackRep w1 K R1) (e:Only (fun b=>b=K.r) w w1) {j:Nat} (hj:j < K.n) {D':Dsk} {k':DSk} (t:DiskTo w1 (K.ks j) w2 D' k') :
  RackTo w K w2 (R1.setD (j:Int) D') (RackRep.upd K j k'):=by
 refine ⟨?_,rfl,fun b hb=>?_,?_⟩
 ·
  unfold Rck.setD; rw [Int.toNat_natCast]; exact h.to hj t
 ·
  rcases h.to_foot hj t b hb with h1 | h1
  ·
   exact .inl h1
  ·
   have:=e.size; exact .inr (by omega)
 ·
  exact (e.mono (G:=K.foot) fun b _ hb=>.inl hb).trans (t.only.mono (G:=K.foot) fun b _ hb=>.inr (.inr ⟨j,hj,hb⟩)) fun _ _ x=>x
theorem RackTo.at_ {S:Nat->Prop} {w w':World} {K K':RSk} {R':Rck} (t:RackTo w K w' R' K') (h0:∀ b,S b->b < w.heap.size) (h3:∀ b,K.foot b->¬S b):RackAt S w' K.r R'/\Keeps S w w' :=
 RackAt.into h0 h3 t.r t.rep t.foot t.only
theorem RackRep.bytes_far {w:World} {K:RSk} {R:Rck} (h:RackRep w K R) {b off n:Nat} {l:List Nat} (hb:BytesAt w (some ⟨b,off,none⟩) n l) (hn:0 < n):b≠K.r:=by
 intro e; subst e
 have h1:=hb.get 0 hn
 rw [Zaf h.own] at h1
 unfold rckA at h1
 rcases Nat.lt_or_ge off 3 with h2 | h2
 ·
  rcases (show off=0\/off=1\/off=2 by omega) with rfl | rfl | rfl<;>simp [RSk.val] at h1
 ·
  have e:(#[K.val,Value.bool R.off,.int .i64 R.fuse]:Array Value)[off+0]?=none:=by rw [Array.getElem?_eq_none]; simp; omega
  rw [e] at h1; cases h1
def RWritePost (w:World) (K:RSk) (R:Rck) (i s:Int) (l:List Nat) (e:Ending) (w':World):Prop :=
 e=.returned (oErr (R.write i s l).1)/\∃ K',RackTo w K w' (R.write i s l).2 K'
theorem RWritePost.err {w w1:World} {K:RSk} {R:Rck} {i s:Int} {l:List Nat} {m:Int} (hm:R.may i (R.badW s l)=m) (h0:m≠0) (hr:RackRep w1 K (R.asked i (R.badW s l))) (ho:Only (fun b=>b=K.r) w w1) :
  RWritePost w K R i s l (.returned (Err.fault sRackWrite i (.no m)).val) w1:=by
 unfold RWritePost Rck.write
 rw [hm,if_neg h0]
 exact ⟨rfl,K,RackTo.asked hr ho⟩
set_option maxRecDepth 100000 in
set_option maxHeartbeats 1000000 in
theorem rwrite_c {w:World} {K:RSk} {R:Rck} (h:RackRep w K R) (i s:Int) (a:Option Addr) (n c:Nat) (l:List Nat) (hb:BytesAt w a n l) :
  Calls Tryz.prog 16 #[.pointer (some ⟨K.r,0,none⟩),.int .i64 i,.int .i64 s,.slice a n c] w (RWritePost w K R i s l):=by
 have H:=hid h
 have hbad:R.badW s l=(decide (s < 0) || decide ((K.m:Int)<=s) || decide (n≠128)):=by unfold Rck.badW; rw [h.sectors_eq,hb.len]
 have HBAD:=hid hbad
 have hK:Hid (∀ wr m w1,R.badW s l=wr->R.may i wr=m->m≠0->RackRep w1 K (R.asked i wr)->Only (fun b=>b=K.r) w w1->RWritePost w K R i s l (.returned (Err.fault sRackWrite i (.no m)).val) w1) :=
  hid fun wr m w1 e1 e2 e3 e4 e5=>by subst e1; exact RWritePost.err e2 e3 e4 e5
 obtain ⟨m1,hm1⟩:∃ m1,R.may i true=m1:=⟨_,rfl⟩
 have hm1n:m1≠0:=fun e=>by have:=Rck.may_zero (hm1.trans e); simp at this
 have bm1:(m1 != 0)=true:=by simpa using hm1n
 have HM1:=hid hm1
 clear hm1
 by_cases s0:s < 0
 ·
  have HB:Hid (R.badW s l=true):=hid (by rw [hbad]; simp [s0])
  clear h hbad hb
  go_enter Tryz.func16,Tryz.ntmps16
  go_wp2_with (first
   | (go_at_call 107; refine (rmay_c H.out i true).mono ?_; rintro e w1 ⟨rfl,hr1,ho1⟩; have HR1:=hid hr1; have HO1:=hid ho1; clear hr1 ho1; rw [HM1.out])
   | (go_at_call 97; refine (Za2 sRackWrite i (.no m1) _).mono ?_; rintro e w2 ⟨rfl,rfl⟩))
  go_ret
  exact hK.out _ _ _ HB.out HM1.out hm1n HR1.out HO1.out
 ·
  by_cases s1:(K.m:Int)<=s
  ·
   have HB:Hid (R.badW s l=true):=hid (by rw [hbad]; simp [s1])
   clear h hbad hb
   go_enter Tryz.func16,Tryz.ntmps16
   go_wp2_with (first
    | (go_at_call 41; refine (Zce H.out).mono ?_; rintro e w1 ⟨rfl,rfl⟩)
    | (go_at_call 107; refine (rmay_c H.out i true).mono ?_; rintro e w1 ⟨rfl,hr1,ho1⟩; have HR1:=hid hr1; have HO1:=hid ho1; clear hr1 ho1; rw [HM1.out])
    | (go_at_call 97; refine (Za2 sRackWrite i (.no m1) _).mono ?_; rintro e w2 ⟨rfl,rfl⟩))
   go_ret
   exact hK.out _ _ _ HB.out HM1.out hm1n HR1.out HO1.out
  ·
   by_cases hn:n=128
   ·
    subst hn
    have HB:Hid (R.badW s l=false):=hid (by rw [hbad]; simp [s0]; omega)
    have HBY:=hid hb
    rcases hb.cells with h0 | ⟨b,off,rfl,_⟩
    ·
     omega
    by_cases hm:R.may i false=0
    ·
     obtain ⟨q1,q2,q3,_,q5⟩:=Rck.may_zero hm
     obtain ⟨j,rfl,hj⟩:=h.has_nat q1
     obtain ⟨t,rfl⟩:∃ t:Nat,s=t:=⟨s.toNat,by omega⟩
     have ht:t < K.m:=by omega
     have bd:decide (K.m<=t)=false:=by simp; omega
     have i0:(0:Int)<=(j:Int):=by omega
     have i1:(j:Int) < (K.n:Int):=by omega
     have hne:=h.bytes_far hb (by omega)
     have hal:=Rck.up_alive q3
     have HM:=hid hm
     have HF:Hid (∀ w1 w2 k',RackRep w1 K (R.asked j false)->Only (fun b=>b=K.r) w w1->DiskTo w1 (K.ks j) w2 ((R.dsk j).write t l) k'->RWritePost w K R j t l (.returned .nilIface) w2):=hid fun w1 w2 k' e1 e2 e3=>by
      unfold RWritePost Rck.write
      rw [HB.out,hm,if_pos rfl,Int.toNat_natCast]
      exact ⟨rfl,_,RackTo.disk e1 e2 hj e3⟩
     have HDW:Hid (∀ w1,RackRep w1 K (R.asked j false)->Only (fun b=>b=K.r) w w1->Calls Tryz.prog 108 #[.pointer (some ⟨(K.ks j).p,0,none⟩),.int .i64 t,.slice (some ⟨b,off,none⟩) 128 c] w1 (DWritePost w1 (K.ks j) ((R.dsk j).write t l))):=hid fun w1 e1 e2=>by
      have e3:(R.asked (j:Int) false).dsk j=R.dsk j:=by unfold Rck.dsk; rw [Rck.asked_l]
      have:=e1.dskAt hj
      rw [e3] at this
      exact dwrite_c this hal t (by rw [e1.secs j hj]; exact ht) b off c l (hb.only e2 fun k _ hk e=>hne (by obtain ⟨p,hp,rfl⟩:=hk; cases hp; exact e))
     clear h hbad hb hm q1 q2 q3 q5 hne hal
     go_enter Tryz.func16,Tryz.ntmps16
     go_wp2_with (first
      | (go_at_call 41; refine (Zce H.out).mono ?_; rintro e w1 ⟨rfl,rfl⟩)
      | (go_at_call 107; refine (rmay_c H.out j false).mono ?_; rintro e w1 ⟨rfl,hr1,ho1⟩; have HR1:=hid hr1; have HO1:=hid ho1; have c0:=HR1.out.cell0; have cP:=HR1.out.cellP j hj; clear hr1 ho1; rw [HM.out])
      | (go_at_call 108; refine (HDW.out _ HR1.out HO1.out).mono ?_; rintro e w2 ⟨rfl,k',ht2⟩; have HT2:=hid ht2; clear ht2 c0 cP)
      | (go_at_call 97; refine (wrap_nil sRackWrite j _).mono ?_; rintro e w2 ⟨rfl,rfl⟩))
     go_ret
     exact HF.out _ _ _ HR1.out HO1.out HT2.out
    ·
     obtain ⟨m0,hm0⟩:∃ m0,R.may i false=m0:=⟨_,rfl⟩
     have hm0n:m0≠0:=fun e=>hm (hm0.trans e)
     have bm0:(m0 != 0)=true:=by simpa using hm0n
     have bd:decide ((K.m:Int)<=s)=false:=by simp; omega
     have HM0:=hid hm0
     clear h hbad hb hm hm0
     go_enter Tryz.func16,Tryz.ntmps16
     go_wp2_with (first
      | (go_at_call 41; refine (Zce H.out).mono ?_; rintro e w1 ⟨rfl,rfl⟩)
      | (go_at_call 107; refine (rmay_c H.out i false).mono ?_; rintro e w1 ⟨rfl,hr1,ho1⟩; have HR1:=hid hr1; have HO1:=hid ho1; clear hr1 ho1; rw [HM0.out])
      | (go_at_call 97; refine (Za2 sRackWrite i (.no m0) _).mono ?_; rintro e w2 ⟨rfl,rfl⟩))
     go_ret
     exact hK.out _ _ _ HB.out HM0.out hm0n HR1.out HO1.out
   ·
    have HB:Hid (R.badW s l=true):=hid (by rw [hbad]; simp [hn])
    have bn:((n:Int) != 128)=true:=by simp; omega
    clear h hbad hb
    go_enter Tryz.func16,Tryz.ntmps16
    go_wp2_with (first
     | (go_at_call 41; refine (Zce H.out).mono ?_; rintro e w1 ⟨rfl,rfl⟩)
     | (go_at_call 107; refine (rmay_c H.out i true).mono ?_; rintro e w1 ⟨rfl,hr1,ho1⟩; have HR1:=hid hr1; have HO1:=hid ho1; clear hr1 ho1; rw [HM1.out])
     | (go_at_call 97; refine (Za2 sRackWrite i (.no m1) _).mono ?_; rintro e w2 ⟨rfl,rfl⟩))
    go_ret
    exact hK.out _ _ _ HB.out HM1.out hm1n HR1.out HO1.out
def RFlushPost (w:World) (K:RSk) (R:Rck) (i:Int) (e:Ending) (w':World):Prop :=
 e=.returned (oErr (R.flush i).1)/\∃ K',RackTo w K w' (R.flush i).2 K'
set_option maxRecDepth 100000 in
set_option maxHeartbeats 1000000 in
theorem rflush_c {w:World} {K:RSk} {R:Rck} (h:RackRep w K R) (i:Int) :
  Calls Tryz.prog 18 #[.pointer (some ⟨K.r,0,none⟩),.int .i64 i] w (RFlushPost w K R i):=by
 have H:=hid h
 by_cases hm:R.may i false=0
 ·
  obtain ⟨q1,q2,q3,_,q5⟩:=Rck.may_zero hm
  obtain ⟨j,rfl,hj⟩:=h.has_nat q1
  have i0:(0:Int)<=(j:Int):=by omega
  have i1:(j:Int) < (K.n:Int):=by omega
  have hal:=Rck.up_alive q3
  have HM:=hid hm
  have HF:Hid (∀ w1 w2 k',RackRep w1 K (R.asked j false)->Only (fun b=>b=K.r) w w1->DiskTo w1 (K.ks j) w2 ((R.dsk j).flush) k'->RFlushPost w K R j (.returned .nilIface) w2):=hid fun w1 w2 k' e1 e2 e3=>by
   unfold RFlushPost Rck.flush
   rw [hm,if_pos rfl]
   exact ⟨rfl,_,RackTo.disk e1 e2 hj e3⟩
  have HDW:Hid (∀ w1,RackRep w1 K (R.asked j false)->Calls Tryz.prog 112 #[.pointer (some ⟨(K.ks j).p,0,none⟩)] w1 (DFlushPost w1 (K.ks j) ((R.dsk j).flush))):=hid fun w1 e1=>by
   have e3:(R.asked (j:Int) false).dsk j=R.dsk j:=by unfold Rck.dsk; rw [Rck.asked_l]
   have:=e1.dskAt hj
   rw [e3] at this
   exact dflush_c this hal
  clear h hm q1 q2 q3 q5 hal
  go_enter Tryz.func18,Tryz.ntmps18
  go_wp2_with (first
   | (go_at_call 107; refine (rmay_c H.out j false).mono ?_; rintro e w1 ⟨rfl,hr1,ho1⟩; have HR1:=hid hr1; have HO1:=hid ho1; have c0:=HR1.out.cell0; have cP:=HR1.out.cellP j hj; clear hr1 ho1; rw [HM.out])
   | (go_at_call 112; refine (HDW.out _ HR1.out).mono ?_; rintro e w2 ⟨rfl,k',ht2⟩; have HT2:=hid ht2; clear ht2 c0 cP)
   | (go_at_call 97; refine (wrap_nil sRackFlush j _).mono ?_; rintro e w2 ⟨rfl,rfl⟩))
  go_ret
  exact HF.out _ _ _ HR1.out HO1.out HT2.out
 ·
  obtain ⟨m0,hm0⟩:∃ m0,R.may i false=m0:=⟨_,rfl⟩
  have hm0n:m0≠0:=fun e=>hm (hm0.trans e)
  have bm0:(m0 != 0)=true:=by simpa using hm0n
  have HM0:=hid hm0
  have HF:Hid (∀ w1,RackRep w1 K (R.asked i false)->Only (fun b=>b=K.r) w w1->RFlushPost w K R i (.returned (Err.fault sRackFlush i (.no m0)).val) w1):=hid fun w1 e1 e2=>by
   unfold RFlushPost Rck.flush
   rw [if_neg hm,hm0]
   exact ⟨rfl,K,RackTo.asked e1 e2⟩
  clear h hm hm0
  go_enter Tryz.func18,Tryz.ntmps18
  go_wp2_with (first
   | (go_at_call 107; refine (rmay_c H.out i false).mono ?_; rintro e w1 ⟨rfl,hr1,ho1⟩; have HR1:=hid hr1; have HO1:=hid ho1; clear hr1 ho1; rw [HM0.out])
   | (go_at_call 97; refine (Za2 sRackFlush i (.no m0) _).mono ?_; rintro e w2 ⟨rfl,rfl⟩))
  go_ret
  exact HF.out _ HR1.out HO1.out
def RReadPost (w:World) (R:Rck) (i s:Int) (e:Ending) (w':World):Prop :=
 (∃ er,R.readE i s=some er/\e=.returned (.tuple #[.slice none 0 0,er.val])/\Ext w w') ∨
 (R.readE i s=none/\∃ p:Spot,e=.returned (.tuple #[.slice (some ⟨p.blk,0,none⟩) 128 p.cap,.nilIface])/\w.heap.size<=p.blk/\SecAt w' p ((R.dsk i).read s.toNat)/\Ext w w')
set_option maxRecDepth 100000 in
set_option maxHeartbeats 1000000 in
theorem rread_c {w:World} {K:RSk} {R:Rck} (h:RackRep w K R) (i s:Int) :
  Calls Tryz.prog 34 #[.pointer (some ⟨K.r,0,none⟩),.int .i64 i,.int .i64 s] w (RReadPost w R i s):=by
 have H:=hid h
 have c1:=h.cell1
 rcases hh:R.has i with _ | _
 ·
  have HH:=hid hh
  have HE:Hid (R.readE i s=some (.fault sRackRead i (.no 1))):=hid (by unfold Rck.readE; rw [hh]; rfl)
  clear h hh
  go_enter Tryz.func34,Tryz.ntmps34
  go_wp2_with (first
   | (go_at_call 117; refine (Zbm H.out i).mono ?_; rintro e w' ⟨rfl,rfl⟩; rw [HH.out])
   | (go_at_call 97; refine (Za2 sRackRead i (.no 1) _).mono ?_; rintro e w2 ⟨rfl,rfl⟩))
  go_ret2
  exact .inl ⟨_,HE.out,rfl,Ext.refl _⟩
 ·
  have HH:=hid hh
  rcases ho:R.off with _ | _
  ·
   rw [ho] at c1
   obtain ⟨j,rfl,hj⟩:=h.has_nat hh
   have c0:=h.cell0
   have cP:=h.cellP j hj
   have i0:(0:Int)<=(j:Int):=by omega
   have i1:(j:Int) < (K.n:Int):=by omega
   have HD:=hid (h.dskAt hj)
   have HE:Hid (R.readE j s=((R.dsk j).refusedE sDiskRead s false).map (.fault sRackRead j)):=hid (by unfold Rck.readE; rw [hh,ho]; rfl)
   clear h hh ho
   go_enter Tryz.func34,Tryz.ntmps34
   go_wp2_with (go_at_call 117; refine (Zbm H.out j).mono ?_; rintro e w' ⟨rfl,rfl⟩; rw [HH.out])
   refine (dread_c HD.out s).mono ?_
   rintro e w2 (⟨er,h1,rfl,hx⟩ | ⟨h1,p,rfl,hp,hs,hx⟩)
   ·
    have H1:=hid h1; have HX:=hid hx
    clear h1 hx
    go_wp2_with fail
    refine (Za2 sRackRead j er _).mono ?_
    rintro e w3 ⟨rfl,rfl⟩
    go_wp2
    go_ret2
    exact .inl ⟨_,by rw [HE.out,H1.out]; rfl,rfl,HX.out⟩
   ·
    have H1:=hid h1; have HX:=hid hx; have HS:=hid hs
    clear h1 hx hs
    go_wp2_with (go_at_call 97; refine (wrap_nil sRackRead j _).mono ?_; rintro e w3 ⟨rfl,rfl⟩)
    go_ret2
    exact .inr ⟨by rw [HE.out,H1.out]; rfl,p,rfl,hp,HS.out,HX.out⟩
  ·
   rw [ho] at c1
   have HE:Hid (R.readE i s=some (.fault sRackRead i (.no 5))):=hid (by unfold Rck.readE; rw [hh,ho]; rfl)
   clear h hh ho
   go_enter Tryz.func34,Tryz.ntmps34
   go_wp2_with (first
    | (go_at_call 117; refine (Zbm H.out i).mono ?_; rintro e w' ⟨rfl,rfl⟩; rw [HH.out])
    | (go_at_call 97; refine (Za2 sRackRead i (.no 5) _).mono ?_; rintro e w2 ⟨rfl,rfl⟩))
   go_ret2
   exact .inl ⟨_,HE.out,rfl,Ext.refl _⟩
def RBoolPost (w:World) (K:RSk) (b:Bool) (R':Rck) (e:Ending) (w':World):Prop:=e=.returned (.bool b)/\∃ K',RackTo w K w' R' K'
theorem RackTo.refl {w:World} {K:RSk} {R:Rck} (h:RackRep w K R):RackTo w K w R K:=⟨h,rfl,fun b hb=>.inl hb,Only.refl _ _⟩
theorem rdie_c {w:World} {K:RSk} {R:Rck} (h:RackRep w K R) (i:Int) :
  Calls Tryz.prog 25 #[.pointer (some ⟨K.r,0,none⟩),.int .i64 i] w (RBoolPost w K (R.has i) (R.die i)):=by
 have H:=hid h
 rcases hh:R.has i with _ | _
 ·
  have HH:=hid hh
  have HF:Hid (RBoolPost w K false (R.die i) (.returned (.bool false)) w):=hid ⟨rfl,K,by unfold Rck.die; rw [hh]; exact RackTo.refl h⟩
  clear h hh
  go_enter Tryz.func25,Tryz.ntmps25
  go_wp2_with (go_at_call 117; refine (Zbm H.out i).mono ?_; rintro e w' ⟨rfl,rfl⟩; rw [HH.out])
  go_ret
  exact HF.out
 ·
  obtain ⟨j,rfl,hj⟩:=h.has_nat hh
  have HH:=hid hh
  have c0:=h.cell0
  have cP:=h.cellP j hj
  have i0:(0:Int)<=(j:Int):=by omega
  have i1:(j:Int) < (K.n:Int):=by omega
  have HD:=hid (h.dskAt hj)
  have HF:Hid (∀ w2 k',DiskTo w (K.ks j) w2 ((R.dsk j).die) k'->RBoolPost w K true (R.die j) (.returned (.bool true)) w2):=hid fun w2 k' e3=>by
   unfold Rck.die
   rw [hh,if_pos rfl]
   exact ⟨rfl,_,RackTo.disk h (Only.refl _ _) hj e3⟩
  clear h hh
  go_enter Tryz.func25,Tryz.ntmps25
  go_wp2_with (first
   | (go_at_call 117; refine (Zbm H.out j).mono ?_; rintro e w' ⟨rfl,rfl⟩; rw [HH.out])
   | (go_at_call 118; refine (ddie_c HD.out).mono ?_; rintro e w2 ⟨rfl,k',ht2⟩; have HT2:=hid ht2; clear ht2 c0 cP))
  go_ret
  exact HF.out _ _ HT2.out
theorem rreplace_c {w:World} {K:RSk} {R:Rck} (h:RackRep w K R) (i:Int) :
  Calls Tryz.prog 27 #[.pointer (some ⟨K.r,0,none⟩),.int .i64 i] w (RBoolPost w K (R.has i) (R.replace i)):=by
 have H:=hid h
 rcases hh:R.has i with _ | _
 ·
  have HH:=hid hh
  have HF:Hid (RBoolPost w K false (R.replace i) (.returned (.bool false)) w):=hid ⟨rfl,K,by unfold Rck.replace; rw [hh]; exact RackTo.refl h⟩
  clear h hh
  go_enter Tryz.func27,Tryz.ntmps27
  go_wp2_with (go_at_call 117; refine (Zbm H.out i).mono ?_; rintro e w' ⟨rfl,rfl⟩; rw [HH.out])
  go_ret
  exact HF.out
 ·
  obtain ⟨j,rfl,hj⟩:=h.has_nat hh
  have HH:=hid hh
  have c0:=h.cell0
  have cP:=h.cellP j hj
  have i0:(0:Int)<=(j:Int):=by omega
  have i1:(j:Int) < (K.n:Int):=by omega
  have HD:=hid (h.dskAt hj)
  have HF:Hid (∀ w2 k',DiskTo w (K.ks j) w2 ((R.dsk j).replace) k'->RBoolPost w K true (R.replace j) (.returned (.bool true)) w2):=hid fun w2 k' e3=>by
   unfold Rck.replace
   rw [hh,if_pos rfl]
   exact ⟨rfl,_,RackTo.disk h (Only.refl _ _) hj e3⟩
  clear h hh
  go_enter Tryz.func27,Tryz.ntmps27
  go_wp2_with (first
   | (go_at_call 117; refine (Zbm H.out j).mono ?_; rintro e w' ⟨rfl,rfl⟩; rw [HH.out])
   | (go_at_call 119; refine (dreplace_c HD.out).mono ?_; rintro e w2 ⟨rfl,k',ht2⟩; have HT2:=hid ht2; clear ht2 c0 cP))
  go_ret
  exact HF.out _ _ HT2.out
def RVoidPost (w:World) (K:RSk) (R':Rck) (e:Ending) (w':World):Prop:=e=.returned (.tuple #[])/\∃ K',RackTo w K w' R' K'
theorem RackTo.then {w w1 w2:World} {K K1 K2:RSk} {R1 R2:Rck} (h:RackTo w K w1 R1 K1) (h':RackTo w1 K1 w2 R2 K2):RackTo w K w2 R2 K2 where
 rep:=h'.rep
 r:=h'.r.trans h.r
 foot:=fun b hb=>by
  have:=h.only.size
  rcases h'.foot b hb with h1 | h1
  ·
   rcases h.foot b h1 with h2 | h2
   ·
    exact .inl h2
   ·
    exact .inr h2
  ·
   exact .inr (by omega)
 only:=h.only.trans h'.only fun i hi hf=>by
  rcases h.foot i hf with h2 | h2
  ·
   exact h2
  ·
   omega
theorem infoP:(Tryz.prog.info? 176).map (fun i=>(i.zero,i.size,i.bytes))=some (some (.pointer none),1,8):=by kernel_rfl
theorem ptr_push {w:World} {B:Nat} {v:Value} {l:List Value} (h:w.ownsRow B 176 1 v l.length l) (x:Addr) (hl:l.length < 1000000) (hB:B<=w.heap.size) :
  ∃ v' w',(Builtin.append_ #[173,173] 173 #[v,.slice (some ⟨w.heap.size,0,none⟩) 1 1]).run Tryz.prog (w.alloc (.cells #[.pointer (some x)] 176))=.ok v' w'/\w'.ownsRow B 176 1 v' (l++[Value.pointer (some x)]).length (l++[Value.pointer (some x)]) ∧
   Only (fun b=>v.ownBlock=some b) w w'/\(v'.ownBlock=v.ownBlock\/v'.ownBlock=some (w.heap.size+1)):=by
 obtain ⟨i0,hi,hz0,hz1,hz2⟩:=info_parts infoP
 obtain ⟨v',w',h1,h2,h3,_,h5⟩:=run_append_own_at (P:=Tryz.prog) (w:=w.alloc (.cells #[.pointer (some x)] 176)) B 173 173 176 i0 (.pointer none) 1 8 Tryz.underlying173 hi hz0 hz1 hz2 rfl (by decide)
  v l.length _ (World.ownsRow.alloc h _) ⟨w.heap.size,0,none⟩ 1 1 [.pointer (some x)] rfl
  (by
   intro j u hu
   have hj:j=0:=by
    rcases j with _ | j
    ·
     rfl
    ·
     simp at hu
   subst hj
   have e:(⟨w.heap.size,0,none⟩:Addr).add 0=⟨w.heap.size,0,none⟩:=rfl
   rw [e,Zaf Zad]
   simpa using hu)
  (by intro u hu; simp at hu; subst hu; rfl) (by unfold maxLen; omega) (by omega) (by simp; omega)
 exact ⟨v',w',h1,by rw [List.length_append]; exact h2,(Only.alloc (Only.refl (fun b=>v.ownBlock=some b) w) _).grown h3 (fun k _ e=>e),by simpa using h5⟩
theorem Zcl {w w':World} {B n:Nat} {E:TypeId} {v:Value} {xs:List Value} (h:w.ownsRow B E 1 v n xs) (e:Ext w w'):w'.ownsRow B E 1 v n xs:=by
 refine ⟨h.1,?_⟩
 rcases h.2 with h' | ⟨g,c,cur,h1,h2,h3,h4⟩
 ·
  exact .inl h'
 ·
  exact .inr ⟨g,c,cur,h1,h2,e.at h3,h4⟩
def kptrs (ks:Nat->DSk) (j:Nat):List Value:=(List.range j).map fun i=>.pointer (some ⟨(ks i).p,0,none⟩)
theorem kptrs_len (ks:Nat->DSk) (j:Nat):(kptrs ks j).length=j:=by simp [kptrs]
structure RackMid (w wr:World) (j m:Nat) (v:Value) (ks:Nat->DSk):Prop where
 ext:Ext w wr
 own:wr.heap[w.heap.size]?=some (.cells #[v,.bool false,.int .i64 (-1)] 175 (0,0))
 row:wr.ownsRow (w.heap.size+1) 176 1 v (kptrs ks j).length (kptrs ks j)
 dsk:∀ i,i < j->DiskRep wr (ks i) (Dsk.new m)/\(ks i).n=m/\∀ b,(ks i).foot b->w.heap.size < b/\v.ownBlock≠some b
 one:∀ i i' b,i < j->i' < j->(ks i).foot b->(ks i').foot b->i=i'
theorem RackMid.step {w wr w2 W3:World} {j m:Nat} {v v':Value} {ks:Nat->DSk} {k:DSk} (h:RackMid w wr j m v ks) (hx:Ext wr w2) (hk:DiskRep w2 k (Dsk.new m)) (hn:k.n=m) (hf:∀ b,k.foot b->wr.heap.size<=b)
  (hrow:W3.ownsRow (w.heap.size+1) 176 1 v' (kptrs ks j++[Value.pointer (some ⟨k.p,0,none⟩)]).length (kptrs ks j++[Value.pointer (some ⟨k.p,0,none⟩)])) (ho:Only (fun b=>v.ownBlock=some b) w2 W3) (hv:v'.ownBlock=v.ownBlock\/v'.ownBlock=some (w2.heap.size+1)) :
  RackMid w (W3.setCell ⟨w.heap.size,0,none⟩ v') (j+1) m v' fun i=>if i=j then k else ks i:=by
 have hlt:=lt_of_block h.own
 have hvb:∀ b,v.ownBlock=some b->w.heap.size+1<=b/\b < wr.heap.size:=fun b hb=>h.row.lt b hb
 have hsz:=hx.size
 have hr3:W3.heap[w.heap.size]?=some (.cells #[v,.bool false,.int .i64 (-1)] 175 (0,0)):=ho.at (hx.at h.own) (fun e=>by have:=hvb _ e; omega)
 have hks:kptrs (fun i=>if i=j then k else ks i) (j+1)=kptrs ks j++[.pointer (some ⟨k.p,0,none⟩)]:=by
  unfold kptrs
  rw [List.range_succ,List.map_append,List.map_cons,List.map_nil]
  simp only [if_true]
  congr 1
  apply List.map_congr_left
  intro i hi
  have:i≠j:=by have:=List.mem_range.1 hi; omega
  simp only [this,if_false]
 have hkeep:∀ b,b≠w.heap.size->v.ownBlock≠some b->b < w2.heap.size->(W3.setCell ⟨w.heap.size,0,none⟩ v').heap[b]?=w2.heap[b]?:=fun b h1 h2 h3=>by
  rw [Zai _ h1]; exact ho.block b h3 h2
 have hold:∀ i,i < j->DiskRep (W3.setCell ⟨w.heap.size,0,none⟩ v') (ks i) (Dsk.new m):=fun i hi=>by
  obtain ⟨q1,_,q3⟩:=h.dsk i hi
  exact (q1.ext hx).same fun b hb=>hkeep b (by have:=(q3 b hb).1; omega) (q3 b hb).2 ((q1.ext hx).lt hb)
 have hkb:∀ b,k.foot b->w.heap.size < b/\v'.ownBlock≠some b:=fun b hb=>by
  have h1:=hf b hb
  have h2:=hk.lt hb
  refine ⟨by omega,fun e=>?_⟩
  rcases hv with e1 | e1
  ·
   have:=hvb b (e1▸e); omega
  ·
   rw [e1] at e; have:w2.heap.size+1=b:=Option.some.inj e; omega
 refine ⟨?_,by rw [Zar hr3]; rfl,?_,fun i hi=>?_,fun i i' b hi hi' hb hb'=>?_⟩
 ·
  exact Only.setCell (F:=fun _=>False) (Ext.then (Ext.trans h.ext hx) ho (fun i hi e=>by have:=hvb i e; omega)) (.inl (Nat.le_refl _)) _
 ·
  rw [hks]
  refine ⟨hrow.1,?_⟩
  rcases hrow.2 with h' | ⟨g,c,cur,h1,h2,h3,h4⟩
  ·
   exact .inl h'
  ·
   refine .inr ⟨g,c,cur,h1,h2,?_,h4⟩
   rw [Zai _ (by omega)]; exact h3
 ·
  by_cases hij:i=j
  ·
   subst hij
   simp only [if_true]
   exact ⟨hk.same fun b hb=>hkeep b (by have:=(hkb b hb).1; omega) (fun e=>by have:=hvb b e; have:=hf b hb; omega) (hk.lt hb),hn,hkb⟩
  ·
   simp only [hij,if_false]
   obtain ⟨q1,q2,q3⟩:=h.dsk i (by omega)
   refine ⟨hold i (by omega),q2,fun b hb=>⟨(q3 b hb).1,fun e=>?_⟩⟩
   rcases hv with e1 | e1
   ·
    exact (q3 b hb).2 (e1▸e)
   ·
    rw [e1] at e; have:w2.heap.size+1=b:=Option.some.inj e; have:=q1.lt hb; omega
 ·
  by_cases hij:i=j
  ·
   by_cases hij':i'=j
   ·
    omega
   ·
    simp only [hij,hij',if_true,if_false] at hb hb'
    have:=(h.dsk i' (by omega)).1.lt hb'; have:=hf b hb; omega
  ·
   by_cases hij':i'=j
   ·
    simp only [hij,hij',if_true,if_false] at hb hb'
    have:=(h.dsk i (by omega)).1.lt hb; have:=hf b hb'; omega
   ·
    simp only [hij,hij',if_false] at hb hb'
    exact h.one i i' b (by omega) (by omega) hb hb'
def RNewPost (w:World) (n m:Nat) (e:Ending) (w':World):Prop :=
 ∃ K,e=.returned (.tuple #[.pointer (some ⟨K.r,0,none⟩),.nilIface])/\RackRep w' K (Rck.new n m)/\(∀ b,K.foot b->w.heap.size<=b)/\Ext w w'/\K.n=n/\K.m=m
theorem RackMid.finish {w wr:World} {n m:Nat} {v:Value} {ks:Nat->DSk} (hn:1<=n) (hn8:n<=8) (h:RackMid w wr n m v ks):RNewPost w n m (.returned (.tuple #[.pointer (some ⟨w.heap.size,0,none⟩),.nilIface])) wr:=by
 rcases h.row.2 with ⟨_,h0⟩ | ⟨g,c,cur,rfl,h2,h3,h4⟩
 ·
  rw [kptrs_len] at h0; omega
 ·
  have hrow:=h.row
  rw [kptrs_len] at hrow
  refine ⟨⟨w.heap.size,g,c,n,m,ks⟩,rfl,⟨by simp [Rck.new],hn,hn8,?_,?_,fun i hi=>?_,fun i hi=>(h.dsk i hi).2.1,by simp [Rck.new],h.one,fun i b hi hb=>?_,?_⟩,?_,h.ext,rfl,rfl⟩
  ·
   rw [h.own,kptrs_len]; rfl
  ·
   have e:(⟨w.heap.size,g,c,n,m,ks⟩:RSk).ptrs=kptrs ks n:=rfl
   rw [e]
   refine ⟨hrow.1,?_⟩
   rcases hrow.2 with ⟨q1,_⟩ | ⟨g',c',cur',q1,q2,q3⟩
   ·
    cases q1
   ·
    cases q1
    exact .inr ⟨g,_,cur',rfl,Nat.zero_le _,q3⟩
  ·
   have e:(Rck.new n m).l.getD i default=Dsk.new m:=by
    have hi:i < n:=hi
    simp [Rck.new,List.getD_eq_getElem?_getD,hi]
   rw [e]; exact (h.dsk i hi).1
  ·
   have:=(h.dsk i hi).2.2 b hb
   exact ⟨by show b≠w.heap.size; omega,fun e=>this.2 (by rw [e]; rfl)⟩
  ·
   show w.heap.size≠g; omega
  ·
   rintro b (hb | hb | ⟨i,hi,hb⟩)
   ·
    have hb:b=w.heap.size:=hb; omega
   ·
    have hb:b=g:=hb; omega
   ·
    have:=(h.dsk i hi).2.2 b hb; omega
def NewRel (w:World) (m j:Nat) (wr:World):Prop:=∃ v ks,RackMid w wr j m v ks
set_option maxRecDepth 100000 in
set_option maxHeartbeats 1000000 in
theorem rnew_c (n m:Nat) (hn:1<=n) (hn8:n<=8) (hm:1<=m) (hm2:m<=128) (w:World):Calls Tryz.prog 9 #[.int .i64 n,.int .i64 m] w (RNewPost w n m):=by
 have i1:¬(n:Int) < 1:=by omega
 have i2:¬(8:Int) < (n:Int):=by omega
 have HS:Hid (NewRel w m 0 (w.alloc (.cells #[.slice none 0 0,.bool false,.int .i64 (-1)] 175))):=hid ⟨.slice none 0 0,fun _=>⟨0,0,0,0,0,fun _=>⟨0,0⟩,fun _=>none⟩,(Ext.refl w).alloc _,Zad,World.ownsRow_nil _ _ _ _,fun i hi=>by omega,fun i i' b hi=>by omega⟩
 go_enter Tryz.func9,Tryz.ntmps9
 go_wp2
 go_loopw [21] (fun i wr=>∃ j:Nat,i=.int .i64 j/\j<=n/\NewRel w m j wr) (fun i _=>n - (intOf i).toNat)
 case atStart=>exact ⟨0,rfl,by omega,HS.out⟩
 case round =>
  clear HS
  obtain ⟨j,rfl,hj,v,ks,hmid⟩:=hrel
  have HM:=hid hmid
  clear hmid
  by_cases hlt:j < n
  ·
   go_wp2_with (go_at_call 98; fail)
   refine (dnew_c m hm hm2 wr).mono ?_
   rintro e w2 ⟨k,rfl,hk,hkn,hkf,hx⟩
   have c0:w2.cell? ⟨w.heap.size,0,none⟩=some v:=Zaf (hx.at HM.out.own)
   obtain ⟨v',W3,hap,hrow,ho,hv⟩:=ptr_push (Zcl HM.out.row hx) ⟨k.p,0,none⟩ (by rw [kptrs_len]; omega) (by have:=hx.size; have:=lt_of_block HM.out.own; omega)
   obtain ⟨g,L,c,rfl⟩:∃ g L c,v'=.slice (some ⟨g,0,none⟩) L c:=by
    rcases hrow.2 with ⟨_,h0⟩ | ⟨g,c,cur,h1,_⟩
    ·
     simp at h0
    ·
     exact ⟨g,_,c,h1⟩
   have HF:=hid (HM.out.step hx hk hkn hkf hrow ho hv)
   have hr3:W3.heap[w.heap.size]?=some (.cells #[v,.bool false,.int .i64 (-1)] 175 (0,0)):=ho.at (hx.at HM.out.own) (fun e=>by have:=(HM.out.row.lt _ e).1; omega)
   have c3:W3.cell? ⟨w.heap.size,0,none⟩=some v:=Zaf hr3
   have f3:W3.frozen? ⟨w.heap.size,0,none⟩=false:=Zax hr3
   clear hk hkn hkf hx hrow ho hv hr3
   go_wp2_with (at_builtin; refine wpList_append_run rfl _ _ _ rfl _ _ _ _ rfl rfl hap ?_)
   go_roundw
   case rel=>exact ⟨j+1,by go_num,by omega,_,_,HF.out⟩
   case measure=>simp [intOf]; omega
  ·
   obtain rfl:n=j:=by omega
   have HF:=hid (HM.out.finish hn hn8)
   go_wp2
   go_ret2
   exact HF.out
end Go.Proofs.YtgjnnbomnoafcaaGreatDoor
