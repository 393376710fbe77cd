/- Texts of one proof, joined: RfRackA, RfRackB. -/
import Derived.Test.YtgjnnbomnoafcaaGreatDoorVJ
import Derived.Test.YtgjnnbomnoafcaaGreatDoorVF
set_option linter.unusedVariables false
set_option linter.unusedSimpArgs false
namespace Go.Proofs.YtgjnnbomnoafcaaGreatDoor
set_option linter.unusedVariables false
open Go Go.RowKit
namespace Rck
def mayc (R:Rck) (i:Int):Int:=if R.has i=false then 1 else if R.off || !R.up i then 5 else 0
def burnt (R:Rck):Rck:=if R.fuse=0 then { R with off:=true } else if 0 < R.fuse then { R with fuse:=R.fuse - 1 } else R
theorem mayc_zero {R:Rck} {i:Int} (h:R.mayc i=0):R.has i=true/\R.off=false/\R.up i=true:=by
 unfold mayc at h
 cases hh:R.has i
 ·
  rw [hh] at h; simp at h
 ·
  cases ho:R.off
  ·
   cases hu:R.up i
   ·
    rw [hh,ho,hu] at h; simp at h
   ·
    exact ⟨rfl,rfl,rfl⟩
  ·
   rw [hh,ho] at h; simp at h
theorem may_of_mayc {R:Rck} {i:Int} (h:R.mayc i≠0) (b:Bool):R.may i b=R.mayc i/\R.asked i b=R:=by
 unfold mayc at h ⊢
 unfold may asked
 cases hh:R.has i
 ·
  simp
 ·
  rw [hh] at h
  cases ho:R.off
  ·
   cases hu:R.up i
   ·
    simp
   ·
    rw [ho,hu] at h; simp at h
  ·
   simp
theorem may_live {R:Rck} {i:Int} (h:R.mayc i=0):R.may i true=1/\R.asked i true=R/\R.may i false=(if R.fuse=0 then 5 else 0)/\R.asked i false=R.burnt:=by
 obtain ⟨h1,h2,h3⟩:=mayc_zero h
 unfold may asked burnt
 rw [h1,h2,h3]
 simp
theorem burnt_l (R:Rck):R.burnt.l=R.l:=by
 unfold burnt
 split
 ·
  rfl
 ·
  split<;>rfl
end Rck
theorem Dsk.code_eq (D:Dsk) (op:ByteArray) (i:Int):D.code i=okind (D.refusedE op i false):=by
 unfold Dsk.code Dsk.refusedE
 cases D.dead
 ·
  by_cases h:0<=i/\i < (D.l.length:Int)
  ·
   have h1:(decide (0<=i) && decide (i < (D.l.length:Int)))=true:=by simp; omega
   have h2:(false || decide (i < 0) || decide ((D.l.length:Int)<=i))=false:=by simp; omega
   rw [h1,h2]; rfl
  ·
   have h1:(decide (0<=i) && decide (i < (D.l.length:Int)))=false:=by
    rw [Bool.and_eq_false_iff,decide_eq_false_iff_not,decide_eq_false_iff_not]; omega
   have h2:(false || decide (i < 0) || decide ((D.l.length:Int)<=i))=true:=by
    rw [Bool.false_or,Bool.or_eq_true,decide_eq_true_eq,decide_eq_true_eq]; omega
   rw [h1,h2]; rfl
 ·
  rfl
namespace FRackRep
variable {w w':World} {K:FRSk} {R:Rck}
theorem has_eq (h:FRackRep w K R) (i:Int):R.has i=(decide (0<=i) && decide (i < (K.n:Int))):=by unfold Rck.has; rw [h.len]
theorem has_nat (h:FRackRep w K R) {i:Int} (hi:R.has i=true):∃ j:Nat,i=j/\j < K.n:=by
 rw [h.has_eq] at hi
 simp only [Bool.and_eq_true,decide_eq_true_eq] at hi
 exact ⟨i.toNat,by omega,by omega⟩
theorem dskAt (h:FRackRep w K R) {j:Nat} (hj:j < K.n):FRep w (K.ks j) (R.dsk (j:Int)):=by
 unfold Rck.dsk; rw [Int.toNat_natCast]; exact h.dsk j hj
theorem sectors_eq (h:FRackRep w K R):R.sectors=K.m:=by
 have:=h.dskAt (j:=0) h.pos
 unfold Rck.sectors
 rw [show ((0:Int))=((0:Nat):Int) from rfl,this.len,h.secs 0 h.pos]
theorem set (h:FRackRep w K R) {R':Rck} {x:Int} (hl:R'.l=R.l) (hf:-1<=x/\x<=9223372036854775807) (hv:R'.off=false->x=R'.fuse) (hw:w'.heap[K.r]?=some (.cells #[K.val,.int .i64 x,.bool R'.off] 54 (0,0))) (ho:Only (fun b=>b=K.r) w w'):FRackRep w' { K with f:=x } R' where
 len:=by rw [hl]; exact h.len
 pos:=h.pos
 small:=h.small
 own:=hw
 arr:=by
  obtain ⟨cur,hc,_⟩:=h.arrAt
  have e:=ho.block K.lb (lt_of_block hc) (Ne.symm h.two)
  refine ⟨h.arr.1,?_⟩
  rcases h.arr.2 with h' | ⟨g,c,cur,h1,h2,h3,h4⟩
  ·
   exact .inl h'
  ·
   have:=h1; unfold FRSk.val at this; cases this
   exact .inr ⟨K.lb,_,cur,rfl,Nat.zero_le _,e.trans h3,h4⟩
 dsk:=fun j hj=>by rw [hl]; exact (h.dsk j hj).only ho fun b hb=>(h.far j b hj hb).1
 secs:=h.secs
 fuse:=hf
 live:=hv
 one:=h.one
 far:=h.far
 two:=h.two
theorem free (h:FRackRep w K R) (i:Nat):w.frozen? ⟨K.r,i,none⟩=false:=Zax h.own
theorem bytes_far (h:FRackRep w K R) {b off n:Nat} {l:List Nat} (hb:BytesAt w (some ⟨b,off,none⟩) n l) (hn:0 < n):b≠K.r:=by
 intro e; subst e
 have h1:=hb.get 0 hn
 rw [Zaf h.own] at h1
 unfold frckA at h1
 rcases Nat.lt_or_ge off 3 with h2 | h2
 ·
  rcases (show off=0\/off=1\/off=2 by omega) with rfl | rfl | rfl<;>simp [FRSk.val] at h1
 ·
  have e:(#[K.val,Value.int .i64 K.f,.bool R.off]:Array Value)[off+0]?=none:=by rw [Array.getElem?_eq_none]; simp; omega
  rw [e] at h1; cases h1
end FRackRep
structure FRackTo (w:World) (K:FRSk) (w':World) (R':Rck) (K':FRSk):Prop where
 rep:FRackRep w' K' R'
 r:K'.r=K.r
 foot:∀ b,K'.foot b->K.foot b\/w.heap.size<=b
 only:Only K.foot w w'
theorem FRackTo.refl {w:World} {K:FRSk} {R:Rck} (h:FRackRep w K R):FRackTo w K w R K:=⟨h,rfl,fun b hb=>.inl hb,Only.refl _ _⟩
theorem FRackTo.asked {w w':World} {K:FRSk} {R':Rck} {x:Int} (h:FRackRep w' { K with f:=x } R') (e:Only (fun b=>b=K.r) w w'):FRackTo w K w' R' { K with f:=x } :=
 ⟨h,rfl,fun b hb=>.inl hb,e.mono fun b _ hb=>.inl hb⟩
theorem FRackTo.disk {w w1 w2:World} {K:FRSk} {R1:Rck} {x:Int} (h:FRackRep w1 { K with f:=x } R1) (e:Only (fun b=>b=K.r) w w1) {j:Nat} (hj:j < K.n) {D':Dsk} {k':FSk} (t:FTo w1 (K.ks j) w2 D' k') :
  FRackTo w K w2 (R1.setD (j:Int) D') (FRackRep.upd { K with f:=x } j k'):=by
 refine ⟨?_,rfl,fun b hb=>?_,?_⟩
 ·
  unfold Rck.setD; rw [Int.toNat_natCast]; exact h.to hj t
 ·
  rcases h.to_foot hj t b hb with h1 | h1
  ·
   exact .inl h1
  ·
   have:=e.size; exact .inr (by omega)
 ·
  exact (e.mono (G:=K.foot) fun b _ hb=>.inl hb).trans (t.only.mono (G:=K.foot) fun b _ hb=>.inr (.inr ⟨j,hj,hb⟩)) fun _ _ x=>x
theorem FRackTo.then {w w1 w2:World} {K K1 K2:FRSk} {R1 R2:Rck} (h:FRackTo w K w1 R1 K1) (h':FRackTo w1 K1 w2 R2 K2):FRackTo w K w2 R2 K2 where
 rep:=h'.rep
 r:=h'.r.trans h.r
 foot:=fun b hb=>by
  have:=h.only.size
  rcases h'.foot b hb with h1 | h1
  ·
   rcases h.foot b h1 with h2 | h2
   ·
    exact .inl h2
   ·
    exact .inr h2
  ·
   exact .inr (by omega)
 only:=h.only.trans h'.only fun i hi hf=>by
  rcases h.foot i hf with h2 | h2
  ·
   exact h2
  ·
   omega
theorem FRackTo.at_ {S:Nat->Prop} {w w':World} {K K':FRSk} {R':Rck} (t:FRackTo w K w' R' K') (h0:∀ b,S b->b < w.heap.size) (h3:∀ b,K.foot b->¬S b):FRackAt S w' K.r R'/\Keeps S w w' :=
 FRackAt.into h0 h3 t.r t.rep t.foot t.only
theorem Zcs {w:World} {K:FRSk} {R:Rck} (h:FRackRep w K R) (i:Int) :
  Calls Tryz.prog 122 #[.pointer (some ⟨K.r,0,none⟩),.int .i64 i] w fun e w'=>e=.returned (.bool (R.has i))/\w=w':=by
 have c0:=h.cell0
 rw [h.has_eq]
 clear h
 by_cases h0:0<=i
 ·
  have HV:Hid ((decide (0<=i) && decide (i < (K.n:Int)))=decide (i < (K.n:Int))):=hid (by simp [h0])
  rw [HV.out]
  go_enter Tryz.func122,Tryz.ntmps122
  go_wp2
  go_ret
  exact ⟨rfl,rfl⟩
 ·
  have HV:Hid ((decide (0<=i) && decide (i < (K.n:Int)))=false):=hid (by simp [h0])
  rw [HV.out]
  go_enter Tryz.func122,Tryz.ntmps122
  go_wp2
  go_ret
  exact ⟨rfl,rfl⟩
theorem frup_c {w:World} {K:FRSk} {R:Rck} (h:FRackRep w K R) (i:Int) :
  Calls Tryz.prog 30 #[.pointer (some ⟨K.r,0,none⟩),.int .i64 i] w fun e w'=>e=.returned (.bool (R.up i))/\w=w':=by
 have c0:=h.cell0
 have H:=hid h
 rcases hh:R.has i with _ | _
 ·
  have HV:Hid (R.up i=false):=hid (by unfold Rck.up; rw [hh]; rfl)
  have HH:=hid hh
  rw [HV.out]
  clear h hh
  go_enter Tryz.func30,Tryz.ntmps30
  go_wp2_with (go_at_call 122; refine (Zcs H.out i).mono ?_; rintro e w' ⟨rfl,rfl⟩; rw [HH.out])
  go_ret
  exact ⟨rfl,rfl⟩
 ·
  obtain ⟨j,rfl,hj⟩:=h.has_nat hh
  have HV:Hid (R.up (j:Int)=!(R.dsk (j:Int)).dead):=hid (by unfold Rck.up; rw [hh]; rfl)
  have HH:=hid hh
  have cP:=h.cellP j hj
  have c3:=(h.dskAt hj).cell3
  have i0:(0:Int)<=(j:Int):=by omega
  have i1:(j:Int) < (K.n:Int):=by omega
  rw [HV.out]
  generalize (R.dsk (j:Int)).dead=dd at *
  clear h hh hj
  go_enter Tryz.func30,Tryz.ntmps30
  go_wp2_with (go_at_call 122; refine (Zcs H.out j).mono ?_; rintro e w' ⟨rfl,rfl⟩; rw [HH.out])
  go_ret
  exact ⟨rfl,rfl⟩
set_option maxHeartbeats 800000 in
theorem Zb9 {w:World} {K:FRSk} {R:Rck} (h:FRackRep w K R) (i:Int) :
  Calls Tryz.prog 109 #[.pointer (some ⟨K.r,0,none⟩),.int .i64 i] w fun e w'=>e=.returned (.int .i64 (R.mayc i))/\w=w':=by
 have H:=hid h
 have c0:=h.cell0
 have c1:=h.cell1
 rcases hh:R.has i with _ | _
 ·
  have HH:=hid hh
  have HV:Hid (R.mayc i=1):=hid (by unfold Rck.mayc; rw [hh]; rfl)
  rw [HV.out]
  clear h hh
  go_enter Tryz.func109,Tryz.ntmps109
  go_wp2_with (go_at_call 122; refine (Zcs H.out i).mono ?_; rintro e w' ⟨rfl,rfl⟩; rw [HH.out])
  go_ret
  exact ⟨rfl,rfl⟩
 ·
  have HH:=hid hh
  rcases ho:R.off with _ | _
  ·
   rw [ho] at c1
   obtain ⟨j,rfl,hj⟩:=h.has_nat hh
   have cP:=h.cellP j hj
   have c3:=(h.dskAt hj).cell3
   have i0:(0:Int)<=(j:Int):=by omega
   have i1:(j:Int) < (K.n:Int):=by omega
   rcases hd:(R.dsk (j:Int)).dead with _ | _
   ·
    rw [hd] at c3
    have HV:Hid (R.mayc j=0):=hid (by unfold Rck.mayc Rck.up; rw [hh,ho,hd]; rfl)
    rw [HV.out]
    clear h hh ho hd hj
    go_enter Tryz.func109,Tryz.ntmps109
    go_wp2_with (go_at_call 122; refine (Zcs H.out j).mono ?_; rintro e w' ⟨rfl,rfl⟩; rw [HH.out])
    go_ret
    exact ⟨rfl,rfl⟩
   ·
    rw [hd] at c3
    have HV:Hid (R.mayc j=5):=hid (by unfold Rck.mayc Rck.up; rw [hh,ho,hd]; rfl)
    rw [HV.out]
    clear h hh ho hd hj
    go_enter Tryz.func109,Tryz.ntmps109
    go_wp2_with (go_at_call 122; refine (Zcs H.out j).mono ?_; rintro e w' ⟨rfl,rfl⟩; rw [HH.out])
    go_ret
    exact ⟨rfl,rfl⟩
  ·
   rw [ho] at c1
   have HV:Hid (R.mayc i=5):=hid (by unfold Rck.mayc; rw [hh,ho]; rfl)
   rw [HV.out]
   clear h hh ho
   go_enter Tryz.func109,Tryz.ntmps109
   go_wp2_with (go_at_call 122; refine (Zcs H.out i).mono ?_; rintro e w' ⟨rfl,rfl⟩; rw [HH.out])
   go_ret
   exact ⟨rfl,rfl⟩
def FBurnPost (w:World) (K:FRSk) (R:Rck) (e:Ending) (w':World):Prop:=e=.returned (.bool (!decide (R.fuse=0)))/\∃ x,FRackRep w' { K with f:=x } R.burnt/\Only (fun b=>b=K.r) w w'
set_option maxHeartbeats 800000 in
theorem frburn_c {w:World} {K:FRSk} {R:Rck} (h:FRackRep w K R) (hoff:R.off=false) :
  Calls Tryz.prog 110 #[.pointer (some ⟨K.r,0,none⟩)] w (FBurnPost w K R):=by
 have H:=hid h
 have c1:=h.cell1
 have c2:=h.cell2
 have f1:=h.free 1
 have f2:=h.free 2
 have hlv:=h.live hoff
 obtain ⟨hf0,hf1⟩:=h.fuse
 rw [hoff] at c1
 by_cases h0:R.fuse=0
 ·
  have hb1:=Zar (Zar h.own (i:=2) (.bool true)) (i:=1) (.int .i64 (-1))
  have hR:=h.set (R':=R.burnt) (x:=-1) R.burnt_l ⟨by omega,by omega⟩ (fun q=>by unfold Rck.burnt at q; rw [if_pos h0] at q; cases q) (w':=(w.setCell ⟨K.r,2,none⟩ (.bool true)).setCell ⟨K.r,1,none⟩ (.int .i64 (-1))) (by rw [hb1]; unfold Rck.burnt; rw [if_pos h0]; rfl) (Only.setCell (Only.setCell (Only.refl (fun b=>b=K.r) w) (.inr rfl) _) (.inr rfl) _)
  have HF:Hid (FBurnPost w K R (.returned (.bool false)) ((w.setCell ⟨K.r,2,none⟩ (.bool true)).setCell ⟨K.r,1,none⟩ (.int .i64 (-1)))):=hid ⟨by rw [h0]; rfl,-1,hR,Only.setCell (Only.setCell (Only.refl (fun b=>b=K.r) w) (.inr rfl) _) (.inr rfl) _⟩
  rw [hlv,h0] at c2
  clear h hR h0 hb1 hlv hoff hf0 hf1
  go_enter Tryz.func110,Tryz.ntmps110
  go_wp2
  go_ret
  exact HF.out
 ·
  obtain ⟨fu,hfu⟩:∃ fu,K.f=fu:=⟨_,rfl⟩
  have hfr:R.fuse=fu:=by rw [<- hlv]; exact hfu
  rw [hfu] at c2 hf0 hf1
  by_cases hp:0 < fu
  ·
   have hb1:=Zar h.own (i:=1) (.int .i64 (fu - 1))
   have hR:=h.set (R':=R.burnt) (x:=fu - 1) R.burnt_l ⟨by omega,by omega⟩ (fun q=>by unfold Rck.burnt; rw [if_neg h0,if_pos (by omega)]; show fu - 1=R.fuse - 1; omega) (w':=w.setCell ⟨K.r,1,none⟩ (.int .i64 (fu - 1))) (by rw [hb1]; unfold Rck.burnt; rw [if_neg h0,if_pos (by omega)]; rfl) (Only.setCell (Only.refl (fun b=>b=K.r) w) (.inr rfl) _)
   have HF:Hid (FBurnPost w K R (.returned (.bool true)) (w.setCell ⟨K.r,1,none⟩ (.int .i64 (fu - 1)))):=hid ⟨by rw [decide_eq_false h0]; rfl,fu - 1,hR,Only.setCell (Only.refl (fun b=>b=K.r) w) (.inr rfl) _⟩
   have b1:(fu == 0)=false:=by simp; omega
   clear h hR h0 hb1 hlv hoff hfu hfr
   go_enter Tryz.func110,Tryz.ntmps110
   go_wp2
   go_ret
   exact HF.out
  ·
   have hR:=h.set (R':=R.burnt) (x:=fu) R.burnt_l ⟨by omega,by omega⟩ (fun q=>by unfold Rck.burnt; rw [if_neg h0,if_neg (by omega)]; exact hfr.symm) (w':=w) (by rw [h.own]; unfold Rck.burnt; rw [if_neg h0,if_neg (by omega),<- hfu]; rfl) (Only.refl _ _)
   have HF:Hid (FBurnPost w K R (.returned (.bool true)) w):=hid ⟨by rw [decide_eq_false h0]; rfl,fu,hR,Only.refl _ _⟩
   have b1:(fu == 0)=false:=by simp; omega
   clear h hR h0 hlv hoff hfu hfr
   go_enter Tryz.func110,Tryz.ntmps110
   go_wp2
   go_ret
   exact HF.out
end Go.Proofs.YtgjnnbomnoafcaaGreatDoor
namespace Go.Proofs.YtgjnnbomnoafcaaGreatDoor
set_option linter.unusedVariables false
open Go Go.RowKit
namespace Rck
variable {R:Rck} {i s:Int} {l:List Nat}
theorem write_no (h:R.mayc i≠0):R.write i s l=(some (.fault sRackWrite i (.no (R.mayc i))),R):=by
 unfold write
 obtain ⟨h1,h2⟩:=may_of_mayc h (R.badW s l)
 rw [h1,h2,if_neg h]
theorem write_bad (h:R.mayc i=0) (hb:R.badW s l=true):R.write i s l=(some (.fault sRackWrite i (.no 1)),R):=by
 unfold write
 obtain ⟨h1,h2,_,_⟩:=may_live h
 rw [hb,h1,h2,if_neg (by decide)]
theorem write_off (h:R.mayc i=0) (hb:R.badW s l=false) (hf:R.fuse=0):R.write i s l=(some (.fault sRackWrite i (.no 5)),R.burnt):=by
 unfold write
 obtain ⟨_,_,h1,h2⟩:=may_live h
 rw [hb,h1,h2,if_pos hf,if_neg (by decide)]
theorem write_on (h:R.mayc i=0) (hb:R.badW s l=false) (hf:R.fuse≠0):R.write i s l=(none,R.burnt.setD i ((R.dsk i).write s.toNat l)):=by
 unfold write
 obtain ⟨_,_,h1,h2⟩:=may_live h
 rw [hb,h1,h2,if_neg hf,if_pos rfl]
theorem flush_no (h:R.mayc i≠0):R.flush i=(some (.fault sRackFlush i (.no (R.mayc i))),R):=by
 unfold flush
 obtain ⟨h1,h2⟩:=may_of_mayc h false
 rw [h1,h2,if_neg h]
theorem flush_off (h:R.mayc i=0) (hf:R.fuse=0):R.flush i=(some (.fault sRackFlush i (.no 5)),R.burnt):=by
 unfold flush
 obtain ⟨_,_,h1,h2⟩:=may_live h
 rw [h1,h2,if_pos hf,if_neg (by decide)]
theorem flush_on (h:R.mayc i=0) (hf:R.fuse≠0):R.flush i=(none,R.burnt.setD i ((R.dsk i).flush)):=by
 unfold flush
 obtain ⟨_,_,h1,h2⟩:=may_live h
 rw [h1,h2,if_neg hf,if_pos rfl]
end Rck
def FRWritePost (w:World) (K:FRSk) (q:Option Err × Rck) (e:Ending) (w':World):Prop:=e=.returned (.int .i64 (okind q.1))/\∃ K',FRackTo w K w' q.2 K'
set_option maxRecDepth 100000 in
set_option maxHeartbeats 1000000 in
theorem frwrite_c {w:World} {K:FRSk} {R:Rck} (h:FRackRep w K R) (i s:Int) (a:Option Addr) (n c:Nat) (l:List Nat) (hb:BytesAt w a n l) :
  Calls Tryz.prog 17 #[.pointer (some ⟨K.r,0,none⟩),.int .i64 i,.int .i64 s,.slice a n c] w (FRWritePost w K (R.write i s l)):=by
 have H:=hid h
 have hbad:R.badW s l=(decide (s < 0) || decide ((K.m:Int)<=s) || decide (n≠128)):=by unfold Rck.badW; rw [h.sectors_eq,hb.len]
 by_cases hm:R.mayc i=0
 ·
  obtain ⟨q1,q2,q3⟩:=Rck.mayc_zero hm
  obtain ⟨j,rfl,hj⟩:=h.has_nat q1
  have HM:=hid hm
  have c0:=h.cell0
  have cP:=h.cellP j hj
  have d0:=(h.dskAt hj).cell0
  have hsec:=h.secs j hj
  rw [hsec] at d0
  have i0:(0:Int)<=(j:Int):=by omega
  have i1:(j:Int) < (K.n:Int):=by omega
  obtain ⟨kc,hkc⟩:∃ c,(K.ks j).c=c:=⟨_,rfl⟩
  rw [hkc] at d0
  have HFB:Hid (R.badW s l=true->FRWritePost w K (R.write j s l) (.returned (.int .i64 1)) w):=hid fun hb=>by
   rw [Rck.write_bad hm hb]; exact ⟨rfl,K,FRackTo.refl h⟩
  by_cases s0:s < 0
  ·
   have HB:Hid (R.badW s l=true):=hid (by rw [hbad]; simp [s0])
   clear h hbad hb hm q1 q2 q3 hsec hkc
   go_enter Tryz.func17,Tryz.ntmps17
   go_wp2_with (go_at_call 109; refine (Zb9 H.out j).mono ?_; rintro e w1 ⟨rfl,rfl⟩; rw [HM.out])
   go_ret
   exact HFB.out HB.out
  ·
   by_cases s1:(K.m:Int)<=s
   ·
    have HB:Hid (R.badW s l=true):=hid (by rw [hbad]; simp [s1])
    clear h hbad hb hm q1 q2 q3 hsec hkc
    go_enter Tryz.func17,Tryz.ntmps17
    go_wp2_with (go_at_call 109; refine (Zb9 H.out j).mono ?_; rintro e w1 ⟨rfl,rfl⟩; rw [HM.out])
    go_ret
    exact HFB.out HB.out
   ·
    by_cases hn:n=128
    ·
     subst hn
     have HB:Hid (R.badW s l=false):=hid (by rw [hbad]; simp [s0]; omega)
     rcases hb.cells with h0 | ⟨b,off,rfl,_⟩
     ·
      omega
     obtain ⟨t,rfl⟩:∃ t:Nat,s=t:=⟨s.toNat,by omega⟩
     have ht:t < K.m:=by omega
     have bd:decide (K.m<=t)=false:=by simp; omega
     have hne:=h.bytes_far hb (by omega)
     have hal:=Rck.up_alive q3
     have HBU:=hid (frburn_c h q2)
     by_cases hf:R.fuse=0
     ·
      have HF:Hid (∀ w1 x,FRackRep w1 { K with f:=x } R.burnt->Only (fun b=>b=K.r) w w1->FRWritePost w K (R.write j t l) (.returned (.int .i64 5)) w1):=hid fun w1 x e1 e2=>by
       rw [Rck.write_off hm HB.out hf]; exact ⟨rfl,_,FRackTo.asked e1 e2⟩
      have hd:decide (R.fuse=0)=true:=decide_eq_true hf
      have HD:=hid hd
      clear h hbad hb hm q1 q2 q3 hsec hkc hf hd hne hal
      go_enter Tryz.func17,Tryz.ntmps17
      go_wp2_with (first
       | (go_at_call 109; refine (Zb9 H.out j).mono ?_; rintro e w1 ⟨rfl,rfl⟩; rw [HM.out])
       | (go_at_call 110; refine HBU.out.mono ?_; rintro e w1 ⟨rfl,x,hr1,ho1⟩; have HR1:=hid hr1; have HO1:=hid ho1; clear hr1 ho1; rw [HD.out]; simp only [Bool.not_true]))
      go_ret
      exact HF.out _ _ HR1.out HO1.out
     ·
      have HF:Hid (∀ w1 w2 x k',FRackRep w1 { K with f:=x } R.burnt->Only (fun b=>b=K.r) w w1->FTo w1 (K.ks j) w2 ((R.dsk j).write t l) k'->FRWritePost w K (R.write j t l) (.returned (.int .i64 0)) w2):=hid fun w1 w2 x k' e1 e2 e3=>by
       rw [Rck.write_on hm HB.out hf,Int.toNat_natCast]; exact ⟨rfl,_,FRackTo.disk e1 e2 hj e3⟩
      have HDW:Hid (∀ w1 x,FRackRep w1 { K with f:=x } R.burnt->Only (fun b=>b=K.r) w w1->Calls Tryz.prog 111 #[.pointer (some ⟨(K.ks j).p,0,none⟩),.int .i64 t,.slice (some ⟨b,off,none⟩) 128 c] w1 (FWritePost w1 (K.ks j) ((R.dsk j).write t l))):=hid fun w1 x e1 e2=>by
       have e3:R.burnt.dsk (j:Int)=R.dsk j:=by unfold Rck.dsk; rw [Rck.burnt_l]
       have:=e1.dskAt (j:=j) hj
       rw [e3] at this
       exact fwrite_c this hal t (by have:=e1.secs j hj; show t < (K.ks j).n; rw [show (K.ks j).n=K.m from this]; exact ht) b off c l (hb.only e2 fun k _ hk e=>hne (by obtain ⟨p,hp,rfl⟩:=hk; cases hp; exact e))
      have hd:decide (R.fuse=0)=false:=decide_eq_false hf
      have HD:=hid hd
      clear h hbad hb hm q1 q2 q3 hsec hkc hf hd hne hal
      go_enter Tryz.func17,Tryz.ntmps17
      go_wp2_with (first
       | (go_at_call 109; refine (Zb9 H.out j).mono ?_; rintro e w1 ⟨rfl,rfl⟩; rw [HM.out])
       | (go_at_call 110; refine HBU.out.mono ?_; rintro e w1 ⟨rfl,x,hr1,ho1⟩; have HR1:=hid hr1; have HO1:=hid ho1; have e0:=HR1.out.cell0; have eP:=HR1.out.cellP j hj; clear hr1 ho1 c0 cP d0; rw [HD.out]; simp only [Bool.not_false])
       | (go_at_call 111; refine (HDW.out _ _ HR1.out HO1.out).mono ?_; rintro e w2 ⟨rfl,k',ht2⟩; have HT2:=hid ht2; clear ht2 e0 eP))
      go_ret
      exact HF.out _ _ _ _ HR1.out HO1.out HT2.out
    ·
     have HB:Hid (R.badW s l=true):=hid (by rw [hbad]; simp [hn])
     have bn:((n:Int) != 128)=true:=by simp; omega
     clear h hbad hb hm q1 q2 q3 hsec hkc
     go_enter Tryz.func17,Tryz.ntmps17
     go_wp2_with (go_at_call 109; refine (Zb9 H.out j).mono ?_; rintro e w1 ⟨rfl,rfl⟩; rw [HM.out])
     go_ret
     exact HFB.out HB.out
 ·
  obtain ⟨m0,hm0⟩:∃ m0,R.mayc i=m0:=⟨_,rfl⟩
  have HF:Hid (FRWritePost w K (R.write i s l) (.returned (.int .i64 m0)) w):=hid (by rw [Rck.write_no hm,hm0]; exact ⟨rfl,K,FRackTo.refl h⟩)
  have hm0n:m0≠0:=fun e=>hm (hm0.trans e)
  have bm0:(m0 != 0)=true:=by simpa using hm0n
  have HM0:=hid hm0
  clear h hbad hb hm hm0
  go_enter Tryz.func17,Tryz.ntmps17
  go_wp2_with (go_at_call 109; refine (Zb9 H.out i).mono ?_; rintro e w1 ⟨rfl,rfl⟩; rw [HM0.out])
  go_ret
  exact HF.out
set_option maxRecDepth 100000 in
set_option maxHeartbeats 1000000 in
theorem frflush_c {w:World} {K:FRSk} {R:Rck} (h:FRackRep w K R) (i:Int) :
  Calls Tryz.prog 19 #[.pointer (some ⟨K.r,0,none⟩),.int .i64 i] w (FRWritePost w K (R.flush i)):=by
 have H:=hid h
 by_cases hm:R.mayc i=0
 ·
  obtain ⟨q1,q2,q3⟩:=Rck.mayc_zero hm
  obtain ⟨j,rfl,hj⟩:=h.has_nat q1
  have HM:=hid hm
  have i0:(0:Int)<=(j:Int):=by omega
  have i1:(j:Int) < (K.n:Int):=by omega
  have hal:=Rck.up_alive q3
  have HBU:=hid (frburn_c h q2)
  by_cases hf:R.fuse=0
  ·
   have HF:Hid (∀ w1 x,FRackRep w1 { K with f:=x } R.burnt->Only (fun b=>b=K.r) w w1->FRWritePost w K (R.flush j) (.returned (.int .i64 5)) w1):=hid fun w1 x e1 e2=>by
    rw [Rck.flush_off hm hf]; exact ⟨rfl,_,FRackTo.asked e1 e2⟩
   have hd:decide (R.fuse=0)=true:=decide_eq_true hf
   have HD:=hid hd
   clear h hm q1 q2 q3 hf hd hal
   go_enter Tryz.func19,Tryz.ntmps19
   go_wp2_with (first
    | (go_at_call 109; refine (Zb9 H.out j).mono ?_; rintro e w1 ⟨rfl,rfl⟩; rw [HM.out])
    | (go_at_call 110; refine HBU.out.mono ?_; rintro e w1 ⟨rfl,x,hr1,ho1⟩; have HR1:=hid hr1; have HO1:=hid ho1; clear hr1 ho1; rw [HD.out]; simp only [Bool.not_true]))
   go_ret
   exact HF.out _ _ HR1.out HO1.out
  ·
   have HF:Hid (∀ w1 w2 x k',FRackRep w1 { K with f:=x } R.burnt->Only (fun b=>b=K.r) w w1->FTo w1 (K.ks j) w2 ((R.dsk j).flush) k'->FRWritePost w K (R.flush j) (.returned (.int .i64 0)) w2):=hid fun w1 w2 x k' e1 e2 e3=>by
    rw [Rck.flush_on hm hf]; exact ⟨rfl,_,FRackTo.disk e1 e2 hj e3⟩
   have HDW:Hid (∀ w1 x,FRackRep w1 { K with f:=x } R.burnt->Calls Tryz.prog 113 #[.pointer (some ⟨(K.ks j).p,0,none⟩)] w1 (FFlushPost w1 (K.ks j) ((R.dsk j).flush))):=hid fun w1 x e1=>by
    have e3:R.burnt.dsk (j:Int)=R.dsk j:=by unfold Rck.dsk; rw [Rck.burnt_l]
    have:=e1.dskAt (j:=j) hj
    rw [e3] at this
    exact fflush_c this hal
   have hd:decide (R.fuse=0)=false:=decide_eq_false hf
   have HD:=hid hd
   clear h hm q1 q2 q3 hf hd hal
   go_enter Tryz.func19,Tryz.ntmps19
   go_wp2_with (first
    | (go_at_call 109; refine (Zb9 H.out j).mono ?_; rintro e w1 ⟨rfl,rfl⟩; rw [HM.out])
    | (go_at_call 110; refine HBU.out.mono ?_; rintro e w1 ⟨rfl,x,hr1,ho1⟩; have HR1:=hid hr1; have HO1:=hid ho1; have e0:=HR1.out.cell0; have eP:=HR1.out.cellP j hj; clear hr1 ho1; rw [HD.out]; simp only [Bool.not_false])
    | (go_at_call 113; refine (HDW.out _ _ HR1.out).mono ?_; rintro e w2 ⟨rfl,k',ht2⟩; have HT2:=hid ht2; clear ht2 e0 eP))
   go_ret
   exact HF.out _ _ _ _ HR1.out HO1.out HT2.out
 ·
  obtain ⟨m0,hm0⟩:∃ m0,R.mayc i=m0:=⟨_,rfl⟩
  have HF:Hid (FRWritePost w K (R.flush i) (.returned (.int .i64 m0)) w):=hid (by rw [Rck.flush_no hm,hm0]; exact ⟨rfl,K,FRackTo.refl h⟩)
  have hm0n:m0≠0:=fun e=>hm (hm0.trans e)
  have bm0:(m0 != 0)=true:=by simpa using hm0n
  have HM0:=hid hm0
  clear h hm hm0
  go_enter Tryz.func19,Tryz.ntmps19
  go_wp2_with (go_at_call 109; refine (Zb9 H.out i).mono ?_; rintro e w1 ⟨rfl,rfl⟩; rw [HM0.out])
  go_ret
  exact HF.out
def FRReadPost (w:World) (R:Rck) (i s:Int) (e:Ending) (w':World):Prop :=
 (R.readE i s≠none/\e=.returned (.tuple #[.slice none 0 0,.int .i64 (okind (R.readE i s))])/\Ext w w') ∨
 (R.readE i s=none/\∃ p:Spot,e=.returned (.tuple #[.slice (some ⟨p.blk,0,none⟩) 128 p.cap,.int .i64 0])/\w.heap.size<=p.blk/\SecAt w' p ((R.dsk i).read s.toNat)/\Ext w w')
set_option maxRecDepth 100000 in
set_option maxHeartbeats 1000000 in
theorem frread_c {w:World} {K:FRSk} {R:Rck} (h:FRackRep w K R) (i s:Int) :
  Calls Tryz.prog 35 #[.pointer (some ⟨K.r,0,none⟩),.int .i64 i,.int .i64 s] w (FRReadPost w R i s):=by
 have H:=hid h
 have c0:=h.cell0
 have c1:=h.cell1
 rcases hh:R.has i with _ | _
 ·
  have HH:=hid hh
  have HV:=hid (show R.readE i s=some (.fault sRackRead i (.no 1)) by unfold Rck.readE; rw [hh]; rfl)
  clear h hh
  go_enter Tryz.func35,Tryz.ntmps35
  go_wp2_with (go_at_call 122; refine (Zcs H.out i).mono ?_; rintro e w' ⟨rfl,rfl⟩; rw [HH.out])
  go_ret2
  exact .inl ⟨by rw [HV.out]; simp,by rw [HV.out]; rfl,Ext.refl _⟩
 ·
  have HH:=hid hh
  rcases ho:R.off with _ | _
  ·
   rw [ho] at c1
   obtain ⟨j,rfl,hj⟩:=h.has_nat hh
   have cP:=h.cellP j hj
   have i0:(0:Int)<=(j:Int):=by omega
   have i1:(j:Int) < (K.n:Int):=by omega
   have HD:=hid (h.dskAt hj)
   have HV:=hid (show R.readE j s=((R.dsk j).refusedE sDiskRead s false).map (.fault sRackRead j) by unfold Rck.readE; rw [hh,ho]; rfl)
   have HC:=hid (Dsk.code_eq (R.dsk j) sDiskRead s)
   clear h hh ho hj
   go_enter Tryz.func35,Tryz.ntmps35
   go_wp2_with (go_at_call 122; refine (Zcs H.out j).mono ?_; rintro e w' ⟨rfl,rfl⟩; rw [HH.out])
   refine (fread_c HD.out s).mono ?_
   rintro e w1 (⟨h1,rfl,hx⟩ | ⟨h1,p,rfl,hp,hs,hx⟩)
   ·
    obtain ⟨cc,hcc⟩:∃ cc,(R.dsk j).code s=cc:=⟨_,rfl⟩
    have HF:Hid (FRReadPost w R j s (.returned (.tuple #[.slice none 0 0,.int .i64 cc])) w1):=hid (by
     rw [HC.out] at h1 hcc
     rcases hr:(R.dsk j).refusedE sDiskRead s false with _ | er
     ·
      rw [hr] at h1; exact absurd rfl h1
     ·
      rw [hr] at hcc
      refine .inl ⟨by rw [HV.out,hr]; simp,?_,hx⟩
      rw [HV.out,hr,<- hcc]; rfl)
    rw [hcc]
    clear h1 hx hcc
    go_wp2
    go_ret2
    exact HF.out
   ·
    have HF:Hid (FRReadPost w R j s (.returned (.tuple #[.slice (some ⟨p.blk,0,none⟩) 128 p.cap,.int .i64 0])) w1):=hid (by
     rw [HC.out] at h1
     rcases hr:(R.dsk j).refusedE sDiskRead s false with _ | er
     ·
      exact .inr ⟨by rw [HV.out,hr]; rfl,p,rfl,hp,hs,hx⟩
     ·
      exfalso
      rw [hr] at h1
      unfold Dsk.refusedE at hr
      split at hr
      ·
       cases hr; simp [okind,Err.kind] at h1
      ·
       split at hr
       ·
        cases hr; simp [okind,Err.kind] at h1
       ·
        cases hr)
    clear h1 hp hs hx
    go_wp2
    go_ret2
    exact HF.out
  ·
   rw [ho] at c1
   have HV:=hid (show R.readE i s=some (.fault sRackRead i (.no 5)) by unfold Rck.readE; rw [hh,ho]; rfl)
   clear h hh ho
   go_enter Tryz.func35,Tryz.ntmps35
   go_wp2_with (go_at_call 122; refine (Zcs H.out i).mono ?_; rintro e w' ⟨rfl,rfl⟩; rw [HH.out])
   go_ret2
   exact .inl ⟨by rw [HV.out]; simp,by rw [HV.out]; rfl,Ext.refl _⟩
theorem frarm_c {w:World} {K:FRSk} {R:Rck} (h:FRackRep w K R) (n:Int) (hn:n<=9223372036854775807) :
  Calls Tryz.prog 21 #[.pointer (some ⟨K.r,0,none⟩),.int .i64 n] w fun e w'=>e=.returned (.tuple #[])/\FRackTo w K w' (R.arm n) { K with f:=max n (-1) }:=by
 have c2:=h.cell2
 have f2:=h.free 1
 have hb:=Zar h.own (i:=1) (.int .i64 (max n (-1)))
 have HF:Hid (FRackTo w K (w.setCell ⟨K.r,1,none⟩ (.int .i64 (max n (-1)))) (R.arm n) { K with f:=max n (-1) }):=hid (FRackTo.asked (h.set (R':=R.arm n) rfl ⟨by omega,by omega⟩ (fun _=>rfl) (by rw [hb]; rfl) (only_set _ _ _ _)) (only_set _ _ _ _))
 by_cases hp:-1<=n
 ·
  have e:max n (-1)=n:=by omega
  rw [e] at HF ⊢
  have hmax:(if n < -1 then -1 else n)=n:=if_neg (by omega)
  have hmax2:(if (-1:Int) > n then -1 else n)=n:=if_neg (by omega)
  clear h e hb
  go_enter Tryz.func21,Tryz.ntmps21
  go_wp2
  go_end0
  exact ⟨rfl,HF.out⟩
 ·
  have e:max n (-1)=-1:=by omega
  rw [e] at HF ⊢
  have hmax:(if n < -1 then -1 else n)=-1:=if_pos (by omega)
  clear h e hb
  go_enter Tryz.func21,Tryz.ntmps21
  go_wp2
  go_end0
  exact ⟨rfl,HF.out⟩
end Go.Proofs.YtgjnnbomnoafcaaGreatDoor
