/- Texts of one proof, joined: DiskI, RackH, DiskG, DiskH, RackBoot, IntsMore, RowInts, RowBits, RackArm. -/
import Derived.Test.YtkipjmbplmdaaaaGreatDoorMD
import Derived.Test.YtkipjmbplmdaaaaGreatDoorMG
import Derived.Test.YtkipjmbplmdaaaaGreatDoorMB
import Derived.Test.YtkipjmbplmdaaaaGreatDoorMF
import Derived.Test.YtkipjmbplmdaaaaGreatDoorMO
import Derived.Test.YtkipjmbplmdaaaaGreatDoorRows
import Derived.Test.YtkipjmbplmdaaaaGreatDoorMA
import Derived.RowKit
set_option linter.unusedVariables false
set_option linter.unusedSimpArgs false
namespace Go.Proofs.YtkipjmbplmdaaaaGreatDoor
set_option linter.unusedVariables false
open Go Go.RowKit
def xorTo (l:List Nat) (at_ x j:Nat):List Nat:=(List.range j).foldl (fun l k=>l.set (at_+k) (l.getD (at_+k) 0 ^^^ x / 2 ^ (8*k) % 256)) l
theorem xorTo_four (l:List Nat) (at_ x:Nat):xorTo l at_ x 4=Dsk.xor4 l at_ x:=rfl
theorem xorTo_succ (l:List Nat) (at_ x j:Nat):xorTo l at_ x (j+1)=(xorTo l at_ x j).set (at_+j) ((xorTo l at_ x j).getD (at_+j) 0 ^^^ x / 2 ^ (8*j) % 256):=by
 unfold xorTo; rw [List.range_succ,List.foldl_append]; rfl
theorem SecAt.put {w:World} {s:Spot} {l:List Nat} (h:SecAt w s l) (i y:Nat) (hi:i < 128) (hy:y < 256):SecAt (w.setCell ⟨s.blk,i,none⟩ (.int .u8 y)) s (l.set i y):=by
 obtain ⟨h1,h2,h3,h4⟩:=h
 refine ⟨by rw [List.length_set]; exact h1,fun x hx=>?_,by simp [h1],?_⟩
 ·
  rcases List.mem_or_eq_of_mem_set hx with h | rfl
  ·
   exact h2 x h
  ·
   exact hy
 ·
  rcases h4 with h' | ⟨g,c,cur,e1,e2,e3,e4,e5,e6,e7⟩
  ·
   exact absurd h'.2 (by omega)
  ·
   have e1':=e1; unfold Spot.val at e1'; cases e1'
   refine .inr ⟨s.blk,_,cur.setIfInBounds i (.int .u8 y),rfl,Nat.zero_le _,?_,e4,e5,by simpa using e6,?_⟩
   ·
    rw [Za1 e3]
   ·
    rw [Array.toList_setIfInBounds,List.map_set,<- e7,List.take_set]
    rfl
theorem SecAt.cell {w:World} {s:Spot} {l:List Nat} (h:SecAt w s l) (i:Nat) (hi:i < 128):w.cell? ⟨s.blk,i,none⟩=some (.int .u8 (l.getD i 0:Nat)):=by
 obtain ⟨h1,h2,h3,h4⟩:=h
 rcases h4 with h' | ⟨g,c,cur,e1,e2,e3,e4,e5,e6,e7⟩
 ·
  exact absurd h'.2 (by omega)
 ·
  have e1':=e1; unfold Spot.val at e1'; cases e1'
  rw [Zag e3]
  have:(cur.toList.take (128*1))[i]?=(l.map bv)[i]?:=by rw [e7]
  rw [List.getElem?_take_of_lt (by omega),Array.getElem?_toList] at this
  rw [this]
  have hl:i < l.length:=by omega
  simp [List.getD_eq_getElem?_getD,hl,bv]
theorem SecAt.free {w:World} {s:Spot} {l:List Nat} (h:SecAt w s l) (i:Nat):w.frozen? ⟨s.blk,i,none⟩=false:=by
 obtain ⟨h1,h2,h3,h4⟩:=h
 rcases h4 with h' | ⟨g,c,cur,e1,e2,e3,e4,e5,e6,e7⟩
 ·
  exact absurd h'.2 (by omega)
 ·
  have e1':=e1; unfold Spot.val at e1'; cases e1'
  exact Za5 e3
theorem DiskRep.rotted {w W W':World} {k:DSk} {D:Dsk} (h:DiskRep w k D) {i at_ x:Nat} (hi:i < k.n) {l:List Nat} (hl:Dsk.xor4 (D.l.getD i []) at_ x=l) (ho:Only (fun b=>b=(k.ss i).blk) w W) (hs:SecAt W (k.ss i) l)
  {g:Int->Option Value} (hg:∀ j:Int,(g j).getD (.bool false)=.bool (decide (0<=j) && D.rot j.toNat))
  (hm:MapI W' k.rm (fun j=>if j=(i:Int) then some (.bool true) else g j)) (ho2:Only (fun b=>b=k.rm) W W'):DiskTo w k W' (D.rotted i at_ x) k:=by
 have hO:Only (fun b=>b=(k.ss i).blk\/b=k.rm) w W':=(ho.mono (G:=fun b=>b=(k.ss i).blk\/b=k.rm) fun b _ e=>.inl e).trans ho2 fun b _ e=>.inr e
 have hsi:k.at_ (.sec i)=some (k.ss i).blk:=by simp [DSk.at_,hi]
 have hk:∀ y b,k.at_ y=some b->y≠.sec i->y≠.rm->W'.heap[b]?=w.heap[b]?:=fun y b hy h1 h2=>hO.block b (h.lt ⟨y,hy⟩) fun e=>by
  rcases e with e | e
  ·
   exact h1 (h.inj y (.sec i) b hy (by rw [e]; exact hsi))
  ·
   exact h2 (h.inj y .rm b hy (by rw [e]; rfl))
 have hsr:(k.ss i).blk≠k.rm:=h.ne (x:=.sec i) (y:=.rm) hsi rfl (by simp)
 refine ⟨⟨by simp [Dsk.rotted,h.len],h.pos,h.small,?_,?_,?_,?_,?_,h.waitN,?_,h.inj⟩,rfl,rfl,fun b hb=>.inl hb,hO.mono fun b _ e=>?_⟩
 ·
  exact (hk .p _ rfl (by simp) (by simp)).trans h.own
 ·
  exact (hk .lb _ rfl (by simp) (by simp)).trans h.arr
 ·
  intro j hj
  by_cases hji:j=i
  ·
   subst hji
   have e:(D.rotted j at_ x).l.getD j []=l:=by
    unfold Dsk.rotted
    have:j < D.l.length:=by rw [h.len]; exact hj
    rw [<- hl]
    simp [List.getD_eq_getElem?_getD,this]
   rw [e]
   exact hs.same (ho2.block _ hs.lt hsr)
  ·
   have e:(D.rotted i at_ x).l.getD j []=D.l.getD j []:=by
    unfold Dsk.rotted
    simp [List.getD_eq_getElem?_getD,List.getElem?_set_ne (Ne.symm hji)]
   rw [e]
   exact (h.sec j hj).same (hk (.sec j) _ (by simp [DSk.at_,hj]) (by simpa using hji) (by simp))
 ·
  exact h.wmap.same (hk .wm _ rfl (by simp) (by simp))
 ·
  intro j s hj
  obtain ⟨h1,l',h2,h3⟩:=h.waitS j s hj
  exact ⟨h1,l',h2,h3.same (hk (.wait j) _ (by simp [DSk.at_,hj]) (by simp) (by simp))⟩
 ·
  refine ⟨_,hm,fun j=>?_⟩
  by_cases hj:j=(i:Int)
  ·
   subst hj; simp [Dsk.rotted]
  ·
   simp only [hj,if_false]
   rw [hg j]
   by_cases hj0:0<=j
   ·
    have:j.toNat≠i:=by omega
    simp [Dsk.rotted,this]
   ·
    have:decide (0<=j)=false:=by simp; omega
    rw [this,Bool.false_and,Bool.false_and]
 ·
  rcases e with e | e
  ·
   exact ⟨.sec i,by rw [e]; exact hsi⟩
  ·
   exact ⟨.rm,by rw [e]; rfl⟩
def DRotPost (w:World) (k:DSk) (D:Dsk) (i a:Int) (x:Nat) (e:Ending) (w':World):Prop:=e=.returned (.bool (D.rotOk i a x))/\DiskTo w k w' (if D.rotOk i a x then D.rotted i.toNat a.toNat x else D) k
theorem rotOk_wrong {D:Dsk} {i a:Int} {x:Nat} (h:a < 0\/124 < a\/x=0):D.rotOk i a x=false:=by
 unfold Dsk.rotOk; rcases h with h | h | h<;>simp [h]
theorem Zc2 (D:Dsk) (op:ByteArray) (i:Int):∃ er,D.refusedE op i true=some er:=by
 unfold Dsk.refusedE; cases D.dead<;>simp
theorem rotOk_refused {D:Dsk} {op:ByteArray} {i a:Int} {x:Nat} {er:Err} (h:D.refusedE op i false=some er):D.rotOk i a x=false:=by
 unfold Dsk.refusedE at h
 unfold Dsk.rotOk
 cases hd:D.dead
 ·
  rw [hd] at h
  rw [if_neg (by simp)] at h
  split at h
  ·
   rename_i hc; simp at hc; simp; omega
  ·
   cases h
 ·
  simp
set_option maxRecDepth 100000 in
set_option maxHeartbeats 800000 in
theorem rot_no1 {w:World} {k:DSk} {D:Dsk} (h:DiskRep w k D) (i a:Int) (x:Nat) (h1:a < 0) (hx:x < 4294967296) (hok:D.rotOk i a x=false) {er:Err} (hr:D.refusedE sDiskRot i true=some er) :
  Calls Tryz.prog 38 #[.pointer (some ⟨k.p,0,none⟩),.int .i64 i,.int .i64 a,.int .u32 x] w (DRotPost w k D i a x):=by
 have H:=hid h; have HR:=hid hr; have HK:=hid hok
 obtain ⟨t2,v2,hq⟩:∃ t v,er.val=.iface t v:=by cases er<;>exact ⟨_,_,rfl⟩
 have HQ:=hid hq
 clear hr h hq hok
 go_enter Tryz.func38,Tryz.ntmps38
 go_wp2_with (go_at_call 66; refine (Zbo H.out sDiskRot i true).mono ?_; rintro e w' ⟨rfl,rfl⟩; rw [HR.out]; simp only [oErr,HQ.out])
 go_ret
 exact ⟨Za7 HK.out.symm,by rw [HK.out]; exact DiskTo.refl H.out⟩
set_option maxRecDepth 100000 in
set_option maxHeartbeats 800000 in
theorem rot_no2 {w:World} {k:DSk} {D:Dsk} (h:DiskRep w k D) (i a:Int) (x:Nat) (h1:¬a < 0) (h2:124 < a) (hx:x < 4294967296) (hok:D.rotOk i a x=false) {er:Err} (hr:D.refusedE sDiskRot i true=some er) :
  Calls Tryz.prog 38 #[.pointer (some ⟨k.p,0,none⟩),.int .i64 i,.int .i64 a,.int .u32 x] w (DRotPost w k D i a x):=by
 have H:=hid h; have HR:=hid hr; have HK:=hid hok
 obtain ⟨t2,v2,hq⟩:∃ t v,er.val=.iface t v:=by cases er<;>exact ⟨_,_,rfl⟩
 have HQ:=hid hq
 clear hr h hq hok
 go_enter Tryz.func38,Tryz.ntmps38
 go_wp2_with (go_at_call 66; refine (Zbo H.out sDiskRot i true).mono ?_; rintro e w' ⟨rfl,rfl⟩; rw [HR.out]; simp only [oErr,HQ.out])
 go_ret
 exact ⟨Za7 HK.out.symm,by rw [HK.out]; exact DiskTo.refl H.out⟩
set_option maxRecDepth 100000 in
set_option maxHeartbeats 800000 in
theorem rot_no3 {w:World} {k:DSk} {D:Dsk} (h:DiskRep w k D) (i a:Int) (x:Nat) (h1:¬a < 0) (h2:¬124 < a) (h3:x=0) (hx:x < 4294967296) (hok:D.rotOk i a x=false) {er:Err} (hr:D.refusedE sDiskRot i true=some er) :
  Calls Tryz.prog 38 #[.pointer (some ⟨k.p,0,none⟩),.int .i64 i,.int .i64 a,.int .u32 x] w (DRotPost w k D i a x):=by
 have H:=hid h; have HR:=hid hr; have HK:=hid hok
 obtain ⟨t2,v2,hq⟩:∃ t v,er.val=.iface t v:=by cases er<;>exact ⟨_,_,rfl⟩
 have HQ:=hid hq
 clear hr h hq hok
 subst h3
 go_enter Tryz.func38,Tryz.ntmps38
 go_wp2_with (go_at_call 66; refine (Zbo H.out sDiskRot i true).mono ?_; rintro e w' ⟨rfl,rfl⟩; rw [HR.out]; simp only [oErr,HQ.out])
 go_ret
 exact ⟨Za7 HK.out.symm,by rw [HK.out]; exact DiskTo.refl H.out⟩
set_option maxRecDepth 100000 in
set_option maxHeartbeats 800000 in
theorem rot_no4 {w:World} {k:DSk} {D:Dsk} (h:DiskRep w k D) (i a:Int) (x:Nat) (h1:¬a < 0) (h2:¬124 < a) (h3:¬x=0) (hx:x < 4294967296) (hok:D.rotOk i a x=false) {er:Err} (hr:D.refusedE sDiskRot i false=some er) :
  Calls Tryz.prog 38 #[.pointer (some ⟨k.p,0,none⟩),.int .i64 i,.int .i64 a,.int .u32 x] w (DRotPost w k D i a x):=by
 have H:=hid h; have HR:=hid hr; have HK:=hid hok
 obtain ⟨t2,v2,hq⟩:∃ t v,er.val=.iface t v:=by cases er<;>exact ⟨_,_,rfl⟩
 have HQ:=hid hq
 clear hr h hq hok
 have x0:((x:Int) == 0)=false:=by simp; omega
 clear h3
 go_enter Tryz.func38,Tryz.ntmps38
 go_wp2_with (go_at_call 66; refine (Zbo H.out sDiskRot i false).mono ?_; rintro e w' ⟨rfl,rfl⟩; rw [HR.out]; simp only [oErr,HQ.out])
 go_ret
 exact ⟨Za7 HK.out.symm,by rw [HK.out]; exact DiskTo.refl H.out⟩
set_option maxRecDepth 100000 in
set_option maxHeartbeats 800000 in
theorem rot_no5 {w:World} {k:DSk} {D:Dsk} (h:DiskRep w k D) (i:Nat) (a:Int) (x:Nat) (h1:¬a < 0) (h2:¬124 < a) (h3:¬x=0) (hx:x < 4294967296) (hr:D.refusedE sDiskRot i false=none) (hrot:D.rot i=true) :
  Calls Tryz.prog 38 #[.pointer (some ⟨k.p,0,none⟩),.int .i64 i,.int .i64 a,.int .u32 x] w (DRotPost w k D i a x):=by
 have HK:Hid (D.rotOk i a x=false):=hid (by unfold Dsk.rotOk; simp [hrot])
 have H:=hid h; have HR:=hid hr
 obtain ⟨g,hg1,hg2⟩:=h.rmap
 have c2:=h.cell2
 have hlook:=hg1.run_look (P:=Tryz.prog) Tryz.underlying116 keyI (zeroB w) i false
 have hv:(g (i:Int)).getD (.bool false)=.bool true:=by rw [hg2]; simp [hrot]
 rw [hv] at hlook
 simp only [Bool.false_eq_true,if_false] at hlook
 have x0:((x:Int) == 0)=false:=by simp; omega
 clear hr h hg1 hg2 hv h3
 go_enter Tryz.func38,Tryz.ntmps38
 go_wp2_with (go_at_call 66; refine (Zbo H.out sDiskRot i false).mono ?_; rintro e w' ⟨rfl,rfl⟩; rw [HR.out]; simp only [oErr])
 go_ret
 exact ⟨Za7 HK.out.symm,by rw [HK.out]; exact DiskTo.refl H.out⟩
set_option maxRecDepth 100000 in
set_option maxHeartbeats 1600000 in
theorem rot_yes {w:World} {k:DSk} {D:Dsk} (h:DiskRep w k D) (i a x:Nat) (h2:a<=124) (h3:¬x=0) (hx:x < 4294967296) (hr:D.refusedE sDiskRot i false=none) (hrot:D.rot i=false) :
  Calls Tryz.prog 38 #[.pointer (some ⟨k.p,0,none⟩),.int .i64 i,.int .i64 a,.int .u32 x] w (DRotPost w k D i a x):=by
 obtain ⟨hdead,_,i',hii,hi⟩:=Zcn hr
 obtain rfl:i'=i:=by omega
 rw [h.len] at hi
 have HK:Hid (D.rotOk i' a x=true):=hid (by unfold Dsk.rotOk; rw [h.len]; simp [hrot,hdead,h3]; omega)
 have H:=hid h; have HR:=hid hr; have HI:=hid hi
 obtain ⟨g,hg1,hg2⟩:=h.rmap
 have c0:=h.cell0
 have c2:=h.cell2
 have hlook:=hg1.run_look (P:=Tryz.prog) Tryz.underlying116 keyI (zeroB w) i' false
 have hv:(g (i':Int)).getD (.bool false)=.bool false:=by rw [hg2]; simp [hrot]
 rw [hv] at hlook
 simp only [Bool.false_eq_true,if_false] at hlook
 have HG1:=hid hg1; have HG2:=hid hg2
 have i0:(0:Int)<=(i':Int):=by omega
 have i1:(i':Int) < (k.n:Int):=by omega
 have a1:¬(a:Int) < 0:=by omega
 have a2:¬124 < (a:Int):=by omega
 have H2:=hid h2; have HX:=hid hx
 clear hr h hg1 hg2 hv hi hii h2 hx
 have x0:((x:Int) == 0)=false:=by simp; omega
 clear h3
 obtain ⟨A,hA⟩:∃ A:Int,(a:Int)=A:=⟨_,rfl⟩
 rw [hA] at a1 a2
 refine (show Calls _ _ _ _ (DRotPost w k D i' a x) from ?_)
 have HPOST:Hid (∀ e w',(e=.returned (.bool true)/\DiskTo w k w' (D.rotted i' a x) k)->DRotPost w k D i' a x e w'):=hid (by
  rintro e w' ⟨rfl,h⟩
  exact ⟨Za7 HK.out.symm,by rw [HK.out,if_pos rfl,Int.toNat_natCast,Int.toNat_natCast]; exact h⟩)
 refine Calls.mono ?_ HPOST.out
 rw [hA]
 have HA:=hid hA
 clear hA
 go_enter Tryz.func38,Tryz.ntmps38
 go_wp2_with (go_at_call 66; refine (Zbo H.out sDiskRot i' false).mono ?_; rintro e w' ⟨rfl,rfl⟩; rw [HR.out]; simp only [oErr])
 clear hlook c0 c2
 obtain rfl:=HA.out
 go_loopw [32] (fun v wr=>∃ j:Nat,v=.int .i64 j/\j<=4/\Only (fun b=>b=(k.ss i').blk) w wr/\SecAt wr (k.ss i') (xorTo (D.l.getD i' []) a x j)) (fun v _=>4 - (intOf v).toNat)
 case atStart=>exact ⟨0,rfl,by omega,Only.refl _ _,H.out.sec i' HI.out⟩
 case round =>
  obtain ⟨j,rfl,hj,ho,hs⟩:=hrel
  have h2:=H2.out
  have hps:k.p≠(k.ss i').blk:=H.out.ne (x:=.p) (y:=.sec i') rfl (by simp [DSk.at_,HI.out]) (by simp)
  have hls:k.lb≠(k.ss i').blk:=H.out.ne (x:=.lb) (y:=.sec i') rfl (by simp [DSk.at_,HI.out]) (by simp)
  have c0:=ho.cell H.out.cell0 (show ¬k.p=(k.ss i').blk from hps)
  have c2:=ho.cell H.out.cell2 (show ¬k.p=(k.ss i').blk from hps)
  by_cases hlt:j < 4
  ·
   have cS:=ho.cell (H.out.cellS i' HI.out) (show ¬k.lb=(k.ss i').blk from hls)
   unfold Spot.val at cS
   have cj:=hs.cell (a+j) (by omega)
   have fj:=hs.free (a+j)
   have hby:(xorTo (D.l.getD i' []) a x j).getD (a+j) 0 < 256:=by
    rw [List.getD_eq_getElem?_getD]
    rcases hq:(xorTo (D.l.getD i' []) a x j)[a+j]? with _ | y
    ·
     simp
    ·
     simpa using hs.2.1 y (List.mem_of_getElem? hq)
   obtain ⟨y,hy⟩:∃ y,(xorTo (D.l.getD i' []) a x j).getD (a+j) 0=y:=⟨_,rfl⟩
   obtain ⟨z,hz⟩:∃ z,x / 2 ^ (8*j) % 256=z:=⟨_,rfl⟩
   have HSET:=hid (xorTo_succ (D.l.getD i' []) a x j)
   rw [hy] at cj hby
   have hzb:z < 256:=by rw [<- hz]; exact Nat.mod_lt _ (by omega)
   have hxx:=u8_xor_nat y z hby hzb
   have hze:((x:Int) / 2 ^ (8*j) % 256)=(z:Int):=by
    have e:((2 ^ (8*j):Nat):Int)=(2:Int) ^ (8*j):=by rw [Int.natCast_pow]; rfl
    rw [<- hz,Int.natCast_emod,Int.natCast_ediv,e]; rfl
   have hxb:y ^^^ z < 256:=Nat.xor_lt_two_pow (n:=8) hby hzb
   have HO:=hid ho; have HS:=hid hs; have HY:=hid hy; have HZ:=hid hz
   have I4:Hid (a+j < 128):=hid (by omega)
   have i2:(0:Int)<=(a:Int)+(j:Int):=by omega
   have i3:(a:Int)+(j:Int) < 128:=by omega
   have ww:wrap64 ((a:Int)+(j:Int))=((a+j:Nat):Int):=by unfold wrap64; omega
   clear ho hs hy hz h2
   go_wp2
   go_roundw
   case rel =>
    have h2:=H2.out
    refine ⟨j+1,by go_num,by omega,HO.out.setCell (.inr rfl) _,?_⟩
    rw [HSET.out,HY.out,HZ.out]
    exact HS.out.put _ _ I4.out hxb
   case measure=>simp [intOf]; omega
  ·
   obtain rfl:j=4:=by omega
   have hm:=HG1.out.same (ho.block k.rm HG1.out.lt (H.out.ne (x:=.rm) (y:=.sec i') rfl (by simp [DSk.at_,HI.out]) (by simp)))
   obtain ⟨W2,hrun,hm2,ho2⟩:=hm.run_set (P:=Tryz.prog) (e:=4) Tryz.underlying116 keyI i' (.bool true)
   have HF:=hid (H.out.rotted HI.out (xorTo_four _ a x) ho (by rw [xorTo_four] at hs; exact hs) HG2.out hm2 ho2)
   clear ho hs hm hm2 ho2
   go_wp2
   go_ret
   exact ⟨rfl,HF.out⟩
theorem drot_c {w:World} {k:DSk} {D:Dsk} (h:DiskRep w k D) (i a:Int) (x:Nat) (hx:x < 4294967296) :
  Calls Tryz.prog 38 #[.pointer (some ⟨k.p,0,none⟩),.int .i64 i,.int .i64 a,.int .u32 x] w (DRotPost w k D i a x):=by
 by_cases h1:a < 0
 ·
  obtain ⟨er,hr⟩:=Zc2 D sDiskRot i
  exact rot_no1 h i a x h1 hx (rotOk_wrong (.inl h1)) hr
 ·
  by_cases h2:124 < a
  ·
   obtain ⟨er,hr⟩:=Zc2 D sDiskRot i
   exact rot_no2 h i a x h1 h2 hx (rotOk_wrong (.inr (.inl h2))) hr
  ·
   by_cases h3:x=0
   ·
    obtain ⟨er,hr⟩:=Zc2 D sDiskRot i
    exact rot_no3 h i a x h1 h2 h3 hx (rotOk_wrong (.inr (.inr h3))) hr
   ·
    rcases hr:D.refusedE sDiskRot i false with _ | er
    ·
     obtain ⟨_,_,j,rfl,_⟩:=Zcn hr
     rcases hrot:D.rot j with _ | _
     ·
      obtain ⟨b,rfl⟩:∃ b:Nat,a=b:=⟨a.toNat,by omega⟩
      exact rot_yes h j b x (by omega) h3 hx hr hrot
     ·
      exact rot_no5 h j a x h1 h2 h3 hx hr hrot
    ·
     exact rot_no4 h i a x h1 h2 h3 hx (rotOk_refused hr) hr
theorem Rck.setD_same {R:Rck} {i:Nat} (hi:i < R.l.length):R.setD (i:Int) (R.dsk i)=R:=by
 unfold Rck.setD Rck.dsk
 have:R.l.set i (R.l.getD i default)=R.l:=by
  apply List.ext_getElem
  ·
   simp
  ·
   intro j h1 h2
   rw [List.getElem_set]
   split
   ·
    rename_i e; subst e; simp [List.getD_eq_getElem?_getD,hi]
   ·
    rfl
 rw [Int.toNat_natCast,this]
set_option maxRecDepth 100000 in
set_option maxHeartbeats 800000 in
theorem rrot_c {w:World} {K:RSk} {R:Rck} (h:RackRep w K R) (i s a:Int) (x:Nat) (hx:x < 4294967296) :
  Calls Tryz.prog 10 #[.pointer (some ⟨K.r,0,none⟩),.int .i64 i,.int .i64 s,.int .i64 a,.int .u32 x] w (RBoolPost w K (R.rotOk i s a x) (R.rot i s a x)):=by
 have H:=hid h
 rcases hh:R.has i with _ | _
 ·
  have HH:=hid hh
  have hk:R.rotOk i s a x=false:=by unfold Rck.rotOk; rw [hh]; rfl
  have HF:Hid (RBoolPost w K (R.rotOk i s a x) (R.rot i s a x) (.returned (.bool false)) w):=hid ⟨Za7 hk.symm,K,by unfold Rck.rot; rw [hk]; exact RackTo.refl h⟩
  clear h hh hk
  go_enter Tryz.func10,Tryz.ntmps10
  go_wp2_with (go_at_call 37; refine (Zb5 H.out i).mono ?_; rintro e w' ⟨rfl,rfl⟩; rw [HH.out])
  go_ret
  exact HF.out
 ·
  obtain ⟨j,rfl,hj⟩:=h.has_nat hh
  have HH:=hid hh
  have c0:=h.cell0
  have cP:=h.cellP j hj
  have i0:(0:Int)<=(j:Int):=by omega
  have i1:(j:Int) < (K.n:Int):=by omega
  have HD:=hid (h.dskAt hj)
  have HF:Hid (∀ w2,DiskTo w (K.ks j) w2 (if (R.dsk j).rotOk s a x then (R.dsk j).rotted s.toNat a.toNat x else R.dsk j) (K.ks j)->RBoolPost w K (R.rotOk j s a x) (R.rot j s a x) (.returned (.bool ((R.dsk j).rotOk s a x))) w2):=hid fun w2 e3=>by
   have hk:R.rotOk j s a x=(R.dsk j).rotOk s a x:=by unfold Rck.rotOk; rw [hh]; rfl
   have hto:=RackTo.disk h (Only.refl _ w) hj e3
   have e:R.rot j s a x=R.setD j (if (R.dsk j).rotOk s a x then (R.dsk j).rotted s.toNat a.toNat x else R.dsk j):=by
    unfold Rck.rot
    rw [hk]
    split
    ·
     rfl
    ·
     rw [Rck.setD_same (by rw [h.len]; exact hj)]
   rw [<- e] at hto
   exact ⟨Za7 hk.symm,_,hto⟩
  have HX:=hid hx
  obtain ⟨b,hb⟩:∃ b,(R.dsk j).rotOk s a x=b:=⟨_,rfl⟩
  have HB:=hid hb
  clear h hh hx hb
  go_enter Tryz.func10,Tryz.ntmps10
  go_wp2_with (first
   | (go_at_call 37; refine (Zb5 H.out j).mono ?_; rintro e w' ⟨rfl,rfl⟩; rw [HH.out])
   | (go_at_call 38; refine (drot_c HD.out s a x HX.out).mono ?_; rintro e w2 ⟨rfl,ht2⟩; have HT2:=hid ht2; clear ht2 c0 cP; rw [HB.out]))
  go_ret
  have:=HF.out _ HT2.out
  rw [HB.out] at this
  exact this
theorem at_rot {S:Nat->Prop} {w:World} {r:Nat} {R:Rck} (h:RackAt S w r R) (i s a:Int) (x:Nat) (hx:x < 4294967296) :
  Calls Tryz.prog 10 #[.pointer (some ⟨r,0,none⟩),.int .i64 i,.int .i64 s,.int .i64 a,.int .u32 x] w fun e w'=>e=.returned (.bool (R.rotOk i s a x))/\RackAt S w' r (R.rot i s a x)/\Keeps S w w':=by
 obtain ⟨h0,K,rfl,h2,h3⟩:=h
 refine (rrot_c h2 i s a x hx).mono ?_
 rintro e w' ⟨rfl,K',ht⟩
 exact ⟨rfl,ht.at_ h0 h3⟩
def Dsk.upTo (D:Dsk) (j:Nat):List Nat:=(List.range j).filter fun i=>(D.waits i).isSome
theorem Dsk.upTo_succ (D:Dsk) (j:Nat):D.upTo (j+1)=D.upTo j++if (D.waits j).isSome then [j] else []:=by
 unfold upTo
 rw [List.range_succ,List.filter_append]
 by_cases h:(D.waits j).isSome=true<;>simp [h]
theorem Dsk.upTo_len (D:Dsk) (j:Nat):(D.upTo j).length<=j:=by
 unfold upTo
 have:=List.length_filter_le (fun i=>(D.waits i).isSome) (List.range j)
 simpa using this
def DWaitsPost (w:World) (D:Dsk) (e:Ending) (w':World):Prop:=∃ v,e=.returned v/\OwnInts w' w.heap.size v D.waiting/\Ext w w'
set_option maxHeartbeats 800000 in
theorem dwaits_c {w:World} {k:DSk} {D:Dsk} (h:DiskRep w k D) :
  Calls Tryz.prog 93 #[.pointer (some ⟨k.p,0,none⟩)] w (DWaitsPost w D):=by
 have c0:=h.cell0
 have H:=hid h
 have HW:Hid (D.upTo k.n=D.waiting):=hid (by unfold Dsk.upTo Dsk.waiting; rw [h.len])
 have hsm:=h.small
 clear h
 go_enter Tryz.func93,Tryz.ntmps93
 go_wp2
 clear c0
 go_loopw [3,12] (fun v i wr=>∃ j:Nat,i=.int .i64 j/\j<=k.n/\OwnInts wr w.heap.size v (D.upTo j)/\Ext w wr) (fun _ i _=>k.n - (intOf i).toNat)
 case atStart=>exact ⟨0,rfl,by omega,OwnInts.nil _ _,Ext.refl _⟩
 case round =>
  obtain ⟨j,rfl,hj,hown,hx⟩:=hrel
  by_cases hlt:j < k.n
  ·
   have hr:=H.out.ext hx
   have c1:=hr.cell1
   have hl:=hr.waits_ok j
   have hup:=D.upTo_succ j
   have hlen:=D.upTo_len j
   rcases hw:k.wf j with _ | s
   ·
    rw [DSk.wv_none hw] at hl
    simp only [Option.getD_none,Option.isSome_none] at hl
    rw [H.out.waitN j hw] at hup
    simp only [Option.isSome_none,Bool.false_eq_true,if_false,List.append_nil] at hup
    rw [<- hup] at hown
    have HO:=hid hown; have HX:=hid hx
    clear hw hr hup hown hx
    go_wp2
    go_roundw
    case rel=>exact ⟨j+1,by go_num,by omega,HO.out,HX.out⟩
    case measure=>simp [intOf]; omega
   ·
    rw [DSk.wv_some hw] at hl
    simp only [Option.getD_some,Option.isSome_some,Spot.val] at hl
    obtain ⟨_,l,hlw,_⟩:=H.out.waitS j s hw
    rw [hlw] at hup
    simp only [Option.isSome_some,if_true] at hup
    obtain ⟨v',W2,hap,hown2,_,hx2⟩:=hown.push j (by omega) hx.size
    rw [<- hup] at hown2
    have HO:=hid hown2; have HX:=hid (hx2 w (Nat.le_refl _) hx)
    clear hw hr hup hown hx hlw hown2 hx2
    go_wp2_with (at_builtin; refine Zam rfl _ _ _ rfl _ _ _ _ rfl rfl hap ?_)
    go_roundw
    case rel=>exact ⟨j+1,by go_num,by omega,HO.out,HX.out⟩
    case measure=>simp [intOf]; omega
  ·
   obtain rfl:k.n=j:=by omega
   rw [HW.out] at hown
   have HO:=hid hown; have HX:=hid hx
   clear hown hx
   go_wp2
   go_ret
   exact ⟨_,rfl,HO.out,HX.out⟩
def CrashRel (w w1:World) (k:DSk) (D:Dsk) (bits j:Nat) (wr:World):Prop:=Mid w wr k D (D.dnC bits j)/\Only (fun b=>b=k.lb\/b=k.rm) w1 wr
theorem CrashRel.step {w w1 wr W:World} {k:DSk} {D:Dsk} {bits j:Nat} (h0:DiskRep w k D) (h:CrashRel w w1 k D bits j wr) (hj:j < D.waiting.length) (hb:Dsk.bit bits j=true)
  (hm:Mid w W k D (fun i=>D.dnC bits j i || i == D.waiting.getD j 0)) (ho:Only (fun b=>b=k.lb\/b=k.rm) wr W):CrashRel w w1 k D bits (j+1) W :=
 ⟨hm.congr h0 fun i hi=>by
  obtain ⟨s,hs⟩:=Option.isSome_iff_exists.1 hi
  obtain ⟨q1,l,q2,_⟩:=h0.waitS i s hs
  rw [Dsk.dnC_step hj ((D.mem_waiting i).2 ⟨by rw [h0.len]; exact q1,by rw [q2]; rfl⟩),hb,Bool.true_and],h.2.trans ho fun _ _ x=>x⟩
theorem CrashRel.skip {w w1 wr:World} {k:DSk} {D:Dsk} {bits j:Nat} (h0:DiskRep w k D) (h:CrashRel w w1 k D bits j wr) (hj:j < D.waiting.length) (hb:Dsk.bit bits j=false):CrashRel w w1 k D bits (j+1) wr :=
 ⟨h.1.congr h0 fun i hi=>by
  obtain ⟨s,hs⟩:=Option.isSome_iff_exists.1 hi
  obtain ⟨q1,l,q2,_⟩:=h0.waitS i s hs
  rw [Dsk.dnC_step hj ((D.mem_waiting i).2 ⟨by rw [h0.len]; exact q1,by rw [q2]; rfl⟩),hb,Bool.false_and,Bool.or_false],h.2⟩
set_option maxHeartbeats 800000 in
theorem dcrash_c {w:World} {k:DSk} {D:Dsk} (h:DiskRep w k D) (bits:Nat) (hbits:bits < 18446744073709551616) :
  Calls Tryz.prog 59 #[.pointer (some ⟨k.p,0,none⟩),.int .u64 bits] w (DVoidPost w k (D.crash bits)):=by
 have H:=hid h
 have hmm:=@run_makeMap Tryz.prog
 clear h
 go_enter Tryz.func59,Tryz.ntmps59
 go_wp2_with fail
 refine (dwaits_c H.out).mono ?_
 rintro e w1 ⟨v,rfl,hown,hx⟩
 obtain ⟨a,c,rfl,hsl⟩:=hown.slice
 have HR:Hid (CrashRel w w1 k D bits 0 w1):=hid ⟨(((Mid.start H.out).ext H.out hx).congr H.out fun i _=>by unfold Dsk.dnC; simp),Only.refl _ _⟩
 have hlen:D.waiting.length<=k.n:=by
  have:=D.upTo_len D.l.length
  rw [H.out.len] at this
  unfold Dsk.upTo at this; unfold Dsk.waiting; rw [H.out.len]; exact this
 have hsm:=H.out.small
 have HSL:=hid hsl; have HX:=hid hx
 clear hown hsl hx
 go_wp2
 go_loopw [9] (fun i wr=>∃ j:Nat,i=.int .i64 j/\j<=D.waiting.length/\CrashRel w w1 k D bits j wr) (fun i _=>D.waiting.length - (intOf i).toNat)
 case atStart=>exact ⟨0,rfl,by omega,HR.out⟩
 case round =>
  clear HR
  obtain ⟨j,rfl,hj,hrel⟩:=hrel
  by_cases hlt:j < D.waiting.length
  ·
   rcases HSL.out with ⟨h1,_⟩ | ⟨b,rfl,hb1,hb2,hb3,hb4⟩
   ·
    rw [h1] at hlt; simp at hlt
   ·
    have i0:(0:Int)<=(j:Int):=by omega
    have i1:(j:Int) < (D.waiting.length:Int):=by omega
    have hcell:wr.cell? ⟨b,j,none⟩=some (.int .i64 (D.waiting.getD j 0)):=hrel.2.cell (hb4 j hlt) (fun e=>by
     have q1:=H.out.lt (b:=k.lb) ⟨.lb,rfl⟩
     have q2:=H.out.lt (b:=k.rm) ⟨.rm,rfl⟩
     have e':b=k.lb\/b=k.rm:=e
     omega)
    have HREL:=hid hrel
    clear hrel hb4
    have hmem:D.waiting.getD j 0∈D.waiting:=by
     have:D.waiting.getD j 0=D.waiting[j]:=by simp [List.getD_eq_getElem?_getD,hlt]
     rw [this]; exact List.getElem_mem hlt
    obtain ⟨p,hp⟩:∃ p,D.waiting.getD j 0=p:=⟨_,rfl⟩
    rw [hp] at hcell hmem
    have HP:=hid hp
    have HMEM:=hid hmem
    clear hp hmem
    have hw:=bit_walk bits j hbits
    rcases hbit:Dsk.bit bits j with _ | _
    ·
     rw [hbit] at hw
     have HF:=hid (HREL.out.skip H.out hlt hbit)
     clear hbit
     go_wp2
     go_roundw
     case rel=>exact ⟨j+1,by go_num,by omega,HF.out⟩
     case measure=>simp [intOf]; omega
    ·
     rw [hbit] at hw
     obtain ⟨q1,q2⟩:=(D.mem_waiting p).1 HMEM.out
     have hpn:p < k.n:=by rw [<- H.out.len]; exact q1
     obtain ⟨s,hs⟩:∃ s,k.wf p=some s:=by
      rcases hq:k.wf p with _ | s
      ·
       rw [H.out.waitN p hq] at q2; cases q2
      ·
       exact ⟨s,rfl⟩
     have HS:=hid hs; have HB:=hid hbit
     clear hbit hs q2
     go_wp2_with (go_at_call 92; refine (dput_c H.out HREL.out.1 p hpn s HS.out).mono ?_; rintro e W3 ⟨rfl,hm3,ho3⟩)
     have HF:=hid (HREL.out.step H.out hlt HB.out (by rw [HP.out]; exact hm3) ho3)
     go_roundw
     case rel=>exact ⟨j+1,by go_num,by omega,HF.out⟩
     case measure=>simp [intOf]; omega
  ·
   obtain rfl:D.waiting.length=j:=by omega
   have hfin:=(hrel.1.congr (dn':=fun i=>Dsk.bit bits (D.waiting.idxOf i)) H.out (fun i hi=>by
    obtain ⟨s,hs⟩:=Option.isSome_iff_exists.1 hi
    obtain ⟨q1,l,q2,_⟩:=H.out.waitS i s hs
    have:=Dsk.idx_lt ((D.mem_waiting i).2 ⟨by rw [H.out.len]; exact q1,by rw [q2]; rfl⟩)
    unfold Dsk.dnC
    simp [this])).finish H.out
   have HF:=hid hfin
   have hown:=(hrel.1.at_ H.out .p _ rfl (by simp) (by simp)).trans H.out.own
   have c1:=hrel.1.cell1 H.out
   have hfa:∀ o,(wr.alloc o).frozen? ⟨k.p,1,none⟩=false:=fun o=>Za5 ((heap_alloc_old wr o (lt_of_block hown)).trans hown)
   have hf:wr.frozen? ⟨k.p,1,none⟩=false:=Za5 hown
   have hca:∀ o,(wr.alloc o).cell? ⟨k.p,1,none⟩=some (.map (some k.wm)):=fun o=>Ext.cell ((Ext.refl wr).alloc o) c1
   clear hrel hfin hown
   go_wp2
   go_end0
   exact ⟨rfl,_,HF.out⟩
structure BitsAt (w:World) (a:Option Addr) (n:Nat) (l:List Nat):Prop where
 len:l.length=n
 bit:∀ x∈l,x < 18446744073709551616
 cells:n=0\/∃ b off,a=some ⟨b,off,none⟩/\∀ i,i < n->w.cell? ⟨b,off+i,none⟩=some (.int .u64 (l.getD i 0))
theorem BitsAt.only {F:Nat->Prop} {w w':World} {a:Option Addr} {n:Nat} {l:List Nat} (h:BitsAt w a n l) (e:Only F w w') (hn:∀ p,a=some p->0 < n->¬F p.block):BitsAt w' a n l:=by
 refine ⟨h.len,h.bit,?_⟩
 rcases h.cells with h0 | ⟨b,off,rfl,hc⟩
 ·
  exact .inl h0
 ·
  exact .inr ⟨b,off,rfl,fun i hi=>e.cell (hc i hi) (hn ⟨b,off,none⟩ rfl (by omega))⟩
def Rck.bootTo (R:Rck) (bits:List Nat) (j:Nat):Rck:={ R with l:=(List.range R.l.length).map fun i=>if i < j then (R.l.getD i default).crash (bits.getD i 0) else R.l.getD i default }
theorem Rck.bootTo_zero (R:Rck) (bits:List Nat):R.bootTo bits 0=R:=by
 have e:((List.range R.l.length).map fun i=>if i < 0 then (R.l.getD i default).crash (bits.getD i 0) else R.l.getD i default)=R.l:=by
  apply List.ext_getElem
  ·
   simp
  ·
   intro i h1 h2; simp [List.getD_eq_getElem?_getD,h2]
 unfold Rck.bootTo; rw [e]
theorem Rck.bootTo_step (R:Rck) (bits:List Nat) (j:Nat) (h:j < R.l.length):(R.bootTo bits j).setD (j:Int) (((R.bootTo bits j).dsk (j:Int)).crash (bits.getD j 0))=R.bootTo bits (j+1):=by
 have e0:(R.bootTo bits j).dsk (j:Int)=R.l.getD j default:=by
  unfold Rck.dsk Rck.bootTo
  simp [List.getD_eq_getElem?_getD,h]
 rw [e0]
 unfold Rck.setD Rck.bootTo
 rw [Int.toNat_natCast]
 simp only [Rck.mk.injEq,and_true]
 apply List.ext_getElem
 ·
  simp
 ·
  intro i h1 h2
  simp only [List.length_set,List.length_map,List.length_range] at h1
  rw [List.getElem_set]
  by_cases hij:j=i
  ·
   subst hij; simp
  ·
   rw [if_neg hij]
   by_cases hlt:i < j
   ·
    simp [hlt,show i < j+1 by omega]
   ·
    simp [hlt,show ¬i < j+1 by omega]
theorem Rck.boot_eq (R:Rck) (bits:List Nat):({ R.bootTo bits R.l.length with off:=false,fuse:=-1 }:Rck)=R.boot bits:=by
 unfold Rck.bootTo Rck.boot
 simp only [Rck.mk.injEq,and_true]
 apply List.map_congr_left
 intro i hi
 rw [if_pos (List.mem_range.1 hi)]
set_option maxHeartbeats 1000000 in
theorem rboot_c {w:World} {K:RSk} {R:Rck} (h:RackRep w K R) (a:Option Addr) (n c:Nat) (bits:List Nat) (hb:BitsAt w a n bits) (hfar:∀ p,a=some p->0 < n->¬K.foot p.block) :
  Calls Tryz.prog 29 #[.pointer (some ⟨K.r,0,none⟩),.slice a n c] w (RVoidPost w K (R.boot bits)):=by
 have H:=hid h
 have c0:=h.cell0
 have hlen:=h.len
 have HLEN:=hid hlen
 have hn8:=h.small
 have HB:=hid hb
 have HS:Hid (∃ K1,RackTo w K w (R.bootTo bits 0) K1/\K1.n=K.n/\K1.lb=K.lb/\∀ i,i < K.n->(K1.ks i).p=(K.ks i).p):=hid ⟨K,by rw [Rck.bootTo_zero]; exact RackTo.refl h,rfl,rfl,fun i _=>rfl⟩
 clear h hlen hb
 go_enter Tryz.func29,Tryz.ntmps29
 go_wp2
 clear c0
 go_loopw [12] (fun i wr=>∃ j:Nat,i=.int .i64 j/\j<=K.n/\∃ K1,RackTo w K wr (R.bootTo bits j) K1/\K1.n=K.n/\K1.lb=K.lb/\∀ i,i < K.n->(K1.ks i).p=(K.ks i).p) (fun i _=>K.n - (intOf i).toNat)
 case atStart=>exact ⟨0,rfl,by omega,HS.out⟩
 case round =>
  clear HS
  obtain ⟨j,rfl,hj,K1,ht,hn1,hlb1,hp1⟩:=hrel
  by_cases hlt:j < K.n
  ·
   have i0:(0:Int)<=(j:Int):=by omega
   have i1:(j:Int) < (K.n:Int):=by omega
   have hj1:j < K1.n:=by rw [hn1]; exact hlt
   have cP:=ht.rep.cellP j hj1
   rw [hlb1] at cP
   have HD:=hid (ht.rep.dskAt hj1)
   have hbits:=HB.out.only ht.only hfar
   obtain ⟨p,hpp⟩:∃ p,(K1.ks j).p=p:=⟨_,rfl⟩
   rw [hpp] at cP
   have HPP:=hid hpp
   have HF:Hid (∀ w2 k',DiskTo wr (K1.ks j) w2 (((R.bootTo bits j).dsk (j:Int)).crash (bits.getD j 0)) k'->∃ K1,RackTo w K w2 (R.bootTo bits (j+1)) K1/\K1.n=K.n/\K1.lb=K.lb/\∀ i,i < K.n->(K1.ks i).p=(K.ks i).p):=hid fun w2 k' e3=>by
    refine ⟨RackRep.upd K1 j k',ht.then (by rw [<- Rck.bootTo_step R bits j (by rw [HLEN.out]; exact hlt)]; exact RackTo.disk ht.rep (Only.refl _ _) hj1 e3),hn1,hlb1,fun i hi=>?_⟩
    show (if i=j then k' else K1.ks i).p=_
    by_cases hij:i=j
    ·
     subst hij; rw [if_pos rfl,e3.p]; exact hp1 i hi
    ·
     rw [if_neg hij]; exact hp1 i hi
   clear ht hpp
   by_cases hjb:j < n
   ·
    have hc:∃ b off,a=some ⟨b,off,none⟩/\wr.cell? ⟨b,off+j,none⟩=some (.int .u64 (bits.getD j 0)):=by
     rcases hbits.cells with h0 | ⟨b,off,rfl,hc⟩
     ·
      omega
     ·
      exact ⟨b,off,rfl,hc j hjb⟩
    obtain ⟨b,off,rfl,hc⟩:=hc
    have i2:(j:Int) < (n:Int):=by omega
    have hd:bits.getD j 0 < 18446744073709551616:=by
     have:j < bits.length:=by rw [HB.out.len]; exact hjb
     have e:bits.getD j 0=bits[j]:=by simp [List.getD_eq_getElem?_getD,this]
     rw [e]; exact HB.out.bit _ (List.getElem_mem this)
    clear hbits
    obtain ⟨x,hx⟩:∃ x,bits.getD j 0=x:=⟨_,rfl⟩
    have HX:=hid hx
    rw [hx] at hc hd
    clear hx
    go_wp2_with (go_at_call 59; refine (show Calls _ _ _ _ _ by rw [<- HPP.out]; exact dcrash_c HD.out x hd).mono ?_; rintro e w2 ⟨rfl,k',ht2⟩; have HT2:=hid ht2; clear ht2)
    go_roundw
    case rel=>exact ⟨j+1,by go_num,by omega,HF.out _ _ (by rw [HX.out]; exact HT2.out)⟩
    case measure=>simp [intOf]; omega
   ·
    have hx:bits.getD j 0=0:=by
     have:bits.length<=j:=by rw [HB.out.len]; omega
     simp [List.getD_eq_getElem?_getD,List.getElem?_eq_none this]
    have HX:=hid hx
    clear hx hbits
    go_wp2_with (go_at_call 59; refine (show Calls _ _ _ _ _ by rw [<- HPP.out]; exact dcrash_c HD.out 0 (by omega)).mono ?_; rintro e w2 ⟨rfl,k',ht2⟩; have HT2:=hid ht2; clear ht2)
    go_roundw
    case rel=>exact ⟨j+1,by go_num,by omega,HF.out _ _ (by rw [HX.out]; exact HT2.out)⟩
    case measure=>simp [intOf]; omega
  ·
   obtain rfl:K.n=j:=by omega
   have hr1:=ht.r
   have e1:=ht.rep.set (R':={ R.bootTo bits K.n with off:=false }) rfl ht.rep.fuse (i:=1) (v:=.bool false) rfl
   have e2:=e1.set (R':={ R.bootTo bits K.n with off:=false,fuse:=-1 }) rfl ⟨by simp,by simp⟩ (i:=2) (v:=.int .i64 (-1)) rfl
   have c1:=ht.rep.cell1
   have f1:=ht.rep.free 1
   have c2:=e1.cell2
   have f2:=e1.free 2
   have c2':=ht.rep.cell2
   have f2':=ht.rep.free 2
   rw [hr1] at e1 e2 c1 f1 c2 f2 c2' f2'
   have HF:Hid (RVoidPost w K (R.boot bits) (.returned (.tuple #[])) ((wr.setCell ⟨K.r,1,none⟩ (.bool false)).setCell ⟨K.r,2,none⟩ (.int .i64 (-1)))):=hid ⟨rfl,K1,by
    rw [<- Rck.boot_eq,HLEN.out]
    exact ht.then ⟨e2,rfl,fun b hb=>.inl hb,Only.setCell (Only.setCell (Only.refl K1.foot wr) (.inr (.inl (by rw [hr1]))) _) (.inr (.inl (by rw [hr1]))) _⟩⟩
   clear ht e1 e2 hp1
   go_wp2
   go_end0
   exact HF.out
theorem at_boot {S:Nat->Prop} {w:World} {r:Nat} {R:Rck} (h:RackAt S w r R) (a:Option Addr) (n c:Nat) (bits:List Nat) (hb:BitsAt w a n bits) (hs:∀ p,a=some p->0 < n->S p.block) :
  Calls Tryz.prog 29 #[.pointer (some ⟨r,0,none⟩),.slice a n c] w fun e w'=>e=.returned (.tuple #[])/\RackAt S w' r (R.boot bits)/\Keeps S w w':=by
 obtain ⟨h0,K,rfl,h2,h3⟩:=h
 refine (rboot_c h2 a n c bits hb (fun p hp hn hf=>h3 _ hf (hs p hp hn))).mono ?_
 rintro e w' ⟨rfl,K',ht⟩
 exact ⟨rfl,ht.at_ h0 h3⟩
theorem RackAt.pokes {S F:Nat->Prop} {w w':World} {r:Nat} {R:Rck} (h:RackAt S w r R) (e:Only F w w') (hF:∀ b,F b->S b):RackAt (wideS S w w') w' r R:=by
 obtain ⟨h0,K,h1,h2,h3⟩:=h
 refine ⟨fun b hb=>?_,K,h1,h2.only e fun b hb hf=>h3 b hb (hF b hf),fun b hb ht=>?_⟩
 ·
  rcases hb with hb | hb
  ·
   exact Nat.lt_of_lt_of_le (h0 b hb) e.size
  ·
   exact hb.2
 ·
  rcases ht with h4 | h4
  ·
   exact h3 b hb h4
  ·
   have:=h2.lt hb; omega
namespace SE
variable {w0 w w':World} {S:Nat->Prop} {r:Nat} {R R':Rck} {gc:Nat} {c:Cfg} {L:List (Option Addr × List (List Nat))}
end SE
end Go.Proofs.YtkipjmbplmdaaaaGreatDoor
namespace Go.Proofs.YtkipjmbplmdaaaaGreatDoor
set_option linter.unusedVariables false
open Go Go.RowKit
theorem IsRow.ints {w:World} {a:Option Addr} {len cap:Nat} {z:List Int} (h:IsRow .i64 w a len cap z):∀ i,i < len->∃ b off v,a=some ⟨b,off,none⟩/\w.cell? ⟨b,off+i,none⟩=some (.int .i64 v):=by
 intro i hi
 rcases h with ⟨rfl,rfl,rfl,rfl⟩ | ⟨x,rfl,hlc,hm,hz,hc,hw⟩
 ·
  omega
 ·
  have h1:=hc i (by omega)
  obtain ⟨b,off,sp⟩:=x
  rcases sp with _ | sp
  ·
   have e:(⟨b,off,none⟩:Addr).add i=⟨b,off+i,none⟩:=by unfold Addr.add; split<;>simp_all
   rw [e] at h1
   exact ⟨b,off,_,rfl,h1⟩
  ·
   exfalso
   have h0:=hc 0 (by omega)
   unfold World.cell? Addr.add at h0
   split at h0<;>simp_all
theorem IsRow.low {w:World} {ik:IntKind} {a:Option Addr} {len cap:Nat} {z:List Int} (h:IsRow ik w a len cap z):∀ p,a=some p->0 < len->p.block < w.heap.size:=fun p hp hn=>by
 rcases h with ⟨rfl,rfl,rfl,rfl⟩ | ⟨x,rfl,hlc,hm,hz,hc,hw⟩
 ·
  cases hp
 ·
  cases hp
  have h0:=hc 0 (by omega)
  have:=World.block_lt_of_cell? w _ h0
  unfold Addr.add at this
  split at this<;>simp_all
theorem IsRow.bits {w:World} {a:Option Addr} {len cap:Nat} {z:List Int} (h:IsRow .u64 w a len cap z):BitsAt w a len ((z.take len).map Int.toNat):=by
 rcases h with ⟨rfl,rfl,rfl,rfl⟩ | ⟨x,rfl,hlc,hm,hz,hc,hw⟩
 ·
  exact ⟨rfl,by simp,.inl rfl⟩
 ·
  have hb:∀ i,i < z.length->0<=z.getD i 0/\z.getD i 0<=18446744073709551615:=fun i hi=>by
   have e:z.getD i 0=z[i]:=by simp [hi]
   rw [e]; exact bounds_u64 (hw _ (List.getElem_mem hi))
  refine ⟨by simp; omega,fun y hy=>?_,?_⟩
  ·
   obtain ⟨q,hq,rfl⟩:=List.mem_map.1 hy
   have:=bounds_u64 (hw q (List.mem_of_mem_take hq)); omega
  ·
   by_cases h0:len=0
   ·
    exact .inl h0
   ·
    have h1:=hc 0 (by omega)
    obtain ⟨b,off,sp⟩:=x
    rcases sp with _ | sp
    ·
     refine .inr ⟨b,off,rfl,fun i hi=>?_⟩
     have:=hc i (by omega)
     have e:(⟨b,off,none⟩:Addr).add i=⟨b,off+i,none⟩:=by unfold Addr.add; split<;>simp_all
     rw [e] at this
     rw [this]
     have h2:=hb i (by omega)
     have e3:((z.take len).map Int.toNat).getD i 0=(z.getD i 0).toNat:=by
      have:i < z.length:=by omega
      simp [List.getD_eq_getElem?_getD,List.getElem?_take,hi,this]
     rw [e3]
     congr 2; omega
    ·
     exfalso
     unfold World.cell? Addr.add at h1
     split at h1<;>simp_all
theorem rarm_c {w:World} {K:RSk} {R:Rck} (h:RackRep w K R) (n:Int) (hn:n<=9223372036854775807) :
  Calls Tryz.prog 27 #[.pointer (some ⟨K.r,0,none⟩),.int .i64 n] w fun e w'=>e=.returned (.tuple #[])/\RackRep w' K (R.arm n)/\Only (fun b=>b=K.r) w w':=by
 have c2:=h.cell2
 have f2:=h.free 2
 by_cases hp:-1<=n
 ·
  have e:max n (-1)=n:=by omega
  have HF:Hid (RackRep (w.setCell ⟨K.r,2,none⟩ (.int .i64 n)) K (R.arm n)):=hid (by unfold Rck.arm; rw [e]; exact h.set (R':={ R with fuse:=n }) rfl ⟨hp,hn⟩ rfl)
  have hmax:(if n < -1 then -1 else n)=n:=if_neg (by omega)
  have hmax2:(if (-1:Int) > n then -1 else n)=n:=if_neg (by omega)
  clear h e
  go_enter Tryz.func27,Tryz.ntmps27
  go_wp2
  go_end0
  exact ⟨rfl,HF.out,Zbm _ _ _ _⟩
 ·
  have e:max n (-1)=-1:=by omega
  have HF:Hid (RackRep (w.setCell ⟨K.r,2,none⟩ (.int .i64 (-1))) K (R.arm n)):=hid (by unfold Rck.arm; rw [e]; exact h.set (R':={ R with fuse:=-1 }) rfl ⟨by simp,by simp⟩ rfl)
  have hmax:(if n < -1 then -1 else n)=-1:=if_pos (by omega)
  clear h e
  go_enter Tryz.func27,Tryz.ntmps27
  go_wp2
  go_end0
  exact ⟨rfl,HF.out,Zbm _ _ _ _⟩
theorem at_arm {S:Nat->Prop} {w:World} {r:Nat} {R:Rck} (h:RackAt S w r R) (n:Int) (hn:n<=9223372036854775807) :
  Calls Tryz.prog 27 #[.pointer (some ⟨r,0,none⟩),.int .i64 n] w fun e w'=>e=.returned (.tuple #[])/\RackAt S w' r (R.arm n)/\Keeps S w w':=by
 obtain ⟨h0,K,rfl,h2,h3⟩:=h
 refine (rarm_c h2 n hn).mono ?_
 rintro e w' ⟨rfl,h4,h5⟩
 exact ⟨rfl,(RackTo.asked h4 h5).at_ h0 h3⟩
end Go.Proofs.YtkipjmbplmdaaaaGreatDoor
