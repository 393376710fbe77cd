/- Texts of one proof, joined: OwnBy, DiskI, RackH, RckDim, GotOk. -/
import Derived.Test.YtgjnnbomnoafcaaGreatDoorVD
import Derived.Test.YtgjnnbomnoafcaaGreatDoorVA
import Derived.Test.YtgjnnbomnoafcaaGreatDoorVG
import Derived.Test.YtgjnnbomnoafcaaGreatDoorVB
import Derived.Test.YtgjnnbomnoafcaaGreatDoorVF
set_option linter.unusedVariables false
set_option linter.unusedSimpArgs false
namespace Go.Proofs.YtgjnnbomnoafcaaGreatDoor
set_option linter.unusedVariables false
open Go Go.RowKit
def OwnBy (w:World) (B:Nat) (v:Value) (l:List Nat):Prop:=w.ownsRow B 5 1 v l.length (l.map bv)
namespace OwnBy
variable {w w':World} {B:Nat} {v:Value} {l:List Nat}
theorem only {F:Nat->Prop} (h:OwnBy w B v l) (e:Only F w w') (hn:∀ b,v.ownBlock=some b->¬F b):OwnBy w' B v l:=by
 refine ⟨h.1,?_⟩
 rcases h.2 with h' | ⟨g,c,cur,h1,h2,h3,h4⟩
 ·
  exact .inl h'
 ·
  exact .inr ⟨g,c,cur,h1,h2,e.at h3 (hn g (by rw [h1]; rfl)),h4⟩
theorem ext (h:OwnBy w B v l) (e:Ext w w'):OwnBy w' B v l:=h.only e fun _ _ x=>x
theorem lt (h:OwnBy w B v l) (b:Nat) (e:v.ownBlock=some b):B<=b/\b < w.heap.size:=World.ownsRow.lt h b e
theorem slice (h:OwnBy w B v l) (hb:∀ x∈l,x < 256) (hl:l.length<=140737488355328):∃ a c,v=.slice a l.length c/\BytesAt w a l.length l/\l.length<=c/\∀ b o,a=some ⟨b,o,none⟩->o=0/\v.ownBlock=some b/\B<=b:=by
 have hc:=h
 rcases h.2 with ⟨h1,h2⟩ | ⟨g,c,cur,h1,h2,h3,h4⟩
 ·
  exact ⟨none,0,by rw [h1,h2],⟨rfl,hl,hb,.inl h2⟩,by omega,fun b o hb=>by cases hb⟩
 ·
  refine ⟨_,c,h1,⟨rfl,hl,hb,.inr ⟨g,0,rfl,fun i hi=>?_⟩⟩,h4.1,fun b o hb=>by cases hb; exact ⟨rfl,by rw [h1]; rfl,h2⟩⟩
  have:=h.cells (g:=g) (by rw [h1]; rfl) i (bv (nth l i)) (by rw [List.getElem?_map,List.getElem?_eq_getElem hi,Za0 hi]; rfl)
  have e:(⟨g,0,none⟩:Addr).add i=⟨g,0+i,none⟩:=by unfold Addr.add; split<;>simp_all
  rw [e] at this
  exact this
theorem push (h:OwnBy w B v l) {a:Option Addr} {n c:Nat} {m:List Nat} (hb:BytesAt w a n m) (hn:0 < n) (hl:l.length+n<=100000) (hB:B<=w.heap.size) :
  ∃ v' w',Sem.run Tryz.prog (Builtin.append_ #[38,38] 38 #[v,.slice a n c]) w=.ok v' w'/\OwnBy w' B v' (l++m) ∧
   Only (fun b=>v.ownBlock=some b) w w'/\(∀ w0,w0.heap.size<=B->Ext w0 w->Ext w0 w'):=by
 obtain ⟨i0,hi,hz0,hz1,hz2⟩:=info_parts info8
 have hml:=hb.len
 rcases hb.cells with h0 | ⟨b,off,rfl,hc⟩
 ·
  omega
 obtain ⟨v',w',h1,h2,h3,_⟩:=run_append_own_at (P:=Tryz.prog) (w:=w) B 38 38 5 i0 (.int .u8 0) 1 1 Tryz.underlying38 hi hz0 hz1 hz2 rfl (by decide)
  v l.length _ h ⟨b,off,none⟩ n c (m.map bv) (by simp [hml])
  (by
   intro j u hu
   rw [List.getElem?_map] at hu
   have hj:j < m.length:=by
    rcases Nat.lt_or_ge j m.length with h' | h'
    ·
     exact h'
    ·
     rw [List.getElem?_eq_none h'] at hu; cases hu
   rw [List.getElem?_eq_getElem hj] at hu
   have e:(⟨b,off,none⟩:Addr).add j=⟨b,off+j,none⟩:=by unfold Addr.add; split<;>simp_all
   rw [e,hc j (by omega),Za0 hj]
   exact hu)
  (by intro u hu; obtain ⟨x,_,rfl⟩:=List.mem_map.1 hu; rfl) (by unfold maxLen; omega) (by omega) hB
 have ho:Only (fun b=>v.ownBlock=some b) w w':=(Only.refl (fun b=>v.ownBlock=some b) w).grown h3 (fun k _ e=>e)
 refine ⟨v',w',h1,by unfold OwnBy; rw [List.length_append,List.map_append,hml]; exact h2,ho,fun w0 hw0 hx=>Ext.then hx ho fun i hi e=>?_⟩
 have:=(h.lt i e).1
 omega
end OwnBy
def EntsAt (w:World) (a:Option Addr) (l:List (List Nat)):Prop:=∀ i x,l[i]?=some x->∃ g off p cp,a=some ⟨g,off,none⟩/\w.cell? ⟨g,off+i,none⟩=some (.slice p x.length cp)/\BytesAt w p x.length x
namespace EntsAt
variable {w w':World} {a:Option Addr} {l:List (List Nat)}
end EntsAt
end Go.Proofs.YtgjnnbomnoafcaaGreatDoor
namespace Go.Proofs.YtgjnnbomnoafcaaGreatDoor
set_option linter.unusedVariables false
open Go Go.RowKit
def xorTo (l:List Nat) (at_ x j:Nat):List Nat:=(List.range j).foldl (fun l k=>l.set (at_+k) (l.getD (at_+k) 0 ^^^ x / 2 ^ (8*k) % 256)) l
theorem xorTo_four (l:List Nat) (at_ x:Nat):xorTo l at_ x 4=Dsk.xor4 l at_ x:=rfl
theorem xorTo_succ (l:List Nat) (at_ x j:Nat):xorTo l at_ x (j+1)=(xorTo l at_ x j).set (at_+j) ((xorTo l at_ x j).getD (at_+j) 0 ^^^ x / 2 ^ (8*j) % 256):=by
 unfold xorTo; rw [List.range_succ,List.foldl_append]; rfl
theorem SecAt.put {w:World} {s:Spot} {l:List Nat} (h:SecAt w s l) (i y:Nat) (hi:i < 128) (hy:y < 256):SecAt (w.setCell ⟨s.blk,i,none⟩ (.int .u8 y)) s (l.set i y):=by
 obtain ⟨h1,h2,h3,h4⟩:=h
 refine ⟨by rw [List.length_set]; exact h1,fun x hx=>?_,by simp [h1],?_⟩
 ·
  rcases List.mem_or_eq_of_mem_set hx with h | rfl
  ·
   exact h2 x h
  ·
   exact hy
 ·
  rcases h4 with h' | ⟨g,c,cur,e1,e2,e3,e4,e5,e6,e7⟩
  ·
   exact absurd h'.2 (by omega)
  ·
   have e1':=e1; unfold Spot.val at e1'; cases e1'
   refine .inr ⟨s.blk,_,cur.setIfInBounds i (.int .u8 y),rfl,Nat.zero_le _,?_,e4,e5,by simpa using e6,?_⟩
   ·
    rw [Zar e3]
   ·
    rw [Array.toList_setIfInBounds,List.map_set,<- e7,List.take_set]
    rfl
theorem SecAt.cell {w:World} {s:Spot} {l:List Nat} (h:SecAt w s l) (i:Nat) (hi:i < 128):w.cell? ⟨s.blk,i,none⟩=some (.int .u8 (l.getD i 0:Nat)):=by
 obtain ⟨h1,h2,h3,h4⟩:=h
 rcases h4 with h' | ⟨g,c,cur,e1,e2,e3,e4,e5,e6,e7⟩
 ·
  exact absurd h'.2 (by omega)
 ·
  have e1':=e1; unfold Spot.val at e1'; cases e1'
  rw [Zaf e3]
  have:(cur.toList.take (128*1))[i]?=(l.map bv)[i]?:=by rw [e7]
  rw [List.getElem?_take_of_lt (by omega),Array.getElem?_toList] at this
  rw [this]
  have hl:i < l.length:=by omega
  simp [List.getD_eq_getElem?_getD,hl,bv]
theorem SecAt.free {w:World} {s:Spot} {l:List Nat} (h:SecAt w s l) (i:Nat):w.frozen? ⟨s.blk,i,none⟩=false:=by
 obtain ⟨h1,h2,h3,h4⟩:=h
 rcases h4 with h' | ⟨g,c,cur,e1,e2,e3,e4,e5,e6,e7⟩
 ·
  exact absurd h'.2 (by omega)
 ·
  have e1':=e1; unfold Spot.val at e1'; cases e1'
  exact Zax e3
theorem DiskRep.rotted {w W W':World} {k:DSk} {D:Dsk} (h:DiskRep w k D) {i at_ x:Nat} (hi:i < k.n) {l:List Nat} (hl:Dsk.xor4 (D.l.getD i []) at_ x=l) (ho:Only (fun b=>b=(k.ss i).blk) w W) (hs:SecAt W (k.ss i) l)
  {g:Int->Option Value} (hg:∀ j:Int,(g j).getD (.bool false)=.bool (decide (0<=j) && D.rot j.toNat))
  (hm:MapI W' k.rm (fun j=>if j=(i:Int) then some (.bool true) else g j)) (ho2:Only (fun b=>b=k.rm) W W'):DiskTo w k W' (D.rotted i at_ x) k:=by
 have hO:Only (fun b=>b=(k.ss i).blk\/b=k.rm) w W':=(ho.mono (G:=fun b=>b=(k.ss i).blk\/b=k.rm) fun b _ e=>.inl e).trans ho2 fun b _ e=>.inr e
 have hsi:k.at_ (.sec i)=some (k.ss i).blk:=by simp [DSk.at_,hi]
 have hk:∀ y b,k.at_ y=some b->y≠.sec i->y≠.rm->W'.heap[b]?=w.heap[b]?:=fun y b hy h1 h2=>hO.block b (h.lt ⟨y,hy⟩) fun e=>by
  rcases e with e | e
  ·
   exact h1 (h.inj y (.sec i) b hy (by rw [e]; exact hsi))
  ·
   exact h2 (h.inj y .rm b hy (by rw [e]; rfl))
 have hsr:(k.ss i).blk≠k.rm:=h.ne (x:=.sec i) (y:=.rm) hsi rfl (by simp)
 refine ⟨⟨by simp [Dsk.rotted,h.len],h.pos,h.small,?_,?_,?_,?_,?_,h.waitN,?_,h.inj⟩,rfl,rfl,fun b hb=>.inl hb,hO.mono fun b _ e=>?_⟩
 ·
  exact (hk .p _ rfl (by simp) (by simp)).trans h.own
 ·
  exact (hk .lb _ rfl (by simp) (by simp)).trans h.arr
 ·
  intro j hj
  by_cases hji:j=i
  ·
   subst hji
   have e:(D.rotted j at_ x).l.getD j []=l:=by
    unfold Dsk.rotted
    have:j < D.l.length:=by rw [h.len]; exact hj
    rw [<- hl]
    simp [List.getD_eq_getElem?_getD,this]
   rw [e]
   exact hs.same (ho2.block _ hs.lt hsr)
  ·
   have e:(D.rotted i at_ x).l.getD j []=D.l.getD j []:=by
    unfold Dsk.rotted
    simp [List.getD_eq_getElem?_getD,List.getElem?_set_ne (Ne.symm hji)]
   rw [e]
   exact (h.sec j hj).same (hk (.sec j) _ (by simp [DSk.at_,hj]) (by simpa using hji) (by simp))
 ·
  exact h.wmap.same (hk .wm _ rfl (by simp) (by simp))
 ·
  intro j s hj
  obtain ⟨h1,l',h2,h3⟩:=h.waitS j s hj
  exact ⟨h1,l',h2,h3.same (hk (.wait j) _ (by simp [DSk.at_,hj]) (by simp) (by simp))⟩
 ·
  refine ⟨_,hm,fun j=>?_⟩
  by_cases hj:j=(i:Int)
  ·
   subst hj; simp [Dsk.rotted]
  ·
   simp only [hj,if_false]
   rw [hg j]
   by_cases hj0:0<=j
   ·
    have:j.toNat≠i:=by omega
    simp [Dsk.rotted,this]
   ·
    have:decide (0<=j)=false:=by simp; omega
    rw [this,Bool.false_and,Bool.false_and]
 ·
  rcases e with e | e
  ·
   exact ⟨.sec i,by rw [e]; exact hsi⟩
  ·
   exact ⟨.rm,by rw [e]; rfl⟩
def DRotPost (w:World) (k:DSk) (D:Dsk) (i a:Int) (x:Nat) (e:Ending) (w':World):Prop:=e=.returned (.bool (D.rotOk i a x))/\DiskTo w k w' (if D.rotOk i a x then D.rotted i.toNat a.toNat x else D) k
theorem Zbr {D:Dsk} {i a:Int} {x:Nat} (h:a < 0\/124 < a\/x=0):D.rotOk i a x=false:=by
 unfold Dsk.rotOk; rcases h with h | h | h<;>simp [h]
theorem Zcn (D:Dsk) (op:ByteArray) (i:Int):∃ er,D.refusedE op i true=some er:=by
 unfold Dsk.refusedE; cases D.dead<;>simp
theorem rotOk_refused {D:Dsk} {op:ByteArray} {i a:Int} {x:Nat} {er:Err} (h:D.refusedE op i false=some er):D.rotOk i a x=false:=by
 unfold Dsk.refusedE at h
 unfold Dsk.rotOk
 cases hd:D.dead
 ·
  rw [hd] at h
  rw [if_neg (by simp)] at h
  split at h
  ·
   rename_i hc; simp at hc; simp; omega
  ·
   cases h
 ·
  simp
set_option maxRecDepth 100000 in
set_option maxHeartbeats 800000 in
theorem rot_no1 {w:World} {k:DSk} {D:Dsk} (h:DiskRep w k D) (i a:Int) (x:Nat) (h1:a < 0) (hx:x < 4294967296) (hok:D.rotOk i a x=false) {er:Err} (hr:D.refusedE sDiskRot i true=some er) :
  Calls Tryz.prog 121 #[.pointer (some ⟨k.p,0,none⟩),.int .i64 i,.int .i64 a,.int .u32 x] w (DRotPost w k D i a x):=by
 have H:=hid h; have HR:=hid hr; have HK:=hid hok
 obtain ⟨t2,v2,hq⟩:∃ t v,er.val=.iface t v:=by cases er<;>exact ⟨_,_,rfl⟩
 have HQ:=hid hq
 clear hr h hq hok
 go_enter Tryz.func121,Tryz.ntmps121
 go_wp2_with (go_at_call 174; refine (Zba H.out sDiskRot i true).mono ?_; rintro e w' ⟨rfl,rfl⟩; rw [HR.out]; simp only [oErr,HQ.out])
 go_ret
 exact ⟨Zas HK.out.symm,by rw [HK.out]; exact DiskTo.refl H.out⟩
set_option maxRecDepth 100000 in
set_option maxHeartbeats 800000 in
theorem rot_no2 {w:World} {k:DSk} {D:Dsk} (h:DiskRep w k D) (i a:Int) (x:Nat) (h1:¬a < 0) (h2:124 < a) (hx:x < 4294967296) (hok:D.rotOk i a x=false) {er:Err} (hr:D.refusedE sDiskRot i true=some er) :
  Calls Tryz.prog 121 #[.pointer (some ⟨k.p,0,none⟩),.int .i64 i,.int .i64 a,.int .u32 x] w (DRotPost w k D i a x):=by
 have H:=hid h; have HR:=hid hr; have HK:=hid hok
 obtain ⟨t2,v2,hq⟩:∃ t v,er.val=.iface t v:=by cases er<;>exact ⟨_,_,rfl⟩
 have HQ:=hid hq
 clear hr h hq hok
 go_enter Tryz.func121,Tryz.ntmps121
 go_wp2_with (go_at_call 174; refine (Zba H.out sDiskRot i true).mono ?_; rintro e w' ⟨rfl,rfl⟩; rw [HR.out]; simp only [oErr,HQ.out])
 go_ret
 exact ⟨Zas HK.out.symm,by rw [HK.out]; exact DiskTo.refl H.out⟩
set_option maxRecDepth 100000 in
set_option maxHeartbeats 800000 in
theorem rot_no3 {w:World} {k:DSk} {D:Dsk} (h:DiskRep w k D) (i a:Int) (x:Nat) (h1:¬a < 0) (h2:¬124 < a) (h3:x=0) (hx:x < 4294967296) (hok:D.rotOk i a x=false) {er:Err} (hr:D.refusedE sDiskRot i true=some er) :
  Calls Tryz.prog 121 #[.pointer (some ⟨k.p,0,none⟩),.int .i64 i,.int .i64 a,.int .u32 x] w (DRotPost w k D i a x):=by
 have H:=hid h; have HR:=hid hr; have HK:=hid hok
 obtain ⟨t2,v2,hq⟩:∃ t v,er.val=.iface t v:=by cases er<;>exact ⟨_,_,rfl⟩
 have HQ:=hid hq
 clear hr h hq hok
 subst h3
 go_enter Tryz.func121,Tryz.ntmps121
 go_wp2_with (go_at_call 174; refine (Zba H.out sDiskRot i true).mono ?_; rintro e w' ⟨rfl,rfl⟩; rw [HR.out]; simp only [oErr,HQ.out])
 go_ret
 exact ⟨Zas HK.out.symm,by rw [HK.out]; exact DiskTo.refl H.out⟩
set_option maxRecDepth 100000 in
set_option maxHeartbeats 800000 in
theorem rot_no4 {w:World} {k:DSk} {D:Dsk} (h:DiskRep w k D) (i a:Int) (x:Nat) (h1:¬a < 0) (h2:¬124 < a) (h3:¬x=0) (hx:x < 4294967296) (hok:D.rotOk i a x=false) {er:Err} (hr:D.refusedE sDiskRot i false=some er) :
  Calls Tryz.prog 121 #[.pointer (some ⟨k.p,0,none⟩),.int .i64 i,.int .i64 a,.int .u32 x] w (DRotPost w k D i a x):=by
 have H:=hid h; have HR:=hid hr; have HK:=hid hok
 obtain ⟨t2,v2,hq⟩:∃ t v,er.val=.iface t v:=by cases er<;>exact ⟨_,_,rfl⟩
 have HQ:=hid hq
 clear hr h hq hok
 have x0:((x:Int) == 0)=false:=by simp; omega
 clear h3
 go_enter Tryz.func121,Tryz.ntmps121
 go_wp2_with (go_at_call 174; refine (Zba H.out sDiskRot i false).mono ?_; rintro e w' ⟨rfl,rfl⟩; rw [HR.out]; simp only [oErr,HQ.out])
 go_ret
 exact ⟨Zas HK.out.symm,by rw [HK.out]; exact DiskTo.refl H.out⟩
set_option maxRecDepth 100000 in
set_option maxHeartbeats 800000 in
theorem rot_no5 {w:World} {k:DSk} {D:Dsk} (h:DiskRep w k D) (i:Nat) (a:Int) (x:Nat) (h1:¬a < 0) (h2:¬124 < a) (h3:¬x=0) (hx:x < 4294967296) (hr:D.refusedE sDiskRot i false=none) (hrot:D.rot i=true) :
  Calls Tryz.prog 121 #[.pointer (some ⟨k.p,0,none⟩),.int .i64 i,.int .i64 a,.int .u32 x] w (DRotPost w k D i a x):=by
 have HK:Hid (D.rotOk i a x=false):=hid (by unfold Dsk.rotOk; simp [hrot])
 have H:=hid h; have HR:=hid hr
 obtain ⟨g,hg1,hg2⟩:=h.rmap
 have c2:=h.cell2
 have hlook:=hg1.run_look (P:=Tryz.prog) Tryz.underlying194 keyI (zeroB w) i false
 have hv:(g (i:Int)).getD (.bool false)=.bool true:=by rw [hg2]; simp [hrot]
 rw [hv] at hlook
 simp only [Bool.false_eq_true,if_false] at hlook
 have x0:((x:Int) == 0)=false:=by simp; omega
 clear hr h hg1 hg2 hv h3
 go_enter Tryz.func121,Tryz.ntmps121
 go_wp2_with (go_at_call 174; refine (Zba H.out sDiskRot i false).mono ?_; rintro e w' ⟨rfl,rfl⟩; rw [HR.out]; simp only [oErr])
 go_ret
 exact ⟨Zas HK.out.symm,by rw [HK.out]; exact DiskTo.refl H.out⟩
set_option maxRecDepth 100000 in
set_option maxHeartbeats 1600000 in
theorem rot_yes {w:World} {k:DSk} {D:Dsk} (h:DiskRep w k D) (i a x:Nat) (h2:a<=124) (h3:¬x=0) (hx:x < 4294967296) (hr:D.refusedE sDiskRot i false=none) (hrot:D.rot i=false) :
  Calls Tryz.prog 121 #[.pointer (some ⟨k.p,0,none⟩),.int .i64 i,.int .i64 a,.int .u32 x] w (DRotPost w k D i a x):=by
 obtain ⟨hdead,_,i',hii,hi⟩:=Zb4 hr
 obtain rfl:i'=i:=by omega
 rw [h.len] at hi
 have HK:Hid (D.rotOk i' a x=true):=hid (by unfold Dsk.rotOk; rw [h.len]; simp [hrot,hdead,h3]; omega)
 have H:=hid h; have HR:=hid hr; have HI:=hid hi
 obtain ⟨g,hg1,hg2⟩:=h.rmap
 have c0:=h.cell0
 have c2:=h.cell2
 have hlook:=hg1.run_look (P:=Tryz.prog) Tryz.underlying194 keyI (zeroB w) i' false
 have hv:(g (i':Int)).getD (.bool false)=.bool false:=by rw [hg2]; simp [hrot]
 rw [hv] at hlook
 simp only [Bool.false_eq_true,if_false] at hlook
 have HG1:=hid hg1; have HG2:=hid hg2
 have i0:(0:Int)<=(i':Int):=by omega
 have i1:(i':Int) < (k.n:Int):=by omega
 have a1:¬(a:Int) < 0:=by omega
 have a2:¬124 < (a:Int):=by omega
 have H2:=hid h2; have HX:=hid hx
 clear hr h hg1 hg2 hv hi hii h2 hx
 have x0:((x:Int) == 0)=false:=by simp; omega
 clear h3
 obtain ⟨A,hA⟩:∃ A:Int,(a:Int)=A:=⟨_,rfl⟩
 rw [hA] at a1 a2
 refine (show Calls _ _ _ _ (DRotPost w k D i' a x) from ?_)
 have HPOST:Hid (∀ e w',(e=.returned (.bool true)/\DiskTo w k w' (D.rotted i' a x) k)->DRotPost w k D i' a x e w'):=hid (by
  rintro e w' ⟨rfl,h⟩
  exact ⟨Zas HK.out.symm,by rw [HK.out,if_pos rfl,Int.toNat_natCast,Int.toNat_natCast]; exact h⟩)
 refine Calls.mono ?_ HPOST.out
 rw [hA]
 have HA:=hid hA
 clear hA
 go_enter Tryz.func121,Tryz.ntmps121
 go_wp2_with (go_at_call 174; refine (Zba H.out sDiskRot i' false).mono ?_; rintro e w' ⟨rfl,rfl⟩; rw [HR.out]; simp only [oErr])
 clear hlook c0 c2
 obtain rfl:=HA.out
 go_loopw [32] (fun v wr=>∃ j:Nat,v=.int .i64 j/\j<=4/\Only (fun b=>b=(k.ss i').blk) w wr/\SecAt wr (k.ss i') (xorTo (D.l.getD i' []) a x j)) (fun v _=>4 - (intOf v).toNat)
 case atStart=>exact ⟨0,rfl,by omega,Only.refl _ _,H.out.sec i' HI.out⟩
 case round =>
  obtain ⟨j,rfl,hj,ho,hs⟩:=hrel
  have h2:=H2.out
  have hps:k.p≠(k.ss i').blk:=H.out.ne (x:=.p) (y:=.sec i') rfl (by simp [DSk.at_,HI.out]) (by simp)
  have hls:k.lb≠(k.ss i').blk:=H.out.ne (x:=.lb) (y:=.sec i') rfl (by simp [DSk.at_,HI.out]) (by simp)
  have c0:=ho.cell H.out.cell0 (show ¬k.p=(k.ss i').blk from hps)
  have c2:=ho.cell H.out.cell2 (show ¬k.p=(k.ss i').blk from hps)
  by_cases hlt:j < 4
  ·
   have cS:=ho.cell (H.out.cellS i' HI.out) (show ¬k.lb=(k.ss i').blk from hls)
   unfold Spot.val at cS
   have cj:=hs.cell (a+j) (by omega)
   have fj:=hs.free (a+j)
   have hby:(xorTo (D.l.getD i' []) a x j).getD (a+j) 0 < 256:=by
    rw [List.getD_eq_getElem?_getD]
    rcases hq:(xorTo (D.l.getD i' []) a x j)[a+j]? with _ | y
    ·
     simp
    ·
     simpa using hs.2.1 y (List.mem_of_getElem? hq)
   obtain ⟨y,hy⟩:∃ y,(xorTo (D.l.getD i' []) a x j).getD (a+j) 0=y:=⟨_,rfl⟩
   obtain ⟨z,hz⟩:∃ z,x / 2 ^ (8*j) % 256=z:=⟨_,rfl⟩
   have HSET:=hid (xorTo_succ (D.l.getD i' []) a x j)
   rw [hy] at cj hby
   have hzb:z < 256:=by rw [<- hz]; exact Nat.mod_lt _ (by omega)
   have hxx:=u8_xor_nat y z hby hzb
   have hze:((x:Int) / 2 ^ (8*j) % 256)=(z:Int):=by
    have e:((2 ^ (8*j):Nat):Int)=(2:Int) ^ (8*j):=by rw [Int.natCast_pow]; rfl
    rw [<- hz,Int.natCast_emod,Int.natCast_ediv,e]; rfl
   have hxb:y ^^^ z < 256:=Nat.xor_lt_two_pow (n:=8) hby hzb
   have HO:=hid ho; have HS:=hid hs; have HY:=hid hy; have HZ:=hid hz
   have I4:Hid (a+j < 128):=hid (by omega)
   have i2:(0:Int)<=(a:Int)+(j:Int):=by omega
   have i3:(a:Int)+(j:Int) < 128:=by omega
   have ww:wrap64 ((a:Int)+(j:Int))=((a+j:Nat):Int):=by unfold wrap64; omega
   clear ho hs hy hz h2
   go_wp2
   go_roundw
   case rel =>
    have h2:=H2.out
    refine ⟨j+1,by go_num,by omega,HO.out.setCell (.inr rfl) _,?_⟩
    rw [HSET.out,HY.out,HZ.out]
    exact HS.out.put _ _ I4.out hxb
   case measure=>simp [intOf]; omega
  ·
   obtain rfl:j=4:=by omega
   have hm:=HG1.out.same (ho.block k.rm HG1.out.lt (H.out.ne (x:=.rm) (y:=.sec i') rfl (by simp [DSk.at_,HI.out]) (by simp)))
   obtain ⟨W2,hrun,hm2,ho2⟩:=hm.run_set (P:=Tryz.prog) (e:=4) Tryz.underlying194 keyI i' (.bool true)
   have HF:=hid (H.out.rotted HI.out (xorTo_four _ a x) ho (by rw [xorTo_four] at hs; exact hs) HG2.out hm2 ho2)
   clear ho hs hm hm2 ho2
   go_wp2
   go_ret
   exact ⟨rfl,HF.out⟩
theorem drot_c {w:World} {k:DSk} {D:Dsk} (h:DiskRep w k D) (i a:Int) (x:Nat) (hx:x < 4294967296) :
  Calls Tryz.prog 121 #[.pointer (some ⟨k.p,0,none⟩),.int .i64 i,.int .i64 a,.int .u32 x] w (DRotPost w k D i a x):=by
 by_cases h1:a < 0
 ·
  obtain ⟨er,hr⟩:=Zcn D sDiskRot i
  exact rot_no1 h i a x h1 hx (Zbr (.inl h1)) hr
 ·
  by_cases h2:124 < a
  ·
   obtain ⟨er,hr⟩:=Zcn D sDiskRot i
   exact rot_no2 h i a x h1 h2 hx (Zbr (.inr (.inl h2))) hr
  ·
   by_cases h3:x=0
   ·
    obtain ⟨er,hr⟩:=Zcn D sDiskRot i
    exact rot_no3 h i a x h1 h2 h3 hx (Zbr (.inr (.inr h3))) hr
   ·
    rcases hr:D.refusedE sDiskRot i false with _ | er
    ·
     obtain ⟨_,_,j,rfl,_⟩:=Zb4 hr
     rcases hrot:D.rot j with _ | _
     ·
      obtain ⟨b,rfl⟩:∃ b:Nat,a=b:=⟨a.toNat,by omega⟩
      exact rot_yes h j b x (by omega) h3 hx hr hrot
     ·
      exact rot_no5 h j a x h1 h2 h3 hx hr hrot
    ·
     exact rot_no4 h i a x h1 h2 h3 hx (rotOk_refused hr) hr
theorem Rck.setD_same {R:Rck} {i:Nat} (hi:i < R.l.length):R.setD (i:Int) (R.dsk i)=R:=by
 unfold Rck.setD Rck.dsk
 have:R.l.set i (R.l.getD i default)=R.l:=by
  apply List.ext_getElem
  ·
   simp
  ·
   intro j h1 h2
   rw [List.getElem_set]
   split
   ·
    rename_i e; subst e; simp [List.getD_eq_getElem?_getD,hi]
   ·
    rfl
 rw [Int.toNat_natCast,this]
set_option maxRecDepth 100000 in
set_option maxHeartbeats 800000 in
theorem rrot_c {w:World} {K:RSk} {R:Rck} (h:RackRep w K R) (i s a:Int) (x:Nat) (hx:x < 4294967296) :
  Calls Tryz.prog 29 #[.pointer (some ⟨K.r,0,none⟩),.int .i64 i,.int .i64 s,.int .i64 a,.int .u32 x] w (RBoolPost w K (R.rotOk i s a x) (R.rot i s a x)):=by
 have H:=hid h
 rcases hh:R.has i with _ | _
 ·
  have HH:=hid hh
  have hk:R.rotOk i s a x=false:=by unfold Rck.rotOk; rw [hh]; rfl
  have HF:Hid (RBoolPost w K (R.rotOk i s a x) (R.rot i s a x) (.returned (.bool false)) w):=hid ⟨Zas hk.symm,K,by unfold Rck.rot; rw [hk]; exact RackTo.refl h⟩
  clear h hh hk
  go_enter Tryz.func29,Tryz.ntmps29
  go_wp2_with (go_at_call 117; refine (Zbm H.out i).mono ?_; rintro e w' ⟨rfl,rfl⟩; rw [HH.out])
  go_ret
  exact HF.out
 ·
  obtain ⟨j,rfl,hj⟩:=h.has_nat hh
  have HH:=hid hh
  have c0:=h.cell0
  have cP:=h.cellP j hj
  have i0:(0:Int)<=(j:Int):=by omega
  have i1:(j:Int) < (K.n:Int):=by omega
  have HD:=hid (h.dskAt hj)
  have HF:Hid (∀ w2,DiskTo w (K.ks j) w2 (if (R.dsk j).rotOk s a x then (R.dsk j).rotted s.toNat a.toNat x else R.dsk j) (K.ks j)->RBoolPost w K (R.rotOk j s a x) (R.rot j s a x) (.returned (.bool ((R.dsk j).rotOk s a x))) w2):=hid fun w2 e3=>by
   have hk:R.rotOk j s a x=(R.dsk j).rotOk s a x:=by unfold Rck.rotOk; rw [hh]; rfl
   have hto:=RackTo.disk h (Only.refl _ w) hj e3
   have e:R.rot j s a x=R.setD j (if (R.dsk j).rotOk s a x then (R.dsk j).rotted s.toNat a.toNat x else R.dsk j):=by
    unfold Rck.rot
    rw [hk]
    split
    ·
     rfl
    ·
     rw [Rck.setD_same (by rw [h.len]; exact hj)]
   rw [<- e] at hto
   exact ⟨Zas hk.symm,_,hto⟩
  have HX:=hid hx
  obtain ⟨b,hb⟩:∃ b,(R.dsk j).rotOk s a x=b:=⟨_,rfl⟩
  have HB:=hid hb
  clear h hh hx hb
  go_enter Tryz.func29,Tryz.ntmps29
  go_wp2_with (first
   | (go_at_call 117; refine (Zbm H.out j).mono ?_; rintro e w' ⟨rfl,rfl⟩; rw [HH.out])
   | (go_at_call 121; refine (drot_c HD.out s a x HX.out).mono ?_; rintro e w2 ⟨rfl,ht2⟩; have HT2:=hid ht2; clear ht2 c0 cP; rw [HB.out]))
  go_ret
  have:=HF.out _ HT2.out
  rw [HB.out] at this
  exact this
theorem at_rot {S:Nat->Prop} {w:World} {r:Nat} {R:Rck} (h:RackAt S w r R) (i s a:Int) (x:Nat) (hx:x < 4294967296) :
  Calls Tryz.prog 29 #[.pointer (some ⟨r,0,none⟩),.int .i64 i,.int .i64 s,.int .i64 a,.int .u32 x] w fun e w'=>e=.returned (.bool (R.rotOk i s a x))/\RackAt S w' r (R.rot i s a x)/\Keeps S w w':=by
 obtain ⟨h0,K,rfl,h2,h3⟩:=h
 refine (rrot_c h2 i s a x hx).mono ?_
 rintro e w' ⟨rfl,K',ht⟩
 exact ⟨rfl,ht.at_ h0 h3⟩
namespace Rck
structure Dim (R:Rck) (n m:Nat):Prop where
 len:R.l.length=n
 sec:∀ d∈R.l,d.l.length=m
namespace Dim
variable {R:Rck} {n m:Nat}
theorem dsk (h:Dim R n m) {j:Nat} (hj:j < n):(R.dsk (j:Int)).l.length=m:=by
 have hj':j < R.l.length:=by rw [h.len]; exact hj
 have e:R.dsk (j:Int)=R.l[j]:=by unfold Rck.dsk; simp [List.getD_eq_getElem?_getD,hj']
 rw [e]; exact h.sec _ (List.getElem_mem hj')
theorem sectors (h:Dim R n m) (h1:1<=n):R.sectors=m:=h.dsk (j:=0) h1
theorem new (n m:Nat):Dim (Rck.new n m) n m:=⟨by simp [Rck.new],fun d hd=>by
 simp only [Rck.new,List.mem_replicate] at hd
 rw [hd.2]; simp [Dsk.new]⟩
theorem of_l {R':Rck} (h:Dim R n m) (e:R'.l=R.l):Dim R' n m:=⟨by rw [e]; exact h.len,by rw [e]; exact h.sec⟩
theorem setD (h:Dim R n m) (i:Int) (D:Dsk) (hD:i.toNat < n->D.l.length=m):Dim (R.setD i D) n m:=⟨by simp [Rck.setD,h.len],fun d hd=>by
 unfold Rck.setD at hd
 by_cases hi:i.toNat < n
 ·
  rcases List.mem_or_eq_of_mem_set hd with q | rfl
  ·
   exact h.sec d q
  ·
   exact hD hi
 ·
  rw [show ({ R with l:=R.l.set i.toNat D }:Rck).l=R.l.set i.toNat D from rfl,List.set_eq_of_length_le (by rw [h.len]; omega)] at hd
  exact h.sec d hd⟩
theorem dskI (h:Dim R n m) {i:Int} (hi:i.toNat < n):(R.dsk i).l.length=m:=by
 have e:R.dsk i=R.dsk (i.toNat:Int):=by unfold Rck.dsk; rw [Int.toNat_natCast]
 rw [e]; exact h.dsk hi
theorem asked (h:Dim R n m) (i:Int) (b:Bool):Dim (R.asked i b) n m:=h.of_l (by
 unfold Rck.asked
 split
 ·
  rfl
 ·
  split
  ·
   rfl
  ·
   split
   ·
    rfl
   ·
    split
    ·
     rfl
    ·
     split<;>rfl)
theorem write (h:Dim R n m) (i s:Int) (b:List Nat):Dim (R.write i s b).2 n m:=by
 unfold Rck.write
 split
 ·
  exact (h.asked _ _).setD i _ fun hi=>h.dskI hi
 ·
  exact h.asked _ _
theorem settle (d:Dsk) (f:Nat->Bool):(d.settle f).l.length=d.l.length:=by simp [Dsk.settle]
theorem flush (h:Dim R n m) (i:Int):Dim (R.flush i).2 n m:=by
 unfold Rck.flush
 split
 ·
  exact (h.asked _ _).setD i _ fun hi=>(settle _ _).trans (h.dskI hi)
 ·
  exact h.asked _ _
theorem arm (h:Dim R n m) (k:Int):Dim (R.arm k) n m:=h.of_l rfl
theorem boot (h:Dim R n m) (bits:List Nat):Dim (R.boot bits) n m:=⟨by simp [Rck.boot,h.len],fun d hd=>by
 unfold Rck.boot at hd
 obtain ⟨i,hi,rfl⟩:=List.mem_map.1 hd
 have hi:=List.mem_range.1 hi
 refine (settle _ _).trans ?_
 have e:R.l.getD i default=R.l[i]:=by simp [List.getD_eq_getElem?_getD,hi]
 rw [e]; exact h.sec _ (List.getElem_mem hi)⟩
theorem die (h:Dim R n m) (i:Int):Dim (R.die i) n m:=by
 unfold Rck.die
 split
 ·
  exact h.setD i _ fun hi=>by have:=h.dskI hi; simpa [Dsk.die,Dsk.blank] using this
 ·
  exact h
theorem replace (h:Dim R n m) (i:Int):Dim (R.replace i) n m:=by
 unfold Rck.replace
 split
 ·
  exact h.setD i _ fun hi=>by have:=h.dskI hi; simpa [Dsk.replace,Dsk.blank] using this
 ·
  exact h
theorem rot (h:Dim R n m) (i s a:Int) (x:Nat):Dim (R.rot i s a x) n m:=by
 unfold Rck.rot
 split
 ·
  exact h.setD i _ fun hi=>by have:=h.dskI hi; simpa [Dsk.rotted] using this
 ·
  exact h
end Dim
end Rck
end Go.Proofs.YtgjnnbomnoafcaaGreatDoor
namespace Go.Proofs.YtgjnnbomnoafcaaGreatDoor
set_option linter.unusedVariables false
open Go Go.RowKit
theorem RackAt.got_ok {S:Nat->Prop} {w:World} {r:Nat} {R:Rck} (h:RackAt S w r R) {i s k sl st:Int} {f:Frm} (hf:R.get i s k sl st=some f):f.Ok:=by
 obtain ⟨_,K,_,h2,_⟩:=h
 unfold Rck.get at hf
 rcases hr:R.read i s with _ | l
 ·
  rw [hr] at hf; cases hf
 ·
  have hr':R.readE i s=none:=by
   unfold Rck.read at hr
   split at hr
   ·
    assumption
   ·
    cases hr
  have hl:l=(R.dsk i).read s.toNat:=by
   unfold Rck.read at hr
   rw [if_pos hr'] at hr
   cases hr; rfl
  rw [hr] at hf
  rcases hg:Frm.get l with _ | g
  ·
   simp only [Option.bind_some,hg] at hf; cases hf
  ·
   simp only [Option.bind_some,hg] at hf
   split at hf
   ·
    cases hf; exact Frm.get_ok (fun x hx=>(h2.bytes hr').2 x (hl▸hx)) hg
   ·
    cases hf
theorem Rck.get_right {R:Rck} {i s k sl st:Int} {f:Frm} (hf:R.get i s k sl st=some f):f.right=true:=by
 unfold Rck.get at hf
 rcases hr:R.read i s with _ | l
 ·
  rw [hr] at hf; cases hf
 ·
  rw [hr] at hf
  rcases hg:Frm.get l with _ | g
  ·
   simp only [Option.bind_some,hg] at hf; cases hf
  ·
   simp only [Option.bind_some,hg] at hf
   split at hf
   ·
    cases hf
    exact (Frm.get_some hg).1
   ·
    cases hf
end Go.Proofs.YtgjnnbomnoafcaaGreatDoor
