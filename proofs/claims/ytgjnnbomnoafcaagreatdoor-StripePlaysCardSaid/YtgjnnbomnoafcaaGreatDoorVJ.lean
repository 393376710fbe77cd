/- Texts of one proof, joined: RfRep, RfRack, Two, RfMid, MapE, RfDiskA, RfDiskB, RfBlank, RfDiskC, RfPure. -/
import Derived.Test.YtgjnnbomnoafcaaGreatDoorVD
import Derived.Test.YtgjnnbomnoafcaaGreatDoorVF
import Derived.WideKeyEntry
import Derived.Test.YtgjnnbomnoafcaaGreatDoorVB
set_option linter.unusedVariables false
set_option linter.unusedSimpArgs false
namespace Go.Proofs.YtgjnnbomnoafcaaGreatDoor
set_option linter.unusedVariables false
open Go Go.RowKit
structure FSk where
 p:Nat
 lb:Nat
 wm:Nat
 rm:Nat
 n:Nat
 ss:Nat->Spot
 wf:Nat->Option Spot
 pad:List Value
namespace FSk
def at_ (k:FSk):Slot->Option Nat
 | .p=>some k.p
 | .lb=>some k.lb
 | .wm=>some k.wm
 | .rm=>some k.rm
 | .sec i=>if i < k.n then some (k.ss i).blk else none
 | .wait i=>(k.wf i).map (·.blk)
def foot (k:FSk) (b:Nat):Prop:=∃ x,k.at_ x=some b
def c (k:FSk):Nat:=k.n+k.pad.length
def arr (k:FSk):Array Value:=((List.range k.n).map (fun i=>(k.ss i).val)++k.pad).toArray
theorem arr_def (k:FSk):k.arr=((List.range k.n).map (fun i=>(k.ss i).val)++k.pad).toArray:=rfl
theorem arr_size (k:FSk):k.arr.size=k.c:=by simp [arr,c]
theorem arr_get (k:FSk) (i:Nat) (h:i < k.n):k.arr[i]?=some (k.ss i).val:=by
 simp only [arr,List.getElem?_toArray]
 rw [List.getElem?_append_left (by simpa using h)]
 simp [h]
end FSk
def fskA (k:FSk) (D:Dsk):Array Value:=#[.slice (some ⟨k.lb,0,none⟩) k.n k.c,.map (some k.wm),.map (some k.rm),.bool D.dead]
structure FRep (w:World) (k:FSk) (D:Dsk):Prop where
 len:D.l.length=k.n
 pos:1<=k.n
 small:k.n<=128
 own:w.heap[k.p]?=some (.cells (fskA k D) 196 (0,0))
 arr:w.heap[k.lb]?=some (.cells k.arr 38 (0,0))
 sec:∀ i,i < k.n->SecAt w (k.ss i) (D.l.getD i [])
 wmap:MapI w k.wm (iKey fun i=>(k.wf i).map Spot.val)
 waitS:∀ i s,k.wf i=some s->i < k.n/\∃ l,D.waits i=some l/\SecAt w s l
 waitN:∀ i,k.wf i=none->D.waits i=none
 rmap:∃ g,MapI w k.rm g/\∀ i:Int,(g i).getD (.bool false)=.bool (decide (0<=i) && D.rot i.toNat)
 inj:∀ x y b,k.at_ x=some b->k.at_ y=some b->x=y
namespace FRep
variable {w w':World} {k:FSk} {D:Dsk}
theorem same (h:FRep w k D) (e:∀ b,k.foot b->w'.heap[b]?=w.heap[b]?):FRep w' k D where
 len:=h.len
 pos:=h.pos
 small:=h.small
 own:=(e _ ⟨.p,rfl⟩).trans h.own
 arr:=(e _ ⟨.lb,rfl⟩).trans h.arr
 sec:=fun i hi=>(h.sec i hi).same (e _ ⟨.sec i,by simp [FSk.at_,hi]⟩)
 wmap:=h.wmap.same (e _ ⟨.wm,rfl⟩)
 waitS:=fun i s hs=>by
  obtain ⟨h1,l,h2,h3⟩:=h.waitS i s hs
  exact ⟨h1,l,h2,h3.same (e _ ⟨.wait i,by simp [FSk.at_,hs]⟩)⟩
 waitN:=h.waitN
 rmap:=by
  obtain ⟨g,h1,h2⟩:=h.rmap
  exact ⟨g,h1.same (e _ ⟨.rm,rfl⟩),h2⟩
 inj:=h.inj
theorem lt (h:FRep w k D) {b:Nat} (hb:k.foot b):b < w.heap.size:=by
 obtain ⟨x,hx⟩:=hb
 cases x with
 | p=>cases hx; exact lt_of_block h.own
 | lb=>cases hx; exact lt_of_block h.arr
 | wm=>cases hx; exact h.wmap.lt
 | rm=>cases hx; obtain ⟨g,h1,_⟩:=h.rmap; exact h1.lt
 | sec i =>
  simp only [FSk.at_] at hx
  split at hx
  ·
   rename_i hi; cases hx; exact (h.sec i hi).lt
  ·
   cases hx
 | wait i =>
  simp only [FSk.at_,Option.map_eq_some_iff] at hx
  obtain ⟨s,hs,rfl⟩:=hx
  obtain ⟨_,l,_,h3⟩:=h.waitS i s hs
  exact h3.lt
theorem only (h:FRep w k D) {F:Nat->Prop} (e:Only F w w') (hn:∀ b,k.foot b->¬F b):FRep w' k D :=
 h.same fun b hb=>e.block b (h.lt hb) (hn b hb)
theorem ext (h:FRep w k D) (e:Ext w w'):FRep w' k D:=h.only e fun _ _ x=>x
theorem ne (h:FRep w k D) {x y:Slot} {a b:Nat} (hx:k.at_ x=some a) (hy:k.at_ y=some b) (hne:x≠y):a≠b:=by
 intro e; subst e; exact hne (h.inj x y a hx hy)
theorem cell0 (h:FRep w k D):w.cell? ⟨k.p,0,none⟩=some (.slice (some ⟨k.lb,0,none⟩) k.n k.c):=Zaf h.own
theorem cell1 (h:FRep w k D):w.cell? ⟨k.p,1,none⟩=some (.map (some k.wm)):=Zaf h.own
theorem cell2 (h:FRep w k D):w.cell? ⟨k.p,2,none⟩=some (.map (some k.rm)):=Zaf h.own
theorem cell3 (h:FRep w k D):w.cell? ⟨k.p,3,none⟩=some (.bool D.dead):=Zaf h.own
theorem cellS (h:FRep w k D) (i:Nat) (hi:i < k.n):w.cell? ⟨k.lb,i,none⟩=some (k.ss i).val:=(Zaf h.arr).trans (k.arr_get i hi)
end FRep
structure FTo (w:World) (k:FSk) (w':World) (D':Dsk) (k':FSk):Prop where
 rep:FRep w' k' D'
 p:k'.p=k.p
 n:k'.n=k.n
 foot:∀ b,k'.foot b->k.foot b\/w.heap.size<=b
 only:Only k.foot w w'
theorem FTo.refl {w:World} {k:FSk} {D:Dsk} (h:FRep w k D):FTo w k w D k:=⟨h,rfl,rfl,fun b hb=>.inl hb,Only.refl _ _⟩
theorem FTo.ext {w w':World} {k:FSk} {D:Dsk} (h:FRep w k D) (e:Ext w w'):FTo w k w' D k:=⟨h.ext e,rfl,rfl,fun b hb=>.inl hb,e.only⟩
theorem FTo.then {w w1 w2:World} {k k1 k2:FSk} {D1 D2:Dsk} (h:FTo w k w1 D1 k1) (h':FTo w1 k1 w2 D2 k2):FTo w k w2 D2 k2 where
 rep:=h'.rep
 p:=h'.p.trans h.p
 n:=h'.n.trans h.n
 foot:=fun b hb=>by
  have:=h.only.size
  rcases h'.foot b hb with h1 | h1
  ·
   rcases h.foot b h1 with h2 | h2
   ·
    exact .inl h2
   ·
    exact .inr h2
  ·
   exact .inr (by omega)
 only:=h.only.trans h'.only fun i hi hf=>by
  rcases h.foot i hf with h2 | h2
  ·
   exact h2
  ·
   omega
def FSk.wv (k:FSk) (i:Int):Option Value:=iKey (fun i=>(k.wf i).map Spot.val) i
theorem FSk.wv_some {k:FSk} {i:Nat} {s:Spot} (h:k.wf i=some s):k.wv i=some s.val:=by simp [FSk.wv,iKey,h]
theorem FSk.wv_none {k:FSk} {i:Nat} (h:k.wf i=none):k.wv i=none:=by simp [FSk.wv,iKey,h]
theorem FRep.waits_ok {w:World} {k:FSk} {D:Dsk} (h:FRep w k D) (i:Int) :
  (Instr.lookup 193 (.map (some k.wm)) (.int .i64 i) true).run Tryz.prog w=.ok (.tuple #[(k.wv i).getD (.slice none 0 0),.bool (k.wv i).isSome]) w :=
 h.wmap.run_look Tryz.underlying193 keyI (zeroS w) i true
theorem FRep.rot_v {w:World} {k:FSk} {D:Dsk} (h:FRep w k D) (i:Int) :
  (Instr.lookup 194 (.map (some k.rm)) (.int .i64 i) false).run Tryz.prog w=.ok (.bool (decide (0<=i) && D.rot i.toNat)) w:=by
 obtain ⟨g,h1,h2⟩:=h.rmap
 have:=h1.run_look (P:=Tryz.prog) Tryz.underlying194 keyI (zeroB w) i false
 rw [h2] at this
 exact this
theorem FRep.written {w W W':World} {k:FSk} {D:Dsk} (h:FRep w k D) {i:Nat} (hi:i < k.n) {s:Spot} {l:List Nat} (hx:Ext w W) (hs:SecAt W s l) (hnew:w.heap.size<=s.blk)
  (hm:MapI W' k.wm (fun j=>if j=(i:Int) then some s.val else k.wv j)) (ho:Only (fun b=>b=k.wm) W W') :
  FTo w k W' (D.write i l) { k with wf:=fun j=>if j=i then some s else k.wf j }:=by
 have hW:=h.ext hx
 have hkeep:∀ b,b≠k.wm->b < W.heap.size->W'.heap[b]?=W.heap[b]?:=fun b hb hl=>ho.block b hl hb
 have hnot:∀ x b,k.at_ x=some b->x≠.wm->W'.heap[b]?=W.heap[b]?:=fun x b hb hne=>hkeep b (fun e=>hne (h.inj x .wm b hb (by rw [e]; rfl))) (hW.lt ⟨x,hb⟩)
 have hold:∀ x b,k.at_ x=some b->b≠s.blk:=fun x b hb=>by have:=h.lt ⟨x,hb⟩; omega
 refine ⟨⟨h.len,h.pos,h.small,?_,?_,?_,?_,?_,?_,?_,?_⟩,rfl,rfl,?_,?_⟩
 ·
  exact (hnot .p _ rfl (by simp)).trans hW.own
 ·
  exact (hnot .lb _ rfl (by simp)).trans hW.arr
 ·
  intro j hj
  exact (hW.sec j hj).same (hnot (.sec j) _ (by simp [FSk.at_,show j < k.n from hj]) (by simp))
 ·
  have e:(iKey fun j=>((if j=i then some s else k.wf j).map Spot.val))=fun j:Int=>if j=(i:Int) then some s.val else k.wv j:=by
   funext j
   unfold iKey FSk.wv iKey
   by_cases hj:0<=j
   ·
    simp only [hj,if_true]
    by_cases hji:j=(i:Int)
    ·
     subst hji; simp
    ·
     have:j.toNat≠i:=by omega
     simp [this,hji]
   ·
    have:j≠(i:Int):=by omega
    simp [hj,this]
  show MapI W' k.wm (iKey fun j=>((if j=i then some s else k.wf j).map Spot.val))
  rw [e]; exact hm
 ·
  intro j t ht
  by_cases hj:j=i
  ·
   subst hj
   simp only [if_true,Option.some.injEq] at ht
   subst ht
   refine ⟨hi,l,by simp [Dsk.write],hs.same (hkeep _ (fun e=>?_) hs.lt)⟩
   exact hold .wm _ rfl e.symm
  ·
   simp only [hj,if_false] at ht
   obtain ⟨h1,l',h2,h3⟩:=hW.waitS j t ht
   exact ⟨h1,l',by simp [Dsk.write,hj,h2],h3.same (hnot (.wait j) _ (by simp [FSk.at_,ht]) (by simp))⟩
 ·
  intro j hj
  by_cases hji:j=i
  ·
   simp [hji] at hj
  ·
   simp only [hji,if_false] at hj
   simp [Dsk.write,hji,h.waitN j hj]
 ·
  obtain ⟨g,h1,h2⟩:=hW.rmap
  exact ⟨g,h1.same (hnot .rm _ rfl (by simp)),h2⟩
 ·
  have key:∀ x b,({ k with wf:=fun j=>if j=i then some s else k.wf j }:FSk).at_ x=some b->(x=.wait i/\b=s.blk)\/k.at_ x=some b:=by
   intro x b hb
   cases x with
   | wait j =>
    by_cases hj:j=i
    ·
     subst hj; simp [FSk.at_] at hb; exact .inl ⟨rfl,hb.symm⟩
    ·
     simp [FSk.at_,hj] at hb; exact .inr (by simpa [FSk.at_] using hb)
   | _=>exact .inr hb
  intro x y b hx' hy'
  rcases key x b hx' with ⟨h1,h2⟩ | h1
  ·
   rcases key y b hy' with ⟨h3,h4⟩ | h3
   ·
    rw [h1,h3]
   ·
    exact absurd h2 (hold y b h3)
  ·
   rcases key y b hy' with ⟨h3,h4⟩ | h3
   ·
    exact absurd h4 (hold x b h1)
   ·
    exact h.inj x y b h1 h3
 ·
  intro b ⟨x,hb⟩
  cases x with
  | wait j =>
   by_cases hj:j=i
   ·
    subst hj; simp [FSk.at_] at hb; exact .inr (by omega)
   ·
    simp [FSk.at_,hj] at hb; exact .inl ⟨.wait j,by simpa [FSk.at_] using hb⟩
  | p=>exact .inl ⟨.p,hb⟩
  | lb=>exact .inl ⟨.lb,hb⟩
  | wm=>exact .inl ⟨.wm,hb⟩
  | rm=>exact .inl ⟨.rm,hb⟩
  | sec j=>exact .inl ⟨.sec j,hb⟩
 ·
  refine hx.only.trans (ho.mono (G:=k.foot) fun b _ hb=>⟨.wm,by rw [hb]; rfl⟩) fun _ _ x=>x
end Go.Proofs.YtgjnnbomnoafcaaGreatDoor
namespace Go.Proofs.YtgjnnbomnoafcaaGreatDoor
set_option linter.unusedVariables false
open Go Go.RowKit
structure FRSk where
 r:Nat
 lb:Nat
 cap:Nat
 n:Nat
 m:Nat
 f:Int
 ks:Nat->FSk
namespace FRSk
def foot (K:FRSk) (b:Nat):Prop:=b=K.r\/b=K.lb\/∃ i,i < K.n/\(K.ks i).foot b
def ptr (K:FRSk) (i:Nat):Value:=.pointer (some ⟨(K.ks i).p,0,none⟩)
def ptrs (K:FRSk):List Value:=(List.range K.n).map K.ptr
theorem ptrs_get (K:FRSk) (i:Nat) (h:i < K.n):K.ptrs[i]?=some (K.ptr i):=by simp [ptrs,h]
def val (K:FRSk):Value:=.slice (some ⟨K.lb,0,none⟩) K.n K.cap
end FRSk
def frckA (K:FRSk) (R:Rck):Array Value:=#[K.val,.int .i64 K.f,.bool R.off]
structure FRackRep (w:World) (K:FRSk) (R:Rck):Prop where
 len:R.l.length=K.n
 pos:1<=K.n
 small:K.n<=8
 own:w.heap[K.r]?=some (.cells (frckA K R) 54 (0,0))
 arr:w.ownsRow 0 55 1 K.val K.n K.ptrs
 dsk:∀ i,i < K.n->FRep w (K.ks i) (R.l.getD i default)
 secs:∀ i,i < K.n->(K.ks i).n=K.m
 fuse:-1<=K.f/\K.f<=9223372036854775807
 live:R.off=false->K.f=R.fuse
 one:∀ i j b,i < K.n->j < K.n->(K.ks i).foot b->(K.ks j).foot b->i=j
 far:∀ i b,i < K.n->(K.ks i).foot b->b≠K.r/\b≠K.lb
 two:K.r≠K.lb
namespace FRackRep
variable {w w':World} {K:FRSk} {R:Rck}
theorem arrAt (h:FRackRep w K R):∃ cur,w.heap[K.lb]?=some (.cells cur 55 (0,0))/\∀ i,i < K.n->cur[i]?=some (K.ptr i):=by
 rcases h.arr.2 with ⟨h1,_⟩ | ⟨g,cap,cur,h1,_,h2,h3,h4,h5,h6⟩
 ·
  cases h1
 ·
  unfold FRSk.val at h1
  cases h1
  refine ⟨cur,h2,fun i hi=>?_⟩
  have:=K.ptrs_get i hi
  rw [<- h6,List.getElem?_take,if_pos (by omega),Array.getElem?_toList] at this
  exact this
theorem same (h:FRackRep w K R) (e:∀ b,K.foot b->w'.heap[b]?=w.heap[b]?):FRackRep w' K R where
 len:=h.len
 pos:=h.pos
 small:=h.small
 own:=(e _ (.inl rfl)).trans h.own
 arr:=by
  refine ⟨h.arr.1,?_⟩
  rcases h.arr.2 with h' | ⟨g,c,cur,h1,h2,h3,h4⟩
  ·
   exact .inl h'
  ·
   have:=h1; unfold FRSk.val at this; cases this
   exact .inr ⟨K.lb,_,cur,rfl,Nat.zero_le _,(e _ (.inr (.inl rfl))).trans h3,h4⟩
 dsk:=fun i hi=>(h.dsk i hi).same fun b hb=>e b (.inr (.inr ⟨i,hi,hb⟩))
 secs:=h.secs
 fuse:=h.fuse
 live:=h.live
 one:=h.one
 far:=h.far
 two:=h.two
theorem lt (h:FRackRep w K R) {b:Nat} (hb:K.foot b):b < w.heap.size:=by
 rcases hb with rfl | rfl | ⟨i,hi,hb⟩
 ·
  exact lt_of_block h.own
 ·
  obtain ⟨cur,h1,_⟩:=h.arrAt; exact lt_of_block h1
 ·
  exact (h.dsk i hi).lt hb
theorem only (h:FRackRep w K R) {F:Nat->Prop} (e:Only F w w') (hn:∀ b,K.foot b->¬F b):FRackRep w' K R :=
 h.same fun b hb=>e.block b (h.lt hb) (hn b hb)
theorem ext (h:FRackRep w K R) (e:Ext w w'):FRackRep w' K R:=h.only e fun _ _ x=>x
theorem cell0 (h:FRackRep w K R):w.cell? ⟨K.r,0,none⟩=some (.slice (some ⟨K.lb,0,none⟩) K.n K.cap):=Zaf h.own
theorem cell1 (h:FRackRep w K R):w.cell? ⟨K.r,2,none⟩=some (.bool R.off):=Zaf h.own
theorem cell2 (h:FRackRep w K R):w.cell? ⟨K.r,1,none⟩=some (.int .i64 K.f):=Zaf h.own
theorem cellP (h:FRackRep w K R) (i:Nat) (hi:i < K.n):w.cell? ⟨K.lb,i,none⟩=some (.pointer (some ⟨(K.ks i).p,0,none⟩)):=by
 obtain ⟨cur,h1,h2⟩:=h.arrAt
 exact (Zaf h1).trans (h2 i hi)
def upd (K:FRSk) (i:Nat) (k':FSk):FRSk:={ K with ks:=fun j=>if j=i then k' else K.ks j }
theorem to (h:FRackRep w K R) {i:Nat} (hi:i < K.n) {D':Dsk} {k':FSk} (t:FTo w (K.ks i) w' D' k'):FRackRep w' (upd K i k') { R with l:=R.l.set i D' }:=by
 have hnot:∀ b,b < w.heap.size->¬(K.ks i).foot b->w'.heap[b]?=w.heap[b]?:=fun b hb hn=>t.only.block b hb hn
 have hother:∀ j,j < K.n->j≠i->∀ b,(K.ks j).foot b->w'.heap[b]?=w.heap[b]?:=fun j hj hne b hb=>hnot b ((h.dsk j hj).lt hb) (fun hf=>hne (h.one j i b hj hi hb hf))
 have hptr:∀ j,(upd K i k').ptr j=K.ptr j:=fun j=>by
  unfold FRSk.ptr upd
  by_cases hj:j=i
  ·
   subst hj; simp [t.p]
  ·
   simp [hj]
 have hptrs:(upd K i k').ptrs=K.ptrs:=by unfold FRSk.ptrs; exact List.map_congr_left fun j _=>hptr j
 have hfar:∀ j b,j < K.n->((upd K i k').ks j).foot b->(K.ks j).foot b\/(j=i/\w.heap.size<=b):=fun j b hj hb=>by
  unfold upd at hb
  by_cases hji:j=i
  ·
   subst hji
   simp only [if_true] at hb
   rcases t.foot b hb with h1 | h1
   ·
    exact .inl h1
   ·
    exact .inr ⟨rfl,h1⟩
  ·
   simp only [hji,if_false] at hb; exact .inl hb
 have hr:=h.lt (b:=K.r) (.inl rfl)
 have hlb:=h.lt (b:=K.lb) (.inr (.inl rfl))
 refine ⟨by simp [upd,h.len],h.pos,h.small,?_,?_,?_,?_,h.fuse,h.live,?_,?_,h.two⟩
 ·
  exact (hnot K.r hr (fun hf=>(h.far i _ hi hf).1 rfl)).trans h.own
 ·
  have e:=hnot K.lb hlb (fun hf=>(h.far i _ hi hf).2 rfl)
  rw [hptrs]
  refine ⟨h.arr.1,?_⟩
  rcases h.arr.2 with h' | ⟨g,c,cur,h1,h2,h3,h4⟩
  ·
   exact .inl h'
  ·
   have:=h1; unfold FRSk.val at this; cases this
   exact .inr ⟨K.lb,_,cur,rfl,Nat.zero_le _,e.trans h3,h4⟩
 ·
  intro j hj
  by_cases hji:j=i
  ·
   subst hji
   have:(R.l.set j D').getD j default=D':=by simp [List.getD_eq_getElem?_getD,h.len,show j < K.n from hj]
   show FRep w' (if j=j then k' else K.ks j) _
   rw [if_pos rfl,this]; exact t.rep
  ·
   have:(R.l.set i D').getD j default=R.l.getD j default:=by simp [List.getD_eq_getElem?_getD,List.getElem?_set_ne (Ne.symm hji)]
   show FRep w' (if j=i then k' else K.ks j) _
   rw [if_neg hji,this]; exact (h.dsk j hj).same fun b hb=>hother j hj hji b hb
 ·
  intro j hj
  show (if j=i then k' else K.ks j).n=K.m
  by_cases hji:j=i
  ·
   subst hji; rw [if_pos rfl,t.n]; exact h.secs j hj
  ·
   rw [if_neg hji]; exact h.secs j hj
 ·
  intro j l b hj hl hb hb'
  rcases hfar j b hj hb with h1 | ⟨h1,h2⟩
  ·
   rcases hfar l b hl hb' with h3 | ⟨h3,h4⟩
   ·
    exact h.one j l b hj hl h1 h3
   ·
    have:=(h.dsk j hj).lt h1; omega
  ·
   rcases hfar l b hl hb' with h3 | ⟨h3,h4⟩
   ·
    have:=(h.dsk l hl).lt h3; omega
   ·
    rw [h1,h3]
 ·
  intro j b hj hb
  rcases hfar j b hj hb with h1 | ⟨_,h2⟩
  ·
   exact h.far j b hj h1
  ·
   show b≠K.r/\b≠K.lb
   omega
theorem to_foot (h:FRackRep w K R) {i:Nat} (hi:i < K.n) {D':Dsk} {k':FSk} (t:FTo w (K.ks i) w' D' k'):∀ b,(upd K i k').foot b->K.foot b\/w.heap.size<=b:=by
 intro b hb
 rcases hb with h1 | h1 | ⟨j,hj,hb⟩
 ·
  exact .inl (.inl h1)
 ·
  exact .inl (.inr (.inl h1))
 ·
  unfold upd at hb
  by_cases hji:j=i
  ·
   subst hji
   simp only [if_true] at hb
   rcases t.foot b hb with h1 | h1
   ·
    exact .inl (.inr (.inr ⟨j,hj,h1⟩))
   ·
    exact .inr h1
  ·
   simp only [hji,if_false] at hb; exact .inl (.inr (.inr ⟨j,hj,hb⟩))
end FRackRep
structure FRackAt (S:Nat->Prop) (w:World) (r:Nat) (R:Rck):Prop where
 there:∀ b,S b->b < w.heap.size
 rep:∃ K:FRSk,K.r=r/\FRackRep w K R/\∀ b,K.foot b->¬S b
theorem FRackAt.only {S F:Nat->Prop} {w w':World} {r:Nat} {R:Rck} (h:FRackAt S w r R) (e:Only F w w') (hF:∀ b,F b->S b):FRackAt S w' r R:=by
 obtain ⟨h0,K,h1,h2,h3⟩:=h
 exact ⟨fun b hb=>Nat.lt_of_lt_of_le (h0 b hb) e.size,K,h1,h2.only e fun b hb hf=>h3 b hb (hF b hf),h3⟩
theorem FRackAt.ext {S:Nat->Prop} {w w':World} {r:Nat} {R:Rck} (h:FRackAt S w r R) (e:Ext w w'):FRackAt S w' r R:=h.only e fun _ x=>x.elim
theorem FRackAt.more {S T:Nat->Prop} {w w':World} {r:Nat} {R:Rck} (h:FRackAt S w r R) (e:Ext w w') (hT:∀ b,T b->b < w'.heap.size/\(S b\/w.heap.size<=b)):FRackAt T w' r R:=by
 obtain ⟨h0,K,h1,h2,h3⟩:=h
 refine ⟨fun b hb=>(hT b hb).1,K,h1,h2.ext e,fun b hb ht=>?_⟩
 rcases (hT b ht).2 with h4 | h4
 ·
  exact h3 b hb h4
 ·
  have:=h2.lt hb; omega
theorem FRackAt.less {S T:Nat->Prop} {w:World} {r:Nat} {R:Rck} (h:FRackAt S w r R) (hT:∀ b,T b->S b):FRackAt T w r R:=by
 obtain ⟨h0,K,h1,h2,h3⟩:=h
 exact ⟨fun b hb=>h0 b (hT b hb),K,h1,h2,fun b hb ht=>h3 b hb (hT b ht)⟩
theorem FRackAt.into {S:Nat->Prop} {w w':World} {K K':FRSk} {R':Rck} (h0:∀ b,S b->b < w.heap.size) (h3:∀ b,K.foot b->¬S b) (hr:K'.r=K.r) (h:FRackRep w' K' R') (hf:∀ b,K'.foot b->K.foot b\/w.heap.size<=b) (e:Only K.foot w w') :
  FRackAt S w' K.r R'/\Keeps S w w' :=
 ⟨⟨fun b hb=>Nat.lt_of_lt_of_le (h0 b hb) e.size,K',hr,h,fun b hb hs=>by
  rcases hf b hb with h1 | h1
  ·
   exact h3 b h1 hs
  ·
   have:=h0 b hs; omega⟩,e.mono fun b _ hb=>h3 b hb⟩
end Go.Proofs.YtgjnnbomnoafcaaGreatDoor
namespace Go.Proofs.YtgjnnbomnoafcaaGreatDoor
set_option linter.unusedVariables false
open Go Go.RowKit
structure TwoAt (S:Nat->Prop) (w:World) (r q:Nat) (R R':Rck):Prop where
 there:∀ b,S b->b < w.heap.size
 ex:∃ (K:RSk) (K':FRSk),K.r=r/\K'.r=q/\RackRep w K R/\FRackRep w K' R'/\(∀ b,K.foot b->¬S b/\¬K'.foot b)/\∀ b,K'.foot b->¬S b
namespace TwoAt
variable {S:Nat->Prop} {w w':World} {r q:Nat} {R R':Rck}
theorem left (h:TwoAt S w r q R R'):∃ T:Nat->Prop,(∀ b,S b->T b)/\RackAt T w r R/\∀ w' R1,RackAt T w' r R1->Keeps T w w'->TwoAt S w' r q R1 R'/\Keeps S w w':=by
 obtain ⟨h0,K,K',rfl,rfl,h1,h2,h3,h4⟩:=h
 refine ⟨fun b=>S b\/K'.foot b,fun b=>.inl,⟨fun b hb=>?_,K,rfl,h1,fun b hb ht=>?_⟩,fun w' R1 hr k=>⟨⟨fun b hb=>Nat.lt_of_lt_of_le (h0 b hb) k.size,?_⟩,k.mono fun b _ hn hs=>hn (.inl hs)⟩⟩
 ·
  rcases hb with hb | hb
  ·
   exact h0 b hb
  ·
   exact h2.lt hb
 ·
  rcases ht with ht | ht
  ·
   exact (h3 b hb).1 ht
  ·
   exact (h3 b hb).2 ht
 ·
  obtain ⟨_,K1,e1,g1,g2⟩:=hr
  refine ⟨K1,K',e1,rfl,g1,h2.only k fun b hb hn=>hn (.inr hb),fun b hb=>⟨fun hs=>g2 b hb (.inl hs),fun hs=>g2 b hb (.inr hs)⟩,h4⟩
theorem right (h:TwoAt S w r q R R'):∃ T:Nat->Prop,(∀ b,S b->T b)/\FRackAt T w q R'/\∀ w' R1,FRackAt T w' q R1->Keeps T w w'->TwoAt S w' r q R R1/\Keeps S w w':=by
 obtain ⟨h0,K,K',rfl,rfl,h1,h2,h3,h4⟩:=h
 refine ⟨fun b=>S b\/K.foot b,fun b=>.inl,⟨fun b hb=>?_,K',rfl,h2,fun b hb ht=>?_⟩,fun w' R1 hr k=>⟨⟨fun b hb=>Nat.lt_of_lt_of_le (h0 b hb) k.size,?_⟩,k.mono fun b _ hn hs=>hn (.inl hs)⟩⟩
 ·
  rcases hb with hb | hb
  ·
   exact h0 b hb
  ·
   exact h1.lt hb
 ·
  rcases ht with ht | ht
  ·
   exact h4 b hb ht
  ·
   exact (h3 b ht).2 hb
 ·
  obtain ⟨_,K1,e1,g1,g2⟩:=hr
  refine ⟨K,K1,rfl,e1,h1.only k fun b hb hn=>hn (.inr hb),g1,fun b hb=>⟨(h3 b hb).1,fun hs=>g2 b hs (.inr hb)⟩,fun b hb hs=>g2 b hb (.inl hs)⟩
theorem only {F:Nat->Prop} (h:TwoAt S w r q R R') (e:Only F w w') (hF:∀ b,F b->S b):TwoAt S w' r q R R':=by
 obtain ⟨h0,K,K',e1,e2,h1,h2,h3,h4⟩:=h
 exact ⟨fun b hb=>Nat.lt_of_lt_of_le (h0 b hb) e.size,K,K',e1,e2,h1.only e fun b hb hf=>(h3 b hb).1 (hF b hf),h2.only e fun b hb hf=>h4 b hb (hF b hf),h3,h4⟩
theorem ext (h:TwoAt S w r q R R') (e:Ext w w'):TwoAt S w' r q R R':=h.only e fun _ x=>x.elim
theorem more {T:Nat->Prop} (h:TwoAt S w r q R R') (e:Ext w w') (hT:∀ b,T b->b < w'.heap.size/\(S b\/w.heap.size<=b)):TwoAt T w' r q R R':=by
 obtain ⟨h0,K,K',e1,e2,h1,h2,h3,h4⟩:=h
 have k1:∀ b,K.foot b->¬T b:=fun b hb ht=>by
  rcases (hT b ht).2 with q | q
  ·
   exact (h3 b hb).1 q
  ·
   have:=h1.lt hb; omega
 have k2:∀ b,K'.foot b->¬T b:=fun b hb ht=>by
  rcases (hT b ht).2 with q | q
  ·
   exact h4 b hb q
  ·
   have:=h2.lt hb; omega
 exact ⟨fun b hb=>(hT b hb).1,K,K',e1,e2,h1.ext e,h2.ext e,fun b hb=>⟨k1 b hb,(h3 b hb).2⟩,k2⟩
theorem ract (h:TwoAt S w r q R R'):RackAt S w r R:=by
 obtain ⟨h0,K,K',e1,e2,h1,h2,h3,h4⟩:=h
 exact ⟨h0,K,e1,h1,fun b hb=>(h3 b hb).1⟩
theorem fact (h:TwoAt S w r q R R'):FRackAt S w q R':=by
 obtain ⟨h0,K,K',e1,e2,h1,h2,h3,h4⟩:=h
 exact ⟨h0,K',e2,h2,h4⟩
theorem made {T:Nat->Prop} (h0:RackAt S w r R) (h1:FRackAt T w' q R') (e:Ext w w') (hT:∀ b,b < w.heap.size->T b) (hS:∀ b,S b->b < w.heap.size):TwoAt S w' r q R R':=by
 obtain ⟨a0,K,e1,k1,k2⟩:=h0
 obtain ⟨b0,K',e2,q1,q2⟩:=h1
 exact ⟨fun b hb=>Nat.lt_of_lt_of_le (a0 b hb) e.size,K,K',e1,e2,k1.ext e,q1,fun b hb=>⟨k2 b hb,fun hf=>q2 b hf (hT b (k1.lt hb))⟩,fun b hb hs=>q2 b hb (hT b (hS b hs))⟩
end TwoAt
end Go.Proofs.YtgjnnbomnoafcaaGreatDoor
namespace Go.Proofs.YtgjnnbomnoafcaaGreatDoor
set_option linter.unusedVariables false
open Go Go.RowKit
structure FMid (w0 w:World) (k:FSk) (D:Dsk) (dn:Nat->Bool):Prop where
 only:Only (fun b=>b=k.lb\/b=k.rm) w0 w
 arr:w.heap[k.lb]?=some (.cells ((List.range k.n).map (fun i=>(if dn i then (k.wf i).getD (k.ss i) else k.ss i).val)++k.pad).toArray 38 (0,0))
 rmap:∃ g,MapI w k.rm g/\∀ i:Int,(g i).getD (.bool false)=.bool (decide (0<=i) && (if dn i.toNat && (D.waits i.toNat).isSome then false else D.rot i.toNat))
namespace FMid
variable {w0 w w':World} {k:FSk} {D:Dsk} {dn:Nat->Bool}
theorem start (h:FRep w0 k D):FMid w0 w0 k D fun _=>false:=⟨Only.refl _ _,h.arr,by obtain ⟨g,h1,h2⟩:=h.rmap; exact ⟨g,h1,fun i=>by simpa using h2 i⟩⟩
theorem ext (h0:FRep w0 k D) (h:FMid w0 w k D dn) (e:Ext w w'):FMid w0 w' k D dn :=
 ⟨Only.ext h.only e,e.at h.arr,by obtain ⟨g,h1,h2⟩:=h.rmap; exact ⟨g,h1.same (e.block _ h1.lt (fun x=>x)),h2⟩⟩
theorem congr {dn':Nat->Bool} (h0:FRep w0 k D) (h:FMid w0 w k D dn) (e:∀ i,(k.wf i).isSome=true->dn i=dn' i):FMid w0 w k D dn':=by
 have h1:∀ i,(if dn i then (k.wf i).getD (k.ss i) else k.ss i)=if dn' i then (k.wf i).getD (k.ss i) else k.ss i:=fun i=>by
  rcases hw:k.wf i with _ | s
  ·
   simp
  ·
   rw [e i (by rw [hw]; rfl)]
 refine ⟨h.only,?_,?_⟩
 ·
  simp only [<- h1]; exact h.arr
 ·
  obtain ⟨g,h2,h3⟩:=h.rmap
  refine ⟨g,h2,fun i=>?_⟩
  rw [h3 i]
  rcases hw:k.wf i.toNat with _ | s
  ·
   rw [h0.waitN _ hw]; simp
  ·
   rw [e i.toNat (by rw [hw]; rfl)]
theorem at_ (h0:FRep w0 k D) (h:FMid w0 w k D dn) (x:Slot) (b:Nat) (hx:k.at_ x=some b) (h1:x≠.lb) (h2:x≠.rm):w.heap[b]?=w0.heap[b]? :=
 h.only.block b (h0.lt ⟨x,hx⟩) fun e=>by
  rcases e with e | e
  ·
   exact h1 (h0.inj x .lb b hx (by rw [e]; rfl))
  ·
   exact h2 (h0.inj x .rm b hx (by rw [e]; rfl))
theorem cell0 (h0:FRep w0 k D) (h:FMid w0 w k D dn):w.cell? ⟨k.p,0,none⟩=some (.slice (some ⟨k.lb,0,none⟩) k.n k.c):=Zaf ((h.at_ h0 .p _ rfl (by simp) (by simp)).trans h0.own)
theorem cell1 (h0:FRep w0 k D) (h:FMid w0 w k D dn):w.cell? ⟨k.p,1,none⟩=some (.map (some k.wm)):=Zaf ((h.at_ h0 .p _ rfl (by simp) (by simp)).trans h0.own)
theorem cell2 (h0:FRep w0 k D) (h:FMid w0 w k D dn):w.cell? ⟨k.p,2,none⟩=some (.map (some k.rm)):=Zaf ((h.at_ h0 .p _ rfl (by simp) (by simp)).trans h0.own)
theorem wmap (h0:FRep w0 k D) (h:FMid w0 w k D dn):MapI w k.wm (iKey fun i=>(k.wf i).map Spot.val):=h0.wmap.same (h.at_ h0 .wm _ rfl (by simp) (by simp))
theorem lbrm (h0:FRep w0 k D):k.lb≠k.rm:=h0.ne (x:=.lb) (y:=.rm) rfl rfl (by simp)
theorem plb (h0:FRep w0 k D):k.p≠k.lb:=h0.ne (x:=.p) (y:=.lb) rfl rfl (by simp)
theorem prm (h0:FRep w0 k D):k.p≠k.rm:=h0.ne (x:=.p) (y:=.rm) rfl rfl (by simp)
theorem put (h0:FRep w0 k D) (h:FMid w0 w k D dn) {W W':World} (hx:Ext w W) {i:Nat} (hi:i < k.n) {s:Spot} (hs:k.wf i=some s)
  {g:Int->Option Value} (h2:∀ i:Int,(g i).getD (.bool false)=.bool (decide (0<=i) && (if dn i.toNat && (D.waits i.toNat).isSome then false else D.rot i.toNat))) (hm:MapI W' k.rm fun j=>if j=(i:Int) then some (.bool false) else g j) (ho:Only (fun b=>b=k.rm) (W.setCell ⟨k.lb,i,none⟩ s.val) W') :
  FMid w0 W' k D fun j=>dn j || j == i:=by
 have hW:=h.ext h0 hx
 have hO:Only (fun b=>b=k.lb\/b=k.rm) w0 (W.setCell ⟨k.lb,i,none⟩ s.val):=hW.only.setCell (.inr (.inl rfl)) s.val
 refine ⟨hO.trans (ho.mono (G:=fun b=>b=k.lb\/b=k.rm) fun b _ e=>.inr e) fun _ _ x=>x,?_,?_⟩
 ·
  have e1:(W.setCell ⟨k.lb,i,none⟩ s.val).heap[k.lb]?=some (.cells ((List.range k.n).map (fun j=>(if dn j || j == i then (k.wf j).getD (k.ss j) else k.ss j).val)++k.pad).toArray 38 (0,0)):=by
   rw [Zar hW.arr]
   congr 2
   apply Array.ext'
   rw [List.setIfInBounds_toArray,List.set_append_left _ _ (by simpa using hi)]
   show List.set (List.map _ _) i _++k.pad=List.map _ _++k.pad
   congr 1
   apply List.ext_getElem?
   intro j
   simp only [List.getElem?_set,List.getElem?_map,List.length_map,List.length_range]
   by_cases hj:i=j
   ·
    subst hj; simp [hi,hs]
   ·
    by_cases hjn:j < k.n
    ·
     simp [hj,hjn,Ne.symm hj]
    ·
     simp [hj,hjn]
  exact (ho.block k.lb (lt_of_block e1) (lbrm h0)).trans e1
 ·
  refine ⟨_,hm,fun j=>?_⟩
  by_cases hj:j=(i:Int)
  ·
   subst hj
   obtain ⟨_,l,hl,_⟩:=h0.waitS i s hs
   simp [hl]
  ·
   simp only [hj,if_false]
   rw [h2 j]
   by_cases hj0:0<=j
   ·
    have:(j.toNat == i)=false:=by simp; omega
    simp [this]
   ·
    have:decide (0<=j)=false:=by simp; omega
    rw [this,Bool.false_and,Bool.false_and]
end FMid
def FSk.settled (k:FSk) (dn:Nat->Bool) (b:Nat):FSk:={ k with wm:=b,ss:=fun i=>if dn i then (k.wf i).getD (k.ss i) else k.ss i,wf:=fun _=>none }
def fphi (k:FSk) (dn:Nat->Bool):Slot->Slot
 | .sec i=>if dn i && (k.wf i).isSome then .wait i else .sec i
 | x=>x
theorem fphi_at {k:FSk} {dn:Nat->Bool} {b c:Nat} {x:Slot} (hx:(k.settled dn b).at_ x=some c) (hne:x≠.wm):k.at_ (fphi k dn x)=some c:=by
 cases x with
 | wm=>exact absurd rfl hne
 | sec i =>
  have hx:(if i < k.n then some ((if dn i then (k.wf i).getD (k.ss i) else k.ss i):Spot).blk else none)=some c:=hx
  by_cases hi:i < k.n
  ·
   rw [if_pos hi] at hx
   cases hd:dn i
   ·
    have hp:fphi k dn (.sec i)=.sec i:=by simp [fphi,hd]
    simp [hd] at hx
    rw [hp]; simp [FSk.at_,hi,hx]
   ·
    rcases hw:k.wf i with _ | s
    ·
     have hp:fphi k dn (.sec i)=.sec i:=by simp [fphi,hd,hw]
     simp [hd,hw] at hx
     rw [hp]; simp [FSk.at_,hi,hx]
    ·
     have hp:fphi k dn (.sec i)=.wait i:=by simp [fphi,hd,hw]
     simp [hd,hw] at hx
     rw [hp]; simp [FSk.at_,hw,hx]
  ·
   rw [if_neg hi] at hx; cases hx
 | wait i=>simp [FSk.settled,FSk.at_] at hx
 | _=>exact hx
theorem fphi_inj {k:FSk} {dn:Nat->Bool} {x y:Slot} (h:fphi k dn x=fphi k dn y) (hx:∀ i,x≠.wait i) (hy:∀ i,y≠.wait i):x=y:=by
 cases x with
 | wait i=>exact absurd rfl (hx i)
 | sec i =>
  cases y with
  | wait j=>exact absurd rfl (hy j)
  | sec j =>
   simp only [fphi] at h
   split at h<;>split at h<;>simp at h<;>rw [h]
  | _=>simp only [fphi] at h; split at h<;>cases h
 | _ =>
  cases y with
  | wait j=>exact absurd rfl (hy j)
  | sec j=>simp only [fphi] at h; split at h<;>cases h
  | _=>first | rfl | cases h
theorem FMid.finish {w0 w:World} {k:FSk} {D:Dsk} {dn:Nat->Bool} (h0:FRep w0 k D) (h:FMid w0 w k D dn) :
  FTo w0 k ((w.alloc (.map #[] 0)).setCell ⟨k.p,1,none⟩ (.map (some w.heap.size))) (D.settle dn) (k.settled dn w.heap.size):=by
 have hO:Only (fun b=>b=k.lb\/b=k.rm\/b=k.p) w0 ((w.alloc (.map #[] 0)).setCell ⟨k.p,1,none⟩ (.map (some w.heap.size))) :=
  Only.setCell ((h.only.mono (G:=fun b=>b=k.lb\/b=k.rm\/b=k.p) fun b _ e=>by rcases e with e | e<;>simp [e]).alloc _) (.inr (.inr (.inr rfl))) _
 have hW:∀ b,b≠k.p->b < w.heap.size->((w.alloc (.map #[] 0)).setCell ⟨k.p,1,none⟩ (.map (some w.heap.size))).heap[b]?=w.heap[b]?:=fun b h1 h2=>by
  rw [Zai _ h1,heap_alloc_old w _ h2]
 have hlt:∀ x b,k.at_ x=some b->b < w.heap.size:=fun x b hx=>Nat.lt_of_lt_of_le (h0.lt ⟨x,hx⟩) h.only.size
 have hsz:=h.only.size
 have hp:k.p≠w.heap.size:=by have:=hlt .p _ rfl; omega
 have hat:∀ x b,k.at_ x=some b->x≠.lb->x≠.rm->x≠.p->((w.alloc (.map #[] 0)).setCell ⟨k.p,1,none⟩ (.map (some w.heap.size))).heap[b]?=w0.heap[b]?:=fun x b hx h1 h2 h3=>by
  rw [hW b (fun e=>h3 (h0.inj x .p b hx (by rw [e]; rfl))) (hlt x b hx)]
  exact h.at_ h0 x b hx h1 h2
 have hsec:∀ i,i < k.n->SecAt ((w.alloc (.map #[] 0)).setCell ⟨k.p,1,none⟩ (.map (some w.heap.size))) ((k.settled dn w.heap.size).ss i) ((D.settle dn).l.getD i []):=by
  intro i hi
  have hi':i < D.l.length:=by rw [h0.len]; exact hi
  have e1:(D.settle dn).l.getD i []=if dn i then (D.waits i).getD (D.l.getD i []) else D.l.getD i []:=by
   simp [Dsk.settle,List.getD_eq_getElem?_getD,hi']
  rw [e1]
  show SecAt _ (if dn i then (k.wf i).getD (k.ss i) else k.ss i) _
  have hs:=h0.sec i hi
  have hs':SecAt ((w.alloc (.map #[] 0)).setCell ⟨k.p,1,none⟩ (.map (some w.heap.size))) (k.ss i) (D.l.getD i []):=hs.same (hat (.sec i) _ (by simp [FSk.at_,hi]) (by simp) (by simp) (by simp))
  cases hd:dn i
  ·
   simpa using hs'
  ·
   rcases hw:k.wf i with _ | s
   ·
    rw [h0.waitN i hw]; simpa using hs'
   ·
    obtain ⟨_,l,hl,hsl⟩:=h0.waitS i s hw
    rw [hl]
    simpa using hsl.same (hat (.wait i) _ (by simp [FSk.at_,hw]) (by simp) (by simp) (by simp))
 refine ⟨⟨?_,h0.pos,h0.small,?_,?_,hsec,?_,(fun i s hs=>by cases hs),fun i _=>rfl,?_,?_⟩,rfl,rfl,?_,?_⟩
 ·
  simp [Dsk.settle,FSk.settled,h0.len]
 ·
  have e1:(w.alloc (.map #[] 0)).heap[k.p]?=some (.cells (fskA k D) 196 (0,0)):=by
   rw [heap_alloc_old w _ (hlt .p _ rfl),h.at_ h0 .p _ rfl (by simp) (by simp)]; exact h0.own
  rw [show (k.settled dn w.heap.size).p=k.p from rfl,Zar e1]
  rfl
 ·
  show _=some (Obj.cells ((List.range k.n).map (fun i=>((if dn i then (k.wf i).getD (k.ss i) else k.ss i):Spot).val)++k.pad).toArray _ _)
  exact (hW k.lb (fun e=>FMid.plb h0 e.symm) (hlt .lb _ rfl)).trans h.arr
 ·
  have e1:((w.alloc (.map #[] 0)).setCell ⟨k.p,1,none⟩ (.map (some w.heap.size))).heap[w.heap.size]?=(w.alloc (.map #[] 0)).heap[w.heap.size]?:=Zai _ (Ne.symm hp)
  have:=(MapI.made w).same e1
  have e2:(iKey fun i=>(((k.settled dn w.heap.size).wf i).map Spot.val))=fun _=>none:=by funext i; simp [iKey,FSk.settled]
  rw [e2]; exact this
 ·
  obtain ⟨g,h1,h2⟩:=h.rmap
  refine ⟨g,h1.same (hW k.rm (fun e=>FMid.prm h0 e.symm) (hlt .rm _ rfl)),fun i=>?_⟩
  rw [h2 i]; rfl
 ·
  intro x y b hx hy
  have hnw:∀ z c,(k.settled dn w.heap.size).at_ z=some c->∀ i,z≠.wait i:=fun z c hz i e=>by subst e; simp [FSk.settled,FSk.at_] at hz
  by_cases hxw:x=.wm
  ·
   subst hxw
   have hb:w.heap.size=b:=by simpa [FSk.settled,FSk.at_] using hx
   by_cases hyw:y=.wm
   ·
    rw [hyw]
   ·
    have:=hlt _ _ (fphi_at hy hyw); omega
  ·
   by_cases hyw:y=.wm
   ·
    subst hyw
    have hb:w.heap.size=b:=by simpa [FSk.settled,FSk.at_] using hy
    have:=hlt _ _ (fphi_at hx hxw); omega
   ·
    exact fphi_inj (h0.inj _ _ b (fphi_at hx hxw) (fphi_at hy hyw)) (hnw x b hx) (hnw y b hy)
 ·
  intro b ⟨x,hx⟩
  by_cases hxw:x=.wm
  ·
   subst hxw
   have hb:w.heap.size=b:=by simpa [FSk.settled,FSk.at_] using hx
   exact .inr (by omega)
  ·
   exact .inl ⟨_,fphi_at hx hxw⟩
 ·
  refine hO.mono fun b _ e=>?_
  rcases e with e | e | e
  ·
   exact ⟨.lb,by rw [e]; rfl⟩
  ·
   exact ⟨.rm,by rw [e]; rfl⟩
  ·
   exact ⟨.p,by rw [e]; rfl⟩
end Go.Proofs.YtgjnnbomnoafcaaGreatDoor
namespace Go.Proofs.YtgjnnbomnoafcaaGreatDoor
set_option linter.unusedVariables false
open Go Go.ChangeMaps Go.WideElems
section
variable {P:Program}
theorem MapI.run_entry {w:World} {b:Nat} {f:Int->Option Value} (h:MapI w b f) {t k e:TypeId} (ht:P.underlying t=some (.map k e)) (hk:P.underlying k=some (.int .i64)) {z:Value} (hz:∀ u:World,(zeroValue e).run P u=.ok z u) (i:Int) :
  ∃ v0 st w1,(Instr.mapEntry t (.map (some b)) (.int .i64 i)).run P w=.ok (.tuple #[v0,.int .i64 st]) w1/\Only (fun k=>k=b) w w1/\∀ w2 v,w2.heap[b]?=w1.heap[b]?->∃ w3,(Instr.entryStore t (.map (some b)) (.int .i64 st) v).run P w2=.ok () w3/\MapI w3 b (fun j=>if j=i then some v else f j)/\Only (fun k=>k=b) w2 w3:=by
 obtain ⟨es,c,hb,hg,hl⟩:=h
 have h1:=Zb0 hk i es.toList hg.key w
 have h3:=Zbv hk false 9999 i w
 have hO:∀ (w:World) es0 c0 es' c',w.heap[b]?=some (.map es0 c0)->Only (fun k=>k=b) w (setBlock w b (.map es' c')):=fun w es0 c0 es' c' hb =>
  ⟨rfl,rfl,rfl,by simp [setBlock],fun k hk hn=>heap_setBlock_other hb _ hn⟩
 cases hm:mFind i es.toList 0 with
 | none =>
  rw [hm] at h1
  refine ⟨z,c,setBlock w b (.map (es.push ⟨.int .i64 i,z,c⟩) (c+1)),?_,hO _ _ _ _ _ hb,fun W2 v he=>?_⟩
  ·
   simp [Instr.mapEntry,run_underlying ht,MapKept.run_getObj_map hb,h3,h1,hz,MapKept.run_setObj_map _ hb,Result.andThen,setBlock,goInt]
  ·
   have hw2:W2.heap[b]?=some (.map (es.push ⟨.int .i64 i,z,c⟩) (c+1)):=he.trans (heap_setBlock_same hb _)
   have hidx:(es.push ⟨.int .i64 i,z,c⟩).findIdx? (fun e=>((e.born:Nat):Int) == ((c:Nat):Int))=some es.size:=by
    rw [findIdx_arr]
    exact findIdx_born (l:=(es.push ⟨.int .i64 i,z,c⟩).toList) (j:=es.size) (e0:=⟨.int .i64 i,z,c⟩) (by
     simp only [Array.toList_push,List.map_append,List.map_cons,List.map_nil]
     refine List.nodup_append.2 ⟨hg.bone,by simp,fun a ha c' hc e1=>?_⟩
     simp only [List.mem_singleton] at hc
     have:=hg.born a ha
     omega) (by simp)
   have hmod:(es.push ⟨.int .i64 i,z,c⟩).modify es.size (fun e=>{ e with val:=v })=es.push ⟨.int .i64 i,v,c⟩:=by
    apply Array.ext'
    rw [Array.toList_modify,Array.toList_push,Array.toList_push,<- Array.length_toList,modify_last]
   obtain ⟨hm1,hm2⟩:=mFind_none i v c es.toList 0 hm
   refine ⟨setBlock W2 b (.map (es.push ⟨.int .i64 i,v,c⟩) (c+1)),?_,⟨_,_,heap_setBlock_same hw2 _,⟨?_,?_,?_,?_⟩,fun j=>?_⟩,hO _ _ _ _ _ hw2⟩
   ·
    simp [Instr.entryStore,MapKept.run_getObj_map hw2,asInt,asIntOf,hidx,hmod,MapKept.run_setObj_map _ hw2,Result.andThen,setBlock]
   ·
    intro x hx
    simp only [Array.toList_push,List.map_append,List.mem_append,List.map_cons,List.map_nil,List.mem_singleton] at hx
    rcases hx with hx | rfl
    ·
     exact hg.key x hx
    ·
     exact ⟨i,rfl⟩
   ·
    simp only [Array.toList_push,List.map_append,List.map_cons,List.map_nil]
    rw [List.nodup_append]
    exact ⟨hg.one,by simp,fun x hx y hy=>by simp only [List.mem_singleton] at hy; subst hy; intro e; subst e; exact hm2 hx⟩
   ·
    intro x hx
    simp only [Array.toList_push,List.map_append,List.mem_append,List.map_cons,List.map_nil,List.mem_singleton] at hx
    rcases hx with hx | rfl
    ·
     exact Nat.lt_succ_of_lt (hg.born x hx)
    ·
     exact Nat.lt_succ_self _
   ·
    simp only [Array.toList_push,List.map_append,List.map_cons,List.map_nil]
    rw [List.nodup_append]
    exact ⟨hg.bone,by simp,fun x hx y hy=>by simp only [List.mem_singleton] at hy; subst hy; have:=hg.born x hx; omega⟩
   ·
    rw [Array.toList_push,hm1,hl]
 | some q =>
  obtain ⟨p,v0⟩:=q
  rw [hm] at h1
  obtain ⟨q,hq,⟨e0,he0,hek⟩,_⟩:=mFind_some i v0 es.toList 0 p v0 hm
  obtain rfl:p=q:=by omega
  have he0':es[p]?=some e0:=by simpa using he0
  have hsame:es.modify p (fun e=>{ e with key:=.int .i64 i })=es:=by
   apply Array.ext'
   rw [Array.toList_modify,modify_eq_set _ _ _ _ he0]
   have:({ e0 with key:=.int .i64 i }:MapEntry)=e0:=by rw [<- hek]
   rw [this]
   exact set_self _ _ _ he0
  refine ⟨v0,e0.born,setBlock w b (.map es c),?_,hO _ _ _ _ _ hb,fun W2 v he=>?_⟩
  ·
   simp [Instr.mapEntry,run_underlying ht,MapKept.run_getObj_map hb,h3,h1,he0',hek,run_stays,hsame,MapKept.run_setObj_map _ hb,Result.andThen,setBlock,goInt]
  ·
   have hw2:W2.heap[b]?=some (.map es c):=he.trans (heap_setBlock_same hb _)
   obtain ⟨q,hq,_,hm1,hm2,hm3⟩:=mFind_some i v es.toList 0 p v0 hm
   obtain rfl:p=q:=by omega
   have hidx:es.findIdx? (fun e=>((e.born:Nat):Int) == ((e0.born:Nat):Int))=some p:=by
    rw [findIdx_arr]
    exact findIdx_born hg.bone he0
   have hmod:es.modify p (fun e=>{ e with val:=v })=es.modify p (fun e'=>{ e' with key:=.int .i64 i,val:=v }):=by
    apply Array.ext'
    rw [Array.toList_modify,Array.toList_modify,modify_eq_set _ _ _ _ he0,modify_eq_set _ _ _ _ he0,<- hek]
   refine ⟨setBlock W2 b (.map (es.modify p fun e=>{ e with key:=.int .i64 i,val:=v }) c),?_,⟨_,_,heap_setBlock_same hw2 _,⟨?_,?_,?_,?_⟩,fun j=>?_⟩,hO _ _ _ _ _ hw2⟩
   ·
    simp [Instr.entryStore,MapKept.run_getObj_map hw2,asInt,asIntOf,hidx,hmod,MapKept.run_setObj_map _ hw2,Result.andThen,setBlock]
   ·
    rw [Array.toList_modify,hm2]; exact hg.key
   ·
    rw [Array.toList_modify,hm2]; exact hg.one
   ·
    rw [Array.toList_modify,hm3]; exact hg.born
   ·
    rw [Array.toList_modify,hm3]; exact hg.bone
   ·
    rw [Array.toList_modify,hm1,hl]
end
end Go.Proofs.YtgjnnbomnoafcaaGreatDoor
namespace Go.Proofs.YtgjnnbomnoafcaaGreatDoor
set_option linter.unusedVariables false
open Go Go.RowKit
theorem fhas_c {w:World} {k:FSk} {D:Dsk} (h:FRep w k D) (i:Int) :
  Calls Tryz.prog 120 #[.pointer (some ⟨k.p,0,none⟩),.int .i64 i] w fun e w'=>e=.returned (.bool (decide (0<=i) && decide (i < (k.n:Int))))/\w=w':=by
 have c0:=h.cell0
 clear h
 by_cases h0:0<=i
 ·
  have HV:Hid ((decide (0<=i) && decide (i < (k.n:Int)))=decide (i < (k.n:Int))):=hid (by simp [h0])
  rw [HV.out]
  go_enter Tryz.func120,Tryz.ntmps120
  go_wp2
  go_ret
  exact ⟨rfl,rfl⟩
 ·
  have HV:Hid ((decide (0<=i) && decide (i < (k.n:Int)))=false):=hid (by simp [h0])
  rw [HV.out]
  go_enter Tryz.func120,Tryz.ntmps120
  go_wp2
  go_ret
  exact ⟨rfl,rfl⟩
def FWritePost (w:World) (k:FSk) (D':Dsk) (e:Ending) (w':World):Prop:=e=.returned (.int .i64 0)/\∃ k',FTo w k w' D' k'
set_option maxHeartbeats 600000 in
theorem fwrite_c {w:World} {k:FSk} {D:Dsk} (h:FRep w k D) (hd:D.dead=false) (i:Nat) (hi:i < k.n) (b off c:Nat) (l:List Nat) (hb:BytesAt w (some ⟨b,off,none⟩) 128 l) :
  Calls Tryz.prog 111 #[.pointer (some ⟨k.p,0,none⟩),.int .i64 i,.slice (some ⟨b,off,none⟩) 128 c] w (FWritePost w k (D.write i l)):=by
 have H:=hid h; have HB:=hid hb; have HI:=hid hi
 have c3:=h.cell3
 rw [hd] at c3
 have c1:∀ x:SW (Only fun b=>w.heap.size<=b) w.drew,x.w.cell? ⟨k.p,1,none⟩=some (.map (some k.wm)):=fun x=>((h.ext (Ext.refl w).drew).only x.ext fun b hb q=>by have:=h.lt hb; omega).cell1
 have HV:Hid ((decide (0<=(i:Int)) && decide ((i:Int) < (k.n:Int)))=true):=hid (by simp; omega)
 clear h hb hi hd
 go_enter Tryz.func111,Tryz.ntmps111
 go_wp2_with (go_at_call 120; refine (fhas_c H.out i).mono ?_; rintro e w' ⟨rfl,rfl⟩; rw [HV.out])
 refine Zbf (E:=Ext) (S:=Only fun b=>w.heap.size<=b) 8 (.one [0,1,2,3,4,6] 5 (.one [] 7 (.fin []))) (by kernel_rfl) (by kernel_rfl) (fun _ _ d _ _ h=>by cases d<;>exact h) ?_
 rw [wpS]
 simp only [opsAt,opA,opB,opC,opD,opE,opF,opG]
 iterate 6 ((refine Zaa (fun K hK=>?_); go_simp; refine hK _ ?_; clear hK K))
 refine Zac ?_
 intro W1 hW1
 have HX1:=hid (Ext.trans (Ext.refl w).drew hW1)
 refine Zat fun K hK=>?_
 go_wp2
 refine hK _ _ (Ext.only ((Ext.refl W1).alloc _)) ?_
 clear hK K hW1
 rw [wpS]
 simp only [opsAt,opA,opB,opC,opD,opE,opF,opG]
 refine Zac ?_
 intro W2 hx2
 have HXE:=hid (show Ext W1 W2 from Ext.trans ((Ext.refl W1).alloc _) hx2)
 have HX2:=hid (show Ext w W2 from Ext.trans HX1.out HXE.out)
 obtain ⟨p,pc,W3,hap,hown,hon,hgp⟩:=Zbb W2 W1.heap.size (hx2.at Zad) (some ⟨b,off,none⟩) 128 c l (HB.out.ext HX2.out)
 have HAP:=hid hap; have HO:=hid hown; have HGP:=hid hgp
 have HX3:=hid (show Ext w W3 from Ext.then HX2.out hon fun i hi q=>by have:=HX1.out.size; have q:i=W1.heap.size:=q; omega)
 have HON:=hid (show Only (fun b=>w.heap.size<=b) W2 W3 from hon.mono fun b _ q=>by have:=HX1.out.size; have q:b=W1.heap.size:=q; omega)
 refine Zat fun K hK=>?_
 refine wpList_append_run rfl _ _ _ rfl _ _ _ _ rfl rfl HAP.out ?_
 clear hap hown hon hgp hx2
 go_wp2
 refine hK _ _ HON.out ?_
 clear hK K
 rw [wpS]
 simp only [opsAt,opA,opB,opC,opD,opE,opF,opG]
 refine Zac ?_
 intro W4 hx4
 have hw4:Ext w W4:=Ext.trans HX3.out hx4
 have hsec:SecAt W4 ⟨p,pc⟩ l:=(show SecAt W3 ⟨p,pc⟩ l from ⟨HB.out.len,HB.out.byte,HO.out⟩).same (hx4.block p (owns_lt HO.out) (fun x=>x))
 have hnew:w.heap.size<=p:=Nat.le_trans HX1.out.size HGP.out
 obtain ⟨W5,hrun,hm5,ho5⟩:=(H.out.ext hw4).wmap.run_set (P:=Tryz.prog) (e:=38) Tryz.underlying193 keyI i (.slice (some ⟨p,0,none⟩) 128 pc)
 have HF:=hid (H.out.written HI.out hw4 hsec hnew hm5 ho5)
 clear hsec hm5 ho5 hx4 hw4 c1
 go_wp2
 go_ret
 exact ⟨rfl,_,HF.out⟩
def Dsk.code (d:Dsk) (i:Int):Int:=if d.dead then 5 else if decide (0<=i) && decide (i < (d.l.length:Int)) then 0 else 1
def FReadPost (w:World) (D:Dsk) (i:Int) (e:Ending) (w':World):Prop :=
 (D.code i≠0/\e=.returned (.tuple #[.slice none 0 0,.int .i64 (D.code i)])/\Ext w w') ∨
 (D.code i=0/\∃ s:Spot,e=.returned (.tuple #[.slice (some ⟨s.blk,0,none⟩) 128 s.cap,.int .i64 0])/\w.heap.size<=s.blk/\SecAt w' s (D.read i.toNat)/\Ext w w')
set_option maxRecDepth 100000 in
set_option maxHeartbeats 600000 in
theorem fread_c {w:World} {k:FSk} {D:Dsk} (h:FRep w k D) (i:Int) :
  Calls Tryz.prog 125 #[.pointer (some ⟨k.p,0,none⟩),.int .i64 i] w (FReadPost w D i):=by
 have H:=hid h
 have c3:=h.cell3
 rcases hd:D.dead with _ | _
 ·
  rw [hd] at c3
  rcases hin:(decide (0<=i) && decide (i < (k.n:Int))) with _ | _
  ·
   have HC:Hid (D.code i=1):=hid (by unfold Dsk.code; rw [hd,h.len,hin]; rfl)
   have HIN:=hid hin
   clear h hin hd
   go_enter Tryz.func125,Tryz.ntmps125
   go_wp2_with (go_at_call 120; refine (fhas_c H.out i).mono ?_; rintro e w' ⟨rfl,rfl⟩; rw [HIN.out])
   go_ret2
   exact .inl ⟨by rw [HC.out]; decide,by rw [HC.out]; rfl,Ext.refl _⟩
  ·
   have HC:Hid (D.code i=0):=hid (by unfold Dsk.code; rw [hd,h.len,hin]; rfl)
   have HIN:=hid hin
   obtain ⟨j,rfl⟩:∃ j:Nat,i=j:=⟨i.toNat,by simp at hin; omega⟩
   have hj:j < k.n:=by simp at hin; omega
   have hj0:(0:Int)<=(j:Int):=by omega
   have hj1:(j:Int) < (k.n:Int):=by omega
   have c0:=h.cell0
   have c1:=h.cell1
   have cS:=h.cellS j hj
   unfold Spot.val at cS
   obtain ⟨W0,hW0⟩:∃ W,w.alloc (.cells #[] 5)=W:=⟨_,rfl⟩
   have x0:Ext w W0:=hW0▸(Ext.refl w).alloc _
   have hcS0:∀ o,(w.alloc o).cell? ⟨k.lb,j,none⟩=some (.slice (some ⟨(k.ss j).blk,0,none⟩) 128 (k.ss j).cap):=fun o=>((Ext.refl w).alloc o).cell cS (fun q=>q)
   have hc00:∀ o,(w.alloc o).cell? ⟨k.p,0,none⟩=some (.slice (some ⟨k.lb,0,none⟩) k.n k.c):=fun o=>((Ext.refl w).alloc o).cell c0 (fun q=>q)
   have HW0:=hid hW0
   rcases hw:k.wf j with _ | s
   ·
    have hl:=h.waits_ok j
    rw [FSk.wv_none hw] at hl
    simp only [Option.getD_none,Option.isSome_none] at hl
    have HB:=hid (h.sec j hj)
    have HV:Hid (D.read j=D.l.getD j []):=hid (by unfold Dsk.read; rw [h.waitN j hw]; rfl)
    obtain ⟨p,pc,W3,hap,hown,hon,hgp⟩:=Zbb W0 w.heap.size (hW0▸heap_alloc_new _ _) (some ⟨(k.ss j).blk,0,none⟩) 128 (k.ss j).cap (D.l.getD j []) (HB.out.bytes.ext x0)
    have HAP:=hid hap; have HO:=hid hown; have HGP:=hid hgp
    have HX3:=hid (show Ext w W3 from Ext.then x0 hon fun i hi q=>by have q:i=w.heap.size:=q; omega)
    clear h hj hw hin hd hap hown hon hgp x0 hW0
    go_enter Tryz.func125,Tryz.ntmps125
    go_wp2_with (first
     | (go_at_call 120; refine (fhas_c H.out j).mono ?_; rintro e w' ⟨rfl,rfl⟩; rw [HIN.out])
     | (at_builtin; rw [HW0.out]; refine wpList_append_run rfl _ _ _ rfl _ _ _ _ rfl rfl HAP.out ?_))
    go_ret2
    exact .inr ⟨HC.out,⟨p,pc⟩,rfl,HGP.out,by rw [Int.toNat_natCast,HV.out]; exact ⟨HB.out.1,HB.out.2.1,HO.out⟩,HX3.out⟩
   ·
    have hl:=h.waits_ok j
    rw [FSk.wv_some hw] at hl
    simp only [Option.getD_some,Option.isSome_some,Spot.val] at hl
    obtain ⟨_,l,hlw,hsec⟩:=h.waitS j s hw
    have HB:=hid hsec
    have HV:Hid (D.read j=l):=hid (by unfold Dsk.read; rw [hlw]; rfl)
    obtain ⟨p,pc,W3,hap,hown,hon,hgp⟩:=Zbb W0 w.heap.size (hW0▸heap_alloc_new _ _) (some ⟨s.blk,0,none⟩) 128 s.cap l (HB.out.bytes.ext x0)
    have HAP:=hid hap; have HO:=hid hown; have HGP:=hid hgp
    have HX3:=hid (show Ext w W3 from Ext.then x0 hon fun i hi q=>by have q:i=w.heap.size:=q; omega)
    clear h hj hw hin hd hap hown hon hgp x0 hW0 hsec hlw
    go_enter Tryz.func125,Tryz.ntmps125
    go_wp2_with (first
     | (go_at_call 120; refine (fhas_c H.out j).mono ?_; rintro e w' ⟨rfl,rfl⟩; rw [HIN.out])
     | (at_builtin; rw [HW0.out]; refine wpList_append_run rfl _ _ _ rfl _ _ _ _ rfl rfl HAP.out ?_))
    go_ret2
    exact .inr ⟨HC.out,⟨p,pc⟩,rfl,HGP.out,by rw [Int.toNat_natCast,HV.out]; exact ⟨HB.out.1,HB.out.2.1,HO.out⟩,HX3.out⟩
 ·
  rw [hd] at c3
  have HC:Hid (D.code i=5):=hid (by unfold Dsk.code; rw [hd]; rfl)
  clear h hd
  go_enter Tryz.func125,Tryz.ntmps125
  go_wp2_with fail
  go_ret2
  exact .inl ⟨by rw [HC.out]; decide,by rw [HC.out]; rfl,Ext.refl _⟩
set_option maxRecDepth 100000 in
set_option maxHeartbeats 800000 in
theorem fkeep_c {w0 w:World} {k:FSk} {D:Dsk} {dn:Nat->Bool} (h0:FRep w0 k D) (h:FMid w0 w k D dn) (i:Nat) (hi:i < k.n) :
  Calls Tryz.prog 177 #[.pointer (some ⟨k.p,0,none⟩),.int .i64 i] w fun e w'=>e=.returned (.tuple #[])/\FMid w0 w' k D (fun j=>dn j || j == i)/\Only (fun b=>b=k.lb\/b=k.rm) w w':=by
 have c1:=h.cell1 h0
 have hl:=(h.wmap h0).run_look (P:=Tryz.prog) Tryz.underlying193 keyI (zeroS w) (i:Int) true
 rw [show iKey (fun i=>(k.wf i).map Spot.val) (i:Int)=k.wv (i:Int) from rfl] at hl
 rcases hs:k.wf i with _ | s
 ·
  have HF:=hid (h.congr (dn':=fun j=>dn j || j == i) h0 fun j hj=>by
   have:(j == i)=false:=by
    rcases Nat.decEq j i with q | q
    ·
     simpa using q
    ·
     subst q; rw [hs] at hj; cases hj
   rw [this,Bool.or_false])
  rw [FSk.wv_none hs] at hl
  simp only [Option.getD_none,Option.isSome_none] at hl
  clear h h0 hi hs
  go_enter Tryz.func177,Tryz.ntmps177
  go_wp2
  go_end0
  exact ⟨rfl,HF.out,Only.refl _ _⟩
 ·
  rw [FSk.wv_some hs] at hl
  simp only [Option.getD_some,Option.isSome_some,Spot.val] at hl
  have n1:k.p≠k.lb:=FMid.plb h0
  have n2:k.p≠k.rm:=FMid.prm h0
  have n3:k.lb≠k.rm:=FMid.lbrm h0
  have q0:=h.cell0 h0
  have q2:=h.cell2 h0
  have d0:∀ x:SW (Only fun b=>b=k.lb\/b=k.rm) w.drew,x.w.cell? ⟨k.p,0,none⟩=some (.slice (some ⟨k.lb,0,none⟩) k.n k.c):=fun x=>x.ext.cell (Ext.cell (Ext.refl w).drew q0) (fun q=>q.elim n1 n2)
  have d2:∀ x:SW (Only fun b=>b=k.lb\/b=k.rm) w.drew,x.w.cell? ⟨k.p,2,none⟩=some (.map (some k.rm)):=fun x=>x.ext.cell (Ext.cell (Ext.refl w).drew q2) (fun q=>q.elim n1 n2)
  have H0:=hid h0; have H:=hid h; have HI:=hid hi; have HS:=hid hs
  have i0:(0:Int)<=(i:Int):=by omega
  have i1:(i:Int) < (k.n:Int):=by omega
  have N3:=hid n3
  clear h0 h hi hs n1 n2 n3 q0 q2
  go_enter Tryz.func177,Tryz.ntmps177
  go_wp2
  refine Zau (E:=Ext) (S:=Only fun b=>b=k.lb\/b=k.rm) (.one [0,1,2,3,4,5,6,7,8,9,10,11] 12 (.one [] 13 (.one [14] 15 (.fin [])))) (by kernel_rfl) (by kernel_rfl) (fun _ _ d _ _ h=>by cases d<;>exact h) ?_
  rw [wpS]
  simp only [opsAt,opA,opB,opC,opD,opE,opF,opG]
  iterate 12 ((refine Zaa (fun K hK=>?_); go_simp; refine hK _ ?_; clear hK K))
  refine Zac ?_
  intro W1 hW1
  have hw1:Ext w W1:=Ext.trans (Ext.refl w).drew hW1
  have M1:=H.out.ext H0.out hw1
  have a1:W1.cell? ⟨k.lb,i,none⟩=some (if dn i then (k.wf i).getD (k.ss i) else k.ss i).val:=(Zaf M1.arr).trans (by
   rw [List.getElem?_toArray,List.getElem?_append_left (by simpa using HI.out)]
   simp [HI.out])
  have f1:W1.frozen? ⟨k.lb,i,none⟩=false:=Zax M1.arr
  obtain ⟨old,ho⟩:∃ old,(if dn i then (k.wf i).getD (k.ss i) else k.ss i).val=old:=⟨_,rfl⟩
  rw [ho] at a1
  obtain ⟨g,hg1,hg2⟩:=M1.rmap
  have HG2:=hid hg2
  have hg3:MapI (W1.setCell ⟨k.lb,i,none⟩ (.slice (some ⟨s.blk,0,none⟩) 128 s.cap)) k.rm g:=hg1.same (Zai (.slice (some ⟨s.blk,0,none⟩) 128 s.cap) (Ne.symm N3.out) (i:=i))
  have HG3:=hid hg3
  have HX1:=hid hw1
  have HO1:=hid (show Only (fun b=>b=k.lb\/b=k.rm) W1 (W1.setCell ⟨k.lb,i,none⟩ (.slice (some ⟨s.blk,0,none⟩) 128 s.cap)) from Only.setCell (Only.refl (fun b=>b=k.lb\/b=k.rm) W1) (.inr (.inl rfl)) _)
  clear d0 d2 M1 hg1 hg2 hg3 hw1 hW1 ho
  refine Zat fun K hK=>?_
  go_wp2
  refine hK _ _ HO1.out ?_
  clear hK K a1 f1
  rw [wpS]
  simp only [opsAt,opA,opB,opC,opD,opE,opF,opG]
  refine Zac ?_
  intro W2 hx2
  have HXV:=hid hx2
  obtain ⟨v0,st,W3,hrun,ho3,hst⟩:=(HG3.out.same (hx2.block _ HG3.out.lt (fun z=>z))).run_entry (P:=Tryz.prog) (e:=4) Tryz.underlying194 keyI zeroB i
  have HO3:=hid ho3; have HST:=hid hst
  have HO3':=hid (show Only (fun b=>b=k.lb\/b=k.rm) W2 W3 from ho3.mono fun b _ q=>.inr q)
  have HLT:=hid (show k.rm < W3.heap.size from Nat.lt_of_lt_of_le HG3.out.lt (Nat.le_trans hx2.size ho3.size))
  clear ho3 hst hx2
  refine Zat fun K hK=>?_
  go_wp2
  refine hK _ _ HO3'.out ?_
  clear hK K hrun
  rw [wpS]
  simp only [opsAt,opA,opB,opC,opD,opE,opF,opG]
  (refine Zaa (fun K hK=>?_); go_simp; refine hK _ ?_; clear hK K)
  refine Zac ?_
  intro W4 hx4
  obtain ⟨W5,hrun,hm5,ho5⟩:=HST.out W4 (.bool false) (hx4.block _ HLT.out (fun z=>z))
  have HF:=hid (H.out.put H0.out HX1.out HI.out HS.out HG2.out hm5 ((((Ext.only HXV.out).trans HO3.out fun _ _ x=>x).trans (Ext.only hx4) fun _ _ x=>x).trans ho5 fun _ _ x=>x))
  have HO5:=hid (show Only (fun b=>b=k.lb\/b=k.rm) W4 W5 from ho5.mono fun b _ q=>.inr q)
  have HX:=hid (show Only (fun b=>b=k.lb\/b=k.rm) w W4 from (((((Ext.only HX1.out).trans HO1.out fun _ _ x=>x).trans (Ext.only HXV.out) fun _ _ x=>x).trans HO3'.out fun _ _ x=>x).trans (Ext.only hx4) fun _ _ x=>x))
  clear hx4 hm5 ho5
  refine Zat fun K hK=>?_
  go_wp2
  refine hK _ _ HO5.out ?_
  clear hK K hrun
  rw [wpS]
  simp only [opsAt,opA,opB,opC,opD,opE,opF,opG]
  refine Zac ?_
  intro W6 hx6
  have HF6:=hid (HF.out.ext H0.out hx6)
  have HX6:=hid (show Only (fun b=>b=k.lb\/b=k.rm) w W6 from ((HX.out.trans HO5.out fun _ _ x=>x).trans (Ext.only hx6) fun _ _ x=>x))
  clear hx6
  go_wp2
  go_end0
  exact ⟨rfl,HF6.out,HX6.out⟩
structure FBlankMid (w wr:World) (lb n j:Nat) (pad:List Value):Prop where
 only:Only (fun b=>b=lb) w wr
 secs:∃ (C:Array Value) (ss:Nat->Spot),wr.heap[lb]?=some (.cells C 38 (0,0))/\n<=C.size/\C.toList.drop n=pad/\(∀ i,i < j->C[i]?=some (ss i).val/\SecAt wr (ss i) Dsk.zeros/\w.heap.size<=(ss i).blk)/\∀ i i',i < j->i' < j->(ss i).blk=(ss i').blk->i=i'
theorem FBlankMid.ext {w wr W:World} {lb n j:Nat} {pad:List Value} (h:FBlankMid w wr lb n j pad) (e:Ext wr W):FBlankMid w W lb n j pad:=by
 obtain ⟨h1,C,ss,h2,h3,h6,h4,h5⟩:=h
 exact ⟨Only.ext h1 e,C,ss,e.at h2,h3,h6,fun i hi=>⟨(h4 i hi).1,(h4 i hi).2.1.same (e.block _ (h4 i hi).2.1.lt (fun x=>x)),(h4 i hi).2.2⟩,h5⟩
theorem FBlankMid.step {w wr W:World} {lb n j g:Nat} {pad:List Value} (hlb:lb < w.heap.size) (h:FBlankMid w wr lb n j pad) (hj:j < n) (e:Ext wr W) (hg:wr.heap.size<=g) (hb:Blk W g Dsk.zeros) :
  FBlankMid w (W.setCell ⟨lb,j,none⟩ (.slice (some ⟨g,0,none⟩) 128 128)) lb n (j+1) pad:=by
 have hE:=h.ext e
 obtain ⟨h1,C,ss,h2,h3,hpd,h4,h5⟩:=hE
 have hsz:=h.only.size
 have hlt:∀ i,i < j->(ss i).blk < wr.heap.size:=by
  intro i hi
  obtain ⟨_,C',ss',g2,g3,_,g4,g5⟩:=h
  have e1:W.heap[lb]?=some (.cells C' 38 (0,0)):=e.at g2
  rw [h2] at e1
  cases e1
  have q1:=(h4 i hi).1
  rw [(g4 i hi).1] at q1
  have:(ss' i).blk=(ss i).blk:=by
   have:=Option.some.inj q1
   unfold Spot.val at this
   cases hs:ss i; cases hs':ss' i
   rw [hs,hs'] at this
   simp at this
   simp [this.1]
  rw [<- this]; exact (g4 i hi).2.1.lt
 have hkeep:∀ b,b≠lb->(W.setCell ⟨lb,j,none⟩ (.slice (some ⟨g,0,none⟩) 128 128)).heap[b]?=W.heap[b]?:=fun b hb=>Zai _ hb
 have hgl:g≠lb:=by omega
 refine ⟨h1.setCell (.inr rfl) _,C.setIfInBounds j (.slice (some ⟨g,0,none⟩) 128 128),fun i=>if i=j then ⟨g,128⟩ else ss i,Zar h2 _,by simp [h3],by rw [Array.toList_setIfInBounds,List.drop_set_of_lt hj]; exact hpd,fun i hi=>?_,fun i i' hi hi' he=>?_⟩
 ·
  by_cases hij:i=j
  ·
   subst hij
   refine ⟨by simp [Spot.val,show i < C.size by omega],?_,by simp; omega⟩
   simp only [if_true]
   have hz:∀ x∈Dsk.zeros,x < 256:=by simp [Dsk.zeros]
   have hB:Blk (W.setCell ⟨lb,i,none⟩ (.slice (some ⟨g,0,none⟩) 128 128)) g Dsk.zeros:=(hkeep g hgl).trans hb
   exact ⟨Zcc,hz,hB.owns Zcc (by omega)⟩
  ·
   have hi':i < j:=by omega
   obtain ⟨q1,q2,q3⟩:=h4 i hi'
   have hne:(ss i).blk≠lb:=by omega
   simp only [hij,if_false]
   refine ⟨by rw [Array.getElem?_setIfInBounds]; simp [Ne.symm hij,q1],q2.same (hkeep _ hne),q3⟩
 ·
  by_cases hij:i=j
  ·
   by_cases hij':i'=j
   ·
    omega
   ·
    simp only [hij,hij',if_true,if_false] at he
    have:=hlt i' (by omega); omega
  ·
   by_cases hij':i'=j
   ·
    simp only [hij,hij',if_true,if_false] at he
    have:=hlt i (by omega); omega
   ·
    simp only [hij,hij',if_false] at he
    exact h5 i i' (by omega) (by omega) he
def FBlankPost (w:World) (p lb n:Nat) (pad:List Value) (dead:Bool) (e:Ending) (w':World):Prop :=
 e=.returned (.tuple #[])/\∃ k,k.p=p/\k.lb=lb/\k.n=n/\k.pad=pad/\FRep w' k ⟨List.replicate n Dsk.zeros,fun _=>none,fun _=>false,dead⟩/\(∀ b,k.foot b->b=p\/b=lb\/w.heap.size<=b)/\Only (fun b=>b=p\/b=lb) w w'
theorem FBlankMid.finish {w wr:World} {p lb n:Nat} {pad:List Value} {dead:Bool} {v1 v2:Value} (hn1:1<=n) (hn2:n<=128) (hne:p≠lb)
  (hp:w.heap[p]?=some (.cells #[.slice (some ⟨lb,0,none⟩) n (n+pad.length),v1,v2,.bool dead] 196 (0,0))) (hlb:lb < w.heap.size) (h:FBlankMid w wr lb n n pad) :
  FBlankPost w p lb n pad dead (.returned (.tuple #[])) ((((wr.alloc (.map #[] 0)).alloc (.map #[] 0)).setCell ⟨p,1,none⟩ (.map (some wr.heap.size))).setCell ⟨p,2,none⟩ (.map (some (wr.heap.size+1)))):=by
 obtain ⟨h1,C,ss,h2,h3,hpd,h4,h5⟩:=h
 have hsz:=h1.size
 have hpl:=lt_of_block hp
 have hO:Only (fun b=>b=p\/b=lb) w ((((wr.alloc (.map #[] 0)).alloc (.map #[] 0)).setCell ⟨p,1,none⟩ (.map (some wr.heap.size))).setCell ⟨p,2,none⟩ (.map (some (wr.heap.size+1)))) :=
  Only.setCell (Only.setCell (Only.alloc (Only.alloc (h1.mono (G:=fun b=>b=p\/b=lb) fun b _ e=>.inr e) _) _) (.inr (.inl rfl)) _) (.inr (.inl rfl)) _
 have hold:∀ b,b≠p->b < wr.heap.size->((((wr.alloc (.map #[] 0)).alloc (.map #[] 0)).setCell ⟨p,1,none⟩ (.map (some wr.heap.size))).setCell ⟨p,2,none⟩ (.map (some (wr.heap.size+1)))).heap[b]?=wr.heap[b]?:=fun b hb hl=>by
  rw [Zai _ hb,Zai _ hb,heap_alloc_old _ _ (by simp; omega),heap_alloc_old _ _ hl]
 have hpw:wr.heap[p]?=some (.cells #[.slice (some ⟨lb,0,none⟩) n (n+pad.length),v1,v2,.bool dead] 196 (0,0)):=h1.at hp hne
 have hp2:((wr.alloc (.map #[] 0)).alloc (.map #[] 0)).heap[p]?=some (.cells #[.slice (some ⟨lb,0,none⟩) n (n+pad.length),v1,v2,.bool dead] 196 (0,0)):=by
  rw [heap_alloc_old _ _ (by simp; omega),heap_alloc_old _ _ (by omega)]; exact hpw
 let k:FSk:=⟨p,lb,wr.heap.size,wr.heap.size+1,n,ss,fun _=>none,pad⟩
 have hat:∀ x b,k.at_ x=some b->(x=.p/\b=p)\/(x=.lb/\b=lb)\/(x=.wm/\b=wr.heap.size)\/(x=.rm/\b=wr.heap.size+1)\/∃ i,i < n/\x=.sec i/\b=(ss i).blk:=by
  intro x b hx
  cases x with
  | p=>exact .inl ⟨rfl,(Option.some.inj hx).symm⟩
  | lb=>exact .inr (.inl ⟨rfl,(Option.some.inj hx).symm⟩)
  | wm=>exact .inr (.inr (.inl ⟨rfl,(Option.some.inj hx).symm⟩))
  | rm=>exact .inr (.inr (.inr (.inl ⟨rfl,(Option.some.inj hx).symm⟩)))
  | sec i =>
   have hx:(if i < n then some (ss i).blk else none)=some b:=hx
   by_cases hi:i < n
   ·
    rw [if_pos hi] at hx; exact .inr (.inr (.inr (.inr ⟨i,hi,rfl,(Option.some.inj hx).symm⟩)))
   ·
    rw [if_neg hi] at hx; cases hx
  | wait i=>cases hx
 refine ⟨rfl,k,rfl,rfl,rfl,rfl,⟨by simp [k],hn1,hn2,?_,?_,?_,?_,(fun i s hs=>by cases hs),fun i _=>rfl,?_,?_⟩,?_,hO⟩
 ·
  show _=some (Obj.cells (fskA k _) _ _)
  rw [Zar (Zar hp2 _) _]
  rfl
 ·
  refine (hold lb (Ne.symm hne) (by omega)).trans (h2.trans ?_)
  congr 2
  rw [FSk.arr_def]
  apply Array.ext'
  have e0:C.toList=C.toList.take n++C.toList.drop n:=(List.take_append_drop n _).symm
  rw [e0,hpd]
  show _=List.map _ _++pad
  congr 1
  apply List.ext_getElem?
  intro i
  by_cases hi:i < n
  ·
   rw [List.getElem?_take,if_pos hi,Array.getElem?_toList,(h4 i hi).1]
   simp [k,hi]
  ·
   rw [List.getElem?_take,if_neg hi]; simp [k,hi]
 ·
  intro i hi
  have hi:i < n:=hi
  obtain ⟨q1,q2,q3⟩:=h4 i hi
  have e1:(List.replicate n Dsk.zeros).getD i []=Dsk.zeros:=by simp [List.getD_eq_getElem?_getD,hi]
  show SecAt _ (ss i) ((List.replicate n Dsk.zeros).getD i [])
  rw [e1]
  exact q2.same (hold _ (by omega) q2.lt)
 ·
  have e2:(iKey fun i=>((k.wf i).map Spot.val))=fun _=>none:=by funext i; simp [iKey,k]
  rw [e2]
  refine (MapI.made wr).same ?_
  show _=(wr.alloc (.map #[] 0)).heap[wr.heap.size]?
  rw [Zai _ (by omega),Zai _ (by omega),heap_alloc_old _ _ (by simp)]
 ·
  refine ⟨fun _=>none,?_,fun i=>by simp⟩
  have:=MapI.made (wr.alloc (.map #[] 0))
  have e1:(wr.alloc (.map #[] 0)).heap.size=wr.heap.size+1:=by simp
  rw [e1] at this
  refine this.same ?_
  rw [Zai _ (by omega),Zai _ (by omega)]
 ·
  intro x y b hx hy
  rcases hat x b hx with ⟨rfl,h6⟩ | ⟨rfl,h6⟩ | ⟨rfl,h6⟩ | ⟨rfl,h6⟩ | ⟨i,hi,rfl,h6⟩<;>rcases hat y b hy with ⟨rfl,h7⟩ | ⟨rfl,h7⟩ | ⟨rfl,h7⟩ | ⟨rfl,h7⟩ | ⟨j,hj,rfl,h7⟩<;>first | rfl | omega | skip
  all_goals first
   | (have:=(h4 j hj).2.1.lt; have:=(h4 j hj).2.2; omega)
   | (have:=(h4 i hi).2.1.lt; have:=(h4 i hi).2.2; omega)
   | (rw [h5 i j hi hj (by omega)])
 ·
  intro b ⟨x,hx⟩
  rcases hat x b hx with ⟨rfl,h6⟩ | ⟨rfl,h6⟩ | ⟨rfl,h6⟩ | ⟨rfl,h6⟩ | ⟨i,hi,rfl,h6⟩
  ·
   exact .inl h6
  ·
   exact .inr (.inl h6)
  ·
   exact .inr (.inr (by omega))
  ·
   exact .inr (.inr (by omega))
  ·
   have:=(h4 i hi).2.2; exact .inr (.inr (by omega))
theorem FRep.setDead {w:World} {k:FSk} {D:Dsk} (h:FRep w k D) (b:Bool):FRep (w.setCell ⟨k.p,3,none⟩ (.bool b)) k { D with dead:=b }:=by
 have hk:∀ x c,k.at_ x=some c->x≠.p->(w.setCell ⟨k.p,3,none⟩ (.bool b)).heap[c]?=w.heap[c]?:=fun x c hx hne=>Zai _ (fun e=>hne (h.inj x .p c hx (by rw [e]; rfl)))
 refine ⟨h.len,h.pos,h.small,?_,(hk .lb _ rfl (by simp)).trans h.arr,?_,h.wmap.same (hk .wm _ rfl (by simp)),?_,h.waitN,?_,h.inj⟩
 ·
  rw [Zar h.own]; rfl
 ·
  intro i hi; exact (h.sec i hi).same (hk (.sec i) _ (by simp [FSk.at_,hi]) (by simp))
 ·
  intro i s hs
  obtain ⟨h1,l,h2,h3⟩:=h.waitS i s hs
  exact ⟨h1,l,h2,h3.same (hk (.wait i) _ (by simp [FSk.at_,hs]) (by simp))⟩
 ·
  obtain ⟨g,h1,h2⟩:=h.rmap
  exact ⟨g,h1.same (hk .rm _ rfl (by simp)),h2⟩
theorem FMid.less {w0 w:World} {k:FSk} {D:Dsk} (h0:FRep w0 k D) {j:Nat} (h:FMid w0 w k D (fun i=>decide (i < j) || i == j)):FMid w0 w k D (fun i=>decide (i < j+1)) :=
 h.congr h0 fun i _=>by
  rcases Nat.lt_trichotomy i j with q | q | q
  ·
   simp [q,Nat.lt_succ_of_lt q]
  ·
   subst q; simp
  ·
   have h1:¬i < j:=by omega
   have h2:¬i < j+1:=by omega
   have h3:(i == j)=false:=by simp; omega
   simp [h1,h2,h3]
def FFlushPost (w:World) (k:FSk) (D':Dsk) (e:Ending) (w':World):Prop:=e=.returned (.int .i64 0)/\∃ k',FTo w k w' D' k'
set_option maxRecDepth 100000 in
set_option maxHeartbeats 800000 in
theorem fflush_c {w:World} {k:FSk} {D:Dsk} (h:FRep w k D) (hd:D.dead=false) :
  Calls Tryz.prog 113 #[.pointer (some ⟨k.p,0,none⟩)] w (FFlushPost w k D.flush):=by
 have H:=hid h
 have c0:=h.cell0
 have c3:=h.cell3
 rw [hd] at c3
 have hmm:=@run_makeMap Tryz.prog
 have HS:=hid (show FMid w w k D (fun i=>decide (i < 0)) from (FMid.start h).congr h fun i _=>by simp)
 clear h hd
 go_enter Tryz.func113,Tryz.ntmps113
 go_wp2
 clear c0 c3
 go_loopw [13] (fun t wr=>∃ j:Nat,t=.int .i64 j/\j<=k.n/\FMid w wr k D (fun i=>decide (i < j))) (fun t _=>k.n - (intOf t).toNat)
 case atStart=>exact ⟨0,rfl,by omega,HS.out⟩
 case round =>
  clear HS
  obtain ⟨j,rfl,hj,hmid⟩:=hrel
  have hsm:=H.out.small
  by_cases hlt:j < k.n
  ·
   have HM:=hid hmid
   clear hmid
   go_wp2_with (go_at_call 177; refine (fkeep_c H.out HM.out j hlt).mono ?_; rintro e W3 ⟨rfl,hm3,ho3⟩)
   have HF:=hid (hm3.less H.out)
   clear hm3 ho3
   go_roundw
   case rel=>exact ⟨j+1,by go_num,by omega,HF.out⟩
   case measure=>simp [intOf]; omega
  ·
   obtain rfl:k.n=j:=by omega
   have hfin:=(hmid.congr (dn':=fun _=>true) H.out (fun i hi=>by
    obtain ⟨s,hs⟩:=Option.isSome_iff_exists.1 hi
    simpa using (H.out.waitS i s hs).1)).finish H.out
   have HF:=hid hfin
   have hown:=(hmid.at_ H.out .p _ rfl (by simp) (by simp)).trans H.out.own
   have c1:=hmid.cell1 H.out
   have hf:wr.frozen? ⟨k.p,1,none⟩=false:=Zax hown
   have hfa:∀ o,(wr.alloc o).frozen? ⟨k.p,1,none⟩=false:=fun o=>Zax ((heap_alloc_old wr o (lt_of_block hown)).trans hown)
   have hca:∀ o,(wr.alloc o).cell? ⟨k.p,1,none⟩=some (.map (some k.wm)):=fun o=>Ext.cell ((Ext.refl wr).alloc o) c1
   clear hfin hmid hown
   go_wp2
   go_ret
   exact ⟨rfl,_,HF.out⟩
theorem Dsk.upTo_more (D:Dsk) (j d:Nat):∃ l,D.upTo (j+d)=D.upTo j++l:=by
 induction d with
 | zero=>exact ⟨[],by simp⟩
 | succ d ih =>
  obtain ⟨l,hl⟩:=ih
  exact ⟨l++if (D.waits (j+d)).isSome then [j+d] else [],by rw [<- Nat.add_assoc,D.upTo_succ,hl,List.append_assoc]⟩
theorem Dsk.upTo_at {D:Dsk} {j:Nat} (hj:j < D.l.length) (hs:(D.waits j).isSome=true):(D.upTo j).length < D.waiting.length/\D.waiting.getD (D.upTo j).length 0=j:=by
 obtain ⟨l,hl⟩:=D.upTo_more (j+1) (D.l.length - (j+1))
 rw [show j+1+(D.l.length - (j+1))=D.l.length by omega,D.upTo_succ,if_pos hs] at hl
 have hw:D.waiting=D.upTo D.l.length:=rfl
 rw [hw,hl]
 refine ⟨by simp,?_⟩
 rw [List.append_assoc,List.getD_eq_getElem?_getD,List.getElem?_append_right (Nat.le_refl _)]
 simp
def FVoidPost2 (w:World) (k:FSk) (D':Dsk) (e:Ending) (w':World):Prop:=e=.returned (.tuple #[])/\∃ k',FTo w k w' D' k'
theorem FMid.crash_step {w0 w:World} {k:FSk} {D:Dsk} {bits m j:Nat} (h0:FRep w0 k D) (hm:m < D.waiting.length) (hj:D.waiting.getD m 0=j) (hb:Dsk.bit bits m=true) (h:FMid w0 w k D (fun i=>D.dnC bits m i || i == j)):FMid w0 w k D (D.dnC bits (m+1)) :=
 h.congr h0 fun i hi=>by
  obtain ⟨s,hs⟩:=Option.isSome_iff_exists.1 hi
  obtain ⟨q1,l,q2,_⟩:=h0.waitS i s hs
  rw [Dsk.dnC_step hm ((D.mem_waiting i).2 ⟨by rw [h0.len]; exact q1,by rw [q2]; rfl⟩),hb,Bool.true_and,hj]
theorem FMid.crash_skip {w0 w:World} {k:FSk} {D:Dsk} {bits m:Nat} (h0:FRep w0 k D) (hm:m < D.waiting.length) (hb:Dsk.bit bits m=false) (h:FMid w0 w k D (D.dnC bits m)):FMid w0 w k D (D.dnC bits (m+1)) :=
 h.congr h0 fun i hi=>by
  obtain ⟨s,hs⟩:=Option.isSome_iff_exists.1 hi
  obtain ⟨q1,l,q2,_⟩:=h0.waitS i s hs
  rw [Dsk.dnC_step hm ((D.mem_waiting i).2 ⟨by rw [h0.len]; exact q1,by rw [q2]; rfl⟩),hb,Bool.false_and,Bool.or_false]
set_option maxRecDepth 100000 in
set_option maxHeartbeats 800000 in
theorem fcrash_c {w:World} {k:FSk} {D:Dsk} (h:FRep w k D) (bits:Nat) (hbits:bits < 18446744073709551616) :
  Calls Tryz.prog 115 #[.pointer (some ⟨k.p,0,none⟩),.int .u64 bits] w (FVoidPost2 w k (D.crash bits)):=by
 have H:=hid h
 have c0:=h.cell0
 have hmm:=@run_makeMap Tryz.prog
 have HS:=hid (show FMid w w k D (D.dnC bits 0) from (FMid.start h).congr h fun i _=>by unfold Dsk.dnC; simp)
 have hsm:=h.small
 have HSM:=hid hsm
 clear h hsm
 go_enter Tryz.func115,Tryz.ntmps115
 go_wp2
 clear c0
 go_loopw [4,13] (fun u t wr=>∃ j m:Nat,t=.int .i64 j/\u=.int .i64 m/\j<=k.n/\(D.upTo j).length=m/\FMid w wr k D (D.dnC bits m)) (fun _ t _=>k.n - (intOf t).toNat)
 case atStart=>exact ⟨0,0,rfl,rfl,by omega,rfl,HS.out⟩
 case round =>
  clear HS
  obtain ⟨j,m,rfl,rfl,hj,hm,hmid⟩:=hrel
  have hmj:m<=j:=hm▸D.upTo_len j
  have hsm:=HSM.out
  by_cases hlt:j < k.n
  ·
   have c1:=hmid.cell1 H.out
   have hl:=(hmid.wmap H.out).run_look (P:=Tryz.prog) Tryz.underlying193 keyI (zeroS wr) (j:Int) true
   rw [show iKey (fun i=>(k.wf i).map Spot.val) (j:Int)=k.wv (j:Int) from rfl] at hl
   have hup:=D.upTo_succ j
   have HMM:=hid hmj
   rcases hs:k.wf j with _ | s
   ·
    rw [FSk.wv_none hs] at hl
    simp only [Option.getD_none,Option.isSome_none] at hl
    rw [H.out.waitN j hs] at hup
    simp only [Option.isSome_none,Bool.false_eq_true,if_false,List.append_nil] at hup
    have HU:=hid (show (D.upTo (j+1)).length=m by rw [hup]; exact hm)
    have HM:=hid hmid
    clear hmid hup hm hs hmj
    go_wp2
    go_roundw
    case rel=>exact ⟨j+1,m,by go_num,rfl,by omega,HU.out,HM.out⟩
    case measure=>simp [intOf]; omega
   ·
    rw [FSk.wv_some hs] at hl
    simp only [Option.getD_some,Option.isSome_some,Spot.val] at hl
    obtain ⟨_,l,hlw,_⟩:=H.out.waitS j s hs
    have hws:(D.waits j).isSome=true:=by rw [hlw]; rfl
    rw [if_pos hws] at hup
    obtain ⟨u1,u2⟩:=Dsk.upTo_at (by rw [H.out.len]; exact hlt) hws
    rw [hm] at u1 u2
    have HU:=hid (show (D.upTo (j+1)).length=m+1 by rw [hup,List.length_append,hm]; rfl)
    have HM:=hid hmid
    have U1:=hid u1; have U2:=hid u2
    have hw:=bit_walk bits m hbits
    clear hmid hup hm hs u1 u2 hws hlw
    rcases hbit:Dsk.bit bits m with _ | _
    ·
     rw [hbit] at hw
     have HF:=hid (HM.out.crash_skip H.out U1.out hbit)
     clear hbit
     go_wp2
     go_roundw
     case rel=>exact ⟨j+1,m+1,by go_num,by go_num,by omega,HU.out,HF.out⟩
     case measure=>simp [intOf]; omega
    ·
     rw [hbit] at hw
     have HB:=hid hbit
     clear hbit
     go_wp2_with (go_at_call 177; refine (fkeep_c H.out HM.out j hlt).mono ?_; rintro e W3 ⟨rfl,hm3,ho3⟩)
     have HF:=hid (hm3.crash_step H.out U1.out U2.out HB.out)
     clear hm3 ho3
     go_wp2
     go_roundw
     case rel=>exact ⟨j+1,m+1,by go_num,by go_num,by omega,HU.out,HF.out⟩
     case measure=>simp [intOf]; omega
  ·
   obtain rfl:k.n=j:=by omega
   have hwl:m=D.waiting.length:=by
    rw [<- hm,<- H.out.len]; rfl
   have hfin:=(hmid.congr (dn':=fun i=>Dsk.bit bits (D.waiting.idxOf i)) H.out (fun i hi=>by
    obtain ⟨s,hs⟩:=Option.isSome_iff_exists.1 hi
    obtain ⟨q1,l,q2,_⟩:=H.out.waitS i s hs
    have:=Dsk.idx_lt ((D.mem_waiting i).2 ⟨by rw [H.out.len]; exact q1,by rw [q2]; rfl⟩)
    unfold Dsk.dnC
    simp [this,hwl])).finish H.out
   have HF:=hid hfin
   have hown:=(hmid.at_ H.out .p _ rfl (by simp) (by simp)).trans H.out.own
   have c1:=hmid.cell1 H.out
   have hfa:∀ o,(wr.alloc o).frozen? ⟨k.p,1,none⟩=false:=fun o=>Zax ((heap_alloc_old wr o (lt_of_block hown)).trans hown)
   have hf:wr.frozen? ⟨k.p,1,none⟩=false:=Zax hown
   have hca:∀ o,(wr.alloc o).cell? ⟨k.p,1,none⟩=some (.map (some k.wm)):=fun o=>Ext.cell ((Ext.refl wr).alloc o) c1
   clear hmid hfin hown hwl hm hmj
   go_wp2
   go_end0
   exact ⟨rfl,_,HF.out⟩
set_option maxHeartbeats 800000 in
theorem fblank_c {w:World} {p lb n:Nat} {pad:List Value} {dead:Bool} {v1 v2:Value} {C:Array Value} (hn1:1<=n) (hn2:n<=128) (hne:p≠lb)
  (hp:w.heap[p]?=some (.cells #[.slice (some ⟨lb,0,none⟩) n (n+pad.length),v1,v2,.bool dead] 196 (0,0))) (hl:w.heap[lb]?=some (.cells C 38 (0,0))) (hC:n<=C.size) (hP:C.toList.drop n=pad) :
  Calls Tryz.prog 116 #[.pointer (some ⟨p,0,none⟩)] w (FBlankPost w p lb n pad dead):=by
 have c0:w.cell? ⟨p,0,none⟩=some (.slice (some ⟨lb,0,none⟩) n (n+pad.length)):=Zaf hp
 have hmm:=@run_makeMap Tryz.prog
 have hmk:=make_sector
 have HS:Hid (FBlankMid w w lb n 0 pad):=hid ⟨Only.refl _ _,C,fun _=>⟨0,0⟩,hl,hC,hP,fun i hi=>by omega,fun i i' hi=>by omega⟩
 have HP:=hid hp; have HL:=hid hl; have HC:=hid hC
 clear hp hl hC hP
 go_enter Tryz.func116,Tryz.ntmps116
 obtain ⟨cc,hcc⟩:∃ c,n+pad.length=c:=⟨_,rfl⟩
 have HCC:=hid hcc
 rw [hcc] at c0
 go_wp2
 clear c0
 go_loopw [8] (fun i wr=>∃ j:Nat,i=.int .i64 j/\j<=n/\FBlankMid w wr lb n j pad) (fun i _=>n - (intOf i).toNat)
 case atStart=>exact ⟨0,rfl,by omega,HS.out⟩
 case round =>
  clear HS
  obtain ⟨j,rfl,hj,hmid⟩:=hrel
  have hlb:=lt_of_block HL.out
  by_cases hlt:j < n
  ·
   have c0:∀ x:SW Ext wr.drew,x.w.cell? ⟨p,0,none⟩=some (.slice (some ⟨lb,0,none⟩) n (n+pad.length)):=fun x=>Ext.cell (Ext.trans (Ext.refl wr).drew x.ext) (Zaf (hmid.only.at HP.out hne))
   have HM:=hid hmid
   have i0:(0:Int)<=(j:Int):=by omega
   have i1:(j:Int) < (n:Int):=by omega
   clear hmid
   go_wp2
   refine Zan (S:=Ext) 6 (.one [0,1,2,3,4] 5 (.fin [])) (by kernel_rfl) (by kernel_rfl) (fun _ _ d _ _ h=>by cases d<;>exact h) ?_
   rw [wpS]
   simp only [opsAt,opA,opB,opC,opD,opE,opF,opG]
   iterate 5 ((refine Zaa (fun K hK=>?_); go_simp; refine hK _ ?_; clear hK K))
   refine Zac ?_
   intro W1 hW1
   have hw1:Ext wr W1:=Ext.trans (Ext.refl wr).drew hW1
   refine Zat fun K hK=>?_
   go_wp2
   refine hK _ _ ((Ext.refl W1).alloc _) ?_
   clear hK K
   rw [wpS]
   simp only [opsAt,List.map_nil]
   refine Zac ?_
   intro W2 hW2
   have hB:Blk W2 W1.heap.size Dsk.zeros:=hW2.at Zad
   have hx:Ext wr W2:=Ext.trans hw1 (Ext.trans ((Ext.refl W1).alloc _) hW2)
   have HF:=hid (HM.out.step hlb hlt hx hw1.size hB)
   obtain ⟨_,C2,ss2,g2,g3,_,_⟩:=HM.out.ext hx
   have cj:W2.cell? ⟨lb,j,none⟩=some (C2[j]'(by omega)):=(Zaf g2).trans (by simp)
   have fj:W2.frozen? ⟨lb,j,none⟩=false:=Zax g2
   obtain ⟨old,hold⟩:∃ old,C2[j]'(by omega)=old:=⟨_,rfl⟩
   rw [hold] at cj
   clear hB hx hW2 hw1 hW1 c0 g2 g3 hold
   generalize W1.heap.size=g at *
   go_wp2
   go_roundw
   case rel=>exact ⟨j+1,by go_num,by omega,HF.out⟩
   case measure=>simp [intOf]; omega
  ·
   obtain rfl:n=j:=by omega
   have hfin:=hmid.finish hn1 hn2 hne HP.out hlb
   have e1:=hmid.only.at HP.out hne
   have hpw:=lt_of_block e1
   rw [World.setCell_alloc_past (w:=wr.alloc (.map #[] 0)) _ p 1 _ (by simp; omega),World.setCell_alloc_past (w:=wr) _ p 1 _ hpw,
    World.setCell_alloc_past (w:=(wr.setCell ⟨p,1,none⟩ (.map (some wr.heap.size))).alloc (.map #[] 0)) _ p 2 _ (by simp; omega),World.setCell_alloc_past (w:=wr.setCell ⟨p,1,none⟩ (.map (some wr.heap.size))) _ p 2 _ (by simpa using hpw)] at hfin
   have HF:=hid hfin
   have e2:((wr.alloc (.map #[] 0)).alloc (.map #[] 0)).heap[p]?=some (.cells #[.slice (some ⟨lb,0,none⟩) n (n+pad.length),v1,v2,.bool dead] 196 (0,0)):=by
    rw [heap_alloc_old _ _ (by simp; omega),heap_alloc_old _ _ hpw]; exact e1
   have c1:wr.cell? ⟨p,1,none⟩=some v1:=Zaf e1
   have c2:wr.cell? ⟨p,2,none⟩=some v2:=Zaf e1
   have f1:∀ i,wr.frozen? ⟨p,i,none⟩=false:=fun i=>Zax e1
   have e3:=Zar e1 (i:=1) (.map (some wr.heap.size))
   have f3:∀ i,(((wr.setCell ⟨p,1,none⟩ (.map (some wr.heap.size))).alloc (.map #[] 0)).alloc (.map #[] 0)).frozen? ⟨p,i,none⟩=false:=fun i =>
    Zax ((heap_alloc_old _ _ (by simp; omega)).trans ((heap_alloc_old _ _ (by simp; omega)).trans e3))
   have f2:∀ i,((wr.alloc (.map #[] 0)).alloc (.map #[] 0)).frozen? ⟨p,i,none⟩=false:=fun i=>Zax e2
   clear e1 e2 e3 hmid hfin
   go_wp2
   go_end0
   exact HF.out
theorem FRep.blanks {w:World} {k:FSk} {D:Dsk} (h:FRep w k D):Calls Tryz.prog 116 #[.pointer (some ⟨k.p,0,none⟩)] w (FBlankPost w k.p k.lb k.n k.pad D.dead) :=
 fblank_c h.pos h.small (FMid.plb h) h.own h.arr (by rw [k.arr_size]; unfold FSk.c; omega) (by rw [k.arr_def]; simp)
theorem FRep.rebuilt {w w':World} {k:FSk} {D:Dsk} (h:FRep w k D) (b:Bool) {e:Ending} (hb:FBlankPost (w.setCell ⟨k.p,3,none⟩ (.bool b)) k.p k.lb k.n k.pad b e w'):e=.returned (.tuple #[])/\∃ k',FTo w k w' { D.blank with dead:=b } k':=by
 obtain ⟨h0,k1,h1,h2,h3,_,h4,h5,h6⟩:=hb
 have e1:(⟨List.replicate k.n Dsk.zeros,fun _=>none,fun _=>false,b⟩:Dsk)={ D.blank with dead:=b }:=by unfold Dsk.blank; rw [h.len]
 rw [e1] at h4
 refine ⟨h0,k1,h4,h1,h3,fun c hc=>?_,?_⟩
 ·
  rcases h5 c hc with rfl | rfl | h8
  ·
   exact .inl ⟨.p,rfl⟩
  ·
   exact .inl ⟨.lb,rfl⟩
  ·
   exact .inr (by simpa using h8)
 ·
  exact (Only.setCell (Only.refl k.foot w) (.inr ⟨.p,rfl⟩) _).trans h6 fun c _ hc=>by
   rcases hc with rfl | rfl
   ·
    exact ⟨.p,rfl⟩
   ·
    exact ⟨.lb,rfl⟩
set_option maxRecDepth 100000 in
theorem fdie_c {w:World} {k:FSk} {D:Dsk} (h:FRep w k D) :
  Calls Tryz.prog 24 #[.pointer (some ⟨k.p,0,none⟩)] w (FVoidPost2 w k D.die):=by
 have H:=hid h
 have c3:=h.cell3
 have f3:w.frozen? ⟨k.p,3,none⟩=false:=Zax h.own
 have HB:=hid ((h.setDead true).blanks)
 clear h
 go_enter Tryz.func24,Tryz.ntmps24
 go_wp2_with fail
 refine HB.out.mono ?_
 intro e w1 hb
 have hF:=H.out.rebuilt true hb
 obtain ⟨rfl,hF⟩:=hF
 have HF:=hid hF
 clear hb hF c3 f3
 go_wp2
 go_end0
 exact ⟨rfl,HF.out⟩
set_option maxRecDepth 100000 in
theorem freplace_c {w:World} {k:FSk} {D:Dsk} (h:FRep w k D) :
  Calls Tryz.prog 26 #[.pointer (some ⟨k.p,0,none⟩)] w (FVoidPost2 w k D.replace):=by
 have H:=hid h
 have c3:=h.cell3
 have f3:w.frozen? ⟨k.p,3,none⟩=false:=Zax h.own
 have HB:=hid ((h.setDead false).blanks)
 clear h
 go_enter Tryz.func26,Tryz.ntmps26
 go_wp2_with fail
 refine HB.out.mono ?_
 intro e w1 hb
 have hF:=H.out.rebuilt false hb
 obtain ⟨rfl,hF⟩:=hF
 have HF:=hid hF
 clear hb hF c3 f3
 go_wp2
 go_end0
 exact ⟨rfl,HF.out⟩
namespace Crc
def updB (c x:Nat):Nat:=cstn 8 (c ^^^ x)
def onB (c:Nat) (l:List Nat):Nat:=l.foldl updB c
theorem onB_on (l:List Nat) (hl:∀ x∈l,x < 256):∀ c,onB c l=onL c l:=by
 induction l with
 | nil=>exact fun c=>rfl
 | cons x l ih =>
  intro c
  show onB (updB c x) l=onL (upd c x) l
  rw [show updB c x=upd c x from Zcj c x (hl x (by simp)),ih (fun y hy=>hl y (by simp [hy]))]
end Crc
namespace Frm
def refOk (l:List Nat):Prop:=l.length=128/\num (l.take 2)=21587/\Crc.sum (l.take 124)=num (l.drop 124)/\(parse l).right=true
theorem take_low (l:List Nat) (h:∀ x∈l,x < 256) (a n:Nat) (hl:a+n<=l.length):low n (num ((l.drop a).take n))=(l.drop a).take n:=by
 have e:((l.drop a).take n).length=n:=by rw [List.length_take,List.length_drop]; omega
 have:=low_num ((l.drop a).take n) (fun x hx=>h x (List.mem_of_mem_drop (List.mem_of_mem_take hx)))
 rw [e] at this
 exact this
theorem numI_low (l:List Nat) (h:∀ x∈l,x < 256) (h8:l.length<=8) (h0:0<=numI l):(numI l).toNat=num l:=by
 have hb:=num_bd l h
 have hp:256 ^ l.length<=256 ^ 8:=Nat.pow_le_pow_right (by omega) h8
 have e8:(256:Nat) ^ 8=18446744073709551616:=by decide
 unfold numI wrap64 at h0 ⊢
 omega
theorem split124 (l:List Nat) (h:l.length=128):l=[l.getD 0 0,l.getD 1 0,l.getD 2 0,l.getD 3 0]++((l.drop 4).take 4++((l.drop 8).take 8++((l.drop 16).take 108++l.drop 124))):=by
 have h1:(l.drop 16).take 108++l.drop 124=l.drop 16:=by
  have:=List.take_append_drop 108 (l.drop 16)
  rwa [List.drop_drop] at this
 have h2:(l.drop 8).take 8++l.drop 16=l.drop 8:=by
  have:=List.take_append_drop 8 (l.drop 8)
  rwa [List.drop_drop] at this
 have h3:(l.drop 4).take 4++l.drop 8=l.drop 4:=by
  have:=List.take_append_drop 4 (l.drop 4)
  rwa [List.drop_drop] at this
 rw [h1,h2,h3]
 match l,h with
 | a::b::c::d::l,_=>rfl
theorem body_parse (l:List Nat) (hb:∀ x∈l,x < 256) (hl:l.length=128) (hm:num (l.take 2)=21587) (hr:(parse l).right=true):body (parse l)=l.take 124:=by
 have hs:=right_spec hr
 have e:=split124 l hl
 have h0:(l.getD 0 0) < 256:=by
  rw [List.getD_eq_getElem?_getD,List.getElem?_eq_getElem (by omega)]; exact hb _ (List.getElem_mem _)
 have h1:(l.getD 1 0) < 256:=by
  rw [List.getD_eq_getElem?_getD,List.getElem?_eq_getElem (by omega)]; exact hb _ (List.getElem_mem _)
 have hm2:l.getD 0 0+256*(l.getD 1 0+256*0)=21587:=by
  rw [e] at hm
  exact hm
 have m0:l.getD 0 0=83:=by omega
 have m1:l.getD 1 0=84:=by omega
 have q4:(numI ((l.drop 4).take 4)).toNat=num ((l.drop 4).take 4):=numI_low _ (fun x hx=>hb x (List.mem_of_mem_drop (List.mem_of_mem_take hx))) (by rw [List.length_take]; omega) hs.2.2.2.2.1
 have q8:(numI ((l.drop 8).take 8)).toNat=num ((l.drop 8).take 8):=numI_low _ (fun x hx=>hb x (List.mem_of_mem_drop (List.mem_of_mem_take hx))) (by rw [List.length_take]; omega) hs.2.2.2.2.2.2.1
 have r4:=take_low l hb 4 4 (by omega)
 have r8:=take_low l hb 8 8 (by omega)
 have et:l.take 124=[l.getD 0 0,l.getD 1 0,l.getD 2 0,l.getD 3 0]++((l.drop 4).take 4++((l.drop 8).take 8++(l.drop 16).take 108)):=by
  conv=>lhs; rw [e]
  rw [<- List.append_assoc ((l.drop 8).take 8),<- List.append_assoc ((l.drop 4).take 4),<- List.append_assoc [_,_,_,_],List.take_append_of_le_length (by simp; omega),List.take_of_length_le (by simp; omega)]
 rw [et,m0,m1]
 unfold body parse
 simp only
 rw [q4,q8,r4,r8]
 rfl
theorem get_ref (l:List Nat) (hb:∀ x∈l,x < 256) [Decidable (refOk l)]:get l=if refOk l then some (parse l) else none:=by
 unfold get
 by_cases h:refOk l
 ·
  obtain ⟨h1,h2,h3,h4⟩:=h
  have e:=body_parse l hb h1 h2 h4
  have hp:put (parse l)=l:=by
   rw [put,if_pos h4,bytes,e,h3]
   have:=low_num (l.drop 124) (fun x hx=>hb x (List.mem_of_mem_drop hx))
   rw [List.length_drop,h1] at this
   rw [show (128 - 124:Nat)=4 by rfl] at this
   rw [this,List.take_append_drop]
  rw [if_pos ⟨h1,hp⟩,if_pos ⟨h1,h2,h3,h4⟩]
 ·
  rw [if_neg h,if_neg]
  rintro ⟨h1,h2⟩
  apply h
  by_cases hr:(parse l).right=true
  ·
   rw [put,if_pos hr] at h2
   have hl:(parse l).data.length=108:=by simp only [parse,List.length_take,List.length_drop]; omega
   have hok:(parse l).Ok:=⟨hl,fun x hx=>hb x (List.mem_of_mem_drop (List.mem_of_mem_take hx))⟩
   have hbl:=body_len _ hok
   have t1:l.take 124=body (parse l):=by
    conv=>lhs; rw [<- h2]
    unfold bytes
    rw [List.take_append_of_le_length (by omega),List.take_of_length_le (by omega)]
   have t2:l.drop 124=low 4 (Crc.sum (body (parse l))):=by
    conv=>lhs; rw [<- h2]
    unfold bytes
    rw [List.drop_append_of_le_length (by omega),List.drop_of_length_le (by omega),List.nil_append]
   refine ⟨h1,?_,?_,hr⟩
   ·
    have:l.take 2=[83,84]:=by
     conv=>lhs; rw [<- h2]
     rfl
    rw [this]; rfl
   ·
    rw [t1,t2,num_low,Nat.mod_eq_of_lt]
    have:=Crc.sum_bd (body (parse l))
    exact this
  ·
   rw [put,if_neg hr] at h2; rw [<- h2] at h1; cases h1
end Frm
end Go.Proofs.YtgjnnbomnoafcaaGreatDoor
