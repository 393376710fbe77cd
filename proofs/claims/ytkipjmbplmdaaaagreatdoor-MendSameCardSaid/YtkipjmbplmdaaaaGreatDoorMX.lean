/- Texts of one proof, joined: VolCut, Online, GtA, GtB, GtC, GtD, GtE, GtF. -/
import Derived.Test.YtkipjmbplmdaaaaGreatDoorMT
import Derived.Test.YtkipjmbplmdaaaaGreatDoorMI
set_option linter.unusedVariables false
set_option linter.unusedSimpArgs false
namespace Go.Proofs.YtkipjmbplmdaaaaGreatDoor
set_option linter.unusedVariables false
structure Pc (c:Cfg) (d:Nat) (J:Nat->Rcd->Prop) (F:Nat->Int × List (List Nat)->Prop) (q:Nat) (b:List Nat):Prop where
 sup:q=0->b=(c.block d).bytes
 jr:∀ s i,s < c.slots.toNat->i < c.k.toNat->q=jsecN c s i->∃ x,J s x/\b=(x.frm i).bytes
 st:∀ s,s < c.stripes.toNat->q=ssecN c s->∃ y,F s y/\b=(sfrm s y.1 d (sfrag c y.2 d)).bytes
namespace Pc
variable {c:Cfg} {d:Nat} {J J':Nat->Rcd->Prop} {F F':Nat->Int × List (List Nat)->Prop}
theorem mono {q:Nat} {b:List Nat} (h:Pc c d J F q b) (hJ:∀ s x,s < c.slots.toNat->J s x->∃ y,J' s y/\∀ i,i < c.k.toNat->x.frm i=y.frm i) (hF:∀ s y,s < c.stripes.toNat->F s y->F' s y):Pc c d J' F' q b :=
 ⟨h.sup,fun s i hs hi e=>by
  obtain ⟨x,h1,h2⟩:=h.jr s i hs hi e
  obtain ⟨y,h3,h4⟩:=hJ s x hs h1
  exact ⟨y,h3,by rw [h2,h4 i hi]⟩,fun s hs e=>by
  obtain ⟨y,h1,h2⟩:=h.st s hs e
  exact ⟨y,hF s y hs h1,h2⟩⟩
theorem slot {s i:Nat} {x:Rcd} (hs:s < c.slots.toNat) (hi:i < c.k.toNat) (hx:J s x):Pc c d J F (jsecN c s i) (x.frm i).bytes :=
 ⟨fun e=>absurd e (jsec_pos c s i),fun t j ht hj e=>by
  obtain ⟨rfl,rfl⟩:=jsecN_inj hi hj e
  exact ⟨x,hx,rfl⟩,fun t ht e=>absurd e (Zcb hs hi)⟩
theorem stripe {s:Nat} {y:Int × List (List Nat)} (hy:F s y):Pc c d J F (ssecN c s) (sfrm s y.1 d (sfrag c y.2 d)).bytes :=
 ⟨fun e=>absurd e (Zct c s),fun t j ht hj e=>absurd e.symm (Zcb ht hj),fun t ht e=>by
  have:=ssecN_inj e
  subst this
  exact ⟨y,hy,rfl⟩⟩
end Pc
structure PCd (D:Dsk) (d:Nat) (c:Cfg) (m:Nat) (J:Nat->Rcd->Prop) (F:Nat->Int × List (List Nat)->Prop):Prop where
 len:D.l.length=m
 alive:D.dead=false
 rot:∀ q,D.rot q=false
 base:∀ q,q < m->Pc c d J F q (D.l.getD q [])
 wts:∀ q b,D.waits q=some b->Pc c d J F q b
namespace PCd
variable {D:Dsk} {d:Nat} {c:Cfg} {m:Nat} {J J':Nat->Rcd->Prop} {F F':Nat->Int × List (List Nat)->Prop}
theorem mono (h:PCd D d c m J F) (hJ:∀ s x,s < c.slots.toNat->J s x->∃ y,J' s y/\∀ i,i < c.k.toNat->x.frm i=y.frm i) (hF:∀ s y,s < c.stripes.toNat->F s y->F' s y):PCd D d c m J' F' :=
 ⟨h.len,h.alive,h.rot,fun q hq=>(h.base q hq).mono hJ hF,fun q b hb=>(h.wts q b hb).mono hJ hF⟩
theorem read (h:PCd D d c m J F) {q:Nat} (hq:q < m):Pc c d J F q (D.read q):=by
 unfold Dsk.read
 rcases e:D.waits q with _ | b
 ·
  exact h.base q hq
 ·
  exact h.wts q b e
theorem write (h:PCd D d c m J F) {q:Nat} {b:List Nat} (hb:Pc c d J F q b):PCd (D.write q b) d c m J F:=by
 refine ⟨h.len,h.alive,h.rot,h.base,fun p y hy=>?_⟩
 have hy:(if p=q then some b else D.waits p)=some y:=hy
 by_cases e:p=q
 ·
  subst e; rw [if_pos rfl] at hy; cases hy; exact hb
 ·
  rw [if_neg e] at hy; exact h.wts p y hy
theorem settle (h:PCd D d c m J F) (g:Nat->Bool):PCd (D.settle g) d c m J F:=by
 refine ⟨by rw [Dsk.settle_len]; exact h.len,h.alive,fun q=>?_,fun q hq=>?_,fun q b hb=>by cases hb⟩
 ·
  show (if (g q && (D.waits q).isSome)=true then false else D.rot q)=false
  split
  ·
   rfl
  ·
   exact h.rot q
 ·
  have e:(D.settle g).l.getD q []=(D.settle g).read q:=rfl
  rw [e,Dsk.settle_read D g _ (by rw [h.len]; exact hq)]
  split
  ·
   exact h.read hq
  ·
   exact h.base q hq
end PCd
structure PC (R:Rck) (c:Cfg) (m:Nat) (J:Nat->Rcd->Prop) (F:Nat->Int × List (List Nat)->Prop):Prop where
 len:R.l.length=c.n.toNat
 dsk:∀ d:Nat,d < c.n.toNat->PCd (R.dsk d) d c m J F
namespace PC
variable {R:Rck} {c:Cfg} {m:Nat} {J J':Nat->Rcd->Prop} {F F':Nat->Int × List (List Nat)->Prop}
theorem mono (h:PC R c m J F) (hJ:∀ s x,s < c.slots.toNat->J s x->∃ y,J' s y/\∀ i,i < c.k.toNat->x.frm i=y.frm i) (hF:∀ s y,s < c.stripes.toNat->F s y->F' s y):PC R c m J' F':=⟨h.len,fun d hd=>(h.dsk d hd).mono hJ hF⟩
theorem of_l (h:PC R c m J F) {R':Rck} (e:R'.l=R.l):PC R' c m J F:=⟨by rw [e]; exact h.len,fun d hd=>by unfold Rck.dsk; rw [e]; exact h.dsk d hd⟩
theorem set (h:PC R c m J F) {i:Nat} (hi:i < c.n.toNat) {D:Dsk} (hD:PCd D i c m J F):PC (R.setD i D) c m J F:=⟨by simp [Rck.setD,h.len],fun d hd=>by
 rw [Rck.dsk_setD R h.len hi]
 split
 ·
  rename_i e; rw [e]; exact hD
 ·
  exact h.dsk d hd⟩
theorem on (h:PC R c m J F):∀ d∈R.online,d < c.n.toNat:=fun d hd=>by
 unfold Rck.online at hd
 have:=List.mem_range.1 (List.mem_filter.1 hd).1
 rw [h.len] at this; exact this
theorem write (h:PC R c m J F) {i q:Nat} (hi:i < c.n.toNat) {b:List Nat} (hb:Pc c i J F q b):PC (R.write i q b).2 c m J F:=by
 unfold Rck.write
 split
 ·
  exact (h.of_l (Rck.asked_lP _ _ _)).set hi (by rw [Int.toNat_natCast]; exact (h.dsk i hi).write hb)
 ·
  exact h.of_l (Rck.asked_lP _ _ _)
theorem flush (h:PC R c m J F) {i:Nat} (hi:i < c.n.toNat):PC (R.flush i).2 c m J F:=by
 unfold Rck.flush
 split
 ·
  exact (h.of_l (Rck.asked_lP _ _ _)).set hi ((h.dsk i hi).settle _)
 ·
  exact h.of_l (Rck.asked_lP _ _ _)
theorem flushes (h:PC R c m J F) {l:List Nat} (hl:∀ d∈l,d < c.n.toNat):PC (each (fun R (d:Nat)=>R.flush d) l R).2 c m J F :=
 each_inv (f:=fun R (d:Nat)=>R.flush d) (fun R=>PC R c m J F) l (fun d hd R h=>h.flush (hl d hd)) R h
theorem jput (h:PC R c m J F) (hc:c.Good) {slot:Nat} {x:Rcd} (hs:slot < c.slots.toNat) (hx:x.Fit c slot) (hJ:J slot x):PC (R.jput c (slot:Int) x).2 c m J F:=by
 have hn1:=hc.n1; have hk1:=hc.k1
 have h1:=each_inv (f:=Rck.jrow c (slot:Int) x) (fun R=>PC R c m J F) R.online (fun d hd R' h'=>by
  have hd:=h.on d hd
  refine each_inv (f:=fun R i=>R.write d (Rck.jsec c slot i) (x.frm i).put) (fun R=>PC R c m J F) (List.range c.k.toNat) (fun i hi R h=>?_) R' h'
  have hi:=List.mem_range.1 hi
  rw [jsec_eq hc slot i,hx.put hc (by omega)]
  exact h.write hd (Pc.slot hs hi hJ)) R h
 unfold Rck.jput
 split
 ·
  exact h1
 ·
  exact h1.flushes h1.on
theorem sputs (h:PC R c m J F) (hc:c.Good) {s:Nat} {gen:Int} {l:List (List Nat)} (hx:SFit c s gen l) (hF:F s (gen,l)):PC (R.sputs c (s:Int) gen l).2 c m J F:=by
 have h1:=each_inv (f:=Rck.srow c (s:Int) gen l) (fun R=>PC R c m J F) R.online (fun d hd R' h'=>by
  have hd:=h.on d hd
  unfold Rck.srow
  rw [ssec_eq hc s,hx.put hc hd]
  exact h'.write hd (Pc.stripe (y:=(gen,l)) hF)) R h
 unfold Rck.sputs
 split
 ·
  exact h1
 ·
  exact h1.flushes h1.on
end PC
structure GH (R:Rck) (c:Cfg) (m:Nat) (J:Nat->Rcd->Prop) (F:Nat->Int × List (List Nat)->Prop):Prop where
 pc:PC R c m J F
 good:c.Good
 fit:c.sectors<=(m:Int)
 live:Live R c.n.toNat m
 idle:∀ d:Nat,d < c.n.toNat->∀ q,(R.dsk d).waits q=none
namespace GH
variable {R:Rck} {c:Cfg} {m:Nat} {J J':Nat->Rcd->Prop} {F F':Nat->Int × List (List Nat)->Prop}
theorem of_vh {j:Nat->Option Rcd} {f:Strs} (h:VH R c m true j f) (hj:∀ s,s < c.slots.toNat->∃ x,j s=some x) (hf:∀ s,s < c.stripes.toNat->∃ y,f s=some y) (hms:(m:Int)=c.sectors):PC R c m (fun s x=>j s=some x) fun s y=>f s=some y:=by
 refine ⟨h.pow.len,fun d hd=>⟨(h.dsk d hd).len,(h.dsk d hd).alive,(h.dsk d hd).rot,fun q hq=>?_,fun q b hb=>?_⟩⟩
 ·
  have e:(R.dsk d).l.getD q []=(R.dsk d).read q:=by unfold Dsk.read; rw [(h.dsk d hd).waits q]; rfl
  rw [e]
  refine ⟨fun q0=>by rw [q0]; exact (h.dsk d hd).sup rfl,fun s i hs hi e=>?_,fun s hs e=>?_⟩
  ·
   obtain ⟨x,hx⟩:=hj s hs
   exact ⟨x,hx,by rw [e]; exact (h.dsk d hd).jr s x i hs hx hi⟩
  ·
   obtain ⟨y,hy⟩:=hf s hs
   exact ⟨y,hy,by rw [e]; exact (h.dsk d hd).st s y.1 y.2 hs hy⟩
 ·
  rw [(h.dsk d hd).waits q] at hb; cases hb
theorem vh {j:Nat->Option Rcd} {f:Strs} (h:GH R c m (fun s x=>j s=some x) fun s y=>f s=some y):VH R c m true j f:=by
 have h0:0 < m:=by
  have h1:=Za1 h.good h.fit (s:=0) (by have:=h.good.st0; omega)
  omega
 refine ⟨Pow.of h.live fun d hd=>(h.pc.dsk d hd).alive,h.good,h.fit,fun d hd=>⟨(h.pc.dsk d hd).len,(h.pc.dsk d hd).alive,h.idle d hd,(h.pc.dsk d hd).rot,fun _=>((h.pc.dsk d hd).read h0).sup rfl,fun s x i hs hx hi=>?_,fun s g l hs hy=>?_⟩⟩
 ·
  obtain ⟨y,h1,h2⟩:=((h.pc.dsk d hd).read (Zbe h.good h.fit hs hi)).jr s i hs hi rfl
  rw [hx] at h1; cases h1; exact h2
 ·
  obtain ⟨y,h1,h2⟩:=((h.pc.dsk d hd).read (Za1 h.good h.fit hs)).st s hs rfl
  rw [hy] at h1; cases h1; exact h2
end GH
end Go.Proofs.YtkipjmbplmdaaaaGreatDoor
namespace Go.Proofs.YtkipjmbplmdaaaaGreatDoor
set_option linter.unusedVariables false
structure On (n m d:Nat) (f:Rck->Option Err × Rck) (g:Dsk->Dsk):Prop where
 len:∀ D,D.l.length=m->(g D).l.length=m
 dead:∀ D,(g D).dead=D.dead
 run:∀ R,Live R n m->(R.dsk (d:Nat)).dead=false->f R=(none,R.setD (d:Nat) (g (R.dsk (d:Nat))))
theorem Live.setD_self {R:Rck} {n m d:Nat} (h:Live R n m) (hd:d < n):R.setD (d:Nat) (R.dsk (d:Nat))=R:=by
 have hl:d < R.l.length:=by rw [h.len]; exact hd
 rcases R with ⟨l,o,fu⟩
 have hl:d < l.length:=hl
 show Rck.mk (l.set d (l.getD d default)) o fu=_
 rw [List.getD_eq_getElem?_getD,List.getElem?_eq_getElem hl,Option.getD_some,List.set_getElem_self]
theorem Rck.setD_twice (R:Rck) (d:Nat) (D E:Dsk):(R.setD (d:Nat) D).setD (d:Nat) E=R.setD (d:Nat) E:=by
 show Rck.mk ((R.l.set d D).set d E) R.off R.fuse=Rck.mk (R.l.set d E) R.off R.fuse
 rw [List.set_set]
theorem On.rows {α:Type} {n m d:Nat} {f:Rck->α->Option Err × Rck} {g:α->Dsk->Dsk} (hd:d < n):∀ (l:List α),(∀ i∈l,On n m d (fun R=>f R i) (g i))->On n m d (each f l) (fun D=>l.foldl (fun D i=>g i D) D)
 | [],_=>⟨fun D h=>h,fun D=>rfl,fun R h ha=>by
   show (none,R)=(none,R.setD (d:Nat) (R.dsk (d:Nat)))
   rw [h.setD_self hd]⟩
 | i::l,hl=>by
  have h1:=hl i List.mem_cons_self
  have h2:=On.rows hd l fun j hj=>hl j (List.mem_cons_of_mem _ hj)
  refine ⟨fun D h=>h2.len _ (h1.len D h),fun D=>(h2.dead _).trans (h1.dead D),fun R h ha=>?_⟩
  have e1:f R i=_:=h1.run R h ha
  obtain ⟨l1,k1⟩:=h.setD (g i (R.dsk (d:Nat))) (h1.len _ (h.secs d hd)) hd
  have e2:=h2.run _ l1 (by rw [k1,if_pos rfl,h1.dead]; exact ha)
  rw [k1,if_pos rfl,Rck.setD_twice] at e2
  rw [Zb7 e1,e2]
  rfl
theorem On.write {n m d s:Nat} {b:List Nat} (hd:d < n) (hs:s < m) (hb:b.length=128):On n m d (fun R=>R.write (d:Nat) (s:Nat) b) (fun D=>D.write s b) :=
 ⟨fun D h=>h,fun D=>rfl,fun R h ha=>h.write hd ha hs hb⟩
theorem On.flush {n m d:Nat} (hd:d < n):On n m d (fun R=>R.flush (d:Nat)) Dsk.flush:=⟨fun D h=>by rw [Dsk.flush_len]; exact h,fun D=>rfl,fun R h ha=>h.flush hd ha⟩
theorem On.all {n m:Nat} {f:Rck->Nat->Option Err × Rck} {g:Nat->Dsk->Dsk}:∀ (l:List Nat),l.Nodup->(∀ d∈l,d < n/\On n m d (fun R=>f R d) (g d))->∀ R,Live R n m->(∀ d∈l,(R.dsk (d:Nat)).dead=false) ->
  ∃ R',each f l R=(none,R')/\Live R' n m/\∀ d:Nat,R'.dsk (d:Nat)=if d∈l then g d (R.dsk (d:Nat)) else R.dsk (d:Nat)
 | [],_,_,R,h,_=>⟨R,rfl,h,fun d=>by rw [if_neg (by simp)]⟩
 | i::l,nd,hl,R,h,ha=>by
  obtain ⟨hi,h1⟩:=hl i List.mem_cons_self
  have nd1:=List.nodup_cons.1 nd
  obtain ⟨l1,k1⟩:=h.setD (g i (R.dsk (i:Nat))) (h1.len _ (h.secs i hi)) hi
  have e1:f R i=_:=h1.run R h (ha i List.mem_cons_self)
  obtain ⟨R',e2,l2,k2⟩:=On.all l nd1.2 (fun d hd=>hl d (List.mem_cons_of_mem _ hd)) _ l1 (fun d hd=>by
   rw [k1]
   split
   ·
    rename_i e; rw [h1.dead,<- e]; exact ha d (List.mem_cons_of_mem _ hd)
   ·
    exact ha d (List.mem_cons_of_mem _ hd))
  refine ⟨R',by rw [Zb7 e1,e2],l2,fun d=>?_⟩
  rw [k2,k1]
  by_cases e:d=i
  ·
   subst e
   rw [if_neg nd1.1,if_pos rfl,if_pos List.mem_cons_self]
  ·
   rw [if_neg e]
   by_cases q:d∈l
   ·
    rw [if_pos q,if_pos (List.mem_cons_of_mem _ q)]
   ·
    rw [if_neg q,if_neg (by simp [e,q])]
namespace Live
variable {R:Rck} {c:Cfg} {n m:Nat}
theorem on_mem (h:Live R n m) {d:Nat}:d∈R.online↔d < n/\(R.dsk (d:Nat)).dead=false:=by
 unfold Rck.online
 rw [List.mem_filter,List.mem_range,h.len]
 constructor
 ·
  rintro ⟨h1,h2⟩
  rw [h.up h1] at h2
  exact ⟨h1,by simpa using h2⟩
 ·
  rintro ⟨h1,h2⟩
  exact ⟨h1,by rw [h.up h1,h2]; rfl⟩
theorem on_nodup (R:Rck):R.online.Nodup:=List.nodup_range.filter _
theorem ups (h:Live R n m) {f:Rck->Nat->Option Err × Rck} {g:Nat->Dsk->Dsk} (hf:∀ d,d < n->On n m d (fun R=>f R d) (g d)) :
  ∃ R',each f R.online R=(none,R')/\Live R' n m/\R'.online=R.online/\∀ d:Nat,d < n->R'.dsk (d:Nat)=if (R.dsk (d:Nat)).dead then R.dsk (d:Nat) else g d (R.dsk (d:Nat)):=by
 obtain ⟨R',e,h',k⟩:=On.all (f:=f) (g:=g) R.online (on_nodup R) (fun d hd=>⟨(h.on_mem.1 hd).1,hf d (h.on_mem.1 hd).1⟩) R h fun d hd=>(h.on_mem.1 hd).2
 have kd:∀ d:Nat,d < n->R'.dsk (d:Nat)=if (R.dsk (d:Nat)).dead then R.dsk (d:Nat) else g d (R.dsk (d:Nat)):=fun d hd=>by
  rw [k]
  rcases ha:(R.dsk (d:Nat)).dead with _ | _
  ·
   rw [if_pos (h.on_mem.2 ⟨hd,ha⟩)]; rfl
  ·
   rw [if_neg (fun q=>by have:=(h.on_mem.1 q).2; rw [ha] at this; cases this)]; rfl
 refine ⟨R',e,h',?_,kd⟩
 unfold Rck.online
 rw [h'.len,h.len]
 refine List.filter_congr fun d hd=>?_
 have hd:=List.mem_range.1 hd
 rw [h'.up hd,h.up hd,kd d hd]
 rcases ha:(R.dsk (d:Nat)).dead with _ | _
 ·
  simp only [Bool.false_eq_true,if_false]; rw [(hf d hd).dead,ha]
 ·
  simp [ha]
theorem jput (h:Live R c.n.toNat m) (hc:c.Good) (hm:c.sectors<=(m:Int)) {slot:Nat} {x:Rcd} (hs:slot < c.slots.toNat) (hx:x.Fit c slot) :
  ∃ R',R.jput c (slot:Int) x=(none,R')/\Live R' c.n.toNat m/\∀ d:Nat,d < c.n.toNat->R'.dsk (d:Nat)=if (R.dsk (d:Nat)).dead then R.dsk (d:Nat) else ((R.dsk (d:Nat)).jw c slot x).flush:=by
 have hk8:c.k.toNat<=8:=by have:=hc.k1; have:=hc.n1; omega
 obtain ⟨R1,e1,l1,o1,k1⟩:=h.ups (f:=Rck.jrow c (slot:Int) x) (g:=fun _ D=>D.jw c slot x) fun d hd=>by
  refine On.rows (f:=fun R i=>R.write d (Rck.jsec c slot i) (x.frm i).put) (g:=fun i D=>D.write (jsecN c slot i) (x.frm i).bytes) hd (List.range c.k.toNat) fun i hi=>?_
  have hi:=List.mem_range.1 hi
  rw [jsec_eq hc slot i,hx.put hc (by omega)]
  exact On.write hd (Zbe hc hm hs hi) (hx.len i)
 obtain ⟨R2,e2,l2,o2,k2⟩:=l1.ups (f:=fun R (d:Nat)=>R.flush (d:Nat)) (g:=fun _ D=>D.flush) fun d hd=>On.flush hd
 refine ⟨R2,?_,l2,fun d hd=>?_⟩
 ·
  unfold Rck.jput
  rw [e1]
  exact e2
 ·
  rw [k2 d hd,k1 d hd]
  rcases ha:(R.dsk (d:Nat)).dead with _ | _
  ·
   have hdw:((R.dsk (d:Nat)).jw c slot x).dead=false:=by rw [show ((R.dsk (d:Nat)).jw c slot x).dead=(R.dsk (d:Nat)).dead from Dsk.jwf_dead _]; exact ha
   simp only [Bool.false_eq_true,if_false,hdw]
  ·
   simp only [if_true,ha]
theorem sputs (h:Live R c.n.toNat m) (hc:c.Good) (hm:c.sectors<=(m:Int)) {s:Nat} {gen:Int} {l:List (List Nat)} (hx:SFit c s gen l) :
  ∃ R',R.sput c (s:Int) gen l=(none,R')/\Live R' c.n.toNat m/\∀ d:Nat,d < c.n.toNat->R'.dsk (d:Nat)=if (R.dsk (d:Nat)).dead then R.dsk (d:Nat) else ((R.dsk (d:Nat)).sw c s gen l d).flush:=by
 obtain ⟨R1,e1,l1,o1,k1⟩:=h.ups (f:=Rck.srow c (s:Int) gen l) (g:=fun d D=>D.sw c s gen l d) fun d hd=>by
  show On c.n.toNat m d (fun R=>R.write d (Rck.ssec c s) (sfrm s gen d (sfrag c l d)).put) _
  rw [ssec_eq hc,hx.put hc hd]
  exact On.write hd (Za1 hc hm hx.st) (hx.len hc d)
 obtain ⟨R2,e2,l2,o2,k2⟩:=l1.ups (f:=fun R (d:Nat)=>R.flush (d:Nat)) (g:=fun _ D=>D.flush) fun d hd=>On.flush hd
 refine ⟨R2,?_,l2,fun d hd=>?_⟩
 ·
  rw [(⟨h,hc,hm⟩:Super R c m).sput_eq hx]
  have e3:R.sputs c (s:Int) gen l=(none,R2):=by
   unfold Rck.sputs
   rw [e1]
   exact e2
  rw [e3]; rfl
 ·
  rw [k2 d hd,k1 d hd]
  rcases ha:(R.dsk (d:Nat)).dead with _ | _
  ·
   have hdw:((R.dsk (d:Nat)).sw c s gen l d).dead=false:=ha
   simp only [Bool.false_eq_true,if_false,hdw]
  ·
   simp only [if_true,ha]
end Live
end Go.Proofs.YtkipjmbplmdaaaaGreatDoor
namespace Go.Proofs.YtkipjmbplmdaaaaGreatDoor
set_option linter.unusedVariables false
abbrev JR:=Nat->Nat->Nat->Option Rcd
abbrev ST:=Nat->Nat->Option (Int × List (List Nat))
structure GTd (D:Dsk) (d:Nat) (c:Cfg) (m:Nat) (u sp:Bool) (jr:Nat->Nat->Option Rcd) (st:Nat->Option (Int × List (List Nat))):Prop where
 len:D.l.length=m
 dead:D.dead=!u
 waits:∀ q,D.waits q=none
 rot:∀ q,D.rot q=true->Frm.get (D.read q)=none
 rotm:∀ q,m<=q->D.rot q=false
 sup1:sp=true->D.read 0=(c.block d).bytes
 sup0:sp=false->Frm.get (D.read 0)=none
 jr1:∀ s i x,s < c.slots.toNat->i < c.k.toNat->jr s i=some x->D.read (jsecN c s i)=(x.frm i).bytes
 jr0:∀ s i,s < c.slots.toNat->i < c.k.toNat->jr s i=none->Frm.get (D.read (jsecN c s i))=none
 st1:∀ s y,s < c.stripes.toNat->st s=some y->D.read (ssecN c s)=(sfrm s y.1 d (sfrag c y.2 d)).bytes
 st0:∀ s,s < c.stripes.toNat->st s=none->Frm.get (D.read (ssecN c s))=none
 gone:u=false->sp=false/\(∀ s i,jr s i=none)/\∀ s,st s=none
structure GT (R:Rck) (c:Cfg) (m:Nat) (U sp:Nat->Bool) (jr:JR) (st:ST):Prop where
 live:Live R c.n.toNat m
 good:c.Good
 fit:c.sectors<=(m:Int)
 dsk:∀ d:Nat,d < c.n.toNat->GTd (R.dsk (d:Nat)) d c m (U d) (sp d) (jr d) (st d)
 jfit:∀ d s i x,d < c.n.toNat->s < c.slots.toNat->i < c.k.toNat->jr d s i=some x->x.Fit c s/\(x.blocks.length:Int)=c.k
 sfit:∀ d s y,d < c.n.toNat->s < c.stripes.toNat->st d s=some y->SFit c s y.1 y.2
theorem exists_max {α:Type} (key:α->Int) (B:Int) (P:α->Prop) (hB:∀ x,P x->key x<=B):∀ (n:Nat) (x:α),P x->(B - key x).toNat<=n->∃ y,P y/\∀ z,P z->key z<=key y
 | 0,x,hx,h=>⟨x,hx,fun z hz=>by have:=hB z hz; have:=hB x hx; omega⟩
 | n+1,x,hx,h=>by
  by_cases q:∃ z,P z/\key x < key z
  ·
   obtain ⟨z,hz,hlt⟩:=q
   exact exists_max key B P hB n z hz (by have:=hB z hz; omega)
  ·
   exact ⟨x,hx,fun z hz=>Classical.byContradiction fun q2=>q ⟨z,hz,by omega⟩⟩
namespace GTd
variable {D:Dsk} {d:Nat} {c:Cfg} {m:Nat} {u sp:Bool} {jr:Nat->Nat->Option Rcd} {st:Nat->Option (Int × List (List Nat))}
theorem jput (h:GTd D d c m true sp jr st) (hc:c.Good) (hm:c.sectors<=(m:Int)) {slot:Nat} {x:Rcd} (hs:slot < c.slots.toNat) (hx:x.Fit c slot) :
  GTd ((D.jw c slot x).flush) d c m true sp (fun s i=>if s=slot then some x else jr s i) st:=by
 have hk8:c.k.toNat<=8:=by have:=hc.k1; have:=hc.n1; omega
 have h0:0 < m:=by
  have h1:=Zbe hc hm hs (i:=0) (by have:=hc.k0; omega)
  omega
 have r0:(D.jw c slot x).flush.read 0=D.read 0:=Dsk.jwf_ne D (by rw [h.len]; exact h0) (fun i _ q=>jsec_pos c slot i q.symm)
 have ro:∀ s i,s < c.slots.toNat->i < c.k.toNat->s≠slot->(D.jw c slot x).flush.read (jsecN c s i)=D.read (jsecN c s i):=fun s i hs' hi e =>
  Dsk.jwf_ne D (by rw [h.len]; exact Zbe hc hm hs' hi) fun i' hi' q=>e (jsecN_inj hi hi' q).1
 have rs:∀ s,s < c.stripes.toNat->(D.jw c slot x).flush.read (ssecN c s)=D.read (ssecN c s):=fun s hs' =>
  Dsk.jwf_ne D (by rw [h.len]; exact Za1 hc hm hs') fun i hi q=>Zcb hs hi q.symm
 have ra:∀ i,i < c.k.toNat->(D.jw c slot x).flush.read (jsecN c slot i)=(x.frm i).bytes:=fun i hi=>Dsk.jwf_at D hi (by rw [h.len]; exact Zbe hc hm hs hi)
 refine ⟨by rw [Dsk.jwf_len]; exact h.len,by rw [Dsk.jwf_dead]; exact h.dead,fun q=>rfl,fun q hq=>?_,fun q hq=>Dsk.jwf_rot D q (h.rotm q hq),fun e=>by rw [r0]; exact h.sup1 e,fun e=>by rw [r0]; exact h.sup0 e,fun s i y hs' hi e=>?_,fun s i hs' hi e=>?_,fun s y hs' e=>by rw [rs s hs']; exact h.st1 s y hs' e,fun s hs' e=>by rw [rs s hs']; exact h.st0 s hs' e,fun e=>by cases e⟩
 ·
  by_cases hqm:q < D.l.length
  ·
   by_cases hw:∃ i,i < c.k.toNat/\q=jsecN c slot i
   ·
    obtain ⟨i,hi,rfl⟩:=hw
    obtain ⟨h1,_,h3,h4,_⟩:=Dsk.jw_facts (c:=c) (slot:=slot) (x:=x) D c.k.toNat D
    have hq:(if (true && ((D.jw c slot x).waits (jsecN c slot i)).isSome)=true then false else (D.jw c slot x).rot (jsecN c slot i))=true:=hq
    have e:(D.jw c slot x).waits (jsecN c slot i)=some (x.frm i).bytes:=h4 i hi
    rw [e] at hq
    simp at hq
   ·
    rw [Dsk.jwf_ne D hqm fun i hi e=>hw ⟨i,hi,e⟩]
    refine h.rot q ?_
    rcases hr:D.rot q with _ | _
    ·
     rw [Dsk.jwf_rot D q hr] at hq; cases hq
    ·
     rfl
  ·
   have e:(D.jw c slot x).flush.read q=[]:=by
    have hl:(D.jw c slot x).flush.l.length=D.l.length:=Dsk.jwf_len D
    unfold Dsk.read
    rw [show (D.jw c slot x).flush.waits q=none from rfl]
    show (D.jw c slot x).flush.l.getD q []=[]
    rw [List.getD_eq_getElem?_getD,List.getElem?_eq_none (by omega)]; rfl
   rw [e]; exact Frm.get_nil
 ·
  by_cases q:s=slot
  ·
   subst q
   have e:(if s=s then some x else jr s i)=some y:=e
   rw [if_pos rfl] at e; cases e
   exact ra i hi
  ·
   have e:(if s=slot then some x else jr s i)=some y:=e
   rw [if_neg q] at e
   rw [ro s i hs' hi q]
   exact h.jr1 s i y hs' hi e
 ·
  have e:(if s=slot then some x else jr s i)=none:=e
  by_cases q:s=slot
  ·
   rw [if_pos q] at e; cases e
  ·
   rw [if_neg q] at e
   rw [ro s i hs' hi q]
   exact h.jr0 s i hs' hi e
theorem sput (h:GTd D d c m true sp jr st) (hc:c.Good) (hm:c.sectors<=(m:Int)) {s:Nat} {gen:Int} {l:List (List Nat)} (hx:SFit c s gen l) :
  GTd ((D.sw c s gen l d).flush) d c m true sp jr (fun t=>if t=s then some (gen,l) else st t):=by
 have h0:0 < m:=by
  have h1:=Za1 hc hm hx.st
  omega
 have rd:∀ q,q < m->(D.sw c s gen l d).flush.read q=if q=ssecN c s then (sfrm s gen d (sfrag c l d)).bytes else D.read q:=fun q hq=>Dsk.sw_read D d q (by rw [h.len]; exact hq)
 refine ⟨by rw [Dsk.sw_len]; exact h.len,by rw [Dsk.sw_dead]; exact h.dead,fun q=>rfl,fun q hq=>?_,fun q hq=>Dsk.sw_rot D d q (h.rotm q hq),fun e=>?_,fun e=>?_,fun t i y ht hi e=>?_,fun t i ht hi e=>?_,fun t y ht e=>?_,fun t ht e=>?_,fun e=>by cases e⟩
 ·
  by_cases hqm:q < m
  ·
   rw [rd q hqm]
   by_cases e:q=ssecN c s
   ·
    subst e
    have hq:(if (true && ((D.sw c s gen l d).waits (ssecN c s)).isSome)=true then false else D.rot (ssecN c s))=true:=hq
    have:(D.sw c s gen l d).waits (ssecN c s)=some (sfrm s gen d (sfrag c l d)).bytes:=if_pos rfl
    rw [this] at hq; simp at hq
   ·
    rw [if_neg e]
    refine h.rot q ?_
    rcases hr:D.rot q with _ | _
    ·
     rw [Dsk.sw_rot D d q hr] at hq; cases hq
    ·
     rfl
  ·
   have e:(D.sw c s gen l d).flush.read q=[]:=by
    have hl:(D.sw c s gen l d).flush.l.length=D.l.length:=Dsk.sw_len D d
    have:=h.len
    unfold Dsk.read
    rw [show (D.sw c s gen l d).flush.waits q=none from rfl]
    show (D.sw c s gen l d).flush.l.getD q []=[]
    rw [List.getD_eq_getElem?_getD,List.getElem?_eq_none (by omega)]; rfl
   rw [e]; exact Frm.get_nil
 ·
  rw [rd 0 h0,if_neg (fun q=>Zct c s q.symm)]; exact h.sup1 e
 ·
  rw [rd 0 h0,if_neg (fun q=>Zct c s q.symm)]; exact h.sup0 e
 ·
  rw [rd _ (Zbe hc hm ht hi),if_neg (Zcb ht hi)]; exact h.jr1 t i y ht hi e
 ·
  rw [rd _ (Zbe hc hm ht hi),if_neg (Zcb ht hi)]; exact h.jr0 t i ht hi e
 ·
  rw [rd _ (Za1 hc hm ht)]
  have e:(if t=s then some (gen,l) else st t)=some y:=e
  by_cases q:t=s
  ·
   subst q
   rw [if_pos rfl] at e; cases e
   rw [if_pos rfl]
  ·
   rw [if_neg q] at e
   rw [if_neg fun z=>q (ssecN_inj z)]
   exact h.st1 t y ht e
 ·
  rw [rd _ (Za1 hc hm ht)]
  have e:(if t=s then some (gen,l) else st t)=none:=e
  by_cases q:t=s
  ·
   rw [if_pos q] at e; cases e
  ·
   rw [if_neg q] at e
   rw [if_neg fun z=>q (ssecN_inj z)]
   exact h.st0 t ht e
end GTd
namespace GT
variable {R:Rck} {c:Cfg} {m:Nat} {U sp:Nat->Bool} {jr:JR} {st:ST}
theorem super (h:GT R c m U sp jr st):Super R c m:=⟨h.live,h.good,h.fit⟩
theorem n0 (h:GT R c m U sp jr st):0 < c.n.toNat:=by have:=h.good.k0; have:=h.good.k1; omega
theorem k0 (h:GT R c m U sp jr st):0 < c.k.toNat:=by have:=h.good.k0; omega
theorem k8 (h:GT R c m U sp jr st):c.k.toNat<=8:=by have:=h.good.k1; have:=h.good.n1; omega
theorem m0 (h:GT R c m U sp jr st):0 < m:=by
 have h1:=Za1 h.good h.fit (s:=0) (by have:=h.good.st0; omega)
 omega
theorem up_of_jr (h:GT R c m U sp jr st) {d s i:Nat} {x:Rcd} (hd:d < c.n.toNat) (e:jr d s i=some x):U d=true:=by
 rcases hu:U d with _ | _
 ·
  have:=((h.dsk d hd).gone hu).2.1 s i
  rw [e] at this; cases this
 ·
  rfl
theorem up_of_st (h:GT R c m U sp jr st) {d s:Nat} {x:Int × List (List Nat)} (hd:d < c.n.toNat) (e:st d s=some x):U d=true:=by
 rcases hu:U d with _ | _
 ·
  have:=((h.dsk d hd).gone hu).2.2 s
  rw [e] at this; cases this
 ·
  rfl
theorem online (h:GT R c m U sp jr st):R.online=(List.range c.n.toNat).filter U:=by
 unfold Rck.online
 rw [h.live.len]
 refine List.filter_congr fun d hd=>?_
 have hd:=List.mem_range.1 hd
 rw [h.live.up hd,(h.dsk d hd).dead]; simp
theorem jg (h:GT R c m U sp jr st) {d s i:Nat} (hd:d < c.n.toNat) (hs:s < c.slots.toNat) (hi:i < c.k.toNat):(R.dsk (d:Nat)).jg c s i=(jr d s i).map fun x=>x.frm i:=by
 rcases e:jr d s i with _ | x
 ·
  exact Dsk.jg_none ((h.dsk d hd).jr0 s i hs hi e)
 ·
  have hu:=h.up_of_jr hd e
  exact Dsk.jg_has h.good (h.jfit d s i x hd hs hi e).1 (by have:=h.k8; omega) (by rw [(h.dsk d hd).dead,hu]; rfl) ((h.dsk d hd).jr1 s i x hs hi e)
theorem jgoods (h:GT R c m U sp jr st) {s i:Nat} (hs:s < c.slots.toNat) (hi:i < c.k.toNat) {f:Frm}:f∈R.jgoods c (s:Int) i↔∃ d x,d < c.n.toNat/\jr d s i=some x/\f=x.frm i:=by
 rw [Rck.jgoods_mem]
 constructor
 ·
  rintro ⟨d,hd,e⟩
  rw [h.super.jgood hd hs hi,h.jg hd hs hi] at e
  rcases q:jr d s i with _ | x
  ·
   rw [q] at e; cases e
  ·
   rw [q] at e
   exact ⟨d,x,hd,q,by cases e; rfl⟩
 ·
  rintro ⟨d,x,hd,e,rfl⟩
  exact ⟨d,hd,by rw [h.super.jgood hd hs hi,h.jg hd hs hi,e]; rfl⟩
theorem jslot (h:GT R c m U sp jr st) {s:Nat} (hs:s < c.slots.toNat) (hu:∀ d e i i' x y,d < c.n.toNat->e < c.n.toNat->i < c.k.toNat->i' < c.k.toNat->jr d s i=some x->jr e s i'=some y->x.seq=y.seq->x=y) :
  (∃ i,i < c.k.toNat/\(∀ d,d < c.n.toNat->jr d s i=none)/\R.jslot c (s:Int)=(Rcd.none_,false,0,some (.fault sJSlot s (.loss s 0 1)))) ∨
  ∃ x,(∃ d i,d < c.n.toNat/\i < c.k.toNat/\jr d s i=some x)/\(∀ d i y,d < c.n.toNat->i < c.k.toNat->jr d s i=some y->y.seq<=x.seq)/\(∀ i,i < c.k.toNat->∃ d x,d < c.n.toNat/\jr d s i=some x) ∧
   (((∀ i,i < c.k.toNat->∃ d,d < c.n.toNat/\jr d s i=some x)/\R.jslot c (s:Int)=(x,true,x.seq,none))\/((∃ i,i < c.k.toNat/\∀ d,d < c.n.toNat->jr d s i≠some x)/\R.jslot c (s:Int)=(Rcd.none_,false,x.seq,none))):=by
 have hk:=h.super.known hs
 by_cases hl:∃ i,i < c.k.toNat/\∀ d,d < c.n.toNat->jr d s i=none
 ·
  obtain ⟨i,hi,hn⟩:=hl
  refine .inl ⟨i,hi,hn,Rck.jslot_lost hk hi ?_⟩
  rcases q:R.jgoods c (s:Int) i with _ | ⟨f,l⟩
  ·
   rfl
  ·
   obtain ⟨d,x,hd,e,_⟩:=(h.jgoods hs hi).1 (show f∈R.jgoods c (s:Int) i by rw [q]; simp)
   rw [hn d hd] at e; cases e
 ·
  refine .inr ?_
  have hne:∀ i,i < c.k.toNat->∃ d x,d < c.n.toNat/\jr d s i=some x:=fun i hi=>Classical.byContradiction fun q=>hl ⟨i,hi,fun d hd=>by
   rcases e:jr d s i with _ | x
   ·
    rfl
   ·
    exact absurd ⟨d,x,hd,e⟩ q⟩
  obtain ⟨d0,x0,hd0,e0⟩:=hne 0 h.k0
  obtain ⟨x,⟨d1,i1,hd1,hi1,e1⟩,hmax⟩:=exists_max Rcd.seq 1152921504606846976 (fun x=>∃ d i,d < c.n.toNat/\i < c.k.toNat/\jr d s i=some x) (fun x ⟨d,i,hd,hi,e⟩=>(h.jfit d s i x hd hs hi e).1.seq1) _ x0 ⟨d0,0,hd0,h.k0,e0⟩ (Nat.le_refl _)
  have hge:∀ d i y,d < c.n.toNat->i < c.k.toNat->jr d s i=some y->y.seq<=x.seq:=fun d i y hd hi e=>hmax y ⟨d,i,hd,hi,e⟩
  obtain ⟨xf,xl⟩:=h.jfit d1 s i1 x hd1 hs hi1 e1
  refine ⟨x,⟨d1,i1,hd1,hi1,e1⟩,hge,hne,?_⟩
  by_cases hw:∀ i,i < c.k.toNat->∃ d,d < c.n.toNat/\jr d s i=some x
  ·
   refine .inl ⟨hw,Rck.jslot_full hk h.k0 xl xf.seq0 fun i hi=>⟨?_,fun f hf=>?_⟩⟩
   ·
    obtain ⟨d,hd,e⟩:=hw i hi
    exact ⟨x.frm i,(h.jgoods hs hi).2 ⟨d,x,hd,e,rfl⟩,rfl⟩
   ·
    obtain ⟨d,y,hd,e,rfl⟩:=(h.jgoods hs hi).1 hf
    refine ⟨hge d i y hd hi e,fun q=>?_⟩
    have q:y.seq=x.seq:=q
    rw [hu d d1 i i1 y x hd hd1 hi hi1 e e1 q]
  ·
   have hw':∃ i,i < c.k.toNat/\∀ d,d < c.n.toNat->jr d s i≠some x:=Classical.byContradiction fun q=>hw fun i hi=>Classical.byContradiction fun q2=>q ⟨i,hi,fun d hd e=>q2 ⟨d,hd,e⟩⟩
   obtain ⟨j,hj,hno⟩:=hw'
   refine .inr ⟨⟨j,hj,hno⟩,Rck.jslot_part hk xf.seq0 (fun i hi q=>?_) (fun i hi f hf=>?_) hi1 ⟨x.frm i1,(h.jgoods hs hi1).2 ⟨d1,x,hd1,e1,rfl⟩,rfl⟩ hj fun f hf=>?_⟩
   ·
    obtain ⟨d,y,hd,e⟩:=hne i hi
    have:y.frm i∈R.jgoods c (s:Int) i:=(h.jgoods hs hi).2 ⟨d,y,hd,e,rfl⟩
    rw [q] at this; cases this
   ·
    obtain ⟨d,y,hd,e,rfl⟩:=(h.jgoods hs hi).1 hf
    exact hge d i y hd hi e
   ·
    obtain ⟨d,y,hd,e,rfl⟩:=(h.jgoods hs hj).1 hf
    intro q
    have q:y.seq=x.seq:=q
    have:=hu d d1 j i1 y x hd hd1 hj hi1 e e1 q
    subst this
    exact hno d hd e
theorem jput (h:GT R c m U sp jr st) {slot:Nat} {x:Rcd} (hs:slot < c.slots.toNat) (hx:x.Fit c slot) (hl:(x.blocks.length:Int)=c.k) :
  ∃ R',R.jput c (slot:Int) x=(none,R')/\GT R' c m U sp (fun d s i=>if s=slot then (if U d then some x else none) else jr d s i) st:=by
 obtain ⟨R',e,l',k⟩:=h.live.jput h.good h.fit hs hx
 refine ⟨R',e,l',h.good,h.fit,fun d hd=>?_,fun d s i y hd hs' hi q=>?_,h.sfit⟩
 ·
  rw [k d hd]
  have hD:=h.dsk d hd
  rcases hu:U d with _ | _
  ·
   rw [hu] at hD
   rw [hD.dead]
   simp only [Bool.not_false,if_true]
   obtain ⟨g1,g2,g3⟩:=hD.gone rfl
   have e:(fun s i=>if s=slot then (if (false=true) then some x else none) else jr d s i)=jr d:=by
    funext s i
    by_cases q:s=slot
    ·
     rw [if_pos q,g2]; rfl
    ·
     rw [if_neg q]
   rw [e]
   exact hD
  ·
   rw [hu] at hD
   rw [hD.dead]
   simp only [Bool.not_true,Bool.false_eq_true,if_false,if_true]
   exact hD.jput h.good h.fit hs hx
 ·
  have q:(if s=slot then (if U d then some x else none) else jr d s i)=some y:=q
  by_cases e:s=slot
  ·
   rw [if_pos e] at q
   split at q
   ·
    cases q; subst e; exact ⟨hx,hl⟩
   ·
    cases q
  ·
   rw [if_neg e] at q
   exact h.jfit d s i y hd hs' hi q
theorem sput (h:GT R c m U sp jr st) {s:Nat} {gen:Int} {l:List (List Nat)} (hx:SFit c s gen l) :
  ∃ R',R.sput c (s:Int) gen l=(none,R')/\GT R' c m U sp jr (fun d t=>if t=s then (if U d then some (gen,l) else none) else st d t):=by
 obtain ⟨R',e,l',k⟩:=h.live.sputs h.good h.fit hx
 refine ⟨R',e,l',h.good,h.fit,fun d hd=>?_,h.jfit,fun d t y hd ht q=>?_⟩
 ·
  rw [k d hd]
  have hD:=h.dsk d hd
  rcases hu:U d with _ | _
  ·
   rw [hu] at hD
   rw [hD.dead]
   simp only [Bool.not_false,if_true]
   obtain ⟨g1,g2,g3⟩:=hD.gone rfl
   rw [show (fun t=>if t=s then (if false=true then some (gen,l) else none) else st d t)=st d by
    funext t
    by_cases q:t=s
    ·
     rw [if_pos q,g3]; rfl
    ·
     rw [if_neg q]]
   exact hD
  ·
   rw [hu] at hD
   rw [hD.dead]
   simp only [Bool.not_true,Bool.false_eq_true,if_false,if_true]
   exact hD.sput h.good h.fit hx
 ·
  have q:(if t=s then (if U d then some (gen,l) else none) else st d t)=some y:=q
  by_cases e:t=s
  ·
   rw [if_pos e] at q
   split at q
   ·
    cases q; subst e; exact hx
   ·
    cases q
  ·
   rw [if_neg e] at q
   exact h.sfit d t y hd ht q
end GT
end Go.Proofs.YtkipjmbplmdaaaaGreatDoor
namespace Go.Proofs.YtkipjmbplmdaaaaGreatDoor
set_option linter.unusedVariables false
namespace GT
variable {R:Rck} {c:Cfg} {m:Nat} {U sp:Nat->Bool} {jr:JR} {st:ST}
def sgf (c:Cfg) (st:ST) (s d:Nat):Option Frm:=(st d s).map fun y=>sfrm s y.1 d (sfrag c y.2 d)
theorem sg (h:GT R c m U sp jr st) {d s:Nat} (hd:d < c.n.toNat) (hs:s < c.stripes.toNat):(R.dsk (d:Nat)).sg c s d=sgf c st s d:=by
 unfold sgf
 rcases e:st d s with _ | y
 ·
  exact Dsk.sg_none ((h.dsk d hd).st0 s hs e)
 ·
  have hu:=h.up_of_st hd e
  exact Dsk.sg_has h.good (h.sfit d s y hd hs e) hd (by rw [(h.dsk d hd).dead,hu]; rfl) ((h.dsk d hd).st1 s y hs e)
theorem sget_ok (h:GT R c m U sp jr st) (k4:c.k<=4) (n6:c.n<=6) {s:Nat} (hs:s < c.stripes.toNat) {y:Int × List (List Nat)} (hmax:∀ d z,d < c.n.toNat->st d s=some z->z.1<=y.1/\(z.1=y.1->z=y))
  (hk:c.k.toNat<=((List.range c.n.toNat).filter fun d=>decide (st d s=some y)).length):R.sget c (s:Int)=(y.2,y.1,none):=by
 have hne:(List.range c.n.toNat).filter (fun d=>decide (st d s=some y))≠[]:=by
  intro q; rw [q] at hk; have:=h.k0; simp at hk; omega
 obtain ⟨d0,hd0⟩:=List.exists_mem_of_ne_nil _ hne
 obtain ⟨hd1,hd2⟩:=List.mem_filter.1 hd0
 have hd1:=List.mem_range.1 hd1
 have hd2:st d0 s=some y:=by simpa using hd2
 have hx:=h.sfit d0 s y hd1 hs hd2
 have hfe:∀ d∈List.range c.n.toNat,hasG (sgf c st s) y.1 d=decide (st d s=some y):=fun d hd=>by
  have hd:=List.mem_range.1 hd
  unfold hasG sgf
  rcases e:st d s with _ | z
  ·
   simp
  ·
   show decide ((sfrm s z.1 d (sfrag c z.2 d)).gen=y.1)=_
   rw [decide_eq_decide]
   show z.1=y.1↔_
   exact ⟨fun q=>by rw [(hmax d z hd e).2 q],fun q=>by cases q; rfl⟩
 have hfl:(List.range c.n.toNat).filter (hasG (sgf c st s) y.1)=(List.range c.n.toNat).filter fun d=>decide (st d s=some y):=List.filter_congr hfe
 refine h.super.sget_ok k4 n6 hs (fun d hd=>h.sg hd hs) hx.bl hx.g0 (fun d f hd hf=>?_) (by rw [hfl]; exact hk) ?_
 ·
  unfold sgf at hf
  rcases e:st d s with _ | z
  ·
   rw [e] at hf; cases hf
  ·
   rw [e] at hf
   cases hf
   refine ⟨(hmax d z hd e).1,fun q=>?_⟩
   rw [(hmax d z hd e).2 q]; rfl
 ·
  rw [h.online]
  have h2:((List.range c.n.toNat).filter fun d=>decide (st d s=some y)).length<=((List.range c.n.toNat).filter U).length:=by
   rw [<- List.countP_eq_length_filter,<- List.countP_eq_length_filter]
   refine List.countP_mono_left fun d hd q=>?_
   exact h.up_of_st (List.mem_range.1 hd) (show st d s=some y by simpa using q)
  have:=h.good.k0
  omega
theorem told (h:GT R c m U sp jr st) {d:Nat} (hd:d < c.n.toNat):R.superGet (d:Nat)=if sp d=true then some c else none:=by
 have h8:=h.good.n1
 rw [h.live.superGet h.m0 hd]
 have hD:=h.dsk d hd
 rcases hs:sp d with _ | _
 ·
  rw [if_neg (by simp)]
  rcases hu:U d with _ | _
  ·
   exact Dsk.told_dead _ d (by rw [hD.dead,hu]; rfl)
  ·
   exact Dsk.told_none _ d (by rw [hD.dead,hu]; rfl) (hD.sup0 hs)
 ·
  rw [if_pos rfl]
  have hu:U d=true:=by
   rcases hu:U d with _ | _
   ·
    have:=(hD.gone hu).1; rw [hs] at this; cases this
   ·
    rfl
  rw [Dsk.told_of _ d (by rw [hD.dead,hu]; rfl) (c.block d) (Cfg.block_ok c d h.good) (Cfg.block_right c d (by omega)) (hD.sup1 hs),if_pos ⟨rfl,rfl,rfl⟩]
  exact Cfg.told_block c h.good d
def cnt (sp:Nat->Bool) (n:Nat):Nat:=((List.range n).filter sp).length
end GT
end Go.Proofs.YtkipjmbplmdaaaaGreatDoor
namespace Go.Proofs.YtkipjmbplmdaaaaGreatDoor
set_option linter.unusedVariables false
def InSlot (c:Cfg) (jr:JR) (s:Nat) (x:Rcd):Prop:=∃ d i,d < c.n.toNat/\i < c.k.toNat/\jr d s i=some x
def Whole (c:Cfg) (jr:JR) (s:Nat) (x:Rcd):Prop:=∀ i,i < c.k.toNat->∃ d,d < c.n.toNat/\jr d s i=some x
inductive Slotted (c:Cfg) (U:Nat->Bool) (s:Nat) (jr jr':JR) (x:Rcd):Prop where
 | kept (h2:2<=x.seq) (hw:Whole c jr s x) (hm:∀ y,InSlot c jr s y->y.seq<=x.seq) (h:∀ d i,d < c.n.toNat->i < c.k.toNat->jr' d s i=if U d then some x else none)
 | blank (e:x=blRec c) (y:Rcd) (hne:∀ i,i < c.k.toNat->∃ d x,d < c.n.toNat/\jr d s i=some x) (hy:InSlot c jr s y) (hm:∀ z,InSlot c jr s z->z.seq<=y.seq) (hn:¬Whole c jr s y) (h:∀ d i,d < c.n.toNat->i < c.k.toNat->jr' d s i=if U d then some (blRec c) else none)
 | none (h0:x.seq=0) (hw:Whole c jr s x) (hz:∀ y,InSlot c jr s y->y=x) (h:∀ d i,d < c.n.toNat->i < c.k.toNat->jr' d s i=jr d s i)
namespace GT
variable {R:Rck} {c:Cfg} {m:Nat} {U sp:Nat->Bool} {jr:JR} {st:ST}
structure Played (c:Cfg) (U:Nat->Bool) (L:Rcd->Prop) (st st':ST):Prop where
 at_:∀ t,t < c.stripes.toNat ->
  (∃ x,L x/\x.stripe=(t:Int)/\(∀ y,L y->y.stripe=(t:Int)->y.seq<=x.seq)/\(∀ d y,d < c.n.toNat->st d t=some y->y.1<=x.seq)/\∀ d,d < c.n.toNat->st' d t=if U d then some (x.seq,x.blocks) else none) ∨
  ((∀ y,L y->y.stripe=(t:Int)->∃ d z,d < c.n.toNat/\st d t=some z/\y.seq < z.1)/\∀ d,d < c.n.toNat->st' d t=st d t)
theorem fit_of {x:Rcd} {s:Nat} (hx:x.Fit c s) (hl:(x.blocks.length:Int)=c.k) (h2:2<=x.seq):SFit c x.stripe.toNat x.seq x.blocks :=
 ⟨by have:=hx.st0; have:=hx.st1; omega,by omega,hx.seq1,Cd.Blocks.mem (by omega) hx.ok.len hx.ok.byte⟩
end GT
end Go.Proofs.YtkipjmbplmdaaaaGreatDoor
namespace Go.Proofs.YtkipjmbplmdaaaaGreatDoor
set_option linter.unusedVariables false
namespace GT
variable {R:Rck} {c:Cfg} {m:Nat} {U sp:Nat->Bool} {jr:JR} {st:ST}
structure Opened (c:Cfg) (m:Nat) (U sp:Nat->Bool) (jr:JR) (st:ST) (R':Rck) (cur:Int) (jr':JR) (st':ST) (ch:Nat->Rcd):Prop where
 gt:GT R' c m U sp jr' st'
 slot:∀ s,s < c.slots.toNat->Slotted c U s jr jr' (ch s)
 play:Played c U (fun x=>∃ s,s < c.slots.toNat/\ch s=x/\2<=x.seq) st st'
 read:∀ s,s < c.stripes.toNat->∃ y,(∃ d,d < c.n.toNat/\st' d s=some y)/\(∀ d z,d < c.n.toNat->st' d s=some z->z.1<=y.1)/\R'.sget c (s:Int)=(y.2,y.1,none)/\y.1<=cur
 cur1:1<=cur
 curj:∀ s y,s < c.slots.toNat->InSlot c jr s y->y.seq<=cur
 curb:∀ b,1<=b->(∀ s y,s < c.slots.toNat->InSlot c jr s y->y.seq<=b)->(∀ s d y,s < c.stripes.toNat->d < c.n.toNat->st' d s=some y->y.1<=b)->cur<=b
inductive Shut (c:Cfg) (m:Nat) (U sp:Nat->Bool) (jr:JR) (st:ST):Prop where
 | few (h:(cnt sp c.n.toNat:Int) < c.k)
 | slot (s i:Nat) (hs:s < c.slots.toNat) (hi:i < c.k.toNat) (h:∀ d,d < c.n.toNat->jr d s i=none)
 | stripe (R':Rck) (jr':JR) (st':ST) (ch:Nat->Rcd) (gt:GT R' c m U sp jr' st') (slot:∀ s,s < c.slots.toNat->Slotted c U s jr jr' (ch s)) (play:Played c U (fun x=>∃ s,s < c.slots.toNat/\ch s=x/\2<=x.seq) st st') (s:Nat) (hs:s < c.stripes.toNat) (e:Err) (h:R'.sget c (s:Int)=([],0,some e))
end GT
end Go.Proofs.YtkipjmbplmdaaaaGreatDoor
namespace Go.Proofs.YtkipjmbplmdaaaaGreatDoor
set_option linter.unusedVariables false
open Go.Proofs.YtkipjmbplmdaaaaGreatDoor.GT (cnt Played Opened Shut)
structure VI (c:Cfg) (cur:Int) (j:Nat->Option Rcd) (f:Strs):Prop where
 vv:VV c cur j f
 zero:∀ s x,s < c.slots.toNat->j s=some x->x.seq=0->x=blRec c
 win:∀ s x,s < c.slots.toNat->j s=some x->x.seq≠0->cur - c.slots < x.seq
 inv:∀ s x g l,s < c.slots.toNat->j s=some x->2<=x.seq->f x.stripe.toNat=some (g,l)->x.seq=g\/∃ s' y,s' < c.slots.toNat/\j s'=some y/\y.stripe=x.stripe/\y.seq=g
structure Pnd (c:Cfg) (cur:Int) (p:Rcd) (a:Nat):Prop where
 fit:p.Fit c a
 len:(p.blocks.length:Int)=c.k
 seq:p.seq=cur+1
 a:a < c.slots.toNat
structure VCutS (c:Cfg) (j:Nat->Option Rcd) (f:Strs) (p:Rcd) (a:Nat) (jr:JR) (st:ST):Prop where
 slot:∀ d s i x,d < c.n.toNat->s < c.slots.toNat->i < c.k.toNat->jr d s i=some x->j s=some x\/(s=a/\(x=p\/x=blRec c))
 str:∀ d t y,d < c.n.toNat->t < c.stripes.toNat->st d t=some y->f t=some y\/((t:Int)=p.stripe/\y=(p.seq,p.blocks))
 cls:(∀ d t y,d < c.n.toNat->t < c.stripes.toNat->st d t=some y->f t=some y)\/∀ d i x,d < c.n.toNat->i < c.k.toNat->jr d a i=some x->x=p
theorem mod_gap {a b s:Int} (hs:0 < s) (h:a % s=b % s) (hlt:a < b):a<=b - s:=by
 have h1:=Int.emod_add_mul_ediv a s
 have h2:=Int.emod_add_mul_ediv b s
 have h3:a / s < b / s:=Classical.byContradiction fun q=>by
  have h4:s*(b / s)<=s*(a / s):=Int.mul_le_mul_of_nonneg_left (by omega) (by omega)
  omega
 have h5:s*(a / s+1)<=s*(b / s):=Int.mul_le_mul_of_nonneg_left (by omega) (by omega)
 rw [Int.mul_add,Int.mul_one] at h5
 omega
section
variable {R:Rck} {c:Cfg} {m:Nat} {U sp:Nat->Bool} {jr jr':JR} {st st':ST} {cur:Int} {j:Nat->Option Rcd} {f:Strs} {p:Rcd} {a:Nat} {ch:Nat->Rcd}
namespace VI
theorem fit (h:VI c cur j f) {s:Nat} (hs:s < c.slots.toNat) {x:Rcd} (e:j s=some x):x.Fit c s/\(x.blocks.length:Int)=c.k/\x.seq<=cur:=by
 obtain ⟨y,h1,h2,h3,h4⟩:=h.vv.slot s hs
 rw [e] at h1; cases h1
 refine ⟨h2,h3,?_⟩
 rcases h4 with q | q
 ·
  have:=h.vv.cur; omega
 ·
  exact q.2.1
theorem eldest (h:VI c cur j f) (hc:c.Good) (hp:Pnd c cur p a) {s:Nat} {x y:Rcd} (hs:s < c.slots.toNat) (ex:j s=some x) (hx:x.seq≠0) (ey:j a=some y) (hlt:x.seq < y.seq):False:=by
 have hw:=h.win s x hs ex hx
 have hsl:=hc.sl0
 obtain ⟨fy,_,cy⟩:=h.fit hp.a ey
 have:=(h.fit hs ex).1.seq0
 have e1:y.seq % c.slots=a:=by
  rcases fy.ring with q | q
  ·
   omega
  ·
   exact q.2
 have e2:p.seq % c.slots=a:=by
  have:=h.vv.cur
  have:=hp.seq
  rcases hp.fit.ring with q | q
  ·
   omega
  ·
   exact q.2
 have:=mod_gap (a:=y.seq) (b:=p.seq) (s:=c.slots) (by omega) (by rw [e1,e2]) (by have:=hp.seq; omega)
 have:=hp.seq
 omega
end VI
theorem Pnd.ge (h:Pnd c cur p a) (hv:VI c cur j f):2<=p.seq:=by have:=hv.vv.cur; have:=h.seq; omega
namespace VCutS
end VCutS
def Sure (c:Cfg) (sp:Nat->Bool) (jr:JR) (st:ST):Prop:=∃ G:Nat->Bool,c.k.toNat<=cnt G c.n.toNat/\∀ d,d < c.n.toNat->G d=true->sp d=true/\(∀ s i,s < c.slots.toNat->i < c.k.toNat->jr d s i≠none)/\∀ t,t < c.stripes.toNat->st d t≠none
end
end Go.Proofs.YtkipjmbplmdaaaaGreatDoor
namespace Go.Proofs.YtkipjmbplmdaaaaGreatDoor
set_option linter.unusedVariables false
open Go.Proofs.YtkipjmbplmdaaaaGreatDoor.GT (cnt Played Opened Shut)
section
variable {R:Rck} {c:Cfg} {m:Nat} {U sp:Nat->Bool} {jr jr':JR} {st st':ST} {cur:Int} {j:Nat->Option Rcd} {f:Strs} {p:Rcd} {a:Nat} {ch:Nat->Rcd}
end
end Go.Proofs.YtkipjmbplmdaaaaGreatDoor
