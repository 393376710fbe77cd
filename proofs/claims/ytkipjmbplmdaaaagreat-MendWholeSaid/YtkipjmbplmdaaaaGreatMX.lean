/- Texts of one proof, joined: VolCut, Online, GtA, GtB, GtC, GtD, GtE, GtF. -/
import Derived.Test.YtkipjmbplmdaaaaGreatMT
import Derived.Test.YtkipjmbplmdaaaaGreatMI
set_option linter.unusedVariables false
set_option linter.unusedSimpArgs false
namespace Go.Proofs.YtkipjmbplmdaaaaGreat
set_option linter.unusedVariables false
structure Pc (c:Cfg) (d:Nat) (J:Nat->Rcd->Prop) (F:Nat->Int × List (List Nat)->Prop) (q:Nat) (b:List Nat):Prop where
 sup:q=0->b=(c.block d).bytes
 jr:∀ s i,s < c.slots.toNat->i < c.k.toNat->q=jsecN c s i->∃ x,J s x/\b=(x.frm i).bytes
 st:∀ s,s < c.stripes.toNat->q=ssecN c s->∃ y,F s y/\b=(sfrm s y.1 d (sfrag c y.2 d)).bytes
namespace Pc
variable {c:Cfg} {d:Nat} {J J':Nat->Rcd->Prop} {F F':Nat->Int × List (List Nat)->Prop}
theorem mono {q:Nat} {b:List Nat} (h:Pc c d J F q b) (hJ:∀ s x,s < c.slots.toNat->J s x->∃ y,J' s y/\∀ i,i < c.k.toNat->x.frm i=y.frm i) (hF:∀ s y,s < c.stripes.toNat->F s y->F' s y):Pc c d J' F' q b :=
 ⟨h.sup,fun s i hs hi e=>by
  obtain ⟨x,h1,h2⟩:=h.jr s i hs hi e
  obtain ⟨y,h3,h4⟩:=hJ s x hs h1
  exact ⟨y,h3,by rw [h2,h4 i hi]⟩,fun s hs e=>by
  obtain ⟨y,h1,h2⟩:=h.st s hs e
  exact ⟨y,hF s y hs h1,h2⟩⟩
theorem slot {s i:Nat} {x:Rcd} (hs:s < c.slots.toNat) (hi:i < c.k.toNat) (hx:J s x):Pc c d J F (jsecN c s i) (x.frm i).bytes :=
 ⟨fun e=>absurd e (jsec_pos c s i),fun t j ht hj e=>by
  obtain ⟨rfl,rfl⟩:=jsecN_inj hi hj e
  exact ⟨x,hx,rfl⟩,fun t ht e=>absurd e (Zcf hs hi)⟩
theorem stripe {s:Nat} {y:Int × List (List Nat)} (hy:F s y):Pc c d J F (ssecN c s) (sfrm s y.1 d (sfrag c y.2 d)).bytes :=
 ⟨fun e=>absurd e (Zcz c s),fun t j ht hj e=>absurd e.symm (Zcf ht hj),fun t ht e=>by
  have:=ssecN_inj e
  subst this
  exact ⟨y,hy,rfl⟩⟩
end Pc
structure PCd (D:Dsk) (d:Nat) (c:Cfg) (m:Nat) (J:Nat->Rcd->Prop) (F:Nat->Int × List (List Nat)->Prop):Prop where
 len:D.l.length=m
 alive:D.dead=false
 rot:∀ q,D.rot q=false
 base:∀ q,q < m->Pc c d J F q (D.l.getD q [])
 wts:∀ q b,D.waits q=some b->Pc c d J F q b
namespace PCd
variable {D:Dsk} {d:Nat} {c:Cfg} {m:Nat} {J J':Nat->Rcd->Prop} {F F':Nat->Int × List (List Nat)->Prop}
theorem mono (h:PCd D d c m J F) (hJ:∀ s x,s < c.slots.toNat->J s x->∃ y,J' s y/\∀ i,i < c.k.toNat->x.frm i=y.frm i) (hF:∀ s y,s < c.stripes.toNat->F s y->F' s y):PCd D d c m J' F' :=
 ⟨h.len,h.alive,h.rot,fun q hq=>(h.base q hq).mono hJ hF,fun q b hb=>(h.wts q b hb).mono hJ hF⟩
theorem read (h:PCd D d c m J F) {q:Nat} (hq:q < m):Pc c d J F q (D.read q):=by
 unfold Dsk.read
 rcases e:D.waits q with _ | b
 ·
  exact h.base q hq
 ·
  exact h.wts q b e
theorem write (h:PCd D d c m J F) {q:Nat} {b:List Nat} (hb:Pc c d J F q b):PCd (D.write q b) d c m J F:=by
 refine ⟨h.len,h.alive,h.rot,h.base,fun p y hy=>?_⟩
 have hy:(if p=q then some b else D.waits p)=some y:=hy
 by_cases e:p=q
 ·
  subst e; rw [if_pos rfl] at hy; cases hy; exact hb
 ·
  rw [if_neg e] at hy; exact h.wts p y hy
theorem settle (h:PCd D d c m J F) (g:Nat->Bool):PCd (D.settle g) d c m J F:=by
 refine ⟨by rw [Dsk.settle_len]; exact h.len,h.alive,fun q=>?_,fun q hq=>?_,fun q b hb=>by cases hb⟩
 ·
  show (if (g q && (D.waits q).isSome)=true then false else D.rot q)=false
  split
  ·
   rfl
  ·
   exact h.rot q
 ·
  have e:(D.settle g).l.getD q []=(D.settle g).read q:=rfl
  rw [e,Dsk.settle_read D g _ (by rw [h.len]; exact hq)]
  split
  ·
   exact h.read hq
  ·
   exact h.base q hq
end PCd
structure PC (R:Rck) (c:Cfg) (m:Nat) (J:Nat->Rcd->Prop) (F:Nat->Int × List (List Nat)->Prop):Prop where
 len:R.l.length=c.n.toNat
 dsk:∀ d:Nat,d < c.n.toNat->PCd (R.dsk d) d c m J F
namespace PC
variable {R:Rck} {c:Cfg} {m:Nat} {J J':Nat->Rcd->Prop} {F F':Nat->Int × List (List Nat)->Prop}
theorem mono (h:PC R c m J F) (hJ:∀ s x,s < c.slots.toNat->J s x->∃ y,J' s y/\∀ i,i < c.k.toNat->x.frm i=y.frm i) (hF:∀ s y,s < c.stripes.toNat->F s y->F' s y):PC R c m J' F':=⟨h.len,fun d hd=>(h.dsk d hd).mono hJ hF⟩
theorem of_l (h:PC R c m J F) {R':Rck} (e:R'.l=R.l):PC R' c m J F:=⟨by rw [e]; exact h.len,fun d hd=>by unfold Rck.dsk; rw [e]; exact h.dsk d hd⟩
theorem set (h:PC R c m J F) {i:Nat} (hi:i < c.n.toNat) {D:Dsk} (hD:PCd D i c m J F):PC (R.setD i D) c m J F:=⟨by simp [Rck.setD,h.len],fun d hd=>by
 rw [Rck.dsk_setD R h.len hi]
 split
 ·
  rename_i e; rw [e]; exact hD
 ·
  exact h.dsk d hd⟩
theorem on (h:PC R c m J F):∀ d∈R.online,d < c.n.toNat:=fun d hd=>by
 unfold Rck.online at hd
 have:=List.mem_range.1 (List.mem_filter.1 hd).1
 rw [h.len] at this; exact this
theorem write (h:PC R c m J F) {i q:Nat} (hi:i < c.n.toNat) {b:List Nat} (hb:Pc c i J F q b):PC (R.write i q b).2 c m J F:=by
 unfold Rck.write
 split
 ·
  exact (h.of_l (Rck.asked_lP _ _ _)).set hi (by rw [Int.toNat_natCast]; exact (h.dsk i hi).write hb)
 ·
  exact h.of_l (Rck.asked_lP _ _ _)
theorem flush (h:PC R c m J F) {i:Nat} (hi:i < c.n.toNat):PC (R.flush i).2 c m J F:=by
 unfold Rck.flush
 split
 ·
  exact (h.of_l (Rck.asked_lP _ _ _)).set hi ((h.dsk i hi).settle _)
 ·
  exact h.of_l (Rck.asked_lP _ _ _)
theorem flushes (h:PC R c m J F) {l:List Nat} (hl:∀ d∈l,d < c.n.toNat):PC (each (fun R (d:Nat)=>R.flush d) l R).2 c m J F :=
 each_inv (f:=fun R (d:Nat)=>R.flush d) (fun R=>PC R c m J F) l (fun d hd R h=>h.flush (hl d hd)) R h
theorem jput (h:PC R c m J F) (hc:c.Good) {slot:Nat} {x:Rcd} (hs:slot < c.slots.toNat) (hx:x.Fit c slot) (hJ:J slot x):PC (R.jput c (slot:Int) x).2 c m J F:=by
 have hn1:=hc.n1; have hk1:=hc.k1
 have h1:=each_inv (f:=Rck.jrow c (slot:Int) x) (fun R=>PC R c m J F) R.online (fun d hd R' h'=>by
  have hd:=h.on d hd
  refine each_inv (f:=fun R i=>R.write d (Rck.jsec c slot i) (x.frm i).put) (fun R=>PC R c m J F) (List.range c.k.toNat) (fun i hi R h=>?_) R' h'
  have hi:=List.mem_range.1 hi
  rw [jsec_eq hc slot i,hx.put hc (by omega)]
  exact h.write hd (Pc.slot hs hi hJ)) R h
 unfold Rck.jput
 split
 ·
  exact h1
 ·
  exact h1.flushes h1.on
theorem sputs (h:PC R c m J F) (hc:c.Good) {s:Nat} {gen:Int} {l:List (List Nat)} (hx:SFit c s gen l) (hF:F s (gen,l)):PC (R.sputs c (s:Int) gen l).2 c m J F:=by
 have h1:=each_inv (f:=Rck.srow c (s:Int) gen l) (fun R=>PC R c m J F) R.online (fun d hd R' h'=>by
  have hd:=h.on d hd
  unfold Rck.srow
  rw [ssec_eq hc s,hx.put hc hd]
  exact h'.write hd (Pc.stripe (y:=(gen,l)) hF)) R h
 unfold Rck.sputs
 split
 ·
  exact h1
 ·
  exact h1.flushes h1.on
end PC
structure GH (R:Rck) (c:Cfg) (m:Nat) (J:Nat->Rcd->Prop) (F:Nat->Int × List (List Nat)->Prop):Prop where
 pc:PC R c m J F
 good:c.Good
 fit:c.sectors<=(m:Int)
 live:Live R c.n.toNat m
 idle:∀ d:Nat,d < c.n.toNat->∀ q,(R.dsk d).waits q=none
namespace GH
variable {R:Rck} {c:Cfg} {m:Nat} {J J':Nat->Rcd->Prop} {F F':Nat->Int × List (List Nat)->Prop}
theorem of_vh {j:Nat->Option Rcd} {f:Strs} (h:VH R c m true j f) (hj:∀ s,s < c.slots.toNat->∃ x,j s=some x) (hf:∀ s,s < c.stripes.toNat->∃ y,f s=some y) (hms:(m:Int)=c.sectors):PC R c m (fun s x=>j s=some x) fun s y=>f s=some y:=by
 refine ⟨h.pow.len,fun d hd=>⟨(h.dsk d hd).len,(h.dsk d hd).alive,(h.dsk d hd).rot,fun q hq=>?_,fun q b hb=>?_⟩⟩
 ·
  have e:(R.dsk d).l.getD q []=(R.dsk d).read q:=by unfold Dsk.read; rw [(h.dsk d hd).waits q]; rfl
  rw [e]
  refine ⟨fun q0=>by rw [q0]; exact (h.dsk d hd).sup rfl,fun s i hs hi e=>?_,fun s hs e=>?_⟩
  ·
   obtain ⟨x,hx⟩:=hj s hs
   exact ⟨x,hx,by rw [e]; exact (h.dsk d hd).jr s x i hs hx hi⟩
  ·
   obtain ⟨y,hy⟩:=hf s hs
   exact ⟨y,hy,by rw [e]; exact (h.dsk d hd).st s y.1 y.2 hs hy⟩
 ·
  rw [(h.dsk d hd).waits q] at hb; cases hb
theorem vh {j:Nat->Option Rcd} {f:Strs} (h:GH R c m (fun s x=>j s=some x) fun s y=>f s=some y):VH R c m true j f:=by
 have h0:0 < m:=by
  have h1:=Za1 h.good h.fit (s:=0) (by have:=h.good.st0; omega)
  omega
 refine ⟨Pow.of h.live fun d hd=>(h.pc.dsk d hd).alive,h.good,h.fit,fun d hd=>⟨(h.pc.dsk d hd).len,(h.pc.dsk d hd).alive,h.idle d hd,(h.pc.dsk d hd).rot,fun _=>((h.pc.dsk d hd).read h0).sup rfl,fun s x i hs hx hi=>?_,fun s g l hs hy=>?_⟩⟩
 ·
  obtain ⟨y,h1,h2⟩:=((h.pc.dsk d hd).read (Zbg h.good h.fit hs hi)).jr s i hs hi rfl
  rw [hx] at h1; cases h1; exact h2
 ·
  obtain ⟨y,h1,h2⟩:=((h.pc.dsk d hd).read (Za1 h.good h.fit hs)).st s hs rfl
  rw [hy] at h1; cases h1; exact h2
end GH
end Go.Proofs.YtkipjmbplmdaaaaGreat
namespace Go.Proofs.YtkipjmbplmdaaaaGreat
set_option linter.unusedVariables false
structure On (n m d:Nat) (f:Rck->Option Err × Rck) (g:Dsk->Dsk):Prop where
 len:∀ D,D.l.length=m->(g D).l.length=m
 dead:∀ D,(g D).dead=D.dead
 run:∀ R,Live R n m->(R.dsk (d:Nat)).dead=false->f R=(none,R.setD (d:Nat) (g (R.dsk (d:Nat))))
theorem Live.setD_self {R:Rck} {n m d:Nat} (h:Live R n m) (hd:d < n):R.setD (d:Nat) (R.dsk (d:Nat))=R:=by
 have hl:d < R.l.length:=by rw [h.len]; exact hd
 rcases R with ⟨l,o,fu⟩
 have hl:d < l.length:=hl
 show Rck.mk (l.set d (l.getD d default)) o fu=_
 rw [List.getD_eq_getElem?_getD,List.getElem?_eq_getElem hl,Option.getD_some,List.set_getElem_self]
theorem Rck.setD_twice (R:Rck) (d:Nat) (D E:Dsk):(R.setD (d:Nat) D).setD (d:Nat) E=R.setD (d:Nat) E:=by
 show Rck.mk ((R.l.set d D).set d E) R.off R.fuse=Rck.mk (R.l.set d E) R.off R.fuse
 rw [List.set_set]
theorem On.rows {α:Type} {n m d:Nat} {f:Rck->α->Option Err × Rck} {g:α->Dsk->Dsk} (hd:d < n):∀ (l:List α),(∀ i∈l,On n m d (fun R=>f R i) (g i))->On n m d (each f l) (fun D=>l.foldl (fun D i=>g i D) D)
 | [],_=>⟨fun D h=>h,fun D=>rfl,fun R h ha=>by
   show (none,R)=(none,R.setD (d:Nat) (R.dsk (d:Nat)))
   rw [h.setD_self hd]⟩
 | i::l,hl=>by
  have h1:=hl i List.mem_cons_self
  have h2:=On.rows hd l fun j hj=>hl j (List.mem_cons_of_mem _ hj)
  refine ⟨fun D h=>h2.len _ (h1.len D h),fun D=>(h2.dead _).trans (h1.dead D),fun R h ha=>?_⟩
  have e1:f R i=_:=h1.run R h ha
  obtain ⟨l1,k1⟩:=h.setD (g i (R.dsk (d:Nat))) (h1.len _ (h.secs d hd)) hd
  have e2:=h2.run _ l1 (by rw [k1,if_pos rfl,h1.dead]; exact ha)
  rw [k1,if_pos rfl,Rck.setD_twice] at e2
  rw [Zb3 e1,e2]
  rfl
theorem On.write {n m d s:Nat} {b:List Nat} (hd:d < n) (hs:s < m) (hb:b.length=128):On n m d (fun R=>R.write (d:Nat) (s:Nat) b) (fun D=>D.write s b) :=
 ⟨fun D h=>h,fun D=>rfl,fun R h ha=>h.write hd ha hs hb⟩
theorem On.flush {n m d:Nat} (hd:d < n):On n m d (fun R=>R.flush (d:Nat)) Dsk.flush:=⟨fun D h=>by rw [Dsk.flush_len]; exact h,fun D=>rfl,fun R h ha=>h.flush hd ha⟩
theorem On.all {n m:Nat} {f:Rck->Nat->Option Err × Rck} {g:Nat->Dsk->Dsk}:∀ (l:List Nat),l.Nodup->(∀ d∈l,d < n/\On n m d (fun R=>f R d) (g d))->∀ R,Live R n m->(∀ d∈l,(R.dsk (d:Nat)).dead=false) ->
  ∃ R',each f l R=(none,R')/\Live R' n m/\∀ d:Nat,R'.dsk (d:Nat)=if d∈l then g d (R.dsk (d:Nat)) else R.dsk (d:Nat)
 | [],_,_,R,h,_=>⟨R,rfl,h,fun d=>by rw [if_neg (by simp)]⟩
 | i::l,nd,hl,R,h,ha=>by
  obtain ⟨hi,h1⟩:=hl i List.mem_cons_self
  have nd1:=List.nodup_cons.1 nd
  obtain ⟨l1,k1⟩:=h.setD (g i (R.dsk (i:Nat))) (h1.len _ (h.secs i hi)) hi
  have e1:f R i=_:=h1.run R h (ha i List.mem_cons_self)
  obtain ⟨R',e2,l2,k2⟩:=On.all l nd1.2 (fun d hd=>hl d (List.mem_cons_of_mem _ hd)) _ l1 (fun d hd=>by
   rw [k1]
   split
   ·
    rename_i e; rw [h1.dead,<- e]; exact ha d (List.mem_cons_of_mem _ hd)
   ·
    exact ha d (List.mem_cons_of_mem _ hd))
  refine ⟨R',by rw [Zb3 e1,e2],l2,fun d=>?_⟩
  rw [k2,k1]
  by_cases e:d=i
  ·
   subst e
   rw [if_neg nd1.1,if_pos rfl,if_pos List.mem_cons_self]
  ·
   rw [if_neg e]
   by_cases q:d∈l
   ·
    rw [if_pos q,if_pos (List.mem_cons_of_mem _ q)]
   ·
    rw [if_neg q,if_neg (by simp [e,q])]
namespace Live
variable {R:Rck} {c:Cfg} {n m:Nat}
theorem on_mem (h:Live R n m) {d:Nat}:d∈R.online↔d < n/\(R.dsk (d:Nat)).dead=false:=by
 unfold Rck.online
 rw [List.mem_filter,List.mem_range,h.len]
 constructor
 ·
  rintro ⟨h1,h2⟩
  rw [h.up h1] at h2
  exact ⟨h1,by simpa using h2⟩
 ·
  rintro ⟨h1,h2⟩
  exact ⟨h1,by rw [h.up h1,h2]; rfl⟩
theorem on_nodup (R:Rck):R.online.Nodup:=List.nodup_range.filter _
theorem ups (h:Live R n m) {f:Rck->Nat->Option Err × Rck} {g:Nat->Dsk->Dsk} (hf:∀ d,d < n->On n m d (fun R=>f R d) (g d)) :
  ∃ R',each f R.online R=(none,R')/\Live R' n m/\R'.online=R.online/\∀ d:Nat,d < n->R'.dsk (d:Nat)=if (R.dsk (d:Nat)).dead then R.dsk (d:Nat) else g d (R.dsk (d:Nat)):=by
 obtain ⟨R',e,h',k⟩:=On.all (f:=f) (g:=g) R.online (on_nodup R) (fun d hd=>⟨(h.on_mem.1 hd).1,hf d (h.on_mem.1 hd).1⟩) R h fun d hd=>(h.on_mem.1 hd).2
 have kd:∀ d:Nat,d < n->R'.dsk (d:Nat)=if (R.dsk (d:Nat)).dead then R.dsk (d:Nat) else g d (R.dsk (d:Nat)):=fun d hd=>by
  rw [k]
  rcases ha:(R.dsk (d:Nat)).dead with _ | _
  ·
   rw [if_pos (h.on_mem.2 ⟨hd,ha⟩)]; rfl
  ·
   rw [if_neg (fun q=>by have:=(h.on_mem.1 q).2; rw [ha] at this; cases this)]; rfl
 refine ⟨R',e,h',?_,kd⟩
 unfold Rck.online
 rw [h'.len,h.len]
 refine List.filter_congr fun d hd=>?_
 have hd:=List.mem_range.1 hd
 rw [h'.up hd,h.up hd,kd d hd]
 rcases ha:(R.dsk (d:Nat)).dead with _ | _
 ·
  simp only [Bool.false_eq_true,if_false]; rw [(hf d hd).dead,ha]
 ·
  simp [ha]
theorem jput (h:Live R c.n.toNat m) (hc:c.Good) (hm:c.sectors<=(m:Int)) {slot:Nat} {x:Rcd} (hs:slot < c.slots.toNat) (hx:x.Fit c slot) :
  ∃ R',R.jput c (slot:Int) x=(none,R')/\Live R' c.n.toNat m/\∀ d:Nat,d < c.n.toNat->R'.dsk (d:Nat)=if (R.dsk (d:Nat)).dead then R.dsk (d:Nat) else ((R.dsk (d:Nat)).jw c slot x).flush:=by
 have hk8:c.k.toNat<=8:=by have:=hc.k1; have:=hc.n1; omega
 obtain ⟨R1,e1,l1,o1,k1⟩:=h.ups (f:=Rck.jrow c (slot:Int) x) (g:=fun _ D=>D.jw c slot x) fun d hd=>by
  refine On.rows (f:=fun R i=>R.write d (Rck.jsec c slot i) (x.frm i).put) (g:=fun i D=>D.write (jsecN c slot i) (x.frm i).bytes) hd (List.range c.k.toNat) fun i hi=>?_
  have hi:=List.mem_range.1 hi
  rw [jsec_eq hc slot i,hx.put hc (by omega)]
  exact On.write hd (Zbg hc hm hs hi) (hx.len i)
 obtain ⟨R2,e2,l2,o2,k2⟩:=l1.ups (f:=fun R (d:Nat)=>R.flush (d:Nat)) (g:=fun _ D=>D.flush) fun d hd=>On.flush hd
 refine ⟨R2,?_,l2,fun d hd=>?_⟩
 ·
  unfold Rck.jput
  rw [e1]
  exact e2
 ·
  rw [k2 d hd,k1 d hd]
  rcases ha:(R.dsk (d:Nat)).dead with _ | _
  ·
   have hdw:((R.dsk (d:Nat)).jw c slot x).dead=false:=by rw [show ((R.dsk (d:Nat)).jw c slot x).dead=(R.dsk (d:Nat)).dead from Dsk.jwf_dead _]; exact ha
   simp only [Bool.false_eq_true,if_false,hdw]
  ·
   simp only [if_true,ha]
theorem sputs (h:Live R c.n.toNat m) (hc:c.Good) (hm:c.sectors<=(m:Int)) {s:Nat} {gen:Int} {l:List (List Nat)} (hx:SFit c s gen l) :
  ∃ R',R.sput c (s:Int) gen l=(none,R')/\Live R' c.n.toNat m/\∀ d:Nat,d < c.n.toNat->R'.dsk (d:Nat)=if (R.dsk (d:Nat)).dead then R.dsk (d:Nat) else ((R.dsk (d:Nat)).sw c s gen l d).flush:=by
 obtain ⟨R1,e1,l1,o1,k1⟩:=h.ups (f:=Rck.srow c (s:Int) gen l) (g:=fun d D=>D.sw c s gen l d) fun d hd=>by
  show On c.n.toNat m d (fun R=>R.write d (Rck.ssec c s) (sfrm s gen d (sfrag c l d)).put) _
  rw [ssec_eq hc,hx.put hc hd]
  exact On.write hd (Za1 hc hm hx.st) (hx.len hc d)
 obtain ⟨R2,e2,l2,o2,k2⟩:=l1.ups (f:=fun R (d:Nat)=>R.flush (d:Nat)) (g:=fun _ D=>D.flush) fun d hd=>On.flush hd
 refine ⟨R2,?_,l2,fun d hd=>?_⟩
 ·
  rw [(⟨h,hc,hm⟩:Super R c m).sput_eq hx]
  have e3:R.sputs c (s:Int) gen l=(none,R2):=by
   unfold Rck.sputs
   rw [e1]
   exact e2
  rw [e3]; rfl
 ·
  rw [k2 d hd,k1 d hd]
  rcases ha:(R.dsk (d:Nat)).dead with _ | _
  ·
   have hdw:((R.dsk (d:Nat)).sw c s gen l d).dead=false:=ha
   simp only [Bool.false_eq_true,if_false,hdw]
  ·
   simp only [if_true,ha]
end Live
end Go.Proofs.YtkipjmbplmdaaaaGreat
namespace Go.Proofs.YtkipjmbplmdaaaaGreat
set_option linter.unusedVariables false
abbrev JR:=Nat->Nat->Nat->Option Rcd
abbrev ST:=Nat->Nat->Option (Int × List (List Nat))
structure GTd (D:Dsk) (d:Nat) (c:Cfg) (m:Nat) (u sp:Bool) (jr:Nat->Nat->Option Rcd) (st:Nat->Option (Int × List (List Nat))):Prop where
 len:D.l.length=m
 dead:D.dead=!u
 waits:∀ q,D.waits q=none
 rot:∀ q,D.rot q=true->Frm.get (D.read q)=none
 rotm:∀ q,m<=q->D.rot q=false
 sup1:sp=true->D.read 0=(c.block d).bytes
 sup0:sp=false->Frm.get (D.read 0)=none
 jr1:∀ s i x,s < c.slots.toNat->i < c.k.toNat->jr s i=some x->D.read (jsecN c s i)=(x.frm i).bytes
 jr0:∀ s i,s < c.slots.toNat->i < c.k.toNat->jr s i=none->Frm.get (D.read (jsecN c s i))=none
 st1:∀ s y,s < c.stripes.toNat->st s=some y->D.read (ssecN c s)=(sfrm s y.1 d (sfrag c y.2 d)).bytes
 st0:∀ s,s < c.stripes.toNat->st s=none->Frm.get (D.read (ssecN c s))=none
 gone:u=false->sp=false/\(∀ s i,jr s i=none)/\∀ s,st s=none
structure GT (R:Rck) (c:Cfg) (m:Nat) (U sp:Nat->Bool) (jr:JR) (st:ST):Prop where
 live:Live R c.n.toNat m
 good:c.Good
 fit:c.sectors<=(m:Int)
 dsk:∀ d:Nat,d < c.n.toNat->GTd (R.dsk (d:Nat)) d c m (U d) (sp d) (jr d) (st d)
 jfit:∀ d s i x,d < c.n.toNat->s < c.slots.toNat->i < c.k.toNat->jr d s i=some x->x.Fit c s/\(x.blocks.length:Int)=c.k
 sfit:∀ d s y,d < c.n.toNat->s < c.stripes.toNat->st d s=some y->SFit c s y.1 y.2
theorem exists_max {α:Type} (key:α->Int) (B:Int) (P:α->Prop) (hB:∀ x,P x->key x<=B):∀ (n:Nat) (x:α),P x->(B - key x).toNat<=n->∃ y,P y/\∀ z,P z->key z<=key y
 | 0,x,hx,h=>⟨x,hx,fun z hz=>by have:=hB z hz; have:=hB x hx; omega⟩
 | n+1,x,hx,h=>by
  by_cases q:∃ z,P z/\key x < key z
  ·
   obtain ⟨z,hz,hlt⟩:=q
   exact exists_max key B P hB n z hz (by have:=hB z hz; omega)
  ·
   exact ⟨x,hx,fun z hz=>Classical.byContradiction fun q2=>q ⟨z,hz,by omega⟩⟩
namespace GTd
variable {D:Dsk} {d:Nat} {c:Cfg} {m:Nat} {u sp:Bool} {jr:Nat->Nat->Option Rcd} {st:Nat->Option (Int × List (List Nat))}
theorem jput (h:GTd D d c m true sp jr st) (hc:c.Good) (hm:c.sectors<=(m:Int)) {slot:Nat} {x:Rcd} (hs:slot < c.slots.toNat) (hx:x.Fit c slot) :
  GTd ((D.jw c slot x).flush) d c m true sp (fun s i=>if s=slot then some x else jr s i) st:=by
 have hk8:c.k.toNat<=8:=by have:=hc.k1; have:=hc.n1; omega
 have h0:0 < m:=by
  have h1:=Zbg hc hm hs (i:=0) (by have:=hc.k0; omega)
  omega
 have r0:(D.jw c slot x).flush.read 0=D.read 0:=Dsk.jwf_ne D (by rw [h.len]; exact h0) (fun i _ q=>jsec_pos c slot i q.symm)
 have ro:∀ s i,s < c.slots.toNat->i < c.k.toNat->s≠slot->(D.jw c slot x).flush.read (jsecN c s i)=D.read (jsecN c s i):=fun s i hs' hi e =>
  Dsk.jwf_ne D (by rw [h.len]; exact Zbg hc hm hs' hi) fun i' hi' q=>e (jsecN_inj hi hi' q).1
 have rs:∀ s,s < c.stripes.toNat->(D.jw c slot x).flush.read (ssecN c s)=D.read (ssecN c s):=fun s hs' =>
  Dsk.jwf_ne D (by rw [h.len]; exact Za1 hc hm hs') fun i hi q=>Zcf hs hi q.symm
 have ra:∀ i,i < c.k.toNat->(D.jw c slot x).flush.read (jsecN c slot i)=(x.frm i).bytes:=fun i hi=>Dsk.jwf_at D hi (by rw [h.len]; exact Zbg hc hm hs hi)
 refine ⟨by rw [Dsk.jwf_len]; exact h.len,by rw [Dsk.jwf_dead]; exact h.dead,fun q=>rfl,fun q hq=>?_,fun q hq=>Dsk.jwf_rot D q (h.rotm q hq),fun e=>by rw [r0]; exact h.sup1 e,fun e=>by rw [r0]; exact h.sup0 e,fun s i y hs' hi e=>?_,fun s i hs' hi e=>?_,fun s y hs' e=>by rw [rs s hs']; exact h.st1 s y hs' e,fun s hs' e=>by rw [rs s hs']; exact h.st0 s hs' e,fun e=>by cases e⟩
 ·
  by_cases hqm:q < D.l.length
  ·
   by_cases hw:∃ i,i < c.k.toNat/\q=jsecN c slot i
   ·
    obtain ⟨i,hi,rfl⟩:=hw
    obtain ⟨h1,_,h3,h4,_⟩:=Dsk.jw_facts (c:=c) (slot:=slot) (x:=x) D c.k.toNat D
    have hq:(if (true && ((D.jw c slot x).waits (jsecN c slot i)).isSome)=true then false else (D.jw c slot x).rot (jsecN c slot i))=true:=hq
    have e:(D.jw c slot x).waits (jsecN c slot i)=some (x.frm i).bytes:=h4 i hi
    rw [e] at hq
    simp at hq
   ·
    rw [Dsk.jwf_ne D hqm fun i hi e=>hw ⟨i,hi,e⟩]
    refine h.rot q ?_
    rcases hr:D.rot q with _ | _
    ·
     rw [Dsk.jwf_rot D q hr] at hq; cases hq
    ·
     rfl
  ·
   have e:(D.jw c slot x).flush.read q=[]:=by
    have hl:(D.jw c slot x).flush.l.length=D.l.length:=Dsk.jwf_len D
    unfold Dsk.read
    rw [show (D.jw c slot x).flush.waits q=none from rfl]
    show (D.jw c slot x).flush.l.getD q []=[]
    rw [List.getD_eq_getElem?_getD,List.getElem?_eq_none (by omega)]; rfl
   rw [e]; exact Frm.get_nil
 ·
  by_cases q:s=slot
  ·
   subst q
   have e:(if s=s then some x else jr s i)=some y:=e
   rw [if_pos rfl] at e; cases e
   exact ra i hi
  ·
   have e:(if s=slot then some x else jr s i)=some y:=e
   rw [if_neg q] at e
   rw [ro s i hs' hi q]
   exact h.jr1 s i y hs' hi e
 ·
  have e:(if s=slot then some x else jr s i)=none:=e
  by_cases q:s=slot
  ·
   rw [if_pos q] at e; cases e
  ·
   rw [if_neg q] at e
   rw [ro s i hs' hi q]
   exact h.jr0 s i hs' hi e
theorem sput (h:GTd D d c m true sp jr st) (hc:c.Good) (hm:c.sectors<=(m:Int)) {s:Nat} {gen:Int} {l:List (List Nat)} (hx:SFit c s gen l) :
  GTd ((D.sw c s gen l d).flush) d c m true sp jr (fun t=>if t=s then some (gen,l) else st t):=by
 have h0:0 < m:=by
  have h1:=Za1 hc hm hx.st
  omega
 have rd:∀ q,q < m->(D.sw c s gen l d).flush.read q=if q=ssecN c s then (sfrm s gen d (sfrag c l d)).bytes else D.read q:=fun q hq=>Dsk.sw_read D d q (by rw [h.len]; exact hq)
 refine ⟨by rw [Dsk.sw_len]; exact h.len,by rw [Dsk.sw_dead]; exact h.dead,fun q=>rfl,fun q hq=>?_,fun q hq=>Dsk.sw_rot D d q (h.rotm q hq),fun e=>?_,fun e=>?_,fun t i y ht hi e=>?_,fun t i ht hi e=>?_,fun t y ht e=>?_,fun t ht e=>?_,fun e=>by cases e⟩
 ·
  by_cases hqm:q < m
  ·
   rw [rd q hqm]
   by_cases e:q=ssecN c s
   ·
    subst e
    have hq:(if (true && ((D.sw c s gen l d).waits (ssecN c s)).isSome)=true then false else D.rot (ssecN c s))=true:=hq
    have:(D.sw c s gen l d).waits (ssecN c s)=some (sfrm s gen d (sfrag c l d)).bytes:=if_pos rfl
    rw [this] at hq; simp at hq
   ·
    rw [if_neg e]
    refine h.rot q ?_
    rcases hr:D.rot q with _ | _
    ·
     rw [Dsk.sw_rot D d q hr] at hq; cases hq
    ·
     rfl
  ·
   have e:(D.sw c s gen l d).flush.read q=[]:=by
    have hl:(D.sw c s gen l d).flush.l.length=D.l.length:=Dsk.sw_len D d
    have:=h.len
    unfold Dsk.read
    rw [show (D.sw c s gen l d).flush.waits q=none from rfl]
    show (D.sw c s gen l d).flush.l.getD q []=[]
    rw [List.getD_eq_getElem?_getD,List.getElem?_eq_none (by omega)]; rfl
   rw [e]; exact Frm.get_nil
 ·
  rw [rd 0 h0,if_neg (fun q=>Zcz c s q.symm)]; exact h.sup1 e
 ·
  rw [rd 0 h0,if_neg (fun q=>Zcz c s q.symm)]; exact h.sup0 e
 ·
  rw [rd _ (Zbg hc hm ht hi),if_neg (Zcf ht hi)]; exact h.jr1 t i y ht hi e
 ·
  rw [rd _ (Zbg hc hm ht hi),if_neg (Zcf ht hi)]; exact h.jr0 t i ht hi e
 ·
  rw [rd _ (Za1 hc hm ht)]
  have e:(if t=s then some (gen,l) else st t)=some y:=e
  by_cases q:t=s
  ·
   subst q
   rw [if_pos rfl] at e; cases e
   rw [if_pos rfl]
  ·
   rw [if_neg q] at e
   rw [if_neg fun z=>q (ssecN_inj z)]
   exact h.st1 t y ht e
 ·
  rw [rd _ (Za1 hc hm ht)]
  have e:(if t=s then some (gen,l) else st t)=none:=e
  by_cases q:t=s
  ·
   rw [if_pos q] at e; cases e
  ·
   rw [if_neg q] at e
   rw [if_neg fun z=>q (ssecN_inj z)]
   exact h.st0 t ht e
end GTd
namespace GT
variable {R:Rck} {c:Cfg} {m:Nat} {U sp:Nat->Bool} {jr:JR} {st:ST}
theorem super (h:GT R c m U sp jr st):Super R c m:=⟨h.live,h.good,h.fit⟩
theorem n0 (h:GT R c m U sp jr st):0 < c.n.toNat:=by have:=h.good.k0; have:=h.good.k1; omega
theorem k0 (h:GT R c m U sp jr st):0 < c.k.toNat:=by have:=h.good.k0; omega
theorem k8 (h:GT R c m U sp jr st):c.k.toNat<=8:=by have:=h.good.k1; have:=h.good.n1; omega
theorem m0 (h:GT R c m U sp jr st):0 < m:=by
 have h1:=Za1 h.good h.fit (s:=0) (by have:=h.good.st0; omega)
 omega
theorem up_of_jr (h:GT R c m U sp jr st) {d s i:Nat} {x:Rcd} (hd:d < c.n.toNat) (e:jr d s i=some x):U d=true:=by
 rcases hu:U d with _ | _
 ·
  have:=((h.dsk d hd).gone hu).2.1 s i
  rw [e] at this; cases this
 ·
  rfl
theorem up_of_st (h:GT R c m U sp jr st) {d s:Nat} {x:Int × List (List Nat)} (hd:d < c.n.toNat) (e:st d s=some x):U d=true:=by
 rcases hu:U d with _ | _
 ·
  have:=((h.dsk d hd).gone hu).2.2 s
  rw [e] at this; cases this
 ·
  rfl
theorem online (h:GT R c m U sp jr st):R.online=(List.range c.n.toNat).filter U:=by
 unfold Rck.online
 rw [h.live.len]
 refine List.filter_congr fun d hd=>?_
 have hd:=List.mem_range.1 hd
 rw [h.live.up hd,(h.dsk d hd).dead]; simp
theorem jg (h:GT R c m U sp jr st) {d s i:Nat} (hd:d < c.n.toNat) (hs:s < c.slots.toNat) (hi:i < c.k.toNat):(R.dsk (d:Nat)).jg c s i=(jr d s i).map fun x=>x.frm i:=by
 rcases e:jr d s i with _ | x
 ·
  exact Dsk.jg_none ((h.dsk d hd).jr0 s i hs hi e)
 ·
  have hu:=h.up_of_jr hd e
  exact Dsk.jg_has h.good (h.jfit d s i x hd hs hi e).1 (by have:=h.k8; omega) (by rw [(h.dsk d hd).dead,hu]; rfl) ((h.dsk d hd).jr1 s i x hs hi e)
theorem jgoods (h:GT R c m U sp jr st) {s i:Nat} (hs:s < c.slots.toNat) (hi:i < c.k.toNat) {f:Frm}:f∈R.jgoods c (s:Int) i↔∃ d x,d < c.n.toNat/\jr d s i=some x/\f=x.frm i:=by
 rw [Rck.jgoods_mem]
 constructor
 ·
  rintro ⟨d,hd,e⟩
  rw [h.super.jgood hd hs hi,h.jg hd hs hi] at e
  rcases q:jr d s i with _ | x
  ·
   rw [q] at e; cases e
  ·
   rw [q] at e
   exact ⟨d,x,hd,q,by cases e; rfl⟩
 ·
  rintro ⟨d,x,hd,e,rfl⟩
  exact ⟨d,hd,by rw [h.super.jgood hd hs hi,h.jg hd hs hi,e]; rfl⟩
theorem jslot (h:GT R c m U sp jr st) {s:Nat} (hs:s < c.slots.toNat) (hu:∀ d e i i' x y,d < c.n.toNat->e < c.n.toNat->i < c.k.toNat->i' < c.k.toNat->jr d s i=some x->jr e s i'=some y->x.seq=y.seq->x=y) :
  (∃ i,i < c.k.toNat/\(∀ d,d < c.n.toNat->jr d s i=none)/\R.jslot c (s:Int)=(Rcd.none_,false,0,some (.fault sJSlot s (.loss s 0 1)))) ∨
  ∃ x,(∃ d i,d < c.n.toNat/\i < c.k.toNat/\jr d s i=some x)/\(∀ d i y,d < c.n.toNat->i < c.k.toNat->jr d s i=some y->y.seq<=x.seq)/\(∀ i,i < c.k.toNat->∃ d x,d < c.n.toNat/\jr d s i=some x) ∧
   (((∀ i,i < c.k.toNat->∃ d,d < c.n.toNat/\jr d s i=some x)/\R.jslot c (s:Int)=(x,true,x.seq,none))\/((∃ i,i < c.k.toNat/\∀ d,d < c.n.toNat->jr d s i≠some x)/\R.jslot c (s:Int)=(Rcd.none_,false,x.seq,none))):=by
 have hk:=h.super.known hs
 by_cases hl:∃ i,i < c.k.toNat/\∀ d,d < c.n.toNat->jr d s i=none
 ·
  obtain ⟨i,hi,hn⟩:=hl
  refine .inl ⟨i,hi,hn,Rck.jslot_lost hk hi ?_⟩
  rcases q:R.jgoods c (s:Int) i with _ | ⟨f,l⟩
  ·
   rfl
  ·
   obtain ⟨d,x,hd,e,_⟩:=(h.jgoods hs hi).1 (show f∈R.jgoods c (s:Int) i by rw [q]; simp)
   rw [hn d hd] at e; cases e
 ·
  refine .inr ?_
  have hne:∀ i,i < c.k.toNat->∃ d x,d < c.n.toNat/\jr d s i=some x:=fun i hi=>Classical.byContradiction fun q=>hl ⟨i,hi,fun d hd=>by
   rcases e:jr d s i with _ | x
   ·
    rfl
   ·
    exact absurd ⟨d,x,hd,e⟩ q⟩
  obtain ⟨d0,x0,hd0,e0⟩:=hne 0 h.k0
  obtain ⟨x,⟨d1,i1,hd1,hi1,e1⟩,hmax⟩:=exists_max Rcd.seq 1152921504606846976 (fun x=>∃ d i,d < c.n.toNat/\i < c.k.toNat/\jr d s i=some x) (fun x ⟨d,i,hd,hi,e⟩=>(h.jfit d s i x hd hs hi e).1.seq1) _ x0 ⟨d0,0,hd0,h.k0,e0⟩ (Nat.le_refl _)
  have hge:∀ d i y,d < c.n.toNat->i < c.k.toNat->jr d s i=some y->y.seq<=x.seq:=fun d i y hd hi e=>hmax y ⟨d,i,hd,hi,e⟩
  obtain ⟨xf,xl⟩:=h.jfit d1 s i1 x hd1 hs hi1 e1
  refine ⟨x,⟨d1,i1,hd1,hi1,e1⟩,hge,hne,?_⟩
  by_cases hw:∀ i,i < c.k.toNat->∃ d,d < c.n.toNat/\jr d s i=some x
  ·
   refine .inl ⟨hw,Rck.jslot_full hk h.k0 xl xf.seq0 fun i hi=>⟨?_,fun f hf=>?_⟩⟩
   ·
    obtain ⟨d,hd,e⟩:=hw i hi
    exact ⟨x.frm i,(h.jgoods hs hi).2 ⟨d,x,hd,e,rfl⟩,rfl⟩
   ·
    obtain ⟨d,y,hd,e,rfl⟩:=(h.jgoods hs hi).1 hf
    refine ⟨hge d i y hd hi e,fun q=>?_⟩
    have q:y.seq=x.seq:=q
    rw [hu d d1 i i1 y x hd hd1 hi hi1 e e1 q]
  ·
   have hw':∃ i,i < c.k.toNat/\∀ d,d < c.n.toNat->jr d s i≠some x:=Classical.byContradiction fun q=>hw fun i hi=>Classical.byContradiction fun q2=>q ⟨i,hi,fun d hd e=>q2 ⟨d,hd,e⟩⟩
   obtain ⟨j,hj,hno⟩:=hw'
   refine .inr ⟨⟨j,hj,hno⟩,Rck.jslot_part hk xf.seq0 (fun i hi q=>?_) (fun i hi f hf=>?_) hi1 ⟨x.frm i1,(h.jgoods hs hi1).2 ⟨d1,x,hd1,e1,rfl⟩,rfl⟩ hj fun f hf=>?_⟩
   ·
    obtain ⟨d,y,hd,e⟩:=hne i hi
    have:y.frm i∈R.jgoods c (s:Int) i:=(h.jgoods hs hi).2 ⟨d,y,hd,e,rfl⟩
    rw [q] at this; cases this
   ·
    obtain ⟨d,y,hd,e,rfl⟩:=(h.jgoods hs hi).1 hf
    exact hge d i y hd hi e
   ·
    obtain ⟨d,y,hd,e,rfl⟩:=(h.jgoods hs hj).1 hf
    intro q
    have q:y.seq=x.seq:=q
    have:=hu d d1 j i1 y x hd hd1 hj hi1 e e1 q
    subst this
    exact hno d hd e
theorem jput (h:GT R c m U sp jr st) {slot:Nat} {x:Rcd} (hs:slot < c.slots.toNat) (hx:x.Fit c slot) (hl:(x.blocks.length:Int)=c.k) :
  ∃ R',R.jput c (slot:Int) x=(none,R')/\GT R' c m U sp (fun d s i=>if s=slot then (if U d then some x else none) else jr d s i) st:=by
 obtain ⟨R',e,l',k⟩:=h.live.jput h.good h.fit hs hx
 refine ⟨R',e,l',h.good,h.fit,fun d hd=>?_,fun d s i y hd hs' hi q=>?_,h.sfit⟩
 ·
  rw [k d hd]
  have hD:=h.dsk d hd
  rcases hu:U d with _ | _
  ·
   rw [hu] at hD
   rw [hD.dead]
   simp only [Bool.not_false,if_true]
   obtain ⟨g1,g2,g3⟩:=hD.gone rfl
   have e:(fun s i=>if s=slot then (if (false=true) then some x else none) else jr d s i)=jr d:=by
    funext s i
    by_cases q:s=slot
    ·
     rw [if_pos q,g2]; rfl
    ·
     rw [if_neg q]
   rw [e]
   exact hD
  ·
   rw [hu] at hD
   rw [hD.dead]
   simp only [Bool.not_true,Bool.false_eq_true,if_false,if_true]
   exact hD.jput h.good h.fit hs hx
 ·
  have q:(if s=slot then (if U d then some x else none) else jr d s i)=some y:=q
  by_cases e:s=slot
  ·
   rw [if_pos e] at q
   split at q
   ·
    cases q; subst e; exact ⟨hx,hl⟩
   ·
    cases q
  ·
   rw [if_neg e] at q
   exact h.jfit d s i y hd hs' hi q
theorem sput (h:GT R c m U sp jr st) {s:Nat} {gen:Int} {l:List (List Nat)} (hx:SFit c s gen l) :
  ∃ R',R.sput c (s:Int) gen l=(none,R')/\GT R' c m U sp jr (fun d t=>if t=s then (if U d then some (gen,l) else none) else st d t):=by
 obtain ⟨R',e,l',k⟩:=h.live.sputs h.good h.fit hx
 refine ⟨R',e,l',h.good,h.fit,fun d hd=>?_,h.jfit,fun d t y hd ht q=>?_⟩
 ·
  rw [k d hd]
  have hD:=h.dsk d hd
  rcases hu:U d with _ | _
  ·
   rw [hu] at hD
   rw [hD.dead]
   simp only [Bool.not_false,if_true]
   obtain ⟨g1,g2,g3⟩:=hD.gone rfl
   rw [show (fun t=>if t=s then (if false=true then some (gen,l) else none) else st d t)=st d by
    funext t
    by_cases q:t=s
    ·
     rw [if_pos q,g3]; rfl
    ·
     rw [if_neg q]]
   exact hD
  ·
   rw [hu] at hD
   rw [hD.dead]
   simp only [Bool.not_true,Bool.false_eq_true,if_false,if_true]
   exact hD.sput h.good h.fit hx
 ·
  have q:(if t=s then (if U d then some (gen,l) else none) else st d t)=some y:=q
  by_cases e:t=s
  ·
   rw [if_pos e] at q
   split at q
   ·
    cases q; subst e; exact hx
   ·
    cases q
  ·
   rw [if_neg e] at q
   exact h.sfit d t y hd ht q
theorem log (h:GT R c m U sp jr st) {slot:Nat} {x:Rcd} (hs:slot < c.slots.toNat) (hx:x.Fit c slot) (h2:2<=x.seq) (hl:(x.blocks.length:Int)=c.k) :
  ∃ R',R.jlog c x=(none,R')/\GT R' c m U sp (fun d s i=>if s=slot then (if U d then some x else none) else jr d s i) st:=by
 obtain ⟨R',e,h'⟩:=h.jput hs hx hl
 refine ⟨R',?_,h'⟩
 have hr:x.seq % c.slots=slot:=by
  rcases hx.ring with q | q
  ·
   omega
  ·
   exact q.2
 unfold Rck.jlog
 rw [if_pos,hr,e]
 ·
  rfl
 ·
  unfold Rck.jlogOk
  rw [h.super.fits]
  simp only [Bool.true_and,Bool.and_eq_true,decide_eq_true_eq]
  exact ⟨⟨⟨⟨h2,hx.seq1⟩,hx.st0⟩,hx.st1⟩,hl⟩
theorem blRec_fit (hc:c.Good) {s:Nat}:(blRec c).Fit c s/\((blRec c).blocks.length:Int)=c.k:=by
 refine ⟨⟨⟨fun b hb=>?_,fun b hb x hx=>?_⟩,Int.le_refl _,by show (0:Int) < c.stripes; have:=hc.st0; omega,Int.le_refl _,(by show (0:Int)<=1152921504606846976; decide),.inl rfl⟩,?_⟩
 ·
  have hb:b∈List.replicate c.k.toNat (List.replicate 108 0):=hb
  rw [(List.mem_replicate.1 hb).2]; simp
 ·
  have hb:b∈List.replicate c.k.toNat (List.replicate 108 0):=hb
  rw [(List.mem_replicate.1 hb).2] at hx
  rw [(List.mem_replicate.1 hx).2]; omega
 ·
  show (((List.replicate c.k.toNat (List.replicate 108 0)).length:Nat):Int)=c.k
  rw [List.length_replicate]; have:=hc.k0; omega
theorem jw_blRec (c:Cfg) (slot:Nat) (D:Dsk):D.jw c slot Rcd.none_=D.jw c slot (blRec c):=by
 unfold Dsk.jw
 congr 1
 funext D i
 rw [blRec_frm c i]
theorem blank (h:GT R c m U sp jr st) {slot:Nat} (hs:slot < c.slots.toNat) :
  ∃ R',R.jblank c (slot:Int)=(none,R')/\GT R' c m U sp (fun d s i=>if s=slot then (if U d then some (blRec c) else none) else jr d s i) st:=by
 obtain ⟨R1,e1,l1,k1⟩:=h.live.jput h.good h.fit hs (VH.none_fit h.good)
 obtain ⟨R2,e2,l2,k2⟩:=h.live.jput h.good h.fit hs (blRec_fit h.good (s:=slot)).1
 obtain ⟨R',e,h'⟩:=h.jput hs (blRec_fit h.good (s:=slot)).1 (blRec_fit h.good (s:=slot)).2
 have hr:R'=R2:=by rw [e2] at e; cases e; rfl
 refine ⟨R1,?_,l1,h.good,h.fit,fun d hd=>?_,h'.jfit,h'.sfit⟩
 ·
  unfold Rck.jblank
  rw [if_pos (h.super.known hs),e1]; rfl
 ·
  have:=h'.dsk d hd
  rw [hr,k2 d hd] at this
  rw [k1 d hd,jw_blRec]
  exact this
end GT
end Go.Proofs.YtkipjmbplmdaaaaGreat
namespace Go.Proofs.YtkipjmbplmdaaaaGreat
set_option linter.unusedVariables false
theorem newG_at (g:Nat->Option Frm):∀ n,newG g n=0\/∃ d f,d < n/\g d=some f/\f.gen=newG g n
 | 0=>.inl rfl
 | n+1=>by
  rcases hg:g n with _ | f
  ·
   have e:newG g (n+1)=newG g n:=by show (match g n with | some f=>max (newG g n) f.gen | none=>newG g n)=_; rw [hg]
   rcases newG_at g n with h | ⟨d,f,hd,h1,h2⟩
   ·
    exact .inl (e.trans h)
   ·
    exact .inr ⟨d,f,by omega,h1,h2.trans e.symm⟩
  ·
   have e:newG g (n+1)=max (newG g n) f.gen:=by show (match g n with | some f=>max (newG g n) f.gen | none=>newG g n)=_; rw [hg]
   by_cases q:newG g n<=f.gen
   ·
    exact .inr ⟨n,f,by omega,hg,by rw [e]; omega⟩
   ·
    rcases newG_at g n with h | ⟨d,f',hd,h1,h2⟩
    ·
     exact .inl (by rw [e]; omega)
    ·
     exact .inr ⟨d,f',by omega,h1,by rw [e]; omega⟩
namespace GT
variable {R:Rck} {c:Cfg} {m:Nat} {U sp:Nat->Bool} {jr:JR} {st:ST}
def sgf (c:Cfg) (st:ST) (s d:Nat):Option Frm:=(st d s).map fun y=>sfrm s y.1 d (sfrag c y.2 d)
theorem sg (h:GT R c m U sp jr st) {d s:Nat} (hd:d < c.n.toNat) (hs:s < c.stripes.toNat):(R.dsk (d:Nat)).sg c s d=sgf c st s d:=by
 unfold sgf
 rcases e:st d s with _ | y
 ·
  exact Dsk.sg_none ((h.dsk d hd).st0 s hs e)
 ·
  have hu:=h.up_of_st hd e
  exact Dsk.sg_has h.good (h.sfit d s y hd hs e) hd (by rw [(h.dsk d hd).dead,hu]; rfl) ((h.dsk d hd).st1 s y hs e)
theorem slook (h:GT R c m U sp jr st) {s:Nat} (hs:s < c.stripes.toNat):(R.slook c (s:Int)).1=newG (sgf c st s) c.n.toNat:=by rw [h.super.slook hs fun d hd=>h.sg hd hs]
theorem slook_ge (h:GT R c m U sp jr st) {s d:Nat} (hs:s < c.stripes.toNat) (hd:d < c.n.toNat) {y:Int × List (List Nat)} (e:st d s=some y):y.1<=(R.slook c (s:Int)).1:=by
 rw [h.slook hs]
 exact newG_ge (sgf c st s) c.n.toNat d (sfrm s y.1 d (sfrag c y.2 d)) hd (by unfold sgf; rw [e]; rfl)
theorem slook_at (h:GT R c m U sp jr st) {s:Nat} (hs:s < c.stripes.toNat):(R.slook c (s:Int)).1=0\/∃ d y,d < c.n.toNat/\st d s=some y/\y.1=(R.slook c (s:Int)).1:=by
 rw [h.slook hs]
 rcases newG_at (sgf c st s) c.n.toNat with q | ⟨d,f,hd,h1,h2⟩
 ·
  exact .inl q
 ·
  unfold sgf at h1
  rcases e:st d s with _ | y
  ·
   rw [e] at h1; cases h1
  ·
   rw [e] at h1
   cases h1
   exact .inr ⟨d,y,hd,e,h2⟩
theorem sget_ok (h:GT R c m U sp jr st) (k4:c.k<=4) (n6:c.n<=6) {s:Nat} (hs:s < c.stripes.toNat) {y:Int × List (List Nat)} (hmax:∀ d z,d < c.n.toNat->st d s=some z->z.1<=y.1/\(z.1=y.1->z=y))
  (hk:c.k.toNat<=((List.range c.n.toNat).filter fun d=>decide (st d s=some y)).length):R.sget c (s:Int)=(y.2,y.1,none):=by
 have hne:(List.range c.n.toNat).filter (fun d=>decide (st d s=some y))≠[]:=by
  intro q; rw [q] at hk; have:=h.k0; simp at hk; omega
 obtain ⟨d0,hd0⟩:=List.exists_mem_of_ne_nil _ hne
 obtain ⟨hd1,hd2⟩:=List.mem_filter.1 hd0
 have hd1:=List.mem_range.1 hd1
 have hd2:st d0 s=some y:=by simpa using hd2
 have hx:=h.sfit d0 s y hd1 hs hd2
 have hfe:∀ d∈List.range c.n.toNat,hasG (sgf c st s) y.1 d=decide (st d s=some y):=fun d hd=>by
  have hd:=List.mem_range.1 hd
  unfold hasG sgf
  rcases e:st d s with _ | z
  ·
   simp
  ·
   show decide ((sfrm s z.1 d (sfrag c z.2 d)).gen=y.1)=_
   rw [decide_eq_decide]
   show z.1=y.1↔_
   exact ⟨fun q=>by rw [(hmax d z hd e).2 q],fun q=>by cases q; rfl⟩
 have hfl:(List.range c.n.toNat).filter (hasG (sgf c st s) y.1)=(List.range c.n.toNat).filter fun d=>decide (st d s=some y):=List.filter_congr hfe
 refine h.super.sget_ok k4 n6 hs (fun d hd=>h.sg hd hs) hx.bl hx.g0 (fun d f hd hf=>?_) (by rw [hfl]; exact hk) ?_
 ·
  unfold sgf at hf
  rcases e:st d s with _ | z
  ·
   rw [e] at hf; cases hf
  ·
   rw [e] at hf
   cases hf
   refine ⟨(hmax d z hd e).1,fun q=>?_⟩
   rw [(hmax d z hd e).2 q]; rfl
 ·
  rw [h.online]
  have h2:((List.range c.n.toNat).filter fun d=>decide (st d s=some y)).length<=((List.range c.n.toNat).filter U).length:=by
   rw [<- List.countP_eq_length_filter,<- List.countP_eq_length_filter]
   refine List.countP_mono_left fun d hd q=>?_
   exact h.up_of_st (List.mem_range.1 hd) (show st d s=some y by simpa using q)
  have:=h.good.k0
  omega
theorem sget (h:GT R c m U sp jr st) (k4:c.k<=4) (n6:c.n<=6) {s:Nat} (hs:s < c.stripes.toNat) (hu:∀ d e y z,d < c.n.toNat->e < c.n.toNat->st d s=some y->st e s=some z->y.1=z.1->y=z) :
  (∃ e,R.sget c (s:Int)=([],0,some e)/\(e.kind=7/\e.lost=false\/e.kind=6/\e.lost=true))\/∃ y,(∃ d,d < c.n.toNat/\st d s=some y)/\(∀ d z,d < c.n.toNat->st d s=some z->z.1<=y.1)/\R.sget c (s:Int)=(y.2,y.1,none):=by
 have hk0:=h.good.k0
 by_cases hup:(R.online.length:Int) < c.k
 ·
  exact .inl ⟨_,h.super.sget_few hs hup,.inl ⟨rfl,rfl⟩⟩
 by_cases hne:∃ d y,d < c.n.toNat/\st d s=some y
 ·
  obtain ⟨d0,y0,hd0,e0⟩:=hne
  obtain ⟨y,⟨d1,hd1,e1⟩,hmax⟩:=exists_max (fun y:Int × List (List Nat)=>y.1) 1152921504606846976 (fun y=>∃ d,d < c.n.toNat/\st d s=some y) (fun y ⟨d,hd,e⟩=>(h.sfit d s y hd hs e).g1) _ y0 ⟨d0,hd0,e0⟩ (Nat.le_refl _)
  have hmax':∀ d z,d < c.n.toNat->st d s=some z->z.1<=y.1/\(z.1=y.1->z=y):=fun d z hd e=>⟨hmax z ⟨d,hd,e⟩,fun q=>hu d d1 z y hd hd1 e e1 q⟩
  by_cases hk:c.k.toNat<=((List.range c.n.toNat).filter fun d=>decide (st d s=some y)).length
  ·
   exact .inr ⟨y,⟨d1,hd1,e1⟩,fun d z hd e=>(hmax' d z hd e).1,h.sget_ok k4 n6 hs hmax' hk⟩
  ·
   have hx:=h.sfit d1 s y hd1 hs e1
   have hG:newG (sgf c st s) c.n.toNat=y.1:=newG_is (f:=sfrm s y.1 d1 (sfrag c y.2 d1)) (by have:=hx.g0; omega) (fun d f hd hf=>by
    unfold sgf at hf
    rcases e:st d s with _ | z
    ·
     rw [e] at hf; cases hf
    ·
     rw [e] at hf
     cases hf
     exact (hmax' d z hd e).1) hd1 (by unfold sgf; rw [e1]; rfl) rfl
   have hpl:(partsG (sgf c st s) y.1 c.n.toNat).length=((List.range c.n.toNat).filter fun d=>decide (st d s=some y)).length:=by
    rw [partsG_eq (b:=sfrag c y.2) (by have:=hx.g0; omega) (fun d f hd hf q=>by
     unfold sgf at hf
     rcases e:st d s with _ | z
     ·
      rw [e] at hf; cases hf
     ·
      rw [e] at hf
      cases hf
      rw [(hmax' d z hd e).2 q]; rfl),List.length_map]
    congr 1
    refine List.filter_congr fun d hd=>?_
    have hd:=List.mem_range.1 hd
    unfold hasG sgf
    rcases e:st d s with _ | z
    ·
     simp
    ·
     show decide ((sfrm s z.1 d (sfrag c z.2 d)).gen=y.1)=_
     rw [decide_eq_decide]
     show z.1=y.1↔_
     exact ⟨fun q=>by rw [(hmax' d z hd e).2 q],fun q=>by cases q; rfl⟩
   exact .inl ⟨_,h.super.sget_lost hs (fun d hd=>h.sg hd hs) (by rw [hG,hpl]; omega) (by omega),.inr ⟨rfl,rfl⟩⟩
 ·
  have hn:∀ d,d < c.n.toNat->sgf c st s d=none:=fun d hd=>by
   unfold sgf
   rcases e:st d s with _ | y
   ·
    rfl
   ·
    exact absurd ⟨d,y,hd,e⟩ hne
  have hp:(partsG (sgf c st s) (newG (sgf c st s) c.n.toNat) c.n.toNat).length=0:=by
   have:partsG (sgf c st s) (newG (sgf c st s) c.n.toNat) c.n.toNat=[]:=by
    unfold partsG
    rw [List.filterMap_eq_nil_iff]
    intro d hd
    unfold partAt
    rw [hn d (List.mem_range.1 hd)]; rfl
   rw [this]; rfl
  exact .inl ⟨_,h.super.sget_lost hs (fun d hd=>h.sg hd hs) (by rw [hp]; omega) (by omega),.inr ⟨rfl,rfl⟩⟩
theorem told (h:GT R c m U sp jr st) {d:Nat} (hd:d < c.n.toNat):R.superGet (d:Nat)=if sp d=true then some c else none:=by
 have h8:=h.good.n1
 rw [h.live.superGet h.m0 hd]
 have hD:=h.dsk d hd
 rcases hs:sp d with _ | _
 ·
  rw [if_neg (by simp)]
  rcases hu:U d with _ | _
  ·
   exact Dsk.told_dead _ d (by rw [hD.dead,hu]; rfl)
  ·
   exact Dsk.told_none _ d (by rw [hD.dead,hu]; rfl) (hD.sup0 hs)
 ·
  rw [if_pos rfl]
  have hu:U d=true:=by
   rcases hu:U d with _ | _
   ·
    have:=(hD.gone hu).1; rw [hs] at this; cases this
   ·
    rfl
  rw [Dsk.told_of _ d (by rw [hD.dead,hu]; rfl) (c.block d) (Cfg.block_ok c d h.good) (Cfg.block_right c d (by omega)) (hD.sup1 hs),if_pos ⟨rfl,rfl,rfl⟩]
  exact Cfg.told_block c h.good d
def cnt (sp:Nat->Bool) (n:Nat):Nat:=((List.range n).filter sp).length
theorem cnt_succ (sp:Nat->Bool) (n:Nat):cnt sp (n+1)=cnt sp n+if sp n=true then 1 else 0:=by
 unfold cnt
 rw [List.range_succ,List.filter_append,List.length_append]
 congr 1
 rcases hq:sp n with _ | _
 ·
  simp [hq]
 ·
  simp [hq]
theorem counted (h:GT R c m U sp jr st) (i:Nat) (hi:i<=c.n.toNat):R.counted i=(if cnt sp i=0 then Cfg.zero else c,cnt sp i):=by
 induction i with
 | zero=>rfl
 | succ i ih =>
  rw [Rck.counted_succ,ih (by omega),h.told (by omega),cnt_succ]
  rcases hb:sp i with _ | _
  ·
   simp [Rck.count]
  ·
   by_cases h0:cnt sp i=0
   ·
    simp [Rck.count,h0]
   ·
    simp [Rck.count,h0]
theorem find (h:GT R c m U sp jr st):R.superFind=if c.k<=(cnt sp c.n.toNat:Int) then (c,none) else (Cfg.zero,some (.fault sSuperFind (cnt sp c.n.toNat:Int) (.no 7))):=by
 have hcnt:=h.counted c.n.toNat (Nat.le_refl _)
 have hk:=h.good.k0
 unfold Rck.superFind
 rw [h.live.len,hcnt]
 generalize cnt sp c.n.toNat=L at *
 by_cases hL:c.k<=(L:Int)
 ·
  have h0:L≠0:=by omega
  rw [if_pos hL,if_neg]
  ·
   rw [if_neg h0]
  ·
   simp only [h0,if_false,false_or]
   intro q
   rcases q with q | q
   ·
    omega
   ·
    rw [h.super.fits] at q; cases q
 ·
  rw [if_neg hL,if_pos]
  by_cases h0:L=0
  ·
   exact .inl h0
  ·
   refine .inr (.inl ?_)
   show (L:Int) < (if L=0 then Cfg.zero else c).k
   rw [if_neg h0]; omega
end GT
end Go.Proofs.YtkipjmbplmdaaaaGreat
namespace Go.Proofs.YtkipjmbplmdaaaaGreat
set_option linter.unusedVariables false
def InSlot (c:Cfg) (jr:JR) (s:Nat) (x:Rcd):Prop:=∃ d i,d < c.n.toNat/\i < c.k.toNat/\jr d s i=some x
def Whole (c:Cfg) (jr:JR) (s:Nat) (x:Rcd):Prop:=∀ i,i < c.k.toNat->∃ d,d < c.n.toNat/\jr d s i=some x
inductive Slotted (c:Cfg) (U:Nat->Bool) (s:Nat) (jr jr':JR) (x:Rcd):Prop where
 | kept (h2:2<=x.seq) (hw:Whole c jr s x) (hm:∀ y,InSlot c jr s y->y.seq<=x.seq) (h:∀ d i,d < c.n.toNat->i < c.k.toNat->jr' d s i=if U d then some x else none)
 | blank (e:x=blRec c) (y:Rcd) (hne:∀ i,i < c.k.toNat->∃ d x,d < c.n.toNat/\jr d s i=some x) (hy:InSlot c jr s y) (hm:∀ z,InSlot c jr s z->z.seq<=y.seq) (hn:¬Whole c jr s y) (h:∀ d i,d < c.n.toNat->i < c.k.toNat->jr' d s i=if U d then some (blRec c) else none)
 | none (h0:x.seq=0) (hw:Whole c jr s x) (hz:∀ y,InSlot c jr s y->y=x) (h:∀ d i,d < c.n.toNat->i < c.k.toNat->jr' d s i=jr d s i)
def UniJ (c:Cfg) (jr:JR):Prop:=∀ s x y,s < c.slots.toNat->InSlot c jr s x->InSlot c jr s y->x.seq=y.seq->x=y
namespace GT
variable {R:Rck} {c:Cfg} {m:Nat} {U sp:Nat->Bool} {jr:JR} {st:ST}
structure Recs (R:Rck) (c:Cfg) (m:Nat) (U sp:Nat->Bool) (jr:JR) (st:ST) (n:Nat) (q:VRec) (jr':JR) (ch:Nat->Rcd):Prop where
 ok:q.err=none
 gt:GT q.R c m U sp jr' st
 slot:∀ s,s < n->Slotted c U s jr jr' (ch s)
 rest:∀ s,n<=s->∀ d i,jr' d s i=jr d s i
 out:∀ x,x∈q.out↔∃ s,s < n/\ch s=x/\2<=x.seq
 seq1:1<=q.seq
 seqs:∀ s y,s < n->InSlot c jr s y->y.seq<=q.seq
 seqb:∀ b,1<=b->(∀ s y,s < n->InSlot c jr s y->y.seq<=b)->q.seq<=b
theorem recs (h:GT R c m U sp jr st) (hu:UniJ c jr):∀ n,n<=c.slots.toNat ->
  (∃ e,(R.vrecs c 1 n).err=some e/\e.lost=true/\∃ s i,s < n/\i < c.k.toNat/\∀ d,d < c.n.toNat->jr d s i=none)\/∃ jr' ch,Recs R c m U sp jr st n (R.vrecs c 1 n) jr' ch
 | 0,_=>.inr ⟨jr,fun _=>blRec c,rfl,h,fun s hs=>absurd hs (Nat.not_lt_zero _),fun s _ d i=>rfl,fun x=>⟨fun hx=>(by cases hx),fun ⟨s,hs,_⟩=>absurd hs (Nat.not_lt_zero _)⟩,Int.le_refl _,fun s y hs=>absurd hs (Nat.not_lt_zero _),fun b hb _=>hb⟩
 | n+1,hn=>by
  rcases recs h hu n (by omega) with ⟨e,h1,h2,s,i,h3,h4⟩ | ⟨jr1,ch,hr⟩
  ·
   refine .inl ⟨e,?_,h2,s,i,by omega,h4⟩
   rw [Rck.vrecs_succ]
   unfold Rck.vrec
   rw [h1]
   exact h1
  ·
   rw [Rck.vrecs_succ]
   generalize R.vrecs c 1 n=q at *
   have hns:n < c.slots.toNat:=by omega
   have hin:∀ y,InSlot c jr1 n y↔InSlot c jr n y:=fun y=>by
    unfold InSlot
    constructor
    ·
     rintro ⟨d,i,hd,hi,e⟩; rw [hr.rest n (Nat.le_refl _)] at e; exact ⟨d,i,hd,hi,e⟩
    ·
     rintro ⟨d,i,hd,hi,e⟩; rw [<- hr.rest n (Nat.le_refl _)] at e; exact ⟨d,i,hd,hi,e⟩
   have hwh:∀ y,Whole c jr1 n y↔Whole c jr n y:=fun y=>by
    unfold Whole
    constructor
    ·
     intro z i hi; obtain ⟨d,hd,e⟩:=z i hi; rw [hr.rest n (Nat.le_refl _)] at e; exact ⟨d,hd,e⟩
    ·
     intro z i hi; obtain ⟨d,hd,e⟩:=z i hi; rw [<- hr.rest n (Nat.le_refl _)] at e; exact ⟨d,hd,e⟩
   have hjs:=hr.gt.jslot hns (fun d e i i' x y hd he hi hi' e1 e2 q2=>hu n x y hns ((hin x).1 ⟨d,i,hd,hi,e1⟩) ((hin y).1 ⟨e,i',he,hi',e2⟩) q2)
   unfold Rck.vrec
   rw [hr.ok]
   rcases hjs with ⟨i,hi,hno,ej⟩ | ⟨x,hx,hge,hne,hcase⟩
   ·
    refine .inl ⟨.fault sJSlot n (.loss n 0 1),?_,rfl,n,i,by omega,hi,fun d hd=>by rw [<- hr.rest n (Nat.le_refl _)]; exact hno d hd⟩
    simp only [ej]
   ·
    refine .inr ?_
    have hxi:InSlot c jr n x:=(hin x).1 (by obtain ⟨d,i,hd,hi,e⟩:=hx; exact ⟨d,i,hd,hi,e⟩)
    have hge':∀ y,InSlot c jr n y->y.seq<=x.seq:=fun y hy=>by
     obtain ⟨d,i,hd,hi,e⟩:=(hin y).2 hy
     exact hge d i y hd hi e
    have hxf:x.Fit c n/\(x.blocks.length:Int)=c.k:=by
     obtain ⟨d,i,hd,hi,e⟩:=hx
     exact hr.gt.jfit d n i x hd hns hi e
    have hsq:∀ s y,s < n+1->InSlot c jr s y->y.seq<=max q.seq x.seq:=fun s y hs hy=>by
     by_cases e:s=n
     ·
      subst e; have:=hge' y hy; omega
     ·
      have:=hr.seqs s y (by omega) hy; omega
    have hsb:∀ b,1<=b->(∀ s y,s < n+1->InSlot c jr s y->y.seq<=b)->max q.seq x.seq<=b:=fun b hb hy=>by
     have:=hr.seqb b hb fun s y hs=>hy s y (by omega)
     have:=hy n x (by omega) hxi
     omega
    have ho:∀ (z:Rcd),z.seq=0->∀ y,y∈q.out↔∃ s,s < n+1/\(if s=n then z else ch s)=y/\2<=y.seq:=fun z hz y=>by
     rw [hr.out y]
     constructor
     ·
      rintro ⟨s,hs,e,h2⟩; exact ⟨s,by omega,by rw [if_neg (by omega)]; exact e,h2⟩
     ·
      rintro ⟨s,hs,e,h2⟩
      by_cases q2:s=n
      ·
       rw [if_pos q2] at e; subst e; omega
      ·
       rw [if_neg q2] at e; exact ⟨s,by omega,e,h2⟩
    rcases hcase with ⟨hw,ej⟩ | ⟨hnw,ej⟩
    ·
     simp only [ej]
     by_cases h1:1 < x.seq
     ·
      obtain ⟨R2,e2,g2⟩:=hr.gt.log hns hxf.1 (by omega) hxf.2
      have ev:Rck.vslot q.R c n x true=(none,R2):=by
       unfold Rck.vslot
       rw [if_neg (by simp),if_pos h1,e2]
      simp only [ev]
      refine ⟨_,fun s=>if s=n then x else ch s,rfl,g2,fun s hs=>?_,fun s hs d i=>?_,fun y=>?_,by show 1<=max q.seq x.seq; have:=hr.seq1; omega,hsq,hsb⟩
      ·
       by_cases e:s=n
       ·
        subst e
        rw [if_pos rfl]
        refine .kept (by omega) ((hwh x).1 hw) hge' fun d i _ _=>?_
        simp only [if_true]
       ·
        rw [if_neg e]
        have:=hr.slot s (by omega)
        cases this with
        | kept a1 a2 a3 a4=>exact .kept a1 a2 a3 fun d i hd hi=>by simp only [e,if_false]; exact a4 d i hd hi
        | blank a1 y a0 a2 a3 a4 a5=>exact .blank a1 y a0 a2 a3 a4 fun d i hd hi=>by simp only [e,if_false]; exact a5 d i hd hi
        | none a1 a2 a3 a4=>exact .none a1 a2 a3 fun d i hd hi=>by simp only [e,if_false]; exact a4 d i hd hi
      ·
       simp only [show s≠n by omega,if_false]
       exact hr.rest s (by omega) d i
      ·
       show y∈(if True/\1 < x.seq then q.out++[x] else q.out)↔_
       rw [if_pos ⟨trivial,h1⟩,List.mem_append,hr.out y]
       constructor
       ·
        rintro (⟨s,hs,e,h2⟩ | hy)
        ·
         exact ⟨s,by omega,by rw [if_neg (by omega)]; exact e,h2⟩
        ·
         have:y=x:=by simpa using hy
         subst this
         exact ⟨n,by omega,by rw [if_pos rfl],by omega⟩
       ·
        rintro ⟨s,hs,e,h2⟩
        by_cases q2:s=n
        ·
         rw [if_pos q2] at e; subst e; exact .inr (by simp)
        ·
         rw [if_neg q2] at e; exact .inl ⟨s,by omega,e,h2⟩
     ·
      have ev:Rck.vslot q.R c n x true=(none,q.R):=by
       unfold Rck.vslot
       rw [if_neg (by simp),if_neg h1]
      simp only [ev]
      have h0:x.seq=0:=by
       rcases hxf.1.ring with q | q
       ·
        exact q
       ·
        omega
      refine ⟨jr1,fun s=>if s=n then x else ch s,rfl,hr.gt,fun s hs=>?_,fun s hs d i=>hr.rest s (by omega) d i,fun y=>?_,by show 1<=max q.seq x.seq; have:=hr.seq1; omega,hsq,hsb⟩
      ·
       by_cases e:s=n
       ·
        subst e
        rw [if_pos rfl]
        refine .none h0 ((hwh x).1 hw) (fun y hy=>?_) fun d i _ _=>hr.rest s (Nat.le_refl _) d i
        have:=hge' y hy
        obtain ⟨d,i,hd,hi,e⟩:=(hin y).2 hy
        have:=(hr.gt.jfit d s i y hd hns hi e).1.seq0
        exact hu s y x hns hy hxi (by omega)
       ·
        rw [if_neg e]
        exact hr.slot s (by omega)
      ·
       show y∈(if True/\1 < x.seq then q.out++[x] else q.out)↔_
       rw [if_neg (fun z=>h1 z.2)]
       exact ho x h0 y
    ·
     simp only [ej]
     obtain ⟨R2,e2,g2⟩:=hr.gt.blank hns
     have ev:Rck.vslot q.R c n Rcd.none_ false=(none,R2):=by
      unfold Rck.vslot
      rw [if_pos rfl,e2]
     simp only [ev]
     refine ⟨_,fun s=>if s=n then blRec c else ch s,rfl,g2,fun s hs=>?_,fun s hs d i=>?_,fun y=>?_,by show 1<=max q.seq x.seq; have:=hr.seq1; omega,hsq,hsb⟩
     ·
      by_cases e:s=n
      ·
       subst e
       rw [if_pos rfl]
       refine .blank rfl x (fun i hi=>by obtain ⟨d,z,hd,e⟩:=hne i hi; rw [hr.rest _ (Nat.le_refl _)] at e; exact ⟨d,z,hd,e⟩) hxi hge' (fun hw=>?_) fun d i _ _=>?_
       ·
        obtain ⟨i,hi,hno⟩:=hnw
        obtain ⟨d,hd,e⟩:=(hwh x).2 hw i hi
        exact hno d hd e
       ·
        simp only [if_true]
      ·
       rw [if_neg e]
       have:=hr.slot s (by omega)
       cases this with
       | kept a1 a2 a3 a4=>exact .kept a1 a2 a3 fun d i hd hi=>by simp only [e,if_false]; exact a4 d i hd hi
       | blank a1 y a0 a2 a3 a4 a5=>exact .blank a1 y a0 a2 a3 a4 fun d i hd hi=>by simp only [e,if_false]; exact a5 d i hd hi
       | none a1 a2 a3 a4=>exact .none a1 a2 a3 fun d i hd hi=>by simp only [e,if_false]; exact a4 d i hd hi
     ·
      simp only [show s≠n by omega,if_false]
      exact hr.rest s (by omega) d i
     ·
      show y∈(if False/\1 < x.seq then q.out++[x] else q.out)↔_
      rw [if_neg (fun z=>z.1)]
      exact ho (blRec c) rfl y
structure Played (c:Cfg) (U:Nat->Bool) (L:Rcd->Prop) (st st':ST):Prop where
 at_:∀ t,t < c.stripes.toNat ->
  (∃ x,L x/\x.stripe=(t:Int)/\(∀ y,L y->y.stripe=(t:Int)->y.seq<=x.seq)/\(∀ d y,d < c.n.toNat->st d t=some y->y.1<=x.seq)/\∀ d,d < c.n.toNat->st' d t=if U d then some (x.seq,x.blocks) else none) ∨
  ((∀ y,L y->y.stripe=(t:Int)->∃ d z,d < c.n.toNat/\st d t=some z/\y.seq < z.1)/\∀ d,d < c.n.toNat->st' d t=st d t)
theorem fit_of {x:Rcd} {s:Nat} (hx:x.Fit c s) (hl:(x.blocks.length:Int)=c.k) (h2:2<=x.seq):SFit c x.stripe.toNat x.seq x.blocks :=
 ⟨by have:=hx.st0; have:=hx.st1; omega,by omega,hx.seq1,Cd.Blocks.mem (by omega) hx.ok.len hx.ok.byte⟩
theorem plays:∀ (l:List Rcd),(∀ x∈l,2<=x.seq/\∃ s,x.Fit c s/\(x.blocks.length:Int)=c.k)->∀ {R:Rck} {st:ST},GT R c m U sp jr st->(∃ d,d < c.n.toNat/\U d=true) ->
  ∃ R' st',each (Rck.vplay c) l R=(none,R')/\GT R' c m U sp jr st'/\Played c U (fun x=>x∈l) st st'
 | [],_,R,st,h,_=>⟨R,st,rfl,h,⟨fun t ht=>.inr ⟨fun y hy=>by (cases hy),fun d _=>rfl⟩⟩⟩
 | x::l,hl,R,st,h,⟨d0,hd0,hu0⟩=>by
  obtain ⟨h2,s,hf,hb⟩:=hl x List.mem_cons_self
  have hsf:=fit_of hf hb h2
  have hst:((x.stripe.toNat:Nat):Int)=x.stripe:=by have:=hf.st0; omega
  have hlk:(R.slook c x.stripe).1=(R.slook c ((x.stripe.toNat:Nat):Int)).1:=by rw [hst]
  by_cases hlt:x.seq < (R.slook c x.stripe).1
  ·
   have ep:Rck.vplay c R x=(none,R):=by unfold Rck.vplay; rw [if_pos hlt]
   obtain ⟨R',st',e1,g1,p1⟩:=plays l (fun y hy=>hl y (List.mem_cons_of_mem _ hy)) h ⟨d0,hd0,hu0⟩
   refine ⟨R',st',?_,g1,⟨fun t ht=>?_⟩⟩
   ·
    show each (Rck.vplay c) (x::l) R=_
    rw [Zb3 ep]; exact e1
   ·
    have hz:x.stripe=(t:Int)->∃ d z,d < c.n.toNat/\st d t=some z/\x.seq < z.1:=fun e=>by
     rw [hlk] at hlt
     rcases h.slook_at hsf.st with q | ⟨d,z,hd,e1,e2⟩
     ·
      omega
     ·
      exact ⟨d,z,hd,by rw [<- e1]; congr 1; omega,by omega⟩
    rcases p1.at_ t ht with ⟨y,hy,es,hmax,hge,ha⟩ | ⟨hno,ha⟩
    ·
     refine .inl ⟨y,List.mem_cons_of_mem _ hy,es,fun z hz2 ez=>?_,hge,ha⟩
     rcases List.mem_cons.1 hz2 with rfl | hz2
     ·
      obtain ⟨d,w,hd,e1,e2⟩:=hz ez
      have:=hge d w hd e1
      omega
     ·
      exact hmax z hz2 ez
    ·
     refine .inr ⟨fun y hy ey=>?_,ha⟩
     rcases List.mem_cons.1 hy with rfl | hy
     ·
      exact hz ey
     ·
      exact hno y hy ey
  ·
   obtain ⟨R1,e1,g1⟩:=h.sput hsf
   rw [hst] at e1
   obtain ⟨st1,hs1⟩:∃ s:ST,s=fun d t=>if t=x.stripe.toNat then (if U d then some (x.seq,x.blocks) else none) else st d t:=⟨_,rfl⟩
   rw [<- hs1] at g1
   have ep:Rck.vplay c R x=(none,R1):=by unfold Rck.vplay; rw [if_neg hlt]; exact e1
   obtain ⟨R',st',e2,g2,p2⟩:=plays l (fun y hy=>hl y (List.mem_cons_of_mem _ hy)) g1 ⟨d0,hd0,hu0⟩
   refine ⟨R',st',?_,g2,⟨fun t ht=>?_⟩⟩
   ·
    show each (Rck.vplay c) (x::l) R=_
    rw [Zb3 ep]; exact e2
   ·
    have hold:x.stripe=(t:Int)->∀ d y,d < c.n.toNat->st d t=some y->y.1<=x.seq:=fun e d y hd ey=>by
     have:st d x.stripe.toNat=some y:=by rw [<- ey]; congr 1; omega
     have:=h.slook_ge hsf.st hd this
     rw [<- hlk] at this
     omega
    by_cases et:t=x.stripe.toNat
    ·
     have ex:x.stripe=(t:Int):=by omega
     have s1:∀ d,st1 d t=if U d then some (x.seq,x.blocks) else none:=fun d=>by rw [hs1]; simp only [et,if_true]
     rcases p2.at_ t ht with ⟨y,hy,es,hmax,hge,ha⟩ | ⟨hno,ha⟩
     ·
      have hxy:x.seq<=y.seq:=hge d0 (x.seq,x.blocks) hd0 (by rw [s1,hu0]; rfl)
      refine .inl ⟨y,List.mem_cons_of_mem _ hy,es,fun z hz ez=>?_,fun d z hd ez=>?_,ha⟩
      ·
       rcases List.mem_cons.1 hz with rfl | hz
       ·
        exact hxy
       ·
        exact hmax z hz ez
      ·
       have:=hold ex d z hd ez; omega
     ·
      refine .inl ⟨x,List.mem_cons_self,ex,fun z hz ez=>?_,hold ex,fun d hd=>by rw [ha d hd,s1]⟩
      rcases List.mem_cons.1 hz with rfl | hz
      ·
       exact Int.le_refl _
      ·
       obtain ⟨d,w,hd,e1,e2⟩:=hno z hz ez
       rw [s1] at e1
       split at e1
       ·
        cases e1; exact Int.le_of_lt e2
       ·
        cases e1
    ·
     have ex:x.stripe≠(t:Int):=by omega
     have s1:∀ d,st1 d t=st d t:=fun d=>by rw [hs1]; simp only [et,if_false]
     rcases p2.at_ t ht with ⟨y,hy,es,hmax,hge,ha⟩ | ⟨hno,ha⟩
     ·
      refine .inl ⟨y,List.mem_cons_of_mem _ hy,es,fun z hz ez=>?_,fun d z hd ez=>hge d z hd (by rw [s1]; exact ez),ha⟩
      rcases List.mem_cons.1 hz with rfl | hz
      ·
       exact absurd ez ex
      ·
       exact hmax z hz ez
     ·
      refine .inr ⟨fun y hy ey=>?_,fun d hd=>by rw [ha d hd,s1]⟩
      rcases List.mem_cons.1 hy with rfl | hy
      ·
       exact absurd ey ex
      ·
       obtain ⟨d,z,hd,e1,e2⟩:=hno y hy ey
       exact ⟨d,z,hd,by rw [s1] at e1; exact e1,e2⟩
end GT
end Go.Proofs.YtkipjmbplmdaaaaGreat
namespace Go.Proofs.YtkipjmbplmdaaaaGreat
set_option linter.unusedVariables false
def Bad (e:Err):Prop:=e.kind=7/\e.lost=false\/e.kind=6/\e.lost=true
def UniS (c:Cfg) (st:ST):Prop:=∀ s d e y z,s < c.stripes.toNat->d < c.n.toNat->e < c.n.toNat->st d s=some y->st e s=some z->y.1=z.1->y=z
namespace GT
variable {R:Rck} {c:Cfg} {m:Nat} {U sp:Nat->Bool} {jr:JR} {st:ST}
theorem asks (h:GT R c m U sp jr st) (k4:c.k<=4) (n6:c.n<=6) (hu:UniS c st) (seq:Int):∀ n,n<=c.stripes.toNat ->
  ((R.vask c seq n).1=none/\seq<=(R.vask c seq n).2/\(∀ b,seq<=b->(∀ s d y,s < n->d < c.n.toNat->st d s=some y->y.1<=b)->(R.vask c seq n).2<=b) ∧
   ∀ s,s < n->∃ y,(∃ d,d < c.n.toNat/\st d s=some y)/\(∀ d z,d < c.n.toNat->st d s=some z->z.1<=y.1)/\R.sget c (s:Int)=(y.2,y.1,none)/\y.1<=(R.vask c seq n).2) ∨
  ∃ e s,(R.vask c seq n).1=some e/\Bad e/\s < n/\R.sget c (s:Int)=([],0,some e)
 | 0,_=>.inl ⟨rfl,Int.le_refl _,fun b hb _=>hb,fun s hs=>absurd hs (Nat.not_lt_zero _)⟩
 | n+1,hn=>by
  have e0:R.vask c seq (n+1)=(match (R.vask c seq n).1 with | some e=>(some e,(R.vask c seq n).2) | none=>match (R.sget c n).2.2 with | some e=>(some e,(R.vask c seq n).2) | none=>(none,max (R.vask c seq n).2 (R.sget c n).2.1)):=rfl
  rcases asks h k4 n6 hu seq n (by omega) with ⟨h1,h2,h3,h4⟩ | ⟨e,s,h1,h2,h3,h4⟩
  ·
   rcases h.sget k4 n6 (s:=n) (by omega) (fun d e y z hd he e1 e2 q=>hu n d e y z (by omega) hd he e1 e2 q) with ⟨e,he,hb⟩ | ⟨y,hy,hmax,he⟩
   ·
    refine .inr ⟨e,n,?_,hb,by omega,he⟩
    rw [e0,h1,he]
   ·
    have e1:R.vask c seq (n+1)=(none,max (R.vask c seq n).2 y.1):=by rw [e0,h1,he]
    rw [e1]
    refine .inl ⟨rfl,by show seq<=max _ _; omega,fun b hb hz=>?_,fun s hs=>?_⟩
    ·
     have:=h3 b hb fun s d y hs=>hz s d y (by omega)
     obtain ⟨d,hd,e⟩:=hy
     have:=hz n d y (by omega) hd e
     show max _ _<=b
     omega
    ·
     by_cases q:s=n
     ·
      subst q; exact ⟨y,hy,hmax,he,by show y.1<=max _ _; omega⟩
     ·
      obtain ⟨z,z1,z2,z3,z4⟩:=h4 s (by omega)
      exact ⟨z,z1,z2,z3,by show z.1<=max _ _; omega⟩
  ·
   refine .inr ⟨e,s,?_,h2,by omega,h4⟩
   rw [e0,h1]
theorem bub_mem2 {α:Type} {key:α->Int} {y:α}:∀ (j:Nat) (l:List α),y∈l->y∈bub key j l
 | 0,l,h=>h
 | j+1,l,h=>by
  unfold bub
  split
  ·
   rename_i a b ha hb
   split
   ·
    refine bub_mem2 j _ ?_
    obtain ⟨i,hi,e⟩:=List.mem_iff_getElem.1 h
    have hal:j < l.length:=(List.getElem?_eq_some_iff.1 ha).1
    have hbl:j+1 < l.length:=(List.getElem?_eq_some_iff.1 hb).1
    have ha':l[j]=a:=(List.getElem?_eq_some_iff.1 ha).2
    have hb':l[j+1]=b:=(List.getElem?_eq_some_iff.1 hb).2
    rw [List.mem_iff_getElem]
    by_cases q1:i=j
    ·
     subst q1
     refine ⟨i+1,by simp; omega,?_⟩
     rw [List.getElem_set_self]; rw [<- ha',e]
    ·
     by_cases q2:i=j+1
     ·
      subst q2
      refine ⟨j,by simp; omega,?_⟩
      rw [List.getElem_set_ne (by omega),List.getElem_set_self]; rw [<- hb',e]
     ·
      refine ⟨i,by simp; omega,?_⟩
      rw [List.getElem_set_ne (by omega),List.getElem_set_ne (by omega)]; exact e
   ·
    exact h
  ·
   exact h
theorem sort_mem {α:Type} {key:α->Int} {y:α} (l:List α):∀ n,y∈sortTo key n l↔y∈l
 | 0=>Iff.rfl
 | n+1=>by
  rw [Zb6]
  exact ⟨fun h=>(sort_mem l n).1 (VH.bub_mem _ _ h),fun h=>bub_mem2 _ _ ((sort_mem l n).2 h)⟩
structure Opened (c:Cfg) (m:Nat) (U sp:Nat->Bool) (jr:JR) (st:ST) (R':Rck) (cur:Int) (jr':JR) (st':ST) (ch:Nat->Rcd):Prop where
 gt:GT R' c m U sp jr' st'
 slot:∀ s,s < c.slots.toNat->Slotted c U s jr jr' (ch s)
 play:Played c U (fun x=>∃ s,s < c.slots.toNat/\ch s=x/\2<=x.seq) st st'
 read:∀ s,s < c.stripes.toNat->∃ y,(∃ d,d < c.n.toNat/\st' d s=some y)/\(∀ d z,d < c.n.toNat->st' d s=some z->z.1<=y.1)/\R'.sget c (s:Int)=(y.2,y.1,none)/\y.1<=cur
 cur1:1<=cur
 curj:∀ s y,s < c.slots.toNat->InSlot c jr s y->y.seq<=cur
 curb:∀ b,1<=b->(∀ s y,s < c.slots.toNat->InSlot c jr s y->y.seq<=b)->(∀ s d y,s < c.stripes.toNat->d < c.n.toNat->st' d s=some y->y.1<=b)->cur<=b
inductive Shut (c:Cfg) (m:Nat) (U sp:Nat->Bool) (jr:JR) (st:ST):Prop where
 | few (h:(cnt sp c.n.toNat:Int) < c.k)
 | slot (s i:Nat) (hs:s < c.slots.toNat) (hi:i < c.k.toNat) (h:∀ d,d < c.n.toNat->jr d s i=none)
 | stripe (R':Rck) (jr':JR) (st':ST) (ch:Nat->Rcd) (gt:GT R' c m U sp jr' st') (slot:∀ s,s < c.slots.toNat->Slotted c U s jr jr' (ch s)) (play:Played c U (fun x=>∃ s,s < c.slots.toNat/\ch s=x/\2<=x.seq) st st') (s:Nat) (hs:s < c.stripes.toNat) (e:Err) (h:R'.sget c (s:Int)=([],0,some e))
theorem cnt_le (h:GT R c m U sp jr st):cnt sp c.n.toNat<=R.online.length:=by
 rw [h.online]
 unfold cnt
 rw [<- List.countP_eq_length_filter,<- List.countP_eq_length_filter]
 refine List.countP_mono_left fun d hd q=>?_
 rcases hu:U d with _ | _
 ·
  have:=((h.dsk d (List.mem_range.1 hd)).gone hu).1
  rw [q] at this; cases this
 ·
  rfl
theorem Slotted.fit {jr':JR} {x:Rcd} {s:Nat} (h:GT R c m U sp jr st) (hs:s < c.slots.toNat) (hx:Slotted c U s jr jr' x):x.Fit c s/\(x.blocks.length:Int)=c.k:=by
 have hw:Whole c jr s x->x.Fit c s/\(x.blocks.length:Int)=c.k:=fun hw=>by
  obtain ⟨d,hd,e⟩:=hw 0 h.k0
  exact h.jfit d s 0 x hd hs h.k0 e
 cases hx with
 | kept a1 a2 a3 a4=>exact hw a2
 | blank a1 y a0 a2 a3 a4 a5=>subst a1; exact blRec_fit h.good
 | none a1 a2 a3 a4=>exact hw a2
theorem Played.uni {L:Rcd->Prop} {st':ST} (h:Played c U L st st') (hs:UniS c st):UniS c st':=fun s d e y z hs' hd he e1 e2 q=>by
 rcases h.at_ s hs' with ⟨x,_,_,_,_,ha⟩ | ⟨_,ha⟩
 ·
  rw [ha d hd] at e1; rw [ha e he] at e2
  split at e1
  ·
   split at e2
   ·
    cases e1; cases e2; rfl
   ·
    cases e2
  ·
   cases e1
 ·
  rw [ha d hd] at e1; rw [ha e he] at e2
  exact hs s d e y z hs' hd he e1 e2 q
theorem opened (h:GT R c m U sp jr st) (k4:c.k<=4) (n6:c.n<=6) (huj:UniJ c jr) (hus:UniS c st) :
  (∃ e R',R.vopen=(some e,R',Cfg.zero,0)/\Bad e/\Shut c m U sp jr st)\/∃ R' cur jr' st' ch,R.vopen=(none,R',c,cur)/\Opened c m U sp jr st R' cur jr' st' ch:=by
 have hk0:=h.good.k0
 by_cases hc:c.k<=(cnt sp c.n.toNat:Int)
 ·
  have hon:=h.cnt_le
  have eo:R.vopen=match (R.vrecover c 1).1 with
    | some e=>(some (.fault sVOpen 0 e),(R.vrecover c 1).2.1,Cfg.zero,0)
    | none=>(none,(R.vrecover c 1).2.1,c,(R.vrecover c 1).2.2):=by
   unfold Rck.vopen
   rw [h.live.off,if_neg (by simp),h.find,if_pos hc]
   simp only
   rw [if_neg (by omega)]
   rcases (R.vrecover c 1).1 with _ | e<;>rfl
  have hup:∃ d,d < c.n.toNat/\U d=true:=by
   have hne:R.online≠[]:=by intro q; rw [q] at hon; simp at hon; omega
   obtain ⟨d,hd⟩:=List.exists_mem_of_ne_nil _ hne
   rw [h.online,List.mem_filter,List.mem_range] at hd
   exact ⟨d,hd.1,hd.2⟩
  rcases h.recs huj c.slots.toNat (Nat.le_refl _) with ⟨e,h1,h2,s,i,h3,h4,h5⟩ | ⟨jr',ch,hr⟩
  ·
   refine .inl ⟨.fault sVOpen 0 e,(R.vrecs c 1 c.slots.toNat).R,?_,.inr ⟨Err.kind_lost h2,h2⟩,.slot s i h3 h4 h5⟩
   ·
    rw [eo]
    unfold Rck.vrecover
    rw [h1]
  ·
   have hfit:∀ x∈sortR (R.vrecs c 1 c.slots.toNat).out,2<=x.seq/\∃ s,x.Fit c s/\(x.blocks.length:Int)=c.k:=fun x hx=>by
    obtain ⟨s,hs,e,h2⟩:=(hr.out x).1 ((sort_mem _ _).1 hx)
    have:=Slotted.fit h hs (hr.slot s hs)
    rw [e] at this
    exact ⟨h2,s,this⟩
   obtain ⟨R2,st',e2,g2,p2⟩:=plays _ hfit hr.gt hup
   have hp:Played c U (fun x=>∃ s,s < c.slots.toNat/\ch s=x/\2<=x.seq) st st':=by
    have e:(fun x=>x∈sortR (R.vrecs c 1 c.slots.toNat).out)=fun x=>∃ s,s < c.slots.toNat/\ch s=x/\2<=x.seq:=by
     funext x
     exact propext ((sort_mem _ _).trans (hr.out x))
    rw [<- e]; exact p2
   have er:R.vrecover c 1=((R2.vask c (R.vrecs c 1 c.slots.toNat).seq c.stripes.toNat).1,R2,(R2.vask c (R.vrecs c 1 c.slots.toNat).seq c.stripes.toNat).2):=by
    unfold Rck.vrecover
    rw [hr.ok]
    simp only [e2]
   rcases g2.asks k4 n6 (hp.uni hus) (R.vrecs c 1 c.slots.toNat).seq c.stripes.toNat (Nat.le_refl _) with ⟨a1,a2,a3,a4⟩ | ⟨e,s,a1,a2,a3,a4⟩
   ·
    refine .inr ⟨R2,_,jr',st',ch,?_,g2,hr.slot,hp,a4,Int.le_trans hr.seq1 a2,fun s y hs hy=>Int.le_trans (hr.seqs s y hs hy) a2,fun b b1 b2 b3=>a3 b (hr.seqb b b1 b2) b3⟩
    rw [eo,er,a1]
   ·
    refine .inl ⟨.fault sVOpen 0 e,R2,?_,a2,.stripe R2 jr' st' ch g2 hr.slot hp s a3 e a4⟩
    rw [eo,er,a1]
 ·
  refine .inl ⟨.fault sVOpen 0 (.fault sSuperFind (cnt sp c.n.toNat:Int) (.no 7)),R,?_,.inl ⟨rfl,rfl⟩,.few (by omega)⟩
  unfold Rck.vopen
  rw [h.live.off,if_neg (by simp),h.find,if_neg hc]
end GT
end Go.Proofs.YtkipjmbplmdaaaaGreat
namespace Go.Proofs.YtkipjmbplmdaaaaGreat
set_option linter.unusedVariables false
open Go.Proofs.YtkipjmbplmdaaaaGreat.GT (cnt Played Opened Shut)
structure VI (c:Cfg) (cur:Int) (j:Nat->Option Rcd) (f:Strs):Prop where
 vv:VV c cur j f
 zero:∀ s x,s < c.slots.toNat->j s=some x->x.seq=0->x=blRec c
 win:∀ s x,s < c.slots.toNat->j s=some x->x.seq≠0->cur - c.slots < x.seq
 inv:∀ s x g l,s < c.slots.toNat->j s=some x->2<=x.seq->f x.stripe.toNat=some (g,l)->x.seq=g\/∃ s' y,s' < c.slots.toNat/\j s'=some y/\y.stripe=x.stripe/\y.seq=g
structure Pnd (c:Cfg) (cur:Int) (p:Rcd) (a:Nat):Prop where
 fit:p.Fit c a
 len:(p.blocks.length:Int)=c.k
 seq:p.seq=cur+1
 a:a < c.slots.toNat
structure VCutS (c:Cfg) (j:Nat->Option Rcd) (f:Strs) (p:Rcd) (a:Nat) (jr:JR) (st:ST):Prop where
 slot:∀ d s i x,d < c.n.toNat->s < c.slots.toNat->i < c.k.toNat->jr d s i=some x->j s=some x\/(s=a/\(x=p\/x=blRec c))
 str:∀ d t y,d < c.n.toNat->t < c.stripes.toNat->st d t=some y->f t=some y\/((t:Int)=p.stripe/\y=(p.seq,p.blocks))
 cls:(∀ d t y,d < c.n.toNat->t < c.stripes.toNat->st d t=some y->f t=some y)\/∀ d i x,d < c.n.toNat->i < c.k.toNat->jr d a i=some x->x=p
theorem mod_gap {a b s:Int} (hs:0 < s) (h:a % s=b % s) (hlt:a < b):a<=b - s:=by
 have h1:=Int.emod_add_mul_ediv a s
 have h2:=Int.emod_add_mul_ediv b s
 have h3:a / s < b / s:=Classical.byContradiction fun q=>by
  have h4:s*(b / s)<=s*(a / s):=Int.mul_le_mul_of_nonneg_left (by omega) (by omega)
  omega
 have h5:s*(a / s+1)<=s*(b / s):=Int.mul_le_mul_of_nonneg_left (by omega) (by omega)
 rw [Int.mul_add,Int.mul_one] at h5
 omega
section
variable {R:Rck} {c:Cfg} {m:Nat} {U sp:Nat->Bool} {jr jr':JR} {st st':ST} {cur:Int} {j:Nat->Option Rcd} {f:Strs} {p:Rcd} {a:Nat} {ch:Nat->Rcd}
namespace VI
theorem fit (h:VI c cur j f) {s:Nat} (hs:s < c.slots.toNat) {x:Rcd} (e:j s=some x):x.Fit c s/\(x.blocks.length:Int)=c.k/\x.seq<=cur:=by
 obtain ⟨y,h1,h2,h3,h4⟩:=h.vv.slot s hs
 rw [e] at h1; cases h1
 refine ⟨h2,h3,?_⟩
 rcases h4 with q | q
 ·
  have:=h.vv.cur; omega
 ·
  exact q.2.1
theorem eldest (h:VI c cur j f) (hc:c.Good) (hp:Pnd c cur p a) {s:Nat} {x y:Rcd} (hs:s < c.slots.toNat) (ex:j s=some x) (hx:x.seq≠0) (ey:j a=some y) (hlt:x.seq < y.seq):False:=by
 have hw:=h.win s x hs ex hx
 have hsl:=hc.sl0
 obtain ⟨fy,_,cy⟩:=h.fit hp.a ey
 have:=(h.fit hs ex).1.seq0
 have e1:y.seq % c.slots=a:=by
  rcases fy.ring with q | q
  ·
   omega
  ·
   exact q.2
 have e2:p.seq % c.slots=a:=by
  have:=h.vv.cur
  have:=hp.seq
  rcases hp.fit.ring with q | q
  ·
   omega
  ·
   exact q.2
 have:=mod_gap (a:=y.seq) (b:=p.seq) (s:=c.slots) (by omega) (by rw [e1,e2]) (by have:=hp.seq; omega)
 have:=hp.seq
 omega
end VI
theorem Pnd.ge (h:Pnd c cur p a) (hv:VI c cur j f):2<=p.seq:=by have:=hv.vv.cur; have:=h.seq; omega
theorem Pnd.ne0 (h:Pnd c cur p a) (hv:VI c cur j f):p≠blRec c:=fun q=>by
 have:=h.ge hv
 rw [q] at this
 exact absurd this (by show ¬(2:Int)<=0; omega)
namespace VCutS
theorem inS (h:VCutS c j f p a jr st) {s:Nat} (hs:s < c.slots.toNat) {x:Rcd} (hx:InSlot c jr s x):j s=some x\/(s=a/\(x=p\/x=blRec c)):=by
 obtain ⟨d,i,hd,hi,e⟩:=hx
 exact h.slot d s i x hd hs hi e
theorem uniJ (h:VCutS c j f p a jr st) (hv:VI c cur j f) (hp:Pnd c cur p a):UniJ c jr:=fun s x y hs hx hy e=>by
 have hpg:=hp.ge hv
 have b0:(blRec c).seq=0:=rfl
 have hpc:=hp.seq
 have key:∀ x y,j s=some x->(y=p\/y=blRec c)->x.seq=y.seq->x=y:=fun x y ex ey e=>by
  rcases ey with rfl | rfl
  ·
   have:=(hv.fit hs ex).2.2; omega
  ·
   exact hv.zero s x hs ex (by omega)
 rcases h.inS hs hx with ex | ⟨_,ex⟩<;>rcases h.inS hs hy with ey | ⟨_,ey⟩
 ·
  rw [ex] at ey; cases ey; rfl
 ·
  exact key x y ex ey e
 ·
  exact (key y x ey ex e.symm).symm
 ·
  rcases ex with rfl | rfl<;>rcases ey with rfl | rfl
  ·
   rfl
  ·
   omega
  ·
   omega
  ·
   rfl
theorem uniS (h:VCutS c j f p a jr st) (hv:VI c cur j f) (hp:Pnd c cur p a):UniS c st:=fun s d e y z hs hd he ey ez q=>by
 have hpc:=hp.seq
 have key:∀ y z:Int × List (List Nat),f s=some y->z=(p.seq,p.blocks)->y.1=z.1->y=z:=fun y z ey ez q=>by
  obtain ⟨g,l,h1,h2,h3⟩:=hv.vv.str s hs
  rw [ey] at h1; cases h1
  subst ez
  have q:g=p.seq:=q
  omega
 rcases h.str d s y hd hs ey with e1 | ⟨_,e1⟩<;>rcases h.str e s z he hs ez with e2 | ⟨_,e2⟩
 ·
  rw [e1] at e2; cases e2; rfl
 ·
  exact key y z e1 e2 q
 ·
  exact (key z y e2 e1 q.symm).symm
 ·
  rw [e1,e2]
theorem chosen (h:VCutS c j f p a jr st) (hv:VI c cur j f) (hp:Pnd c cur p a) (hk:0 < c.k.toNat) {s:Nat} (hs:s < c.slots.toNat) {x:Rcd} (hx:Slotted c U s jr jr' x):j s=some x\/(s=a/\(x=blRec c\/(x=p/\Whole c jr a p))):=by
 have hpg:=hp.ge hv
 have inw:∀ x,Whole c jr s x->InSlot c jr s x:=fun x hw=>by
  obtain ⟨d,hd,e⟩:=hw 0 hk
  exact ⟨d,0,hd,hk,e⟩
 cases hx with
 | kept h2 hw hm _ =>
  rcases h.inS hs (inw x hw) with e | ⟨e1,e2⟩
  ·
   exact .inl e
  ·
   rcases e2 with e2 | e2
   ·
    subst e2; subst e1; exact .inr ⟨rfl,.inr ⟨rfl,hw⟩⟩
   ·
    exact .inr ⟨e1,.inl e2⟩
 | blank e y hne hy hm hn _ =>
  by_cases q:s=a
  ·
   exact .inr ⟨q,.inl e⟩
  ·
   exfalso
   refine hn fun i hi=>?_
   obtain ⟨d,z,hd,ez⟩:=hne i hi
   have e1:=(h.inS hs hy).resolve_right (fun z=>q z.1)
   have e2:=(h.slot d s i z hd hs hi ez).resolve_right (fun z=>q z.1)
   rw [e1] at e2; cases e2
   exact ⟨d,hd,ez⟩
 | none h0 hw hz _ =>
  rcases h.inS hs (inw x hw) with e | ⟨e1,e2⟩
  ·
   exact .inl e
  ·
   rcases e2 with e2 | e2
   ·
    subst e2; omega
   ·
    exact .inr ⟨e1,.inl e2⟩
theorem second (h:VCutS c j f p a jr st) (hv:VI c cur j f) (hp:Pnd c cur p a) (hk:0 < c.k.toNat) (hB:∀ d i x,d < c.n.toNat->i < c.k.toNat->jr d a i=some x->x=p) {x:Rcd} (hx:Slotted c U a jr jr' x):x=p:=by
 have hpg:=hp.ge hv
 cases hx with
 | kept h2 hw hm _ =>
  obtain ⟨d,hd,e⟩:=hw 0 hk
  exact hB d 0 x hd hk e
 | blank e y hne hy hm hn _ =>
  obtain ⟨d0,i0,hd0,hi0,e0⟩:=hy
  have:=hB d0 i0 y hd0 hi0 e0
  subst this
  exact absurd (fun i hi=>by
   obtain ⟨d,z,hd,ez⟩:=hne i hi
   have:=hB d i z hd hi ez
   subst this
   exact ⟨d,hd,ez⟩) hn
 | none h0 hw hz _ =>
  obtain ⟨d,hd,e⟩:=hw 0 hk
  exact hB d 0 x hd hk e
end VCutS
theorem played_fin (hc:c.Good) (h:VCutS c j f p a jr st) (hv:VI c cur j f) (hp:Pnd c cur p a) (hs:∀ s,s < c.slots.toNat->Slotted c U s jr jr' (ch s)) (hpl:Played c U (fun x=>∃ s,s < c.slots.toNat/\ch s=x/\2<=x.seq) st st')
  {f':Strs} (hf:(ch a=p/\f'=updS f p.stripe.toNat (p.seq,p.blocks))\/(ch a≠p/\f'=f)):∀ t,t < c.stripes.toNat ->
   (∃ y,f' t=some y/\∀ d,d < c.n.toNat->st' d t=if U d then some y else none)\/((∀ d,d < c.n.toNat->st' d t=st d t)/\∀ d y,d < c.n.toNat->st d t=some y->f' t=some y):=by
 intro t ht
 have hk:0 < c.k.toNat:=by have:=hc.k0; omega
 have hpg:=hp.ge hv
 have hps:((p.stripe.toNat:Nat):Int)=p.stripe:=by have:=hp.fit.st0; omega
 have hch:∀ s,s < c.slots.toNat->j s=some (ch s)\/(s=a/\(ch s=blRec c\/(ch s=p/\Whole c jr a p))):=fun s hs'=>h.chosen hv hp hk hs' (hs s hs')
 rcases hpl.at_ t ht with ⟨x,⟨s,hs',e,h2⟩,ex,hmax,hge,ha⟩ | ⟨hno,ha⟩
 ·
  refine .inl ⟨(x.seq,x.blocks),?_,ha⟩
  have hxs:x.stripe.toNat=t:=by omega
  rcases hch s hs' with q | ⟨rfl,q | ⟨q,_⟩⟩
  ·
   rw [e] at q
   by_cases hxp:x=p
   ·
    subst hxp
    have:=(hv.fit hs' q).2.2
    have:=hp.seq
    omega
   obtain ⟨y,e1,_,_,e4⟩:=hv.vv.slot s hs'
   rw [q] at e1; cases e1
   obtain ⟨q1,q2,g,l,hfx,hle,heq⟩:=e4.resolve_left (by omega)
   rw [hxs] at hfx
   have hxg:x.seq=g:=Classical.byContradiction fun hne=>by
    rcases hv.inv s x g l hs' q h2 (by rw [hxs]; exact hfx) with z | ⟨s2,y,hs2,ey,ys,yg⟩
    ·
     exact hne z
    ·
     rcases hch s2 hs2 with z | ⟨rfl,_⟩
     ·
      rw [ey] at z; cases z
      have:=hmax (ch s2) ⟨s2,hs2,rfl,by omega⟩ (by rw [ys]; exact ex)
      omega
     ·
      exact hv.eldest hc hp hs' q (by omega) ey (by omega)
   have hl:=heq hxg
   rcases hf with ⟨cp,hf⟩ | ⟨cp,hf⟩
   ·
    by_cases hts:t=p.stripe.toNat
    ·
     have:=hmax p ⟨a,hp.a,cp,hpg⟩ (by omega)
     have:=(hv.fit hs' q).2.2
     have:=hp.seq
     omega
    ·
     rw [hf,Zbc f _ hts,hfx,hl,hxg]
   ·
    rw [hf,hfx,hl,hxg]
  ·
   rw [e] at q; subst q
   exact absurd h2 (by show ¬(2:Int)<=0; omega)
  ·
   rw [e] at q; subst q
   rcases hf with ⟨cp,hf⟩ | ⟨cp,hf⟩
   ·
    rw [hf,<- hxs]; exact Zbp _ _ _
   ·
    exact absurd e cp
 ·
  refine .inr ⟨ha,fun d y hd ey=>?_⟩
  have hnot:¬(ch a=p/\(t:Int)=p.stripe):=fun ⟨cp,et⟩=>by
   obtain ⟨d2,z,hd2,ez,hlt⟩:=hno p ⟨a,hp.a,cp,hpg⟩ et.symm
   rcases h.str d2 t z hd2 ht ez with q | ⟨_,q⟩
   ·
    obtain ⟨g,l,h1,_,h3⟩:=hv.vv.str t ht
    rw [q] at h1; cases h1
    have:=hp.seq
    have hlt:p.seq < g:=hlt
    omega
   ·
    subst q
    exact absurd hlt (by show ¬p.seq < p.seq; omega)
  have hft:f' t=f t:=by
   rcases hf with ⟨cp,hf⟩ | ⟨cp,hf⟩
   ·
    rw [hf]
    exact Zbc f _ fun q=>hnot ⟨cp,by omega⟩
   ·
    rw [hf]
  rw [hft]
  rcases h.cls with hA | hB
  ·
   exact hA d t y hd ht ey
  ·
   rcases h.str d t y hd ht ey with q | ⟨q,_⟩
   ·
    exact q
   ·
    exact absurd ⟨h.second hv hp hk hB (hs a hp.a),q⟩ hnot
structure Reop (c:Cfg) (m:Nat) (U sp:Nat->Bool) (cur:Int) (j:Nat->Option Rcd) (f:Strs) (p:Rcd) (a:Nat) (jr:JR) (st:ST) (R':Rck) (cur':Int) (j':Nat->Option Rcd) (f':Strs) (jr':JR) (st':ST):Prop where
 gt:GT R' c m U sp jr' st'
 vi:VI c cur' j' f'
 str:f'=f\/f'=updS f p.stripe.toNat (p.seq,p.blocks)
 old:(∀ d i,d < c.n.toNat->i < c.k.toNat->jr d a i≠some p)->f'=f
 jin:∀ d s i x,d < c.n.toNat->s < c.slots.toNat->i < c.k.toNat->jr' d s i=some x->j' s=some x
 sin:∀ d t y,d < c.n.toNat->t < c.stripes.toNat->st' d t=some y->f' t=some y
 read:∀ t,t < c.stripes.toNat->∃ y,f' t=some y/\SFit c t y.1 y.2/\R'.sget c (t:Int)=(y.2,y.1,none)
 fullj:∀ d s i,d < c.n.toNat->s < c.slots.toNat->i < c.k.toNat->U d=true->jr d s i≠none->jr' d s i≠none
 fulls:∀ d t,d < c.n.toNat->t < c.stripes.toNat->U d=true->st d t≠none->st' d t≠none
 cur1:cur'<=cur+1
def Sure (c:Cfg) (sp:Nat->Bool) (jr:JR) (st:ST):Prop:=∃ G:Nat->Bool,c.k.toNat<=cnt G c.n.toNat/\∀ d,d < c.n.toNat->G d=true->sp d=true/\(∀ s i,s < c.slots.toNat->i < c.k.toNat->jr d s i≠none)/\∀ t,t < c.stripes.toNat->st d t≠none
end
end Go.Proofs.YtkipjmbplmdaaaaGreat
namespace Go.Proofs.YtkipjmbplmdaaaaGreat
set_option linter.unusedVariables false
open Go.Proofs.YtkipjmbplmdaaaaGreat.GT (cnt Played Opened Shut)
section
variable {R:Rck} {c:Cfg} {m:Nat} {U sp:Nat->Bool} {jr jr':JR} {st st':ST} {cur:Int} {j:Nat->Option Rcd} {f:Strs} {p:Rcd} {a:Nat} {ch:Nat->Rcd}
theorem cnt_mono {G H:Nat->Bool} {n:Nat} (h:∀ d,d < n->G d=true->H d=true):cnt G n<=cnt H n:=by
 unfold GT.cnt
 rw [<- List.countP_eq_length_filter,<- List.countP_eq_length_filter]
 exact List.countP_mono_left fun d hd q=>h d (List.mem_range.1 hd) q
theorem cnt_some {G:Nat->Bool} {n:Nat} (h:0 < cnt G n):∃ d,d < n/\G d=true:=by
 unfold GT.cnt at h
 have hne:(List.range n).filter G≠[]:=by intro q; rw [q] at h; simp at h
 obtain ⟨d,hd⟩:=List.exists_mem_of_ne_nil _ hne
 obtain ⟨h1,h2⟩:=List.mem_filter.1 hd
 exact ⟨d,List.mem_range.1 h1,h2⟩
theorem Slotted.inS {s:Nat} {x:Rcd} (h:Slotted c U s jr jr' x) (hk:0 < c.k.toNat):x=blRec c\/InSlot c jr s x:=by
 have inw:Whole c jr s x->InSlot c jr s x:=fun hw=>by
  obtain ⟨d,hd,e⟩:=hw 0 hk
  exact ⟨d,0,hd,hk,e⟩
 cases h with
 | kept h2 hw hm _=>exact .inr (inw hw)
 | blank e y hne hy hm hn _=>exact .inl e
 | none h0 hw hz _=>exact .inr (inw hw)
theorem Slotted.to {s d i:Nat} {x y:Rcd} (h:Slotted c U s jr jr' x) (hd:d < c.n.toNat) (hi:i < c.k.toNat) (e:jr' d s i=some y):y=x:=by
 have ite:∀ z:Rcd,(if U d then some z else Option.none)=some y->y=z:=fun z q=>by
  split at q
  ·
   cases q; rfl
  ·
   cases q
 cases h with
 | kept h2 hw hm ha=>rw [ha d i hd hi] at e; exact ite x e
 | blank ex z hne hy hm hn ha=>rw [ha d i hd hi] at e; rw [ex]; exact ite _ e
 | none h0 hw hz ha=>rw [ha d i hd hi] at e; exact hz y ⟨d,i,hd,hi,e⟩
theorem Slotted.full {s d i:Nat} {x:Rcd} (h:Slotted c U s jr jr' x) (hd:d < c.n.toNat) (hi:i < c.k.toNat) (hu:U d=true) (e:jr d s i≠Option.none):jr' d s i≠Option.none:=by
 cases h with
 | kept h2 hw hm ha=>rw [ha d i hd hi,hu]; simp
 | blank ex z hne hy hm hn ha=>rw [ha d i hd hi,hu]; simp
 | none h0 hw hz ha=>rw [ha d i hd hi]; exact e
theorem GT.up_of_sp (h:GT R c m U sp jr st) {d:Nat} (hd:d < c.n.toNat) (e:sp d=true):U d=true:=by
 rcases hu:U d with _ | _
 ·
  have:=((h.dsk d hd).gone hu).1
  rw [e] at this; cases this
 ·
  rfl
theorem GT.sure (h:GT R c m U sp jr st) (k4:c.k<=4) (n6:c.n<=6) (hv:VI c cur j f) (hp:Pnd c cur p a) (hc:VCutS c j f p a jr st) (hs:Shut c m U sp jr st):¬Sure c sp jr st:=by
 rintro ⟨G,hG,hGd⟩
 have hk:=h.k0
 cases hs with
 | few hq =>
  have:=cnt_mono (G:=G) (H:=sp) (n:=c.n.toNat) fun d hd e=>(hGd d hd e).1
  omega
 | slot s i hs hi hn =>
  obtain ⟨d,hd,e⟩:=cnt_some (G:=G) (n:=c.n.toNat) (by omega)
  exact (hGd d hd e).2.1 s i hs hi (hn d hd)
 | stripe R' jr' st' ch gt slot play t ht e he =>
  obtain ⟨f',hf'⟩:∃ f',(ch a=p/\f'=updS f p.stripe.toNat (p.seq,p.blocks))\/(ch a≠p/\f'=f):=by
   by_cases q:ch a=p
   ·
    exact ⟨_,.inl ⟨q,rfl⟩⟩
   ·
    exact ⟨_,.inr ⟨q,rfl⟩⟩
  have key:∃ y,(∀ d z,d < c.n.toNat->st' d t=some z->z=y)/\∀ d,d < c.n.toNat->G d=true->st' d t=some y:=by
   rcases played_fin h.good hc hv hp slot play hf' t ht with ⟨y,hy,ha⟩ | ⟨ha,hin⟩
   ·
    refine ⟨y,fun d z hd q=>?_,fun d hd q=>?_⟩
    ·
     rw [ha d hd] at q
     split at q
     ·
      cases q; rfl
     ·
      cases q
    ·
     rw [ha d hd,h.up_of_sp hd (hGd d hd q).1]; rfl
   ·
    obtain ⟨d0,hd0,e0⟩:=cnt_some (G:=G) (n:=c.n.toNat) (by omega)
    rcases q:st d0 t with _ | y
    ·
     exact absurd q ((hGd d0 hd0 e0).2.2 t ht)
    ·
     have hy:=hin d0 y hd0 q
     have all:∀ d z,d < c.n.toNat->st d t=some z->z=y:=fun d z hd q=>by
      have:=hin d z hd q
      rw [hy] at this; cases this; rfl
     refine ⟨y,fun d z hd q=>all d z hd (by rw [<- ha d hd]; exact q),fun d hd q=>?_⟩
     rw [ha d hd]
     rcases z:st d t with _ | z'
     ·
      exact absurd z ((hGd d hd q).2.2 t ht)
     ·
      rw [all d z' hd z]
  obtain ⟨y,h1,h2⟩:=key
  have:=gt.sget_ok k4 n6 ht (y:=y) (fun d z hd q=>by rw [h1 d z hd q]; exact ⟨Int.le_refl _,fun _=>rfl⟩) (Nat.le_trans hG (by
   unfold GT.cnt
   rw [<- List.countP_eq_length_filter,<- List.countP_eq_length_filter]
   exact List.countP_mono_left fun d hd q=>by rw [decide_eq_true_eq]; exact h2 d (List.mem_range.1 hd) q))
  rw [he] at this
  have:=congrArg (fun q=>q.2.2) this
  cases this
theorem GT.reopen (h:GT R c m U sp jr st) (k4:c.k<=4) (n6:c.n<=6) (hv:VI c cur j f) (hp:Pnd c cur p a) (hc:VCutS c j f p a jr st) :
  (∃ e R',R.vopen=(some e,R',Cfg.zero,0)/\Bad e/\¬Sure c sp jr st)\/∃ R' cur' j' f' jr' st',R.vopen=(none,R',c,cur')/\Reop c m U sp cur j f p a jr st R' cur' j' f' jr' st':=by
 have hk:=h.k0
 have hsl:=h.good.sl0
 have hpg:=hp.ge hv
 have hps:=hp.seq
 rcases h.opened k4 n6 (hc.uniJ hv hp) (hc.uniS hv hp) with ⟨e,R',e1,hb,hs⟩ | ⟨R',cur',jr',st',ch,e1,o⟩
 ·
  exact .inl ⟨e,R',e1,hb,h.sure k4 n6 hv hp hc hs⟩
 ·
  obtain ⟨f',hf'⟩:∃ f',(ch a=p/\f'=updS f p.stripe.toNat (p.seq,p.blocks))\/(ch a≠p/\f'=f):=by
   by_cases q:ch a=p
   ·
    exact ⟨_,.inl ⟨q,rfl⟩⟩
   ·
    exact ⟨_,.inr ⟨q,rfl⟩⟩
  have hfin:=played_fin h.good hc hv hp o.slot o.play hf'
  have hch:∀ s,s < c.slots.toNat->j s=some (ch s)\/(s=a/\(ch s=blRec c\/(ch s=p/\Whole c jr a p))):=fun s hs'=>hc.chosen hv hp hk hs' (o.slot s hs')
  have hpst:((p.stripe.toNat:Nat):Int)=p.stripe:=by have:=hp.fit.st0; omega
  have sin:∀ d t y,d < c.n.toNat->t < c.stripes.toNat->st' d t=some y->f' t=some y:=fun d t y hd ht e=>by
   rcases hfin t ht with ⟨z,hz,ha⟩ | ⟨ha,hin⟩
   ·
    rw [ha d hd] at e
    split at e
    ·
     cases e; exact hz
    ·
     cases e
   ·
    rw [ha d hd] at e; exact hin d y hd e
  have fle:∀ t y,t < c.stripes.toNat->f' t=some y->y.1<=cur+1/\(f'=f->y.1<=cur):=fun t y ht e=>by
   have h0:f t=some y->y.1<=cur:=fun q=>by
    obtain ⟨g,l,h1,_,h3⟩:=hv.vv.str t ht
    rw [q] at h1; cases h1; exact h3
   rcases hf' with ⟨_,q⟩ | ⟨_,q⟩
   ·
    refine ⟨?_,fun z=>h0 (by rw [<- z]; exact e)⟩
    rw [q] at e
    by_cases et:t=p.stripe.toNat
    ·
     subst et; rw [Zbp] at e; cases e; show p.seq<=_; omega
    ·
     rw [Zbc f _ et] at e; have:=h0 e; omega
   ·
    rw [q] at e; have:=h0 e
    exact ⟨by omega,fun _=>this⟩
  have inle:∀ s y,s < c.slots.toNat->InSlot c jr s y->y.seq<=cur\/(s=a/\y=p):=fun s y hs hy=>by
   rcases hc.inS hs hy with q | ⟨q1,q2 | q2⟩
   ·
    exact .inl (hv.fit hs q).2.2
   ·
    exact .inr ⟨q1,q2⟩
   ·
    subst q2
    have:=hv.vv.cur
    exact .inl (by show (0:Int)<=cur; omega)
  have hA:cur'<=cur+1:=o.curb _ (by have:=hv.vv.cur; omega) (fun s y hs hy=>by
   rcases inle s y hs hy with q | ⟨_,rfl⟩
   ·
    omega
   ·
    omega) fun s d y hs hd e=>(fle s y hs (sin d s y hd hs e)).1
  have hB:j a=some (ch a)->(ch a).seq≠0->cur'<=cur:=fun e hz=>by
   have hle:=(hv.fit hp.a e).2.2
   have hne:ch a≠p:=fun q=>by rw [q] at hle; omega
   have hff:f'=f:=by
    rcases hf' with ⟨q,_⟩ | ⟨_,q⟩
    ·
     exact absurd q hne
    ·
     exact q
   refine o.curb _ hv.vv.cur (fun s y hs hy=>?_) fun s d y hs hd e=>(fle s y hs (sin d s y hd hs e)).2 hff
   rcases inle s y hs hy with q | ⟨rfl,rfl⟩
   ·
    exact q
   ·
    cases o.slot s hs with
    | kept h2 hw hm _=>have:=hm _ hy; omega
    | blank ex z hne hy hm hn _=>rw [ex] at hz; exact absurd rfl hz
    | none h0 hw hz' _=>exact absurd h0 hz
  refine .inr ⟨R',cur',fun s=>some (ch s),f',jr',st',e1,⟨o.gt,⟨⟨fun s hs=>?_,fun t ht=>?_,o.cur1⟩,fun s x hs ex hz=>?_,fun s x hs ex hz=>?_,fun s x g l hs ex h2 hfx=>?_⟩,?_,fun hno=>?_,fun d s i x hd hs hi e=>?_,sin,fun t ht=>?_,fun d s i hd hs hi hu e=>(o.slot s hs).full hd hi hu e,fun d t hd ht hu e=>?_,hA⟩⟩
  ·
   -- slots
   obtain ⟨q1,q2⟩:=GT.Slotted.fit h hs (o.slot s hs)
   refine ⟨ch s,rfl,q1,q2,?_⟩
   have hcj:InSlot c jr s (ch s)->(ch s).seq<=cur':=fun q=>o.curj s _ hs q
   have hin:=(o.slot s hs).inS hk
   rcases hch s hs with q | ⟨rfl,q | ⟨q,_⟩⟩
   ·
    obtain ⟨x,x1,x2,x3,x4⟩:=hv.vv.slot s hs
    rw [q] at x1; cases x1
    rcases x4 with x4 | ⟨y1,y2,g,l,y3,y4,y5⟩
    ·
     exact .inl x4
    ·
     refine .inr ⟨y1,hcj (hin.resolve_left fun z=>by rw [z] at y1; exact absurd y1 (by show ¬(2:Int)<=0; omega)),?_⟩
     rcases hf' with ⟨_,z⟩ | ⟨_,z⟩
     ·
      by_cases et:(ch s).stripe.toNat=p.stripe.toNat
      ·
       refine ⟨p.seq,p.blocks,by rw [z,et]; exact Zbp _ _ _,by omega,fun w=>by omega⟩
      ·
       exact ⟨g,l,by rw [z,Zbc f _ et]; exact y3,y4,y5⟩
     ·
      exact ⟨g,l,by rw [z]; exact y3,y4,y5⟩
   ·
    exact .inl (by rw [q]; rfl)
   ·
    refine .inr ⟨by rw [q]; exact hpg,hcj (hin.resolve_left fun z=>hp.ne0 hv (by rw [<- q,z])),p.seq,p.blocks,?_,by rw [q]; exact Int.le_refl _,fun _=>by rw [q]⟩
    rcases hf' with ⟨_,z⟩ | ⟨z,_⟩
    ·
     rw [z,q]; exact Zbp _ _ _
    ·
     exact absurd q z
  ·
   obtain ⟨y,⟨d,hd,e⟩,h2,h3,h4⟩:=o.read t ht
   exact ⟨y.1,y.2,sin d t y hd ht e,o.gt.sfit d t y hd ht e,h4⟩
  ·
   have ex:some (ch s)=some x:=ex
   cases ex
   rcases hch s hs with q | ⟨rfl,q | ⟨q,_⟩⟩
   ·
    exact hv.zero s _ hs q hz
   ·
    exact q
   ·
    rw [q] at hz; omega
  ·
   have ex:some (ch s)=some x:=ex
   cases ex
   rcases hch s hs with q | ⟨rfl,q | ⟨q,_⟩⟩
   ·
    have hw:=hv.win s _ hs q hz
    by_cases hcc:cur'<=cur
    ·
     omega
    ·
     refine Classical.byContradiction fun hq=>?_
     have hxs:(ch s).seq=p.seq - c.slots:=by omega
     have r1:(ch s).seq % c.slots=s:=by
      rcases (hv.fit hs q).1.ring with z | z
      ·
       exact absurd z hz
      ·
       exact z.2
     have r2:p.seq % c.slots=a:=by
      rcases hp.fit.ring with z | z
      ·
       omega
      ·
       exact z.2
     rw [hxs,Int.sub_emod_right,r2] at r1
     have:s=a:=by omega
     subst this
     exact hcc (hB q hz)
   ·
    rw [q] at hz; exact absurd rfl hz
   ·
    rw [q]; omega
  ·
   have ex:some (ch s)=some x:=ex
   cases ex
   by_cases hg:(ch s).seq=g
   ·
    exact .inl hg
   refine .inr ?_
   have hj:j s=some (ch s):=by
    rcases hch s hs with q | ⟨rfl,q | ⟨q,_⟩⟩
    ·
     exact q
    ·
     rw [q] at h2; exact absurd h2 (by show ¬(2:Int)<=0; omega)
    ·
     exfalso
     rcases hf' with ⟨_,z⟩ | ⟨z,_⟩
     ·
      rw [z,q,Zbp] at hfx; cases hfx
      exact hg (by rw [q])
     ·
      exact z q
   by_cases hcp:ch a=p/\(ch s).stripe.toNat=p.stripe.toNat
   ·
    refine ⟨a,ch a,hp.a,rfl,?_,?_⟩
    ·
     rw [hcp.1]; have:=(hv.fit hs hj).1.st0; have:=hp.fit.st0; omega
    ·
     rcases hf' with ⟨_,z⟩ | ⟨z,_⟩
     ·
      rw [z,hcp.2,Zbp] at hfx; cases hfx
      rw [hcp.1]
     ·
      exact absurd hcp.1 z
   ·
    have hfo:f (ch s).stripe.toNat=some (g,l):=by
     rcases hf' with ⟨z1,z⟩ | ⟨_,z⟩
     ·
      rw [z,Zbc f _ fun q=>hcp ⟨z1,q⟩] at hfx; exact hfx
     ·
      rw [z] at hfx; exact hfx
    obtain ⟨x,x1,x2,x3,x4⟩:=hv.vv.slot s hs
    rw [hj] at x1; cases x1
    obtain ⟨y1,y2,g',l',y3,y4,y5⟩:=x4.resolve_left (by omega)
    rw [hfo] at y3; cases y3
    obtain ⟨s',y,z1,z2,z3,z4⟩:=(hv.inv s _ g l hs hj h2 hfo).resolve_left hg
    rcases hch s' z1 with q | ⟨rfl,_⟩
    ·
     rw [z2] at q; cases q
     exact ⟨s',_,z1,rfl,z3,z4⟩
    ·
     exact (hv.eldest h.good hp hs hj (by omega) z2 (by omega)).elim
  ·
   rcases hf' with ⟨_,q⟩ | ⟨_,q⟩
   ·
    exact .inr q
   ·
    exact .inl q
  ·
   rcases hf' with ⟨q1,q⟩ | ⟨_,q⟩
   ·
    exfalso
    rcases hch a hp.a with z | ⟨_,z | ⟨_,z⟩⟩
    ·
     rw [q1] at z; have:=(hv.fit hp.a z).2.2; omega
    ·
     exact hp.ne0 hv (by rw [<- q1,z])
    ·
     obtain ⟨d,hd,e⟩:=z 0 hk
     exact hno d 0 hd hk e
   ·
    exact q
  ·
   show some (ch s)=some x
   rw [(o.slot s hs).to hd hi e]
  ·
   obtain ⟨y,⟨d,hd,e⟩,h2,h3,h4⟩:=o.read t ht
   exact ⟨y,sin d t y hd ht e,o.gt.sfit d t y hd ht e,h3⟩
  ·
   rcases hfin t ht with ⟨z,hz,ha⟩ | ⟨ha,hin⟩
   ·
    rw [ha d hd,hu]; simp
   ·
    rw [ha d hd]; exact e
end
end Go.Proofs.YtkipjmbplmdaaaaGreat
