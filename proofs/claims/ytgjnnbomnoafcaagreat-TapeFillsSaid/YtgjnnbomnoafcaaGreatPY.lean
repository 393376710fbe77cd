/- Texts of one proof, joined: VolCut, Online, GtA, GtB, GtC, GtD, GtE, GtF. -/
import Derived.Test.YtgjnnbomnoafcaaGreatPS
import Derived.Test.YtgjnnbomnoafcaaGreatPI
set_option linter.unusedVariables false
set_option linter.unusedSimpArgs false
namespace Go.Proofs.YtgjnnbomnoafcaaGreat
set_option linter.unusedVariables false
structure Pc (c:Cfg) (d:Nat) (J:Nat->Rcd->Prop) (F:Nat->Int × List (List Nat)->Prop) (q:Nat) (b:List Nat):Prop where
 sup:q=0->b=(c.block d).bytes
 jr:∀ s i,s < c.slots.toNat->i < c.k.toNat->q=jsecN c s i->∃ x,J s x/\b=(x.frm i).bytes
 st:∀ s,s < c.stripes.toNat->q=ssecN c s->∃ y,F s y/\b=(sfrm s y.1 d (sfrag c y.2 d)).bytes
namespace Pc
variable {c:Cfg} {d:Nat} {J J':Nat->Rcd->Prop} {F F':Nat->Int × List (List Nat)->Prop}
theorem mono {q:Nat} {b:List Nat} (h:Pc c d J F q b) (hJ:∀ s x,s < c.slots.toNat->J s x->∃ y,J' s y/\∀ i,i < c.k.toNat->x.frm i=y.frm i) (hF:∀ s y,s < c.stripes.toNat->F s y->F' s y):Pc c d J' F' q b :=
 ⟨h.sup,fun s i hs hi e=>by
  obtain ⟨x,h1,h2⟩:=h.jr s i hs hi e
  obtain ⟨y,h3,h4⟩:=hJ s x hs h1
  exact ⟨y,h3,by rw [h2,h4 i hi]⟩,fun s hs e=>by
  obtain ⟨y,h1,h2⟩:=h.st s hs e
  exact ⟨y,hF s y hs h1,h2⟩⟩
theorem slot {s i:Nat} {x:Rcd} (hs:s < c.slots.toNat) (hi:i < c.k.toNat) (hx:J s x):Pc c d J F (jsecN c s i) (x.frm i).bytes :=
 ⟨fun e=>absurd e (jsec_pos c s i),fun t j ht hj e=>by
  obtain ⟨rfl,rfl⟩:=jsecN_inj hi hj e
  exact ⟨x,hx,rfl⟩,fun t ht e=>absurd e (jsec_ssec hs hi)⟩
theorem stripe {s:Nat} {y:Int × List (List Nat)} (hy:F s y):Pc c d J F (ssecN c s) (sfrm s y.1 d (sfrag c y.2 d)).bytes :=
 ⟨fun e=>absurd e (ssec_pos c s),fun t j ht hj e=>absurd e.symm (jsec_ssec ht hj),fun t ht e=>by
  have:=ssecN_inj e
  subst this
  exact ⟨y,hy,rfl⟩⟩
end Pc
structure PCd (D:Dsk) (d:Nat) (c:Cfg) (m:Nat) (J:Nat->Rcd->Prop) (F:Nat->Int × List (List Nat)->Prop):Prop where
 len:D.l.length=m
 alive:D.dead=false
 rot:∀ q,D.rot q=false
 base:∀ q,q < m->Pc c d J F q (D.l.getD q [])
 wts:∀ q b,D.waits q=some b->Pc c d J F q b
namespace PCd
variable {D:Dsk} {d:Nat} {c:Cfg} {m:Nat} {J J':Nat->Rcd->Prop} {F F':Nat->Int × List (List Nat)->Prop}
theorem mono (h:PCd D d c m J F) (hJ:∀ s x,s < c.slots.toNat->J s x->∃ y,J' s y/\∀ i,i < c.k.toNat->x.frm i=y.frm i) (hF:∀ s y,s < c.stripes.toNat->F s y->F' s y):PCd D d c m J' F' :=
 ⟨h.len,h.alive,h.rot,fun q hq=>(h.base q hq).mono hJ hF,fun q b hb=>(h.wts q b hb).mono hJ hF⟩
theorem read (h:PCd D d c m J F) {q:Nat} (hq:q < m):Pc c d J F q (D.read q):=by
 unfold Dsk.read
 rcases e:D.waits q with _ | b
 ·
  exact h.base q hq
 ·
  exact h.wts q b e
theorem write (h:PCd D d c m J F) {q:Nat} {b:List Nat} (hb:Pc c d J F q b):PCd (D.write q b) d c m J F:=by
 refine ⟨h.len,h.alive,h.rot,h.base,fun p y hy=>?_⟩
 have hy:(if p=q then some b else D.waits p)=some y:=hy
 by_cases e:p=q
 ·
  subst e; rw [if_pos rfl] at hy; cases hy; exact hb
 ·
  rw [if_neg e] at hy; exact h.wts p y hy
theorem settle (h:PCd D d c m J F) (g:Nat->Bool):PCd (D.settle g) d c m J F:=by
 refine ⟨by rw [Dsk.settle_len]; exact h.len,h.alive,fun q=>?_,fun q hq=>?_,fun q b hb=>by cases hb⟩
 ·
  show (if (g q && (D.waits q).isSome)=true then false else D.rot q)=false
  split
  ·
   rfl
  ·
   exact h.rot q
 ·
  have e:(D.settle g).l.getD q []=(D.settle g).read q:=rfl
  rw [e,Dsk.settle_read D g _ (by rw [h.len]; exact hq)]
  split
  ·
   exact h.read hq
  ·
   exact h.base q hq
end PCd
structure PC (R:Rck) (c:Cfg) (m:Nat) (J:Nat->Rcd->Prop) (F:Nat->Int × List (List Nat)->Prop):Prop where
 len:R.l.length=c.n.toNat
 dsk:∀ d:Nat,d < c.n.toNat->PCd (R.dsk d) d c m J F
namespace PC
variable {R:Rck} {c:Cfg} {m:Nat} {J J':Nat->Rcd->Prop} {F F':Nat->Int × List (List Nat)->Prop}
theorem mono (h:PC R c m J F) (hJ:∀ s x,s < c.slots.toNat->J s x->∃ y,J' s y/\∀ i,i < c.k.toNat->x.frm i=y.frm i) (hF:∀ s y,s < c.stripes.toNat->F s y->F' s y):PC R c m J' F':=⟨h.len,fun d hd=>(h.dsk d hd).mono hJ hF⟩
theorem of_l (h:PC R c m J F) {R':Rck} (e:R'.l=R.l):PC R' c m J F:=⟨by rw [e]; exact h.len,fun d hd=>by unfold Rck.dsk; rw [e]; exact h.dsk d hd⟩
theorem set (h:PC R c m J F) {i:Nat} (hi:i < c.n.toNat) {D:Dsk} (hD:PCd D i c m J F):PC (R.setD i D) c m J F:=⟨by simp [Rck.setD,h.len],fun d hd=>by
 rw [Rck.dsk_setD R h.len hi]
 split
 ·
  rename_i e; rw [e]; exact hD
 ·
  exact h.dsk d hd⟩
theorem on (h:PC R c m J F):∀ d∈R.online,d < c.n.toNat:=fun d hd=>by
 unfold Rck.online at hd
 have:=List.mem_range.1 (List.mem_filter.1 hd).1
 rw [h.len] at this; exact this
theorem write (h:PC R c m J F) {i q:Nat} (hi:i < c.n.toNat) {b:List Nat} (hb:Pc c i J F q b):PC (R.write i q b).2 c m J F:=by
 unfold Rck.write
 split
 ·
  exact (h.of_l (Rck.asked_lP _ _ _)).set hi (by rw [Int.toNat_natCast]; exact (h.dsk i hi).write hb)
 ·
  exact h.of_l (Rck.asked_lP _ _ _)
theorem flush (h:PC R c m J F) {i:Nat} (hi:i < c.n.toNat):PC (R.flush i).2 c m J F:=by
 unfold Rck.flush
 split
 ·
  exact (h.of_l (Rck.asked_lP _ _ _)).set hi ((h.dsk i hi).settle _)
 ·
  exact h.of_l (Rck.asked_lP _ _ _)
theorem flushes (h:PC R c m J F) {l:List Nat} (hl:∀ d∈l,d < c.n.toNat):PC (each (fun R (d:Nat)=>R.flush d) l R).2 c m J F :=
 each_inv (f:=fun R (d:Nat)=>R.flush d) (fun R=>PC R c m J F) l (fun d hd R h=>h.flush (hl d hd)) R h
theorem jput (h:PC R c m J F) (hc:c.Good) {slot:Nat} {x:Rcd} (hs:slot < c.slots.toNat) (hx:x.Fit c slot) (hJ:J slot x):PC (R.jput c (slot:Int) x).2 c m J F:=by
 have hn1:=hc.n1; have hk1:=hc.k1
 have h1:=each_inv (f:=Rck.jrow c (slot:Int) x) (fun R=>PC R c m J F) R.online (fun d hd R' h'=>by
  have hd:=h.on d hd
  refine each_inv (f:=fun R i=>R.write d (Rck.jsec c slot i) (x.frm i).put) (fun R=>PC R c m J F) (List.range c.k.toNat) (fun i hi R h=>?_) R' h'
  have hi:=List.mem_range.1 hi
  rw [jsec_eq hc slot i,hx.put hc (by omega)]
  exact h.write hd (Pc.slot hs hi hJ)) R h
 unfold Rck.jput
 split
 ·
  exact h1
 ·
  exact h1.flushes h1.on
theorem sputs (h:PC R c m J F) (hc:c.Good) {s:Nat} {gen:Int} {l:List (List Nat)} (hx:SFit c s gen l) (hF:F s (gen,l)):PC (R.sputs c (s:Int) gen l).2 c m J F:=by
 have h1:=each_inv (f:=Rck.srow c (s:Int) gen l) (fun R=>PC R c m J F) R.online (fun d hd R' h'=>by
  have hd:=h.on d hd
  unfold Rck.srow
  rw [ssec_eq hc s,hx.put hc hd]
  exact h'.write hd (Pc.stripe (y:=(gen,l)) hF)) R h
 unfold Rck.sputs
 split
 ·
  exact h1
 ·
  exact h1.flushes h1.on
end PC
structure GH (R:Rck) (c:Cfg) (m:Nat) (J:Nat->Rcd->Prop) (F:Nat->Int × List (List Nat)->Prop):Prop where
 pc:PC R c m J F
 good:c.Good
 fit:c.sectors<=(m:Int)
 live:Live R c.n.toNat m
 idle:∀ d:Nat,d < c.n.toNat->∀ q,(R.dsk d).waits q=none
namespace GH
variable {R:Rck} {c:Cfg} {m:Nat} {J J':Nat->Rcd->Prop} {F F':Nat->Int × List (List Nat)->Prop}
theorem of_vh {j:Nat->Option Rcd} {f:Strs} (h:VH R c m true j f) (hj:∀ s,s < c.slots.toNat->∃ x,j s=some x) (hf:∀ s,s < c.stripes.toNat->∃ y,f s=some y) (hms:(m:Int)=c.sectors):PC R c m (fun s x=>j s=some x) fun s y=>f s=some y:=by
 refine ⟨h.pow.len,fun d hd=>⟨(h.dsk d hd).len,(h.dsk d hd).alive,(h.dsk d hd).rot,fun q hq=>?_,fun q b hb=>?_⟩⟩
 ·
  have e:(R.dsk d).l.getD q []=(R.dsk d).read q:=by unfold Dsk.read; rw [(h.dsk d hd).waits q]; rfl
  rw [e]
  refine ⟨fun q0=>by rw [q0]; exact (h.dsk d hd).sup rfl,fun s i hs hi e=>?_,fun s hs e=>?_⟩
  ·
   obtain ⟨x,hx⟩:=hj s hs
   exact ⟨x,hx,by rw [e]; exact (h.dsk d hd).jr s x i hs hx hi⟩
  ·
   obtain ⟨y,hy⟩:=hf s hs
   exact ⟨y,hy,by rw [e]; exact (h.dsk d hd).st s y.1 y.2 hs hy⟩
 ·
  rw [(h.dsk d hd).waits q] at hb; cases hb
theorem vh {j:Nat->Option Rcd} {f:Strs} (h:GH R c m (fun s x=>j s=some x) fun s y=>f s=some y):VH R c m true j f:=by
 have h0:0 < m:=by
  have h1:=Zbq h.good h.fit (s:=0) (by have:=h.good.st0; omega)
  omega
 refine ⟨Pow.of h.live fun d hd=>(h.pc.dsk d hd).alive,h.good,h.fit,fun d hd=>⟨(h.pc.dsk d hd).len,(h.pc.dsk d hd).alive,h.idle d hd,(h.pc.dsk d hd).rot,fun _=>((h.pc.dsk d hd).read h0).sup rfl,fun s x i hs hx hi=>?_,fun s g l hs hy=>?_⟩⟩
 ·
  obtain ⟨y,h1,h2⟩:=((h.pc.dsk d hd).read (Zch h.good h.fit hs hi)).jr s i hs hi rfl
  rw [hx] at h1; cases h1; exact h2
 ·
  obtain ⟨y,h1,h2⟩:=((h.pc.dsk d hd).read (Zbq h.good h.fit hs)).st s hs rfl
  rw [hy] at h1; cases h1; exact h2
end GH
end Go.Proofs.YtgjnnbomnoafcaaGreat
namespace Go.Proofs.YtgjnnbomnoafcaaGreat
set_option linter.unusedVariables false
structure On (n m d:Nat) (f:Rck->Option Err × Rck) (g:Dsk->Dsk):Prop where
 len:∀ D,D.l.length=m->(g D).l.length=m
 dead:∀ D,(g D).dead=D.dead
 run:∀ R,Live R n m->(R.dsk (d:Nat)).dead=false->f R=(none,R.setD (d:Nat) (g (R.dsk (d:Nat))))
namespace Live
variable {R:Rck} {c:Cfg} {n m:Nat}
end Live
end Go.Proofs.YtgjnnbomnoafcaaGreat
namespace Go.Proofs.YtgjnnbomnoafcaaGreat
set_option linter.unusedVariables false
abbrev JR:=Nat->Nat->Nat->Option Rcd
abbrev ST:=Nat->Nat->Option (Int × List (List Nat))
structure GTd (D:Dsk) (d:Nat) (c:Cfg) (m:Nat) (u sp:Bool) (jr:Nat->Nat->Option Rcd) (st:Nat->Option (Int × List (List Nat))):Prop where
 len:D.l.length=m
 dead:D.dead=!u
 waits:∀ q,D.waits q=none
 rot:∀ q,D.rot q=true->Frm.get (D.read q)=none
 rotm:∀ q,m<=q->D.rot q=false
 sup1:sp=true->D.read 0=(c.block d).bytes
 sup0:sp=false->Frm.get (D.read 0)=none
 jr1:∀ s i x,s < c.slots.toNat->i < c.k.toNat->jr s i=some x->D.read (jsecN c s i)=(x.frm i).bytes
 jr0:∀ s i,s < c.slots.toNat->i < c.k.toNat->jr s i=none->Frm.get (D.read (jsecN c s i))=none
 st1:∀ s y,s < c.stripes.toNat->st s=some y->D.read (ssecN c s)=(sfrm s y.1 d (sfrag c y.2 d)).bytes
 st0:∀ s,s < c.stripes.toNat->st s=none->Frm.get (D.read (ssecN c s))=none
 gone:u=false->sp=false/\(∀ s i,jr s i=none)/\∀ s,st s=none
structure GT (R:Rck) (c:Cfg) (m:Nat) (U sp:Nat->Bool) (jr:JR) (st:ST):Prop where
 live:Live R c.n.toNat m
 good:c.Good
 fit:c.sectors<=(m:Int)
 dsk:∀ d:Nat,d < c.n.toNat->GTd (R.dsk (d:Nat)) d c m (U d) (sp d) (jr d) (st d)
 jfit:∀ d s i x,d < c.n.toNat->s < c.slots.toNat->i < c.k.toNat->jr d s i=some x->x.Fit c s/\(x.blocks.length:Int)=c.k
 sfit:∀ d s y,d < c.n.toNat->s < c.stripes.toNat->st d s=some y->SFit c s y.1 y.2
namespace GTd
variable {D:Dsk} {d:Nat} {c:Cfg} {m:Nat} {u sp:Bool} {jr:Nat->Nat->Option Rcd} {st:Nat->Option (Int × List (List Nat))}
end GTd
namespace GT
variable {R:Rck} {c:Cfg} {m:Nat} {U sp:Nat->Bool} {jr:JR} {st:ST}
end GT
end Go.Proofs.YtgjnnbomnoafcaaGreat
namespace Go.Proofs.YtgjnnbomnoafcaaGreat
set_option linter.unusedVariables false
namespace GT
variable {R:Rck} {c:Cfg} {m:Nat} {U sp:Nat->Bool} {jr:JR} {st:ST}
def cnt (sp:Nat->Bool) (n:Nat):Nat:=((List.range n).filter sp).length
end GT
end Go.Proofs.YtgjnnbomnoafcaaGreat
namespace Go.Proofs.YtgjnnbomnoafcaaGreat
set_option linter.unusedVariables false
def InSlot (c:Cfg) (jr:JR) (s:Nat) (x:Rcd):Prop:=∃ d i,d < c.n.toNat/\i < c.k.toNat/\jr d s i=some x
def Whole (c:Cfg) (jr:JR) (s:Nat) (x:Rcd):Prop:=∀ i,i < c.k.toNat->∃ d,d < c.n.toNat/\jr d s i=some x
inductive Slotted (c:Cfg) (U:Nat->Bool) (s:Nat) (jr jr':JR) (x:Rcd):Prop where
 | kept (h2:2<=x.seq) (hw:Whole c jr s x) (hm:∀ y,InSlot c jr s y->y.seq<=x.seq) (h:∀ d i,d < c.n.toNat->i < c.k.toNat->jr' d s i=if U d then some x else none)
 | blank (e:x=blRec c) (y:Rcd) (hne:∀ i,i < c.k.toNat->∃ d x,d < c.n.toNat/\jr d s i=some x) (hy:InSlot c jr s y) (hm:∀ z,InSlot c jr s z->z.seq<=y.seq) (hn:¬Whole c jr s y) (h:∀ d i,d < c.n.toNat->i < c.k.toNat->jr' d s i=if U d then some (blRec c) else none)
 | none (h0:x.seq=0) (hw:Whole c jr s x) (hz:∀ y,InSlot c jr s y->y=x) (h:∀ d i,d < c.n.toNat->i < c.k.toNat->jr' d s i=jr d s i)
namespace GT
variable {R:Rck} {c:Cfg} {m:Nat} {U sp:Nat->Bool} {jr:JR} {st:ST}
structure Played (c:Cfg) (U:Nat->Bool) (L:Rcd->Prop) (st st':ST):Prop where
 at_:∀ t,t < c.stripes.toNat ->
  (∃ x,L x/\x.stripe=(t:Int)/\(∀ y,L y->y.stripe=(t:Int)->y.seq<=x.seq)/\(∀ d y,d < c.n.toNat->st d t=some y->y.1<=x.seq)/\∀ d,d < c.n.toNat->st' d t=if U d then some (x.seq,x.blocks) else none) ∨
  ((∀ y,L y->y.stripe=(t:Int)->∃ d z,d < c.n.toNat/\st d t=some z/\y.seq < z.1)/\∀ d,d < c.n.toNat->st' d t=st d t)
theorem fit_of {x:Rcd} {s:Nat} (hx:x.Fit c s) (hl:(x.blocks.length:Int)=c.k) (h2:2<=x.seq):SFit c x.stripe.toNat x.seq x.blocks :=
 ⟨by have:=hx.st0; have:=hx.st1; omega,by omega,hx.seq1,Cd.Blocks.mem (by omega) hx.ok.len hx.ok.byte⟩
end GT
end Go.Proofs.YtgjnnbomnoafcaaGreat
namespace Go.Proofs.YtgjnnbomnoafcaaGreat
set_option linter.unusedVariables false
namespace GT
variable {R:Rck} {c:Cfg} {m:Nat} {U sp:Nat->Bool} {jr:JR} {st:ST}
structure Opened (c:Cfg) (m:Nat) (U sp:Nat->Bool) (jr:JR) (st:ST) (R':Rck) (cur:Int) (jr':JR) (st':ST) (ch:Nat->Rcd):Prop where
 gt:GT R' c m U sp jr' st'
 slot:∀ s,s < c.slots.toNat->Slotted c U s jr jr' (ch s)
 play:Played c U (fun x=>∃ s,s < c.slots.toNat/\ch s=x/\2<=x.seq) st st'
 read:∀ s,s < c.stripes.toNat->∃ y,(∃ d,d < c.n.toNat/\st' d s=some y)/\(∀ d z,d < c.n.toNat->st' d s=some z->z.1<=y.1)/\R'.sget c (s:Int)=(y.2,y.1,none)/\y.1<=cur
 cur1:1<=cur
 curj:∀ s y,s < c.slots.toNat->InSlot c jr s y->y.seq<=cur
 curb:∀ b,1<=b->(∀ s y,s < c.slots.toNat->InSlot c jr s y->y.seq<=b)->(∀ s d y,s < c.stripes.toNat->d < c.n.toNat->st' d s=some y->y.1<=b)->cur<=b
inductive Shut (c:Cfg) (m:Nat) (U sp:Nat->Bool) (jr:JR) (st:ST):Prop where
 | few (h:(cnt sp c.n.toNat:Int) < c.k)
 | slot (s i:Nat) (hs:s < c.slots.toNat) (hi:i < c.k.toNat) (h:∀ d,d < c.n.toNat->jr d s i=none)
 | stripe (R':Rck) (jr':JR) (st':ST) (ch:Nat->Rcd) (gt:GT R' c m U sp jr' st') (slot:∀ s,s < c.slots.toNat->Slotted c U s jr jr' (ch s)) (play:Played c U (fun x=>∃ s,s < c.slots.toNat/\ch s=x/\2<=x.seq) st st') (s:Nat) (hs:s < c.stripes.toNat) (e:Err) (h:R'.sget c (s:Int)=([],0,some e))
end GT
end Go.Proofs.YtgjnnbomnoafcaaGreat
namespace Go.Proofs.YtgjnnbomnoafcaaGreat
set_option linter.unusedVariables false
open Go.Proofs.YtgjnnbomnoafcaaGreat.GT (cnt Played Opened Shut)
structure VI (c:Cfg) (cur:Int) (j:Nat->Option Rcd) (f:Strs):Prop where
 vv:VV c cur j f
 zero:∀ s x,s < c.slots.toNat->j s=some x->x.seq=0->x=blRec c
 win:∀ s x,s < c.slots.toNat->j s=some x->x.seq≠0->cur - c.slots < x.seq
 inv:∀ s x g l,s < c.slots.toNat->j s=some x->2<=x.seq->f x.stripe.toNat=some (g,l)->x.seq=g\/∃ s' y,s' < c.slots.toNat/\j s'=some y/\y.stripe=x.stripe/\y.seq=g
structure Pnd (c:Cfg) (cur:Int) (p:Rcd) (a:Nat):Prop where
 fit:p.Fit c a
 len:(p.blocks.length:Int)=c.k
 seq:p.seq=cur+1
 a:a < c.slots.toNat
structure VCutS (c:Cfg) (j:Nat->Option Rcd) (f:Strs) (p:Rcd) (a:Nat) (jr:JR) (st:ST):Prop where
 slot:∀ d s i x,d < c.n.toNat->s < c.slots.toNat->i < c.k.toNat->jr d s i=some x->j s=some x\/(s=a/\(x=p\/x=blRec c))
 str:∀ d t y,d < c.n.toNat->t < c.stripes.toNat->st d t=some y->f t=some y\/((t:Int)=p.stripe/\y=(p.seq,p.blocks))
 cls:(∀ d t y,d < c.n.toNat->t < c.stripes.toNat->st d t=some y->f t=some y)\/∀ d i x,d < c.n.toNat->i < c.k.toNat->jr d a i=some x->x=p
theorem mod_gap {a b s:Int} (hs:0 < s) (h:a % s=b % s) (hlt:a < b):a<=b - s:=by
 have h1:=Int.emod_add_mul_ediv a s
 have h2:=Int.emod_add_mul_ediv b s
 have h3:a / s < b / s:=Classical.byContradiction fun q=>by
  have h4:s*(b / s)<=s*(a / s):=Int.mul_le_mul_of_nonneg_left (by omega) (by omega)
  omega
 have h5:s*(a / s+1)<=s*(b / s):=Int.mul_le_mul_of_nonneg_left (by omega) (by omega)
 rw [Int.mul_add,Int.mul_one] at h5
 omega
section
variable {R:Rck} {c:Cfg} {m:Nat} {U sp:Nat->Bool} {jr jr':JR} {st st':ST} {cur:Int} {j:Nat->Option Rcd} {f:Strs} {p:Rcd} {a:Nat} {ch:Nat->Rcd}
namespace VI
theorem fit (h:VI c cur j f) {s:Nat} (hs:s < c.slots.toNat) {x:Rcd} (e:j s=some x):x.Fit c s/\(x.blocks.length:Int)=c.k/\x.seq<=cur:=by
 obtain ⟨y,h1,h2,h3,h4⟩:=h.vv.slot s hs
 rw [e] at h1; cases h1
 refine ⟨h2,h3,?_⟩
 rcases h4 with q | q
 ·
  have:=h.vv.cur; omega
 ·
  exact q.2.1
theorem eldest (h:VI c cur j f) (hc:c.Good) (hp:Pnd c cur p a) {s:Nat} {x y:Rcd} (hs:s < c.slots.toNat) (ex:j s=some x) (hx:x.seq≠0) (ey:j a=some y) (hlt:x.seq < y.seq):False:=by
 have hw:=h.win s x hs ex hx
 have hsl:=hc.sl0
 obtain ⟨fy,_,cy⟩:=h.fit hp.a ey
 have:=(h.fit hs ex).1.seq0
 have e1:y.seq % c.slots=a:=by
  rcases fy.ring with q | q
  ·
   omega
  ·
   exact q.2
 have e2:p.seq % c.slots=a:=by
  have:=h.vv.cur
  have:=hp.seq
  rcases hp.fit.ring with q | q
  ·
   omega
  ·
   exact q.2
 have:=mod_gap (a:=y.seq) (b:=p.seq) (s:=c.slots) (by omega) (by rw [e1,e2]) (by have:=hp.seq; omega)
 have:=hp.seq
 omega
end VI
theorem Pnd.ge (h:Pnd c cur p a) (hv:VI c cur j f):2<=p.seq:=by have:=hv.vv.cur; have:=h.seq; omega
namespace VCutS
end VCutS
end
end Go.Proofs.YtgjnnbomnoafcaaGreat
namespace Go.Proofs.YtgjnnbomnoafcaaGreat
set_option linter.unusedVariables false
open Go.Proofs.YtgjnnbomnoafcaaGreat.GT (cnt Played Opened Shut)
section
variable {R:Rck} {c:Cfg} {m:Nat} {U sp:Nat->Bool} {jr jr':JR} {st st':ST} {cur:Int} {j:Nat->Option Rcd} {f:Strs} {p:Rcd} {a:Nat} {ch:Nat->Rcd}
end
end Go.Proofs.YtgjnnbomnoafcaaGreat
