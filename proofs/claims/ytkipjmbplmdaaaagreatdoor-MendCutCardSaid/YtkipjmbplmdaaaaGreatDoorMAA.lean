/- Texts of one proof, joined: MakeCut, MakeCutB. -/
import Derived.Test.YtkipjmbplmdaaaaGreatDoorMY
set_option linter.unusedVariables false
set_option linter.unusedSimpArgs false
namespace Go.Proofs.YtkipjmbplmdaaaaGreatDoor
set_option linter.unusedVariables false
open Go.Proofs.YtkipjmbplmdaaaaGreatDoor.GT (cnt Played Opened Shut)
structure PQd (D:Dsk) (m:Nat) (Q:Nat->List Nat->Prop):Prop where
 len:D.l.length=m
 alive:D.dead=false
 rot:∀ q,D.rot q=false
 base:∀ q,q < m->Q q (D.l.getD q [])
 wts:∀ q b,D.waits q=some b->Q q b
namespace PQd
variable {D:Dsk} {m:Nat} {Q Q':Nat->List Nat->Prop}
theorem read (h:PQd D m Q) {q:Nat} (hq:q < m):Q q (D.read q):=by
 unfold Dsk.read
 rcases e:D.waits q with _ | b
 ·
  exact h.base q hq
 ·
  exact h.wts q b e
theorem write (h:PQd D m Q) {q:Nat} {b:List Nat} (hb:Q q b):PQd (D.write q b) m Q:=by
 refine ⟨h.len,h.alive,h.rot,h.base,fun p y hy=>?_⟩
 have hy:(if p=q then some b else D.waits p)=some y:=hy
 by_cases e:p=q
 ·
  subst e; rw [if_pos rfl] at hy; cases hy; exact hb
 ·
  rw [if_neg e] at hy; exact h.wts p y hy
theorem settle (h:PQd D m Q) (g:Nat->Bool):PQd (D.settle g) m Q:=by
 refine ⟨by rw [Dsk.settle_len]; exact h.len,h.alive,fun q=>?_,fun q hq=>?_,fun q b hb=>by cases hb⟩
 ·
  show (if (g q && (D.waits q).isSome)=true then false else D.rot q)=false
  split
  ·
   rfl
  ·
   exact h.rot q
 ·
  have e:(D.settle g).l.getD q []=(D.settle g).read q:=rfl
  rw [e,Dsk.settle_read D g _ (by rw [h.len]; exact hq)]
  split
  ·
   exact h.read hq
  ·
   exact h.base q hq
end PQd
structure PQ (R:Rck) (n m:Nat) (Q:Nat->Nat->List Nat->Prop):Prop where
 len:R.l.length=n
 dsk:∀ d:Nat,d < n->PQd (R.dsk (d:Nat)) m (Q d)
def Ok5 (P:Rck->Prop) (q:Option Err × Rck):Prop:=P q.2/\∀ e,q.1=some e->e.kind=5
namespace Ok5
variable {P:Rck->Prop} {α:Type}
end Ok5
namespace PQ
variable {R:Rck} {n m:Nat} {Q Q':Nat->Nat->List Nat->Prop} {c:Cfg}
theorem of_l (h:PQ R n m Q) {R':Rck} (e:R'.l=R.l):PQ R' n m Q:=⟨by rw [e]; exact h.len,fun d hd=>by unfold Rck.dsk; rw [e]; exact h.dsk d hd⟩
theorem set (h:PQ R n m Q) {i:Nat} (hi:i < n) {D:Dsk} (hD:PQd D m (Q i)):PQ (R.setD i D) n m Q:=⟨by simp [Rck.setD,h.len],fun d hd=>by
 rw [Rck.dsk_setD R h.len hi]
 split
 ·
  rename_i e; rw [e]; exact hD
 ·
  exact h.dsk d hd⟩
theorem on (h:PQ R n m Q):∀ d∈R.online,d < n:=fun d hd=>by
 unfold Rck.online at hd
 have:=List.mem_range.1 (List.mem_filter.1 hd).1
 rw [h.len] at this; exact this
theorem may (h:PQ R n m Q) {i:Nat} (hi:i < n):R.may (i:Int) false=0\/R.may (i:Int) false=5:=by
 have hh:R.has (i:Int)=true:=by unfold Rck.has; rw [h.len]; simp; omega
 unfold Rck.may
 rw [hh,if_neg (by simp)]
 split
 ·
  exact .inr rfl
 ·
  rw [if_neg (by simp)]
  split
  ·
   exact .inr rfl
  ·
   exact .inl rfl
theorem sectors (h:PQ R n m Q) (hn:0 < n):R.sectors=m:=(h.dsk 0 hn).len
theorem write (h:PQ R n m Q) {i q:Nat} (hi:i < n) (hq:q < m) {b:List Nat} (hl:b.length=128) (hb:Q i q b):Ok5 (fun R=>PQ R n m Q) (R.write i q b):=by
 have hbad:R.badW (q:Int) b=false:=by
  unfold Rck.badW
  rw [h.sectors (by omega),decide_eq_false (by omega),decide_eq_false (by omega),hl]
  simp
 have hl':∀ {R':Rck},R'.l=R.l->PQ R' n m Q:=fun e=>h.of_l e
 unfold Rck.write
 rw [hbad]
 split
 ·
  exact ⟨(h.of_l (Rck.asked_lP _ _ _)).set hi (by rw [Int.toNat_natCast]; exact (h.dsk i hi).write hb),fun e q=>by cases q⟩
 ·
  rename_i hz
  refine ⟨h.of_l (Rck.asked_lP _ _ _),fun e q=>?_⟩
  cases q
  show (R.may (i:Int) false)=5
  exact (h.may hi).resolve_left hz
theorem flush (h:PQ R n m Q) {i:Nat} (hi:i < n):Ok5 (fun R=>PQ R n m Q) (R.flush i):=by
 unfold Rck.flush
 split
 ·
  exact ⟨(h.of_l (Rck.asked_lP _ _ _)).set hi ((h.dsk i hi).settle _),fun e q=>by cases q⟩
 ·
  rename_i hz
  refine ⟨h.of_l (Rck.asked_lP _ _ _),fun e q=>?_⟩
  cases q
  show (R.may (i:Int) false)=5
  exact (h.may hi).resolve_left hz
theorem fits (h:PQ R c.n.toNat m Q) (hc:c.Good) (hm:c.sectors<=(m:Int)):R.fits c=true:=by
 have hn:0 < c.n.toNat:=by have:=hc.k0; have:=hc.k1; omega
 unfold Rck.fits
 rw [(Cfg.right_iff c).2 hc,h.sectors hn,h.len,decide_eq_true hm,decide_eq_true (by have:=hc.k0; have:=hc.k1; omega)]; rfl
theorem boot (h:PQ R n m Q) (hn:0 < n) (bits:List Nat):PQ (R.boot bits) n m Q/\Live (R.boot bits) n m/\∀ d:Nat,d < n->∀ q,((R.boot bits).dsk (d:Nat)).waits q=none:=by
 have hd:∀ j:Nat,j < n->(R.boot bits).dsk j=(R.dsk j).crash (bits.getD j 0):=fun j hj=>by
  unfold Rck.boot Rck.dsk
  simp [List.getD_eq_getElem?_getD,h.len,hj]
 have hl:(R.boot bits).l.length=n:=by simp [Rck.boot,h.len]
 have h2:PQ (R.boot bits) n m Q:=⟨hl,fun j hj=>by rw [hd j hj]; exact (h.dsk j hj).settle _⟩
 exact ⟨h2,⟨hl,fun j hj=>(h2.dsk j hj).len,rfl,rfl,hn⟩,fun j hj q=>by rw [hd j hj]; rfl⟩
end PQ
def Sm (f:Rck->Option Err × Rck):Prop:=∀ R,(f R).1=none->f R.calm=(none,(f R).2.calm)
namespace Sm
variable {α:Type}
theorem each {f:Rck->α->Option Err × Rck}:∀ (l:List α),(∀ i∈l,Sm fun R=>f R i)->Sm (each f l)
 | [],_,R,h=>rfl
 | i::l,hf,R,h=>by
  have h1:(f R i).1=none->f R.calm i=(none,(f R i).2.calm):=hf i List.mem_cons_self R
  rcases hr:f R i with ⟨o,R'⟩
  rw [hr] at h1
  rcases o with _ | e
  ·
   rw [Zbq hr] at h ⊢
   rw [Zbq (h1 rfl)]
   exact each l (fun j hj=>hf j (List.mem_cons_of_mem _ hj)) R' h
  ·
   rw [Zc4 hr] at h; cases h
theorem map {f:Rck->Option Err × Rck} (hf:Sm f) (w:Err->Err):Sm fun R=>((f R).1.map w,(f R).2):=by
 intro R h
 have h:(f R).1.map w=none:=h
 have h2:(f R).1=none:=by
  rcases e:(f R).1 with _ | x
  ·
   rfl
  ·
   rw [e] at h; cases h
 show ((f R.calm).1.map w,(f R.calm).2)=_
 rw [hf R h2]; rfl
theorem calm_may {R:Rck} {i:Int} {b:Bool} (h:R.may i b=0):R.calm.may i b=0/\R.calm.asked i b=(R.asked i b).calm:=by
 have e1:R.calm.has i=R.has i:=rfl
 have e2:R.calm.up i=R.up i:=rfl
 have e3:R.calm.off=R.off:=rfl
 have e4:R.calm.fuse=-1:=rfl
 unfold Rck.may Rck.asked at *
 rw [e1,e2,e3,e4]
 by_cases q1:R.has i=false
 ·
  rw [if_pos q1] at h; cases h
 rw [if_neg q1] at h
 by_cases q2:(R.off || !R.up i)=true
 ·
  rw [if_pos q2] at h; cases h
 rw [if_neg q2] at h
 by_cases q3:b=true
 ·
  rw [if_pos q3] at h; cases h
 rw [if_neg q3] at h
 by_cases q4:R.fuse=0
 ·
  rw [if_pos q4] at h; cases h
 rw [if_neg q1,if_neg q2,if_neg q3,if_neg (by decide),if_neg q1,if_neg q2,if_neg q3,if_neg (by decide),if_neg (by decide),if_neg q1,if_neg q2,if_neg q3,if_neg q4]
 refine ⟨rfl,?_⟩
 split<;>rfl
theorem write (i s:Int) (b:List Nat):Sm fun R=>R.write i s b:=by
 intro R h
 have h:(R.write i s b).1=none:=h
 have e:R.calm.badW s b=R.badW s b:=rfl
 have ed:R.calm.dsk i=R.dsk i:=rfl
 show R.calm.write i s b=(none,(R.write i s b).2.calm)
 unfold Rck.write at h ⊢
 by_cases q:R.may i (R.badW s b)=0
 ·
  obtain ⟨h1,h2⟩:=calm_may q
  rw [e,if_pos h1,if_pos q,h2]; rfl
 ·
  rw [if_neg q] at h; cases h
theorem flush (i:Int):Sm fun R=>R.flush i:=by
 intro R h
 have h:(R.flush i).1=none:=h
 show R.calm.flush i=(none,(R.flush i).2.calm)
 unfold Rck.flush at h ⊢
 by_cases q:R.may i false=0
 ·
  obtain ⟨h1,h2⟩:=calm_may q
  rw [if_pos h1,if_pos q,h2]; rfl
 ·
  rw [if_neg q] at h; cases h
theorem ups {f:Rck->Nat->Option Err × Rck} (hf:∀ i:Nat,Sm fun R=>f R i):Sm fun R=>Go.Proofs.YtkipjmbplmdaaaaGreatDoor.each f R.online R:=fun R h=>by
 show Go.Proofs.YtkipjmbplmdaaaaGreatDoor.each f R.calm.online R.calm=_
 rw [Rck.calm_online]
 exact each R.online (fun i _=>hf i) R h
theorem superPut (c:Cfg) (i:Int):Sm fun R=>R.superPut c i:=by
 intro R h
 have h:(R.superPut c i).1=none:=h
 show R.calm.superPut c i=(none,(R.superPut c i).2.calm)
 unfold Rck.superPut at h ⊢
 rw [Rck.calm_fits]
 by_cases q:R.fits c=true
 ·
  rw [if_pos q] at h ⊢
  rw [if_pos q]
  by_cases q2:(R.write i 0 (c.block i).put).1=none
  ·
   rw [if_pos q2] at h ⊢
   have e:=write i 0 (c.block i).put R q2
   have e:R.calm.write i 0 (c.block i).put=(none,(R.write i 0 (c.block i).put).2.calm):=e
   rw [e,if_pos rfl]
   exact map (flush i) _ (R.write i 0 (c.block i).put).2 h
  ·
   rw [if_neg q2] at h
   rcases e:(R.write i 0 (c.block i).put).1 with _ | x
   ·
    exact absurd e q2
   ·
    have h:(R.write i 0 (c.block i).put).1.map (Err.fault sSuperPut i)=none:=h
    rw [e] at h; cases h
 ·
  rw [if_neg q] at h; cases h
end Sm
end Go.Proofs.YtkipjmbplmdaaaaGreatDoor
namespace Go.Proofs.YtkipjmbplmdaaaaGreatDoor
set_option linter.unusedVariables false
open Go.Proofs.YtkipjmbplmdaaaaGreatDoor.GT (cnt Played Opened Shut)
section
variable {R:Rck} {c:Cfg} {m:Nat} {cur:Int} {j:Nat->Option Rcd} {f:Strs}
end
end Go.Proofs.YtkipjmbplmdaaaaGreatDoor
