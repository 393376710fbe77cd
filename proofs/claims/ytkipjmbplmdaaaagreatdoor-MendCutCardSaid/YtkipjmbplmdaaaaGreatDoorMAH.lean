/- Texts of one proof, joined: MendLeft, MendCut. -/
import Derived.Test.YtkipjmbplmdaaaaGreatDoorMAC
import Derived.Test.YtkipjmbplmdaaaaGreatDoorMAA
set_option linter.unusedVariables false
set_option linter.unusedSimpArgs false
namespace Go.Proofs.YtkipjmbplmdaaaaGreatDoor
set_option linter.unusedVariables false
open Go.Proofs.YtkipjmbplmdaaaaGreatDoor.GT (cnt Played Opened Shut)
structure MR (R:Rck) (c:Cfg) (m:Nat) (j:Nat->Option Rcd) (f:Strs) (L:List Nat):Prop where
 ex:∃ sp jr st,MZ R c m j f (fun _=>true) sp jr st/\∀ d∈L,d < c.n.toNat/\sp d=true/\(∀ s i,jr d s i=j s)/\∀ t,st d t=f t
 nd:L.Nodup
theorem VH.no_rot {R:Rck} {c:Cfg} {m:Nat} {cur:Int} {j:Nat->Option Rcd} {f:Strs} (h:VH R c m true j f) (hv:VI c cur j f) (hm:(m:Int)=c.sectors):∀ d:Nat,d < c.n.toNat->∀ q,(R.dsk (d:Nat)).rot q=false:=fun d hd q=>by
 have g:=h.gt hv
 have hc:=g.good
 have hn8:=hc.n1
 have hk8:c.k.toNat<=8:=by have:=hc.k1; omega
 have hD:=g.dsk d hd
 rcases Nat.lt_or_ge q m with hq | hq
 ·
  rcases sector_cases hc hm hq with rfl | ⟨s,i,hs',hi,rfl⟩ | ⟨t,ht,rfl⟩
  ·
   exact hD.clean (by rw [hD.sup1 rfl]; exact Frm.get_bytes _ (Cfg.block_ok c d hc) (Cfg.block_right c d (by omega)))
  ·
   rcases e:j s with _ | x
   ·
    exact absurd e (VH.fullj hv d s i hd hs' hi)
   ·
    have hx:=(g.jfit d s i x hd hs' hi e).1
    exact hD.clean (by rw [hD.jr1 s i x hs' hi e]; exact Frm.get_bytes _ (Rcd.frm_ok x hx.ok i) (hx.right hc (by omega)))
  ·
   rcases e:f t with _ | y
   ·
    exact absurd e (VH.fulls hv d t hd ht)
   ·
    have hy:=g.sfit d t y hd ht e
    exact hD.clean (by rw [hD.st1 t y ht e]; exact Frm.get_bytes _ (hy.ok hc d) (hy.right hc hd))
 ·
  exact hD.rotm q hq
namespace MR
variable {R:Rck} {c:Cfg} {m:Nat} {cur:Int} {j:Nat->Option Rcd} {f:Strs} {L L':List Nat}
theorem start (h:VH R c m true j f) (hv:VI c cur j f) (hm:(m:Int)=c.sectors):MR R c m j f (List.range c.n.toNat) :=
 ⟨⟨_,_,_,MZ.of_vh h hv hm,fun d hd=>⟨List.mem_range.1 hd,rfl,fun _ _=>rfl,fun _=>rfl⟩⟩,List.nodup_range⟩
theorem less (h:MR R c m j f L) (hs:L'.Sublist L):MR R c m j f L':=by
 obtain ⟨sp,jr,st,h1,h2⟩:=h.ex
 exact ⟨⟨sp,jr,st,h1,fun d hd=>h2 d (hs.subset hd)⟩,h.nd.sublist hs⟩
theorem upD_true {d:Nat}:upD (fun _:Nat=>true) d true=fun _=>true:=upD_self (fun _=>true) d
theorem replace (h:MR R c m j f L) {d:Nat} (hd:d < c.n.toNat) (hn:d∉L):MR (R.replace (d:Nat)) c m j f L:=by
 obtain ⟨sp,jr,st,h1,h2⟩:=h.ex
 have h3:=h1.replace hd
 rw [upD_true] at h3
 refine ⟨⟨_,_,_,h3,fun e he=>?_⟩,h.nd⟩
 have hne:e≠d:=fun q=>hn (q▸he)
 rw [upD_ne _ _ hne,upD_ne _ _ hne,upD_ne _ _ hne]
 exact h2 e he
theorem live (h:MR R c m j f L):Live R c.n.toNat m:=by
 obtain ⟨sp,jr,st,h1,h2⟩:=h.ex
 exact h1.gt.live
theorem lt (h:MR R c m j f L):∀ d∈L,d < c.n.toNat:=by
 obtain ⟨sp,jr,st,h1,h2⟩:=h.ex
 exact fun d hd=>(h2 d hd).1
theorem replace_rot (h:MR R c m j f L) (hr:∀ d:Nat,d < c.n.toNat->∀ q,(R.dsk (d:Nat)).rot q=false) {d:Nat} (hd:d < c.n.toNat):∀ e:Nat,e < c.n.toNat->∀ q,((R.replace (d:Nat)).dsk (e:Nat)).rot q=false:=by
 have hl:=h.live
 obtain ⟨l1,k1⟩:=hl.setD (R.dsk (d:Nat)).replace (by rw [Dsk.replace_len]; exact hl.secs d hd) hd
 rw [hl.replace hd]
 intro e he q
 rw [k1]
 split
 ·
  rfl
 ·
  exact hr e he q
theorem sure (h:MR R c m j f L) (hv:VI c cur j f) (hL:c.k.toNat<=L.length):∃ sp jr st,GT R c m (fun _=>true) sp jr st/\(∀ d s i,d < c.n.toNat->s < c.slots.toNat->i < c.k.toNat->jr d s i=none\/jr d s i=j s)/\(∀ d t,d < c.n.toNat->t < c.stripes.toNat->st d t=none\/st d t=f t) ∧
  c.k.toNat<=cnt (fun d=>decide (d∈L)) c.n.toNat/\∀ d,d < c.n.toNat->decide (d∈L)=true->sp d=true/\(∀ s i,s < c.slots.toNat->i < c.k.toNat->jr d s i=j s)/\∀ t,t < c.stripes.toNat->st d t=f t:=by
 obtain ⟨sp,jr,st,h1,h2⟩:=h.ex
 refine ⟨sp,jr,st,h1.gt,h1.hj,h1.hs,Nat.le_trans hL ?_,fun d hd hG=>?_⟩
 ·
  unfold GT.cnt
  refine List.Nodup.length_le_of_subset h.nd fun d hd=>?_
  rw [List.mem_filter,List.mem_range]
  exact ⟨(h2 d hd).1,by simpa using hd⟩
 ·
  have hd':d∈L:=of_decide_eq_true hG
  exact ⟨(h2 d hd').2.1,fun s i _ _=>(h2 d hd').2.2.1 s i,fun t _=>(h2 d hd').2.2.2 t⟩
end MR
structure MF (R:Rck) (c:Cfg) (m:Nat) (j:Nat->Option Rcd) (f:Strs) (U sp:Nat->Bool) (jr:JR) (st:ST) (G:Nat->Bool):Prop where
 gt:GT R c m U sp jr st
 hj:∀ d s i,d < c.n.toNat->s < c.slots.toNat->i < c.k.toNat->jr d s i=none\/jr d s i=j s
 hs:∀ d t,d < c.n.toNat->t < c.stripes.toNat->st d t=none\/st d t=f t
 hG:c.k.toNat<=cnt G c.n.toNat
 full:∀ d,d < c.n.toNat->G d=true->sp d=true/\(∀ s i,s < c.slots.toNat->i < c.k.toNat->jr d s i=j s)/\∀ t,t < c.stripes.toNat->st d t=f t
namespace MF
variable {R:Rck} {c:Cfg} {m:Nat} {cur:Int} {j:Nat->Option Rcd} {f:Strs} {U sp G:Nat->Bool} {jr:JR} {st:ST}
theorem sure (h:MF R c m j f U sp jr st G) (hv:VI c cur j f):Sure c sp jr st :=
 ⟨G,h.hG,fun d hd hg=>by
  obtain ⟨h1,h2,h3⟩:=h.full d hd hg
  exact ⟨h1,fun s i hs hi=>by rw [h2 s i hs hi]; exact VH.fullj hv d s i hd hs hi,fun t ht=>by rw [h3 t ht]; exact VH.fulls hv d t hd ht⟩⟩
theorem some_ (h:MF R c m j f U sp jr st G):∃ d,d < c.n.toNat/\G d=true:=by
 have hk:=h.gt.k0
 have hne:(List.range c.n.toNat).filter G≠[]:=fun q=>by
  have:cnt G c.n.toNat=0:=by unfold GT.cnt; rw [q]; rfl
  have:=h.hG
  omega
 obtain ⟨d,hd⟩:=List.exists_mem_of_ne_nil _ hne
 obtain ⟨h1,h2⟩:=List.mem_filter.1 hd
 exact ⟨d,List.mem_range.1 h1,h2⟩
theorem ms (h:MF R c m j f U sp jr st G) (hv:VI c cur j f):MS R c m j f U sp jr st:=by
 refine ⟨h.gt,h.hj,h.hs,fun s hs'=>?_,fun t ht=>?_⟩
 ·
  obtain ⟨x,ex,_⟩:=hv.vv.slot s hs'
  obtain ⟨h1,h2,_⟩:=hv.fit hs' ex
  obtain ⟨d,hd,hg⟩:=h.some_
  exact ⟨x,ex,h1,h2,fun i hi=>⟨d,hd,by rw [(h.full d hd hg).2.1 s i hs' hi]; exact ex⟩⟩
 ·
  obtain ⟨gen,l,ey,hx,_⟩:=hv.vv.str t ht
  refine ⟨(gen,l),ey,hx,Nat.le_trans h.hG ?_⟩
  unfold GT.cnt
  refine filter_le fun d hm hgd=>?_
  rw [(h.full d (List.mem_range.1 hm) hgd).2.2 t ht,ey]
  exact decide_eq_true rfl
theorem cutS (h:MF R c m j f U sp jr st G) (p:Rcd) (a:Nat):VCutS c j f p a jr st:=by
 have hs':∀ d t y,d < c.n.toNat->t < c.stripes.toNat->st d t=some y->f t=some y:=fun d t y hd ht e=>by
  rcases h.hs d t hd ht with z | z
  ·
   rw [z] at e; cases e
  ·
   rw [z] at e; exact e
 refine ⟨fun d s i x hd hs hi e=>?_,fun d t y hd ht e=>.inl (hs' d t y hd ht e),.inl hs'⟩
 rcases h.hj d s i hd hs hi with z | z
 ·
  rw [z] at e; cases e
 ·
  rw [z] at e; exact .inl e
theorem reopen (h:MF R c m j f U sp jr st G) (hv:VI c cur j f) (k4:c.k<=4) (n6:c.n<=6) (hcur:cur < 1152921504606846976) :
  ∃ R' cur',R.vopen=(none,R',c,cur')/\∀ t,t < c.stripes.toNat->∃ y,f t=some y/\SFit c t y.1 y.2/\R'.sget c (t:Int)=(y.2,y.1,none):=by
 have hc:=h.gt.good
 obtain ⟨a,hp⟩:=exists_pnd hc hv.vv.cur hcur 0 (by have:=hc.st0; omega) (zblks c.k.toNat) (VH.zblks_fit hc (s:=0) (by have:=hc.st0; omega)).bl
 rcases h.gt.reopen k4 n6 hv hp (h.cutS _ a) with ⟨e,R',e1,hb,hns⟩ | ⟨R',cur',j',f',jr2,st2,e1,r⟩
 ·
  exact absurd (h.sure hv) hns
 ·
  refine ⟨R',cur',e1,?_⟩
  have hf:f'=f:=r.old fun d i hd hi e=>by
   rcases h.hj d a i hd hp.a hi with z | z
   ·
    rw [z] at e; cases e
   ·
    rw [z] at e
    have:=(hv.fit hp.a e).2.2
    have:=hp.seq
    omega
  rw [<- hf]; exact r.read
end MF
theorem MR.mf {R:Rck} {c:Cfg} {m:Nat} {cur:Int} {j:Nat->Option Rcd} {f:Strs} {L:List Nat} (h:MR R c m j f L) (hv:VI c cur j f) (hL:c.k.toNat<=L.length):∃ sp jr st,MF R c m j f (fun _=>true) sp jr st fun d=>decide (d∈L):=by
 obtain ⟨sp,jr,st,h1,h2,h3,h4,h5⟩:=h.sure hv hL
 exact ⟨sp,jr,st,h1,h2,h3,h4,h5⟩
theorem length_erase_ge (L:List Nat) (d:Nat):L.length<=(L.erase d).length+1:=by
 rw [List.length_erase]
 split<;>omega
end Go.Proofs.YtkipjmbplmdaaaaGreatDoor
namespace Go.Proofs.YtkipjmbplmdaaaaGreatDoor
set_option linter.unusedVariables false
open Go.Proofs.YtkipjmbplmdaaaaGreatDoor.GT (cnt Played Opened Shut)
def Okf (Q:Nat->Nat->List Nat->Prop) (n m:Nat) (o:Option Err) (R:Rck):Prop:=PQ R n m Q/\((o=none/\R.off=false)\/∃ e,o=some e/\e.isDown=true/\e.kind=5/\R.off=true)
theorem PQ.may_off {R:Rck} {n m:Nat} {Q:Nat->Nat->List Nat->Prop} (h:PQ R n m Q) (ho:R.off=false) {i:Nat} (hi:i < n):(R.may (i:Int) false=0/\(R.asked (i:Int) false).off=false)\/(R.may (i:Int) false=5/\(R.asked (i:Int) false).off=true):=by
 have hh:R.has (i:Int)=true:=by unfold Rck.has; rw [h.len]; simp; omega
 have hu:R.up (i:Int)=true:=by unfold Rck.up; rw [hh,(h.dsk i hi).alive]; rfl
 by_cases q:R.fuse=0
 ·
  refine .inr ⟨?_,?_⟩
  ·
   simp [Rck.may,hh,hu,ho,q]
  ·
   simp [Rck.asked,hh,hu,ho,q]
 ·
  refine .inl ⟨?_,?_⟩
  ·
   simp [Rck.may,hh,hu,ho,q]
  ·
   unfold Rck.asked
   simp only [hh,hu,ho,q,Bool.true_eq_false,if_false,Bool.not_true,Bool.or_self,Bool.false_eq_true]
   split
   ·
    rfl
   ·
    exact ho
namespace Okf
variable {Q:Nat->Nat->List Nat->Prop} {n m:Nat} {R:Rck} {α:Type}
theorem nop (h:PQ R n m Q) (ho:R.off=false):Okf Q n m none R:=⟨h,.inl ⟨rfl,ho⟩⟩
theorem write (h:PQ R n m Q) (ho:R.off=false) {i q:Nat} (hi:i < n) (hq:q < m) {b:List Nat} (hl:b.length=128) (hb:Q i q b):Okf Q n m (R.write i q b).1 (R.write i q b).2:=by
 have hk:=(h.write hi hq hl hb).1
 refine ⟨hk,?_⟩
 clear hk
 have hbad:R.badW (q:Int) b=false:=by
  unfold Rck.badW
  rw [h.sectors (by omega),decide_eq_false (by omega),decide_eq_false (by omega),hl]
  simp
 unfold Rck.write
 rw [hbad]
 rcases h.may_off ho hi with ⟨h1,h2⟩ | ⟨h1,h2⟩
 ·
  rw [if_pos h1]; exact .inl ⟨rfl,h2⟩
 ·
  rw [if_neg (by rw [h1]; decide),h1]
  exact .inr ⟨_,rfl,rfl,rfl,h2⟩
theorem flush (h:PQ R n m Q) (ho:R.off=false) {i:Nat} (hi:i < n):Okf Q n m (R.flush i).1 (R.flush i).2:=by
 have hk:=(h.flush hi).1
 refine ⟨hk,?_⟩
 clear hk
 unfold Rck.flush
 rcases h.may_off ho hi with ⟨h1,h2⟩ | ⟨h1,h2⟩
 ·
  rw [if_pos h1]; exact .inl ⟨rfl,h2⟩
 ·
  rw [if_neg (by rw [h1]; decide),h1]
  exact .inr ⟨_,rfl,rfl,rfl,h2⟩
theorem each {f:Rck->α->Option Err × Rck}:∀ (l:List α),(∀ x∈l,∀ R,PQ R n m Q->R.off=false->Okf Q n m (f R x).1 (f R x).2)->∀ R,PQ R n m Q->R.off=false->Okf Q n m (each f l R).1 (each f l R).2
 | [],_,R,h,ho=>nop h ho
 | x::l,hf,R,h,ho=>by
  have h1:=hf x List.mem_cons_self R h ho
  rcases hr:f R x with ⟨o,R'⟩
  rw [hr] at h1
  rcases o with _ | e
  ·
   rw [Zbq hr]
   refine each l (fun y hy=>hf y (List.mem_cons_of_mem _ hy)) R' h1.1 ?_
   rcases h1.2 with ⟨_,q⟩ | ⟨e,q,_⟩
   ·
    exact q
   ·
    cases q
  ·
   rw [Zc4 hr]; exact h1
theorem meach {f:Rck->α->Option Err × Bool × Rck}:∀ (l:List α) (k:Nat),(∀ x∈l,∀ R,PQ R n m Q->R.off=false->Okf Q n m (f R x).1 (f R x).2.2)->∀ R,PQ R n m Q->R.off=false->Okf Q n m (meach f l R k).1 (meach f l R k).2.2
 | [],k,_,R,h,ho=>nop h ho
 | x::l,k,hf,R,h,ho=>by
  have h1:=hf x List.mem_cons_self R h ho
  unfold Go.Proofs.YtkipjmbplmdaaaaGreatDoor.meach
  rcases hr:f R x with ⟨o,b,R'⟩
  rw [hr] at h1
  rcases o with _ | e
  ·
   have h2:R'.off=false:=by
    rcases h1.2 with ⟨_,q⟩ | ⟨e,q,_⟩
    ·
     exact q
    ·
     cases q
   rcases b with _ | _
   ·
    exact meach l k (fun y hy=>hf y (List.mem_cons_of_mem _ hy)) R' h1.1 h2
   ·
    exact meach l (k+1) (fun y hy=>hf y (List.mem_cons_of_mem _ hy)) R' h1.1 h2
  ·
   exact h1
theorem mput (h:PQ R n m Q) (ho:R.off=false) {i q:Nat} (hi:i < n) (hq:q < m) {F:Frm} (has:Option Frm) (hp:F.put=F.bytes) (hl:F.bytes.length=128) (hb:Q i q F.bytes):Okf Q n m (R.mput i (q:Nat) F has).1 (R.mput i (q:Nat) F has).2.2:=by
 unfold Rck.mput
 by_cases e:has=some F
 ·
  rw [if_pos e]; exact nop h ho
 ·
  rw [if_neg e,hp]
  have h1:=write h ho hi hq hl hb
  rcases hr:R.write (i:Int) (q:Int) F.bytes with ⟨o,R'⟩
  rw [hr] at h1
  rcases o with _ | e
  ·
   exact h1
  ·
   exact h1
theorem done {q:Option Err × Nat × Rck} (h:Okf Q n m q.1 q.2.2):Okf Q n m (Rck.mdone q).1 (Rck.mdone q).2.2:=by
 rcases q with ⟨o,k,R⟩
 rcases o with _ | e
 ·
  have h2:R.off=false:=by
   rcases h.2 with ⟨_,q⟩ | ⟨e,q,_⟩
   ·
    exact q
   ·
    cases q
  have h1:PQ R n m Q:=h.1
  show Okf Q n m (R.mflush k).1 (R.mflush k).2
  unfold Rck.mflush
  by_cases z:k=0
  ·
   rw [if_pos z]; exact nop h1 h2
  ·
   rw [if_neg z]
   exact each (f:=fun R (d:Nat)=>R.flush d) R.online (fun d hd R' h' ho'=>flush h' ho' (h1.on d hd)) R h1 h2
 ·
  exact h
theorem map {o:Option Err} {R:Rck} (h:Okf Q n m o R) (op:ByteArray) (i:Int):Okf Q n m (o.map (.fault op i)) R:=by
 refine ⟨h.1,?_⟩
 rcases h.2 with ⟨q1,q2⟩ | ⟨e,q1,q2,q3,q4⟩
 ·
  rw [q1]; exact .inl ⟨rfl,q2⟩
 ·
  rw [q1]; exact .inr ⟨_,rfl,q2,q3,q4⟩
theorem superPut {c:Cfg} (h:PQ R c.n.toNat m Q) (ho:R.off=false) (hc:c.Good) (hm:c.sectors<=(m:Int)) {i:Nat} (hi:i < c.n.toNat) (hQ:Q i 0 (c.block i).bytes):Okf Q c.n.toNat m (R.superPut c (i:Nat)).1 (R.superPut c (i:Nat)).2:=by
 have hn8:=hc.n1
 have hm0:0 < m:=by have:=Zay hc hm (s:=0) (by have:=hc.st0; omega); omega
 have hr:(c.block i).right=true:=Cfg.block_right c i (by omega)
 have hp:(c.block i).put=(c.block i).bytes:=by unfold Frm.put; rw [if_pos hr]
 have h1:=write h ho hi hm0 (Frm.bytes_len _ (Cfg.block_ok c i hc)) hQ
 unfold Rck.superPut
 rw [if_pos (h.fits hc hm),hp]
 rcases hw:R.write (i:Int) 0 (c.block i).bytes with ⟨o,R'⟩
 have hw':R.write (i:Int) ((0:Nat):Int) (c.block i).bytes=(o,R'):=hw
 rw [hw'] at h1
 rcases o with _ | e
 ·
  have h2:R'.off=false:=by
   rcases h1.2 with ⟨_,q⟩ | ⟨e,q,_⟩
   ·
    exact q
   ·
    cases q
  rw [if_pos rfl]
  exact (flush h1.1 h2 hi).map _ _
 ·
  rw [if_neg (by simp)]
  exact h1.map _ _
end Okf
def SmM {β:Type} (f:Rck->Option Err × β × Rck):Prop:=∀ R,(f R).1=none->f R.calm=(none,(f R).2.1,(f R).2.2.calm)
namespace SmM
theorem meach {α:Type} {f:Rck->α->Option Err × Bool × Rck}:∀ (l:List α) (k:Nat),(∀ x,SmM fun R=>f R x)->SmM fun R=>meach f l R k
 | [],k,_,R,_=>rfl
 | x::l,k,hf,R,h=>by
  have h1:(f R x).1=none->f R.calm x=(none,(f R x).2.1,(f R x).2.2.calm):=hf x R
  have h:(Go.Proofs.YtkipjmbplmdaaaaGreatDoor.meach f (x::l) R k).1=none:=h
  show Go.Proofs.YtkipjmbplmdaaaaGreatDoor.meach f (x::l) R.calm k=(none,(Go.Proofs.YtkipjmbplmdaaaaGreatDoor.meach f (x::l) R k).2.1,(Go.Proofs.YtkipjmbplmdaaaaGreatDoor.meach f (x::l) R k).2.2.calm)
  unfold Go.Proofs.YtkipjmbplmdaaaaGreatDoor.meach at h ⊢
  rcases hr:f R x with ⟨o,b,R'⟩
  rw [hr] at h1 h
  rcases o with _ | e
  ·
   rw [h1 rfl]
   rcases b with _ | _
   ·
    exact meach l k hf R' h
   ·
    exact meach l (k+1) hf R' h
  ·
   cases h
theorem mput {d:Nat} {sec:Int} {want:Frm} {has:Rck->Option Frm} (hh:∀ R:Rck,has R.calm=has R):SmM fun R=>R.mput d sec want (has R):=by
 intro R h
 have h:(R.mput d sec want (has R)).1=none:=h
 show R.calm.mput d sec want (has R.calm)=(none,(R.mput d sec want (has R)).2.1,(R.mput d sec want (has R)).2.2.calm)
 rw [hh]
 unfold Rck.mput at h ⊢
 by_cases e:has R=some want
 ·
  rw [if_pos e,if_pos e]
 ·
  rw [if_neg e] at h ⊢
  rw [if_neg e]
  have h1:(R.write d sec want.put).1=none->R.calm.write d sec want.put=(none,(R.write d sec want.put).2.calm):=Sm.write d sec want.put R
  rcases hr:R.write d sec want.put with ⟨o,R'⟩
  rw [hr] at h1 h
  rcases o with _ | e
  ·
   rw [h1 rfl]
  ·
   cases h
theorem msuper (c:Cfg) (d:Nat):SmM fun R=>Rck.msuper c R d:=by
 intro R h
 have h:(Rck.msuper c R d).1=none:=h
 show Rck.msuper c R.calm d=(none,(Rck.msuper c R d).2.1,(Rck.msuper c R d).2.2.calm)
 have e0:R.calm.superGet d=R.superGet d:=rfl
 unfold Rck.msuper at h ⊢
 rw [e0]
 by_cases e:R.superGet d=some c
 ·
  rw [if_pos e,if_pos e]
 ·
  rw [if_neg e] at h ⊢
  rw [if_neg e]
  have h1:(R.superPut c d).1=none->R.calm.superPut c d=(none,(R.superPut c d).2.calm):=Sm.superPut c d R
  rcases hr:R.superPut c d with ⟨o,R'⟩
  rw [hr] at h1 h
  rcases o with _ | e
  ·
   rw [h1 rfl]
  ·
   cases h
theorem done {f:Rck->Option Err × Nat × Rck} (hf:SmM f):SmM fun R=>Rck.mdone (f R):=by
 intro R h
 have h1:=hf R
 have h:(Rck.mdone (f R)).1=none:=h
 show Rck.mdone (f R.calm)=(none,(Rck.mdone (f R)).2.1,(Rck.mdone (f R)).2.2.calm)
 rcases hr:f R with ⟨o,k,R'⟩
 rw [hr] at h1 h
 rcases o with _ | e
 ·
  rw [h1 rfl]
  have h:(R'.mflush k).1=none:=h
  show ((R'.calm.mflush k).1,k,(R'.calm.mflush k).2)=(none,k,(R'.mflush k).2.calm)
  unfold Rck.mflush at h ⊢
  by_cases z:k=0
  ·
   rw [if_pos z,if_pos z]
  ·
   rw [if_neg z] at h ⊢
   rw [if_neg z]
   have h2:(each (fun R d=>R.flush (d:Nat)) R'.calm.online R'.calm)=(none,(each (fun R d=>R.flush (d:Nat)) R'.online R').2.calm):=Sm.ups (f:=fun R d=>R.flush (d:Nat)) (fun i=>Sm.flush i) R' h
   rw [h2]
 ·
  cases h
theorem group (c:Cfg) (g:Int):SmM fun R=>Vol.group c R g:=by
 intro R h
 have h:(Vol.group c R g).1=none:=h
 show Vol.group c R.calm g=(none,(Vol.group c R g).2.1,(Vol.group c R g).2.2.calm)
 unfold Vol.group at h ⊢
 by_cases h0:g=0
 ·
  rw [if_pos h0] at h ⊢
  rw [if_pos h0]
  exact meach (f:=Rck.msuper c) R.online 0 (fun d=>msuper c d) R h
 rw [if_neg h0] at h ⊢
 rw [if_neg h0]
 by_cases h1:g<=c.slots
 ·
  rw [if_pos h1] at h ⊢
  rw [if_pos h1]
  unfold Rck.mslot at h ⊢
  rw [Rck.calm_jslot]
  rcases hj:R.jslot c (g - 1) with ⟨x,w,q,o⟩
  rw [hj] at h
  rcases o with _ | e
  ·
   exact done (f:=fun R'=>Go.Proofs.YtkipjmbplmdaaaaGreatDoor.meach (Rck.mrow c (g - 1) x) (R.mplaces c) R' 0) (meach (f:=Rck.mrow c (g - 1) x) (R.mplaces c) 0 fun p=>mput (has:=fun R=>R.jgood c p.1 (g - 1) p.2) fun R=>rfl) R h
  ·
   cases h
 ·
  rw [if_neg h1] at h ⊢
  rw [if_neg h1]
  unfold Rck.mstripe at h ⊢
  rw [Rck.calm_sget]
  rcases hj:R.sget c (g - 1 - c.slots) with ⟨l,gen,o⟩
  rw [hj] at h
  rcases o with _ | e
  ·
   exact done (f:=fun R'=>Go.Proofs.YtkipjmbplmdaaaaGreatDoor.meach (Rck.mpart c (g - 1 - c.slots) gen l) R.online R' 0) (meach (f:=Rck.mpart c (g - 1 - c.slots) gen l) R.online 0 fun d=>mput (has:=fun R=>R.sgood c (g - 1 - c.slots) d) fun R=>rfl) R h
  ·
   cases h
end SmM
structure Qm (c:Cfg) (j:Nat->Option Rcd) (f:Strs) (L:List Nat) (d q:Nat) (b:List Nat):Prop where
 sup:q=0->b=(c.block d).bytes\/(d∉L/\Frm.get b=none)
 jr:∀ s i,s < c.slots.toNat->i < c.k.toNat->q=jsecN c s i->(∃ x,j s=some x/\b=(x.frm i).bytes)\/(d∉L/\Frm.get b=none)
 st:∀ t,t < c.stripes.toNat->q=ssecN c t->(∃ y,f t=some y/\b=(sfrm t y.1 d (sfrag c y.2 d)).bytes)\/(d∉L/\Frm.get b=none)
namespace Qm
variable {c:Cfg} {j:Nat->Option Rcd} {f:Strs} {L:List Nat} {d:Nat}
theorem super:Qm c j f L d 0 (c.block d).bytes:=⟨fun _=>.inl rfl,fun s i _ _ e=>absurd e.symm (Zcl c s i),fun t _ e=>absurd e.symm (Zcb c t)⟩
theorem slot {s i:Nat} {x:Rcd} (hs:s < c.slots.toNat) (hi:i < c.k.toNat) (hx:j s=some x):Qm c j f L d (jsecN c s i) (x.frm i).bytes:=by
 refine ⟨fun e=>absurd e (Zcl c s i),fun s' i' hs' hi' e=>?_,fun t ht e=>absurd e (Zbn hs hi)⟩
 obtain ⟨rfl,rfl⟩:=Zct hi hi' e
 exact .inl ⟨x,hx,rfl⟩
theorem stripe {t:Nat} {y:Int × List (List Nat)} (hy:f t=some y):Qm c j f L d (ssecN c t) (sfrm t y.1 d (sfrag c y.2 d)).bytes:=by
 refine ⟨fun e=>absurd e (Zcb c t),fun s i hs hi e=>absurd e.symm (Zbn hs hi),fun t' _ e=>?_⟩
 have:=Zcg e
 subst this
 exact .inl ⟨y,hy,rfl⟩
end Qm
structure MC (R:Rck) (c:Cfg) (m:Nat) (j:Nat->Option Rcd) (f:Strs) (L:List Nat):Prop where
 pq:PQ R c.n.toNat m (Qm c j f L)
 ms:∃ sp jr st,MS R.calm c m j f (fun _=>true) sp jr st
namespace MC
variable {R:Rck} {c:Cfg} {m:Nat} {cur:Int} {j:Nat->Option Rcd} {f:Strs} {L:List Nat}
theorem off (h:MC R c m j f L):R.off=false:=by
 obtain ⟨sp,jr,st,h⟩:=h.ms
 exact h.gt.live.off
theorem group (h:MC R c m j f L) (hv:VI c cur j f) (k4:c.k<=4) (n6:c.n<=6) {g:Nat} (hg:(g:Int) < c.groups) :
  Okf (Qm c j f L) c.n.toNat m (Vol.group c R (g:Int)).1 (Vol.group c R (g:Int)).2.2/\((Vol.group c R (g:Int)).1=none->MC (Vol.group c R (g:Int)).2.2 c m j f L):=by
 obtain ⟨sp,jr,st,hms⟩:=h.ms
 have hc:=hms.gt.good
 have hm:=hms.gt.fit
 have ho:=h.off
 have hsl:=hc.sl0
 have hst:=hc.st0
 have hn8:=hc.n1
 have hk8:c.k.toNat<=8:=by have:=hc.k1; omega
 have hok:Okf (Qm c j f L) c.n.toNat m (Vol.group c R (g:Int)).1 (Vol.group c R (g:Int)).2.2:=by
  unfold Cfg.groups at hg
  by_cases h0:g=0
  ·
   subst h0
   have e:Vol.group c R ((0:Nat):Int)=R.msupers c:=by unfold Vol.group; exact if_pos rfl
   rw [e]
   refine Okf.meach R.online 0 (fun d hd R' h' ho'=>?_) R h.pq ho
   have hdn:=h.pq.on d hd
   unfold Rck.msuper
   by_cases q:R'.superGet d=some c
   ·
    rw [if_pos q]; exact Okf.nop h' ho'
   ·
    rw [if_neg q]
    have h1:=Okf.superPut h' ho' hc hm hdn Qm.super
    rcases hr:R'.superPut c (d:Nat) with ⟨o,R2⟩
    rw [hr] at h1
    rcases o with _ | er
    ·
     exact h1
    ·
     exact h1
  by_cases h1:g<=c.slots.toNat
  ·
   have hs:g - 1 < c.slots.toNat:=by omega
   obtain ⟨x,hx,hfit,hlen,_⟩:=hms.jrec (g - 1) hs
   obtain ⟨w,q,hjs⟩:=hms.jslot hs hx
   rw [Rck.calm_jslot] at hjs
   have e:Vol.group c R (g:Int)=Rck.mdone (meach (Rck.mrow c ((g - 1:Nat):Int) x) (R.mplaces c) R 0):=by
    unfold Vol.group
    rw [if_neg (by omega),if_pos (by omega),show (g:Int) - 1=((g - 1:Nat):Int) by omega]
    unfold Rck.mslot
    rw [hjs]
   rw [e]
   refine Okf.done (Okf.meach (R.mplaces c) 0 (fun p hp R' h' ho'=>?_) R h.pq ho)
   unfold Rck.mplaces at hp
   obtain ⟨d,hd,hp⟩:=List.mem_flatMap.1 hp
   obtain ⟨i,hi,rfl⟩:=List.mem_map.1 hp
   have hdn:=h.pq.on d hd
   have hi:=List.mem_range.1 hi
   have ej:Rck.jsec c ((g - 1:Nat):Int) (i:Nat)=(jsecN c (g - 1) i:Nat):=jsec_eq hc (g - 1) i
   unfold Rck.mrow
   show Okf _ _ _ (R'.mput d (Rck.jsec c ((g - 1:Nat):Int) (i:Nat)) (x.frm i) _).1 _
   rw [ej]
   have hfr:=hfit.right hc (i:=i) (by omega)
   exact Okf.mput h' ho' hdn (Za6 hc hm hs hi) _ (by unfold Frm.put; rw [if_pos hfr]) (Frm.bytes_len _ (Rcd.frm_ok x hfit.ok i)) (Qm.slot hs hi hx)
  ·
   have ht:g - 1 - c.slots.toNat < c.stripes.toNat:=by omega
   obtain ⟨y,hy,hfit,_⟩:=hms.srec _ ht
   have hsg:=hms.sget k4 n6 ht hy
   rw [Rck.calm_sget] at hsg
   have e:Vol.group c R (g:Int)=Rck.mdone (meach (Rck.mpart c ((g - 1 - c.slots.toNat:Nat):Int) y.1 y.2) R.online R 0):=by
    unfold Vol.group
    rw [if_neg (by omega),if_neg (by omega),show (g:Int) - 1 - c.slots=((g - 1 - c.slots.toNat:Nat):Int) by omega]
    unfold Rck.mstripe
    rw [hsg]
   rw [e]
   refine Okf.done (Okf.meach R.online 0 (fun d hd R' h' ho'=>?_) R h.pq ho)
   have hdn:=h.pq.on d hd
   unfold Rck.mpart
   rw [ssec_eq hc]
   exact Okf.mput h' ho' hdn (Zay hc hm ht) _ (hfit.put hc hdn) (hfit.len hc d) (Qm.stripe hy)
 refine ⟨hok,fun hnone=>⟨hok.1,?_⟩⟩
 have h1:Vol.group c R.calm (g:Int)=(none,(Vol.group c R (g:Int)).2.1,(Vol.group c R (g:Int)).2.2.calm):=SmM.group c g R hnone
 obtain ⟨R',e,g'⟩:=hms.group k4 n6 hg
 rw [h1] at e
 have e2:=congrArg (fun q=>q.2.2) e
 have e2:(Vol.group c R (g:Int)).2.2.calm=R':=e2
 rw [e2]
 exact ⟨_,_,_,g'⟩
theorem tick (h:MC R c m j f L) (hv:VI c cur j f) (k4:c.k<=4) (n6:c.n<=6) {g:Nat} (hg:(g:Int) < c.groups) :
  ∃ R' n o v',Vol.tick ⟨c,cur,false⟩ R (g:Int)=⟨n,o,R',v',((g:Int)+1) % c.groups⟩/\PQ R' c.n.toNat m (Qm c j f L) ∧
   ((o=none/\v'=⟨c,cur,false⟩/\MC R' c m j f L)\/∃ e,o=some e/\e.kind=5/\v'=⟨c,cur,true⟩/\R'.off=true):=by
 have hoff:=h.off
 obtain ⟨⟨h1,h2⟩,h3⟩:=h.group hv k4 n6 hg
 rcases hr:Vol.group c R (g:Int) with ⟨o,n,R'⟩
 rw [hr] at h1 h2 h3
 rcases h2 with ⟨q1,q2⟩ | ⟨e,q1,q2,q3,q4⟩
 ·
  have q1:o=none:=q1
  subst q1
  exact ⟨R',n,none,_,tick_of hr hoff rfl,h1,.inl ⟨rfl,rfl,h3 rfl⟩⟩
 ·
  have q1:o=some e:=q1
  subst q1
  refine ⟨R',n,some (.fault sMTick g e),⟨c,cur,true⟩,?_,h1,.inr ⟨_,rfl,q3,rfl,q4⟩⟩
  unfold Vol.tick
  rw [if_neg (by rw [hoff]; simp),hr]
  show MTick.mk n _ R' (if ((some e).map Err.isDown).getD false=true then _ else _) _=_
  rw [if_pos (by simpa using q2)]
  rfl
end MC
section
variable {R:Rck} {c:Cfg} {m:Nat} {cur:Int} {j:Nat->Option Rcd} {f:Strs} {L:List Nat}
theorem PQ.boot_mf (h:PQ R c.n.toNat m (Qm c j f L)) (hc:c.Good) (hm:c.sectors<=(m:Int)) (hv:VI c cur j f) (hnd:L.Nodup) (hln:∀ d∈L,d < c.n.toNat) (hL:c.k.toNat<=L.length) (bits:List Nat) :
  ∃ sp jr st,MF (R.boot bits) c m j f (fun _=>true) sp jr st fun d=>decide (d∈L):=by
 have hn:0 < c.n.toNat:=by have:=hc.k0; have:=hc.k1; omega
 have hm0:0 < m:=by
  have h1:=Zay hc hm (s:=0) (by have:=hc.st0; omega)
  omega
 have hn8:=hc.n1
 have hk8:c.k.toNat<=8:=by have:=hc.k1; omega
 obtain ⟨g,hl,hw⟩:=h.boot hn bits
 have hsj:∀ d s i,d < c.n.toNat->s < c.slots.toNat->i < c.k.toNat->Frm.get (((R.boot bits).dsk (d:Nat)).read (jsecN c s i))≠none->∃ x,j s=some x/\((R.boot bits).dsk (d:Nat)).read (jsecN c s i)=(x.frm i).bytes:=fun d s i hd hs hi e =>
  (((g.dsk d hd).read (Za6 hc hm hs hi)).jr s i hs hi rfl).resolve_right fun q=>e q.2
 have hss:∀ d t,d < c.n.toNat->t < c.stripes.toNat->Frm.get (((R.boot bits).dsk (d:Nat)).read (ssecN c t))≠none->∃ y,f t=some y/\((R.boot bits).dsk (d:Nat)).read (ssecN c t)=(sfrm t y.1 d (sfrag c y.2 d)).bytes:=fun d t hd ht e =>
  (((g.dsk d hd).read (Zay hc hm ht)).st t ht rfl).resolve_right fun q=>e q.2
 refine ⟨fun d=>(Frm.get (((R.boot bits).dsk (d:Nat)).read 0)).isSome,fun d s i=>if (Frm.get (((R.boot bits).dsk (d:Nat)).read (jsecN c s i))).isSome then j s else none,fun d t=>if (Frm.get (((R.boot bits).dsk (d:Nat)).read (ssecN c t))).isSome then f t else none,
  ⟨hl,hc,hm,fun d hd=>?_,fun d s i x hd hs hi e=>?_,fun d t y hd ht e=>?_⟩,fun d s i hd hs hi=>?_,fun d t hd ht=>?_,?_,fun d hd hG=>?_⟩
 ·
  have hD:=g.dsk d hd
  refine ⟨hD.len,hD.alive,hw d hd,fun q hq=>?_,fun q _=>hD.rot q,fun e=>?_,fun e=>?_,fun s i x hs hi e=>?_,fun s i hs hi e=>?_,fun t y ht e=>?_,fun t ht e=>?_,fun e=>(by cases e)⟩
  ·
   rw [hD.rot q] at hq; cases hq
  ·
   rcases (hD.read hm0).sup rfl with z | z
   ·
    exact z
   ·
    rw [z.2] at e; cases e
  ·
   rcases q:Frm.get (((R.boot bits).dsk (d:Nat)).read 0) with _ | z
   ·
    rfl
   ·
    rw [q] at e; cases e
  ·
   have e:(if (Frm.get (((R.boot bits).dsk (d:Nat)).read (jsecN c s i))).isSome then j s else none)=some x:=e
   split at e
   ·
    rename_i q
    obtain ⟨z,h1,h2⟩:=hsj d s i hd hs hi (fun w=>by rw [w] at q; cases q)
    rw [e] at h1; cases h1; exact h2
   ·
    cases e
  ·
   have e:(if (Frm.get (((R.boot bits).dsk (d:Nat)).read (jsecN c s i))).isSome then j s else none)=none:=e
   rcases q:Frm.get (((R.boot bits).dsk (d:Nat)).read (jsecN c s i)) with _ | z
   ·
    rfl
   ·
    rw [q] at e
    simp only [Option.isSome_some,if_true] at e
    exact absurd e (VH.fullj hv d s i hd hs hi)
  ·
   have e:(if (Frm.get (((R.boot bits).dsk (d:Nat)).read (ssecN c t))).isSome then f t else none)=some y:=e
   split at e
   ·
    rename_i q
    obtain ⟨z,h1,h2⟩:=hss d t hd ht (fun w=>by rw [w] at q; cases q)
    rw [e] at h1; cases h1; exact h2
   ·
    cases e
  ·
   have e:(if (Frm.get (((R.boot bits).dsk (d:Nat)).read (ssecN c t))).isSome then f t else none)=none:=e
   rcases q:Frm.get (((R.boot bits).dsk (d:Nat)).read (ssecN c t)) with _ | z
   ·
    rfl
   ·
    rw [q] at e
    simp only [Option.isSome_some,if_true] at e
    exact absurd e (VH.fulls hv d t hd ht)
 ·
  have e:(if (Frm.get (((R.boot bits).dsk (d:Nat)).read (jsecN c s i))).isSome then j s else none)=some x:=e
  split at e
  ·
   obtain ⟨a1,a2,_⟩:=hv.fit hs e
   exact ⟨a1,a2⟩
  ·
   cases e
 ·
  have e:(if (Frm.get (((R.boot bits).dsk (d:Nat)).read (ssecN c t))).isSome then f t else none)=some y:=e
  split at e
  ·
   exact hv.vv.sfit (g:=y.1) (l:=y.2) e ht
  ·
   cases e
 ·
  show (if (Frm.get (((R.boot bits).dsk (d:Nat)).read (jsecN c s i))).isSome then j s else none)=none\/_
  split
  ·
   exact .inr rfl
  ·
   exact .inl rfl
 ·
  show (if (Frm.get (((R.boot bits).dsk (d:Nat)).read (ssecN c t))).isSome then f t else none)=none\/_
  split
  ·
   exact .inr rfl
  ·
   exact .inl rfl
 ·
  refine Nat.le_trans hL ?_
  unfold GT.cnt
  refine List.Nodup.length_le_of_subset hnd fun d hd=>?_
  rw [List.mem_filter,List.mem_range]
  exact ⟨hln d hd,by simpa using hd⟩
 ·
  have hdL:d∈L:=of_decide_eq_true hG
  have hD:=g.dsk d hd
  refine ⟨?_,fun s i hs hi=>?_,fun t ht=>?_⟩
  ·
   show (Frm.get (((R.boot bits).dsk (d:Nat)).read 0)).isSome=true
   rw [((hD.read hm0).sup rfl).resolve_right fun q=>q.1 hdL,Frm.get_bytes _ (Cfg.block_ok c d hc) (Cfg.block_right c d (by omega))]; rfl
  ·
   obtain ⟨x,h1,h2⟩:=((hD.read (Za6 hc hm hs hi)).jr s i hs hi rfl).resolve_right fun q=>q.1 hdL
   obtain ⟨hfit,_⟩:=hv.fit hs h1
   exact if_pos (by rw [h2,Frm.get_bytes _ (Rcd.frm_ok x hfit.ok i) (hfit.right hc (by omega))]; rfl)
  ·
   obtain ⟨y,h1,h2⟩:=((hD.read (Zay hc hm ht)).st t ht rfl).resolve_right fun q=>q.1 hdL
   have hfit:=hv.vv.sfit (g:=y.1) (l:=y.2) h1 ht
   exact if_pos (by rw [h2,Frm.get_bytes _ (hfit.ok hc d) (hfit.right hc hd)]; rfl)
theorem MR.armed (h:MR R c m j f L) (hv:VI c cur j f) (hm:(m:Int)=c.sectors) (hL:c.k.toNat<=L.length) (hr:∀ d:Nat,d < c.n.toNat->∀ q,(R.dsk (d:Nat)).rot q=false) (k:Int):MC (R.arm k) c m j f L:=by
 obtain ⟨sp,jr,st,h1,h2⟩:=h.ex
 have hc:=h1.gt.good
 have hcalm:(R.arm k).calm=R:=by
  have:=h1.gt.live.fuse
  rcases R with ⟨l,o,fu⟩
  have this:fu=-1:=this
  subst this
  rfl
 refine ⟨⟨h1.gt.live.len,fun d hd=>?_⟩,?_⟩
 ·
  have hD:=h1.gt.dsk d hd
  have hD2:(R.arm k).dsk (d:Nat)=R.dsk (d:Nat):=rfl
  rw [hD2]
  refine ⟨hD.len,hD.dead,hr d hd,fun q hq=>?_,fun q b e=>(by rw [hD.waits q] at e; cases e)⟩
  rw [<- Dsk.read_l hD.waits]
  refine ⟨fun e=>?_,fun s i hs hi e=>?_,fun t ht e=>?_⟩
  ·
   subst e
   rcases z:sp d with _ | _
   ·
    exact .inr ⟨fun w=>(by have:=(h2 d w).2.1; rw [z] at this; cases this),hD.sup0 z⟩
   ·
    exact .inl (hD.sup1 z)
  ·
   subst e
   rcases z:jr d s i with _ | x
   ·
    exact .inr ⟨fun w=>by
     have:=(h2 d w).2.2.1 s i
     rw [z] at this
     exact VH.fullj hv d s i hd hs hi this.symm,hD.jr0 s i hs hi z⟩
   ·
    refine .inl ⟨x,?_,hD.jr1 s i x hs hi z⟩
    rcases h1.hj d s i hd hs hi with w | w
    ·
     rw [z] at w; cases w
    ·
     rw [<- w]; exact z
  ·
   subst e
   rcases z:st d t with _ | y
   ·
    exact .inr ⟨fun w=>by
     have:=(h2 d w).2.2.2 t
     rw [z] at this
     exact VH.fulls hv d t hd ht this.symm,hD.st0 t ht z⟩
   ·
    refine .inl ⟨y,?_,hD.st1 t y ht z⟩
    rcases h1.hs d t hd ht with w | w
    ·
     rw [z] at w; cases w
    ·
     rw [<- w]; exact z
 ·
  obtain ⟨sp',jr',st',h3⟩:=h.mf hv hL
  rw [hcalm]
  exact ⟨sp',jr',st',h3.ms hv⟩
end
end Go.Proofs.YtkipjmbplmdaaaaGreatDoor
