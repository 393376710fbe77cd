/- Texts of one proof, joined: MendWorn, MendSome, MendHad. -/
import Derived.Test.YtkipjmbplmdaaaaGreatDoorMAB
set_option linter.unusedVariables false
set_option linter.unusedSimpArgs false
namespace Go.Proofs.YtkipjmbplmdaaaaGreatDoor
set_option linter.unusedVariables false
theorem zrot_sum:∀ k:Fin 4,∀ s:Fin 8,Frm.low 4 (Crc.sum ([83,84,k.val,s.val]++List.replicate 120 0))≠[0,0,0,0]:=by decide +kernel
theorem xor4_first (l:List Nat) (A X:Nat) (hA:1<=A):(Dsk.xor4 l A X)[0]?=l[0]?:=by
 unfold Dsk.xor4
 simp [List.range,List.range.loop,List.getElem?_set]
 omega
theorem zeros_rot (A X:Nat) (hA:A<=124):Frm.get (Dsk.xor4 Dsk.zeros A X)=none:=by
 cases hg:Frm.get (Dsk.xor4 Dsk.zeros A X) with
 | none=>rfl
 | some g =>
  exfalso
  obtain ⟨h1,h2,h3⟩:=Frm.get_some hg
  have hs:=Frm.right_spec h1
  rcases Nat.eq_zero_or_pos A with rfl | hp
  ·
   have e0:Dsk.zeros=[]++([0,0,0,0]++List.replicate 124 0):=by decide
   have e1:=Dsk.xor4_split [] (List.replicate 124 0) 0 0 0 0 X
   rw [<- e0] at e1
   have e1:Dsk.xor4 Dsk.zeros 0 X=([]:List Nat)++([0 ^^^ X % 256,0 ^^^ X / 256 % 256,0 ^^^ X / 65536 % 256,0 ^^^ X / 16777216 % 256]++List.replicate 124 0):=e1
   rw [h2] at e1 h3
   have hbl:g.body.length=124:=by
    have:g.bytes.length=g.body.length+4:=by unfold Frm.bytes; rw [List.length_append,Frm.low_len]
    omega
   have e2:=congrArg (List.take 124) e1
   have e3:=congrArg (List.drop 124) e1
   unfold Frm.bytes at e2 e3
   rw [List.take_left' hbl] at e2
   rw [List.drop_left' hbl] at e3
   simp only [List.nil_append,List.cons_append,List.take_succ_cons,List.drop_succ_cons,List.take_replicate,List.drop_replicate] at e2 e3
   have e4:∃ t,g.body=83::84::g.kind.toNat::g.slot.toNat::t:=⟨_,rfl⟩
   obtain ⟨t,e4⟩:=e4
   have e5:g.body=[83,84,g.kind.toNat,g.slot.toNat]++List.replicate 120 0:=by
    rw [e4] at e2 ⊢
    simp only [List.cons.injEq] at e2
    have e6:min 120 124=120:=by decide
    rw [e2.2.2.2.2,e6]
    simp only [List.cons_append,List.nil_append]
   rw [e5] at e3
   have e7:List.replicate (124 - 120) 0=[0,0,0,0]:=by decide
   rw [e7] at e3
   exact zrot_sum ⟨g.kind.toNat,by omega⟩ ⟨g.slot.toNat,by omega⟩ e3
  ·
   have e:=xor4_first Dsk.zeros A X hp
   rw [h2] at e
   have e2:g.bytes[0]?=some 83:=by unfold Frm.bytes Frm.body; simp
   rw [e2] at e
   have e3:Dsk.zeros[0]?=some 0:=by decide
   rw [e3] at e
   cases e
def upD {α:Type} (f:Nat->α) (d:Nat) (x:α):Nat->α:=fun e=>if e=d then x else f e
theorem upD_at {α:Type} (f:Nat->α) (d:Nat) (x:α):upD f d x d=x:=if_pos rfl
theorem upD_ne {α:Type} (f:Nat->α) {d e:Nat} (x:α) (h:e≠d):upD f d x e=f e:=if_neg h
theorem upD_self {α:Type} (f:Nat->α) (d:Nat):upD f d (f d)=f:=by
 funext e
 unfold upD
 split
 ·
  rename_i h; rw [h]
 ·
  rfl
section
variable {R:Rck} {c:Cfg} {m:Nat} {cur:Int} {j:Nat->Option Rcd} {f:Strs} {U sp:Nat->Bool} {jr:JR} {st:ST}
theorem GT.setTo (h:GT R c m U sp jr st) {d:Nat} (hd:d < c.n.toNat) {D:Dsk} {u s':Bool} {j':Nat->Nat->Option Rcd} {t':Nat->Option (Int × List (List Nat))} (g:GTd D d c m u s' j' t')
  (hj:∀ s i x,s < c.slots.toNat->i < c.k.toNat->j' s i=some x->x.Fit c s/\(x.blocks.length:Int)=c.k) (ht:∀ t y,t < c.stripes.toNat->t' t=some y->SFit c t y.1 y.2) :
  GT (R.setD (d:Nat) D) c m (upD U d u) (upD sp d s') (upD jr d j') (upD st d t'):=by
 obtain ⟨l1,k1⟩:=h.live.setD D g.len hd
 refine ⟨l1,h.good,h.fit,fun e he=>?_,fun e s i x he hs hi q=>?_,fun e t y he ht' q=>?_⟩
 ·
  rw [k1]
  by_cases z:e=d
  ·
   subst z
   rw [if_pos rfl,upD_at,upD_at,upD_at,upD_at]
   exact g
  ·
   rw [if_neg z,upD_ne _ _ z,upD_ne _ _ z,upD_ne _ _ z,upD_ne _ _ z]
   exact h.dsk e he
 ·
  by_cases z:e=d
  ·
   subst z
   rw [upD_at] at q; exact hj s i x hs hi q
  ·
   rw [upD_ne _ _ z] at q; exact h.jfit e s i x he hs hi q
 ·
  by_cases z:e=d
  ·
   subst z
   rw [upD_at] at q; exact ht t y ht' q
  ·
   rw [upD_ne _ _ z] at q; exact h.sfit e t y he ht' q
theorem GTd.rotq {D:Dsk} {d:Nat} {u s':Bool} {j':Nat->Nat->Option Rcd} {t':Nat->Option (Int × List (List Nat))} (h:GTd D d c m u s' j' t') {q A X:Nat} (hq:q < m) (bad:Frm.get (Dsk.xor4 (D.read q) A X)=none) :
  GTd (D.rotted q A X) d c m u (s' && decide (q≠0)) (fun s i=>if q=jsecN c s i then none else j' s i) (fun t=>if q=ssecN c t then none else t' t):=by
 have hql:q < D.l.length:=by rw [h.len]; exact hq
 have hrd:∀ p,(D.rotted q A X).read p=if p=q then Dsk.xor4 (D.read q) A X else D.read p:=fun p=>Dsk.rotted_read D q A X p hql (h.waits q)
 refine ⟨by rw [Dsk.rotted_len]; exact h.len,h.dead,h.waits,fun p hp=>?_,fun p hp=>?_,fun e=>?_,fun e=>?_,fun s i x hs' hi e=>?_,fun s i hs' hi e=>?_,fun t y ht e=>?_,fun t ht e=>?_,fun e=>?_⟩
 ·
  rw [hrd]
  by_cases e:p=q
  ·
   rw [if_pos e]; exact bad
  ·
   rw [if_neg e]
   have hp:(if p=q then true else D.rot p)=true:=hp
   rw [if_neg e] at hp
   exact h.rot p hp
 ·
  show (if p=q then true else D.rot p)=false
  rw [if_neg (by omega)]; exact h.rotm p hp
 ·
  simp only [Bool.and_eq_true,decide_eq_true_eq] at e
  rw [hrd,if_neg (fun z=>e.2 z.symm)]; exact h.sup1 e.1
 ·
  by_cases z:q=0
  ·
   rw [hrd,if_pos z.symm]; exact bad
  ·
   rw [decide_eq_true (by simpa using z:q≠0),Bool.and_true] at e
   rw [hrd,if_neg (fun w=>z w.symm)]; exact h.sup0 e
 ·
  have e:(if q=jsecN c s i then none else j' s i)=some x:=e
  split at e
  ·
   cases e
  ·
   rename_i z
   rw [hrd,if_neg (fun w=>z w.symm)]; exact h.jr1 s i x hs' hi e
 ·
  have e:(if q=jsecN c s i then none else j' s i)=none:=e
  split at e
  ·
   rename_i z
   rw [hrd,if_pos z.symm]; exact bad
  ·
   rename_i z
   rw [hrd,if_neg (fun w=>z w.symm)]; exact h.jr0 s i hs' hi e
 ·
  have e:(if q=ssecN c t then none else t' t)=some y:=e
  split at e
  ·
   cases e
  ·
   rename_i z
   rw [hrd,if_neg (fun w=>z w.symm)]; exact h.st1 t y ht e
 ·
  have e:(if q=ssecN c t then none else t' t)=none:=e
  split at e
  ·
   rename_i z
   rw [hrd,if_pos z.symm]; exact bad
  ·
   rename_i z
   rw [hrd,if_neg (fun w=>z w.symm)]; exact h.st0 t ht e
 ·
  obtain ⟨g1,g2,g3⟩:=h.gone e
  refine ⟨by rw [g1]; rfl,fun s i=>?_,fun t=>?_⟩
  ·
   show (if q=jsecN c s i then none else j' s i)=none
   rw [g2]; split<;>rfl
  ·
   show (if q=ssecN c t then none else t' t)=none
   rw [g3]; split<;>rfl
end
structure MZ (R:Rck) (c:Cfg) (m:Nat) (j:Nat->Option Rcd) (f:Strs) (U sp:Nat->Bool) (jr:JR) (st:ST):Prop where
 gt:GT R c m U sp jr st
 hj:∀ d s i,d < c.n.toNat->s < c.slots.toNat->i < c.k.toNat->jr d s i=none\/jr d s i=j s
 hs:∀ d t,d < c.n.toNat->t < c.stripes.toNat->st d t=none\/st d t=f t
 zr:∀ d:Nat,d < c.n.toNat->∀ q,q < m->(R.dsk (d:Nat)).rot q=true\/Frm.get ((R.dsk (d:Nat)).read q)≠none\/(R.dsk (d:Nat)).read q=Dsk.zeros
namespace MZ
variable {R:Rck} {c:Cfg} {m:Nat} {cur:Int} {j:Nat->Option Rcd} {f:Strs} {U sp:Nat->Bool} {jr:JR} {st:ST}
theorem of_vh (h:VH R c m true j f) (hv:VI c cur j f) (hm:(m:Int)=c.sectors):MZ R c m j f (fun _=>true) (fun _=>true) (fun _ s _=>j s) fun _ t=>f t:=by
 have g:=h.gt hv
 have hc:=g.good
 have hn8:=hc.n1
 have hk8:c.k.toNat<=8:=by have:=hc.k1; omega
 refine ⟨g,fun _ _ _ _ _ _=>.inr rfl,fun _ _ _ _=>.inr rfl,fun d hd q hq=>.inr (.inl ?_)⟩
 have hD:=g.dsk d hd
 rcases sector_cases hc hm hq with rfl | ⟨s,i,hs',hi,rfl⟩ | ⟨t,ht,rfl⟩
 ·
  rw [hD.sup1 rfl,Frm.get_bytes _ (Cfg.block_ok c d hc) (Cfg.block_right c d (by omega))]; simp
 ·
  rcases e:j s with _ | x
  ·
   exact absurd e (VH.fullj hv d s i hd hs' hi)
  ·
   have hx:=(g.jfit d s i x hd hs' hi e).1
   rw [hD.jr1 s i x hs' hi e,Frm.get_bytes _ (Rcd.frm_ok x hx.ok i) (hx.right hc (by omega))]; simp
 ·
  rcases e:f t with _ | y
  ·
   exact absurd e (VH.fulls hv d t hd ht)
  ·
   have hy:=g.sfit d t y hd ht e
   rw [hD.st1 t y ht e,Frm.get_bytes _ (hy.ok hc d) (hy.right hc hd)]; simp
theorem set (h:MZ R c m j f U sp jr st) {d:Nat} (hd:d < c.n.toNat) {D:Dsk} {u s':Bool} {j':Nat->Nat->Option Rcd} {t':Nat->Option (Int × List (List Nat))} (g:GTd D d c m u s' j' t')
  (h1:∀ s i,s < c.slots.toNat->i < c.k.toNat->j' s i=none\/j' s i=jr d s i) (h2:∀ t,t < c.stripes.toNat->t' t=none\/t' t=st d t)
  (hz:∀ q,q < m->D.rot q=true\/Frm.get (D.read q)≠none\/D.read q=Dsk.zeros) :
  MZ (R.setD (d:Nat) D) c m j f (upD U d u) (upD sp d s') (upD jr d j') (upD st d t'):=by
 obtain ⟨l1,k1⟩:=h.gt.live.setD D g.len hd
 refine ⟨h.gt.setTo hd g (fun s i x hs hi e=>?_) (fun t y ht e=>?_),fun e s i he hs hi=>?_,fun e t he ht=>?_,fun e he q hq=>?_⟩
 ·
  rcases h1 s i hs hi with z | z
  ·
   rw [z] at e; cases e
  ·
   rw [z] at e; exact h.gt.jfit d s i x hd hs hi e
 ·
  rcases h2 t ht with z | z
  ·
   rw [z] at e; cases e
  ·
   rw [z] at e; exact h.gt.sfit d t y hd ht e
 ·
  by_cases z:e=d
  ·
   subst z
   rw [upD_at]
   rcases h1 s i hs hi with z | z
   ·
    exact .inl z
   ·
    rw [z]; exact h.hj e s i he hs hi
  ·
   rw [upD_ne _ _ z]; exact h.hj e s i he hs hi
 ·
  by_cases z:e=d
  ·
   subst z
   rw [upD_at]
   rcases h2 t ht with z | z
   ·
    exact .inl z
   ·
    rw [z]; exact h.hs e t he ht
  ·
   rw [upD_ne _ _ z]; exact h.hs e t he ht
 ·
  rw [k1]
  by_cases z:e=d
  ·
   rw [if_pos z]; exact hz q hq
  ·
   rw [if_neg z]; exact h.zr e he q hq
theorem blank_read {D:Dsk} {q:Nat} (hq:q < D.l.length):D.blank.read q=Dsk.zeros:=by
 unfold Dsk.blank Dsk.read
 simp [List.getD_eq_getElem?_getD,List.getElem?_replicate,hq]
theorem die (h:MZ R c m j f U sp jr st) {d:Nat} (hd:d < c.n.toNat):MZ (R.die (d:Nat)) c m j f (upD U d false) (upD sp d false) (upD jr d fun _ _=>none) (upD st d fun _=>none):=by
 rw [h.gt.live.die hd]
 have hl:=(h.gt.dsk d hd).len
 exact h.set hd (GTd.dead_ hl) (fun _ _ _ _=>.inl rfl) (fun _ _=>.inl rfl) fun q hq=>.inr (.inr (blank_read (by omega)))
theorem replace (h:MZ R c m j f U sp jr st) {d:Nat} (hd:d < c.n.toNat):MZ (R.replace (d:Nat)) c m j f (upD U d true) (upD sp d false) (upD jr d fun _ _=>none) (upD st d fun _=>none):=by
 rw [h.gt.live.replace hd]
 have hl:=(h.gt.dsk d hd).len
 exact h.set hd (GTd.fresh hl) (fun _ _ _ _=>.inl rfl) (fun _ _=>.inl rfl) fun q hq=>.inr (.inr (blank_read (by omega)))
theorem rot (h:MZ R c m j f U sp jr st) (hm:(m:Int)=c.sectors) {d q A X:Nat} (hd:d < c.n.toNat) (hq:q < m) (hA:A<=124) (hX:X < 4294967296) :
  ∃ s' j' t',MZ (R.rot (d:Nat) (q:Nat) (A:Nat) X) c m j f U (upD sp d s') (upD jr d j') (upD st d t'):=by
 have hc:=h.gt.good
 have hn8:=hc.n1
 have hk8:c.k.toNat<=8:=by have:=hc.k1; omega
 have hD:=h.gt.dsk d hd
 rcases hok:(R.dsk (d:Nat)).rotOk (q:Nat) (A:Nat) X with _ | _
 ·
  refine ⟨sp d,jr d,st d,?_⟩
  rw [h.gt.live.rot hd,hok,upD_self,upD_self,upD_self]
  exact h
 ·
  have h1:(R.dsk (d:Nat)).rot q=false/\X≠0:=by
   unfold Dsk.rotOk at hok
   simp only [Bool.and_eq_true,Bool.not_eq_true',Bool.or_eq_false_iff,decide_eq_false_iff_not,beq_eq_false_iff_ne,Int.toNat_natCast] at hok
   exact ⟨hok.2,hok.1.1.1.2⟩
  have bad:Frm.get (Dsk.xor4 ((R.dsk (d:Nat)).read q) A X)=none:=by
   rcases h.zr d hd q hq with z | z | z
   ·
    rw [h1.1] at z; cases z
   ·
    rcases hg:Frm.get ((R.dsk (d:Nat)).read q) with _ | g
    ·
     exact absurd hg z
    ·
     obtain ⟨a1,a2,a3⟩:=Frm.get_some hg
     have aok:g.Ok:=by
      rcases sector_cases hc hm hq with rfl | ⟨s,i,hs',hi,rfl⟩ | ⟨t,ht,rfl⟩
      ·
       rcases e:sp d with _ | _
       ·
        rw [hD.sup0 e] at hg; cases hg
       ·
        rw [hD.sup1 e,Frm.get_bytes _ (Cfg.block_ok c d hc) (Cfg.block_right c d (by omega))] at hg
        cases hg; exact Cfg.block_ok c d hc
      ·
       rcases e:jr d s i with _ | x
       ·
        rw [hD.jr0 s i hs' hi e] at hg; cases hg
       ·
        have hx:=(h.gt.jfit d s i x hd hs' hi e).1
        rw [hD.jr1 s i x hs' hi e,Frm.get_bytes _ (Rcd.frm_ok x hx.ok i) (hx.right hc (by omega))] at hg
        cases hg; exact Rcd.frm_ok x hx.ok i
      ·
       rcases e:st d t with _ | y
       ·
        rw [hD.st0 t ht e] at hg; cases hg
       ·
        have hy:=h.gt.sfit d t y hd ht e
        rw [hD.st1 t y ht e,Frm.get_bytes _ (hy.ok hc d) (hy.right hc hd)] at hg
        cases hg; exact hy.ok hc d
     rw [a2]
     exact Frm.get_rot _ aok a1 A X hA hX h1.2
   ·
    rw [z]; exact zeros_rot A X hA
  have er:R.rot (d:Nat) (q:Nat) (A:Nat) X=R.setD (d:Nat) ((R.dsk (d:Nat)).rotted q A X):=by
   rw [h.gt.live.rot hd,hok]
   simp
  rw [er]
  have g:=hD.rotq hq bad
  have hset:=h.set hd g (fun s i _ _=>?_) (fun t _=>?_) (fun p hp=>?_)
  ·
   rw [upD_self] at hset
   exact ⟨_,_,_,hset⟩
  ·
   show (if q=jsecN c s i then none else jr d s i)=none\/(if q=jsecN c s i then none else jr d s i)=jr d s i
   split
   ·
    exact .inl rfl
   ·
    exact .inr rfl
  ·
   show (if q=ssecN c t then none else st d t)=none\/(if q=ssecN c t then none else st d t)=st d t
   split
   ·
    exact .inl rfl
   ·
    exact .inr rfl
  ·
   have hql:q < (R.dsk (d:Nat)).l.length:=by rw [hD.len]; exact hq
   by_cases e:p=q
   ·
    exact .inl (if_pos e)
   ·
    rw [show ((R.dsk (d:Nat)).rotted q A X).rot p=(R.dsk (d:Nat)).rot p from if_neg e,Dsk.rotted_read _ q A X p hql (hD.waits q),if_neg e]
    exact h.zr d hd p hp
end MZ
end Go.Proofs.YtkipjmbplmdaaaaGreatDoor
namespace Go.Proofs.YtkipjmbplmdaaaaGreatDoor
set_option linter.unusedVariables false
structure MP (R:Rck) (c:Cfg) (m:Nat) (j:Nat->Option Rcd) (f:Strs) (U sp:Nat->Bool) (jr:JR) (st:ST):Prop where
 gt:GT R c m U sp jr st
 hj:∀ d s i,d < c.n.toNat->s < c.slots.toNat->i < c.k.toNat->jr d s i=none\/jr d s i=j s
 hs:∀ d t,d < c.n.toNat->t < c.stripes.toNat->st d t=none\/st d t=f t
def hasS (c:Cfg) (st:ST) (t:Nat):Nat:=((List.range c.n.toNat).filter fun d=>(st d t).isSome).length
def upsN (c:Cfg) (U:Nat->Bool):Nat:=((List.range c.n.toNat).filter U).length
def toldS (c:Cfg) (f:Strs) (U:Nat->Bool) (st:ST) (t:Nat):List (List Nat) × Int × Option Err :=
 if (upsN c U:Int) < c.k then ([],0,some (.fault sSGet t (.no 7)))
 else if (hasS c st t:Int) < c.k then ([],0,some (.fault sSGet t (.loss t (hasS c st t) c.k)))
 else (((f t).getD (0,[])).2,((f t).getD (0,[])).1,none)
theorem parts_has {g:Nat->Option Frm} {G:Int} (hG:1<=G):∀ n,(∀ d,d < n->∀ F,g d=some F->F.gen=G)->(partsG g G n).length=((List.range n).filter fun d=>(g d).isSome).length
 | 0,_=>rfl
 | n+1,h=>by
  rw [Zbl,List.length_append,parts_has hG n (fun d hd=>h d (by omega)),List.range_succ,List.filter_append,List.length_append]
  congr 1
  rcases e:g n with _ | F
  ·
   unfold partAt; simp [e]
  ·
   have:=h n (by omega) F e
   unfold partAt
   rw [e,List.filter_cons_of_pos (by rw [e]; rfl)]
   simp only [Option.bind_some]
   rw [if_pos ⟨this,by omega⟩]
   rfl
theorem tick_of {c:Cfg} {cur:Int} {R R':Rck} {g:Int} {o:Option Err} {n:Nat} (h:Vol.group c R g=(o,n,R')) (hoff:R.off=false) (hd:(o.map Err.isDown).getD false=false) :
  Vol.tick ⟨c,cur,false⟩ R g=⟨n,o.map (.fault sMTick g),R',⟨c,cur,false⟩,(g+1) % c.groups⟩:=by
 unfold Vol.tick
 rw [if_neg (by rw [hoff]; simp),h]
 show MTick.mk n _ R' (if (o.map Err.isDown).getD false=true then _ else _) _=_
 rw [hd,if_neg (by simp)]
theorem MZ.mp {R:Rck} {c:Cfg} {m:Nat} {j:Nat->Option Rcd} {f:Strs} {U sp:Nat->Bool} {jr:JR} {st:ST} (h:MZ R c m j f U sp jr st):MP R c m j f U sp jr st:=⟨h.gt,h.hj,h.hs⟩
def okG (c:Cfg) (U:Nat->Bool) (jr:JR) (st:ST) (g:Nat):Prop :=
 g=0\/(g≠0/\g<=c.slots.toNat/\∀ i,i < c.k.toNat->∃ d,d < c.n.toNat/\jr d (g - 1) i≠none)\/(c.slots.toNat < g/\¬(upsN c U:Int) < c.k/\¬(hasS c st (g - 1 - c.slots.toNat):Int) < c.k)
def doneG (c:Cfg) (U sp:Nat->Bool) (jr:JR) (st:ST) (g:Nat):Prop:=¬okG c U jr st g\/MS.lack c U sp jr st g=0
namespace MP
variable {R:Rck} {c:Cfg} {m:Nat} {cur:Int} {j:Nat->Option Rcd} {f:Strs} {U sp:Nat->Bool} {jr:JR} {st:ST}
theorem on (h:MP R c m j f U sp jr st):R.online.length=upsN c U:=by rw [h.gt.online]; rfl
theorem parts (h:MP R c m j f U sp jr st) (hv:VI c cur j f) {t:Nat} (ht:t < c.stripes.toNat):(partsG (GT.sgf c st t) (newG (GT.sgf c st t) c.n.toNat) c.n.toNat).length=hasS c st t:=by
 obtain ⟨gen,l,hf,hx,_⟩:=hv.vv.str t ht
 have hst:∀ d,d < c.n.toNat->∀ y,st d t=some y->y=(gen,l):=fun d hd y e=>by
  rcases h.hs d t hd ht with q | q
  ·
   rw [q] at e; cases e
  ·
   rw [q,hf] at e; cases e; rfl
 have hgen:∀ d,d < c.n.toNat->∀ F,GT.sgf c st t d=some F->F.gen=gen:=fun d hd F e=>by
  unfold GT.sgf at e
  rcases q:st d t with _ | y
  ·
   rw [q] at e; cases e
  ·
   rw [q] at e
   have:=hst d hd y q
   subst this
   cases e; rfl
 have hiso:((List.range c.n.toNat).filter fun d=>(GT.sgf c st t d).isSome).length=hasS c st t:=by
  unfold hasS GT.sgf
  congr 1
  refine List.filter_congr fun d _=>?_
  rw [Option.isSome_map]
 by_cases hex:∃ d,d < c.n.toNat/\∃ F,GT.sgf c st t d=some F
 ·
  obtain ⟨d,hd,F,hF⟩:=hex
  rw [newG_is (G:=gen) (by have:=hx.g0; omega) (fun d F hd hF=>by rw [hgen d hd F hF]; exact Int.le_refl _) hd hF (hgen d hd F hF),parts_has hx.g0 _ hgen,hiso]
 ·
  have hno:∀ d,d < c.n.toNat->GT.sgf c st t d=none:=fun d hd=>by
   rcases e:GT.sgf c st t d with _ | F
   ·
    rfl
   ·
    exact absurd ⟨d,hd,F,e⟩ hex
  rw [parts_none _ hno,<- hiso,List.filter_eq_nil_iff.2 fun d hd=>by rw [hno d (List.mem_range.1 hd)]; simp]
  rfl
theorem sget (h:MP R c m j f U sp jr st) (hv:VI c cur j f) (k4:c.k<=4) (n6:c.n<=6) {t:Nat} (ht:t < c.stripes.toNat):R.sget c (t:Int)=toldS c f U st t:=by
 obtain ⟨gen,l,hf,hx,_⟩:=hv.vv.str t ht
 have hon:=h.on
 have hst:∀ d,d < c.n.toNat->∀ y,st d t=some y->y=(gen,l):=fun d hd y e=>by
  rcases h.hs d t hd ht with q | q
  ·
   rw [q] at e; cases e
  ·
   rw [q,hf] at e; cases e; rfl
 have hg:=fun (d:Nat) (hd:d < c.n.toNat)=>h.gt.sg hd ht
 unfold toldS
 by_cases h1:(upsN c U:Int) < c.k
 ·
  rw [if_pos h1]
  exact Super.sget_few h.gt.super ht (by rw [hon]; exact h1)
 rw [if_neg h1]
 by_cases h2:(hasS c st t:Int) < c.k
 ·
  rw [if_pos h2]
  have hp:=h.parts hv ht
  have:=Super.sget_lost h.gt.super ht hg (by rw [hp]; exact h2) (by rw [hon]; omega)
  rw [hp] at this
  exact this
 ·
  rw [if_neg h2,hf]
  refine h.gt.sget_ok k4 n6 ht (y:=(gen,l)) (fun d z hd e=>?_) ?_
  ·
   have:=hst d hd z e
   subst this
   exact ⟨Int.le_refl _,fun _=>rfl⟩
  ·
   have:hasS c st t<=((List.range c.n.toNat).filter fun d=>decide (st d t=some (gen,l))).length:=filter_le fun d hd e=>by
    rcases q:st d t with _ | y
    ·
     rw [q] at e; cases e
    ·
     rw [hst d (List.mem_range.1 hd) y q]; exact decide_eq_true rfl
   have:=h.gt.good.k0
   omega
theorem jslot (h:MP R c m j f U sp jr st) {s:Nat} (hs:s < c.slots.toNat) {x:Rcd} (hx:j s=some x) :
  (∃ i,i < c.k.toNat/\(∀ d,d < c.n.toNat->jr d s i=none)/\R.jslot c (s:Int)=(Rcd.none_,false,0,some (.fault sJSlot s (.loss s 0 1)))) ∨
  ((∀ i,i < c.k.toNat->∃ d,d < c.n.toNat/\jr d s i≠none)/\∃ w q,R.jslot c (s:Int)=(x,w,q,none)):=by
 have hall:∀ d i y,d < c.n.toNat->i < c.k.toNat->jr d s i=some y->y=x:=fun d i y hd hi e=>by
  rcases h.hj d s i hd hs hi with q | q
  ·
   rw [q] at e; cases e
  ·
   rw [q,hx] at e; cases e; rfl
 rcases h.gt.jslot hs (fun d e i i' a b hd he hi hi' e1 e2 _=>(hall d i a hd hi e1).trans (hall e i' b he hi' e2).symm) with ⟨i,hi,hno,e⟩ | ⟨y,⟨d,i,hd,hi,e⟩,_,hev,q⟩
 ·
  exact .inl ⟨i,hi,hno,e⟩
 ·
  have hy:=hall d i y hd hi e
  subst hy
  refine .inr ⟨fun i hi=>?_,?_⟩
  ·
   obtain ⟨d,z,hd,e⟩:=hev i hi
   exact ⟨d,hd,by rw [e]; simp⟩
  ·
   rcases q with ⟨_,q⟩ | ⟨⟨i',hi',hno⟩,_⟩
   ·
    exact ⟨_,_,q⟩
   ·
    obtain ⟨d,z,hd,e⟩:=hev i' hi'
    exact absurd (by rw [e,hall d i' z hd hi' e]) (hno d hd)
theorem tick (h:MP R c m j f U sp jr st) (hv:VI c cur j f) (k4:c.k<=4) (n6:c.n<=6) {g:Nat} (hg:(g:Int) < c.groups) :
  (okG c U jr st g/\∃ R',Vol.tick ⟨c,cur,false⟩ R (g:Int)=⟨MS.lack c U sp jr st g,none,R',⟨c,cur,false⟩,((g:Int)+1) % c.groups⟩/\MP R' c m j f U (MS.spG U sp g) (MS.jrG c j U jr g) (MS.stG c f U st g)) ∨
  (¬okG c U jr st g/\∃ e,(e.kind=6\/e.kind=7)/\Vol.tick ⟨c,cur,false⟩ R (g:Int)=⟨0,some (.fault sMTick g e),R,⟨c,cur,false⟩,((g:Int)+1) % c.groups⟩ ∧
   (c.slots.toNat < g->¬(upsN c U:Int) < c.k->e=.fault sSGet ((g - 1 - c.slots.toNat:Nat):Int) (.loss ((g - 1 - c.slots.toNat:Nat):Int) (hasS c st (g - 1 - c.slots.toNat)) c.k))):=by
 have hc:=h.gt.good
 have hsl:=hc.sl0
 have hst:=hc.st0
 have hoff:=h.gt.live.off
 unfold Cfg.groups at hg
 by_cases h0:g=0
 ·
  subst h0
  obtain ⟨R',e,g'⟩:=h.gt.msupers
  refine .inl ⟨.inl rfl,R',?_,?_⟩
  ·
   refine tick_of (o:=none) ?_ hoff rfl
   unfold Vol.group MS.lack
   rw [if_pos rfl]
   exact (if_pos rfl).trans e
  ·
   have ej:MS.jrG c j U jr 0=jr:=by funext d s i; exact if_neg (by omega)
   have es:MS.stG c f U st 0=st:=by funext d t; exact if_neg (by omega)
   rw [ej,es]
   exact ⟨g',h.hj,h.hs⟩
 by_cases h1:g<=c.slots.toNat
 ·
  have hs:g - 1 < c.slots.toNat:=by omega
  have eg:Vol.group c R (g:Int)=R.mslot c ((g - 1:Nat):Int):=by
   unfold Vol.group
   rw [if_neg (by omega),if_pos (by omega),show (g:Int) - 1=((g - 1:Nat):Int) by omega]
  obtain ⟨x,hx,_⟩:=hv.vv.slot (g - 1) hs
  obtain ⟨hfit,hlen,_⟩:=hv.fit hs hx
  rcases h.jslot hs hx with ⟨i,hi,hno,e⟩ | ⟨hev,w,q,hjs⟩
  ·
   refine .inr ⟨fun q=>?_,.fault sJSlot ((g - 1:Nat):Int) (.loss ((g - 1:Nat):Int) 0 1),.inl rfl,?_,fun q=>by omega⟩
   ·
    rcases q with q | ⟨_,_,q⟩ | ⟨q,_⟩
    ·
     exact h0 q
    ·
     obtain ⟨d,hd,z⟩:=q i hi
     exact z (hno d hd)
    ·
     omega
   ·
    refine tick_of (o:=some _) (eg.trans ?_) hoff rfl
    unfold Rck.mslot
    rw [e]
  ·
   obtain ⟨R',e,g'⟩:=h.gt.mslot hs hfit hlen hjs fun d i hd hi=>by rw [<- hx]; exact h.hj d (g - 1) i hd hs hi
   have ej:MS.jrG c j U jr g=fun d t i=>if t=g - 1 then (if U d then some x else none) else jr d t i:=by
    funext d t i
    unfold MS.jrG
    by_cases et:t=g - 1
    ·
     rw [if_pos ⟨by omega,h1,et⟩,if_pos et,et,hx]
    ·
     rw [if_neg (fun z=>et z.2.2),if_neg et]
   have es:MS.stG c f U st g=st:=by funext d t; exact if_neg (by omega)
   have ep:MS.spG U sp g=sp:=if_neg h0
   refine .inl ⟨.inr (.inl ⟨h0,h1,hev⟩),R',?_,?_⟩
   ·
    refine tick_of (o:=none) (eg.trans (e.trans ?_)) hoff rfl
    unfold MS.lack
    rw [if_neg h0,if_pos h1]
   ·
    rw [ej,es,ep]
    refine ⟨g',fun d s i hd hs' hi=>?_,h.hs⟩
    show (if s=g - 1 then (if U d=true then some x else none) else jr d s i)=none\/(if s=g - 1 then (if U d=true then some x else none) else jr d s i)=j s
    by_cases z:s=g - 1
    ·
     rw [if_pos z,z,hx]
     split
     ·
      exact .inr rfl
     ·
      exact .inl rfl
    ·
     rw [if_neg z]; exact h.hj d s i hd hs' hi
 ·
  have ht:g - 1 - c.slots.toNat < c.stripes.toNat:=by omega
  obtain ⟨gen,l,hy,hfit,_⟩:=hv.vv.str _ ht
  have hsg:=h.sget hv k4 n6 ht
  have eg:Vol.group c R (g:Int)=R.mstripe c ((g - 1 - c.slots.toNat:Nat):Int):=by
   unfold Vol.group
   rw [if_neg (by omega),if_neg (by omega),show (g:Int) - 1 - c.slots=((g - 1 - c.slots.toNat:Nat):Int) by omega]
  unfold toldS at hsg
  by_cases q1:(upsN c U:Int) < c.k
  ·
   rw [if_pos q1] at hsg
   refine .inr ⟨fun q=>?_,.fault sSGet ((g - 1 - c.slots.toNat:Nat):Int) (.no 7),.inr rfl,?_,fun _ q=>absurd q1 q⟩
   ·
    rcases q with q | ⟨_,q,_⟩ | ⟨_,q,_⟩
    ·
     exact h0 q
    ·
     exact h1 q
    ·
     exact q q1
   ·
    refine tick_of (o:=some _) (eg.trans ?_) hoff rfl
    unfold Rck.mstripe
    rw [hsg]
  rw [if_neg q1] at hsg
  by_cases q2:(hasS c st (g - 1 - c.slots.toNat):Int) < c.k
  ·
   rw [if_pos q2] at hsg
   refine .inr ⟨fun q=>?_,.fault sSGet ((g - 1 - c.slots.toNat:Nat):Int) (.loss ((g - 1 - c.slots.toNat:Nat):Int) (hasS c st (g - 1 - c.slots.toNat)) c.k),.inl rfl,?_,fun _ _=>rfl⟩
   ·
    rcases q with q | ⟨_,q,_⟩ | ⟨_,_,q⟩
    ·
     exact h0 q
    ·
     exact h1 q
    ·
     exact q q2
   ·
    refine tick_of (o:=some _) (eg.trans ?_) hoff rfl
    unfold Rck.mstripe
    rw [hsg]
  rw [if_neg q2,hy] at hsg
  obtain ⟨R',e,g'⟩:=h.gt.mstripe hfit hsg fun d hd=>by rw [<- hy]; exact h.hs d _ hd ht
  have es:MS.stG c f U st g=fun d t=>if t=g - 1 - c.slots.toNat then (if U d then some (gen,l) else none) else st d t:=by
   funext d t
   unfold MS.stG
   by_cases et:t=g - 1 - c.slots.toNat
   ·
    rw [if_pos ⟨by omega,et⟩,if_pos et,et,hy]
   ·
    rw [if_neg (fun z=>et z.2),if_neg et]
  have ej:MS.jrG c j U jr g=jr:=by funext d s i; exact if_neg (by omega)
  have ep:MS.spG U sp g=sp:=if_neg h0
  refine .inl ⟨.inr (.inr ⟨by omega,q1,q2⟩),R',?_,?_⟩
  ·
   refine tick_of (o:=none) (eg.trans (e.trans ?_)) hoff rfl
   unfold MS.lack
   rw [if_neg h0,if_neg h1]
  ·
   rw [es,ej,ep]
   refine ⟨g',h.hj,fun d t hd ht'=>?_⟩
   show (if t=g - 1 - c.slots.toNat then (if U d=true then some (gen,l) else none) else st d t)=none\/(if t=g - 1 - c.slots.toNat then (if U d=true then some (gen,l) else none) else st d t)=f t
   by_cases z:t=g - 1 - c.slots.toNat
   ·
    rw [if_pos z,z,hy]
    split
    ·
     exact .inr rfl
    ·
     exact .inl rfl
   ·
    rw [if_neg z]; exact h.hs d t hd ht'
theorem done_here (hv:VI c cur j f) {g:Nat} (hg:g < 1+c.slots.toNat+c.stripes.toNat):doneG c U (MS.spG U sp g) (MS.jrG c j U jr g) (MS.stG c f U st g) g:=by
 refine .inr ?_
 have hm:∀ d,d∈(List.range c.n.toNat).filter U->U d=true:=fun d hd=>(List.mem_filter.1 hd).2
 unfold MS.lack
 by_cases h0:g=0
 ·
  rw [if_pos h0,List.length_eq_zero_iff]
  refine List.filter_eq_nil_iff.2 fun d hd=>?_
  unfold MS.spG
  rw [if_pos h0,hm d hd]; simp
 rw [if_neg h0]
 by_cases h1:g<=c.slots.toNat
 ·
  rw [if_pos h1]
  obtain ⟨x,hx,_⟩:=hv.vv.slot (g - 1) (by omega)
  have hz:∀ l:List Nat,(∀ d∈l,U d=true)->(l.map fun d=>((List.range c.k.toNat).filter fun i=>(MS.jrG c j U jr g d (g - 1) i).isNone).length).sum=0:=fun l hl=>by
   induction l with
   | nil=>rfl
   | cons a l ih =>
    rw [List.map_cons,List.sum_cons,ih fun d hd=>hl d (List.mem_cons_of_mem _ hd)]
    have:(List.range c.k.toNat).filter (fun i=>(MS.jrG c j U jr g a (g - 1) i).isNone)=[]:=List.filter_eq_nil_iff.2 fun i _=>by
     unfold MS.jrG
     rw [if_pos ⟨by omega,h1,rfl⟩,if_pos (hl a List.mem_cons_self),hx]; simp
    rw [this]; rfl
  exact hz _ hm
 ·
  rw [if_neg h1,List.length_eq_zero_iff]
  obtain ⟨gen,l,hy,_⟩:=hv.vv.str (g - 1 - c.slots.toNat) (by omega)
  refine List.filter_eq_nil_iff.2 fun d hd=>?_
  unfold MS.stG
  rw [if_pos ⟨by omega,rfl⟩,if_pos (hm d hd),hy]; simp
theorem done_keep {g g':Nat} (hne:g'≠g) (h:doneG c U sp jr st g'):doneG c U (MS.spG U sp g) (MS.jrG c j U jr g) (MS.stG c f U st g) g':=by
 by_cases h0:g'=0
 ·
  have e1:MS.spG U sp g=sp:=if_neg (by omega)
  rcases h with h | h
  ·
   exact absurd (.inl h0) h
  ·
   refine .inr ?_
   unfold MS.lack at h ⊢
   rw [if_pos h0] at h ⊢
   rw [e1]; exact h
 by_cases h1:g'<=c.slots.toNat
 ·
  have ej:∀ d i,MS.jrG c j U jr g d (g' - 1) i=jr d (g' - 1) i:=fun d i=>if_neg (by omega)
  rcases h with h | h
  ·
   refine .inl fun q=>h ?_
   rcases q with q | ⟨_,_,q⟩ | ⟨q,_⟩
   ·
    exact absurd q h0
   ·
    exact .inr (.inl ⟨h0,h1,fun i hi=>by
     obtain ⟨d,hd,z⟩:=q i hi
     exact ⟨d,hd,by rw [<- ej]; exact z⟩⟩)
   ·
    omega
  ·
   refine .inr ?_
   unfold MS.lack at h ⊢
   rw [if_neg h0,if_pos h1] at h ⊢
   simp only [ej]
   exact h
 ·
  have es:∀ d,MS.stG c f U st g d (g' - 1 - c.slots.toNat)=st d (g' - 1 - c.slots.toNat):=fun d=>if_neg (by omega)
  rcases h with h | h
  ·
   refine .inl fun q=>h ?_
   rcases q with q | ⟨_,q,_⟩ | ⟨q,q1,q2⟩
   ·
    exact absurd q h0
   ·
    exact absurd q h1
   ·
    refine .inr (.inr ⟨q,q1,?_⟩)
    unfold hasS at q2 ⊢
    simp only [es] at q2
    exact q2
  ·
   refine .inr ?_
   unfold MS.lack at h ⊢
   rw [if_neg h0,if_neg h1] at h ⊢
   simp only [es]
   exact h
theorem told_keep (hv:VI c cur j f) {g:Nat} (ho:okG c U jr st g) {t:Nat} (ht:t < c.stripes.toNat):toldS c f U (MS.stG c f U st g) t=toldS c f U st t:=by
 obtain ⟨gen,l,hy,_⟩:=hv.vv.str t ht
 by_cases e:c.slots.toNat < g/\t=g - 1 - c.slots.toNat
 ·
  have hk:¬(upsN c U:Int) < c.k/\¬(hasS c st t:Int) < c.k:=by
   rcases ho with q | ⟨_,q,_⟩ | ⟨_,q1,q2⟩
   ·
    omega
   ·
    omega
   ·
    rw [<- e.2] at q2; exact ⟨q1,q2⟩
  have hh:hasS c (MS.stG c f U st g) t=upsN c U:=by
   unfold hasS upsN
   congr 1
   refine List.filter_congr fun d _=>?_
   unfold MS.stG
   rw [if_pos e,hy]
   rcases U d with _ | _<;>rfl
  unfold toldS
  rw [if_neg hk.1,if_neg hk.1,if_neg hk.2,if_neg (by rw [hh]; exact hk.1)]
 ·
  have hh:hasS c (MS.stG c f U st g) t=hasS c st t:=by
   unfold hasS
   congr 1
   refine List.filter_congr fun d _=>?_
   unfold MS.stG
   rw [if_neg e]
  unfold toldS
  rw [hh]
theorem turn (h:MP R c m j f U sp jr st) (hv:VI c cur j f) (k4:c.k<=4) (n6:c.n<=6) {g:Nat} (hg:(g:Int) < c.groups) :
  ∃ R' n o sp' jr' st',Vol.tick ⟨c,cur,false⟩ R (g:Int)=⟨n,o,R',⟨c,cur,false⟩,((g:Int)+1) % c.groups⟩/\MP R' c m j f U sp' jr' st'/\(o=none\/∃ e,o=some e/\(e.kind=6\/e.kind=7))/\(doneG c U sp jr st g->n=0) ∧
   doneG c U sp' jr' st' g/\(∀ g',doneG c U sp jr st g'->doneG c U sp' jr' st' g')/\∀ t,t < c.stripes.toNat->toldS c f U st' t=toldS c f U st t:=by
 have hc:=h.gt.good
 have hsl:=hc.sl0
 have hst:=hc.st0
 have hg':g < 1+c.slots.toNat+c.stripes.toNat:=by unfold Cfg.groups at hg; omega
 rcases h.tick hv k4 n6 hg with ⟨ho,R',e,h'⟩ | ⟨ho,er,hk,e,_⟩
 ·
  refine ⟨R',_,_,_,_,_,e,h',.inl rfl,fun q=>?_,done_here hv hg',fun g2 q=>?_,fun t ht=>told_keep hv ho ht⟩
  ·
   rcases q with q | q
   ·
    exact absurd ho q
   ·
    exact q
  ·
   by_cases z:g2=g
   ·
    rw [z]; exact done_here hv hg'
   ·
    exact done_keep z q
 ·
  exact ⟨R,_,_,_,_,_,e,h,.inr ⟨_,rfl,hk⟩,fun _=>rfl,.inl ho,fun _ q=>q,fun _ _=>rfl⟩
end MP
end Go.Proofs.YtkipjmbplmdaaaaGreatDoor
namespace Go.Proofs.YtkipjmbplmdaaaaGreatDoor
set_option linter.unusedVariables false
structure MWr (R:Rck) (c:Cfg) (m:Nat) (j:Nat->Option Rcd) (f:Strs):Prop where
 ex:∃ U sp jr st,MZ R c m j f U sp jr st
namespace MWr
variable {R:Rck} {c:Cfg} {m:Nat} {cur:Int} {j:Nat->Option Rcd} {f:Strs}
theorem start (h:VH R c m true j f) (hv:VI c cur j f) (hm:(m:Int)=c.sectors):MWr R c m j f:=⟨_,_,_,_,MZ.of_vh h hv hm⟩
theorem die (h:MWr R c m j f) {d:Nat} (hd:d < c.n.toNat):MWr (R.die (d:Nat)) c m j f:=by
 obtain ⟨U,sp,jr,st,h1⟩:=h.ex
 exact ⟨_,_,_,_,h1.die hd⟩
theorem replace (h:MWr R c m j f) {d:Nat} (hd:d < c.n.toNat):MWr (R.replace (d:Nat)) c m j f:=by
 obtain ⟨U,sp,jr,st,h1⟩:=h.ex
 exact ⟨_,_,_,_,h1.replace hd⟩
theorem rot (h:MWr R c m j f) (hm:(m:Int)=c.sectors) {d q A X:Nat} (hd:d < c.n.toNat) (hq:q < m) (hA:A<=124) (hX:X < 4294967296):MWr (R.rot (d:Nat) (q:Nat) (A:Nat) X) c m j f:=by
 obtain ⟨U,sp,jr,st,h1⟩:=h.ex
 obtain ⟨s',j',t',h2⟩:=h1.rot hm hd hq hA hX
 exact ⟨_,_,_,_,h2⟩
theorem live (h:MWr R c m j f):Live R c.n.toNat m:=by
 obtain ⟨U,sp,jr,st,h1⟩:=h.ex
 exact h1.gt.live
end MWr
abbrev Told:=List (List Nat) × Int × Option Err
def tellK (T:Nat->Told) (t:Nat):Int:=okind ((T t).2.2.map (.fault sVRead (t:Int)))
structure MHd (R:Rck) (c:Cfg) (m:Nat) (j:Nat->Option Rcd) (f:Strs) (T:Nat->Told) (i:Nat):Prop where
 ex:∃ U sp jr st,MP R c m j f U sp jr st/\(∀ t,t < c.stripes.toNat->toldS c f U st t=T t)/\∀ g,g < i->g < 1+c.slots.toNat+c.stripes.toNat->doneG c U sp jr st g
namespace MHd
variable {R:Rck} {c:Cfg} {m:Nat} {cur:Int} {j:Nat->Option Rcd} {f:Strs} {T:Nat->Told}
theorem start (h:MWr R c m j f) (hv:VI c cur j f):∃ T,MHd R c m j f T 0/\∀ t,t < c.stripes.toNat->(∀ b∈(T t).1,b.length=108)/\(T t).1.length<=c.k.toNat:=by
 obtain ⟨U,sp,jr,st,h1⟩:=h.ex
 refine ⟨fun t=>toldS c f U st t,⟨U,sp,jr,st,h1.mp,fun _ _=>rfl,fun g hg=>by omega⟩,fun t ht=>?_⟩
 obtain ⟨gen,l,hf,hx,_⟩:=hv.vv.str t ht
 show (∀ b∈(toldS c f U st t).1,b.length=108)/\(toldS c f U st t).1.length<=c.k.toNat
 unfold toldS
 split
 ·
  exact ⟨fun b hb=>by simp at hb,Nat.zero_le _⟩
 ·
  split
  ·
   exact ⟨fun b hb=>by simp at hb,Nat.zero_le _⟩
  ·
   rw [hf]
   exact ⟨fun b hb=>hx.bl.mem_len hb,Nat.le_of_eq hx.bl.n⟩
theorem read {i:Nat} (h:MHd R c m j f T i) (hv:VI c cur j f) (k4:c.k<=4) (n6:c.n<=6) {t:Nat} (ht:t < c.stripes.toNat) (cur':Int):Vol.read ⟨c,cur',false⟩ R (t:Int)=((T t).1,(T t).2.1,(T t).2.2.map (.fault sVRead (t:Int))):=by
 obtain ⟨U,sp,jr,st,h1,h2,_⟩:=h.ex
 unfold Vol.read
 rw [if_neg (by simp),h1.sget hv k4 n6 ht,h2 t ht]
theorem tick {i:Nat} (h:MHd R c m j f T i) (hv:VI c cur j f) (k4:c.k<=4) (n6:c.n<=6) {gn:Nat} (hgn:1+c.slots.toNat+c.stripes.toNat=gn) (hG:c.groups=(gn:Int)) :
  ∃ R' n o,Vol.tick ⟨c,cur,false⟩ R ((i % gn:Nat):Int)=⟨n,o,R',⟨c,cur,false⟩,(((i+1) % gn:Nat):Int)⟩/\MHd R' c m j f T (i+1)/\(o=none\/∃ e,o=some e/\(e.kind=6\/e.kind=7))/\(gn<=i->n=0):=by
 obtain ⟨U,sp,jr,st,h1,h2,h3⟩:=h.ex
 have hg0:0 < gn:=by omega
 have hlt:i % gn < gn:=Nat.mod_lt _ hg0
 obtain ⟨R',n,o,sp',jr',st',e,g1,g2,g3,g4,g5,g6⟩:=h1.turn hv k4 n6 (g:=i % gn) (by rw [hG]; omega)
 refine ⟨R',n,o,?_,⟨U,sp',jr',st',g1,fun t ht=>by rw [g6 t ht]; exact h2 t ht,fun g hg hgg=>?_⟩,g2,fun hi=>g3 (h3 _ (by omega) (by omega))⟩
 ·
  rw [e,hG]
  have:=Nat.mod_add_mod i gn 1
  congr 1
  rw [<- this]
  push_cast
  rfl
 ·
  by_cases q:g=i % gn
  ·
   rw [q]; exact g4
  ·
   refine g5 g (h3 g ?_ hgg)
   rcases Nat.lt_or_ge i gn with z | z
   ·
    rw [Nat.mod_eq_of_lt z] at q; omega
   ·
    omega
end MHd
end Go.Proofs.YtkipjmbplmdaaaaGreatDoor
