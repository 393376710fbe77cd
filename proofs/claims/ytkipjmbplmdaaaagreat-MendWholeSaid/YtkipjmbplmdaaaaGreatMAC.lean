/- Texts of one proof, joined: MendWorn, MendSome. -/
import Derived.Test.YtkipjmbplmdaaaaGreatMAB
set_option linter.unusedVariables false
set_option linter.unusedSimpArgs false
namespace Go.Proofs.YtkipjmbplmdaaaaGreat
set_option linter.unusedVariables false
theorem zrot_sum:∀ k:Fin 4,∀ s:Fin 8,Frm.low 4 (Crc.sum ([83,84,k.val,s.val]++List.replicate 120 0))≠[0,0,0,0]:=by decide +kernel
theorem xor4_first (l:List Nat) (A X:Nat) (hA:1<=A):(Dsk.xor4 l A X)[0]?=l[0]?:=by
 unfold Dsk.xor4
 simp [List.range,List.range.loop,List.getElem?_set]
 omega
theorem zeros_rot (A X:Nat) (hA:A<=124):Frm.get (Dsk.xor4 Dsk.zeros A X)=none:=by
 cases hg:Frm.get (Dsk.xor4 Dsk.zeros A X) with
 | none=>rfl
 | some g =>
  exfalso
  obtain ⟨h1,h2,h3⟩:=Frm.get_some hg
  have hs:=Frm.right_spec h1
  rcases Nat.eq_zero_or_pos A with rfl | hp
  ·
   have e0:Dsk.zeros=[]++([0,0,0,0]++List.replicate 124 0):=by decide
   have e1:=Dsk.xor4_split [] (List.replicate 124 0) 0 0 0 0 X
   rw [<- e0] at e1
   have e1:Dsk.xor4 Dsk.zeros 0 X=([]:List Nat)++([0 ^^^ X % 256,0 ^^^ X / 256 % 256,0 ^^^ X / 65536 % 256,0 ^^^ X / 16777216 % 256]++List.replicate 124 0):=e1
   rw [h2] at e1 h3
   have hbl:g.body.length=124:=by
    have:g.bytes.length=g.body.length+4:=by unfold Frm.bytes; rw [List.length_append,Frm.low_len]
    omega
   have e2:=congrArg (List.take 124) e1
   have e3:=congrArg (List.drop 124) e1
   unfold Frm.bytes at e2 e3
   rw [List.take_left' hbl] at e2
   rw [List.drop_left' hbl] at e3
   simp only [List.nil_append,List.cons_append,List.take_succ_cons,List.drop_succ_cons,List.take_replicate,List.drop_replicate] at e2 e3
   have e4:∃ t,g.body=83::84::g.kind.toNat::g.slot.toNat::t:=⟨_,rfl⟩
   obtain ⟨t,e4⟩:=e4
   have e5:g.body=[83,84,g.kind.toNat,g.slot.toNat]++List.replicate 120 0:=by
    rw [e4] at e2 ⊢
    simp only [List.cons.injEq] at e2
    have e6:min 120 124=120:=by decide
    rw [e2.2.2.2.2,e6]
    simp only [List.cons_append,List.nil_append]
   rw [e5] at e3
   have e7:List.replicate (124 - 120) 0=[0,0,0,0]:=by decide
   rw [e7] at e3
   exact zrot_sum ⟨g.kind.toNat,by omega⟩ ⟨g.slot.toNat,by omega⟩ e3
  ·
   have e:=xor4_first Dsk.zeros A X hp
   rw [h2] at e
   have e2:g.bytes[0]?=some 83:=by unfold Frm.bytes Frm.body; simp
   rw [e2] at e
   have e3:Dsk.zeros[0]?=some 0:=by decide
   rw [e3] at e
   cases e
def upD {α:Type} (f:Nat->α) (d:Nat) (x:α):Nat->α:=fun e=>if e=d then x else f e
theorem upD_at {α:Type} (f:Nat->α) (d:Nat) (x:α):upD f d x d=x:=if_pos rfl
theorem Zcl {α:Type} (f:Nat->α) {d e:Nat} (x:α) (h:e≠d):upD f d x e=f e:=if_neg h
theorem upD_self {α:Type} (f:Nat->α) (d:Nat):upD f d (f d)=f:=by
 funext e
 unfold upD
 split
 ·
  rename_i h; rw [h]
 ·
  rfl
section
variable {R:Rck} {c:Cfg} {m:Nat} {cur:Int} {j:Nat->Option Rcd} {f:Strs} {U sp:Nat->Bool} {jr:JR} {st:ST}
theorem GT.setTo (h:GT R c m U sp jr st) {d:Nat} (hd:d < c.n.toNat) {D:Dsk} {u s':Bool} {j':Nat->Nat->Option Rcd} {t':Nat->Option (Int × List (List Nat))} (g:GTd D d c m u s' j' t')
  (hj:∀ s i x,s < c.slots.toNat->i < c.k.toNat->j' s i=some x->x.Fit c s/\(x.blocks.length:Int)=c.k) (ht:∀ t y,t < c.stripes.toNat->t' t=some y->SFit c t y.1 y.2) :
  GT (R.setD (d:Nat) D) c m (upD U d u) (upD sp d s') (upD jr d j') (upD st d t'):=by
 obtain ⟨l1,k1⟩:=h.live.setD D g.len hd
 refine ⟨l1,h.good,h.fit,fun e he=>?_,fun e s i x he hs hi q=>?_,fun e t y he ht' q=>?_⟩
 ·
  rw [k1]
  by_cases z:e=d
  ·
   subst z
   rw [if_pos rfl,upD_at,upD_at,upD_at,upD_at]
   exact g
  ·
   rw [if_neg z,Zcl _ _ z,Zcl _ _ z,Zcl _ _ z,Zcl _ _ z]
   exact h.dsk e he
 ·
  by_cases z:e=d
  ·
   subst z
   rw [upD_at] at q; exact hj s i x hs hi q
  ·
   rw [Zcl _ _ z] at q; exact h.jfit e s i x he hs hi q
 ·
  by_cases z:e=d
  ·
   subst z
   rw [upD_at] at q; exact ht t y ht' q
  ·
   rw [Zcl _ _ z] at q; exact h.sfit e t y he ht' q
theorem GTd.rotq {D:Dsk} {d:Nat} {u s':Bool} {j':Nat->Nat->Option Rcd} {t':Nat->Option (Int × List (List Nat))} (h:GTd D d c m u s' j' t') {q A X:Nat} (hq:q < m) (bad:Frm.get (Dsk.xor4 (D.read q) A X)=none) :
  GTd (D.rotted q A X) d c m u (s' && decide (q≠0)) (fun s i=>if q=jsecN c s i then none else j' s i) (fun t=>if q=ssecN c t then none else t' t):=by
 have hql:q < D.l.length:=by rw [h.len]; exact hq
 have hrd:∀ p,(D.rotted q A X).read p=if p=q then Dsk.xor4 (D.read q) A X else D.read p:=fun p=>Dsk.rotted_read D q A X p hql (h.waits q)
 refine ⟨by rw [Dsk.rotted_len]; exact h.len,h.dead,h.waits,fun p hp=>?_,fun p hp=>?_,fun e=>?_,fun e=>?_,fun s i x hs' hi e=>?_,fun s i hs' hi e=>?_,fun t y ht e=>?_,fun t ht e=>?_,fun e=>?_⟩
 ·
  rw [hrd]
  by_cases e:p=q
  ·
   rw [if_pos e]; exact bad
  ·
   rw [if_neg e]
   have hp:(if p=q then true else D.rot p)=true:=hp
   rw [if_neg e] at hp
   exact h.rot p hp
 ·
  show (if p=q then true else D.rot p)=false
  rw [if_neg (by omega)]; exact h.rotm p hp
 ·
  simp only [Bool.and_eq_true,decide_eq_true_eq] at e
  rw [hrd,if_neg (fun z=>e.2 z.symm)]; exact h.sup1 e.1
 ·
  by_cases z:q=0
  ·
   rw [hrd,if_pos z.symm]; exact bad
  ·
   rw [decide_eq_true (by simpa using z:q≠0),Bool.and_true] at e
   rw [hrd,if_neg (fun w=>z w.symm)]; exact h.sup0 e
 ·
  have e:(if q=jsecN c s i then none else j' s i)=some x:=e
  split at e
  ·
   cases e
  ·
   rename_i z
   rw [hrd,if_neg (fun w=>z w.symm)]; exact h.jr1 s i x hs' hi e
 ·
  have e:(if q=jsecN c s i then none else j' s i)=none:=e
  split at e
  ·
   rename_i z
   rw [hrd,if_pos z.symm]; exact bad
  ·
   rename_i z
   rw [hrd,if_neg (fun w=>z w.symm)]; exact h.jr0 s i hs' hi e
 ·
  have e:(if q=ssecN c t then none else t' t)=some y:=e
  split at e
  ·
   cases e
  ·
   rename_i z
   rw [hrd,if_neg (fun w=>z w.symm)]; exact h.st1 t y ht e
 ·
  have e:(if q=ssecN c t then none else t' t)=none:=e
  split at e
  ·
   rename_i z
   rw [hrd,if_pos z.symm]; exact bad
  ·
   rename_i z
   rw [hrd,if_neg (fun w=>z w.symm)]; exact h.st0 t ht e
 ·
  obtain ⟨g1,g2,g3⟩:=h.gone e
  refine ⟨by rw [g1]; rfl,fun s i=>?_,fun t=>?_⟩
  ·
   show (if q=jsecN c s i then none else j' s i)=none
   rw [g2]; split<;>rfl
  ·
   show (if q=ssecN c t then none else t' t)=none
   rw [g3]; split<;>rfl
end
structure MZ (R:Rck) (c:Cfg) (m:Nat) (j:Nat->Option Rcd) (f:Strs) (U sp:Nat->Bool) (jr:JR) (st:ST):Prop where
 gt:GT R c m U sp jr st
 hj:∀ d s i,d < c.n.toNat->s < c.slots.toNat->i < c.k.toNat->jr d s i=none\/jr d s i=j s
 hs:∀ d t,d < c.n.toNat->t < c.stripes.toNat->st d t=none\/st d t=f t
 zr:∀ d:Nat,d < c.n.toNat->∀ q,q < m->(R.dsk (d:Nat)).rot q=true\/Frm.get ((R.dsk (d:Nat)).read q)≠none\/(R.dsk (d:Nat)).read q=Dsk.zeros
namespace MZ
variable {R:Rck} {c:Cfg} {m:Nat} {cur:Int} {j:Nat->Option Rcd} {f:Strs} {U sp:Nat->Bool} {jr:JR} {st:ST}
theorem of_vh (h:VH R c m true j f) (hv:VI c cur j f) (hm:(m:Int)=c.sectors):MZ R c m j f (fun _=>true) (fun _=>true) (fun _ s _=>j s) fun _ t=>f t:=by
 have g:=h.gt hv
 have hc:=g.good
 have hn8:=hc.n1
 have hk8:c.k.toNat<=8:=by have:=hc.k1; omega
 refine ⟨g,fun _ _ _ _ _ _=>.inr rfl,fun _ _ _ _=>.inr rfl,fun d hd q hq=>.inr (.inl ?_)⟩
 have hD:=g.dsk d hd
 rcases Zci hc hm hq with rfl | ⟨s,i,hs',hi,rfl⟩ | ⟨t,ht,rfl⟩
 ·
  rw [hD.sup1 rfl,Frm.get_bytes _ (Cfg.block_ok c d hc) (Cfg.block_right c d (by omega))]; simp
 ·
  rcases e:j s with _ | x
  ·
   exact absurd e (VH.fullj hv d s i hd hs' hi)
  ·
   have hx:=(g.jfit d s i x hd hs' hi e).1
   rw [hD.jr1 s i x hs' hi e,Frm.get_bytes _ (Rcd.frm_ok x hx.ok i) (hx.right hc (by omega))]; simp
 ·
  rcases e:f t with _ | y
  ·
   exact absurd e (VH.fulls hv d t hd ht)
  ·
   have hy:=g.sfit d t y hd ht e
   rw [hD.st1 t y ht e,Frm.get_bytes _ (hy.ok hc d) (hy.right hc hd)]; simp
theorem set (h:MZ R c m j f U sp jr st) {d:Nat} (hd:d < c.n.toNat) {D:Dsk} {u s':Bool} {j':Nat->Nat->Option Rcd} {t':Nat->Option (Int × List (List Nat))} (g:GTd D d c m u s' j' t')
  (h1:∀ s i,s < c.slots.toNat->i < c.k.toNat->j' s i=none\/j' s i=jr d s i) (h2:∀ t,t < c.stripes.toNat->t' t=none\/t' t=st d t)
  (hz:∀ q,q < m->D.rot q=true\/Frm.get (D.read q)≠none\/D.read q=Dsk.zeros) :
  MZ (R.setD (d:Nat) D) c m j f (upD U d u) (upD sp d s') (upD jr d j') (upD st d t'):=by
 obtain ⟨l1,k1⟩:=h.gt.live.setD D g.len hd
 refine ⟨h.gt.setTo hd g (fun s i x hs hi e=>?_) (fun t y ht e=>?_),fun e s i he hs hi=>?_,fun e t he ht=>?_,fun e he q hq=>?_⟩
 ·
  rcases h1 s i hs hi with z | z
  ·
   rw [z] at e; cases e
  ·
   rw [z] at e; exact h.gt.jfit d s i x hd hs hi e
 ·
  rcases h2 t ht with z | z
  ·
   rw [z] at e; cases e
  ·
   rw [z] at e; exact h.gt.sfit d t y hd ht e
 ·
  by_cases z:e=d
  ·
   subst z
   rw [upD_at]
   rcases h1 s i hs hi with z | z
   ·
    exact .inl z
   ·
    rw [z]; exact h.hj e s i he hs hi
  ·
   rw [Zcl _ _ z]; exact h.hj e s i he hs hi
 ·
  by_cases z:e=d
  ·
   subst z
   rw [upD_at]
   rcases h2 t ht with z | z
   ·
    exact .inl z
   ·
    rw [z]; exact h.hs e t he ht
  ·
   rw [Zcl _ _ z]; exact h.hs e t he ht
 ·
  rw [k1]
  by_cases z:e=d
  ·
   rw [if_pos z]; exact hz q hq
  ·
   rw [if_neg z]; exact h.zr e he q hq
theorem blank_read {D:Dsk} {q:Nat} (hq:q < D.l.length):D.blank.read q=Dsk.zeros:=by
 unfold Dsk.blank Dsk.read
 simp [List.getD_eq_getElem?_getD,List.getElem?_replicate,hq]
theorem replace (h:MZ R c m j f U sp jr st) {d:Nat} (hd:d < c.n.toNat):MZ (R.replace (d:Nat)) c m j f (upD U d true) (upD sp d false) (upD jr d fun _ _=>none) (upD st d fun _=>none):=by
 rw [h.gt.live.replace hd]
 have hl:=(h.gt.dsk d hd).len
 exact h.set hd (GTd.fresh hl) (fun _ _ _ _=>.inl rfl) (fun _ _=>.inl rfl) fun q hq=>.inr (.inr (blank_read (by omega)))
theorem rot (h:MZ R c m j f U sp jr st) (hm:(m:Int)=c.sectors) {d q A X:Nat} (hd:d < c.n.toNat) (hq:q < m) (hA:A<=124) (hX:X < 4294967296) :
  ∃ s' j' t',MZ (R.rot (d:Nat) (q:Nat) (A:Nat) X) c m j f U (upD sp d s') (upD jr d j') (upD st d t'):=by
 have hc:=h.gt.good
 have hn8:=hc.n1
 have hk8:c.k.toNat<=8:=by have:=hc.k1; omega
 have hD:=h.gt.dsk d hd
 rcases hok:(R.dsk (d:Nat)).rotOk (q:Nat) (A:Nat) X with _ | _
 ·
  refine ⟨sp d,jr d,st d,?_⟩
  rw [h.gt.live.rot hd,hok,upD_self,upD_self,upD_self]
  exact h
 ·
  have h1:(R.dsk (d:Nat)).rot q=false/\X≠0:=by
   unfold Dsk.rotOk at hok
   simp only [Bool.and_eq_true,Bool.not_eq_true',Bool.or_eq_false_iff,decide_eq_false_iff_not,beq_eq_false_iff_ne,Int.toNat_natCast] at hok
   exact ⟨hok.2,hok.1.1.1.2⟩
  have bad:Frm.get (Dsk.xor4 ((R.dsk (d:Nat)).read q) A X)=none:=by
   rcases h.zr d hd q hq with z | z | z
   ·
    rw [h1.1] at z; cases z
   ·
    rcases hg:Frm.get ((R.dsk (d:Nat)).read q) with _ | g
    ·
     exact absurd hg z
    ·
     obtain ⟨a1,a2,a3⟩:=Frm.get_some hg
     have aok:g.Ok:=by
      rcases Zci hc hm hq with rfl | ⟨s,i,hs',hi,rfl⟩ | ⟨t,ht,rfl⟩
      ·
       rcases e:sp d with _ | _
       ·
        rw [hD.sup0 e] at hg; cases hg
       ·
        rw [hD.sup1 e,Frm.get_bytes _ (Cfg.block_ok c d hc) (Cfg.block_right c d (by omega))] at hg
        cases hg; exact Cfg.block_ok c d hc
      ·
       rcases e:jr d s i with _ | x
       ·
        rw [hD.jr0 s i hs' hi e] at hg; cases hg
       ·
        have hx:=(h.gt.jfit d s i x hd hs' hi e).1
        rw [hD.jr1 s i x hs' hi e,Frm.get_bytes _ (Rcd.frm_ok x hx.ok i) (hx.right hc (by omega))] at hg
        cases hg; exact Rcd.frm_ok x hx.ok i
      ·
       rcases e:st d t with _ | y
       ·
        rw [hD.st0 t ht e] at hg; cases hg
       ·
        have hy:=h.gt.sfit d t y hd ht e
        rw [hD.st1 t y ht e,Frm.get_bytes _ (hy.ok hc d) (hy.right hc hd)] at hg
        cases hg; exact hy.ok hc d
     rw [a2]
     exact Frm.get_rot _ aok a1 A X hA hX h1.2
   ·
    rw [z]; exact zeros_rot A X hA
  have er:R.rot (d:Nat) (q:Nat) (A:Nat) X=R.setD (d:Nat) ((R.dsk (d:Nat)).rotted q A X):=by
   rw [h.gt.live.rot hd,hok]
   simp
  rw [er]
  have g:=hD.rotq hq bad
  have hset:=h.set hd g (fun s i _ _=>?_) (fun t _=>?_) (fun p hp=>?_)
  ·
   rw [upD_self] at hset
   exact ⟨_,_,_,hset⟩
  ·
   show (if q=jsecN c s i then none else jr d s i)=none\/(if q=jsecN c s i then none else jr d s i)=jr d s i
   split
   ·
    exact .inl rfl
   ·
    exact .inr rfl
  ·
   show (if q=ssecN c t then none else st d t)=none\/(if q=ssecN c t then none else st d t)=st d t
   split
   ·
    exact .inl rfl
   ·
    exact .inr rfl
  ·
   have hql:q < (R.dsk (d:Nat)).l.length:=by rw [hD.len]; exact hq
   by_cases e:p=q
   ·
    exact .inl (if_pos e)
   ·
    rw [show ((R.dsk (d:Nat)).rotted q A X).rot p=(R.dsk (d:Nat)).rot p from if_neg e,Dsk.rotted_read _ q A X p hql (hD.waits q),if_neg e]
    exact h.zr d hd p hp
end MZ
end Go.Proofs.YtkipjmbplmdaaaaGreat
namespace Go.Proofs.YtkipjmbplmdaaaaGreat
set_option linter.unusedVariables false
structure MP (R:Rck) (c:Cfg) (m:Nat) (j:Nat->Option Rcd) (f:Strs) (U sp:Nat->Bool) (jr:JR) (st:ST):Prop where
 gt:GT R c m U sp jr st
 hj:∀ d s i,d < c.n.toNat->s < c.slots.toNat->i < c.k.toNat->jr d s i=none\/jr d s i=j s
 hs:∀ d t,d < c.n.toNat->t < c.stripes.toNat->st d t=none\/st d t=f t
def hasS (c:Cfg) (st:ST) (t:Nat):Nat:=((List.range c.n.toNat).filter fun d=>(st d t).isSome).length
def upsN (c:Cfg) (U:Nat->Bool):Nat:=((List.range c.n.toNat).filter U).length
theorem parts_has {g:Nat->Option Frm} {G:Int} (hG:1<=G):∀ n,(∀ d,d < n->∀ F,g d=some F->F.gen=G)->(partsG g G n).length=((List.range n).filter fun d=>(g d).isSome).length
 | 0,_=>rfl
 | n+1,h=>by
  rw [Zbm,List.length_append,parts_has hG n (fun d hd=>h d (by omega)),List.range_succ,List.filter_append,List.length_append]
  congr 1
  rcases e:g n with _ | F
  ·
   unfold partAt; simp [e]
  ·
   have:=h n (by omega) F e
   unfold partAt
   rw [e,List.filter_cons_of_pos (by rw [e]; rfl)]
   simp only [Option.bind_some]
   rw [if_pos ⟨this,by omega⟩]
   rfl
namespace MP
variable {R:Rck} {c:Cfg} {m:Nat} {cur:Int} {j:Nat->Option Rcd} {f:Strs} {U sp:Nat->Bool} {jr:JR} {st:ST}
theorem on (h:MP R c m j f U sp jr st):R.online.length=upsN c U:=by rw [h.gt.online]; rfl
theorem parts (h:MP R c m j f U sp jr st) (hv:VI c cur j f) {t:Nat} (ht:t < c.stripes.toNat):(partsG (GT.sgf c st t) (newG (GT.sgf c st t) c.n.toNat) c.n.toNat).length=hasS c st t:=by
 obtain ⟨gen,l,hf,hx,_⟩:=hv.vv.str t ht
 have hst:∀ d,d < c.n.toNat->∀ y,st d t=some y->y=(gen,l):=fun d hd y e=>by
  rcases h.hs d t hd ht with q | q
  ·
   rw [q] at e; cases e
  ·
   rw [q,hf] at e; cases e; rfl
 have hgen:∀ d,d < c.n.toNat->∀ F,GT.sgf c st t d=some F->F.gen=gen:=fun d hd F e=>by
  unfold GT.sgf at e
  rcases q:st d t with _ | y
  ·
   rw [q] at e; cases e
  ·
   rw [q] at e
   have:=hst d hd y q
   subst this
   cases e; rfl
 have hiso:((List.range c.n.toNat).filter fun d=>(GT.sgf c st t d).isSome).length=hasS c st t:=by
  unfold hasS GT.sgf
  congr 1
  refine List.filter_congr fun d _=>?_
  rw [Option.isSome_map]
 by_cases hex:∃ d,d < c.n.toNat/\∃ F,GT.sgf c st t d=some F
 ·
  obtain ⟨d,hd,F,hF⟩:=hex
  rw [newG_is (G:=gen) (by have:=hx.g0; omega) (fun d F hd hF=>by rw [hgen d hd F hF]; exact Int.le_refl _) hd hF (hgen d hd F hF),parts_has hx.g0 _ hgen,hiso]
 ·
  have hno:∀ d,d < c.n.toNat->GT.sgf c st t d=none:=fun d hd=>by
   rcases e:GT.sgf c st t d with _ | F
   ·
    rfl
   ·
    exact absurd ⟨d,hd,F,e⟩ hex
  rw [parts_none _ hno,<- hiso,List.filter_eq_nil_iff.2 fun d hd=>by rw [hno d (List.mem_range.1 hd)]; simp]
  rfl
theorem slook_len (h:MP R c m j f U sp jr st) (hv:VI c cur j f) {t:Nat} (ht:t < c.stripes.toNat):(R.slook c (t:Int)).2.length=hasS c st t:=by
 rw [Super.slook h.gt.super ht (fun (d:Nat) (hd:d < c.n.toNat)=>h.gt.sg hd ht)]
 exact h.parts hv ht
end MP
end Go.Proofs.YtkipjmbplmdaaaaGreat
