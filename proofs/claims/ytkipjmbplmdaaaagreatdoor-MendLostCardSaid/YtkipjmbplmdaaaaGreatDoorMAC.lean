/- Texts of one proof, joined: MendWorn, MendSome. -/
import Derived.Test.YtkipjmbplmdaaaaGreatDoorMAB
set_option linter.unusedVariables false
set_option linter.unusedSimpArgs false
namespace Go.Proofs.YtkipjmbplmdaaaaGreatDoor
set_option linter.unusedVariables false
def upD {α:Type} (f:Nat->α) (d:Nat) (x:α):Nat->α:=fun e=>if e=d then x else f e
theorem upD_at {α:Type} (f:Nat->α) (d:Nat) (x:α):upD f d x d=x:=if_pos rfl
theorem upD_ne {α:Type} (f:Nat->α) {d e:Nat} (x:α) (h:e≠d):upD f d x e=f e:=if_neg h
theorem upD_self {α:Type} (f:Nat->α) (d:Nat):upD f d (f d)=f:=by
 funext e
 unfold upD
 split
 ·
  rename_i h; rw [h]
 ·
  rfl
section
variable {R:Rck} {c:Cfg} {m:Nat} {cur:Int} {j:Nat->Option Rcd} {f:Strs} {U sp:Nat->Bool} {jr:JR} {st:ST}
theorem GT.setTo (h:GT R c m U sp jr st) {d:Nat} (hd:d < c.n.toNat) {D:Dsk} {u s':Bool} {j':Nat->Nat->Option Rcd} {t':Nat->Option (Int × List (List Nat))} (g:GTd D d c m u s' j' t')
  (hj:∀ s i x,s < c.slots.toNat->i < c.k.toNat->j' s i=some x->x.Fit c s/\(x.blocks.length:Int)=c.k) (ht:∀ t y,t < c.stripes.toNat->t' t=some y->SFit c t y.1 y.2) :
  GT (R.setD (d:Nat) D) c m (upD U d u) (upD sp d s') (upD jr d j') (upD st d t'):=by
 obtain ⟨l1,k1⟩:=h.live.setD D g.len hd
 refine ⟨l1,h.good,h.fit,fun e he=>?_,fun e s i x he hs hi q=>?_,fun e t y he ht' q=>?_⟩
 ·
  rw [k1]
  by_cases z:e=d
  ·
   subst z
   rw [if_pos rfl,upD_at,upD_at,upD_at,upD_at]
   exact g
  ·
   rw [if_neg z,upD_ne _ _ z,upD_ne _ _ z,upD_ne _ _ z,upD_ne _ _ z]
   exact h.dsk e he
 ·
  by_cases z:e=d
  ·
   subst z
   rw [upD_at] at q; exact hj s i x hs hi q
  ·
   rw [upD_ne _ _ z] at q; exact h.jfit e s i x he hs hi q
 ·
  by_cases z:e=d
  ·
   subst z
   rw [upD_at] at q; exact ht t y ht' q
  ·
   rw [upD_ne _ _ z] at q; exact h.sfit e t y he ht' q
end
structure MZ (R:Rck) (c:Cfg) (m:Nat) (j:Nat->Option Rcd) (f:Strs) (U sp:Nat->Bool) (jr:JR) (st:ST):Prop where
 gt:GT R c m U sp jr st
 hj:∀ d s i,d < c.n.toNat->s < c.slots.toNat->i < c.k.toNat->jr d s i=none\/jr d s i=j s
 hs:∀ d t,d < c.n.toNat->t < c.stripes.toNat->st d t=none\/st d t=f t
 zr:∀ d:Nat,d < c.n.toNat->∀ q,q < m->(R.dsk (d:Nat)).rot q=true\/Frm.get ((R.dsk (d:Nat)).read q)≠none\/(R.dsk (d:Nat)).read q=Dsk.zeros
namespace MZ
variable {R:Rck} {c:Cfg} {m:Nat} {cur:Int} {j:Nat->Option Rcd} {f:Strs} {U sp:Nat->Bool} {jr:JR} {st:ST}
theorem of_vh (h:VH R c m true j f) (hv:VI c cur j f) (hm:(m:Int)=c.sectors):MZ R c m j f (fun _=>true) (fun _=>true) (fun _ s _=>j s) fun _ t=>f t:=by
 have g:=h.gt hv
 have hc:=g.good
 have hn8:=hc.n1
 have hk8:c.k.toNat<=8:=by have:=hc.k1; omega
 refine ⟨g,fun _ _ _ _ _ _=>.inr rfl,fun _ _ _ _=>.inr rfl,fun d hd q hq=>.inr (.inl ?_)⟩
 have hD:=g.dsk d hd
 rcases sector_cases hc hm hq with rfl | ⟨s,i,hs',hi,rfl⟩ | ⟨t,ht,rfl⟩
 ·
  rw [hD.sup1 rfl,Frm.get_bytes _ (Cfg.block_ok c d hc) (Cfg.block_right c d (by omega))]; simp
 ·
  rcases e:j s with _ | x
  ·
   exact absurd e (VH.fullj hv d s i hd hs' hi)
  ·
   have hx:=(g.jfit d s i x hd hs' hi e).1
   rw [hD.jr1 s i x hs' hi e,Frm.get_bytes _ (Rcd.frm_ok x hx.ok i) (hx.right hc (by omega))]; simp
 ·
  rcases e:f t with _ | y
  ·
   exact absurd e (VH.fulls hv d t hd ht)
  ·
   have hy:=g.sfit d t y hd ht e
   rw [hD.st1 t y ht e,Frm.get_bytes _ (hy.ok hc d) (hy.right hc hd)]; simp
theorem set (h:MZ R c m j f U sp jr st) {d:Nat} (hd:d < c.n.toNat) {D:Dsk} {u s':Bool} {j':Nat->Nat->Option Rcd} {t':Nat->Option (Int × List (List Nat))} (g:GTd D d c m u s' j' t')
  (h1:∀ s i,s < c.slots.toNat->i < c.k.toNat->j' s i=none\/j' s i=jr d s i) (h2:∀ t,t < c.stripes.toNat->t' t=none\/t' t=st d t)
  (hz:∀ q,q < m->D.rot q=true\/Frm.get (D.read q)≠none\/D.read q=Dsk.zeros) :
  MZ (R.setD (d:Nat) D) c m j f (upD U d u) (upD sp d s') (upD jr d j') (upD st d t'):=by
 obtain ⟨l1,k1⟩:=h.gt.live.setD D g.len hd
 refine ⟨h.gt.setTo hd g (fun s i x hs hi e=>?_) (fun t y ht e=>?_),fun e s i he hs hi=>?_,fun e t he ht=>?_,fun e he q hq=>?_⟩
 ·
  rcases h1 s i hs hi with z | z
  ·
   rw [z] at e; cases e
  ·
   rw [z] at e; exact h.gt.jfit d s i x hd hs hi e
 ·
  rcases h2 t ht with z | z
  ·
   rw [z] at e; cases e
  ·
   rw [z] at e; exact h.gt.sfit d t y hd ht e
 ·
  by_cases z:e=d
  ·
   subst z
   rw [upD_at]
   rcases h1 s i hs hi with z | z
   ·
    exact .inl z
   ·
    rw [z]; exact h.hj e s i he hs hi
  ·
   rw [upD_ne _ _ z]; exact h.hj e s i he hs hi
 ·
  by_cases z:e=d
  ·
   subst z
   rw [upD_at]
   rcases h2 t ht with z | z
   ·
    exact .inl z
   ·
    rw [z]; exact h.hs e t he ht
  ·
   rw [upD_ne _ _ z]; exact h.hs e t he ht
 ·
  rw [k1]
  by_cases z:e=d
  ·
   rw [if_pos z]; exact hz q hq
  ·
   rw [if_neg z]; exact h.zr e he q hq
theorem blank_read {D:Dsk} {q:Nat} (hq:q < D.l.length):D.blank.read q=Dsk.zeros:=by
 unfold Dsk.blank Dsk.read
 simp [List.getD_eq_getElem?_getD,List.getElem?_replicate,hq]
theorem replace (h:MZ R c m j f U sp jr st) {d:Nat} (hd:d < c.n.toNat):MZ (R.replace (d:Nat)) c m j f (upD U d true) (upD sp d false) (upD jr d fun _ _=>none) (upD st d fun _=>none):=by
 rw [h.gt.live.replace hd]
 have hl:=(h.gt.dsk d hd).len
 exact h.set hd (GTd.fresh hl) (fun _ _ _ _=>.inl rfl) (fun _ _=>.inl rfl) fun q hq=>.inr (.inr (blank_read (by omega)))
end MZ
end Go.Proofs.YtkipjmbplmdaaaaGreatDoor
namespace Go.Proofs.YtkipjmbplmdaaaaGreatDoor
set_option linter.unusedVariables false
structure MP (R:Rck) (c:Cfg) (m:Nat) (j:Nat->Option Rcd) (f:Strs) (U sp:Nat->Bool) (jr:JR) (st:ST):Prop where
 gt:GT R c m U sp jr st
 hj:∀ d s i,d < c.n.toNat->s < c.slots.toNat->i < c.k.toNat->jr d s i=none\/jr d s i=j s
 hs:∀ d t,d < c.n.toNat->t < c.stripes.toNat->st d t=none\/st d t=f t
def hasS (c:Cfg) (st:ST) (t:Nat):Nat:=((List.range c.n.toNat).filter fun d=>(st d t).isSome).length
def upsN (c:Cfg) (U:Nat->Bool):Nat:=((List.range c.n.toNat).filter U).length
def toldS (c:Cfg) (f:Strs) (U:Nat->Bool) (st:ST) (t:Nat):List (List Nat) × Int × Option Err :=
 if (upsN c U:Int) < c.k then ([],0,some (.fault sSGet t (.no 7)))
 else if (hasS c st t:Int) < c.k then ([],0,some (.fault sSGet t (.loss t (hasS c st t) c.k)))
 else (((f t).getD (0,[])).2,((f t).getD (0,[])).1,none)
theorem parts_has {g:Nat->Option Frm} {G:Int} (hG:1<=G):∀ n,(∀ d,d < n->∀ F,g d=some F->F.gen=G)->(partsG g G n).length=((List.range n).filter fun d=>(g d).isSome).length
 | 0,_=>rfl
 | n+1,h=>by
  rw [Zbp,List.length_append,parts_has hG n (fun d hd=>h d (by omega)),List.range_succ,List.filter_append,List.length_append]
  congr 1
  rcases e:g n with _ | F
  ·
   unfold partAt; simp [e]
  ·
   have:=h n (by omega) F e
   unfold partAt
   rw [e,List.filter_cons_of_pos (by rw [e]; rfl)]
   simp only [Option.bind_some]
   rw [if_pos ⟨this,by omega⟩]
   rfl
theorem tick_of {c:Cfg} {cur:Int} {R R':Rck} {g:Int} {o:Option Err} {n:Nat} (h:Vol.group c R g=(o,n,R')) (hoff:R.off=false) (hd:(o.map Err.isDown).getD false=false) :
  Vol.tick ⟨c,cur,false⟩ R g=⟨n,o.map (.fault sMTick g),R',⟨c,cur,false⟩,(g+1) % c.groups⟩:=by
 unfold Vol.tick
 rw [if_neg (by rw [hoff]; simp),h]
 show MTick.mk n _ R' (if (o.map Err.isDown).getD false=true then _ else _) _=_
 rw [hd,if_neg (by simp)]
def okG (c:Cfg) (U:Nat->Bool) (jr:JR) (st:ST) (g:Nat):Prop :=
 g=0\/(g≠0/\g<=c.slots.toNat/\∀ i,i < c.k.toNat->∃ d,d < c.n.toNat/\jr d (g - 1) i≠none)\/(c.slots.toNat < g/\¬(upsN c U:Int) < c.k/\¬(hasS c st (g - 1 - c.slots.toNat):Int) < c.k)
namespace MP
variable {R:Rck} {c:Cfg} {m:Nat} {cur:Int} {j:Nat->Option Rcd} {f:Strs} {U sp:Nat->Bool} {jr:JR} {st:ST}
theorem on (h:MP R c m j f U sp jr st):R.online.length=upsN c U:=by rw [h.gt.online]; rfl
theorem parts (h:MP R c m j f U sp jr st) (hv:VI c cur j f) {t:Nat} (ht:t < c.stripes.toNat):(partsG (GT.sgf c st t) (newG (GT.sgf c st t) c.n.toNat) c.n.toNat).length=hasS c st t:=by
 obtain ⟨gen,l,hf,hx,_⟩:=hv.vv.str t ht
 have hst:∀ d,d < c.n.toNat->∀ y,st d t=some y->y=(gen,l):=fun d hd y e=>by
  rcases h.hs d t hd ht with q | q
  ·
   rw [q] at e; cases e
  ·
   rw [q,hf] at e; cases e; rfl
 have hgen:∀ d,d < c.n.toNat->∀ F,GT.sgf c st t d=some F->F.gen=gen:=fun d hd F e=>by
  unfold GT.sgf at e
  rcases q:st d t with _ | y
  ·
   rw [q] at e; cases e
  ·
   rw [q] at e
   have:=hst d hd y q
   subst this
   cases e; rfl
 have hiso:((List.range c.n.toNat).filter fun d=>(GT.sgf c st t d).isSome).length=hasS c st t:=by
  unfold hasS GT.sgf
  congr 1
  refine List.filter_congr fun d _=>?_
  rw [Option.isSome_map]
 by_cases hex:∃ d,d < c.n.toNat/\∃ F,GT.sgf c st t d=some F
 ·
  obtain ⟨d,hd,F,hF⟩:=hex
  rw [newG_is (G:=gen) (by have:=hx.g0; omega) (fun d F hd hF=>by rw [hgen d hd F hF]; exact Int.le_refl _) hd hF (hgen d hd F hF),parts_has hx.g0 _ hgen,hiso]
 ·
  have hno:∀ d,d < c.n.toNat->GT.sgf c st t d=none:=fun d hd=>by
   rcases e:GT.sgf c st t d with _ | F
   ·
    rfl
   ·
    exact absurd ⟨d,hd,F,e⟩ hex
  rw [parts_none _ hno,<- hiso,List.filter_eq_nil_iff.2 fun d hd=>by rw [hno d (List.mem_range.1 hd)]; simp]
  rfl
theorem slook_len (h:MP R c m j f U sp jr st) (hv:VI c cur j f) {t:Nat} (ht:t < c.stripes.toNat):(R.slook c (t:Int)).2.length=hasS c st t:=by
 rw [Super.slook h.gt.super ht (fun (d:Nat) (hd:d < c.n.toNat)=>h.gt.sg hd ht)]
 exact h.parts hv ht
theorem sget (h:MP R c m j f U sp jr st) (hv:VI c cur j f) (k4:c.k<=4) (n6:c.n<=6) {t:Nat} (ht:t < c.stripes.toNat):R.sget c (t:Int)=toldS c f U st t:=by
 obtain ⟨gen,l,hf,hx,_⟩:=hv.vv.str t ht
 have hon:=h.on
 have hst:∀ d,d < c.n.toNat->∀ y,st d t=some y->y=(gen,l):=fun d hd y e=>by
  rcases h.hs d t hd ht with q | q
  ·
   rw [q] at e; cases e
  ·
   rw [q,hf] at e; cases e; rfl
 have hg:=fun (d:Nat) (hd:d < c.n.toNat)=>h.gt.sg hd ht
 unfold toldS
 by_cases h1:(upsN c U:Int) < c.k
 ·
  rw [if_pos h1]
  exact Super.sget_few h.gt.super ht (by rw [hon]; exact h1)
 rw [if_neg h1]
 by_cases h2:(hasS c st t:Int) < c.k
 ·
  rw [if_pos h2]
  have hp:=h.parts hv ht
  have:=Super.sget_lost h.gt.super ht hg (by rw [hp]; exact h2) (by rw [hon]; omega)
  rw [hp] at this
  exact this
 ·
  rw [if_neg h2,hf]
  refine h.gt.sget_ok k4 n6 ht (y:=(gen,l)) (fun d z hd e=>?_) ?_
  ·
   have:=hst d hd z e
   subst this
   exact ⟨Int.le_refl _,fun _=>rfl⟩
  ·
   have:hasS c st t<=((List.range c.n.toNat).filter fun d=>decide (st d t=some (gen,l))).length:=filter_le fun d hd e=>by
    rcases q:st d t with _ | y
    ·
     rw [q] at e; cases e
    ·
     rw [hst d (List.mem_range.1 hd) y q]; exact decide_eq_true rfl
   have:=h.gt.good.k0
   omega
theorem jslot (h:MP R c m j f U sp jr st) {s:Nat} (hs:s < c.slots.toNat) {x:Rcd} (hx:j s=some x) :
  (∃ i,i < c.k.toNat/\(∀ d,d < c.n.toNat->jr d s i=none)/\R.jslot c (s:Int)=(Rcd.none_,false,0,some (.fault sJSlot s (.loss s 0 1)))) ∨
  ((∀ i,i < c.k.toNat->∃ d,d < c.n.toNat/\jr d s i≠none)/\∃ w q,R.jslot c (s:Int)=(x,w,q,none)):=by
 have hall:∀ d i y,d < c.n.toNat->i < c.k.toNat->jr d s i=some y->y=x:=fun d i y hd hi e=>by
  rcases h.hj d s i hd hs hi with q | q
  ·
   rw [q] at e; cases e
  ·
   rw [q,hx] at e; cases e; rfl
 rcases h.gt.jslot hs (fun d e i i' a b hd he hi hi' e1 e2 _=>(hall d i a hd hi e1).trans (hall e i' b he hi' e2).symm) with ⟨i,hi,hno,e⟩ | ⟨y,⟨d,i,hd,hi,e⟩,_,hev,q⟩
 ·
  exact .inl ⟨i,hi,hno,e⟩
 ·
  have hy:=hall d i y hd hi e
  subst hy
  refine .inr ⟨fun i hi=>?_,?_⟩
  ·
   obtain ⟨d,z,hd,e⟩:=hev i hi
   exact ⟨d,hd,by rw [e]; simp⟩
  ·
   rcases q with ⟨_,q⟩ | ⟨⟨i',hi',hno⟩,_⟩
   ·
    exact ⟨_,_,q⟩
   ·
    obtain ⟨d,z,hd,e⟩:=hev i' hi'
    exact absurd (by rw [e,hall d i' z hd hi' e]) (hno d hd)
theorem tick (h:MP R c m j f U sp jr st) (hv:VI c cur j f) (k4:c.k<=4) (n6:c.n<=6) {g:Nat} (hg:(g:Int) < c.groups) :
  (okG c U jr st g/\∃ R',Vol.tick ⟨c,cur,false⟩ R (g:Int)=⟨MS.lack c U sp jr st g,none,R',⟨c,cur,false⟩,((g:Int)+1) % c.groups⟩/\MP R' c m j f U (MS.spG U sp g) (MS.jrG c j U jr g) (MS.stG c f U st g)) ∨
  (¬okG c U jr st g/\∃ e,(e.kind=6\/e.kind=7)/\Vol.tick ⟨c,cur,false⟩ R (g:Int)=⟨0,some (.fault sMTick g e),R,⟨c,cur,false⟩,((g:Int)+1) % c.groups⟩ ∧
   (c.slots.toNat < g->¬(upsN c U:Int) < c.k->e=.fault sSGet ((g - 1 - c.slots.toNat:Nat):Int) (.loss ((g - 1 - c.slots.toNat:Nat):Int) (hasS c st (g - 1 - c.slots.toNat)) c.k))):=by
 have hc:=h.gt.good
 have hsl:=hc.sl0
 have hst:=hc.st0
 have hoff:=h.gt.live.off
 unfold Cfg.groups at hg
 by_cases h0:g=0
 ·
  subst h0
  obtain ⟨R',e,g'⟩:=h.gt.msupers
  refine .inl ⟨.inl rfl,R',?_,?_⟩
  ·
   refine tick_of (o:=none) ?_ hoff rfl
   unfold Vol.group MS.lack
   rw [if_pos rfl]
   exact (if_pos rfl).trans e
  ·
   have ej:MS.jrG c j U jr 0=jr:=by funext d s i; exact if_neg (by omega)
   have es:MS.stG c f U st 0=st:=by funext d t; exact if_neg (by omega)
   rw [ej,es]
   exact ⟨g',h.hj,h.hs⟩
 by_cases h1:g<=c.slots.toNat
 ·
  have hs:g - 1 < c.slots.toNat:=by omega
  have eg:Vol.group c R (g:Int)=R.mslot c ((g - 1:Nat):Int):=by
   unfold Vol.group
   rw [if_neg (by omega),if_pos (by omega),show (g:Int) - 1=((g - 1:Nat):Int) by omega]
  obtain ⟨x,hx,_⟩:=hv.vv.slot (g - 1) hs
  obtain ⟨hfit,hlen,_⟩:=hv.fit hs hx
  rcases h.jslot hs hx with ⟨i,hi,hno,e⟩ | ⟨hev,w,q,hjs⟩
  ·
   refine .inr ⟨fun q=>?_,.fault sJSlot ((g - 1:Nat):Int) (.loss ((g - 1:Nat):Int) 0 1),.inl rfl,?_,fun q=>by omega⟩
   ·
    rcases q with q | ⟨_,_,q⟩ | ⟨q,_⟩
    ·
     exact h0 q
    ·
     obtain ⟨d,hd,z⟩:=q i hi
     exact z (hno d hd)
    ·
     omega
   ·
    refine tick_of (o:=some _) (eg.trans ?_) hoff rfl
    unfold Rck.mslot
    rw [e]
  ·
   obtain ⟨R',e,g'⟩:=h.gt.mslot hs hfit hlen hjs fun d i hd hi=>by rw [<- hx]; exact h.hj d (g - 1) i hd hs hi
   have ej:MS.jrG c j U jr g=fun d t i=>if t=g - 1 then (if U d then some x else none) else jr d t i:=by
    funext d t i
    unfold MS.jrG
    by_cases et:t=g - 1
    ·
     rw [if_pos ⟨by omega,h1,et⟩,if_pos et,et,hx]
    ·
     rw [if_neg (fun z=>et z.2.2),if_neg et]
   have es:MS.stG c f U st g=st:=by funext d t; exact if_neg (by omega)
   have ep:MS.spG U sp g=sp:=if_neg h0
   refine .inl ⟨.inr (.inl ⟨h0,h1,hev⟩),R',?_,?_⟩
   ·
    refine tick_of (o:=none) (eg.trans (e.trans ?_)) hoff rfl
    unfold MS.lack
    rw [if_neg h0,if_pos h1]
   ·
    rw [ej,es,ep]
    refine ⟨g',fun d s i hd hs' hi=>?_,h.hs⟩
    show (if s=g - 1 then (if U d=true then some x else none) else jr d s i)=none\/(if s=g - 1 then (if U d=true then some x else none) else jr d s i)=j s
    by_cases z:s=g - 1
    ·
     rw [if_pos z,z,hx]
     split
     ·
      exact .inr rfl
     ·
      exact .inl rfl
    ·
     rw [if_neg z]; exact h.hj d s i hd hs' hi
 ·
  have ht:g - 1 - c.slots.toNat < c.stripes.toNat:=by omega
  obtain ⟨gen,l,hy,hfit,_⟩:=hv.vv.str _ ht
  have hsg:=h.sget hv k4 n6 ht
  have eg:Vol.group c R (g:Int)=R.mstripe c ((g - 1 - c.slots.toNat:Nat):Int):=by
   unfold Vol.group
   rw [if_neg (by omega),if_neg (by omega),show (g:Int) - 1 - c.slots=((g - 1 - c.slots.toNat:Nat):Int) by omega]
  unfold toldS at hsg
  by_cases q1:(upsN c U:Int) < c.k
  ·
   rw [if_pos q1] at hsg
   refine .inr ⟨fun q=>?_,.fault sSGet ((g - 1 - c.slots.toNat:Nat):Int) (.no 7),.inr rfl,?_,fun _ q=>absurd q1 q⟩
   ·
    rcases q with q | ⟨_,q,_⟩ | ⟨_,q,_⟩
    ·
     exact h0 q
    ·
     exact h1 q
    ·
     exact q q1
   ·
    refine tick_of (o:=some _) (eg.trans ?_) hoff rfl
    unfold Rck.mstripe
    rw [hsg]
  rw [if_neg q1] at hsg
  by_cases q2:(hasS c st (g - 1 - c.slots.toNat):Int) < c.k
  ·
   rw [if_pos q2] at hsg
   refine .inr ⟨fun q=>?_,.fault sSGet ((g - 1 - c.slots.toNat:Nat):Int) (.loss ((g - 1 - c.slots.toNat:Nat):Int) (hasS c st (g - 1 - c.slots.toNat)) c.k),.inl rfl,?_,fun _ _=>rfl⟩
   ·
    rcases q with q | ⟨_,q,_⟩ | ⟨_,_,q⟩
    ·
     exact h0 q
    ·
     exact h1 q
    ·
     exact q q2
   ·
    refine tick_of (o:=some _) (eg.trans ?_) hoff rfl
    unfold Rck.mstripe
    rw [hsg]
  rw [if_neg q2,hy] at hsg
  obtain ⟨R',e,g'⟩:=h.gt.mstripe hfit hsg fun d hd=>by rw [<- hy]; exact h.hs d _ hd ht
  have es:MS.stG c f U st g=fun d t=>if t=g - 1 - c.slots.toNat then (if U d then some (gen,l) else none) else st d t:=by
   funext d t
   unfold MS.stG
   by_cases et:t=g - 1 - c.slots.toNat
   ·
    rw [if_pos ⟨by omega,et⟩,if_pos et,et,hy]
   ·
    rw [if_neg (fun z=>et z.2),if_neg et]
  have ej:MS.jrG c j U jr g=jr:=by funext d s i; exact if_neg (by omega)
  have ep:MS.spG U sp g=sp:=if_neg h0
  refine .inl ⟨.inr (.inr ⟨by omega,q1,q2⟩),R',?_,?_⟩
  ·
   refine tick_of (o:=none) (eg.trans (e.trans ?_)) hoff rfl
   unfold MS.lack
   rw [if_neg h0,if_neg h1]
  ·
   rw [es,ej,ep]
   refine ⟨g',h.hj,fun d t hd ht'=>?_⟩
   show (if t=g - 1 - c.slots.toNat then (if U d=true then some (gen,l) else none) else st d t)=none\/(if t=g - 1 - c.slots.toNat then (if U d=true then some (gen,l) else none) else st d t)=f t
   by_cases z:t=g - 1 - c.slots.toNat
   ·
    rw [if_pos z,z,hy]
    split
    ·
     exact .inr rfl
    ·
     exact .inl rfl
   ·
    rw [if_neg z]; exact h.hs d t hd ht'
end MP
end Go.Proofs.YtkipjmbplmdaaaaGreatDoor
