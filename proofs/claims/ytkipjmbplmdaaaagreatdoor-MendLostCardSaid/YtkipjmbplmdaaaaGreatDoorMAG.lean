/- Texts of one proof, joined: MendLost, MendLostB, MendFull. -/
import Derived.Test.YtkipjmbplmdaaaaGreatDoorMAB
import Derived.Test.YtkipjmbplmdaaaaGreatDoorMAC
import Derived.Test.YtkipjmbplmdaaaaGreatDoorMAD
import Derived.Test.YtkipjmbplmdaaaaGreatDoorMO
set_option linter.unusedVariables false
set_option linter.unusedSimpArgs false
namespace Go.Proofs.YtkipjmbplmdaaaaGreatDoor
set_option linter.unusedVariables false
section
variable {R:Rck} {c:Cfg} {m:Nat} {x q:Nat} {f:Strs} {jr:JR} {st:ST}
theorem GT.rot2 {A X:Nat} (hA:A<=124) (hX1:1<=X) (hX2:X < 256) (h:GT R c m (fun _=>true) (fun _=>true) jr st) (hm:(m:Int)=c.sectors) {d:Nat} (hd:d < c.n.toNat) (hx:x < c.stripes.toNat) {y:Int × List (List Nat)} (hy:st d x=some y) :
  R.rotOk (d:Int) (ssecN c x:Nat) A X=true/\GT (R.rot (d:Int) (ssecN c x:Nat) A X) c m (fun _=>true) (fun _=>true) jr (fun e t=>if e=d/\t=x then none else st e t):=by
 have hc:=h.good
 have hD:=h.dsk d hd
 have hlt:=Zay hc h.fit hx
 have hs:=h.sfit d x y hd hx hy
 have hfr:=hD.st1 x y hx hy
 have hnr:(R.dsk (d:Nat)).rot (ssecN c x)=false:=by
  rcases e:(R.dsk (d:Nat)).rot (ssecN c x) with _ | _
  ·
   rfl
  ·
   have:=hD.rot _ e
   rw [hfr,hs.get hc hd] at this; cases this
 have hok:R.rotOk (d:Int) (ssecN c x:Nat) A X=true:=by
  unfold Rck.rotOk Dsk.rotOk
  rw [h.live.has hd,hD.dead,hD.len,Int.toNat_natCast,hnr]
  simp
  omega
 refine ⟨hok,?_⟩
 have er:R.rot (d:Int) (ssecN c x:Nat) A X=R.setD (d:Nat) ((R.dsk (d:Nat)).rotted (ssecN c x) A X):=by
  unfold Rck.rot
  rw [if_pos hok]; rfl
 rw [er]
 obtain ⟨l1,l2⟩:=h.live.setD (i:=d) ((R.dsk (d:Nat)).rotted (ssecN c x) A X) (by rw [Dsk.rotted_len]; exact hD.len) hd
 have hrd:∀ q,((R.dsk (d:Nat)).rotted (ssecN c x) A X).read q=if q=ssecN c x then Dsk.xor4 ((R.dsk (d:Nat)).read (ssecN c x)) A X else (R.dsk (d:Nat)).read q:=fun q=>Dsk.rotted_read _ _ A X q (by rw [hD.len]; exact hlt) (hD.waits _)
 have bad:Frm.get (Dsk.xor4 ((R.dsk (d:Nat)).read (ssecN c x)) A X)=none:=by
  rw [hfr]
  exact Frm.get_rot _ (hs.ok hc d) (hs.right hc hd) A X hA (by omega) (by omega)
 refine ⟨l1,hc,h.fit,fun e he=>?_,h.jfit,fun e t z he ht q=>?_⟩
 ·
  rw [l2 e]
  by_cases q:e=d
  ·
   subst q
   rw [if_pos rfl]
   refine ⟨by rw [Dsk.rotted_len]; exact hD.len,hD.dead,hD.waits,fun q hq=>?_,fun q hq=>?_,fun _=>?_,fun z=>(by cases z),fun s i z hs' hi q=>?_,fun s i hs' hi q=>?_,fun t z ht q=>?_,fun t ht q=>?_,fun z=>(by cases z)⟩
   ·
    rw [hrd]
    by_cases z:q=ssecN c x
    ·
     rw [if_pos z]; exact bad
    ·
     rw [if_neg z]
     have hq:(if q=ssecN c x then true else (R.dsk (e:Nat)).rot q)=true:=hq
     rw [if_neg z] at hq
     exact hD.rot q hq
   ·
    show (if q=ssecN c x then true else (R.dsk (e:Nat)).rot q)=false
    rw [if_neg (by omega)]; exact hD.rotm q hq
   ·
    rw [hrd,if_neg (fun z=>Zcb c x z.symm)]; exact hD.sup1 rfl
   ·
    rw [hrd,if_neg (Zbn hs' hi)]; exact hD.jr1 s i z hs' hi q
   ·
    rw [hrd,if_neg (Zbn hs' hi)]; exact hD.jr0 s i hs' hi q
   ·
    have q:(if e=e/\t=x then none else st e t)=some z:=q
    by_cases w:t=x
    ·
     rw [if_pos ⟨rfl,w⟩] at q; cases q
    ·
     rw [if_neg (fun v=>w v.2)] at q
     rw [hrd,if_neg (fun v=>w (Zcg v))]; exact hD.st1 t z ht q
   ·
    have q:(if e=e/\t=x then none else st e t)=none:=q
    by_cases w:t=x
    ·
     rw [hrd,if_pos (by rw [w])]; exact bad
    ·
     rw [if_neg (fun v=>w v.2)] at q
     rw [hrd,if_neg (fun v=>w (Zcg v))]; exact hD.st0 t ht q
  ·
   rw [if_neg q]
   have hE:=h.dsk e he
   exact ⟨hE.len,hE.dead,hE.waits,hE.rot,hE.rotm,hE.sup1,hE.sup0,hE.jr1,hE.jr0,fun t z ht w=>hE.st1 t z ht (by
    have w:(if e=d/\t=x then none else st e t)=some z:=w
    rw [if_neg (fun v=>q v.1)] at w; exact w),fun t ht w=>hE.st0 t ht (by
    have w:(if e=d/\t=x then none else st e t)=none:=w
    rw [if_neg (fun v=>q v.1)] at w; exact w),fun z=>(by cases z)⟩
 ·
  have q:(if e=d/\t=x then none else st e t)=some z:=q
  split at q
  ·
   cases q
  ·
   exact h.sfit e t z he ht q
end
end Go.Proofs.YtkipjmbplmdaaaaGreatDoor
namespace Go.Proofs.YtkipjmbplmdaaaaGreatDoor
set_option linter.unusedVariables false
def rotW (x nk q i e t:Nat):Prop:=(e < q/\(t=x\/e < nk))\/(e=q/\t < i/\(t=x\/e < nk))
instance (x nk q i e t:Nat):Decidable (rotW x nk q i e t):=by unfold rotW; infer_instance
def LS (f:Strs) (x nk q i:Nat):ST:=fun e t=>if rotW x nk q i e t then none else f t
theorem LS_none {f:Strs} {x nk:Nat}:LS f x nk 0 0=fun _ t=>f t:=by
 funext e t
 exact if_neg (by unfold rotW; omega)
theorem LS_skip {f:Strs} {x nk q i:Nat} (h:¬(i=x\/q < nk)):LS f x nk q (i+1)=LS f x nk q i:=by
 funext e t
 unfold LS
 have:rotW x nk q (i+1) e t↔rotW x nk q i e t:=by unfold rotW; omega
 simp only [this]
theorem LS_rot {f:Strs} {x nk q i:Nat} (h:i=x\/q < nk):(fun e t=>if e=q/\t=i then none else LS f x nk q i e t)=LS f x nk q (i+1):=by
 funext e t
 unfold LS
 by_cases z:e=q/\t=i
 ·
  rw [if_pos z,if_pos (by unfold rotW; omega)]
 ·
  rw [if_neg z]
  have:rotW x nk q (i+1) e t↔rotW x nk q i e t:=by unfold rotW; omega
  simp only [this]
theorem LS_line {f:Strs} {x nk q m e t:Nat} (ht:t < m):LS f x nk q m e t=LS f x nk (q+1) 0 e t:=by
 unfold LS
 have:rotW x nk q m e t↔rotW x nk (q+1) 0 e t:=by unfold rotW; omega
 simp only [this]
theorem LS_at {f:Strs} {x nk q i:Nat}:LS f x nk q i q i=f i:=if_neg (by unfold rotW; omega)
section
variable {R:Rck} {c:Cfg} {m:Nat} {cur:Int} {j:Nat->Option Rcd} {f:Strs} {x nk q i:Nat} {st:ST}
structure LR (R:Rck) (c:Cfg) (m:Nat) (j:Nat->Option Rcd) (st:ST):Prop where
 gt:GT R c m (fun _=>true) (fun _=>true) (fun _ s _=>j s) st
theorem LR.start (h:VH R c m true j f) (hv:VI c cur j f):LR R c m j (LS f x nk 0 0):=⟨by rw [LS_none]; exact h.gt hv⟩
theorem LR.rot (h:LR R c m j (LS f x nk q i)) (hv:VI c cur j f) (hm:(m:Int)=c.sectors) (hq:q < c.n.toNat) (hi:i < c.stripes.toNat) (hx:i=x\/q < nk) :
  R.rotOk (q:Int) (ssecN c i:Nat) 9 1=true/\LR (R.rot (q:Int) (ssecN c i:Nat) 9 1) c m j (LS f x nk q (i+1)):=by
 obtain ⟨gen,l,hf,_⟩:=hv.vv.str i hi
 obtain ⟨h1,h2⟩:=h.gt.rot2 (A:=9) (X:=1) (by omega) (by omega) (by omega) hm hq hi (y:=(gen,l)) (LS_at.trans hf)
 rw [LS_rot hx] at h2
 exact ⟨h1,⟨h2⟩⟩
theorem LR.skip (h:LR R c m j (LS f x nk q i)) (hx:¬(i=x\/q < nk)):LR R c m j (LS f x nk q (i+1)):=by rw [LS_skip hx]; exact h
theorem GTd.congrS {D:Dsk} {d:Nat} {u sp:Bool} {jr:Nat->Nat->Option Rcd} {s1 s2:Nat->Option (Int × List (List Nat))} (h:GTd D d c m u sp jr s1) (hu:u=true) (e:∀ t,t < c.stripes.toNat->s1 t=s2 t):GTd D d c m u sp jr s2 :=
 ⟨h.len,h.dead,h.waits,h.rot,h.rotm,h.sup1,h.sup0,h.jr1,h.jr0,fun t y ht q=>h.st1 t y ht (by rw [e t ht]; exact q),fun t ht q=>h.st0 t ht (by rw [e t ht]; exact q),fun q=>by rw [hu] at q; cases q⟩
theorem LR.line (h:LR R c m j (LS f x nk q c.stripes.toNat)):LR R c m j (LS f x nk (q+1) 0) :=
 ⟨⟨h.gt.live,h.gt.good,h.gt.fit,fun d hd=>(h.gt.dsk d hd).congrS rfl fun t ht=>LS_line ht,h.gt.jfit,fun d t y hd ht e=>h.gt.sfit d t y hd ht (by rw [LS_line ht]; exact e)⟩⟩
structure LT (R:Rck) (c:Cfg) (m:Nat) (j:Nat->Option Rcd) (f:Strs) (x:Nat) (st:ST):Prop where
 mp:MP R c m j f (fun _=>true) (fun _=>true) (fun _ s _=>j s) st
 sx:hasS c st x=c.k.toNat - 1
 so:∀ t,t < c.stripes.toNat->t≠x->c.k.toNat<=hasS c st t
theorem cnt_from {q:Nat}:∀ n,((List.range n).filter fun e=>decide (¬e < q)).length=n - q
 | 0=>by simp
 | n+1=>by
  rw [List.range_succ,List.filter_append,List.length_append,cnt_from n]
  by_cases h:n < q
  ·
   rw [List.filter_cons_of_neg (by simpa using h)]; simp; omega
  ·
   rw [List.filter_cons_of_pos (by simpa using h)]; simp; omega
theorem LR.done (h:LR R c m j (LS f x nk (nk+1) 0)) (hv:VI c cur j f) (hnk:nk+c.k.toNat=c.n.toNat) (hx:x < c.stripes.toNat):LT R c m j f x (LS f x nk (nk+1) 0):=by
 have hk:=h.gt.k0
 have hsome:∀ t,t < c.stripes.toNat->∀ e,(LS f x nk (nk+1) 0 e t).isSome=decide (¬e < if t=x then nk+1 else nk):=fun t ht e=>by
  obtain ⟨gen,l,hf,_⟩:=hv.vv.str t ht
  unfold LS
  by_cases z:rotW x nk (nk+1) 0 e t
  ·
   rw [if_pos z,decide_eq_false]
   ·
    rfl
   ·
    unfold rotW at z; split<;>omega
  ·
   rw [if_neg z,hf,decide_eq_true]
   ·
    rfl
   ·
    unfold rotW at z; split<;>omega
 have hcnt:∀ t,t < c.stripes.toNat->hasS c (LS f x nk (nk+1) 0) t=c.n.toNat - if t=x then nk+1 else nk:=fun t ht=>by
  unfold hasS
  rw [List.filter_congr fun e _=>hsome t ht e]
  exact cnt_from _
 refine ⟨⟨h.gt,fun _ _ _ _ _ _=>.inr rfl,fun d t _ _=>?_⟩,?_,fun t ht hne=>?_⟩
 ·
  unfold LS
  split
  ·
   exact .inl rfl
  ·
   exact .inr rfl
 ·
  rw [hcnt x hx,if_pos rfl]; omega
 ·
  rw [hcnt t ht,if_neg hne]; omega
theorem hasS_congr {s1 s2:ST} {t:Nat} (h:∀ d,s1 d t=s2 d t):hasS c s1 t=hasS c s2 t:=by
 unfold hasS
 simp only [h]
theorem LT.tick (h:LT R c m j f x st) (hv:VI c cur j f) (k4:c.k<=4) (n6:c.n<=6) (hx:x < c.stripes.toNat) {g:Nat} (hg:(g:Int) < c.groups) :
  ∃ R' n st',Vol.tick ⟨c,cur,false⟩ R (g:Int)=⟨n,if g=1+c.slots.toNat+x then some (.fault sMTick g (.fault sSGet x (.loss x (c.k - 1) c.k))) else none,R',⟨c,cur,false⟩,((g:Int)+1) % c.groups⟩/\LT R' c m j f x st' ∧
   (∀ t,t < c.stripes.toNat->t≠x->(∀ d,d < c.n.toNat->st d t=f t)->∀ d,d < c.n.toNat->st' d t=f t)/\(c.slots.toNat < g->g≠1+c.slots.toNat+x->∀ d,d < c.n.toNat->st' d (g - 1 - c.slots.toNat)=f (g - 1 - c.slots.toNat)):=by
 have hc:=h.mp.gt.good
 have hsl:=hc.sl0
 have hst:=hc.st0
 have hk0:=hc.k0
 have hk1:=hc.k1
 have hups:¬(upsN c (fun _=>true):Int) < c.k:=by
  unfold upsN
  rw [List.filter_eq_self.2 fun _ _=>rfl,List.length_range]; omega
 have hgs:(c.groups:Int)=1+c.slots+c.stripes:=rfl
 rcases h.mp.tick hv k4 n6 hg with ⟨ho,R',e,h'⟩ | ⟨ho,er,hk,e,hex⟩
 ·
  have ej:MS.jrG c j (fun _=>true) (fun _ s _=>j s) g=fun _ s _=>j s:=by
   funext d s i
   unfold MS.jrG
   split
   ·
    rfl
   ·
    rfl
  have ep:MS.spG (fun _=>true) (fun _=>true) g=fun _=>true:=by
   unfold MS.spG
   split<;>rfl
  rw [ej,ep] at h'
  have hgx:g≠1+c.slots.toNat+x:=fun q=>by
   rcases ho with z | ⟨_,z,_⟩ | ⟨_,_,z⟩
   ·
    omega
   ·
    omega
   ·
    rw [show g - 1 - c.slots.toNat=x by omega,h.sx] at z
    have:=h.mp.gt.k0
    omega
  have hstx:∀ d t,(c.slots.toNat < g/\t=g - 1 - c.slots.toNat->False)->MS.stG c f (fun _=>true) st g d t=st d t:=fun d t q=>if_neg q
  have hsty:∀ d t,(c.slots.toNat < g/\t=g - 1 - c.slots.toNat)->MS.stG c f (fun _=>true) st g d t=f t:=fun d t q=>by unfold MS.stG; rw [if_pos q,if_pos rfl]
  refine ⟨R',_,_,by rw [if_neg hgx]; exact e,⟨h',?_,fun t ht hne=>?_⟩,fun t ht hne hw d hd=>?_,fun hs hne d hd=>hsty d _ ⟨hs,rfl⟩⟩
  ·
   rw [hasS_congr fun d=>hstx d x (by omega)]; exact h.sx
  ·
   by_cases z:c.slots.toNat < g/\t=g - 1 - c.slots.toNat
   ·
    obtain ⟨gen,l,hf,_⟩:=hv.vv.str t ht
    unfold hasS
    rw [List.filter_eq_self.2 fun d _=>by rw [hsty d t z,hf]; rfl,List.length_range]
    omega
   ·
    rw [hasS_congr fun d=>hstx d t z]; exact h.so t ht hne
  ·
   by_cases z:c.slots.toNat < g/\t=g - 1 - c.slots.toNat
   ·
    exact hsty d t z
   ·
    rw [hstx d t z]; exact hw d hd
 ·
  have hgx:g=1+c.slots.toNat+x:=by
   rcases Nat.lt_or_ge c.slots.toNat g with q | q
   ·
    rcases Nat.lt_trichotomy (g - 1 - c.slots.toNat) x with z | z | z
    ·
     exact absurd (.inr (.inr ⟨q,hups,by have:=h.so (g - 1 - c.slots.toNat) (by omega) (by omega); omega⟩)) ho
    ·
     omega
    ·
     exact absurd (.inr (.inr ⟨q,hups,by have:=h.so (g - 1 - c.slots.toNat) (by omega) (by omega); omega⟩)) ho
   ·
    rcases Nat.eq_zero_or_pos g with z | z
    ·
     exact absurd (.inl z) ho
    ·
     exact absurd (.inr (.inl ⟨by omega,q,fun i hi=>⟨0,h.mp.gt.n0,VH.fullj hv 0 (g - 1) i h.mp.gt.n0 (by omega) hi⟩⟩)) ho
  have e2:=hex (by omega) hups
  have e3:g - 1 - c.slots.toNat=x:=by omega
  rw [e3,h.sx] at e2
  have e4:((c.k.toNat - 1:Nat):Int)=c.k - 1:=by omega
  rw [e4] at e2
  rw [e2] at e
  exact ⟨R,0,st,by rw [if_pos hgx]; exact e,h,fun t ht hne hw=>hw,fun _ q=>absurd hgx q⟩
theorem LT.parts (h:LT R c m j f x st) (hv:VI c cur j f) {t:Nat} (ht:t < c.stripes.toNat):(t=x->(R.slook c (t:Int)).2.length=c.k.toNat - 1)/\((∀ d,d < c.n.toNat->st d t=f t)->(R.slook c (t:Int)).2.length=c.n.toNat):=by
 refine ⟨fun e=>?_,fun hw=>?_⟩
 ·
  rw [h.mp.slook_len hv ht,e]; exact h.sx
 ·
  obtain ⟨gen,l,hf,_⟩:=hv.vv.str t ht
  rw [h.mp.slook_len hv ht]
  unfold hasS
  rw [List.filter_eq_self.2 fun d hd=>by rw [hw d (List.mem_range.1 hd),hf]; rfl,List.length_range]
theorem LT.online (h:LT R c m j f x st):R.online.length=c.n.toNat:=by
 rw [h.mp.gt.online,List.filter_eq_self.2 fun _ _=>rfl,List.length_range]
end
end Go.Proofs.YtkipjmbplmdaaaaGreatDoor
namespace Go.Proofs.YtkipjmbplmdaaaaGreatDoor
set_option linter.unusedVariables false
open Go Go.RowKit
set_option maxRecDepth 100000 in
set_option maxHeartbeats 1000000 in
theorem mwhole_c {S:Nat->Prop} {w:World} {r:Nat} {R:Rck} (h:RackAt S w r R) (c:Cfg) (s:Int) :
  Calls Tryz.prog 16 #[.pointer (some ⟨r,0,none⟩),.agg (Cfg.A c),.int .i64 s] w fun e w'=>e=.returned (.bool (((R.slook c s).2.length:Int) == (R.online.length:Int)))/\Ext w w':=by
 obtain ⟨W1,hW1⟩:∃ W,w.alloc (.cells (Cfg.A c) 23)=W:=⟨_,rfl⟩
 have X1:=hid (show Ext w W1 from hW1▸(Ext.refl w).alloc _)
 have B1:=hid (show W1.heap[w.heap.size]?=some (.cells (Cfg.A c) 23 (0,0)) from hW1▸heap_alloc_new _ _)
 have H1:=hid (h.ext X1.out)
 clear h
 go_enter Tryz.func16,Tryz.ntmps16
 go_wp2_with (guard_target=wpList _ _ _ (⟨some _,Op.load _ _,_,_,_,none⟩::_) _ _; refine Zac rfl 23 _ rfl ⟨w.heap.size,0,none⟩ rfl (Cfg.A c) (Zap c) (Zaf B1.out) ?_)
 have hl:=slook_c H1.out c s
 rcases hsl:R.slook c s with ⟨G,ps⟩
 unfold LookPost at hl
 rw [hsl] at hl
 simp only at hl
 refine hl.mono ?_
 have HSL:=hid hsl
 clear hl hsl
 rintro e w2 ⟨v,rfl,hlk⟩
 obtain ⟨pa,pcp,rfl,_⟩:=hlk.parts
 have X2:=hid (Ext.trans X1.out hlk.ext)
 have H2:=hid (H1.out.ext hlk.ext)
 clear hlk hW1
 go_wp2_with fail
 refine (Zbi H2.out).mono ?_
 rintro e w3 ⟨v,rfl,hown,x3⟩
 obtain ⟨oa,oc,rfl,_⟩:=hown.slice
 have X3:=hid (Ext.trans X2.out x3)
 clear hown x3
 go_wp2
 go_ret
 rw [HSL.out]
 exact ⟨rfl,X3.out⟩
end Go.Proofs.YtkipjmbplmdaaaaGreatDoor
