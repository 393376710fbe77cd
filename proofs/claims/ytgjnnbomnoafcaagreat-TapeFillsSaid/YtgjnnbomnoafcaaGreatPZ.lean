/- Texts of one proof, joined: CutA, CutB, Wear, CutC. -/
import Derived.Test.YtgjnnbomnoafcaaGreatPY
import Derived.Test.YtgjnnbomnoafcaaGreatPX
set_option linter.unusedVariables false
set_option linter.unusedSimpArgs false
namespace Go.Proofs.YtgjnnbomnoafcaaGreat
set_option linter.unusedVariables false
structure GF (R:Rck) (c:Cfg) (m:Nat) (F:Int) (J:Nat->Rcd->Prop) (S:Nat->Int × List (List Nat)->Prop):Prop where
 pc:PC R c m J S
 good:c.Good
 fit:c.sectors<=(m:Int)
 pow:Pow R c.n.toNat m F
 idle:∀ d:Nat,d < c.n.toNat->∀ q,(R.dsk (d:Nat)).waits q=none
def Rck.calm (R:Rck):Rck:={ R with fuse:=-1 }
theorem Rck.calm_sget (R:Rck) (c:Cfg) (s:Int):R.calm.sget c s=R.sget c s:=rfl
theorem Rck.calm_online (R:Rck):R.calm.online=R.online:=rfl
namespace GF
variable {R:Rck} {c:Cfg} {m:Nat} {F:Int} {J J':Nat->Rcd->Prop} {S S':Nat->Int × List (List Nat)->Prop}
theorem mono (h:GF R c m F J S) (hJ:∀ s x,s < c.slots.toNat->J s x->J' s x) (hS:∀ s y,s < c.stripes.toNat->S s y->S' s y):GF R c m F J' S':=⟨h.pc.mono (fun s x hs hx=>⟨x,hJ s x hs hx,fun _ _=>rfl⟩) hS,h.good,h.fit,h.pow,h.idle⟩
theorem gh (h:GF R c m F J S):GH R.calm c m J S:=⟨h.pc.of_l rfl,h.good,h.fit,⟨h.pow.len,h.pow.secs,h.pow.off,rfl,h.pow.pos⟩,h.idle⟩
theorem super (h:GF R c m F J S):Super R.calm c m:=⟨h.gh.live,h.good,h.fit⟩
theorem fits (h:GF R c m F J S):R.fits c=true:=h.super.fits
theorem jput (h:GF R c m F J S) {slot:Nat} {x:Rcd} (hs:slot < c.slots.toNat) (hx:x.Fit c slot) :
  ((F < 0\/((c.n.toNat*c.k.toNat+c.n.toNat:Nat):Int)<=F)->∃ R',R.jput c (slot:Int) x=(none,R')/\GF R' c m (burn F (c.n.toNat*c.k.toNat+c.n.toNat)) (fun s y=>if s=slot then y=x else J s y) S) ∧
  (0<=F->F < ((c.n.toNat*c.k.toNat+c.n.toNat:Nat):Int)->∃ e R',R.jput c (slot:Int) x=(some e,R')/\PC R' c m (fun s y=>J s y\/(s=slot/\y=x)) S):=by
 obtain ⟨d1,d2⟩:=does_put h.good h.fit hs hx R F h.pow
 constructor
 ·
  intro hF
  obtain ⟨R',a1,a2,a3⟩:=d1 hF
  refine ⟨R',a1,⟨a2.len,fun d hd=>?_⟩,h.good,h.fit,a2,fun d hd q=>by rw [a3 d hd]; rfl⟩
  have hD:=h.pc.dsk d hd
  rw [a3 d hd]
  have base:∀ q,q < m->Pc c d (fun s y=>if s=slot then y=x else J s y) S q (((R.dsk (d:Nat)).jw c slot x).flush.read q):=fun q hq=>by
   have hr:=hD.read hq
   by_cases hw:∃ i,i < c.k.toNat/\q=jsecN c slot i
   ·
    obtain ⟨i,hi,rfl⟩:=hw
    rw [Dsk.jwf_at _ hi (by rw [hD.len]; exact hq)]
    exact Pc.slot hs hi (by rw [if_pos rfl])
   ·
    rw [Dsk.jwf_ne _ (by rw [hD.len]; exact hq) fun i hi e=>hw ⟨i,hi,e⟩]
    refine ⟨hr.sup,fun s i hs' hi e=>?_,hr.st⟩
    obtain ⟨y,h1,h2⟩:=hr.jr s i hs' hi e
    refine ⟨y,?_,h2⟩
    rw [if_neg (fun z=>hw ⟨i,hi,by rw [e,z]⟩)]; exact h1
  refine ⟨by rw [Dsk.jwf_len]; exact hD.len,by rw [Dsk.jwf_dead]; exact hD.alive,fun q=>Dsk.jwf_rot _ q (hD.rot q),fun q hq=>?_,fun q b hb=>by cases hb⟩
  have e:((R.dsk (d:Nat)).jw c slot x).flush.l.getD q []=((R.dsk (d:Nat)).jw c slot x).flush.read q:=rfl
  rw [e]; exact base q hq
 ·
  intro h0 h1
  obtain ⟨e,R',a1⟩:=d2 h0 h1
  have a1:R.jput c (slot:Int) x=(some e,R'):=a1
  refine ⟨e,R',a1,?_⟩
  have:=(h.pc.mono (J':=fun s y=>J s y\/(s=slot/\y=x)) (F':=S) (fun s y _ hy=>⟨y,.inl hy,fun _ _=>rfl⟩) fun _ _ _ q=>q).jput h.good hs hx (.inr ⟨rfl,rfl⟩)
  rw [a1] at this; exact this
theorem sputs (h:GF R c m F J S) {s:Nat} {gen:Int} {l:List (List Nat)} (hx:SFit c s gen l) :
  ((F < 0\/((c.n.toNat+c.n.toNat:Nat):Int)<=F)->∃ R',R.sput c (s:Int) gen l=(none,R')/\GF R' c m (burn F (c.n.toNat+c.n.toNat)) J (fun t y=>if t=s then y=(gen,l) else S t y)) ∧
  (0<=F->F < ((c.n.toNat+c.n.toNat:Nat):Int)->∃ e R',R.sput c (s:Int) gen l=(some e,R')/\PC R' c m J (fun t y=>S t y\/(t=s/\y=(gen,l)))):=by
 obtain ⟨d1,d2⟩:=does_sput h.good h.fit hx R F h.pow
 have hok:R.sputOk c (s:Int) gen l=true:=by
  unfold Rck.sputOk
  rw [show R.sknown c (s:Int)=true from h.super.sknown hx.st]
  simp only [Bool.true_and,Bool.and_eq_true,decide_eq_true_eq]
  exact ⟨⟨hx.g0,hx.g1⟩,hx.lenk h.good⟩
 have eq:R.sput c (s:Int) gen l=((R.sputs c (s:Int) gen l).1.map (.fault sSPut s),(R.sputs c (s:Int) gen l).2):=by
  unfold Rck.sput
  rw [if_pos hok]
 constructor
 ·
  intro hF
  obtain ⟨R',a1,a2,a3⟩:=d1 hF
  have a1:R.sputs c (s:Int) gen l=(none,R'):=a1
  refine ⟨R',by rw [eq,a1]; rfl,⟨a2.len,fun d hd=>?_⟩,h.good,h.fit,a2,fun d hd q=>by rw [a3 d hd]; rfl⟩
  have hD:=h.pc.dsk d hd
  rw [a3 d hd]
  have base:∀ q,q < m->Pc c d J (fun t y=>if t=s then y=(gen,l) else S t y) q (((R.dsk (d:Nat)).sw c s gen l d).flush.read q):=fun q hq=>by
   have hr:=hD.read hq
   rw [Dsk.sw_read _ d q (by rw [hD.len]; exact hq)]
   by_cases e:q=ssecN c s
   ·
    rw [if_pos e,e]
    exact Pc.stripe (y:=(gen,l)) (by rw [if_pos rfl])
   ·
    rw [if_neg e]
    refine ⟨hr.sup,hr.jr,fun t ht q2=>?_⟩
    obtain ⟨y,h1,h2⟩:=hr.st t ht q2
    exact ⟨y,by rw [if_neg (fun z=>e (by rw [q2,z]))]; exact h1,h2⟩
  refine ⟨by rw [Dsk.sw_len]; exact hD.len,by rw [Dsk.sw_dead]; exact hD.alive,fun q=>Dsk.sw_rot _ d q (hD.rot q),fun q hq=>?_,fun q b hb=>by cases hb⟩
  have e:((R.dsk (d:Nat)).sw c s gen l d).flush.l.getD q []=((R.dsk (d:Nat)).sw c s gen l d).flush.read q:=rfl
  rw [e]; exact base q hq
 ·
  intro h0 h1
  obtain ⟨e,R',a1⟩:=d2 h0 h1
  have a1:R.sputs c (s:Int) gen l=(some e,R'):=a1
  refine ⟨.fault sSPut s e,R',by rw [eq,a1]; rfl,?_⟩
  have:=(h.pc.mono (J':=J) (F':=fun t y=>S t y\/(t=s/\y=(gen,l))) (fun s y _ hy=>⟨y,hy,fun _ _=>rfl⟩) fun _ _ _ q=>.inl q).sputs h.good hx (.inr ⟨rfl,rfl⟩)
  rw [a1] at this; exact this
theorem log (h:GF R c m F J S) {slot:Nat} {x:Rcd} (hs:slot < c.slots.toNat) (hx:x.Fit c slot) (h2:2<=x.seq) (hl:(x.blocks.length:Int)=c.k) :
  ((F < 0\/((c.n.toNat*c.k.toNat+c.n.toNat:Nat):Int)<=F)->∃ R',R.jlog c x=(none,R')/\GF R' c m (burn F (c.n.toNat*c.k.toNat+c.n.toNat)) (fun s y=>if s=slot then y=x else J s y) S) ∧
  (0<=F->F < ((c.n.toNat*c.k.toNat+c.n.toNat:Nat):Int)->∃ e R',R.jlog c x=(some e,R')/\PC R' c m (fun s y=>J s y\/(s=slot/\y=x)) S):=by
 have hr:x.seq % c.slots=slot:=by
  rcases hx.ring with q | q
  ·
   omega
  ·
   exact q.2
 have eq:R.jlog c x=((R.jput c (slot:Int) x).1.map (.fault sJLog x.seq),(R.jput c (slot:Int) x).2):=by
  unfold Rck.jlog
  rw [if_pos,hr]
  unfold Rck.jlogOk
  rw [h.fits]
  simp only [Bool.true_and,Bool.and_eq_true,decide_eq_true_eq]
  exact ⟨⟨⟨⟨h2,hx.seq1⟩,hx.st0⟩,hx.st1⟩,hl⟩
 obtain ⟨d1,d2⟩:=h.jput hs hx
 refine ⟨fun hF=>?_,fun h0 h1=>?_⟩
 ·
  obtain ⟨R',a1,a2⟩:=d1 hF
  exact ⟨R',by rw [eq,a1]; rfl,a2⟩
 ·
  obtain ⟨e,R',a1,a2⟩:=d2 h0 h1
  exact ⟨.fault sJLog x.seq e,R',by rw [eq,a1]; rfl,a2⟩
end GF
end Go.Proofs.YtgjnnbomnoafcaaGreat
namespace Go.Proofs.YtgjnnbomnoafcaaGreat
set_option linter.unusedVariables false
open Go.Proofs.YtgjnnbomnoafcaaGreat.GT (cnt Played Opened Shut)
structure Cr (R:Rck) (c:Cfg) (m:Nat) (j:Nat->Option Rcd) (f:Strs) (p:Rcd) (a:Nat):Prop where
 ex:∃ J S,PC R c m J S/\(∀ s x,s < c.slots.toNat->J s x->j s=some x\/(s=a/\(x=p\/x=blRec c)))/\(∀ t y,t < c.stripes.toNat->S t y->f t=some y\/((t:Int)=p.stripe/\y=(p.seq,p.blocks))) ∧
  ((∀ t y,t < c.stripes.toNat->S t y->f t=some y)\/∀ x,J a x->x=p)
theorem exists_pnd {c:Cfg} (hc:c.Good) {cur:Int} (h1:1<=cur) (h2:cur < 1152921504606846976) (s:Nat) (hs:s < c.stripes.toNat) (l:List (List Nat)) (hl:Cd.Blocks c.k.toNat 108 l):∃ a,Pnd c cur ⟨cur+1,s,l⟩ a:=by
 have hsl0:=hc.sl0
 have hk0:=hc.k0
 have n0:=Int.emod_nonneg (cur+1) (show c.slots≠0 by omega)
 have n1:=Int.emod_lt_of_pos (cur+1) (show 0 < c.slots by omega)
 refine ⟨((cur+1) % c.slots).toNat,⟨⟨fun b hb=>hl.mem_len hb,fun b hb=>hl.mem_byte hb⟩,by show (0:Int)<=s; omega,by show (s:Int) < c.stripes; omega,by show 0<=cur+1; omega,by show cur+1<=_; omega,.inr ⟨by show 2<=cur+1; omega,by show (cur+1) % c.slots=_; omega⟩⟩,by have:=hl.n; show (l.length:Int)=c.k; omega,rfl,by omega⟩
section
variable {R:Rck} {c:Cfg} {m:Nat} {cur F:Int} {j:Nat->Option Rcd} {f:Strs} {p:Rcd} {a:Nat}
theorem VI.new (hc:c.Good):VI c 1 (VH.jNew c) (VH.fNew c):=by
 have hb:∀ s x,s < c.slots.toNat->VH.jNew c s=some x->x=blRec c:=fun s x hs e=>by
  unfold VH.jNew at e; rw [if_pos hs] at e; cases e; rfl
 exact ⟨VH.vv_new hc,fun s x hs e _=>hb s x hs e,fun s x hs e hz=>absurd (by rw [hb s x hs e]; rfl) hz,fun s x g l hs e h2=>by rw [hb s x hs e] at h2; exact absurd h2 (by show ¬(2:Int)<=0; omega)⟩
theorem VI.commit (h:VI c cur j f) (hc:c.Good) (hp:Pnd c cur p a):VI c (cur+1) (upd j a p) (updS f p.stripe.toNat (p.seq,p.blocks)):=by
 have hpg:=hp.ge h
 have hps:=hp.seq
 have hsl0:=hc.sl0
 have c0:=h.vv.cur
 refine ⟨⟨fun t ht=>?_,fun t ht=>?_,by omega⟩,fun t x ht e hz=>?_,fun t x ht e hz=>?_,fun t x g l ht e h2 hfx=>?_⟩
 ·
  by_cases e:t=a
  ·
   subst e
   exact ⟨p,upd_at _ _ _,hp.fit,hp.len,.inr ⟨hpg,by omega,p.seq,p.blocks,Zb3 _ _ _,Int.le_refl _,fun _=>rfl⟩⟩
  ·
   obtain ⟨x,x1,x2,x3,x4⟩:=h.vv.slot t ht
   refine ⟨x,by rw [Zbj j _ e]; exact x1,x2,x3,?_⟩
   rcases x4 with x4 | ⟨y1,y2,gen,bl,y3,y4,y5⟩
   ·
    exact .inl x4
   ·
    refine .inr ⟨y1,by omega,?_⟩
    by_cases e2:x.stripe.toNat=p.stripe.toNat
    ·
     rw [e2]
     exact ⟨p.seq,p.blocks,Zb3 _ _ _,by omega,fun q=>by omega⟩
    ·
     exact ⟨gen,bl,by rw [Zbh f _ e2]; exact y3,y4,y5⟩
 ·
  by_cases e:t=p.stripe.toNat
  ·
   subst e
   exact ⟨p.seq,p.blocks,Zb3 _ _ _,GT.fit_of hp.fit hp.len hpg,by omega⟩
  ·
   obtain ⟨gen,bl,x1,x2,x3⟩:=h.vv.str t ht
   exact ⟨gen,bl,by rw [Zbh f _ e]; exact x1,x2,by omega⟩
 ·
  by_cases q:t=a
  ·
   subst q; rw [upd_at] at e; cases e; omega
  ·
   rw [Zbj j _ q] at e; exact h.zero t x ht e hz
 ·
  by_cases q:t=a
  ·
   subst q; rw [upd_at] at e; cases e; omega
  ·
   rw [Zbj j _ q] at e
   have hw:=h.win t x ht e hz
   refine Classical.byContradiction fun hq=>?_
   have hxs:x.seq=p.seq - c.slots:=by omega
   have r1:x.seq % c.slots=t:=by
    rcases (h.fit ht e).1.ring with z | z
    ·
     exact absurd z hz
    ·
     exact z.2
   have r2:p.seq % c.slots=a:=by
    rcases hp.fit.ring with z | z
    ·
     omega
    ·
     exact z.2
   rw [hxs,Int.sub_emod_right,r2] at r1
   exact q (by omega)
 ·
  by_cases q:t=a
  ·
   subst q; rw [upd_at] at e; cases e
   rw [Zb3] at hfx; cases hfx
   exact .inl rfl
  ·
   rw [Zbj j _ q] at e
   by_cases hg:x.seq=g
   ·
    exact .inl hg
   refine .inr ?_
   by_cases e2:x.stripe.toNat=p.stripe.toNat
   ·
    rw [e2,Zb3] at hfx; cases hfx
    exact ⟨a,p,hp.a,upd_at _ _ _,by rw [<- Int.toNat_of_nonneg (h.fit ht e).1.st0,<- Int.toNat_of_nonneg hp.fit.st0,e2],rfl⟩
   ·
    rw [Zbh f _ e2] at hfx
    obtain ⟨y,x1,x2,x3,x4⟩:=h.vv.slot t ht
    rw [e] at x1; cases x1
    obtain ⟨y1,y2,g',l',y3,y4,y5⟩:=x4.resolve_left (by omega)
    rw [hfx] at y3; cases y3
    obtain ⟨s',y,z1,z2,z3,z4⟩:=(h.inv t x g l ht e h2 hfx).resolve_left hg
    by_cases q2:s'=a
    ·
     subst q2
     have n1:x.seq≠0:=fun q=>by rw [q] at h2; exact absurd h2 (by decide)
     have n2:x.seq < y.seq:=by rw [z4]; exact Int.lt_iff_le_and_ne.2 ⟨y4,hg⟩
     exact (h.eldest hc hp ht e n1 z2 n2).elim
    ·
     exact ⟨s',y,z1,by rw [Zbj j _ q2]; exact z2,z3,z4⟩
theorem GF.commit (h:GF R c m F (fun s x=>j s=some x) fun t y=>f t=some y) (hv:VI c cur j f) (k4:c.k<=4) (n6:c.n<=6) (hcur:cur < 1152921504606846976) {s:Nat} (hs:s < c.stripes.toNat) {l:List (List Nat)} (hl:Cd.Blocks c.k.toNat 108 l) :
  ∃ a,Pnd c cur ⟨cur+1,s,l⟩ a ∧
   ((∃ R' F',Vol.commit ⟨c,cur,false⟩ R (s:Int) l=(none,R',⟨c,cur+1,false⟩)/\GF R' c m F' (fun t x=>upd j a ⟨cur+1,s,l⟩ t=some x) (fun t y=>updS f s (cur+1,l) t=some y)/\VI c (cur+1) (upd j a ⟨cur+1,s,l⟩) (updS f s (cur+1,l))/\(F < 0->F' < 0)) ∨
    (0<=F/\∃ R',Vol.commit ⟨c,cur,false⟩ R (s:Int) l=(some (.fault sVCommit s (.no 5)),R',⟨c,cur+1,true⟩)/\Cr R' c m j f ⟨cur+1,s,l⟩ a)):=by
 have hc:=h.good
 have c0:=hv.vv.cur
 obtain ⟨a,hp⟩:=exists_pnd hc c0 hcur s hs l hl
 have hpg:=hp.ge hv
 have hlen:=hp.len
 have hlen:(l.length:Int)=c.k:=hlen
 obtain ⟨g0,l0,hf0,hx0,hg0⟩:=hv.vv.str s hs
 have hvh:VH R.calm c m true j f:=GH.vh h.gh
 have hmay:Vol.may ⟨c,cur,false⟩ R (s:Int) l.length=none:=by
  have hon:=hvh.pow.online
  have hsg:=hvh.sget k4 n6 hf0 hx0
  rw [Rck.calm_online] at hon
  rw [Rck.calm_sget] at hsg
  unfold Vol.may
  rw [if_neg (by show ¬((s:Int) < 0\/c.stripes<=s\/(l.length:Int)≠c.k); omega),if_neg (by rw [h.pow.off]; simp),if_neg (by rw [hon,List.length_range]; have:=hc.k1; have:=hc.k0; show ¬((c.n.toNat:Nat):Int) < c.k; omega),if_neg (by show ¬_<=cur; omega),hsg]
 refine ⟨a,hp,?_⟩
 obtain ⟨d1,d2⟩:=h.log hp.a hp.fit hpg hlen
 by_cases q1:F < 0\/((c.n.toNat*c.k.toNat+c.n.toNat:Nat):Int)<=F
 ·
  obtain ⟨R1,a1,g1⟩:=d1 q1
  have hx:SFit c s (cur+1) l:=⟨hs,by omega,by omega,hl⟩
  obtain ⟨e1,e2⟩:=g1.sputs hx
  by_cases q2:burn F (c.n.toNat*c.k.toNat+c.n.toNat) < 0\/((c.n.toNat+c.n.toNat:Nat):Int)<=burn F (c.n.toNat*c.k.toNat+c.n.toNat)
  ·
   obtain ⟨R2,b1,g2⟩:=e1 q2
   refine .inl ⟨R2,_,?_,g2.mono (fun t x ht hx=>?_) (fun t y ht hy=>?_),hv.commit hc hp,fun hF=>?_⟩
   ·
    unfold Vol.commit
    have hput:Vol.put ⟨c,cur,false⟩ R (s:Int) l=(none,R2):=by
     unfold Vol.put
     rw [Zba a1,b1]
    rw [hmay,hput]
   ·
    have hx:(if t=a then x=⟨cur+1,s,l⟩ else j t=some x):=hx
    unfold upd
    by_cases e:t=a
    ·
     rw [if_pos e] at hx ⊢; rw [hx]
    ·
     rw [if_neg e] at hx ⊢; exact hx
   ·
    have hy:(if t=s then y=(cur+1,l) else f t=some y):=hy
    unfold updS
    by_cases e:t=s
    ·
     rw [if_pos e] at hy ⊢; rw [hy]
    ·
     rw [if_neg e] at hy ⊢; exact hy
   ·
    unfold burn
    rw [if_neg (by rw [if_neg (by omega)]; omega),if_neg (by omega)]; exact hF
  ·
   have hF0:0<=F:=Classical.byContradiction fun z=>q2 (.inl (by unfold burn; rw [if_neg (by omega)]; omega))
   obtain ⟨e,R2,b1,p2⟩:=e2 (by omega) (by omega)
   refine .inr ⟨hF0,R2,?_,⟨_,_,p2,fun t x ht hx=>?_,fun t y ht hy=>?_,.inr fun x hx=>?_⟩⟩
   ·
    unfold Vol.commit
    have hput:Vol.put ⟨c,cur,false⟩ R (s:Int) l=(some e,R2):=by
     unfold Vol.put
     rw [Zba a1,b1]
    rw [hmay,hput]
   ·
    have hx:(if t=a then x=⟨cur+1,s,l⟩ else j t=some x):=hx
    by_cases e:t=a
    ·
     rw [if_pos e] at hx; exact .inr ⟨e,.inl hx⟩
    ·
     rw [if_neg e] at hx; exact .inl hx
   ·
    rcases hy with hy | ⟨e,hy⟩
    ·
     exact .inl hy
    ·
     exact .inr ⟨by rw [e],hy⟩
   ·
    have hx:(if a=a then x=⟨cur+1,s,l⟩ else j a=some x):=hx
    rw [if_pos rfl] at hx; exact hx
 ·
  obtain ⟨e,R1,a1,p1⟩:=d2 (by omega) (by omega)
  refine .inr ⟨by omega,R1,?_,⟨_,_,p1,fun t x ht hx=>?_,fun t y ht hy=>.inl hy,.inl fun t y ht hy=>hy⟩⟩
  ·
   unfold Vol.commit
   have hput:Vol.put ⟨c,cur,false⟩ R (s:Int) l=(some e,R1):=by
    unfold Vol.put
    exact Zca a1
   rw [hmay,hput]
  ·
   rcases hx with hx | ⟨e,hx⟩
   ·
    exact .inl hx
   ·
    exact .inr ⟨e,.inl hx⟩
end
end Go.Proofs.YtgjnnbomnoafcaaGreat
namespace Go.Proofs.YtgjnnbomnoafcaaGreat
set_option linter.unusedVariables false
open Go.Proofs.YtgjnnbomnoafcaaGreat.GT (cnt Played Opened Shut)
inductive Worn (m:Nat) (D E:Dsk):Prop where
 | same (h:E=D)
 | die (h:E=D.die)
 | replace (h:E=D.replace)
 | rot (s a:Nat) (hs:s < m) (ha:a<=124) (h:E=D.rotted s a 5)
structure Tnt (R0 R:Rck) (n m:Nat) (L:List Nat):Prop where
 live:Live R n m
 nodup:L.Nodup
 lt:∀ d∈L,d < n
 same:∀ d∈L,R.dsk (d:Nat)=R0.dsk (d:Nat)
 worn:∀ d:Nat,d < n->Worn m (R0.dsk (d:Nat)) (R.dsk (d:Nat))
namespace Tnt
variable {R0 R:Rck} {n m:Nat} {L:List Nat}
end Tnt
section
variable {R R0:Rck} {c:Cfg} {m:Nat} {cur:Int} {j:Nat->Option Rcd} {f:Strs} {p:Rcd} {a:Nat}
theorem VH.again (h:VH R c m true j f) (hv:VI c cur j f) (k4:c.k<=4) (n6:c.n<=6):∃ R' cur',R.vopen=(none,R',c,cur')/\VH R' c m true j f/\VI c cur' j f/\cur'<=cur:=by
 obtain ⟨R',cur',e,h2,v2,hle⟩:=h.opened k4 n6 hv.vv
 exact ⟨R',cur',e,h2,⟨v2,hv.zero,fun s x hs ex hz=>by have:=hv.win s x hs ex hz; omega,hv.inv⟩,hle⟩
end
end Go.Proofs.YtgjnnbomnoafcaaGreat
namespace Go.Proofs.YtgjnnbomnoafcaaGreat
set_option linter.unusedVariables false
open Go Go.RowKit
theorem Vol.read_of {c:Cfg} {R:Rck} {s:Int} {l:List (List Nat)} {g:Int} (h:R.sget c s=(l,g,none)) (cur:Int):Vol.read ⟨c,cur,false⟩ R s=(l,g,none):=by
 unfold Vol.read
 rw [if_neg (by simp),h]; rfl
section
variable {R:Rck} {c:Cfg} {m:Nat} {cur F:Int} {j:Nat->Option Rcd} {f:Strs} {p:Rcd} {a:Nat}
theorem VH.gf (h:VH R c m true j f) (hv:VI c cur j f) (hm:(m:Int)=c.sectors):GF R c m (-1) (fun s x=>j s=some x) fun t y=>f t=some y :=
 ⟨GH.of_vh h (fun s hs=>by obtain ⟨x,e,_⟩:=hv.vv.slot s hs; exact ⟨x,e⟩) (fun t ht=>by obtain ⟨g,l,e,_⟩:=hv.vv.str t ht; exact ⟨_,e⟩) hm,h.good,h.fit,h.pow,fun d hd=>(h.dsk d hd).waits⟩
theorem VH.commit_on (h:VH R c m true j f) (hv:VI c cur j f) (hm:(m:Int)=c.sectors) (k4:c.k<=4) (n6:c.n<=6) (hcur:cur < 1152921504606846976) {s:Nat} (hs:s < c.stripes.toNat) {l:List (List Nat)} (hl:Cd.Blocks c.k.toNat 108 l) :
  ∃ a R',Vol.commit ⟨c,cur,false⟩ R (s:Int) l=(none,R',⟨c,cur+1,false⟩)/\VH R' c m true (upd j a ⟨cur+1,s,l⟩) (updS f s (cur+1,l))/\VI c (cur+1) (upd j a ⟨cur+1,s,l⟩) (updS f s (cur+1,l)):=by
 obtain ⟨a,hp,q⟩:=(h.gf hv hm).commit hv k4 n6 hcur hs hl
 obtain ⟨R2,slot,x,e2,h2,_⟩:=h.commit k4 n6 hv.vv hcur hs hl
 rcases q with ⟨R',F',e,g,v,_⟩ | ⟨q,_⟩
 ·
  refine ⟨a,R',e,?_,v⟩
  have hR:R'=R2:=by rw [e2] at e; cases e; rfl
  subst hR
  have hg:=GH.vh g.gh
  exact ⟨Pow.of h2.pow.live fun d hd=>(h2.dsk d hd).alive,h2.good,h2.fit,fun d hd=>hg.dsk d hd⟩
 ·
  exact absurd q (by decide)
end
end Go.Proofs.YtgjnnbomnoafcaaGreat
