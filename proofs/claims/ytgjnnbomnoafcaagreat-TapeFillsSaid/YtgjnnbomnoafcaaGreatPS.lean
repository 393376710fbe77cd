/- Texts of one proof, joined: Told, VolLive, VolMake, VolOpen, VolRuns, VolF, VolG, VolH. -/
import Derived.Test.YtgjnnbomnoafcaaGreatPH
import Derived.Test.YtgjnnbomnoafcaaGreatPG
import Derived.Test.YtgjnnbomnoafcaaGreatPR
import Derived.Test.YtgjnnbomnoafcaaGreatPL
import Derived.Test.YtgjnnbomnoafcaaGreatPI
import Derived.Test.YtgjnnbomnoafcaaGreatPQ
import Derived.Test.YtgjnnbomnoafcaaGreatPO
import Derived.Test.YtgjnnbomnoafcaaGreatPP
set_option linter.unusedVariables false
set_option linter.unusedSimpArgs false
namespace Go.Proofs.YtgjnnbomnoafcaaGreat
set_option linter.unusedVariables false
def Dsk.told (D:Dsk) (i:Nat):Option Cfg :=
 if D.dead then none else (match Frm.get (D.read 0) with
  | some f=>if f.kind=1/\f.slot=i/\(0<=(0:Int)->f.stripe=0) then some f else none
  | none=>none).bind fun f=>Cfg.told f i
theorem Live.superGet {R:Rck} {n m:Nat} (h:Live R n m) (hm:1<=m) {i:Nat} (hi:i < n):R.superGet i=(R.dsk i).told i:=by
 unfold Rck.superGet Dsk.told
 rcases hd:(R.dsk i).dead with _ | _
 ·
  have e:R.get (i:Int) 0 1 (i:Int) 0=_:=h.get (s:=0) hi (by omega) hd 1 i 0
  rw [e]; rfl
 ·
  have e:R.get (i:Int) 0 1 (i:Int) 0=none:=h.get_dead (s:=0) hi (by omega) hd 1 i 0
  rw [e]; rfl
namespace Dsk
theorem flush_rot_ (D:Dsk) (i:Nat) (h:D.rot i=false):D.flush.rot i=false:=by
 show (if (true && (D.waits i).isSome)=true then false else D.rot i)=false
 split
 ·
  rfl
 ·
  exact h
theorem told_of (D:Dsk) (i:Nat) (h:D.dead=false) (f:Frm) (hf:f.Ok) (hr:f.right=true) (hb:D.read 0=f.bytes):D.told i=if f.kind=1/\f.slot=i/\f.stripe=0 then Cfg.told f i else none:=by
 unfold told
 rw [h,hb,Frm.get_bytes f hf hr,if_neg (by simp)]
 show ((if f.kind=1/\f.slot=i/\(0<=(0:Int)->f.stripe=0) then some f else none).bind fun f=>Cfg.told f i)=_
 by_cases q:f.kind=1/\f.slot=i/\f.stripe=0
 ·
  rw [if_pos q,if_pos ⟨q.1,q.2.1,fun _=>q.2.2⟩]; rfl
 ·
  rw [if_neg q,if_neg (fun x=>q ⟨x.1,x.2.1,x.2.2 (Int.le_refl 0)⟩)]; rfl
end Dsk
theorem jsec_ssec {c:Cfg} {s i t:Nat} (hs:s < c.slots.toNat) (hi:i < c.k.toNat):jsecN c s i≠ssecN c t:=by
 have:=Nat.mul_le_mul_right c.k.toNat (show s+1<=c.slots.toNat by omega)
 rw [Nat.succ_mul] at this
 unfold jsecN ssecN
 omega
theorem jsec_pos (c:Cfg) (s i:Nat):jsecN c s i≠0:=by unfold jsecN; omega
theorem ssec_pos (c:Cfg) (s:Nat):ssecN c s≠0:=by unfold ssecN; omega
namespace Dsk
variable {c:Cfg} {slot:Nat} {x:Rcd}
theorem jwf_len (D:Dsk):(D.jw c slot x).flush.l.length=D.l.length:=by rw [flush_len,show (D.jw c slot x).l=D.l from (jw_facts D c.k.toNat D).1]
theorem jwf_dead (D:Dsk):(D.jw c slot x).flush.dead=D.dead:=(jw_facts D c.k.toNat D).2.1
theorem jwf_rot (D:Dsk) (i:Nat) (h:D.rot i=false):(D.jw c slot x).flush.rot i=false:=flush_rot_ _ i (by rw [show (D.jw c slot x).rot=D.rot from (jw_facts D c.k.toNat D).2.2.1]; exact h)
theorem jwf_at (D:Dsk) {i:Nat} (hi:i < c.k.toNat) (hl:jsecN c slot i < D.l.length):(D.jw c slot x).flush.read (jsecN c slot i)=(x.frm i).bytes:=by
 obtain ⟨h1,_,_,h4,_⟩:=jw_facts (c:=c) (slot:=slot) (x:=x) D c.k.toNat D
 have e:D.jw c slot x=(List.range c.k.toNat).foldl (fun D i=>D.write (jsecN c slot i) (x.frm i).bytes) D:=rfl
 rw [<- e] at h1 h4
 rw [flush_read _ _ (by rw [h1]; exact hl)]
 unfold read
 rw [h4 i hi]; rfl
theorem jwf_ne (D:Dsk) {q:Nat} (hq:q < D.l.length) (hn:∀ i,i < c.k.toNat->q≠jsecN c slot i):(D.jw c slot x).flush.read q=D.read q:=by
 obtain ⟨h1,_,_,_,h5⟩:=jw_facts (c:=c) (slot:=slot) (x:=x) D c.k.toNat D
 have e:D.jw c slot x=(List.range c.k.toNat).foldl (fun D i=>D.write (jsecN c slot i) (x.frm i).bytes) D:=rfl
 rw [<- e] at h1 h5
 rw [flush_read _ _ (by rw [h1]; exact hq)]
 unfold read
 rw [h5 q hn,h1]
end Dsk
def blRec (c:Cfg):Rcd:=⟨0,0,zblks c.k.toNat⟩
theorem blRec_frm (c:Cfg) (i:Nat):Rcd.none_.frm i=(blRec c).frm i:=by
 have e:(zblks c.k.toNat).getD i (List.replicate 108 0)=List.replicate 108 0:=by
  unfold zblks
  rw [List.getD_eq_getElem?_getD,List.getElem?_replicate]
  split<;>rfl
 show (⟨2,i,0,0,_⟩:Frm)=⟨2,i,0,0,(zblks c.k.toNat).getD i (List.replicate 108 0)⟩
 rw [e]; rfl
structure VHd (D:Dsk) (d:Nat) (c:Cfg) (m:Nat) (sp:Bool) (j:Nat->Option Rcd) (f:Strs):Prop where
 len:D.l.length=m
 alive:D.dead=false
 waits:∀ i,D.waits i=none
 rot:∀ i,D.rot i=false
 sup:sp=true->D.read 0=(c.block d).bytes
 jr:∀ s x i,s < c.slots.toNat->j s=some x->i < c.k.toNat->D.read (jsecN c s i)=(x.frm i).bytes
 st:∀ s gen l,s < c.stripes.toNat->f s=some (gen,l)->D.read (ssecN c s)=(sfrm s gen d (sfrag c l d)).bytes
namespace VHd
variable {D:Dsk} {d:Nat} {c:Cfg} {m:Nat} {sp:Bool} {j:Nat->Option Rcd} {f:Strs}
theorem new (c:Cfg) (m d:Nat):VHd (Dsk.new m) d c m false (fun _=>none) (fun _=>none):=⟨Dsk.new_len m,rfl,fun _=>rfl,fun _=>rfl,fun h=>(by cases h),fun s x i _ h=>(by cases h),fun s g l _ h=>(by cases h)⟩
theorem jput (h:VHd D d c m sp j f) (hc:c.Good) (hm:c.sectors<=(m:Int)) {slot:Nat} {x:Rcd} (hs:slot < c.slots.toNat):VHd ((D.jw c slot x).flush) d c m sp (upd j slot x) f:=by
 have h0:0 < m:=by
  have h1:=Zch hc hm hs (i:=0) (by have:=hc.k0; omega)
  omega
 refine ⟨by rw [Dsk.jwf_len]; exact h.len,by rw [Dsk.jwf_dead]; exact h.alive,fun i=>rfl,fun i=>Dsk.jwf_rot D i (h.rot i),fun hsp=>?_,fun s y i hs' hf hi=>?_,fun s g l hs' hf=>?_⟩
 ·
  rw [Dsk.jwf_ne D (by rw [h.len]; exact h0) (fun i _ q=>jsec_pos c slot i q.symm)]
  exact h.sup hsp
 ·
  have hlt:=Zch hc hm hs' hi
  by_cases e:s=slot
  ·
   subst e
   rw [upd_at] at hf; cases hf
   exact Dsk.jwf_at D hi (by rw [h.len]; exact hlt)
  ·
   rw [Zbj j x e] at hf
   rw [Dsk.jwf_ne D (by rw [h.len]; exact hlt) fun i' hi' q=>e (jsecN_inj hi hi' q).1]
   exact h.jr s y i hs' hf hi
 ·
  rw [Dsk.jwf_ne D (by rw [h.len]; exact Zbq hc hm hs') fun i hi q=>jsec_ssec hs hi q.symm]
  exact h.st s g l hs' hf
theorem sput (h:VHd D d c m sp j f) (hc:c.Good) (hm:c.sectors<=(m:Int)) {s:Nat} {gen:Int} {l:List (List Nat)} (hs:s < c.stripes.toNat):VHd ((D.sw c s gen l d).flush) d c m sp j (updS f s (gen,l)):=by
 have hlt:=Zbq hc hm hs
 refine ⟨by rw [Dsk.sw_len]; exact h.len,by rw [Dsk.sw_dead]; exact h.alive,fun i=>rfl,fun i=>Dsk.sw_rot D d i (h.rot i),fun hsp=>?_,fun t y i hs' hf hi=>?_,fun t g' l' hs' hf=>?_⟩
 ·
  rw [Dsk.sw_read _ _ _ (by rw [h.len]; omega),if_neg (fun q=>ssec_pos c s q.symm)]
  exact h.sup hsp
 ·
  rw [Dsk.sw_read _ _ _ (by rw [h.len]; exact Zch hc hm hs' hi),if_neg (jsec_ssec hs' hi)]
  exact h.jr t y i hs' hf hi
 ·
  rw [Dsk.sw_read _ _ _ (by rw [h.len]; exact Zbq hc hm hs')]
  by_cases e:t=s
  ·
   subst e
   rw [Zb3] at hf; cases hf
   rw [if_pos rfl]
  ·
   rw [Zbh f _ e] at hf
   rw [if_neg fun q=>e (ssecN_inj q)]
   exact h.st t g' l' hs' hf
theorem zero (h:VHd D d c m sp j f) (hc:c.Good) (hm:c.sectors<=(m:Int)) (b:List Nat):VHd ((D.write 0 b).flush) d c m false j f/\(b=(c.block d).bytes->VHd ((D.write 0 b).flush) d c m true j f):=by
 have rd:∀ q,q < m->q≠0->(D.write 0 b).flush.read q=D.read q:=fun q hq hn=>by
  rw [Dsk.flush_read _ _ (by rw [Dsk.write_len,h.len]; exact hq),Dsk.write_read,if_neg hn]
 have h0:0 < m:=by
  have h1:=Zbq hc hm (s:=0) (by have:=hc.st0; omega)
  omega
 have r0:(D.write 0 b).flush.read 0=b:=by rw [Dsk.flush_read _ _ (by rw [Dsk.write_len,h.len]; exact h0),Dsk.write_read,if_pos rfl]
 have e1:((D.write 0 b).flush).l.length=m:=by rw [Dsk.flush_len,Dsk.write_len]; exact h.len
 have e2:((D.write 0 b).flush).dead=false:=by rw [Dsk.flush_dead]; exact h.alive
 have e3:∀ i,((D.write 0 b).flush).rot i=false:=fun i=>Dsk.flush_rot_ _ i (h.rot i)
 have e4:∀ s x i,s < c.slots.toNat->j s=some x->i < c.k.toNat->((D.write 0 b).flush).read (jsecN c s i)=(x.frm i).bytes:=fun s x i hs hf hi=>by rw [rd _ (Zch hc hm hs hi) (jsec_pos c s i)]; exact h.jr s x i hs hf hi
 have e5:∀ s gen l,s < c.stripes.toNat->f s=some (gen,l)->((D.write 0 b).flush).read (ssecN c s)=(sfrm s gen d (sfrag c l d)).bytes:=fun s g l hs hf=>by rw [rd _ (Zbq hc hm hs) (ssec_pos c s)]; exact h.st s g l hs hf
 exact ⟨⟨e1,e2,fun _=>rfl,e3,fun q=>(by cases q),e4,e5⟩,fun hb=>⟨e1,e2,fun _=>rfl,e3,fun _=>by rw [r0,hb],e4,e5⟩⟩
theorem mono (h:VHd D d c m sp j f) {j':Nat->Option Rcd} {f':Strs} (hj:∀ s x,s < c.slots.toNat->j' s=some x->∃ y,j s=some y/\∀ i,i < c.k.toNat->x.frm i=y.frm i) (hf:∀ s x,s < c.stripes.toNat->f' s=some x->f s=some x):VHd D d c m sp j' f' :=
 ⟨h.len,h.alive,h.waits,h.rot,h.sup,fun s x i hs hx hi=>by
  obtain ⟨y,h1,h2⟩:=hj s x hs hx
  rw [h2 i hi]; exact h.jr s y i hs h1 hi,fun s g l hs hx=>h.st s g l hs (hf s _ hs hx)⟩
end VHd
structure VH (R:Rck) (c:Cfg) (m:Nat) (sp:Bool) (j:Nat->Option Rcd) (f:Strs):Prop where
 pow:Pow R c.n.toNat m (-1)
 good:c.Good
 fit:c.sectors<=(m:Int)
 dsk:∀ d:Nat,d < c.n.toNat->VHd (R.dsk d) d c m sp j f
namespace VH
variable {R:Rck} {c:Cfg} {m:Nat} {sp:Bool} {j:Nat->Option Rcd} {f:Strs}
theorem super (h:VH R c m sp j f):Super R c m:=⟨h.pow.live,h.good,h.fit⟩
theorem new {c:Cfg} (hc:c.Good) {m:Nat} (hm:c.sectors<=(m:Int)):VH (Rck.new c.n.toNat m) c m false (fun _=>none) (fun _=>none):=by
 have hn:1<=c.n.toNat:=by have:=hc.k0; have:=hc.k1; omega
 refine ⟨Pow.of (Live.new c.n.toNat m hn) fun d hd=>by rw [Live.new_dsk _ _ _ hd]; rfl,hc,hm,fun d hd=>?_⟩
 rw [Live.new_dsk _ _ _ hd]; exact VHd.new c m d
theorem mono (h:VH R c m sp j f) {j':Nat->Option Rcd} {f':Strs} (hj:∀ s x,s < c.slots.toNat->j' s=some x->∃ y,j s=some y/\∀ i,i < c.k.toNat->x.frm i=y.frm i) (hf:∀ s x,s < c.stripes.toNat->f' s=some x->f s=some x):VH R c m sp j' f' :=
 ⟨h.pow,h.good,h.fit,fun d hd=>(h.dsk d hd).mono hj hf⟩
theorem jput (h:VH R c m sp j f) {slot:Nat} {x:Rcd} (hs:slot < c.slots.toNat) (hx:x.Fit c slot):∃ R',R.jput c (slot:Int) x=(none,R')/\VH R' c m sp (upd j slot x) f:=by
 obtain ⟨R',a1,a2,a3⟩:=(does_put h.good h.fit hs hx R (-1) h.pow).1 (.inl (by omega))
 exact ⟨R',a1,a2,h.good,h.fit,fun d hd=>by rw [a3 d hd]; exact (h.dsk d hd).jput h.good h.fit hs⟩
theorem none_fit (h:c.Good) {slot:Nat}:Rcd.none_.Fit c slot:=⟨⟨fun b hb=>(by cases hb),fun b hb=>(by cases hb)⟩,Int.le_refl _,by show (0:Int) < c.stripes; have:=h.st0; omega,Int.le_refl _,(by decide),.inl rfl⟩
theorem blank (h:VH R c m sp j f) {slot:Nat} (hs:slot < c.slots.toNat):∃ R',R.jblank c (slot:Int)=(none,R')/\VH R' c m sp (upd j slot (blRec c)) f:=by
 obtain ⟨R',e,h'⟩:=h.jput hs (none_fit h.good)
 refine ⟨R',?_,h'.mono (fun s x hs' hx=>?_) fun _ _ _ q=>q⟩
 ·
  unfold Rck.jblank
  rw [if_pos (h.super.known hs),e]; rfl
 ·
  by_cases q:s=slot
  ·
   subst q
   rw [upd_at] at hx; cases hx
   exact ⟨_,upd_at _ _ _,fun i _=>(blRec_frm c i).symm⟩
  ·
   rw [Zbj j _ q] at hx
   exact ⟨x,by rw [Zbj j _ q]; exact hx,fun _ _=>rfl⟩
theorem log (h:VH R c m sp j f) {slot:Nat} {x:Rcd} (hs:slot < c.slots.toNat) (hx:x.Fit c slot) (h2:2<=x.seq) (hl:(x.blocks.length:Int)=c.k):∃ R',R.jlog c x=(none,R')/\VH R' c m sp (upd j slot x) f:=by
 obtain ⟨R',e,h'⟩:=h.jput hs hx
 refine ⟨R',?_,h'⟩
 have hr:x.seq % c.slots=slot:=by
  rcases hx.ring with q | q
  ·
   omega
  ·
   exact q.2
 unfold Rck.jlog
 rw [if_pos,hr,e]
 ·
  rfl
 ·
  unfold Rck.jlogOk
  rw [h.super.fits]
  simp only [Bool.true_and,Bool.and_eq_true,decide_eq_true_eq]
  exact ⟨⟨⟨⟨h2,hx.seq1⟩,hx.st0⟩,hx.st1⟩,hl⟩
theorem sput (h:VH R c m sp j f) {s:Nat} {gen:Int} {l:List (List Nat)} (hx:SFit c s gen l):∃ R',R.sput c (s:Int) gen l=(none,R')/\VH R' c m sp j (updS f s (gen,l)):=by
 obtain ⟨R',a1,a2,a3⟩:=sput_does h.pow h.good h.fit hx
 exact ⟨R',a1,a2,h.good,h.fit,fun d hd=>by rw [a3 d hd]; exact (h.dsk d hd).sput h.good h.fit hx.st⟩
theorem each_blank (h:VH R c m sp (fun _=>none) f):∀ n,n<=c.slots.toNat->∃ R',Rck.vblanks c n R=(none,R')/\VH R' c m sp (fun s=>if s < n then some (blRec c) else none) f
 | 0,_=>⟨R,rfl,h.mono (fun s x _ hx=>by simp at hx) fun _ _ _ q=>q⟩
 | n+1,hn=>by
  obtain ⟨R1,e1,h1⟩:=each_blank h n (by omega)
  obtain ⟨R2,e2,h2⟩:=h1.blank (slot:=n) (by omega)
  refine ⟨R2,?_,h2.mono (fun s x _ hx=>⟨x,?_,fun _ _=>rfl⟩) fun _ _ _ q=>q⟩
  ·
   unfold Rck.vblanks at e1 ⊢
   rw [List.range_succ,each_app,e1]
   exact Zb8 e2
  ·
   unfold upd
   by_cases q:s=n
   ·
    rw [if_pos q]; rw [if_pos (by omega)] at hx; exact hx
   ·
    rw [if_neg q]
    by_cases q2:s < n
    ·
     simp only [q2,if_true]; rw [if_pos (by omega)] at hx; exact hx
    ·
     rw [if_neg (by omega)] at hx; cases hx
theorem zblks_fit (hc:c.Good) {s:Nat} (hs:s < c.stripes.toNat):SFit c s 1 (zblks c.k.toNat) :=
 ⟨hs,by omega,by omega,Cd.Blocks.mem (by simp [zblks]) (fun b hb=>by rw [(List.mem_replicate.1 hb).2]; simp) (fun b hb x hx=>by rw [(List.mem_replicate.1 hb).2] at hx; rw [(List.mem_replicate.1 hx).2]; omega)⟩
theorem each_zero (h:VH R c m sp j fun _=>none):∀ n,n<=c.stripes.toNat->∃ R',Rck.vzeros c n R=(none,R')/\VH R' c m sp j fun s=>if s < n then some (1,zblks c.k.toNat) else none
 | 0,_=>⟨R,rfl,h.mono (fun s x _ hx=>⟨x,hx,fun _ _=>rfl⟩) fun s x _ q=>by simp at q⟩
 | n+1,hn=>by
  obtain ⟨R1,e1,h1⟩:=each_zero h n (by omega)
  obtain ⟨R2,e2,h2⟩:=h1.sput (zblks_fit h.good (s:=n) (by omega))
  refine ⟨R2,?_,h2.mono (fun s x _ hx=>⟨x,hx,fun _ _=>rfl⟩) fun s x _ hx=>?_⟩
  ·
   unfold Rck.vzeros at e1 ⊢
   rw [List.range_succ,each_app,e1]
   exact Zb8 e2
  ·
   unfold updS
   by_cases q:s=n
   ·
    rw [if_pos q]; rw [if_pos (by omega)] at hx; exact hx
   ·
    rw [if_neg q]
    by_cases q2:s < n
    ·
     simp only [q2,if_true]; rw [if_pos (by omega)] at hx; exact hx
    ·
     rw [if_neg (by omega)] at hx; cases hx
end VH
end Go.Proofs.YtgjnnbomnoafcaaGreat
namespace Go.Proofs.YtgjnnbomnoafcaaGreat
set_option linter.unusedVariables false
theorem Does.then {n m a b:Nat} {f g:Rck->Option Err × Rck} {u v:Nat->Dsk->Dsk} (hf:Does n m f a u) (hg:Does n m g b v):Does n m (fun R=>thenE (f R) g) (a+b) fun d D=>v d (u d D):=by
 intro R F h
 refine ⟨fun hF=>?_,fun h0 h1=>?_⟩
 ·
  obtain ⟨R1,a1,a2,a3⟩:=(hf R F h).1 (by omega)
  obtain ⟨R2,b1,b2,b3⟩:=(hg R1 _ a2).1 (by unfold burn; split<;>omega)
  exact ⟨R2,by show thenE (f R) g=_; rw [Zba a1,b1],by rw [burn_add F _ _ (by omega)] at b2; exact b2,fun d hd=>by rw [b3 d hd,a3 d hd]⟩
 ·
  by_cases hk:(a:Int)<=F
  ·
   obtain ⟨R1,a1,a2,a3⟩:=(hf R F h).1 (.inr hk)
   obtain ⟨e,R2,b1⟩:=(hg R1 _ a2).2 (by unfold burn; rw [if_pos h0]; omega) (by unfold burn; rw [if_pos h0]; omega)
   exact ⟨e,R2,by show thenE (f R) g=_; rw [Zba a1,b1]⟩
  ·
   obtain ⟨e,R1,a1⟩:=(hf R F h).2 h0 (by omega)
   exact ⟨e,R1,Zca a1⟩
theorem Does.map {n m a:Nat} {f g:Rck->Option Err × Rck} {u:Nat->Dsk->Dsk} (hf:Does n m f a u) (w:Err->Err) (hg:∀ R F,Pow R n m F->g R=((f R).1.map w,(f R).2)):Does n m g a u:=by
 intro R F h
 refine ⟨fun hF=>?_,fun h0 h1=>?_⟩
 ·
  obtain ⟨R1,a1,a2,a3⟩:=(hf R F h).1 hF
  exact ⟨R1,by rw [hg R F h,a1]; rfl,a2,a3⟩
 ·
  obtain ⟨e,R1,a1⟩:=(hf R F h).2 h0 h1
  exact ⟨w e,R1,by rw [hg R F h,a1]; rfl⟩
section
variable {c:Cfg} {m:Nat}
theorem does_bare (hm:0 < m) (n:Nat):Does n m (fun R=>R.vbare) (n+n) fun _ D=>(D.write 0 (List.replicate 128 0)).flush:=by
 have d1:Does n m (each (fun R (d:Nat)=>R.write (d:Nat) 0 (List.replicate 128 0)) (List.range n)) (1*n) fun j D=>if j < n then D.write 0 (List.replicate 128 0) else D :=
  (Does.each (f:=fun R (d:Nat)=>R.write (d:Nat) 0 (List.replicate 128 0)) (g:=fun d j D=>if j=d then D.write 0 (List.replicate 128 0) else D) (List.range n) fun d hd=>Does.write (List.mem_range.1 hd) hm (by simp)).congr (by simp) fun j D _=>Zbl (fun D=>D.write 0 (List.replicate 128 0)) j _ D
 have d2:Does n m (each (fun R (d:Nat)=>R.flush d) (List.range n)) (1*n) fun j D=>if j < n then D.flush else D :=
  (Does.each (f:=fun R (d:Nat)=>R.flush d) (g:=fun d j D=>if j=d then D.flush else D) (List.range n) fun d hd=>Does.flush (List.mem_range.1 hd)).congr (by simp) fun j D _=>Zbl Dsk.flush j _ D
 have d3:=(d1.then d2).congr (c':=n+n) (g':=fun _ D=>(D.write 0 (List.replicate 128 0)).flush) (by omega) fun d D hd=>by simp only [hd,if_true]
 intro R F h
 have e:(fun R:Rck=>R.vbare) R=thenE (each (fun R (d:Nat)=>R.write (d:Nat) 0 (List.replicate 128 0)) (List.range n) R) (each (fun R (d:Nat)=>R.flush d) (List.range n)):=by
  show R.vbare=_
  unfold Rck.vbare
  rw [h.len]
  rcases hq:each (fun R (d:Nat)=>R.write (d:Nat) 0 (List.replicate 128 0)) (List.range n) R with ⟨o,R1⟩
  rcases o with _ | er
  ·
   obtain ⟨x1,x2⟩:=d1 R F h
   have hl:R1.l.length=n:=by
    by_cases hF:F < 0\/((1*n:Nat):Int)<=F
    ·
     obtain ⟨R2,a1,a2,_⟩:=x1 hF
     have a1:each (fun R (d:Nat)=>R.write (d:Nat) 0 (List.replicate 128 0)) (List.range n) R=(none,R2):=a1
     rw [hq] at a1; cases a1
     exact a2.len
    ·
     obtain ⟨er,R2,a1⟩:=x2 (by omega) (by omega)
     have a1:each (fun R (d:Nat)=>R.write (d:Nat) 0 (List.replicate 128 0)) (List.range n) R=(some er,R2):=a1
     rw [hq] at a1; cases a1
   show each _ (List.range R1.l.length) R1=each _ (List.range n) R1
   rw [hl]
  ·
   rfl
 rw [e]
 exact d3 R F h
theorem does_super (hc:c.Good) (hm:c.sectors<=(m:Int)) {i:Nat} (hi:i < c.n.toNat):Does c.n.toNat m (fun R=>R.superPut c (i:Nat)) 2 fun d D=>if d=i then (D.write 0 (c.block i).bytes).flush else D:=by
 have h0:0 < m:=by
  have h1:=Zbq hc hm (s:=0) (by have:=hc.st0; omega)
  omega
 have hi8:i < 8:=by have:=hc.n1; omega
 have hp:(c.block i).put=(c.block i).bytes:=by unfold Frm.put; rw [Cfg.block_right c i hi8]; rfl
 have d1:=((Does.write (n:=c.n.toNat) hi h0 (Frm.bytes_len _ (Cfg.block_ok c i hc))).then (Does.flush hi)).congr (c':=2) (g':=fun d D=>if d=i then (D.write 0 (c.block i).bytes).flush else D) rfl fun d D _=>by split<;>rfl
 refine d1.map (.fault sSuperPut i) fun R F h=>?_
 have hf:R.fits c=true:=by
  unfold Rck.fits Rck.sectors
  have e:(R.dsk 0).l.length=m:=h.secs 0 h.pos
  rw [(Cfg.right_iff c).2 hc,e,h.len,decide_eq_true hm,decide_eq_true (by have:=hc.k0; have:=hc.k1; omega)]; rfl
 show R.superPut c i=_
 unfold Rck.superPut thenE
 rw [if_pos hf,hp]
 rcases hq:R.write (i:Int) 0 (c.block i).bytes with ⟨o,R1⟩
 have hq':R.write (i:Int) ((0:Nat):Int) (c.block i).bytes=(o,R1):=hq
 rcases o with _ | er
 ·
  simp only [hq',if_true]
 ·
  simp only [hq']
  rw [if_neg (by simp)]
end
namespace VH
variable {R:Rck} {c:Cfg} {m:Nat} {sp:Bool} {j:Nat->Option Rcd} {f:Strs}
theorem m0 (h:VH R c m sp j f):0 < m:=by
 have h1:=Zbq h.good h.fit (s:=0) (by have:=h.good.st0; omega)
 omega
theorem bare (h:VH R c m sp j f):∃ R',R.vbare=(none,R')/\VH R' c m false j f:=by
 obtain ⟨R',a1,a2,a3⟩:=(does_bare h.m0 c.n.toNat R (-1) h.pow).1 (.inl (by omega))
 exact ⟨R',a1,a2,h.good,h.fit,fun d hd=>by rw [a3 d hd]; exact ((h.dsk d hd).zero h.good h.fit _).1⟩
theorem supers (h:VH R c m sp j f):∃ R',Rck.vsupers c c.n.toNat R=(none,R')/\VH R' c m true j f:=by
 have d1:=(Does.each (f:=fun R (d:Nat)=>R.superPut c (d:Nat)) (g:=fun i d D=>if d=i then (D.write 0 (c.block i).bytes).flush else D) (List.range c.n.toNat) fun d hd=>does_super h.good h.fit (List.mem_range.1 hd))
 obtain ⟨R',a1,a2,a3⟩:=(d1 R (-1) h.pow).1 (.inl (by omega))
 refine ⟨R',a1,a2,h.good,h.fit,fun d hd=>?_⟩
 rw [a3 d hd]
 have e:(List.range c.n.toNat).foldl (fun D (i:Nat)=>if d=i then (D.write 0 (c.block i).bytes).flush else D) (R.dsk d)=((R.dsk d).write 0 (c.block d).bytes).flush:=by
  have e2:(fun (D:Dsk) (i:Nat)=>if d=i then (D.write 0 (c.block i).bytes).flush else D)=fun (D:Dsk) (i:Nat)=>if d=i then (D.write 0 (c.block d).bytes).flush else D:=by
   funext D i
   by_cases q:d=i
   ·
    subst q; rfl
   ·
    rw [if_neg q,if_neg q]
  rw [e2,Zbl (fun D=>(D.write 0 (c.block d).bytes).flush) d,if_pos hd]
 show VHd ((List.range c.n.toNat).foldl (fun D (i:Nat)=>if d=i then (D.write 0 (c.block i).bytes).flush else D) (R.dsk d)) d c m true j f
 rw [e]
 exact ((h.dsk d hd).zero h.good h.fit _).2 rfl
def jNew (c:Cfg):Nat->Option Rcd:=fun s=>if s < c.slots.toNat then some (blRec c) else none
def fNew (c:Cfg):Strs:=fun s=>if s < c.stripes.toNat then some (1,zblks c.k.toNat) else none
theorem lost (h:VH R c m sp j f):VH R c m sp (fun _=>none) (fun _=>none):=h.mono (fun s x _ q=>by cases q) fun s x _ q=>by cases q
theorem filled (h:VH R c m sp j f):∃ R',R.vfilled c=(none,R')/\VH R' c m true (jNew c) (fNew c):=by
 obtain ⟨R1,e1,h1⟩:=h.lost.each_blank c.slots.toNat (Nat.le_refl _)
 obtain ⟨R2,e2,h2⟩:=h1.each_zero c.stripes.toNat (Nat.le_refl _)
 obtain ⟨R3,e3,h3⟩:=h2.supers
 refine ⟨R3,?_,h3⟩
 unfold Rck.vfilled
 rw [Zba e1,Zba e2,h2.pow.len,e3]
theorem make (h:VH R c m sp j f):∃ R',R.vmake c=(none,R')/\VH R' c m true (jNew c) (fNew c):=by
 obtain ⟨R1,e1,h1⟩:=h.bare
 obtain ⟨R2,e2,h2⟩:=h1.filled
 refine ⟨R2,?_,h2⟩
 unfold Rck.vmake
 rw [if_pos h.super.fits,if_neg,Zba e1,e2]
 ·
  rfl
 ·
  rw [h.pow.off,h.pow.online,List.length_range]
  have:=h.good.k0; have:=h.good.k1
  simp; omega
theorem told (h:VH R c m true j f) {d:Nat} (hd:d < c.n.toNat):R.superGet (d:Int)=some c:=by
 have hi8:d < 8:=by have:=h.good.n1; omega
 rw [h.pow.live.superGet h.m0 hd,Dsk.told_of _ d (h.dsk d hd).alive (c.block d) (Cfg.block_ok c d h.good) (Cfg.block_right c d hi8) ((h.dsk d hd).sup rfl),if_pos ⟨rfl,rfl,rfl⟩]
 exact Cfg.told_block c h.good d
theorem counted (h:VH R c m true j f):∀ n,n<=c.n.toNat->R.counted n=(if n=0 then Cfg.zero else c,n)
 | 0,_=>rfl
 | n+1,hn=>by
  rw [Rck.counted_succ,counted h n (by omega),h.told (by omega)]
  unfold Rck.count
  by_cases q:n=0
  ·
   subst q; simp
  ·
   simp [q]
theorem find (h:VH R c m true j f):R.superFind=(c,none):=by
 have hn:1<=c.n.toNat:=by have:=h.good.k0; have:=h.good.k1; omega
 unfold Rck.superFind
 rw [h.pow.len,h.counted _ (Nat.le_refl _),if_neg (show ¬c.n.toNat=0 by omega)]
 rw [if_neg]
 rintro (q | q | q)
 ·
  have q:c.n.toNat=0:=q
  omega
 ·
  have q:((c.n.toNat:Nat):Int) < c.k:=q
  have:=h.good.k1; omega
 ·
  have q:R.fits c=false:=q
  rw [h.super.fits] at q; cases q
end VH
end Go.Proofs.YtgjnnbomnoafcaaGreat
namespace Go.Proofs.YtgjnnbomnoafcaaGreat
set_option linter.unusedVariables false
theorem Cd.Blocks.at_ {k L:Nat} {l:List (List Nat)} (h:Cd.Blocks k L l) {b:List Nat} (hb:b∈l):∃ i,i < k/\Cd.B l i=b:=by
 obtain ⟨i,hi,e⟩:=List.getElem_of_mem hb
 refine ⟨i,by rw [<- h.n]; exact hi,?_⟩
 rw [<- e]
 unfold Cd.B
 simp [List.getD_eq_getElem?_getD,hi]
theorem Cd.Blocks.mem_len {k L:Nat} {l:List (List Nat)} (h:Cd.Blocks k L l) {b:List Nat} (hb:b∈l):b.length=L:=by
 obtain ⟨i,hi,e⟩:=h.at_ hb
 rw [<- e]; exact h.len i hi
theorem Cd.Blocks.mem_byte {k L:Nat} {l:List (List Nat)} (h:Cd.Blocks k L l) {b:List Nat} (hb:b∈l):∀ x∈b,x < 256:=by
 obtain ⟨i,hi,e⟩:=h.at_ hb
 rw [<- e]; exact h.byte i
structure VV (c:Cfg) (cur:Int) (j:Nat->Option Rcd) (f:Strs):Prop where
 slot:∀ s,s < c.slots.toNat->∃ x,j s=some x/\x.Fit c s/\(x.blocks.length:Int)=c.k/\(x.seq=0\/(2<=x.seq/\x.seq<=cur/\∃ gen l,f x.stripe.toNat=some (gen,l)/\x.seq<=gen/\(x.seq=gen->l=x.blocks)))
 str:∀ s,s < c.stripes.toNat->∃ gen l,f s=some (gen,l)/\SFit c s gen l/\gen<=cur
 cur:1<=cur
theorem Rcd.Fit.stN {x:Rcd} {c:Cfg} {s:Nat} (h:x.Fit c s):((x.stripe.toNat:Nat):Int)=x.stripe/\x.stripe.toNat < c.stripes.toNat:=by
 have:=h.st0; have:=h.st1
 constructor<;>omega
namespace VH
variable {R:Rck} {c:Cfg} {m:Nat} {sp:Bool} {j:Nat->Option Rcd} {f:Strs}
theorem jslot (h:VH R c m sp j f) {s:Nat} (hs:s < c.slots.toNat) {x:Rcd} (hx:j s=some x) (hf:x.Fit c s) (hl:(x.blocks.length:Int)=c.k):R.jslot c (s:Int)=(x,true,x.seq,none):=by
 have hn:0 < c.n.toNat:=by have:=h.good.k0; have:=h.good.k1; omega
 have hk8:c.k.toNat<=8:=by have:=h.good.k1; have:=h.good.n1; omega
 have hg:∀ d i,d < c.n.toNat->i < c.k.toNat->(R.dsk (d:Nat)).jg c s i=some (x.frm i):=fun d i hd hi=>Dsk.jg_has h.good hf (by omega) (h.dsk d hd).alive ((h.dsk d hd).jr s x i hs hx hi)
 exact h.super.jslot_of hs hl hf.seq0 fun i hi=>⟨⟨0,hn,hg 0 i hn hi⟩,fun d hd=>.inl (hg d i hd hi)⟩
theorem same_j {s:Nat} {x:Rcd} (h:VH R c m sp (upd j s x) f) (hx:j s=some x):VH R c m sp j f:=h.mono (fun t y _ hy=>⟨y,by
  by_cases e:t=s
  ·
   subst e; rw [upd_at,<- hx,hy]
  ·
   rw [Zbj j x e]; exact hy,fun _ _=>rfl⟩) fun _ _ _ q=>q
theorem same_f {s:Nat} {y:Int × List (List Nat)} (h:VH R c m sp j (updS f s y)) (hy:f s=some y):VH R c m sp j f:=h.mono (fun t y _ hy=>⟨y,hy,fun _ _=>rfl⟩) fun t z _ hz=>by
  by_cases e:t=s
  ·
   subst e; rw [Zb3,<- hy,hz]
  ·
   rw [Zbh f y e]; exact hz
theorem gs (h:VH R c m sp j f) {s:Nat} {gen:Int} {l:List (List Nat)} (hf:f s=some (gen,l)) (hx:SFit c s gen l):∀ d:Nat,d < c.n.toNat->(R.dsk d).sg c s d=(fun d=>some (sfrm s gen d (sfrag c l d))) d:=fun d hd =>
 Dsk.sg_has h.good hx hd (h.dsk d hd).alive ((h.dsk d hd).st s gen l hx.st hf)
theorem slook (h:VH R c m sp j f) {s:Nat} {gen:Int} {l:List (List Nat)} (hf:f s=some (gen,l)) (hx:SFit c s gen l):(R.slook c (s:Int)).1=gen:=by
 have hn:0 < c.n.toNat:=by have:=h.good.k0; have:=h.good.k1; omega
 have e:=h.super.slook hx.st (h.gs hf hx)
 rw [e]
 refine newG_is (d:=0) (f:=sfrm s gen 0 (sfrag c l 0)) (by have:=hx.g0; omega) (fun d g _ hg=>?_) hn rfl rfl
 cases hg; exact Int.le_refl _
theorem sget (h:VH R c m sp j f) (k4:c.k<=4) (n6:c.n<=6) {s:Nat} {gen:Int} {l:List (List Nat)} (hf:f s=some (gen,l)) (hx:SFit c s gen l):R.sget c (s:Int)=(l,gen,none):=by
 have hk0:=h.good.k0; have hk1:=h.good.k1
 have hon:R.online.length=c.n.toNat:=by rw [h.pow.online,List.length_range]
 refine h.super.sget_ok k4 n6 hx.st (h.gs hf hx) hx.bl (by have:=hx.g0; omega) (fun d g _ hg=>by cases hg; exact ⟨Int.le_refl _,fun _=>rfl⟩) ?_ (by rw [hon]; omega)
 rw [List.filter_eq_self.2 fun d _=>by unfold hasG; simp [sfrm],List.length_range]; omega
theorem recs (h:VH R c m sp j f) {cur:Int} (hv:VV c cur j f) (seq:Int):∀ n,n<=c.slots.toNat->∃ R',VH R' c m sp j f/\(R.vrecs c seq n).err=none/\(R.vrecs c seq n).R=R'/\seq<=(R.vrecs c seq n).seq ∧
  (∀ b,seq<=b->cur<=b->(R.vrecs c seq n).seq<=b)/\(∀ s x,s < n->j s=some x->x.seq<=(R.vrecs c seq n).seq)/\(∀ x∈(R.vrecs c seq n).out,2<=x.seq/\∃ s,s < n/\j s=some x)/\(R.vrecs c seq n).out.length<=n
 | 0,_=>⟨R,h,rfl,rfl,Int.le_refl _,fun b h1 _=>h1,fun s x hs=>absurd hs (Nat.not_lt_zero _),(fun x hx=>by cases hx),Nat.le_refl _⟩
 | n+1,hn=>by
  obtain ⟨R1,h1,e1,e2,e3,e4,e5,e6,e7⟩:=recs h hv seq n (by omega)
  obtain ⟨x,hx,hfit,hl,hcase⟩:=hv.slot n (by omega)
  have hjs:=h1.jslot (s:=n) (by omega) hx hfit hl
  rw [Rck.vrecs_succ]
  generalize R.vrecs c seq n=q at *
  unfold Rck.vrec
  rw [e1,e2]
  simp only [hjs]
  have hvs:∃ R2,Rck.vslot R1 c n x true=(none,R2)/\VH R2 c m sp j f:=by
   unfold Rck.vslot
   rw [if_neg (by simp)]
   by_cases q1:1 < x.seq
   ·
    rw [if_pos q1]
    obtain ⟨R2,a1,a2⟩:=h1.log (slot:=n) (by omega) hfit (by omega) hl
    exact ⟨R2,a1,a2.same_j hx⟩
   ·
    rw [if_neg q1]; exact ⟨R1,rfl,h1⟩
  obtain ⟨R2,a1,a2⟩:=hvs
  simp only [a1]
  have hxc:x.seq<=cur:=by
   rcases hcase with q0 | q0
   ·
    have:=hv.cur; omega
   ·
    exact q0.2.1
  refine ⟨R2,a2,by first | rfl | trivial,by first | rfl | trivial,by show seq<=max q.seq x.seq; omega,fun b b1 b2=>?_,fun s y hs hy=>?_,fun y hy=>?_,?_⟩
  ·
   have:=e4 b b1 b2
   show max q.seq x.seq<=b
   omega
  ·
   show y.seq<=max q.seq x.seq
   by_cases e:s=n
   ·
    subst e
    rw [hx] at hy; cases hy
    omega
   ·
    have:=e5 s y (by omega) hy
    omega
  ·
   have hy:y∈(if True/\1 < x.seq then q.out++[x] else q.out):=by simpa using hy
   by_cases q1:1 < x.seq
   ·
    rw [if_pos ⟨trivial,q1⟩] at hy
    rcases List.mem_append.1 hy with hy | hy
    ·
     obtain ⟨z1,s,z2,z3⟩:=e6 y hy
     exact ⟨z1,s,by omega,z3⟩
    ·
     have:y=x:=by simpa using hy
     subst this
     exact ⟨by omega,n,by omega,hx⟩
   ·
    rw [if_neg (fun z=>q1 z.2)] at hy
    obtain ⟨z1,s,z2,z3⟩:=e6 y hy
    exact ⟨z1,s,by omega,z3⟩
  ·
   show (if True/\1 < x.seq then q.out++[x] else q.out).length<=n+1
   split
   ·
    rw [List.length_append]; simp; omega
   ·
    omega
theorem plays (h:VH R c m sp j f) {cur:Int} (hv:VV c cur j f):∀ (l:List Rcd),(∀ x∈l,2<=x.seq/\∃ s,s < c.slots.toNat/\j s=some x)->∀ R,VH R c m sp j f->∃ R',each (Rck.vplay c) l R=(none,R')/\VH R' c m sp j f
 | [],_,R,h=>⟨R,rfl,h⟩
 | x::l,hl,R,hR=>by
  obtain ⟨h2,s,hs,hx⟩:=hl x List.mem_cons_self
  obtain ⟨y,hy,hfit,hlen,hcase⟩:=hv.slot s hs
  rw [hx] at hy; cases hy
  obtain ⟨q0,q1,gen,bl,hf,hle,heq⟩:=hcase.resolve_left (by omega)
  obtain ⟨st1,st2⟩:=hfit.stN
  obtain ⟨g2,l2,hf2,hsf,_⟩:=hv.str _ st2
  rw [hf] at hf2; cases hf2
  have hlk:=hR.slook hf hsf
  rw [st1] at hlk
  have hp:∃ R1,Rck.vplay c R x=(none,R1)/\VH R1 c m sp j f:=by
   unfold Rck.vplay
   rw [hlk]
   by_cases q:x.seq < gen
   ·
    rw [if_pos q]; exact ⟨R,rfl,hR⟩
   ·
    rw [if_neg q]
    have e:x.seq=gen:=by omega
    have el:=heq e
    subst el
    obtain ⟨R1,a1,a2⟩:=hR.sput (e▸hsf:SFit c x.stripe.toNat x.seq x.blocks)
    rw [st1] at a1
    exact ⟨R1,a1,a2.same_f (by rw [hf,e])⟩
  obtain ⟨R1,a1,a2⟩:=hp
  obtain ⟨R2,b1,b2⟩:=plays h hv l (fun y hy=>hl y (List.mem_cons_of_mem _ hy)) R1 a2
  exact ⟨R2,by rw [Zb8 a1,b1],b2⟩
theorem bub_mem {α:Type} {key:α->Int} {y:α}:∀ (j:Nat) (l:List α),y∈bub key j l->y∈l
 | 0,l,h=>h
 | j+1,l,h=>by
  unfold bub at h
  split at h
  ·
   rename_i a b ha hb
   split at h
   ·
    have:=bub_mem j _ h
    rcases List.mem_or_eq_of_mem_set this with q | q
    ·
     rcases List.mem_or_eq_of_mem_set q with q | q
     ·
      exact q
     ·
      rw [q]; exact List.mem_of_getElem? hb
    ·
     rw [q]; exact List.mem_of_getElem? ha
   ·
    exact h
  ·
   exact h
theorem sortTo_mem {α:Type} {key:α->Int} {y:α} (l:List α):∀ n,y∈sortTo key n l->y∈l
 | 0,h=>h
 | n+1,h=>by rw [Zb2] at h; exact sortTo_mem l n (bub_mem _ _ h)
theorem asks (h:VH R c m sp j f) (k4:c.k<=4) (n6:c.n<=6) {cur:Int} (hv:VV c cur j f) (seq:Int):∀ n,n<=c.stripes.toNat->(R.vask c seq n).1=none/\seq<=(R.vask c seq n).2/\(∀ b,seq<=b->cur<=b->(R.vask c seq n).2<=b)/\∀ s gen l,s < n->f s=some (gen,l)->gen<=(R.vask c seq n).2
 | 0,_=>⟨rfl,Int.le_refl _,fun b h1 _=>h1,fun s g l hs=>absurd hs (Nat.not_lt_zero _)⟩
 | n+1,hn=>by
  obtain ⟨e1,e2,e3,e4⟩:=asks h k4 n6 hv seq n (by omega)
  obtain ⟨gen,l,hf,hx,hc⟩:=hv.str n (by omega)
  have hg:=h.sget k4 n6 hf hx
  have e:R.vask c seq (n+1)=(none,max (R.vask c seq n).2 gen):=by
   show (match (R.vask c seq n).1 with | some e=>(some e,(R.vask c seq n).2) | none=>match (R.sget c n).2.2 with | some e=>(some e,(R.vask c seq n).2) | none=>(none,max (R.vask c seq n).2 (R.sget c n).2.1))=_
   rw [e1,hg]
  rw [e]
  refine ⟨rfl,by show seq<=max _ _; omega,fun b b1 b2=>?_,fun s g2 l2 hs hf2=>?_⟩
  ·
   have:=e3 b b1 b2
   show max _ _<=b
   omega
  ·
   show g2<=max _ _
   by_cases q:s=n
   ·
    subst q
    rw [hf] at hf2; cases hf2
    omega
   ·
    have:=e4 s g2 l2 (by omega) hf2
    omega
theorem opened (h:VH R c m true j f) (k4:c.k<=4) (n6:c.n<=6) {cur:Int} (hv:VV c cur j f):∃ R' cur',R.vopen=(none,R',c,cur')/\VH R' c m true j f/\VV c cur' j f/\cur'<=cur:=by
 obtain ⟨R1,h1,a1,a2,a3,a4,a5,a6,_⟩:=h.recs hv 1 c.slots.toNat (Nat.le_refl _)
 obtain ⟨R2,b1,b2⟩:=h1.plays hv (sortR (R.vrecs c 1 c.slots.toNat).out) (fun x hx=>a6 x (sortTo_mem _ _ hx)) R1 h1
 obtain ⟨c1,c2,c3,c4⟩:=b2.asks k4 n6 hv (R.vrecs c 1 c.slots.toNat).seq c.stripes.toNat (Nat.le_refl _)
 have er:R.vrecover c 1=(none,R2,(R2.vask c (R.vrecs c 1 c.slots.toNat).seq c.stripes.toNat).2):=by
  unfold Rck.vrecover
  rw [a1,a2]
  simp only [b1,c1]
 refine ⟨R2,(R2.vask c (R.vrecs c 1 c.slots.toNat).seq c.stripes.toNat).2,?_,b2,⟨fun s hs=>?_,fun s hs=>?_,by omega⟩,c3 cur (a4 cur hv.cur (Int.le_refl _)) (Int.le_refl _)⟩
 ·
  unfold Rck.vopen
  rw [h.pow.off,if_neg (by simp),h.find]
  simp only
  rw [if_neg,er]
  rw [h.pow.online,List.length_range]
  have:=h.good.k1; have:=h.good.k0; omega
 ·
  obtain ⟨x,x1,x2,x3,x4⟩:=hv.slot s hs
  refine ⟨x,x1,x2,x3,?_⟩
  rcases x4 with x4 | ⟨y1,y2,y3⟩
  ·
   exact .inl x4
  ·
   exact .inr ⟨y1,by have:=a5 s x hs x1; omega,y3⟩
 ·
  obtain ⟨gen,l,x1,x2,x3⟩:=hv.str s hs
  exact ⟨gen,l,x1,x2,c4 s gen l hs x1⟩
theorem vv_new {c:Cfg} (hc:c.Good):VV c 1 (jNew c) (fNew c) where
 slot:=fun s hs=>by
  refine ⟨blRec c,by unfold jNew; rw [if_pos hs],⟨⟨fun b hb=>?_,fun b hb x hx=>?_⟩,Int.le_refl _,by show (0:Int) < c.stripes; have:=hc.st0; omega,Int.le_refl _,(by show (0:Int)<=1152921504606846976; decide),.inl rfl⟩,?_,.inl rfl⟩
  ·
   have hb:b∈List.replicate c.k.toNat (List.replicate 108 0):=hb
   rw [(List.mem_replicate.1 hb).2]; simp
  ·
   have hb:b∈List.replicate c.k.toNat (List.replicate 108 0):=hb
   rw [(List.mem_replicate.1 hb).2] at hx
   rw [(List.mem_replicate.1 hx).2]; omega
  ·
   show (((List.replicate c.k.toNat (List.replicate 108 0)).length:Nat):Int)=c.k
   rw [List.length_replicate]; have:=hc.k0; omega
 str:=fun s hs=>⟨1,_,by unfold fNew; rw [if_pos hs],zblks_fit hc hs,Int.le_refl _⟩
 cur:=Int.le_refl _
theorem commit (h:VH R c m true j f) (k4:c.k<=4) (n6:c.n<=6) {cur:Int} (hv:VV c cur j f) (hcur:cur < 1152921504606846976) {s:Nat} (hs:s < c.stripes.toNat) {l:List (List Nat)} (hl:Cd.Blocks c.k.toNat 108 l) :
  ∃ R' slot x,Vol.commit ⟨c,cur,false⟩ R (s:Int) l=(none,R',⟨c,cur+1,false⟩)/\VH R' c m true (upd j slot x) (updS f s (cur+1,l))/\VV c (cur+1) (upd j slot x) (updS f s (cur+1,l)):=by
 have hc:=h.good
 have c0:=hv.cur
 have hk0:=hc.k0
 have hsl0:=hc.sl0
 obtain ⟨g0,l0,hf0,hx0,hg0⟩:=hv.str s hs
 have hlen:(l.length:Int)=c.k:=by have:=hl.n; omega
 have hxs:SFit c s (cur+1) l:=⟨hs,by omega,by omega,hl⟩
 obtain ⟨slot,hslot⟩:∃ slot:Nat,(cur+1) % c.slots=(slot:Int):=⟨((cur+1) % c.slots).toNat,by
  have:=Int.emod_nonneg (cur+1) (show c.slots≠0 by omega); omega⟩
 have hslt:slot < c.slots.toNat:=by
  have:=Int.emod_lt_of_pos (cur+1) (show 0 < c.slots by omega); omega
 have hok:(⟨cur+1,s,l⟩:Rcd).Ok:=⟨fun b hb=>hl.mem_len hb,fun b hb=>hl.mem_byte hb⟩
 have hfit:(⟨cur+1,s,l⟩:Rcd).Fit c slot:=⟨hok,by show (0:Int)<=s; omega,by show (s:Int) < c.stripes; omega,by show 0<=cur+1; omega,by show cur+1<=_; omega,.inr ⟨by show 2<=cur+1; omega,hslot⟩⟩
 obtain ⟨R1,a1,a2⟩:=h.log hslt hfit (by show 2<=cur+1; omega) hlen
 obtain ⟨R2,b1,b2⟩:=a2.sput hxs
 refine ⟨R2,slot,⟨cur+1,s,l⟩,?_,b2,⟨fun t ht=>?_,fun t ht=>?_,by omega⟩⟩
 ·
  unfold Vol.commit
  have hmay:Vol.may ⟨c,cur,false⟩ R (s:Int) l.length=none:=by
   unfold Vol.may
   rw [if_neg (by show ¬((s:Int) < 0\/c.stripes<=s\/(l.length:Int)≠c.k); omega),if_neg (by rw [h.pow.off]; simp),if_neg (by rw [h.pow.online,List.length_range]; have:=hc.k1; show ¬((c.n.toNat:Nat):Int) < c.k; omega),if_neg (by show ¬_<=cur; omega),h.sget k4 n6 hf0 hx0]
  have hput:Vol.put ⟨c,cur,false⟩ R (s:Int) l=(none,R2):=by
   unfold Vol.put
   rw [Zba a1,b1]
  rw [hmay,hput]
 ·
  by_cases e:t=slot
  ·
   subst e
   exact ⟨_,upd_at _ _ _,hfit,hlen,.inr ⟨by show 2<=cur+1; omega,Int.le_refl _,cur+1,l,Zb3 _ _ _,Int.le_refl _,fun _=>rfl⟩⟩
  ·
   obtain ⟨x,x1,x2,x3,x4⟩:=hv.slot t ht
   refine ⟨x,by rw [Zbj j _ e]; exact x1,x2,x3,?_⟩
   rcases x4 with x4 | ⟨y1,y2,gen,bl,y3,y4,y5⟩
   ·
    exact .inl x4
   ·
    refine .inr ⟨y1,by omega,?_⟩
    by_cases e2:x.stripe.toNat=s
    ·
     rw [e2]
     exact ⟨cur+1,l,Zb3 _ _ _,by omega,fun q=>by omega⟩
    ·
     exact ⟨gen,bl,by rw [Zbh f _ e2]; exact y3,y4,y5⟩
 ·
  by_cases e:t=s
  ·
   subst e
   exact ⟨cur+1,l,Zb3 _ _ _,hxs,Int.le_refl _⟩
  ·
   obtain ⟨gen,bl,x1,x2,x3⟩:=hv.str t ht
   exact ⟨gen,bl,by rw [Zbh f _ e]; exact x1,x2,by omega⟩
end VH
end Go.Proofs.YtgjnnbomnoafcaaGreat
namespace Go.Proofs.YtgjnnbomnoafcaaGreat
set_option linter.unusedVariables false
open Go Go.RowKit
namespace VH
variable {R:Rck} {c:Cfg} {m:Nat} {sp:Bool} {j:Nat->Option Rcd} {f:Strs}
end VH
namespace Runs12
def c:Cfg:=⟨9,2,3,2,1⟩
def a:List (List Nat):=blocksOf 2 4
def lostE:Err:=.fault sVOpen 0 (.fault sSuperFind 1 (.no 7))
structure All (R1 R2 R3 R5:Rck) (cur:Int):Prop where
 m1:(Rck.new 3 5).vmake c=(none,R1)
 o1:R1.vopen=(none,R2,c,1)
 cm:Vol.commit ⟨c,1,false⟩ R2 1 a=(none,R3,⟨c,2,false⟩)
 r1:Vol.read ⟨c,2,false⟩ R3 1=(a,2,none)
 o2:(R3.boot []).vopen=(none,R5,c,cur)
 r2:Vol.read ⟨c,cur,false⟩ R5 1=(a,2,none)
 o3:((R5.die 0).die 1).vopen=(some lostE,(R5.die 0).die 1,Cfg.zero,0)
end Runs12
end Go.Proofs.YtgjnnbomnoafcaaGreat
namespace Go.Proofs.YtgjnnbomnoafcaaGreat
set_option linter.unusedVariables false
theorem wholeFrom_facts (seq:Int):∀ (l:List (List Frm)) (i:Nat) (x y:Rcd),wholeFrom seq i x l=some y->(∃ ds,y.blocks=x.blocks++ds/\ds.length=l.length/\∀ b∈ds,∃ fs∈l,∃ f∈fs,f.data=b)/\(l≠[]->y.seq=seq)
 | [],i,x,y,h=>by
  have e:x=y:=by simpa [wholeFrom] using h
  subst e
  exact ⟨⟨[],by simp,rfl,fun b hb=>by cases hb⟩,fun q=>absurd rfl q⟩
 | fs::l,i,x,y,h=>by
  unfold wholeFrom at h
  rcases hp:pickF seq i x.stripe fs with _ | f
  ·
   rw [hp] at h; cases h
  ·
   rw [hp] at h
   obtain ⟨⟨ds,h1,h2,h3⟩,h4⟩:=wholeFrom_facts seq l (i+1) _ y h
   have hf:f∈fs:=List.mem_of_find?_eq_some hp
   refine ⟨⟨f.data::ds,by rw [h1]; simp,by simp [h2],fun b hb=>?_⟩,fun _=>?_⟩
   ·
    rcases List.mem_cons.1 hb with rfl | hb
    ·
     exact ⟨fs,List.mem_cons_self,f,hf,rfl⟩
    ·
     obtain ⟨gs,g1,g2⟩:=h3 b hb
     exact ⟨gs,List.mem_cons_of_mem _ g1,g2⟩
   ·
    rcases l with _ | ⟨gs,l⟩
    ·
     have e:(⟨seq,f.stripe,x.blocks++[f.data]⟩:Rcd)=y:=by simpa [wholeFrom] using h
     rw [<- e]
    ·
     exact h4 (by simp)
theorem Rck.jgood_right {R:Rck} {c:Cfg} {d:Nat} {slot:Int} {i:Nat} {f:Frm} (h:R.jgood c d slot i=some f):f.right=true:=by
 unfold Rck.jgood at h
 rcases hg:R.get d (Rck.jsec c slot i) 2 i (-1) with _ | g
 ·
  rw [hg] at h; cases h
 ·
  rw [hg] at h
  simp only [Option.bind_some] at h
  split at h
  ·
   cases h
  ·
   cases h
   unfold Rck.get at hg
   rcases hb:(R.read d (Rck.jsec c slot i)).bind Frm.get with _ | q
   ·
    rw [hb] at hg; cases hg
   ·
    rw [hb] at hg
    simp only at hg
    split at hg
    ·
     cases hg
     rcases hr:R.read d (Rck.jsec c slot i) with _ | bs
     ·
      rw [hr] at hb; cases hb
     ·
      rw [hr] at hb
      exact (Frm.get_some hb).1
    ·
     cases hg
theorem Rck.jslot_whole {R:Rck} {c:Cfg} {s:Int} (hok:∀ (i:Nat),∀ f∈R.jgoods c s i,f.Ok) (hk:1<=c.k) (h:(R.jslot c s).2.1=true) :
  (R.jslot c s).1.Ok/\((R.jslot c s).1.blocks.length:Int)=c.k/\0<=(R.jslot c s).1.seq/\(R.jslot c s).1.seq<=1152921504606846976:=by
 have e:R.jslot c s=((whole (newest (R.jall c s)) (R.jall c s)).getD Rcd.none_,(whole (newest (R.jall c s)) (R.jall c s)).isSome,newest (R.jall c s),none):=by
  unfold Rck.jslot at h ⊢
  split at h
  ·
   rename_i h1
   split at h
   ·
    cases h
   ·
    rename_i h2
    rw [if_pos h1,if_neg h2]
  ·
   cases h
 rw [e] at h ⊢
 have h:(whole (newest (R.jall c s)) (R.jall c s)).isSome=true:=h
 obtain ⟨y,hy⟩:=Option.isSome_iff_exists.1 h
 rw [hy]
 show y.Ok/\(y.blocks.length:Int)=c.k/\0<=y.seq/\y.seq<=_
 have hl:(R.jall c s).length=c.k.toNat:=by unfold Rck.jall; simp
 obtain ⟨⟨ds,h1,h2,h3⟩,h4⟩:=wholeFrom_facts _ _ _ _ _ hy
 have hds:y.blocks=ds:=by rw [h1]; rfl
 have hne:R.jall c s≠[]:=fun q=>by rw [q] at hl; simp at hl; omega
 have hmem:∀ fs∈R.jall c s,∃ i,fs=R.jgoods c s i:=fun fs hfs=>by
  unfold Rck.jall at hfs
  obtain ⟨i,_,rfl⟩:=List.mem_map.1 hfs
  exact ⟨i,rfl⟩
 have hgen:∀ fs∈R.jall c s,∀ f∈fs,f.gen<=1152921504606846976:=fun fs hfs f hf=>by
  obtain ⟨i,rfl⟩:=hmem fs hfs
  obtain ⟨d,_,hd⟩:=Rck.jgoods_mem.1 hf
  have:=Rck.jgood_right hd
  unfold Frm.right Frm.isIn at this
  simp only [Bool.and_eq_true,decide_eq_true_eq] at this
  exact this.2.2
 refine ⟨⟨fun b hb=>?_,fun b hb=>?_⟩,by rw [hds,h2,hl]; omega,?_,?_⟩
 ·
  rw [hds] at hb
  obtain ⟨fs,g1,f,g2,g3⟩:=h3 b hb
  obtain ⟨i,rfl⟩:=hmem fs g1
  rw [<- g3]; exact (hok i f g2).len
 ·
  rw [hds] at hb
  obtain ⟨fs,g1,f,g2,g3⟩:=h3 b hb
  obtain ⟨i,rfl⟩:=hmem fs g1
  rw [<- g3]; exact (hok i f g2).byte
 ·
  rw [h4 hne]
  exact (newest_ge' (R.jall c s) 0).1
 ·
  rw [h4 hne]
  exact newest_le' (R.jall c s) 0 _ (by decide) hgen
open Go Go.RowKit
theorem infoRec:(Tryz.prog.info? 101).map (fun i=>(i.zero,i.size,i.bytes))=some (some (.agg (Rcd.none_.V none 0)),3,40):=by kernel_rfl
structure RS (S0:Nat->Prop) (w0:World) (r g:Nat) (c:Cfg) (dn:Bool) (S:Nat->Prop) (es:List RecE) (R:Rck) (sq:Int) (val:Value) (w:World):Prop where
 rack:RackAt S w r R
 vol:VolAt w g r ⟨c,sq,dn⟩
 gS:S g
 low:∀ b,S0 b->S b
 only:Only (fun b=>¬S0 b\/b=g) w0 w
 g0:g < w0.heap.size
 own:OwnVs w w0.heap.size 101 3 val (es.map RecE.A)
 ownS:∀ b,val.ownBlock=some b->S b
 seqs:SeqOk es
 recs:∀ e∈es,e.1.Ok/\BlksAt w e.2.1 e.1.blocks/\∀ b,e.2.1=some ⟨b,0,none⟩->S b/\w0.heap.size<=b
namespace RS
variable {S0:Nat->Prop} {w0:World} {r g:Nat} {c:Cfg} {dn:Bool} {S:Nat->Prop} {es:List RecE} {R R':Rck} {sq:Int} {val:Value} {w w':World}
theorem start (h:RackAt S0 w0 r R) (hv:VolAt w0 g r ⟨c,sq,dn⟩) (hg:S0 g):RS S0 w0 r g c dn S0 [] R sq (.slice none 0 0) w0 :=
 ⟨h,hv,hg,fun _ q=>q,Only.refl _ _,lt_of_block hv,OwnVs.nil _ _ _ _,fun b hb=>(by cases hb),fun e he=>(by cases he),fun e he=>(by cases he)⟩
theorem ext (h:RS S0 w0 r g c dn S es R sq val w) (e:Ext w w'):RS S0 w0 r g c dn S es R sq val w' :=
 ⟨h.rack.ext e,h.vol.ext e,h.gS,h.low,Only.ext h.only e,h.g0,h.own.ext e,h.ownS,h.seqs,fun x hx=>⟨(h.recs x hx).1,(h.recs x hx).2.1.ext e,(h.recs x hx).2.2⟩⟩
theorem wide (h:RS S0 w0 r g c dn S es R sq val w) (e:Ext w w'):RS S0 w0 r g c dn (wideS S w w') es R sq val w' :=
 ⟨h.rack.pokes e fun b hb=>hb.elim,h.vol.ext e,.inl h.gS,fun b hb=>.inl (h.low b hb),Only.ext h.only e,h.g0,h.own.ext e,fun b hb=>.inl (h.ownS b hb),h.seqs,fun x hx=>⟨(h.recs x hx).1,(h.recs x hx).2.1.ext e,fun b hb=>⟨.inl ((h.recs x hx).2.2 b hb).1,((h.recs x hx).2.2 b hb).2⟩⟩⟩
theorem keep (h:RS S0 w0 r g c dn S es R sq val w) (hr:RackAt S w' r R') (k:Keeps S w w'):RS S0 w0 r g c dn S es R' sq val w' :=
 ⟨hr,h.vol.keep k h.gS,h.gS,h.low,Only.trans h.only k fun b _ q=>.inl fun q0=>q (h.low b q0),h.g0,h.own.only k fun b hb q=>q (h.ownS b hb),h.ownS,h.seqs,fun x hx=>⟨(h.recs x hx).1,(h.recs x hx).2.1.only k fun b hb q=>q ((h.recs x hx).2.2 b hb).1,(h.recs x hx).2.2⟩⟩
theorem setSeq (h:RS S0 w0 r g c dn S es R sq val w) (n:Int):RS S0 w0 r g c dn S es R n val (w.setCell ⟨g,6,none⟩ (.int .i64 n)):=by
 have ho:Only (fun b=>b=g) w (w.setCell ⟨g,6,none⟩ (.int .i64 n)):=Zbd _ _ _ _
 exact ⟨h.rack.only ho fun b hb=>by rw [show b=g from hb]; exact h.gS,h.vol.setSeq n,h.gS,h.low,Only.trans h.only ho fun b _ q=>.inr q,h.g0,h.own.only ho fun b hb q=>by have:=(h.own.lt b hb).1; have:=h.g0; have q:b=g:=q; omega,h.ownS,h.seqs,fun x hx=>⟨(h.recs x hx).1,(h.recs x hx).2.1.only ho fun b hb q=>by have:=((h.recs x hx).2.2 b hb).2; have:=h.g0; have q:b=g:=q; omega,(h.recs x hx).2.2⟩⟩
theorem push (h:RS S0 w0 r g c dn S es R sq val w) (e:RecE) (h1:e.1.Ok) (h2:BlksAt w e.2.1 e.1.blocks) (h3:∀ b,e.2.1=some ⟨b,0,none⟩->S b/\w0.heap.size<=b/\val.ownBlock≠some b) (h4:0<=e.key/\e.key<=1152921504606846976) (hl:es.length < 900)
  (hn:∀ x∈es,∀ b,x.2.1=some ⟨b,0,none⟩->val.ownBlock≠some b) :
  ∃ v' w',(Builtin.append_ #[117,117] 117 #[val,.slice (some ⟨w.heap.size,0,none⟩) 1 1]).run Tryz.prog (w.alloc (.cells e.A 101))=.ok v' w'/\RS S0 w0 r g c dn (wideS S w w') (es++[e]) R sq v' w'/\Only (fun b=>val.ownBlock=some b) w w'/\(v'.ownBlock=val.ownBlock\/∃ b,v'.ownBlock=some b/\w.heap.size<=b):=by
 have hx:Ext w (w.alloc (.cells e.A 101)):=(Ext.refl w).alloc _
 have hsz:w0.heap.size<=w.heap.size:=h.only.size
 obtain ⟨v',w',e1,e2,e3,_,e5⟩:=(h.own.ext hx).push (tsl:=117) Tryz.underlying117 infoRec rfl (by omega) e.A rfl (V_one _ _ _) ⟨w.heap.size,0,none⟩ (Zai Zad) 1 (by simp; omega) (by omega) (by simp; omega)
 have ho:Only (fun b=>val.ownBlock=some b) w w':=Only.trans (Ext.only hx) e3 (fun _ _ h=>h)
 have hgo:val.ownBlock≠some g:=fun q=>by have:=(h.own.lt g q).1; have:=h.g0; omega
 refine ⟨v',w',e1,⟨h.rack.pokes ho fun b hb=>h.ownS b hb,?_,.inl h.gS,fun b hb=>.inl (h.low b hb),Only.trans h.only ho fun b hb q=>?_,h.g0,by rw [List.map_append]; exact e2,fun b hb=>?_,fun x hx=>?_,fun x hx=>?_⟩,ho,?_⟩
 ·
  exact ho.at h.vol hgo
 ·
  have:=(h.own.lt b q).1; omega
 ·
  rcases e5 with q | q
  ·
   exact .inl (h.ownS b (by rw [<- q]; exact hb))
  ·
   rw [q] at hb
   have hb2:b=w.heap.size+1:=by simpa using hb.symm
   have:=(e2.lt b (by rw [q]; simpa using hb)).2
   exact .inr ⟨by omega,this⟩
 ·
  rcases List.mem_append.1 hx with hx | hx
  ·
   exact h.seqs x hx
  ·
   have:x=e:=by simpa using hx
   rw [this]; exact h4
 ·
  rcases List.mem_append.1 hx with hx | hx
  ·
   obtain ⟨q1,q2,q3⟩:=h.recs x hx
   exact ⟨q1,q2.only ho fun b hb q=>hn x hx b hb q,fun b hb=>⟨.inl (q3 b hb).1,(q3 b hb).2⟩⟩
  ·
   have:x=e:=by simpa using hx
   subst this
   exact ⟨h1,h2.only ho fun b hb q=>(h3 b hb).2.2 q,fun b hb=>⟨.inl (h3 b hb).1,(h3 b hb).2.1⟩⟩
 ·
  rcases e5 with q | q
  ·
   exact .inl q
  ·
   exact .inr ⟨_,q,by simp⟩
end RS
end Go.Proofs.YtgjnnbomnoafcaaGreat
namespace Go.Proofs.YtgjnnbomnoafcaaGreat
set_option linter.unusedVariables false
open Go Go.RowKit
theorem Rck.vrecs_stop {R:Rck} {c:Cfg} {sq:Int} {i n:Nat} (h:(R.vrecs c sq i).err≠none) (hn:i<=n):R.vrecs c sq n=R.vrecs c sq i:=by
 induction n with
 | zero=>rw [show i=0 by omega]
 | succ n ih =>
  rcases Nat.lt_or_ge n i with q | q
  ·
   rw [show i=n+1 by omega]
  ·
   rw [Rck.vrecs_succ,ih q]
   unfold Rck.vrec
   rcases he:(R.vrecs c sq i).err with _ | er
   ·
    exact absurd he h
   ·
    rfl
theorem RIn.of_own {w:World} {B:Nat} {es:List RecE} {g n cap:Nat} (h:OwnVs w B 101 3 (.slice (some ⟨g,0,none⟩) n cap) (es.map RecE.A)):RIn w g es/\es.length<=cap:=by
 rcases h.own.2 with ⟨q,_⟩ | ⟨g',c',cur,q1,q2,q3,q4,q5,q6,q7⟩
 ·
  cases q
 ·
  cases q1
  rw [List.length_map] at q4 q7
  exact ⟨⟨cur,q3,q7,by rw [q6]; exact Nat.mul_le_mul_right 3 q4⟩,q4⟩
structure RT (S0:Nat->Prop) (w0:World) (r g:Nat) (c:Cfg) (dn:Bool) (q:VRec) (i:Nat) (val:Value) (w:World) (S:Nat->Prop) (es:List RecE):Prop where
 rs:RS S0 w0 r g c dn S es q.R q.seq val w
 ne:∀ e∈es,e.1.blocks≠[]
 sep:∀ e∈es,∀ b,e.2.1=some ⟨b,0,none⟩->val.ownBlock≠some b
 out:es.map (·.1)=q.out
 len:es.length<=i
theorem RT.push {S0:Nat->Prop} {w0:World} {r g:Nat} {c:Cfg} {dn:Bool} {val:Value} {w:World} {S:Nat->Prop} {es:List RecE} {R:Rck} {sq:Int}
  (h:RS S0 w0 r g c dn S es R sq val w) (hne:∀ e∈es,e.1.blocks≠[]) (hsep:∀ e∈es,∀ b,e.2.1=some ⟨b,0,none⟩->val.ownBlock≠some b) (hl:es.length < 900)
  (e:RecE) (h1:e.1.Ok) (h2:BlksAt w e.2.1 e.1.blocks) (h0:e.1.blocks≠[]) (h3:∀ b,e.2.1=some ⟨b,0,none⟩->S b/\w0.heap.size<=b/\val.ownBlock≠some b) (h4:0<=e.1.seq/\e.1.seq<=1152921504606846976) :
  ∃ v' w',(Builtin.append_ #[117,117] 117 #[val,.slice (some ⟨w.heap.size,0,none⟩) 1 1]).run Tryz.prog (w.alloc (.cells e.A 101))=.ok v' w'/\RS S0 w0 r g c dn (wideS S w w') (es++[e]) R sq v' w'/\Only (fun b=>val.ownBlock=some b) w w' ∧
   (∀ x∈es++[e],x.1.blocks≠[])/\∀ x∈es++[e],∀ b,x.2.1=some ⟨b,0,none⟩->v'.ownBlock≠some b:=by
 obtain ⟨v',w',e1,e2,e3,e4⟩:=h.push e h1 h2 h3 h4 hl hsep
 refine ⟨v',w',e1,e2,e3,fun x hx=>?_,fun x hx b hb=>?_⟩
 ·
  rcases List.mem_append.1 hx with hx | hx
  ·
   exact hne x hx
  ·
   rw [show x=e by simpa using hx]; exact h0
 ·
  have hlt:b < w.heap.size/\val.ownBlock≠some b:=by
   rcases List.mem_append.1 hx with hx | hx
   ·
    exact ⟨(h.recs x hx).2.1.lt (hne x hx) b hb,hsep x hx b hb⟩
   ·
    have hxe:x=e:=by simpa using hx
    rw [hxe] at hb
    exact ⟨h2.lt h0 b hb,(h3 b hb).2.2⟩
  rcases e4 with q | ⟨b',q,hb'⟩
  ·
   rw [q]; exact hlt.2
  ·
   rw [q]; intro z; cases z; omega
structure VRecsPost (S:Nat->Prop) (w:World) (r g:Nat) (c:Cfg) (dn:Bool) (q:VRec) (e:Ending) (w':World) (S':Nat->Prop) (a:Option Addr) (es:List RecE) (n cp:Nat):Prop where
 ret:e=.returned (.tuple #[.slice a n cp,oErr q.err])
 len:es.length=n
 few:n<=4
 rack:RackAt S' w' r q.R
 vol:VolAt w' g r ⟨c,q.seq,dn⟩
 low:∀ b,S b->S' b
 only:Only (fun b=>¬S b\/b=g) w w'
 out:q.err=none->es.map (·.1)=sortR q.out
 recs:∀ e∈es,e.1.Ok/\BlksAt w' e.2.1 e.1.blocks/\∀ b,e.2.1=some ⟨b,0,none⟩->S' b/\w.heap.size<=b
 at_:0 < n->∃ gb,a=some ⟨gb,0,none⟩/\S' gb/\w.heap.size<=gb/\RIn w' gb es
theorem VRecsPost.err {S0:Nat->Prop} {w0:World} {r g:Nat} {c:Cfg} {dn:Bool} {q:VRec} {val:Value} {w:World} {S:Nat->Prop} {es:List RecE} {er:Err} (hq:q.err=some er) (h:RS S0 w0 r g c dn S es q.R q.seq val w) :
  VRecsPost S0 w0 r g c dn q (.returned (.tuple #[.slice none 0 0,oErr (some er)])) w S none [] 0 0 :=
 ⟨by rw [hq],rfl,by omega,h.rack,h.vol,h.low,h.only,fun z=>absurd (hq.symm.trans z) (by simp),fun e he=>absurd he List.not_mem_nil,fun z=>absurd z (by omega)⟩
theorem VRecsPost.sorted {S0:Nat->Prop} {w0:World} {r g:Nat} {c:Cfg} {dn:Bool} {q:VRec} {i:Nat} {a:Option Addr} {n cp gb:Nat} {w w':World} {S:Nat->Prop} {es:List RecE} (hq:q.err=none) (h:RT S0 w0 r g c dn q i (.slice a n cp) w S es) (hn:es.length=n) (h4:n<=4) (ha:0 < n->a=some ⟨gb,0,none⟩)
  (h2:0 < n->RIn w' gb (sortTo RecE.key n es)) (h3:Only (fun b=>0 < n/\b=gb) w w'):VRecsPost S0 w0 r g c dn q (.returned (.tuple #[.slice a n cp,.nilIface])) w' S a (sortTo RecE.key n es) n cp:=by
 have hown:∀ b,(0 < n/\b=gb)->S b/\w0.heap.size<=b:=fun b ⟨z,e⟩=>by
  have q1:(Value.slice a n cp).ownBlock=some gb:=by rw [ha z]; rfl
  rw [e]; exact ⟨h.rs.ownS gb q1,(h.rs.own.lt gb q1).1⟩
 have hg:=h.rs.g0
 refine ⟨by rw [hq]; rfl,by rw [sortTo_len,hn],h4,h.rs.rack.only h3 fun b hb=>(hown b hb).1,h3.at h.rs.vol fun z=>by have:=(hown g z).2; omega,h.rs.low,Only.trans h.rs.only h3 fun b _ z=>?_,fun _=>?_,fun e he=>?_,fun z=>?_⟩
 ·
  have:=(hown b z).2; omega
 ·
  rw [<- sortTo_map Prod.fst RecE.key Rcd.seq (fun _=>rfl)]
  unfold sortR
  rw [<- h.out,List.length_map,hn]
 ·
  obtain ⟨q1,q2,q3⟩:=h.rs.recs e (VH.sortTo_mem _ _ he)
  refine ⟨q1,q2.only h3 fun b hb z=>?_,q3⟩
  exact h.sep e (VH.sortTo_mem _ _ he) b hb (by rw [ha z.1,z.2]; rfl)
 ·
  have q1:(Value.slice a n cp).ownBlock=some gb:=by rw [ha z]; rfl
  exact ⟨gb,ha z,h.rs.ownS gb q1,(h.rs.own.lt gb q1).1,h2 z⟩
theorem RT.slice {S0:Nat->Prop} {w0:World} {r g:Nat} {c:Cfg} {dn:Bool} {q:VRec} {i:Nat} {val:Value} {w:World} {S:Nat->Prop} {es:List RecE} (h:RT S0 w0 r g c dn q i val w S es) :
  ∃ a n cp gb,val=.slice a n cp/\es.length=n/\n<=cp/\(0 < n->a=some ⟨gb,0,none⟩)/\(0 < n->RIn w gb es):=by
 obtain ⟨a,cp,h1,h2⟩:=h.rs.own.slice
 rw [List.length_map] at h1
 rcases h2 with ⟨q1,q2⟩ | ⟨gb,q1,_⟩
 ·
  have:es.length=0:=by have:=congrArg List.length q1; simpa using this
  exact ⟨a,es.length,cp,0,h1,rfl,by omega,fun z=>by omega,fun z=>by omega⟩
 ·
  have ho:=h.rs.own
  rw [h1,q1] at ho
  obtain ⟨q3,q4⟩:=RIn.of_own ho
  exact ⟨a,es.length,cp,gb,h1,rfl,q4,fun _=>q1,fun _=>q3⟩
theorem Rck.vrec_err {c:Cfg} {R:Rck} {sq:Int} {out:List Rcd} {s:Nat} {x:Rcd} {wh:Bool} {nw:Int} {e:Err} (h:R.jslot c s=(x,wh,nw,some e)):Rck.vrec c ⟨none,R,sq,out⟩ s=⟨some e,R,sq,[]⟩:=by
 unfold Rck.vrec; simp only [h]
theorem Rck.vrec_bad {c:Cfg} {R R2:Rck} {sq:Int} {out:List Rcd} {s:Nat} {x:Rcd} {wh:Bool} {nw:Int} {e:Err} (h:R.jslot c s=(x,wh,nw,none)) (h2:R.vslot c s x wh=(some e,R2)):Rck.vrec c ⟨none,R,sq,out⟩ s=⟨some e,R2,max sq nw,[]⟩:=by
 unfold Rck.vrec; simp only [h,h2]
theorem Rck.vrec_ok {c:Cfg} {R R2:Rck} {sq:Int} {out:List Rcd} {s:Nat} {x:Rcd} {wh:Bool} {nw:Int} (h:R.jslot c s=(x,wh,nw,none)) (h2:R.vslot c s x wh=(none,R2)):Rck.vrec c ⟨none,R,sq,out⟩ s=⟨none,R2,max sq nw,if wh=true/\1 < x.seq then out++[x] else out⟩:=by
 unfold Rck.vrec; simp only [h,h2]
theorem Rck.vslot_blank {c:Cfg} {R:Rck} {s:Int} {x:Rcd}:R.vslot c s x false=R.jblank c s:=rfl
theorem Rck.vslot_log {c:Cfg} {R:Rck} {s:Int} {x:Rcd} (h:1 < x.seq):R.vslot c s x true=R.jlog c x:=by unfold Rck.vslot; simp [h]
theorem Rck.vslot_old {c:Cfg} {R:Rck} {s:Int} {x:Rcd} (h:¬1 < x.seq):R.vslot c s x true=(none,R):=by unfold Rck.vslot; simp [h]
end Go.Proofs.YtgjnnbomnoafcaaGreat
