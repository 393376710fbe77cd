/- Texts of one proof, joined: StripeLive, StripeRack, StrA, StrB, StrC, StrD, StrE, StrF. -/
import Derived.Test.YtgjnnbomnoafcaaGreatDoorVS
import Derived.Test.YtgjnnbomnoafcaaGreatDoorVY
import Derived.Test.YtgjnnbomnoafcaaGreatDoorVV
import Derived.Test.YtgjnnbomnoafcaaGreatDoorVH
import Derived.Test.YtgjnnbomnoafcaaGreatDoorVN
import Derived.Test.YtgjnnbomnoafcaaGreatDoorVB
import Derived.Test.YtgjnnbomnoafcaaGreatDoorVQ
import Derived.Test.YtgjnnbomnoafcaaGreatDoorVI
import Derived.Test.YtgjnnbomnoafcaaGreatDoorVF
import Derived.Test.YtgjnnbomnoafcaaGreatDoorVC
import Derived.OwnWalk
set_option linter.unusedVariables false
set_option linter.unusedSimpArgs false
namespace Go.Proofs.YtgjnnbomnoafcaaGreatDoor
set_option linter.unusedVariables false
def ssecN (c:Cfg) (s:Nat):Nat:=1+c.slots.toNat*c.k.toNat+s
theorem ssec_eq {c:Cfg} (hc:c.Good) (s:Nat):Rck.ssec c (s:Int)=(ssecN c s:Nat):=by
 unfold Rck.ssec ssecN
 have e:c.k=((c.k.toNat:Nat):Int):=by have:=hc.k0; omega
 have e2:c.slots=((c.slots.toNat:Nat):Int):=by have:=hc.sl0; omega
 rw [e,e2]; simp
theorem ssecN_lt {c:Cfg} (hc:c.Good) {m:Nat} (hm:c.sectors<=(m:Int)) {s:Nat} (hs:s < c.stripes.toNat):ssecN c s < m:=by
 have h2:((c.slots.toNat*c.k.toNat:Nat):Int)=c.slots*c.k:=by
  have e:c.k=((c.k.toNat:Nat):Int):=by have:=hc.k0; omega
  have e2:c.slots=((c.slots.toNat:Nat):Int):=by have:=hc.sl0; omega
  rw [e,e2]; simp
 unfold Cfg.sectors at hm
 rw [<- h2] at hm
 have h3:=hc.st0
 unfold ssecN
 omega
theorem ssecN_inj {c:Cfg} {s t:Nat} (h:ssecN c s=ssecN c t):s=t:=by unfold ssecN at h; omega
structure SFit (c:Cfg) (s:Nat) (gen:Int) (l:List (List Nat)):Prop where
 st:s < c.stripes.toNat
 g0:1<=gen
 g1:gen<=1152921504606846976
 bl:Cd.Blocks c.k.toNat 108 l
namespace SFit
variable {c:Cfg} {s:Nat} {gen:Int} {l:List (List Nat)}
theorem frag_len (h:SFit c s gen l) (hc:c.Good) (d:Nat):(sfrag c l d).length=108:=by
 unfold sfrag Cd.mix
 rw [Cd.mixK_len,h.bl.len 0 (by have:=hc.k0; omega)]
theorem frag_byte (h:SFit c s gen l) (d:Nat):∀ x∈sfrag c l d,x < 256:=Cd.mixK_byte _ _ _ (Cd.row_byte _ _) h.bl.byte
theorem ok (h:SFit c s gen l) (hc:c.Good) (d:Nat):(sfrm s gen d (sfrag c l d)).Ok:=⟨h.frag_len hc d,h.frag_byte d⟩
theorem right (h:SFit c s gen l) (hc:c.Good) {d:Nat} (hd:d < c.n.toNat):(sfrm s gen d (sfrag c l d)).right=true:=by
 have e1:(sfrm s gen d (sfrag c l d)).kind=3:=rfl
 have e2:(sfrm s gen d (sfrag c l d)).slot=d:=rfl
 have e3:(sfrm s gen d (sfrag c l d)).stripe=s:=rfl
 have e4:(sfrm s gen d (sfrag c l d)).gen=gen:=rfl
 have q1:=h.st; have q2:=h.g0; have q3:=h.g1; have q4:=hc.st1; have q5:=hc.n1
 exact Frm.right_of (by omega) (by omega) (by omega) (by omega) (by omega) (by omega) (by omega) (by omega)
theorem put (h:SFit c s gen l) (hc:c.Good) {d:Nat} (hd:d < c.n.toNat):(sfrm s gen d (sfrag c l d)).put=(sfrm s gen d (sfrag c l d)).bytes:=by unfold Frm.put; rw [h.right hc hd]; rfl
theorem get (h:SFit c s gen l) (hc:c.Good) {d:Nat} (hd:d < c.n.toNat):Frm.get (sfrm s gen d (sfrag c l d)).bytes=some (sfrm s gen d (sfrag c l d)):=Frm.get_bytes _ (h.ok hc d) (h.right hc hd)
theorem len (h:SFit c s gen l) (hc:c.Good) (d:Nat):(sfrm s gen d (sfrag c l d)).bytes.length=128:=Frm.bytes_len _ (h.ok hc d)
theorem lenk (h:SFit c s gen l) (hc:c.Good):(l.length:Int)=c.k:=by rw [h.bl.n]; have:=hc.k0; omega
end SFit
namespace Dsk
def sg (D:Dsk) (c:Cfg) (s d:Nat):Option Frm :=
 if D.dead then none else (Frm.get (D.read (ssecN c s))).bind fun f=>if f.kind=3/\f.slot=d/\f.stripe=s then some f else none
theorem sg_has {D:Dsk} {c:Cfg} {s d:Nat} {gen:Int} {l:List (List Nat)} (hc:c.Good) (hx:SFit c s gen l) (hd:d < c.n.toNat) (ha:D.dead=false) (hr:D.read (ssecN c s)=(sfrm s gen d (sfrag c l d)).bytes):D.sg c s d=some (sfrm s gen d (sfrag c l d)):=by
 unfold sg
 rw [ha,hr,hx.get hc hd]
 simp only [Bool.false_eq_true,if_false,Option.bind_some]
 rw [if_pos ⟨rfl,rfl,rfl⟩]
theorem sg_dead {D:Dsk} {c:Cfg} {s d:Nat} (h:D.dead=true):D.sg c s d=none:=by unfold sg; rw [h]; rfl
theorem sg_none {D:Dsk} {c:Cfg} {s d:Nat} (h:Frm.get (D.read (ssecN c s))=none):D.sg c s d=none:=by
 unfold sg; rw [h]
 split<;>rfl
end Dsk
theorem Super.sknown {R:Rck} {c:Cfg} {m:Nat} (h:Super R c m) {s:Nat} (hs:s < c.stripes.toNat):R.sknown c (s:Int)=true:=by
 unfold Rck.sknown
 rw [h.fits]
 simp only [Bool.true_and,Bool.and_eq_true,decide_eq_true_eq]
 omega
theorem Super.sgood {R:Rck} {c:Cfg} {m:Nat} (h:Super R c m) {d s:Nat} (hd:d < c.n.toNat) (hs:s < c.stripes.toNat):R.sgood c (s:Int) d=(R.dsk d).sg c s d:=by
 have hm:=ssecN_lt h.good h.fit hs
 unfold Rck.sgood Dsk.sg
 rw [ssec_eq h.good]
 rcases ha:(R.dsk d).dead with _ | _
 ·
  rw [h.live.get hd hm ha]
  rcases hg:Frm.get ((R.dsk d).read (ssecN c s)) with _ | f
  ·
   rfl
  ·
   simp only [Bool.false_eq_true,if_false,Option.bind_some]
   have e:(0<=(s:Int)->f.stripe=s)↔f.stripe=s:=⟨fun q=>q (by omega),fun q _=>q⟩
   simp only [e]
 ·
  rw [h.live.get_dead hd hm ha]
  rfl
theorem newG_congr {g g':Nat->Option Frm}:∀ n,(∀ d,d < n->g d=g' d)->newG g n=newG g' n
 | 0,_=>rfl
 | n+1,h=>by
  have:=newG_congr n fun d hd=>h d (by omega)
  unfold newG
  rw [h n (by omega),this]
theorem partsG_congr {g g':Nat->Option Frm} {G:Int}:∀ {n:Nat},(∀ d,d < n->g d=g' d)->partsG g G n=partsG g' G n
 | 0,_=>rfl
 | n+1,h=>by
  have e:partAt g G n=partAt g' G n:=by unfold partAt; rw [h n (by omega)]
  rw [Zbg,Zbg,partsG_congr fun d hd=>h d (by omega),e]
theorem Super.slook {R:Rck} {c:Cfg} {m:Nat} (h:Super R c m) {s:Nat} (hs:s < c.stripes.toNat) {g:Nat->Option Frm} (hg:∀ d:Nat,d < c.n.toNat->(R.dsk d).sg c s d=g d):R.slook c (s:Int)=(newG g c.n.toNat,partsG g (newG g c.n.toNat) c.n.toNat):=by
 unfold Rck.slook
 rw [if_pos (h.sknown hs),look_fold]
 have e:∀ d,d < c.n.toNat->R.sgood c (s:Int) d=g d:=fun d hd=>(h.sgood hd hs).trans (hg d hd)
 rw [newG_congr _ e,partsG_congr e]
def hasG (g:Nat->Option Frm) (G:Int) (d:Nat):Bool:=match g d with
 | some f=>decide (f.gen=G)
 | none=>false
theorem partsG_eq {g:Nat->Option Frm} {G:Int} (hG:G≠0) {b:Nat->List Nat} {n:Nat} (h:∀ d f,d < n->g d=some f->f.gen=G->f.data=b d):partsG g G n=((List.range n).filter (hasG g G)).map fun d=>(d,b d):=by
 induction n with
 | zero=>rfl
 | succ n ih =>
  rw [Zbg,ih fun d f hd=>h d f (by omega),List.range_succ,List.filter_append,List.map_append]
  congr 1
  unfold partAt
  rcases hg:g n with _ | f
  ·
   simp [hasG,hg]
  ·
   simp only [Option.bind_some]
   by_cases e:f.gen=G
   ·
    rw [if_pos ⟨e,by omega⟩,h n f (by omega) hg e]
    simp [hasG,hg,e]
   ·
    rw [if_neg (fun q=>e q.1)]
    simp [hasG,hg,e]
theorem newG_is {g:Nat->Option Frm} {G:Int} {n d:Nat} {f:Frm} (hG:0<=G) (h:∀ d f,d < n->g d=some f->f.gen<=G) (hd:d < n) (hf:g d=some f) (he:f.gen=G):newG g n=G:=by
 have h1:=newG_eq hG n h
 have h2:=newG_ge g n d f hd hf
 omega
theorem Super.sget_ok {R:Rck} {c:Cfg} {m:Nat} (h:Super R c m) (k4:c.k<=4) (n6:c.n<=6) {s:Nat} (hs:s < c.stripes.toNat) {g:Nat->Option Frm} (hg:∀ d:Nat,d < c.n.toNat->(R.dsk d).sg c s d=g d) {G:Int} {l:List (List Nat)} (hl:Cd.Blocks c.k.toNat 108 l) (hG:1<=G)
  (h1:∀ d f,d < c.n.toNat->g d=some f->f.gen<=G/\(f.gen=G->f.data=sfrag c l d)) (h2:c.k.toNat<=((List.range c.n.toNat).filter (hasG g G)).length) (hup:c.k<=R.online.length):R.sget c (s:Int)=(l,G,none):=by
 have hk0:=h.good.k0
 have hlk:=h.slook hs hg
 have hne:newG g c.n.toNat=G:=by
  rcases hq:(List.range c.n.toNat).filter (hasG g G) with _ | ⟨d,l'⟩
  ·
   rw [hq] at h2; simp at h2; omega
  ·
   have hd:d∈(List.range c.n.toNat).filter (hasG g G):=by rw [hq]; simp
   obtain ⟨hd1,hd2⟩:=List.mem_filter.1 hd
   have hd1:=List.mem_range.1 hd1
   unfold hasG at hd2
   rcases hf:g d with _ | f
   ·
    rw [hf] at hd2; cases hd2
   ·
    rw [hf] at hd2
    exact newG_is (by omega) (fun d f hd hf=>(h1 d f hd hf).1) hd1 hf (by simpa using hd2)
 rw [hne,partsG_eq (b:=sfrag c l) (by omega) fun d f hd hf=>(h1 d f hd hf).2] at hlk
 unfold Rck.sget
 rw [if_pos (h.sknown hs),if_neg (by rw [h.live.off]; simp; omega),hlk]
 simp only [List.length_map]
 rw [if_neg (by omega)]
 congr 1
 unfold decoded
 rw [<- List.map_take]
 generalize hps:((List.range c.n.toNat).filter (hasG g G)).take c.k.toNat=ps
 have hpl:ps.length=c.k.toNat:=by rw [<- hps,List.length_take]; omega
 have hsub:ps.Sublist (List.range 6):=by
  rw [<- hps]
  refine ((List.take_sublist _ _).trans List.filter_sublist).trans ?_
  have:(List.range c.n.toNat)=(List.range 6).take c.n.toNat:=(range_take6 (by omega)).symm
  rw [this]; exact List.take_sublist _ _
 rw [List.map_map,List.map_map]
 exact Cd.decode hl (by omega) hpl (Cd.good (by omega) (by omega) hpl hsub)
where
 range_take6 {n:Nat} (h:n<=6):(List.range 6).take n=List.range n:=by
  apply List.ext_getElem?
  intro i
  rw [List.getElem?_take]
  by_cases hi:i < n
  ·
   rw [if_pos hi]; simp [hi,show i < 6 by omega]
  ·
   rw [if_neg hi]; simp; omega
section
variable {c:Cfg} {m s:Nat} {gen:Int} {l:List (List Nat)}
def Dsk.sw (c:Cfg) (s:Nat) (gen:Int) (l:List (List Nat)) (d:Nat) (D:Dsk):Dsk:=D.write (ssecN c s) (sfrm s gen d (sfrag c l d)).bytes
theorem does_sput (hc:c.Good) (hm:c.sectors<=(m:Int)) (hx:SFit c s gen l):Does c.n.toNat m (fun R=>R.sputs c (s:Int) gen l) (c.n.toNat+c.n.toNat) fun d D=>(D.sw c s gen l d).flush:=by
 have d1:Does c.n.toNat m (each (Rck.srow c (s:Int) gen l) (List.range c.n.toNat)) (1*c.n.toNat) fun j D=>if j < c.n.toNat then D.sw c s gen l j else D:=by
  refine (Does.each (g:=fun d j D=>if j=d then D.write (ssecN c s) (sfrm s gen d (sfrag c l d)).bytes else D) (c:=1) (List.range c.n.toNat) fun d hd=>?_).congr (by simp) fun j D hj=>?_
  ·
   have hd:=List.mem_range.1 hd
   show Does c.n.toNat m (fun R=>R.write d (Rck.ssec c s) (sfrm s gen d (sfrag c l d)).put) 1 _
   rw [ssec_eq hc,hx.put hc hd]
   exact Does.write hd (ssecN_lt hc hm hx.st) (hx.len hc d)
  ·
   rw [show (fun (D:Dsk) (d:Nat)=>if j=d then D.write (ssecN c s) (sfrm s gen d (sfrag c l d)).bytes else D)=fun D d=>if j=d then D.sw c s gen l j else D from by
    funext D d
    by_cases e:j=d
    ·
     subst e; rfl
    ·
     rw [if_neg e,if_neg e]]
   exact foldl_pick (Dsk.sw c s gen l j) j _ D
 have d2:Does c.n.toNat m (each (fun R (d:Nat)=>R.flush d) (List.range c.n.toNat)) (1*c.n.toNat) fun j D=>if j < c.n.toNat then D.flush else D :=
  (Does.each (f:=fun R (d:Nat)=>R.flush d) (g:=fun d j D=>if j=d then D.flush else D) (List.range c.n.toNat) fun d hd=>Does.flush (List.mem_range.1 hd)).congr (by simp) fun j D _=>foldl_pick Dsk.flush j _ D
 rw [Nat.one_mul] at d1 d2
 intro R F h
 refine ⟨fun hF=>?_,fun h0 h1=>?_⟩
 ·
  obtain ⟨R1,a1,a2,a3⟩:=(d1 R F h).1 (by omega)
  obtain ⟨R2,b1,b2,b3⟩:=(d2 R1 _ a2).1 (by unfold burn; split<;>omega)
  refine ⟨R2,?_,by rw [burn_add F _ _ (by omega)] at b2; exact b2,fun d hd=>?_⟩
  ·
   show R.sputs c s gen l=_
   unfold Rck.sputs
   rw [h.online,a1]
   simp only
   rw [a2.online,b1]
  ·
   rw [b3 d hd,a3 d hd]; simp only [hd,if_true]
 ·
  by_cases hk:((c.n.toNat:Nat):Int)<=F
  ·
   obtain ⟨R1,a1,a2,a3⟩:=(d1 R F h).1 (.inr hk)
   obtain ⟨e,R2,b1⟩:=(d2 R1 _ a2).2 (by unfold burn; rw [if_pos h0]; omega) (by unfold burn; rw [if_pos h0]; omega)
   refine ⟨e,R2,?_⟩
   show R.sputs c s gen l=_
   unfold Rck.sputs
   rw [h.online,a1]
   simp only
   rw [a2.online,b1]
  ·
   obtain ⟨e,R1,a1⟩:=(d1 R F h).2 h0 (by omega)
   refine ⟨e,R1,?_⟩
   show R.sputs c s gen l=_
   unfold Rck.sputs
   rw [h.online,a1]
theorem Super.sput_eq {R:Rck} (h:Super R c m) (hx:SFit c s gen l):R.sput c (s:Int) gen l=((R.sputs c (s:Int) gen l).1.map (.fault sSPut s),(R.sputs c (s:Int) gen l).2):=by
 unfold Rck.sput
 rw [if_pos]
 unfold Rck.sputOk
 rw [h.sknown hx.st]
 simp only [Bool.true_and,Bool.and_eq_true,decide_eq_true_eq]
 exact ⟨⟨hx.g0,hx.g1⟩,hx.lenk h.good⟩
theorem sput_does {R:Rck} (h:Pow R c.n.toNat m (-1)) (hc:c.Good) (hm:c.sectors<=(m:Int)) (hx:SFit c s gen l):∃ R',R.sput c (s:Int) gen l=(none,R')/\Pow R' c.n.toNat m (-1)/\∀ d:Nat,d < c.n.toNat->R'.dsk d=((R.dsk d).sw c s gen l d).flush:=by
 obtain ⟨R',a1,a2,a3⟩:=(does_sput hc hm hx R (-1) h).1 (.inl (by omega))
 have a1':R.sputs c (s:Int) gen l=(none,R'):=a1
 refine ⟨R',?_,a2,a3⟩
 rw [(⟨h.live,hc,hm⟩:Super R c m).sput_eq hx,a1']; rfl
end
namespace Dsk
variable {c:Cfg} {s:Nat} {gen:Int} {l:List (List Nat)}
theorem sw_read (D:Dsk) (d j:Nat) (hj:j < D.l.length):(D.sw c s gen l d).flush.read j=if j=ssecN c s then (sfrm s gen d (sfrag c l d)).bytes else D.read j:=by
 rw [flush_read _ _ (by show j < D.l.length; exact hj)]
 exact write_read D _ _ _
theorem sw_len (D:Dsk) (d:Nat):(D.sw c s gen l d).flush.l.length=D.l.length:=by rw [flush_len]; rfl
theorem sw_dead (D:Dsk) (d:Nat):(D.sw c s gen l d).flush.dead=D.dead:=rfl
theorem sw_rot (D:Dsk) (d j:Nat) (h:D.rot j=false):(D.sw c s gen l d).flush.rot j=false:=by
 show (if (true && ((D.sw c s gen l d).waits j).isSome)=true then false else D.rot j)=false
 split
 ·
  rfl
 ·
  exact h
end Dsk
end Go.Proofs.YtgjnnbomnoafcaaGreatDoor
namespace Go.Proofs.YtgjnnbomnoafcaaGreatDoor
set_option linter.unusedVariables false
abbrev Strs:=Nat->Option (Int × List (List Nat))
def updS (f:Strs) (s:Nat) (x:Int × List (List Nat)) (t:Nat):Option (Int × List (List Nat)):=if t=s then some x else f t
theorem updS_at (f:Strs) (s:Nat) (x:Int × List (List Nat)):updS f s x s=some x:=if_pos rfl
theorem updS_other (f:Strs) {s t:Nat} (x:Int × List (List Nat)) (h:t≠s):updS f s x t=f t:=if_neg h
structure SDw (D:Dsk) (d:Nat) (c:Cfg) (m:Nat) (f:Strs) (u:Bool) (B:Nat->Bool):Prop where
 len:D.l.length=m
 dead:D.dead=!u
 waits:∀ i,D.waits i=none
 rot:∀ i,B i=false->D.rot i=false
 has:∀ s gen l,s < c.stripes.toNat->f s=some (gen,l)->B (ssecN c s)=false->D.read (ssecN c s)=(sfrm s gen d (sfrag c l d)).bytes
 bad:∀ j,B j=true->Frm.get (D.read j)=none
def allB:Nat->Bool:=fun _=>true
theorem Frm.get_nil:Frm.get []=none:=by
 unfold Frm.get
 rw [if_neg (fun q=>by simp at q)]
theorem Dsk.blank_bad (D:Dsk) (j:Nat):Frm.get (D.blank.read j)=none:=by
 have e:D.blank.read j=if j < D.l.length then Dsk.zeros else []:=by
  unfold Dsk.blank Dsk.read
  by_cases h:j < D.l.length
  ·
   simp [List.getD_eq_getElem?_getD,h]
  ·
   simp [List.getD_eq_getElem?_getD,h]
 rw [e]
 split
 ·
  exact Dsk.zeros_get
 ·
  exact Frm.get_nil
namespace SDw
variable {D:Dsk} {d:Nat} {c:Cfg} {m:Nat} {f:Strs} {u:Bool} {B:Nat->Bool}
theorem new (c:Cfg) (m d:Nat):SDw (Dsk.new m) d c m (fun _=>none) true noB:=⟨Dsk.new_len m,rfl,fun _=>rfl,fun _ _=>rfl,fun s gen l _ h=>(by cases h),fun j h=>(by cases h)⟩
theorem put (h:SDw D d c m f true B) (hc:c.Good) (hm:c.sectors<=(m:Int)) {s:Nat} {gen:Int} {l:List (List Nat)} (hx:SFit c s gen l):SDw ((D.sw c s gen l d).flush) d c m (updS f s (gen,l)) true fun j=>B j && decide (j≠ssecN c s):=by
 have hlt:=ssecN_lt hc hm hx.st
 refine ⟨by rw [Dsk.sw_len]; exact h.len,by rw [Dsk.sw_dead]; exact h.dead,fun i=>rfl,fun i hi=>?_,fun t g' l' ht hf hb=>?_,fun j hj=>?_⟩
 ·
  by_cases e:i=ssecN c s
  ·
   subst e
   show (if (true && ((D.sw c s gen l d).waits (ssecN c s)).isSome)=true then false else D.rot (ssecN c s))=false
   have:(D.sw c s gen l d).waits (ssecN c s)=some (sfrm s gen d (sfrag c l d)).bytes:=if_pos rfl
   rw [this]; rfl
  ·
   rw [Bool.and_eq_false_iff] at hi
   refine Dsk.sw_rot D d i (h.rot i (hi.resolve_right ?_))
   simp [e]
 ·
  have hlt2:=ssecN_lt hc hm ht
  rw [Dsk.sw_read _ _ _ (by rw [h.len]; exact hlt2)]
  by_cases e:t=s
  ·
   subst e
   rw [updS_at] at hf; cases hf
   rw [if_pos rfl]
  ·
   rw [updS_other f _ e] at hf
   rw [if_neg (fun q=>e (ssecN_inj q))]
   refine h.has t g' l' ht hf ?_
   rw [Bool.and_eq_false_iff] at hb
   refine hb.resolve_right ?_
   simp only [ne_eq,decide_eq_false_iff_not,Classical.not_not]
   exact fun q=>e (ssecN_inj q)
 ·
  simp only [Bool.and_eq_true,decide_eq_true_eq] at hj
  by_cases hjm:j < D.l.length
  ·
   rw [Dsk.sw_read _ _ _ hjm,if_neg hj.2]; exact h.bad j hj.1
  ·
   have e:(D.sw c s gen l d).flush.read j=[]:=by
    unfold Dsk.flush Dsk.settle Dsk.read
    simp [List.getD_eq_getElem?_getD,show (D.sw c s gen l d).l.length=D.l.length from rfl,hjm]
   rw [e]; exact Frm.get_nil
theorem die (h:SDw D d c m f u B):SDw D.die d c m f false allB:=⟨by rw [Dsk.die_len]; exact h.len,rfl,fun _=>rfl,fun i hi=>(by cases hi),fun s gen l _ _ hb=>(by cases hb),fun j _=>Dsk.blank_bad D j⟩
theorem replace (h:SDw D d c m f u B):SDw D.replace d c m f true allB:=⟨by rw [Dsk.replace_len]; exact h.len,rfl,fun _=>rfl,fun i hi=>(by cases hi),fun s gen l _ _ hb=>(by cases hb),fun j _=>Dsk.blank_bad D j⟩
theorem rotted (h:SDw D d c m f true B) (hc:c.Good) (hm:c.sectors<=(m:Int)) (hd:d < c.n.toNat) {s:Nat} {gen:Int} {l:List (List Nat)} (hf:f s=some (gen,l)) (hx:SFit c s gen l) (hb:B (ssecN c s)=false) {a y:Nat} (ha:a<=124) (hy:y < 4294967296) (hy0:y≠0) :
  D.rotOk (ssecN c s:Nat) (a:Nat) y=true/\SDw (D.rotted (ssecN c s) a y) d c m f true fun j=>B j || decide (j=ssecN c s):=by
 have hlt:=ssecN_lt hc hm hx.st
 have hr:=h.has s gen l hx.st hf hb
 have hrd:∀ j,(D.rotted (ssecN c s) a y).read j=if j=ssecN c s then Dsk.xor4 (sfrm s gen d (sfrag c l d)).bytes a y else D.read j:=fun j=>by
  rw [Dsk.rotted_read D _ _ _ _ (by rw [h.len]; exact hlt) (h.waits _),hr]
 have hdead:D.dead=false:=h.dead
 refine ⟨?_,by rw [Dsk.rotted_len]; exact h.len,h.dead,h.waits,fun j hj=>?_,fun t g' l' ht hz hb'=>?_,fun j hj=>?_⟩
 ·
  unfold Dsk.rotOk
  rw [hdead,h.len,Int.toNat_natCast,h.rot _ hb]
  simp
  omega
 ·
  simp only [Bool.or_eq_false_iff,decide_eq_false_iff_not] at hj
  show (if j=ssecN c s then true else D.rot j)=false
  rw [if_neg hj.2]; exact h.rot j hj.1
 ·
  simp only [Bool.or_eq_false_iff,decide_eq_false_iff_not] at hb'
  rw [hrd,if_neg hb'.2]
  exact h.has t g' l' ht hz hb'.1
 ·
  simp only [Bool.or_eq_true,decide_eq_true_eq] at hj
  rw [hrd]
  split
  ·
   exact Frm.get_rot _ (hx.ok hc d) (hx.right hc hd) a y ha hy hy0
  ·
   rename_i hne
   exact h.bad j (hj.resolve_right hne)
theorem sg (h:SDw D d c m f u B) (hc:c.Good) (hd:d < c.n.toNat) {s:Nat} {gen:Int} {l:List (List Nat)} (hf:f s=some (gen,l)) (hx:SFit c s gen l):D.sg c s d=if u && !B (ssecN c s) then some (sfrm s gen d (sfrag c l d)) else none:=by
 rcases u with _ | _
 ·
  exact Dsk.sg_dead h.dead
 ·
  rcases hb:B (ssecN c s) with _ | _
  ·
   exact Dsk.sg_has hc hx hd h.dead (h.has s gen l hx.st hf hb)
  ·
   exact Dsk.sg_none (h.bad _ hb)
end SDw
structure SR (R:Rck) (c:Cfg) (m:Nat) (f:Strs) (U:Nat->Bool) (B:Nat->Nat->Bool):Prop where
 live:Live R c.n.toNat m
 good:c.Good
 fit:c.sectors<=(m:Int)
 dsk:∀ d:Nat,d < c.n.toNat->SDw (R.dsk d) d c m f (U d) (B d)
 fits:∀ s gen l,f s=some (gen,l)->SFit c s gen l
def allU:Nat->Bool:=fun _=>true
namespace SR
variable {R:Rck} {c:Cfg} {m:Nat} {f:Strs} {U:Nat->Bool} {B:Nat->Nat->Bool}
theorem super (h:SR R c m f U B):Super R c m:=⟨h.live,h.good,h.fit⟩
theorem new {c:Cfg} (hc:c.Good) {m:Nat} (hm:c.sectors<=(m:Int)):SR (Rck.new c.n.toNat m) c m (fun _=>none) allU fun _=>noB:=by
 have hn:1<=c.n.toNat:=by have:=hc.k0; have:=hc.k1; omega
 refine ⟨Live.new c.n.toNat m hn,hc,hm,fun d hd=>?_,fun s gen l h=>by cases h⟩
 rw [Live.new_dsk _ _ _ hd]; exact SDw.new c m d
theorem pow (h:SR R c m f U B) (hU:∀ d,d < c.n.toNat->U d=true):Pow R c.n.toNat m (-1):=Pow.of h.live fun j hj=>by rw [(h.dsk j hj).dead,hU j hj]; rfl
theorem put (h:SR R c m f U B) (hU:∀ d,d < c.n.toNat->U d=true) {s:Nat} {gen:Int} {l:List (List Nat)} (hx:SFit c s gen l):∃ R',R.sput c (s:Int) gen l=(none,R')/\SR R' c m (updS f s (gen,l)) U fun d j=>B d j && decide (j≠ssecN c s):=by
 obtain ⟨R',h1,h2,h3⟩:=sput_does (h.pow hU) h.good h.fit hx
 refine ⟨R',h1,h2.live,h.good,h.fit,fun d hd=>?_,fun t g' l' ht=>?_⟩
 ·
  rw [h3 d hd,hU d hd]
  exact (hU d hd▸h.dsk d hd:SDw (R.dsk d) d c m f true (B d)).put h.good h.fit hx
 ·
  unfold updS at ht
  split at ht
  ·
   rename_i e; cases ht; rw [e]; exact hx
  ·
   exact h.fits t g' l' ht
theorem setD (h:SR R c m f U B) {i:Nat} (hi:i < c.n.toNat) {D:Dsk} {u:Bool} {b:Nat->Bool} (hD:SDw D i c m f u b):SR (R.setD i D) c m f (fun d=>if d=i then u else U d) fun d=>if d=i then b else B d:=by
 obtain ⟨h3,h4⟩:=h.live.setD D hD.len hi
 refine ⟨h3,h.good,h.fit,fun d hd=>?_,h.fits⟩
 rw [h4]
 by_cases e:d=i
 ·
  subst e; simp only [if_true]; exact hD
 ·
  simp only [e,if_false]; exact h.dsk d hd
theorem die (h:SR R c m f U B) {i:Nat} (hi:i < c.n.toNat):SR (R.die i) c m f (fun d=>if d=i then false else U d) fun d=>if d=i then allB else B d:=by
 rw [h.live.die hi]; exact h.setD hi (h.dsk i hi).die
theorem replace (h:SR R c m f U B) {i:Nat} (hi:i < c.n.toNat):SR (R.replace i) c m f (fun d=>if d=i then true else U d) fun d=>if d=i then allB else B d:=by
 rw [h.live.replace hi]; exact h.setD hi (h.dsk i hi).replace
theorem rot (h:SR R c m f U B) {i s:Nat} {gen:Int} {l:List (List Nat)} (hi:i < c.n.toNat) (hu:U i=true) (hf:f s=some (gen,l)) (hb:B i (ssecN c s)=false) {a y:Nat} (ha:a<=124) (hy:y < 4294967296) (hy0:y≠0) :
  R.rotOk i (ssecN c s:Nat) (a:Nat) y=true/\SR (R.rot i (ssecN c s:Nat) (a:Nat) y) c m f (fun d=>if d=i then true else U d) fun d=>if d=i then (fun j=>B i j || decide (j=ssecN c s)) else B d:=by
 obtain ⟨h1,h2⟩:=(hu▸h.dsk i hi:SDw (R.dsk i) i c m f true (B i)).rotted h.good h.fit hi hf (h.fits s gen l hf) hb ha hy hy0
 refine ⟨by unfold Rck.rotOk; rw [h.live.has hi,h1]; rfl,?_⟩
 rw [h.live.rot hi,if_pos h1,Int.toNat_natCast,Int.toNat_natCast]
 exact h.setD hi h2
def isG (c:Cfg) (U:Nat->Bool) (B:Nat->Nat->Bool) (s d:Nat):Bool:=U d && !B d (ssecN c s)
def gs (c:Cfg) (U:Nat->Bool) (B:Nat->Nat->Bool) (s:Nat) (gen:Int) (l:List (List Nat)) (d:Nat):Option Frm:=if isG c U B s d then some (sfrm s gen d (sfrag c l d)) else none
theorem sg (h:SR R c m f U B) {s:Nat} {gen:Int} {l:List (List Nat)} (hf:f s=some (gen,l)) {d:Nat} (hd:d < c.n.toNat):(R.dsk d).sg c s d=gs c U B s gen l d:=(h.dsk d hd).sg h.good hd hf (h.fits s gen l hf)
theorem online (h:SR R c m f U B):R.online=(List.range c.n.toNat).filter U:=by
 unfold Rck.online
 rw [h.live.len]
 refine List.filter_congr fun d hd=>?_
 have hd:=List.mem_range.1 hd
 rw [h.live.up hd,(h.dsk d hd).dead]; simp
theorem hasG_gs (c:Cfg) (U:Nat->Bool) (B:Nat->Nat->Bool) (s:Nat) (gen:Int) (l:List (List Nat)) (d:Nat):hasG (gs c U B s gen l) gen d=isG c U B s d:=by
 unfold hasG gs
 rcases isG c U B s d with _ | _
 ·
  rfl
 ·
  simp [sfrm]
theorem good_le (c:Cfg) (U:Nat->Bool) (B:Nat->Nat->Bool) (s n:Nat):((List.range n).filter (isG c U B s)).length<=((List.range n).filter U).length:=by
 rw [<- List.countP_eq_length_filter,<- List.countP_eq_length_filter]
 refine List.countP_mono_left fun d _ h=>?_
 unfold isG at h
 simp only [Bool.and_eq_true] at h
 exact h.1
theorem get (h:SR R c m f U B) (k4:c.k<=4) (n6:c.n<=6) {s:Nat} {gen:Int} {l:List (List Nat)} (hf:f s=some (gen,l)) (hk:c.k<=(((List.range c.n.toNat).filter (isG c U B s)).length:Nat)):R.sget c (s:Int)=(l,gen,none):=by
 have hx:=h.fits s gen l hf
 have h1:=good_le c U B s c.n.toNat
 refine h.super.sget_ok k4 n6 hx.st (fun d hd=>h.sg hf hd) hx.bl hx.g0 (fun d f _ hf'=>?_) ?_ (by rw [h.online]; omega)
 ·
  unfold gs at hf'
  split at hf'
  ·
   cases hf'; exact ⟨Int.le_refl _,fun _=>rfl⟩
  ·
   cases hf'
 ·
  rw [List.filter_congr fun d _=>hasG_gs c U B s gen l d]; omega
end SR
end Go.Proofs.YtgjnnbomnoafcaaGreatDoor
namespace Go.Proofs.YtgjnnbomnoafcaaGreatDoor
set_option linter.unusedVariables false
open Go Go.RowKit
theorem ssec_bd (c:Cfg) (h:c.Good):0<=c.slots*c.k/\c.slots*c.k<=1000:=by
 obtain ⟨q1,q2,q3,q4,q5,q6,q7,q8,q9⟩:=h
 have e1:0<=c.slots*c.k:=Int.mul_nonneg (by omega) (by omega)
 have e2:c.slots*c.k<=8*c.k:=Int.mul_le_mul_of_nonneg_right (by omega) (by omega)
 omega
set_option maxRecDepth 100000 in
theorem ssector_c (c:Cfg) (h:c.Good) (s:Int) (h0:0<=s) (h1:s < c.stripes) (w:World) :
  Calls Tryz.prog 147 #[.agg (Cfg.A c),.int .i64 s] w fun e w'=>e=.returned (.int .i64 (Rck.ssec c s))/\Ext w w':=by
 have a1:=Cfg.A1 c
 have a4:=Cfg.A4 c
 obtain ⟨b0,b1⟩:=ssec_bd c h
 have hs:s < 1000000:=by obtain ⟨q1,q2,q3,q4,q5,q6,q7,q8,q9⟩:=h; omega
 have HR:Hid (Rck.ssec c s=1+c.slots*c.k+s):=hid rfl
 rw [HR.out]
 clear HR h h1
 obtain ⟨id,k,n,st,sl⟩:=c
 simp only at a1 a4 b0 b1 ⊢
 generalize Cfg.A _=A at *
 obtain ⟨p,hp⟩:∃ p,sl*k=p:=⟨_,rfl⟩
 rw [hp] at b0 b1 ⊢
 have hw:wrap64 (sl*k)=p:=by rw [hp]; unfold wrap64; omega
 have w2:wrap64 (1+p)=1+p:=by unfold wrap64; omega
 have w3:wrap64 (1+p+s)=1+p+s:=by unfold wrap64; omega
 clear hp b0 b1
 go_enter Tryz.func147,Tryz.ntmps147
 go_wp2
 go_ret
 exact ⟨ret_int (by simp only [hw,w2,w3]),(Ext.refl w).alloc _⟩
set_option maxRecDepth 100000 in
set_option maxHeartbeats 1000000 in
theorem sknown_c {S:Nat->Prop} {w:World} {r:Nat} {R:Rck} (h:RackAt S w r R) (c:Cfg) (s:Int) :
  Calls Tryz.prog 145 #[.pointer (some ⟨r,0,none⟩),.agg (Cfg.A c),.int .i64 s] w fun e w'=>e=.returned (.bool (R.sknown c s))/\Ext w w':=by
 obtain ⟨W0,hW0⟩:∃ W,w.alloc (.cells (Cfg.A c) 74)=W:=⟨_,rfl⟩
 have X0:Ext w W0:=hW0▸(Ext.refl w).alloc _
 have HC:=hid (show W0.heap[w.heap.size]?=some (.cells (Cfg.A c) 74 (0,0)) from hW0▸heap_alloc_new _ _)
 have HX0:=hid X0
 have H0:=hid (h.ext X0)
 have HF:Hid (R.sknown c s=(R.fits c && decide (0<=s) && decide (s < c.stripes))):=hid rfl
 obtain ⟨kb,hkb⟩:∃ b,R.sknown c s=b:=⟨_,rfl⟩
 rw [hkb] at HF ⊢
 clear X0 h hkb
 go_enter Tryz.func145,Tryz.ntmps145
 go_wp2_with (refine Zae rfl 74 _ rfl ⟨w.heap.size,0,none⟩ rfl (Cfg.A c) (Za6 c) (Zaj HC.out) ?_)
 refine (sfits_c H0.out c).mono ?_
 rintro e w2 ⟨rfl,x2⟩
 have HX2:=hid (Ext.trans HX0.out x2)
 have c3:w2.cell? ⟨w.heap.size,3,none⟩=some (.int .i64 c.stripes):=(Zaf (Ext.at x2 HC.out)).trans (Cfg.A3 c)
 clear x2
 rcases hf:R.fits c with _ | _
 ·
  have HV:=hid (show kb=false by rw [HF.out,hf]; rfl)
  clear hf
  go_wp2
  go_ret
  exact ⟨Zas HV.out.symm,HX2.out⟩
 ·
  by_cases h0:0<=s
  ·
   have HV:=hid (show kb=decide (s < c.stripes) by rw [HF.out,hf,decide_eq_true h0]; rfl)
   clear hf
   go_wp2
   go_ret
   exact ⟨Zas HV.out.symm,HX2.out⟩
  ·
   have HV:=hid (show kb=false by rw [HF.out,hf,decide_eq_false h0]; rfl)
   clear hf
   go_wp2
   go_ret
   exact ⟨Zas HV.out.symm,HX2.out⟩
open Go Go.RowKit Gf
structure CpSt (w0 wr:World) (l:List (List Nat)) (j:Nat) (v:Value):Prop where
 ext:Ext w0 wr
 ex:∃ es,OwnVs wr w0.heap.size 38 1 v es/\es.length=j/\∀ i,i < j->∃ b,es[i]?=some (rowE b 108)/\ABlk wr b (Cd.B l i)
theorem CpSt.more {w0 wr w':World} {j:Nat} {ls:List (List Nat)} {v:Value} (h:CpSt w0 wr ls j v) (e:Ext wr w'):CpSt w0 w' ls j v:=by
 obtain ⟨es,h2,h3,h4⟩:=h.ex
 refine ⟨Ext.trans h.ext e,es,h2.ext e,h3,fun i hi=>?_⟩
 obtain ⟨b,e1,e2⟩:=h4 i hi
 exact ⟨b,e1,e.at e2⟩
theorem CpSt.add {w0 W:World} {j b:Nat} {ls:List (List Nat)} {a:Option Addr} {c:Nat} (h:CpSt w0 W ls j (.slice a j c)) (hj:j < 1000) (hb:ABlk W b (Cd.B ls j)) :
  ∃ a' c' w',(Builtin.append_ #[159,159] 159 #[.slice a j c,.slice (some ⟨W.heap.size,0,none⟩) 1 1]).run Tryz.prog (W.alloc (.cells (rowE b 108) 38))=.ok (.slice a' (j+1) c') w'/\CpSt w0 w' ls (j+1) (.slice a' (j+1) c'):=by
 obtain ⟨es,h2,h3,h4⟩:=h.ex
 obtain ⟨v',w',e1,e2,e3,e4⟩:=h2.add (tsl:=159) Tryz.underlying159 infoRow rfl (by omega) (rowE b 108) rfl (by intro u hu; simp [rowE] at hu; subst hu; rfl) (by omega) (by omega) h.ext.size
 obtain ⟨a',c',ev',_⟩:=e2.slice
 have hlen:(es++[rowE b 108]).length=j+1:=by simp [h3]
 rw [hlen] at ev'
 subst ev'
 have hk:∀ b' l',ABlk W b' l'->ABlk w' b' l':=fun b' l' q=>e3.at q (h2.not_at (by decide) q)
 refine ⟨a',c',w',e1,e4 w0 (Nat.le_refl _) h.ext,_,e2,hlen,fun i hi=>?_⟩
 rcases Nat.lt_or_ge i j with q | q
 ·
  obtain ⟨b',x1,x2⟩:=h4 i q
  exact ⟨b',by rw [List.getElem?_append_left (by omega)]; exact x1,hk _ _ x2⟩
 ·
  obtain rfl:i=j:=by omega
  exact ⟨b,by rw [List.getElem?_append_right (by omega),h3]; simp,hk _ _ hb⟩
theorem ABlk.bytes {w:World} {b:Nat} {l:List Nat} (h:ABlk w b l) (hl:l.length=108) (hb:∀ x∈l,x < 256):BytesAt w (some ⟨b,0,none⟩) l.length l:=by
 refine ⟨rfl,by omega,hb,.inr ⟨b,0,rfl,fun i hi=>?_⟩⟩
 rw [Nat.zero_add]
 refine (Zaf h).trans ?_
 have:=Zb5 l i hi
 simpa using this
theorem CpSt.out {w0 wr:World} {n:Nat} {ls:List (List Nat)} {v:Value} (h:CpSt w0 wr ls n v) (hn:0 < n) (hln:ls.length=n) (hlen:∀ b∈ls,b.length=108) (hb:∀ b∈ls,∀ x∈b,x < 256) :
  ∃ g c,v=.slice (some ⟨g,0,none⟩) n c/\RowsAt wr g ls:=by
 obtain ⟨es,h2,h3,h4⟩:=h.ex
 obtain ⟨a,c,e,q⟩:=h2.slice
 rcases q with ⟨q,_⟩ | ⟨g,rfl,_,_,_,hv⟩
 ·
  rw [q] at h3; simp at h3; omega
 ·
  rw [h3] at e
  refine ⟨g,c,e,fun i l hi=>?_⟩
  have hin:i < n:=by
   rcases Nat.lt_or_ge i n with q | q
   ·
    exact q
   ·
    rw [List.getElem?_eq_none (by omega)] at hi; cases hi
  have hm:=List.mem_of_getElem? hi
  have hl:Cd.B ls i=l:=by unfold Cd.B; rw [List.getD_eq_getElem?_getD,hi]; rfl
  obtain ⟨b,e1,e2⟩:=h4 i hin
  rw [hl] at e2
  refine ⟨b,108,?_,e2.bytes (hlen l hm) (hb l hm)⟩
  have:=hv i (rowE b 108) e1 0 _ rfl
  rw [hlen l hm]
  simpa using this
def FramesPost (w:World) (c:Cfg) (s gen:Int) (l:List (List Nat)) (e:Ending) (w':World):Prop :=
 ∃ g cp,e=.returned (.tuple #[.slice (some ⟨g,0,none⟩) c.n.toNat cp,.nilIface])/\w.heap.size<=g/\VsAt w' g 112 ((List.range c.n.toNat).map fun d=>Frm.A (sfrm s gen d (sfrag c l d)))/\Ext w w'
theorem infoFrm:(Tryz.prog.info? 42).map (fun i=>(i.zero,i.size,i.bytes))=some (some (.agg (Frm.A Frm.zero)),112,144):=by kernel_rfl
theorem addrPlus (g o q:Nat):(⟨g,o,none⟩:Addr).add q=⟨g,o+q,none⟩:=by unfold Addr.add; split<;>simp_all
attribute [local irreducible] wpSQ
set_option maxRecDepth 100000 in
set_option maxHeartbeats 4000000 in
theorem frames_c {w:World} (c:Cfg) (hc:c.Good) (s gen:Int) (l:List (List Nat)) (hlk:(l.length:Int)=c.k) (hl8:∀ b∈l,b.length=108) (hlb:∀ b∈l,∀ x∈b,x < 256) (a:Option Addr) (cp:Nat) (hb:BlksAt w a l) :
  Calls Tryz.prog 146 #[.agg (Cfg.A c),.int .i64 s,.int .i64 gen,.slice a l.length cp] w (FramesPost w c s gen l):=by
 have k0:=hc.k0
 have k1:=hc.k1
 have n1:=hc.n1
 obtain ⟨k,hk⟩:∃ k:Nat,c.k=k:=⟨c.k.toNat,by omega⟩
 obtain ⟨n,hn⟩:∃ n:Nat,c.n=n:=⟨c.n.toNat,by omega⟩
 have hkl:l.length=k:=by omega
 have a1:=Cfg.A1 c
 have a2:=Cfg.A2 c
 have hfr:∀ d,sfrag c l d=Cd.mix (Cd.row k d) l:=fun d=>by unfold sfrag; rw [hk]; rfl
 have HFR:=hid hfr
 have HPO:Hid (FramesPost w c s gen l=fun e w'=>∃ g cp,e=.returned (.tuple #[.slice (some ⟨g,0,none⟩) n cp,.nilIface])/\w.heap.size<=g/\VsAt w' g 112 ((List.range n).map fun d=>Frm.A (sfrm s gen d (sfrag c l d)))/\Ext w w'):=hid (by unfold FramesPost; rw [hn]; rfl)
 rw [HPO.out]
 rw [hk] at a1
 rw [hn] at a2
 have kk1:1<=k:=by omega
 have kn:k<=n:=by omega
 have n8:n<=8:=by omega
 have HB8:Hid (∀ i,i < k->Cd.B l i∈l):=hid fun i hi=>by unfold Cd.B; rw [List.getD_eq_getElem?_getD,List.getElem?_eq_getElem (by omega)]; exact List.getElem_mem _
 have HBA:=hid hb
 have HL8:=hid hl8
 have HLB:=hid hlb
 have HKL:=hid hkl
 have HCD:Hid (∀ w,Calls Tryz.prog 152 #[.int .i64 k,.int .i64 n] w fun e w'=>∃ cb,e=.returned (.tuple #[.pointer (some ⟨cb,0,none⟩),.nilIface])/\CodeAt w' cb k n/\Ext w w'):=hid (codenew_c k n kk1 kn n8)
 rw [hkl]
 clear hfr HPO hk hn hb hl8 hlb hlk hkl k0 k1 n1
 generalize sfrag c l=FR at *
 generalize Cfg.A c=A at *
 obtain ⟨W0,hW0⟩:∃ W,w.alloc (.cells A 74)=W:=⟨_,rfl⟩
 have X0:=hid (show Ext w W0 from hW0▸(Ext.refl w).alloc _)
 have hc0:W0.heap[w.heap.size]?=some (.cells A 74 (0,0)):=hW0▸heap_alloc_new _ _
 have d1:W0.cell? ⟨w.heap.size,1,none⟩=some (.int .i64 k):=(Zaf hc0).trans a1
 have d2:W0.cell? ⟨w.heap.size,2,none⟩=some (.int .i64 n):=(Zaf hc0).trans a2
 clear hc0 a1 a2
 have hz:=zero_block
 go_enter Tryz.func146,Tryz.ntmps146
 go_wp2_with fail
 refine (HCD.out W0).mono ?_
 rintro e w1 ⟨cb,rfl,hcode,x1⟩
 have HCO:=hid hcode
 have HX1:=hid (Ext.trans X0.out x1)
 have HS0:=hid (show CpSt w1 w1 l 0 (.slice none 0 0) from ⟨Ext.refl _,[],OwnVs.nil _ _ _ _,rfl,fun i hi=>by omega⟩)
 clear hcode x1 d1 d2
 go_wp2
 go_loopw [32,12] (fun t v wr=>∃ (j:Nat) (a:Option Addr) (c:Nat),t=.int .i64 j/\v=.slice a j c/\j<=k/\CpSt w1 wr l j v) (fun t _ _=>k - (intOf t).toNat)
 case atStart=>exact ⟨0,none,0,rfl,rfl,by omega,HS0.out⟩
 case round =>
  clear HS0
  obtain ⟨j,a',c',rfl,rfl,hj,hst⟩:=hrel
  have HST:=hid hst
  have HX:=hid (Ext.trans HX1.out hst.ext)
  clear hst
  by_cases hjk:j < k
  ·
   have hB8:=HB8.out j hjk
   have he:l[j]?=some (Cd.B l j):=by
    unfold Cd.B; rw [List.getD_eq_getElem?_getD,List.getElem?_eq_getElem (by rw [HKL.out]; exact hjk)]; rfl
   obtain ⟨g,hg,hcl⟩:=HBA.out j _ he
   subst hg
   have hbl:=HL8.out _ hB8
   obtain ⟨b,hbd⟩:∃ b,Cd.B l j=b:=⟨_,rfl⟩
   rw [hbd] at hcl hbl hB8
   have HBD:=hid hbd
   have HBC:Hid (∀ i v,(bA b).toList[i]?=some v->wr.cell? ((⟨g,j*108,none⟩:Addr).add i)=some v):=hid fun i v hv=>by
    have hi:i < 108:=by
     rcases Nat.lt_or_ge i 108 with q | q
     ·
      exact q
     ·
      rw [List.getElem?_eq_none (by rw [Array.length_toList,Za3]; omega)] at hv; cases hv
    rw [addrPlus,Ext.cell HX.out (hcl i hi)]
    have:=Zb5 b i (by omega)
    rw [<- Array.getElem?_toList] at this
    rw [<- hv,<- this]
   have HSB:Hid ((bA b).size=108):=hid (by rw [Za3,hbl])
   have hbs:(wr.alloc (.cells (bA z108) 120)).heap[wr.heap.size]?=some (.cells (bA z108) 120 (0,0)):=Zad
   obtain ⟨W,hW⟩:∃ W,wr.alloc (.cells (bA b) 120)=W:=⟨_,rfl⟩
   obtain ⟨nb,hnb⟩:∃ nb,wr.heap.size=nb:=⟨_,rfl⟩
   have hab:ABlk W nb (Cd.B l j):=by rw [HBD.out,<- hW,<- hnb]; exact Zad
   have XW:=hid (show Ext wr W from hW▸(Ext.refl wr).alloc _)
   obtain ⟨a2,c2,w3,hap,hst3⟩:=(HST.out.more XW.out).add (b:=nb) (by omega) hab
   have HS3:=hid hst3
   have HW:=hid hW; have HNB:=hid hnb
   have HZB:Hid ((bA z108).size=108):=hid (by rw [Za3]; simp [z108])
   have j0:(0:Int)<=(j:Int):=by omega
   have j1:(j:Int) < (k:Int):=by omega
   clear hst3 hab hcl hB8 he hbd hW hnb hbl
   go_wp2_with (first
    | (guard_target=wpList _ _ _ (⟨some _,Op.load _ _,_,_,_,none⟩::_) _ _; refine Zae rfl 120 _ rfl ⟨g,j*108,none⟩ rfl (bA b) (by rw [HSB.out]; exact aggBlock) HBC.out ?_)
    | (guard_target=wpList _ _ _ (⟨none,Op.store _ _ _,_,_,_,none⟩::_) _ _; have hb0:=hbs; clear hbs; refine Zab rfl 120 _ _ rfl wr.heap.size rfl (bA b) _ rfl 120 (by rw [HSB.out]; exact aggBlock) hb0 (by rw [HSB.out,HZB.out]) (bA_one _) ?_; rw [Zao,HW.out,HNB.out])
    | (guard_target=wpList _ _ _ (⟨some _,Op.buildSlice _ _ _,_,_,_,none⟩::_) _ _; refine Zag rfl 159 38 _ rfl (rowE nb 108) _ _ 1 24 Tryz.underlying159 infoRow (by omega) (by omega) rfl rfl rfl ?_)
    | (at_builtin; refine wpList_append_run rfl _ _ _ rfl _ _ _ _ rfl rfl hap ?_))
   go_roundw
   case rel=>exact ⟨j+1,a2,c2,by go_num,rfl,by omega,HS3.out⟩
   case measure=>simp [intOf]; omega
  ·
   obtain rfl:k=j:=by omega
   have hlen:∀ i,i < l.length->(Cd.B l i).length=108:=fun i hi=>HL8.out _ (HB8.out i (by rw [HKL.out] at hi; exact hi))
   have hbyt:∀ i,∀ x∈Cd.B l i,x < 256:=fun i=>by
    rcases Nat.lt_or_ge i k with q | q
    ·
     exact HLB.out _ (HB8.out i q)
    ·
     unfold Cd.B
     rw [List.getD_eq_getElem?_getD,List.getElem?_eq_none (by rw [HKL.out]; exact q)]
     intro x hx; simp at hx
   obtain ⟨g1,c1,ev,hr1⟩:=HST.out.out (by omega) HKL.out HL8.out HLB.out
   cases ev
   have HR1:=hid hr1
   have HML:=hid (show ∀ i,(Cd.mix (Cd.row k i) l).length=108 from fun i=>by unfold Cd.mix; rw [Cd.mixK_len,hlen 0 (by rw [HKL.out]; omega)])
   have HLN:=hid hlen
   have HBY:=hid hbyt
   clear hr1 hlen hbyt
   go_wp2_with fail
   refine (encode_c (HCO.out.ext HST.out.ext) g1 _ l HR1.out HKL.out kk1 (by omega) (by omega) n8 (by omega) (by omega) HLN.out HBY.out).mono ?_
   rintro e w2 ⟨sg,sc,rfl,hrows,x2⟩
   have HRW:=hid hrows
   have HX2:=hid (Ext.trans HX.out x2)
   clear hrows x2
   have HO0:=hid (OwnVs.nil w2 w2.heap.size 42 112)
   go_wp2
   go_loopw [52,16] (fun t v wr=>∃ (j:Nat) (a:Option Addr) (c:Nat),t=.int .i64 j/\v=.slice a j c/\j<=n/\OwnVs wr w2.heap.size 42 112 v ((List.range j).map fun d=>Frm.A (sfrm s gen d (FR d)))/\Ext w2 wr) (fun t _ _=>n - (intOf t).toNat)
   case atStart=>exact ⟨0,none,0,rfl,rfl,by omega,HO0.out,Ext.refl _⟩
   case round =>
    clear HO0
    obtain ⟨j,a',c',rfl,rfl,hj,hown,hx3⟩:=hrel
    have HO:=hid hown
    have HX3:=hid hx3
    clear hown hx3
    by_cases hjn:j < n
    ·
     obtain ⟨b,bc,q1,q2⟩:=HRW.out j (Cd.mix (Cd.row k j) l) (by simp [hjn])
     have hdl:=HML.out j
     have hok:(Frm.A (sfrm s gen j (FR j))).size=112:=Frm.A_size _ ⟨by show (FR j).length=108; rw [HFR.out,hdl],fun y hy=>by
      have:=q2.byte y (by rw [<- HFR.out]; exact hy)
      exact this⟩
     have HBU:=hid (built_five 3 j s gen (FR j) (by rw [HFR.out,hdl]))
     have hfj:=HFR.out j
     obtain ⟨D,hD⟩:∃ D,FR j=D:=⟨_,rfl⟩
     rw [<- hfj,hD] at q1 q2 hdl
     rw [hD] at hok HBU
     rw [hdl] at q1
     have hq1:=HX3.out.cell q1
     have HBC:Hid (∀ i v,(bA D).toList[i]?=some v->wr.cell? ((⟨b,0,none⟩:Addr).add i)=some v):=hid fun i v hv=>by
      have hi:i < 108:=by
       rcases Nat.lt_or_ge i 108 with q | q
       ·
        exact q
       ·
        rw [List.getElem?_eq_none (by rw [Array.length_toList,Za3]; omega)] at hv; cases hv
      rw [addrPlus]
      have q3:=q2.get i (by omega)
      refine (HX3.out.cell q3).trans ?_
      have:=Zb5 D i (by omega)
      rw [<- Array.getElem?_toList] at this
      rw [<- hv,<- this]
     have HSB:Hid ((bA D).size=108):=hid (by rw [Za3,hdl])
     have harr:∀ (W:World),Sem.run Tryz.prog (Instr.arrayAt 120 (.slice (some ⟨b,0,none⟩) 108 bc)) W=.ok (.pointer (some ⟨b,0,none⟩)) W:=fun W=>rfl
     obtain ⟨v',w3,hap,hown2,_,hx4⟩:=HO.out.add (tsl:=213) Tryz.underlying213 infoFrm (by show (Frm.A Frm.zero).size=112; exact Frm.A_size _ Za9) (by omega) (Frm.A (sfrm s gen j D)) hok (Frm.A_one _) (by simp; omega) (by omega) HX3.out.size
     obtain ⟨a2,c2,ev2,_⟩:=hown2.slice
     have hl2:(((List.range j).map fun d=>Frm.A (sfrm s gen d (FR d)))++[Frm.A (sfrm s gen j D)]).length=j+1:=by simp
     rw [hl2] at ev2
     subst ev2
     have HO2:Hid (OwnVs w3 w2.heap.size 42 112 (.slice a2 (j+1) c2) ((List.range (j+1)).map fun d=>Frm.A (sfrm s gen d (FR d)))):=hid (by rw [List.range_succ,List.map_append,List.map_cons,List.map_nil,hD]; exact hown2)
     have HX4:=hid (hx4 w2 (Nat.le_refl _) HX3.out)
     have HOK:=hid hok
     have j0:(0:Int)<=(j:Int):=by omega
     have j1:(j:Int) < (n:Int):=by omega
     clear hown2 hx4 hl2 hok q1 q2 hD hfj hdl
     go_wp2_with (first
      | (guard_target=wpList _ _ _ (⟨some _,Op.load _ _,_,_,_,none⟩::_) _ _; refine Zae rfl 120 _ rfl ⟨b,0,none⟩ rfl (bA D) (by rw [HSB.out]; exact aggBlock) HBC.out ?_)
      | (guard_target=wpList _ _ _ (⟨some _,Op.build _ _,_,_,_,none⟩::_) _ _; refine Zav rfl 42 _ rfl (Frm.A (sfrm s gen j D)) ?_ ?_; (simp only [List.map_toArray,List.map_cons,List.map_nil,Act.eval]; simp only [Array.getD_eq_getD_getElem?,List.getElem?_toArray,List.getElem?_cons_succ,List.getElem?_cons_zero,Option.getD_some]; exact HBU.out))
      | (guard_target=wpList _ _ _ (⟨some _,Op.buildSlice _ _ _,_,_,_,none⟩::_) _ _; refine Zag rfl 213 42 _ rfl (Frm.A (sfrm s gen j D)) _ _ 112 144 Tryz.underlying213 infoFrm (by omega) (by omega) rfl rfl HOK.out ?_)
      | (at_builtin; refine wpList_append_run rfl _ _ _ rfl _ _ _ _ rfl rfl hap ?_))
     go_roundw
     case rel=>exact ⟨j+1,a2,c2,by go_num,rfl,by omega,HO2.out,HX4.out⟩
     case measure=>simp [intOf]; omega
    ·
     obtain rfl:n=j:=by omega
     go_wp2
     go_ret2
     obtain ⟨a3,c3,ev3,q⟩:=HO.out.slice
     rcases q with ⟨q,_⟩ | ⟨g3,rfl,hb3,_,_,hv⟩
     ·
      have:=congrArg List.length q
      simp at this
      omega
     ·
      simp only [List.length_map,List.length_range] at ev3
      cases ev3
      exact ⟨g3,_,rfl,by have:=HX2.out.size; omega,hv,Ext.trans HX2.out HX3.out⟩
end Go.Proofs.YtgjnnbomnoafcaaGreatDoor
namespace Go.Proofs.YtgjnnbomnoafcaaGreatDoor
set_option linter.unusedVariables false
open Go Go.RowKit Gf
theorem built_part (d:Int) (b:Nat):Tryz.prog.built 229 [(0,.int .i64 d),(1,.slice (some ⟨b,4,none⟩) 108 108)]=some #[.int .i64 d,.slice (some ⟨b,4,none⟩) 108 108]:=by kernel_rfl
theorem Zbe {R:Rck} {c:Cfg} {s:Int} (h:R.sknown c s=true):c.Good/\0<=s/\s < c.stripes:=by
 unfold Rck.sknown at h
 simp only [Bool.and_eq_true,decide_eq_true_eq] at h
 refine ⟨?_,h.1.2,h.2⟩
 have hf:=h.1.1
 unfold Rck.fits at hf
 simp only [Bool.and_eq_true] at hf
 exact (Cfg.right_iff c).1 hf.1.1
def partV (d b:Nat):Array Value:=#[.int .i64 d,.slice (some ⟨b,4,none⟩) 108 108]
structure LkSt (w0 wr:World) (ps:List (Nat × List Nat)) (v:Value):Prop where
 ext:Ext w0 wr
 ex:∃ es,OwnVs wr w0.heap.size 229 2 v es/\es.length=ps.length/\∀ (i:Nat) p,ps[i]?=some p->∃ (b:Nat) (f:Frm),es[i]?=some (partV p.1 b)/\wr.heap[b]?=some (.cells (Frm.A f) 42 (0,0))/\f.Ok/\f.data=p.2
theorem LkSt.nil {w0 wr:World} (h:Ext w0 wr):LkSt w0 wr [] (.slice none 0 0):=⟨h,[],OwnVs.nil _ _ _ _,rfl,fun i p hi=>by simp at hi⟩
theorem LkSt.more {w0 wr w':World} {ps:List (Nat × List Nat)} {v:Value} (h:LkSt w0 wr ps v) (e:Ext wr w'):LkSt w0 w' ps v:=by
 obtain ⟨es,h2,h3,h4⟩:=h.ex
 refine ⟨Ext.trans h.ext e,es,h2.ext e,h3,fun i p hi=>?_⟩
 obtain ⟨b,f,e1,e2,e3⟩:=h4 i p hi
 exact ⟨b,f,e1,e.at e2,e3⟩
theorem LkSt.slice {w0 wr:World} {ps:List (Nat × List Nat)} {v:Value} (h:LkSt w0 wr ps v):∃ a c,v=.slice a ps.length c:=by
 obtain ⟨es,h2,h3,h4⟩:=h.ex
 obtain ⟨a,c,ev,_⟩:=h2.slice
 exact ⟨a,c,by rw [ev,h3]⟩
theorem LkSt.add {w0 W:World} {d b:Nat} {f:Frm} {ps:List (Nat × List Nat)} {v:Value} (h:LkSt w0 W ps v) (hj:ps.length < 1000) (hb:W.heap[b]?=some (.cells (Frm.A f) 42 (0,0))) (hf:f.Ok) :
  ∃ a' c' w',(Builtin.append_ #[121,121] 121 #[v,.slice (some ⟨W.heap.size,0,none⟩) 1 1]).run Tryz.prog (W.alloc (.cells (partV d b) 229))=.ok (.slice a' (ps.length+1) c') w'/\LkSt w0 w' (ps++[(d,f.data)]) (.slice a' (ps.length+1) c'):=by
 obtain ⟨es,h2,h3,h4⟩:=h.ex
 obtain ⟨v',w',e1,e2,e3,e4⟩:=h2.add (tsl:=121) Tryz.underlying121 infoPart rfl (by omega) (partV d b) rfl (by intro u hu; simp [partV] at hu; rcases hu with rfl | rfl<;>rfl) (by omega) (by omega) h.ext.size
 obtain ⟨a',c',ev',_⟩:=e2.slice
 have hlen:(es++[partV d b]).length=ps.length+1:=by simp [h3]
 rw [hlen] at ev'
 subst ev'
 have hk:∀ (b':Nat) (f':Frm),W.heap[b']?=some (.cells (Frm.A f') 42 (0,0))->w'.heap[b']?=some (.cells (Frm.A f') 42 (0,0)):=fun b' f' q=>e3.at q (h2.not_at (by decide) q)
 refine ⟨a',c',w',e1,e4 w0 (Nat.le_refl _) h.ext,_,e2,by rw [hlen]; simp,fun i p hi=>?_⟩
 rcases Nat.lt_or_ge i ps.length with q | q
 ·
  rw [List.getElem?_append_left q] at hi
  obtain ⟨b',f',x1,x2,x3⟩:=h4 i p hi
  exact ⟨b',f',by rw [List.getElem?_append_left (by omega)]; exact x1,hk _ _ x2,x3⟩
 ·
  rw [List.getElem?_append_right q] at hi
  rcases hd:i - ps.length with _ | m
  ·
   rw [hd] at hi
   simp at hi
   subst hi
   exact ⟨b,f,by rw [List.getElem?_append_right (by omega),h3,hd]; rfl,hk _ _ hb,hf,rfl⟩
  ·
   rw [hd] at hi; simp at hi
def lookTo (R:Rck) (c:Cfg) (s:Int) (j:Nat):Int × List (Nat × List Nat):=(List.range j).foldl (lookStep (R.sgood c s)) (0,[])
theorem lookTo_succ (R:Rck) (c:Cfg) (s:Int) (j:Nat):lookTo R c s (j+1)=lookStep (R.sgood c s) (lookTo R c s j) j:=by
 unfold lookTo
 rw [List.range_succ,List.foldl_append]
 rfl
theorem lookTo_len (R:Rck) (c:Cfg) (s:Int) (j:Nat):(lookTo R c s j).2.length<=j:=by
 induction j with
 | zero=>simp [lookTo]
 | succ j ih =>
  rw [lookTo_succ]
  unfold lookStep
  split
  ·
   omega
  ·
   split
   ·
    omega
   ·
    split
    ·
     simp
    ·
     simp; omega
theorem LkSt.parts {w0 wr:World} {ps:List (Nat × List Nat)} {v:Value} (h:LkSt w0 wr ps v):∃ a c,v=.slice a ps.length c/\(ps≠[]->∃ g,a=some ⟨g,0,none⟩/\PartsAt wr g 108 ps):=by
 obtain ⟨es,h2,h3,h4⟩:=h.ex
 obtain ⟨a,c,ev,q⟩:=h2.slice
 refine ⟨a,c,by rw [ev,h3],fun hn=>?_⟩
 rcases q with ⟨q,_⟩ | ⟨g,ha,_,_,_,hv⟩
 ·
  rw [q] at h3
  exact absurd (List.length_eq_zero_iff.1 h3.symm) hn
 ·
  refine ⟨g,ha,fun i p hi=>?_⟩
  obtain ⟨b,f,e1,e2,e3,e4⟩:=h4 i p hi
  have q0:=hv i _ e1 0 _ rfl
  have q1:=hv i _ e1 1 _ rfl
  refine ⟨by simpa using q0,b,4,108,q1,?_⟩
  rw [<- e4]
  refine ⟨e3.len,by omega,e3.byte,.inr ⟨b,4,rfl,fun x hx=>?_⟩⟩
  refine (Zaf e2).trans ?_
  rw [Frm.A_def]
  unfold Frm.cl
  have:=e3.len
  simp only [List.getElem?_toArray]
  rw [List.getElem?_append_right (by simp)]
  simp [nth,List.getD_eq_getElem?_getD,List.getElem?_eq_getElem (show x < f.data.length by omega)]
  rfl
def LookPost (w:World) (R:Rck) (c:Cfg) (s:Int) (e:Ending) (w':World):Prop:=∃ v,e=.returned (.tuple #[.int .i64 (R.slook c s).1,v])/\LkSt w w' (R.slook c s).2 v
theorem LkSt.from_ {w0 w1 wr:World} {ps:List (Nat × List Nat)} {v:Value} (h:LkSt w1 wr ps v) (e:Ext w0 w1):LkSt w0 wr ps v:=by
 obtain ⟨es,h2,h3,h4⟩:=h.ex
 exact ⟨Ext.trans e h.ext,es,h2.down e.size,h3,h4⟩
attribute [local irreducible] wpSQ
set_option maxRecDepth 100000 in
set_option maxHeartbeats 2000000 in
theorem slook_c {S:Nat->Prop} {w:World} {r:Nat} {R:Rck} (h:RackAt S w r R) (c:Cfg) (s:Int) :
  Calls Tryz.prog 68 #[.pointer (some ⟨r,0,none⟩),.agg (Cfg.A c),.int .i64 s] w (LookPost w R c s):=by
 have hz:=Za4
 have HZ:=hid (Frm.A_size _ Za9)
 have HP:Hid (LookPost w R c s=fun e w'=>∃ v,e=.returned (.tuple #[.int .i64 (R.slook c s).1,v])/\LkSt w w' (R.slook c s).2 v):=hid rfl
 rw [HP.out]
 obtain ⟨W0,hW0⟩:∃ W,w.alloc (.cells (Cfg.A c) 74)=W:=⟨_,rfl⟩
 have HX0:=hid (show Ext w W0 from hW0▸(Ext.refl w).alloc _)
 have HC0:=hid (show W0.heap[w.heap.size]?=some (.cells (Cfg.A c) 74 (0,0)) from hW0▸heap_alloc_new _ _)
 have H0:=hid (h.ext HX0.out)
 have HKN:=hid (sknown_c H0.out c s)
 clear h HP
 go_enter Tryz.func68,Tryz.ntmps68
 go_wp2_with (guard_target=wpList _ _ _ (⟨some _,Op.load _ _,_,_,_,none⟩::_) _ _; refine Zae rfl 74 _ rfl ⟨w.heap.size,0,none⟩ rfl (Cfg.A c) (Za6 c) (Zaj HC0.out) ?_)
 refine HKN.out.mono ?_
 rintro e w1 ⟨rfl,x1⟩
 have HX1:=hid (Ext.trans HX0.out x1)
 have H1:=hid (H0.out.ext x1)
 have HC1:=hid (x1.at HC0.out)
 clear x1 HKN
 rcases hkn:R.sknown c s with _ | _
 ·
  have HV:Hid (R.slook c s=(0,[])):=hid (by unfold Rck.slook; rw [hkn]; rfl)
  clear hkn
  go_wp2
  go_ret2
  rw [HV.out]
  exact ⟨_,rfl,LkSt.nil HX1.out⟩
 ·
  have HGD:=hid (Zbe hkn)
  obtain ⟨n,hn⟩:∃ n:Nat,c.n=n:=⟨c.n.toNat,by have:=HGD.out.1.k0; have:=HGD.out.1.k1; omega⟩
  have HV:Hid (R.slook c s=lookTo R c s n):=hid (by unfold Rck.slook lookTo; rw [hkn,hn]; rfl)
  have HN8:=hid (show n<=8 by have:=HGD.out.1.n1; omega)
  have c2:w1.cell? ⟨w.heap.size,2,none⟩=some (.int .i64 n):=(Zaf HC1.out).trans (by rw [<- hn]; exact Cfg.A2 c)
  clear hkn hn
  have n8:n<=8:=HN8.out
  have HS0:=hid (show LkSt w1 w1 (lookTo R c s 0).2 (.slice none 0 0) from LkSt.nil (Ext.refl _))
  go_wp2
  clear c2
  go_loopw [20,8,9] (fun t g v wr=>∃ j:Nat,t=.int .i64 j/\j<=n/\g=.int .i64 (lookTo R c s j).1/\LkSt w1 wr (lookTo R c s j).2 v) (fun t _ _ _=>n - (intOf t).toNat)
  case atStart=>exact ⟨0,rfl,by omega,rfl,HS0.out⟩
  case round =>
   clear HS0
   obtain ⟨j,rfl,hj,rfl,hst⟩:=hrel
   have HST:=hid hst
   have HX:=hid hst.ext
   have HLS:=hid (lookTo_succ R c s j)
   have HLL:=hid (lookTo_len R c s j)
   clear hst
   by_cases hlt:j < n
   ·
    have HCR:=hid (HX.out.at HC1.out)
    have H2:=hid (H1.out.ext HX.out)
    obtain ⟨G,hG⟩:∃ G,(lookTo R c s j).1=G:=⟨_,rfl⟩
    obtain ⟨ps,hps⟩:∃ ps,(lookTo R c s j).2=ps:=⟨_,rfl⟩
    have hgp:lookTo R c s j=(G,ps):=by rw [<- hG,<- hps]
    rw [hgp] at HST HLS HLL
    rw [hG]
    clear hgp hG hps
    go_wp2_with (guard_target=wpList _ _ _ (⟨some _,Op.load _ _,_,_,_,none⟩::_) _ _; refine Zae rfl 74 _ rfl ⟨w.heap.size,0,none⟩ rfl (Cfg.A c) (Za6 c) (Zaj HCR.out) ?_)
    refine (ssector_c c HGD.out.1 s HGD.out.2.1 HGD.out.2.2 wr).mono ?_
    rintro e v2 ⟨rfl,x2⟩
    have H3:=hid (H2.out.ext x2)
    have HS3:=hid (HST.out.more x2)
    clear x2 H2 HST HCR HX
    go_wp2_with fail
    refine (at_get H3.out (j:Int) (Rck.ssec c s) 3 (j:Int) s).mono ?_
    rintro e v3 ⟨rfl,x3⟩
    have HS4:=hid (HS3.out.more x3)
    clear x3 HS3
    have H3F:=hid (fun (f:Frm) (hf:R.get (j:Int) (Rck.ssec c s) 3 (j:Int) s=some f)=>H3.out.got_ok hf)
    have HSG:Hid (R.sgood c s j=R.get (j:Int) (Rck.ssec c s) 3 (j:Int) s):=hid rfl
    have hbs:(v3.alloc (.cells (Frm.A Frm.zero) 42)).heap[v3.heap.size]?=some (.cells (Frm.A Frm.zero) 42 (0,0)):=Zad
    rcases hg:R.get (j:Int) (Rck.ssec c s) 3 (j:Int) s with _ | f
    ·
     have HL2:Hid (lookTo R c s (j+1)=(G,ps)):=hid (by rw [HLS.out]; unfold lookStep; rw [HSG.out,hg])
     simp only [gotO,Option.getD_none,Option.isSome_none]
     clear hg HLS HSG
     go_wp2_with (guard_target=wpList _ _ _ (⟨none,Op.store _ _ _,_,_,_,none⟩::_) _ _; have hb0:=hbs; clear hbs; refine Zab rfl 42 _ _ rfl v3.heap.size rfl (Frm.A Frm.zero) _ rfl 42 ?_ hb0 ?_ ?_ ?_; (rw [HZ.out]; exact aggFrame); (rfl); exact Frm.A_one _; rw [Zao])
     go_roundw
     case rel=>exact ⟨j+1,by go_num,by omega,by rw [HL2.out],by rw [HL2.out]; exact HS4.out.more ((Ext.refl v3).alloc _)⟩
     case measure=>simp [intOf]; omega
    ·
     have hfo:=H3F.out f hg
     have HFS:=hid (Frm.A_size f hfo)
     have HFO:=hid hfo
     simp only [gotO,Option.getD_some,Option.isSome_some]
     obtain ⟨a0,c0,rfl⟩:=HS4.out.slice
     obtain ⟨W2,hW2⟩:∃ W,v3.alloc (.cells (Frm.A f) 42)=W:=⟨_,rfl⟩
     obtain ⟨nb,hnb⟩:∃ b,v3.heap.size=b:=⟨_,rfl⟩
     have x2:Ext v3 W2:=hW2▸(Ext.refl v3).alloc _
     have hb2:W2.heap[nb]?=some (.cells (Frm.A f) 42 (0,0)):=by rw [<- hW2,<- hnb]; exact heap_alloc_new _ _
     have HS5:=hid (HS4.out.more x2)
     have HW2:=hid hW2; have HNB:=hid hnb; have HB2:=hid hb2
     have HBP:=hid (built_part j nb)
     have c3:W2.cell? ⟨nb,3,none⟩=some (.int .i64 f.gen):=(Zaf hb2).trans (Frm.A3 f)
     have HLS2:Hid (lookTo R c s (j+1)=if f.gen=0\/f.gen < G then (G,ps) else if G < f.gen then (f.gen,[(j,f.data)]) else (G,ps++[(j,f.data)])):=hid (by rw [HLS.out]; unfold lookStep; rw [HSG.out,hg])
     have hpl:ps.length < 1000:=by have:=HLL.out; omega
     have HPL:=hid hpl
     obtain ⟨fg,hfg⟩:∃ x,f.gen=x:=⟨_,rfl⟩
     rw [hfg] at c3 HLS2
     clear hg HLS HSG hW2 hnb hb2 x2 hfo HS4 hpl hfg HLL
     by_cases h0:fg=0
     ·
      have HL2:Hid (lookTo R c s (j+1)=(G,ps)):=hid (by rw [HLS2.out,if_pos (.inl h0)])
      rw [h0] at c3
      have HS6:=HS5
      clear h0 HLS2
      go_wp2_with (first
      | (guard_target=wpList _ _ _ (⟨none,Op.store _ _ _,_,_,_,none⟩::_) _ _; have hb0:=hbs; clear hbs; refine Zab rfl 42 _ _ rfl v3.heap.size rfl (Frm.A f) _ rfl 42 ?_ hb0 ?_ ?_ ?_; (rw [HFS.out]; exact aggFrame); (rw [HFS.out,HZ.out]); exact Frm.A_one _; rw [Zao,HW2.out,HNB.out])
      | (guard_target=wpList _ _ _ (⟨some _,Op.build _ _,_,_,_,none⟩::_) _ _; refine Zav rfl 229 _ rfl (partV j nb) ?_ ?_; (simp only [List.map_toArray,List.map_cons,List.map_nil,Act.eval]; simp only [Array.getD_eq_getD_getElem?,List.getElem?_toArray,List.getElem?_cons_succ,List.getElem?_cons_zero,Option.getD_some]; exact HBP.out))
      | (guard_target=wpList _ _ _ (⟨some _,Op.buildSlice _ _ _,_,_,_,none⟩::_) _ _; refine Zag rfl 121 229 _ rfl (partV j nb) _ _ 2 32 Tryz.underlying121 infoPart (by omega) (by omega) rfl rfl rfl ?_)
      | (at_builtin; refine wpList_append_run rfl _ _ _ rfl _ _ _ _ rfl rfl hap ?_))
      go_roundw
      case rel=>exact ⟨j+1,by go_num,by omega,by rw [HL2.out],by rw [HL2.out]; exact HS6.out⟩
      case measure=>simp [intOf]; omega
     ·
      have b0:(fg == 0)=false:=by rw [beq_eq_false_iff_ne]; exact h0
      by_cases h1:fg < G
      ·
       have HL2:Hid (lookTo R c s (j+1)=(G,ps)):=hid (by rw [HLS2.out,if_pos (.inr h1)])
       have HS6:=HS5
       clear h0 HLS2
       go_wp2_with (first
       | (guard_target=wpList _ _ _ (⟨none,Op.store _ _ _,_,_,_,none⟩::_) _ _; have hb0:=hbs; clear hbs; refine Zab rfl 42 _ _ rfl v3.heap.size rfl (Frm.A f) _ rfl 42 ?_ hb0 ?_ ?_ ?_; (rw [HFS.out]; exact aggFrame); (rw [HFS.out,HZ.out]); exact Frm.A_one _; rw [Zao,HW2.out,HNB.out])
       | (guard_target=wpList _ _ _ (⟨some _,Op.build _ _,_,_,_,none⟩::_) _ _; refine Zav rfl 229 _ rfl (partV j nb) ?_ ?_; (simp only [List.map_toArray,List.map_cons,List.map_nil,Act.eval]; simp only [Array.getD_eq_getD_getElem?,List.getElem?_toArray,List.getElem?_cons_succ,List.getElem?_cons_zero,Option.getD_some]; exact HBP.out))
       | (guard_target=wpList _ _ _ (⟨some _,Op.buildSlice _ _ _,_,_,_,none⟩::_) _ _; refine Zag rfl 121 229 _ rfl (partV j nb) _ _ 2 32 Tryz.underlying121 infoPart (by omega) (by omega) rfl rfl rfl ?_)
       | (at_builtin; refine wpList_append_run rfl _ _ _ rfl _ _ _ _ rfl rfl hap ?_))
       go_roundw
       case rel=>exact ⟨j+1,by go_num,by omega,by rw [HL2.out],by rw [HL2.out]; exact HS6.out⟩
       case measure=>simp [intOf]; omega
      ·
       by_cases h2:G < fg
       ·
        have HL2:Hid (lookTo R c s (j+1)=(fg,[]++[(j,f.data)])):=hid (by rw [HLS2.out,if_neg (by omega),if_pos h2]; rfl)
        obtain ⟨a2,c2,w3,hap,hs6⟩:=(LkSt.nil HS5.out.ext).add (d:=j) (b:=nb) (f:=f) (by simp) HB2.out HFO.out
        have HS6:=hid hs6
        have h3:fg > G:=h2
        clear h0 HLS2 hs6
        go_wp2_with (first
        | (guard_target=wpList _ _ _ (⟨none,Op.store _ _ _,_,_,_,none⟩::_) _ _; have hb0:=hbs; clear hbs; refine Zab rfl 42 _ _ rfl v3.heap.size rfl (Frm.A f) _ rfl 42 ?_ hb0 ?_ ?_ ?_; (rw [HFS.out]; exact aggFrame); (rw [HFS.out,HZ.out]); exact Frm.A_one _; rw [Zao,HW2.out,HNB.out])
        | (guard_target=wpList _ _ _ (⟨some _,Op.build _ _,_,_,_,none⟩::_) _ _; refine Zav rfl 229 _ rfl (partV j nb) ?_ ?_; (simp only [List.map_toArray,List.map_cons,List.map_nil,Act.eval]; simp only [Array.getD_eq_getD_getElem?,List.getElem?_toArray,List.getElem?_cons_succ,List.getElem?_cons_zero,Option.getD_some]; exact HBP.out))
        | (guard_target=wpList _ _ _ (⟨some _,Op.buildSlice _ _ _,_,_,_,none⟩::_) _ _; refine Zag rfl 121 229 _ rfl (partV j nb) _ _ 2 32 Tryz.underlying121 infoPart (by omega) (by omega) rfl rfl rfl ?_)
        | (at_builtin; refine wpList_append_run rfl _ _ _ rfl _ _ _ _ rfl rfl hap ?_))
        go_roundw
        case rel=>exact ⟨j+1,by go_num,by omega,by rw [HL2.out],by rw [HL2.out]; exact HS6.out⟩
        case measure=>simp [intOf]; omega
       ·
        have HL2:Hid (lookTo R c s (j+1)=(G,ps++[(j,f.data)])):=hid (by rw [HLS2.out,if_neg (by omega),if_neg h2])
        obtain ⟨a2,c2,w3,hap,hs6⟩:=HS5.out.add (d:=j) (b:=nb) (f:=f) HPL.out HB2.out HFO.out
        have HS6:=hid hs6
        have h3:¬fg > G:=h2
        clear h0 HLS2 hs6
        go_wp2_with (first
        | (guard_target=wpList _ _ _ (⟨none,Op.store _ _ _,_,_,_,none⟩::_) _ _; have hb0:=hbs; clear hbs; refine Zab rfl 42 _ _ rfl v3.heap.size rfl (Frm.A f) _ rfl 42 ?_ hb0 ?_ ?_ ?_; (rw [HFS.out]; exact aggFrame); (rw [HFS.out,HZ.out]); exact Frm.A_one _; rw [Zao,HW2.out,HNB.out])
        | (guard_target=wpList _ _ _ (⟨some _,Op.build _ _,_,_,_,none⟩::_) _ _; refine Zav rfl 229 _ rfl (partV j nb) ?_ ?_; (simp only [List.map_toArray,List.map_cons,List.map_nil,Act.eval]; simp only [Array.getD_eq_getD_getElem?,List.getElem?_toArray,List.getElem?_cons_succ,List.getElem?_cons_zero,Option.getD_some]; exact HBP.out))
        | (guard_target=wpList _ _ _ (⟨some _,Op.buildSlice _ _ _,_,_,_,none⟩::_) _ _; refine Zag rfl 121 229 _ rfl (partV j nb) _ _ 2 32 Tryz.underlying121 infoPart (by omega) (by omega) rfl rfl rfl ?_)
        | (at_builtin; refine wpList_append_run rfl _ _ _ rfl _ _ _ _ rfl rfl hap ?_))
        go_roundw
        case rel=>exact ⟨j+1,by go_num,by omega,by rw [HL2.out],by rw [HL2.out]; exact HS6.out⟩
        case measure=>simp [intOf]; omega
   ·
    obtain rfl:n=j:=by omega
    have HF:=hid (HST.out.from_ HX1.out)
    clear HST HX HLS HLL
    go_wp2
    go_ret2
    rw [HV.out]
    exact ⟨_,rfl,HF.out⟩
end Go.Proofs.YtgjnnbomnoafcaaGreatDoor
namespace Go.Proofs.YtgjnnbomnoafcaaGreatDoor
set_option linter.unusedVariables false
open Go Go.RowKit Gf
attribute [local irreducible] wpSQ
set_option maxRecDepth 100000 in
set_option maxHeartbeats 2000000 in
theorem strput_c {S:Nat->Prop} {w:World} {r:Nat} {R:Rck} (h:RackAt S w r R) (c:Cfg) (s gen:Int) (l:List (List Nat)) (hl8:∀ b∈l,b.length=108) (hlb:∀ b∈l,∀ x∈b,x < 256) (a:Option Addr) (cp:Nat) (hb:BlksAt w a l) :
  Calls Tryz.prog 63 #[.pointer (some ⟨r,0,none⟩),.agg (Cfg.A c),.int .i64 s,.int .i64 gen,.slice a l.length cp] w fun e w'=>e=.returned (oErr (R.sput c s gen l).1)/\RackAt S w' r (R.sput c s gen l).2/\Keeps S w w':=by
 obtain ⟨W0,hW0⟩:∃ W,w.alloc (.cells (Cfg.A c) 74)=W:=⟨_,rfl⟩
 have HX0:=hid (show Ext w W0 from hW0▸(Ext.refl w).alloc _)
 have HC0:=hid (show W0.heap[w.heap.size]?=some (.cells (Cfg.A c) 74 (0,0)) from hW0▸heap_alloc_new _ _)
 have H0:=hid (h.ext HX0.out)
 have H0x:=hid h
 have HKN:=hid (sknown_c H0.out c s)
 have HL8:=hid hl8
 have HLB:=hid hlb
 have HBK:=hid (hb.ext HX0.out)
 have HB0:Hid (R.sput c s gen l=if R.sputOk c s gen l=true then ((R.sputs c s gen l).1.map (.fault sSPut s),(R.sputs c s gen l).2) else (some (.fault sSPut s (.no 1)),R)):=hid rfl
 have HOK:Hid (R.sputOk c s gen l=true↔(((R.sknown c s=true/\1<=gen)/\gen<=1152921504606846976)/\(l.length:Int)=c.k)):=hid (by
  unfold Rck.sputOk
  simp only [Bool.and_eq_true,decide_eq_true_eq])
 clear h hl8 hlb hb
 go_enter Tryz.func63,Tryz.ntmps63
 go_wp2_with (guard_target=wpList _ _ _ (⟨some _,Op.load _ _,_,_,_,none⟩::_) _ _; refine Zae rfl 74 _ rfl ⟨w.heap.size,0,none⟩ rfl (Cfg.A c) (Za6 c) (Zaj HC0.out) ?_)
 refine HKN.out.mono ?_
 rintro e w2 ⟨rfl,x2⟩
 have HX2:=hid (Ext.trans HX0.out x2)
 have H2:=hid (H0.out.ext x2)
 have HC2:=hid (Ext.at x2 HC0.out)
 have HBL:=hid (HBK.out.ext x2)
 have c1:w2.cell? ⟨w.heap.size,1,none⟩=some (.int .i64 c.k):=(Zaf HC2.out).trans (Cfg.A1 c)
 have HW:=hid (Za2 sSPut s (.no 1) w2)
 simp only [Err.val] at HW
 clear x2 HKN HBK
 rcases hf:R.sknown c s with _ | _
 ·
  have HV:=hid (show R.sput c s gen l=(some (.fault sSPut s (.no 1)),R) by rw [HB0.out]; exact if_neg (by rw [HOK.out,hf]; simp))
  clear hf HB0 HOK
  go_wp2_with fail
  refine HW.out.mono ?_
  rintro e w3 ⟨rfl,rfl⟩
  go_wp2
  go_ret
  rw [HV.out]
  exact ⟨rfl,H2.out,Ext.only HX2.out⟩
 ·
  have HF:=hid hf
  clear hf
  by_cases a0:1<=gen
  case neg =>
   have HNE:=hid a0
   have HV:=hid (show R.sput c s gen l=(some (.fault sSPut s (.no 1)),R) by rw [HB0.out]; exact if_neg (by rw [HOK.out]; exact fun q=>HNE.out q.1.1.2))
   have a0':gen < 1:=by omega
   clear HB0 HOK HNE
   go_wp2_with fail
   refine HW.out.mono ?_
   rintro e w3 ⟨rfl,rfl⟩
   go_wp2
   go_ret
   rw [HV.out]
   exact ⟨rfl,H2.out,Ext.only HX2.out⟩
  by_cases a1:gen<=1152921504606846976
  case neg =>
   have HNE:=hid a1
   have HV:=hid (show R.sput c s gen l=(some (.fault sSPut s (.no 1)),R) by rw [HB0.out]; exact if_neg (by rw [HOK.out]; exact fun q=>HNE.out q.1.2))
   have a0':¬gen < 1:=by omega
   have a1':gen > 1152921504606846976:=by omega
   clear HB0 HOK HNE
   go_wp2_with fail
   refine HW.out.mono ?_
   rintro e w3 ⟨rfl,rfl⟩
   go_wp2
   go_ret
   rw [HV.out]
   exact ⟨rfl,H2.out,Ext.only HX2.out⟩
  by_cases a4:(l.length:Int)=c.k
  case neg =>
   have HNE:=hid a4
   have ab:((l.length:Int) != c.k)=true:=by simpa using a4
   have a0':¬gen < 1:=by omega
   have a1':¬gen > 1152921504606846976:=by omega
   have HV:=hid (show R.sput c s gen l=(some (.fault sSPut s (.no 1)),R) by rw [HB0.out]; exact if_neg (by rw [HOK.out]; exact fun q=>HNE.out q.2))
   clear HB0 HOK HNE a4
   go_wp2_with fail
   refine HW.out.mono ?_
   rintro e w3 ⟨rfl,rfl⟩
   go_wp2
   go_ret
   rw [HV.out]
   exact ⟨rfl,H2.out,Ext.only HX2.out⟩
  have ab:((l.length:Int) != c.k)=false:=by simpa using a4
  have a0':¬gen < 1:=by omega
  have a1':¬gen > 1152921504606846976:=by omega
  have HV:=hid (show R.sput c s gen l=((R.sputs c s gen l).1.map (.fault sSPut s),(R.sputs c s gen l).2) by rw [HB0.out]; exact if_pos (HOK.out.2 ⟨⟨⟨HF.out,a0⟩,a1⟩,a4⟩))
  have HGD:=hid (Zbe HF.out)
  have HA4:=hid a4
  clear HB0 HOK HW a4 a0 a1
  go_wp2_with (guard_target=wpList _ _ _ (⟨some _,Op.load _ _,_,_,_,none⟩::_) _ _; refine Zae rfl 74 _ rfl ⟨w.heap.size,0,none⟩ rfl (Cfg.A c) (Za6 c) (Zaj HC2.out) ?_)
  refine (frames_c c HGD.out.1 s gen l HA4.out HL8.out HLB.out a cp HBL.out).mono ?_
  rintro e w3 ⟨fg,fc,rfl,hfg,hvs,x3⟩
  obtain ⟨n,hn⟩:∃ n:Nat,c.n=n:=⟨c.n.toNat,by have:=HGD.out.1.k0; have:=HGD.out.1.k1; omega⟩
  have hnn:c.n.toNat=n:=by omega
  have n8:n<=8:=by have:=HGD.out.1.n1; omega
  have n1:1<=n:=by have:=HGD.out.1.k0; have:=HGD.out.1.k1; omega
  rw [hnn] at hvs ⊢
  have hRn:R.l.length=n:=by
   have:=HF.out
   unfold Rck.sknown at this
   simp only [Bool.and_eq_true,decide_eq_true_eq] at this
   have hf:=this.1.1
   unfold Rck.fits at hf
   simp only [Bool.and_eq_true,decide_eq_true_eq] at hf
   have:=hf.1.2
   omega
  have HVS:=hid hvs
  have HX3:=hid (Ext.trans HX2.out x3)
  have HC3:=hid (Ext.at x3 HC2.out)
  have HFG:=hid hfg
  have HFL:=hid (show fg < w3.heap.size from by
   have:=hvs 0 _ (by rw [List.getElem?_map,List.getElem?_range n1]; rfl) 0 (.int .i64 3) (by show (Frm.A (sfrm s gen 0 (sfrag c l 0))).toList[0]?=_; rw [Frm.A_def]; rfl)
   exact World.block_lt_of_cell? w3 _ this)
  have H3:=hid (H2.out.ext x3)
  clear hvs x3 hfg c1 a0' a1' ab hnn hn
  go_wp2_with fail
  refine (at_online H3.out).mono ?_
  rintro e W2 ⟨v,rfl,hown,x2⟩
  obtain ⟨oa,oc,rfl,hcell⟩:=hown.slice
  obtain ⟨L,hL⟩:∃ L,R.online=L:=⟨_,rfl⟩
  have hLn:L.length<=8:=by rw [<- hL]; have:=R.online_len; omega
  have HLM:=hid (show ∀ d∈L,d < n from fun d hd=>by
   rw [<- hL] at hd
   unfold Rck.online at hd
   have:=(List.mem_filter.1 hd).1
   rw [hRn] at this
   exact List.mem_range.1 this)
  have HL:=hid hL
  rw [hL] at hcell ⊢
  have hXX:=Ext.trans HX3.out x2
  have HX4:=hid hXX
  have HCW:=hid (Ext.at x2 HC3.out)
  have HVW:=hid (HVS.out.ext x2)
  have HPC:Hid (PutT S w.heap.size W2.heap.size w.heap.size):=hid (.inr ⟨Nat.le_refl _,lt_of_block HCW.out⟩)
  have HPF:Hid (PutT S w.heap.size W2.heap.size fg):=hid (.inr ⟨by have:=HFG.out; have:=HX2.out.size; omega,by have:=HFL.out; have:=x2.size; omega⟩)
  have HON:Hid (∀ wr,Only (fun b=>¬PutT S w.heap.size W2.heap.size b) W2 wr->∀ j d:Nat,L[j]?=some d->∃ g,oa=some ⟨g,0,none⟩/\wr.cell? ⟨g,j,none⟩=some (.int .i64 d)):=hid fun wr e j d hd=>by
   rcases hcell with ⟨q,_⟩ | ⟨g,q1,q2,q3,q4,q5⟩
   ·
    subst q; simp at hd
   ·
    have hjl:j < L.length:=by
     rcases Nat.lt_or_ge j L.length with q | q
     ·
      exact q
     ·
      rw [List.getElem?_eq_none q] at hd; cases hd
    refine ⟨g,q1,e.cell ?_ (fun q=>q (.inr ⟨Nat.le_trans HX3.out.size q2,q3⟩))⟩
    rw [q5 j hjl]
    have:L.getD j 0=d:=by rw [List.getD_eq_getElem?_getD,hd]; rfl
    rw [this]; rfl
  have HST:Hid (JPut S w W2 r R W2):=hid ⟨H0x.out.more hXX fun b hb=>by
   have:=hXX.size
   rcases hb with hb | hb
   ·
    exact ⟨by have:=H0x.out.there b hb; omega,.inl hb⟩
   ·
    exact ⟨hb.2,.inr hb.1⟩,Only.refl _ _⟩
  clear hcell hown x2 hXX hL hRn
  go_wp2
  go_loopw [58] (fun v wr=>∃ (j:Nat) (Rj:Rck),v=.int .i64 j/\j<=L.length/\each (Rck.srow c s gen l) (L.take j) R=(none,Rj)/\JPut S w W2 r Rj wr) (fun v _=>L.length - (intOf v).toNat)
  case atStart=>exact ⟨0,R,rfl,by omega,rfl,HST.out⟩
  case round =>
   clear HST
   obtain ⟨j,Rj,rfl,hj,hej,hst⟩:=hrel
   have HEJ:=hid hej; have HS:=hid hst
   clear hej hst
   by_cases hlt:j < L.length
   ·
    have j0:(0:Int)<=(j:Int):=by omega
    have j1:(j:Int) < (L.length:Int):=by omega
    obtain ⟨d,hd⟩:∃ d,L[j]?=some d:=⟨L[j],List.getElem?_eq_getElem hlt⟩
    obtain ⟨g,rfl,cd⟩:=HON.out wr HS.out.keeps j d hd
    have hdn:d < n:=HLM.out d (List.mem_of_getElem? hd)
    have d0:(0:Int)<=(d:Int):=by omega
    have d1:(d:Int) < (n:Int):=by omega
    have HD:=hid hd
    clear hd
    go_wp2_with fail
    obtain ⟨F,hF⟩:∃ F,sfrm s gen d (sfrag c l d)=F:=⟨_,rfl⟩
    have hFok:F.Ok:=by
     have e0:∀ i,i < l.length->Cd.B l i∈l:=fun i hi=>by unfold Cd.B; rw [List.getD_eq_getElem?_getD,List.getElem?_eq_getElem hi]; exact List.getElem_mem _
     have l0:0 < l.length:=by have:=HGD.out.1.k0; have:=HA4.out; omega
     rw [<- hF]
     refine ⟨?_,?_⟩
     ·
      show (sfrag c l d).length=108
      unfold sfrag Cd.mix
      rw [Cd.mixK_len]
      exact HL8.out _ (e0 0 l0)
     ·
      show ∀ x∈sfrag c l d,x < 256
      unfold sfrag Cd.mix
      exact Cd.mixK_byte _ l _ (Cd.row_byte _ d) (fun i=>by
       rcases Nat.lt_or_ge i l.length with q | q
       ·
        exact HLB.out _ (e0 i q)
       ·
        unfold Cd.B
        rw [List.getD_eq_getElem?_getD,List.getElem?_eq_none q]
        intro x hx; simp at hx)
    have HFO:=hid hFok
    have HFS:=hid (Frm.A_size F hFok)
    have hag:AggType Tryz.prog 42 (Frm.A F).size:=by rw [HFS.out]; exact aggFrame
    have HAG:=hid hag
    clear hag
    have xd:Ext wr wr.drew:=(Ext.refl wr).drew
    have base:Hid (∀ y:SW Ext wr.drew,Only (fun b=>¬PutT S w.heap.size W2.heap.size b) W2 y.w):=hid fun y=>Only.ext HS.out.keeps (Ext.trans xd y.ext)
    have lc:Hid (∀ y:SW Ext wr.drew,∀ j v,(Cfg.A c).toList[j]?=some v->y.w.cell? ((⟨w.heap.size,0,none⟩:Addr).add j)=some v):=hid fun y=>Zaj ((base.out y).at HCW.out (fun q=>q HPC.out))
    have lr:Hid (∀ y:SW Ext wr.drew,∀ j v,(Frm.A F).toList[j]?=some v->y.w.cell? ((⟨fg,d*112,none⟩:Addr).add j)=some v):=hid fun y j v hv=>by
     rw [addrPlus]
     exact (HVW.out.only (base.out y) (fun q=>q HPF.out)) d _ (by rw [List.getElem?_map,List.getElem?_range hdn,<- hF]; rfl) j v hv
    have sc:Hid (∀ y:SW Ext wr.drew,Calls Tryz.prog 147 #[.agg (Cfg.A c),.int .i64 s] y.w fun e w''=>e=.returned (.int .i64 (Rck.ssec c s))/\Ext y.w w''):=hid fun y=>ssector_c c HGD.out.1 s HGD.out.2.1 HGD.out.2.2 y.w
    refine Zan (S:=Ext) 10 (.one [0,1,2,3,4,5,6,7,8] 9 (.fin [])) (by kernel_rfl) (by kernel_rfl) (fun _ _ d _ _ h=>by cases d<;>exact h) ?_
    rw [wpS]
    simp only [opsAt,opA,opB,opC,opD,opE,opF,opG]
    iterate 2 ((refine Zaa (fun K hK=>?_); go_simp; refine hK _ ?_; clear hK K))
    refine Zaz 74 _ rfl ⟨w.heap.size,0,none⟩ rfl (Cfg.A c) rfl (Za6 c) lc.out ?_
    (refine Zaa (fun K hK=>?_); go_simp; refine hK _ ?_; clear hK K)
    (refine Zaa (fun K hK=>?_); go_simp; (apply Exists.intro; refine ⟨fun x=>?_,hK _ ?_⟩; (exact sc.out x); clear hK K))
    iterate 3 ((refine Zaa (fun K hK=>?_); go_simp; refine hK _ ?_; clear hK K))
    refine Zaz 42 _ rfl ⟨fg,d*112,none⟩ rfl (Frm.A F) rfl HAG.out lr.out ?_
    refine Zac ?_
    intro V1 hV1
    refine Zat fun Q hQ=>?_
    go_wp2_with fail
    refine (fput_b F V1 HFO.out).mono ?_
    rintro e V2 ⟨fa,fn,rfl,hbt,_,xf⟩
    go_wp2
    refine hQ _ _ xf ?_
    clear hQ Q
    rw [wpS]
    simp only [opsAt,List.map_nil]
    refine Zac ?_
    intro V3 hV3
    have X3:=Ext.trans xd (Ext.trans hV1 (Ext.trans xf hV3))
    have HB3:=hid (hbt.ext hV3)
    have HR3:=hid (HS.out.rack.ext X3)
    have HK3:Hid (Only (fun b=>¬PutT S w.heap.size W2.heap.size b) W2 V3):=hid (Only.ext HS.out.keeps X3)
    have HFD:=hid hF
    clear base lc lr sc hV1 hV3 hbt xf X3 xd hFok hF
    simp only [List.drop_succ_cons,List.drop_zero]
    go_wp2_with fail
    refine (at_write HR3.out d (Rck.ssec c s) fa fn fn _ HB3.out).mono ?_
    rintro e V4 ⟨rfl,h4,k4⟩
    rcases hw:Rj.write d (Rck.ssec c s) F.put with ⟨o,Rn⟩
    rw [hw] at h4
    simp only at h4 ⊢
    have HST4:Hid (JPut S w W2 r Rn V4):=hid ⟨h4,Only.trans HK3.out k4 fun _ _ q=>q⟩
    have HW1:Hid (Rck.srow c s gen l Rj d=(o,Rn)):=hid (by unfold Rck.srow; rw [HFD.out]; exact hw)
    clear h4 k4 hw
    rcases o with _ | er
    ·
     have HE1:Hid (each (Rck.srow c s gen l) (L.take (j+1)) R=(none,Rn)):=hid (each_next HD.out HEJ.out HW1.out)
     simp only [oErr]
     go_wp2
     go_roundw
     case rel=>exact ⟨j+1,Rn,by go_num,by omega,HE1.out,HST4.out⟩
     case measure=>simp [intOf]; omega
    ·
     have HR:Hid (R.sput c s gen l=(some (.fault sSPut s er),Rn)):=hid (by
      have e2:each (Rck.srow c s gen l) R.online R=(some er,Rn):=by rw [HL.out]; exact each_mid HD.out HEJ.out HW1.out
      rw [HV.out]
      unfold Rck.sputs
      rw [e2]
      rfl)
     have HWE:=hid (Za2 sSPut s er V4)
     obtain ⟨t2,v2,hq⟩:∃ t v,er.val=.iface t v:=by cases er<;>exact ⟨_,_,rfl⟩
     simp only [oErr]
     rw [hq] at HWE ⊢
     clear hq
     go_wp2_with fail
     refine HWE.out.mono ?_
     rintro e w5 ⟨rfl,rfl⟩
     go_wp2
     go_ret
     rw [HR.out]
     exact ⟨rfl,(HST4.out.out HX4.out).1,(HST4.out.out HX4.out).2⟩
   ·
    obtain rfl:j=L.length:=by omega
    have HR:Hid (R.sputs c s gen l=each (fun R d=>R.flush (d:Nat)) Rj.online Rj):=hid (by
     have e2:each (Rck.srow c s gen l) R.online R=(none,Rj):=by rw [HL.out,<- HEJ.out,List.take_length]
     unfold Rck.sputs
     rw [e2])
    clear HON HEJ
    go_wp2_with fail
    --M7
    refine (at_online HS.out.rack).mono ?_
    rintro e W3 ⟨v,rfl,hown,x3⟩
    obtain ⟨oa2,oc2,rfl,hcell⟩:=hown.slice
    obtain ⟨L2,hL2⟩:∃ L,Rj.online=L:=⟨_,rfl⟩
    have hLn2:L2.length<=8:=by rw [<- hL2]; have:=Rj.online_len; have:=HS.out.rack.disks8; omega
    rw [hL2] at hcell ⊢
    have HL2:=hid hL2
    have HOUT:=hid (HS.out.out HX4.out)
    have HON:Hid (∀ wx,Only (fun b=>¬PutT S wr.heap.size W3.heap.size b) W3 wx->∀ j d:Nat,L2[j]?=some d->∃ g,oa2=some ⟨g,0,none⟩/\wx.cell? ⟨g,j,none⟩=some (.int .i64 d)):=hid fun wx e j d hd=>by
     rcases hcell with ⟨q,_⟩ | ⟨g,q1,q2,q3,q4,q5⟩
     ·
      subst q; simp at hd
     ·
      have hjl:j < L2.length:=by
       rcases Nat.lt_or_ge j L2.length with q | q
       ·
        exact q
       ·
        rw [List.getElem?_eq_none q] at hd; cases hd
      refine ⟨g,q1,e.cell ?_ (fun q=>q (.inr ⟨q2,q3⟩))⟩
      rw [q5 j hjl]
      have:L2.getD j 0=d:=by rw [List.getD_eq_getElem?_getD,hd]; rfl
      rw [this]; rfl
    have HK3:Hid (Keeps S w W3):=hid (Only.ext HOUT.out.2 x3)
    have HST:Hid (JPut S wr W3 r Rj W3):=hid ⟨HOUT.out.1.more x3 fun b hb=>by
     have:=x3.size
     rcases hb with hb | hb
     ·
      exact ⟨by have:=HOUT.out.1.there b hb; omega,.inl hb⟩
     ·
      exact ⟨hb.2,.inr hb.1⟩,Only.refl _ _⟩
    have HKO:Hid (∀ wx Rx,JPut S wr W3 r Rx wx->RackAt S wx r Rx/\Keeps S w wx):=hid fun wx Rx q=>⟨q.rack.less fun b hb=>.inl hb,Only.trans HK3.out q.keeps fun b _ hb q=>hb (.inl q)⟩
    clear hcell hown x3 hL2 HS
    go_wp2
    go_loopw [82] (fun v wx=>∃ (m:Nat) (Rm:Rck),v=.int .i64 m/\m<=L2.length/\each (fun R d=>R.flush (d:Nat)) (L2.take m) Rj=(none,Rm)/\JPut S wr W3 r Rm wx) (fun v _=>L2.length - (intOf v).toNat)
    case atStart=>exact ⟨0,Rj,rfl,by omega,rfl,HST.out⟩
    case round =>
     clear HST
     obtain ⟨m,Rm,rfl,hm,hem,hst⟩:=hrel
     have HEM:=hid hem; have HS:=hid hst
     clear hem hst
     by_cases hlt2:m < L2.length
     ·
      have j0:(0:Int)<=(m:Int):=by omega
      have j1:(m:Int) < (L2.length:Int):=by omega
      obtain ⟨d,hd⟩:∃ d,L2[m]?=some d:=⟨L2[m],List.getElem?_eq_getElem hlt2⟩
      obtain ⟨g,rfl,cd⟩:=HON.out wr HS.out.keeps m d hd
      have HD:=hid hd
      clear hd
      go_wp2_with fail
      --M8
      refine (at_flush HS.out.rack d).mono ?_
      rintro e W4 ⟨rfl,h4,k4⟩
      rcases hw:Rm.flush d with ⟨o,Rn⟩
      rw [hw] at h4
      simp only at h4 ⊢
      have HST4:=hid (JPut.step HS.out h4 k4)
      have HW:=hid hw
      clear h4 k4 hw
      rcases o with _ | er
      ·
       have HE1:=hid (each_next (f:=fun R d=>R.flush (d:Nat)) HD.out HEM.out HW.out)
       simp only [oErr]
       go_wp2
       exact ⟨⟨m+1,Rn,by go_num,by omega,HE1.out,HST4.out⟩,by simp [intOf]; omega⟩
      ·
       have HE3:Hid (R.sput c s gen l=(some (.fault sSPut s er),Rn)):=hid (by
        have e3:R.sputs c s gen l=(some er,Rn):=by rw [HR.out,HL2.out]; exact each_mid HD.out HEM.out HW.out
        rw [HV.out,e3]
        rfl)
       have HWE:=hid (Za2 sSPut s er W4)
       obtain ⟨t2,v2,hq⟩:∃ t v,er.val=.iface t v:=by cases er<;>exact ⟨_,_,rfl⟩
       simp only [oErr]
       rw [hq] at HWE ⊢
       clear hq
       go_wp2_with fail
       refine HWE.out.mono ?_
       rintro e w5 ⟨rfl,rfl⟩
       go_wp2
       go_ret
       rw [HE3.out]
       exact ⟨rfl,HKO.out _ _ HST4.out⟩
     ·
      obtain rfl:m=L2.length:=by omega
      have HE3:Hid (R.sput c s gen l=(none,Rm)):=hid (by
      have e3:R.sputs c s gen l=(none,Rm):=by rw [HR.out,HL2.out,<- HEM.out,List.take_length]
      rw [HV.out,e3]
      rfl)
      go_wp2
      --M9
      go_ret
      rw [HE3.out]
      exact ⟨rfl,HKO.out _ _ HS.out⟩
end Go.Proofs.YtgjnnbomnoafcaaGreatDoor
namespace Go.Proofs.YtgjnnbomnoafcaaGreatDoor
set_option linter.unusedVariables false
open Go Go.RowKit Gf
def SGetPost (w:World) (R:Rck) (c:Cfg) (s:Int) (e:Ending) (w':World):Prop:=∃ v,e=.returned (.tuple #[v,.int .i64 (R.sget c s).2.1,oErr (R.sget c s).2.2])/\OwnVs w' w.heap.size 120 108 v ((R.sget c s).1.map bA)/\Ext w w'
attribute [local irreducible] wpSQ
set_option maxRecDepth 100000 in
set_option maxHeartbeats 2000000 in
theorem sget_c {S:Nat->Prop} {w:World} {r:Nat} {R:Rck} (h:RackAt S w r R) (c:Cfg) (s:Int) :
  Calls Tryz.prog 65 #[.pointer (some ⟨r,0,none⟩),.agg (Cfg.A c),.int .i64 s] w (SGetPost w R c s):=by
 have HP:Hid (SGetPost w R c s=fun e w'=>∃ v,e=.returned (.tuple #[v,.int .i64 (R.sget c s).2.1,oErr (R.sget c s).2.2])/\OwnVs w' w.heap.size 120 108 v ((R.sget c s).1.map bA)/\Ext w w'):=hid rfl
 rw [HP.out]
 obtain ⟨W0,hW0⟩:∃ W,w.alloc (.cells (Cfg.A c) 74)=W:=⟨_,rfl⟩
 have HX0:=hid (show Ext w W0 from hW0▸(Ext.refl w).alloc _)
 have HC0:=hid (show W0.heap[w.heap.size]?=some (.cells (Cfg.A c) 74 (0,0)) from hW0▸heap_alloc_new _ _)
 have H0:=hid (h.ext HX0.out)
 have HKN:=hid (sknown_c H0.out c s)
 have HG0:Hid (R.sget c s=if R.sknown c s=true then
  if R.off=true\/(R.online.length:Int) < c.k then ([],0,some (.fault sSGet s (.no 7)))
  else if ((R.slook c s).2.length:Int) < c.k then ([],0,some (.fault sSGet s (.loss s (R.slook c s).2.length c.k)))
  else (decoded c (R.slook c s).2,(R.slook c s).1,none)
 else ([],0,some (.fault sSGet s (.no 1)))):=hid rfl
 clear h HP
 go_enter Tryz.func65,Tryz.ntmps65
 go_wp2_with (guard_target=wpList _ _ _ (⟨some _,Op.load _ _,_,_,_,none⟩::_) _ _; refine Zae rfl 74 _ rfl ⟨w.heap.size,0,none⟩ rfl (Cfg.A c) (Za6 c) (Zaj HC0.out) ?_)
 refine HKN.out.mono ?_
 rintro e w2 ⟨rfl,x2⟩
 have HX2:=hid (Ext.trans HX0.out x2)
 have H2:=hid (H0.out.ext x2)
 have HC2:=hid (Ext.at x2 HC0.out)
 clear x2 HKN
 rcases hf:R.sknown c s with _ | _
 ·
  have HV:=hid (show R.sget c s=([],0,some (.fault sSGet s (.no 1))) by rw [HG0.out,hf]; rfl)
  have HW:=hid (Za2 sSGet s (.no 1) w2)
  simp only [Err.val] at HW
  clear hf HG0
  go_wp2_with fail
  refine HW.out.mono ?_
  rintro e w3 ⟨rfl,rfl⟩
  go_wp2
  go_ret3
  rw [HV.out]
  exact ⟨_,rfl,OwnVs.nil _ _ _ _,HX2.out⟩
 ·
  have HGD:=hid (Zbe hf)
  have HF:=hid hf
  clear hf
  have xd:Ext w2 w2.drew:=(Ext.refl w2).drew
  have oc:Hid (∀ y:SW Ext w2.drew,Calls Tryz.prog 37 #[.pointer (some ⟨r,0,none⟩)] y.w fun e w''=>e=.returned (.bool R.off)/\Ext y.w w''):=hid fun y=>(at_off (H2.out.ext (Ext.trans xd y.ext))).mono fun e w' q=>⟨q.1,q.2▸Ext.refl _⟩
  rcases ho:R.off with _ | _
  ·
   have HG1:=hid (show R.sget c s=if (R.online.length:Int) < c.k then ([],0,some (.fault sSGet s (.no 7))) else if ((R.slook c s).2.length:Int) < c.k then ([],0,some (.fault sSGet s (.loss s (R.slook c s).2.length c.k))) else (decoded c (R.slook c s).2,(R.slook c s).1,none) by
    rw [HG0.out,if_pos HF.out]
    by_cases q:(R.online.length:Int) < c.k
    ·
     rw [if_pos (.inr q),if_pos q]
    ·
     rw [if_neg (by rw [ho]; simp; omega),if_neg q])
   rw [ho] at oc
   clear ho HG0
   have c1y:∀ y:SW Ext w2.drew,y.w.cell? ⟨w.heap.size,1,none⟩=some (.int .i64 c.k):=fun y=>(Zaf ((Ext.trans xd y.ext).at HC2.out)).trans (Cfg.A1 c)
   go_wp2_with fail
   refine Zal (S:=Ext) (.one [0,1,2,3,6,7] 4 (.fin [5,8,9])) (by kernel_rfl) (by kernel_rfl) (fun _ _ d _ _ h=>by cases d<;>exact h) ?_
   rw [wpS]
   simp only [opsAt,opA,opB,opC,opD,opE,opF,opG]
   (refine Zaa (fun K hK=>?_); go_simp; refine hK _ ?_; clear hK K)
   (refine Zaa (fun K hK=>?_); go_simp; (apply Exists.intro; refine ⟨fun x=>?_,hK _ ?_⟩; (exact oc.out x); clear hK K))
   iterate 4 ((refine Zaa (fun K hK=>?_); go_simp; refine hK _ ?_; clear hK K))
   refine Zac ?_
   intro V1 hV1
   refine Zat fun Q hQ=>?_
   go_wp2_with fail
   refine (at_online (H2.out.ext (Ext.trans xd hV1))).mono ?_
   rintro e V2 ⟨v,rfl,hown,x3⟩
   obtain ⟨oa,ocp,rfl,_⟩:=hown.slice
   go_wp2
   refine hQ _ _ x3 ?_
   clear hQ Q
   rw [wpS]
   simp only [opsAt,opA,opB,opC,opD,opE,opF,opG]
   iterate 3 ((refine Zaa (fun K hK=>?_); go_simp; refine hK _ ?_; clear hK K))
   refine Zac ?_
   intro V3 hV3
   have X3:=Ext.trans xd (Ext.trans hV1 (Ext.trans x3 hV3))
   have HXV:=hid (Ext.trans HX2.out X3)
   have H3:=hid (H2.out.ext X3)
   have HC3:=hid (X3.at HC2.out)
   have HLN:=hid (rfl:R.online.length=R.online.length)
   clear hV1 hV3 x3 X3 xd oc c1y hown
   generalize R.online.length=ol at *
   by_cases hol:(ol:Int) < c.k
   ·
    have HV:=hid (show R.sget c s=([],0,some (.fault sSGet s (.no 7))) by rw [HG1.out,if_pos hol])
    have HW:=hid (Za2 sSGet s (.no 7) V3)
    simp only [Err.val] at HW
    clear HG1
    go_wp2_with fail
    refine HW.out.mono ?_
    rintro e w3 ⟨rfl,rfl⟩
    go_wp2
    go_ret3
    rw [HV.out]
    exact ⟨_,rfl,OwnVs.nil _ _ _ _,HXV.out⟩
   ·
    have HG2:=hid (show R.sget c s=if ((R.slook c s).2.length:Int) < c.k then ([],0,some (.fault sSGet s (.loss s (R.slook c s).2.length c.k))) else (decoded c (R.slook c s).2,(R.slook c s).1,none) by rw [HG1.out,if_neg hol])
    clear HG1
    go_wp2_with (guard_target=wpList _ _ _ (⟨some _,Op.load _ _,_,_,_,none⟩::_) _ _; refine Zae rfl 74 _ rfl ⟨w.heap.size,0,none⟩ rfl (Cfg.A c) (Za6 c) (Zaj HC3.out) ?_)
    have hl:=slook_c H3.out c s
    rcases hsl:R.slook c s with ⟨G,ps⟩
    unfold LookPost at hl
    rw [hsl] at hl HG2
    simp only at hl HG2
    refine hl.mono ?_
    clear hl
    rintro e w4 ⟨v4,rfl,hlk⟩
    obtain ⟨pa,pcp,hv4,hpa⟩:=hlk.parts
    subst hv4
    have HPT:=hid hpa
    have X4:=hlk.ext
    have HXW:=hid (Ext.trans HXV.out X4)
    have HC4:=hid (X4.at HC3.out)
    have HSL:=hid hsl
    have c1':w4.cell? ⟨w.heap.size,1,none⟩=some (.int .i64 c.k):=(Zaf HC4.out).trans (Cfg.A1 c)
    have c2':w4.cell? ⟨w.heap.size,2,none⟩=some (.int .i64 c.n):=(Zaf HC4.out).trans (Cfg.A2 c)
    obtain ⟨N,hN⟩:∃ N,ps.length=N:=⟨_,rfl⟩
    rw [hN] at HG2 ⊢
    have HN:=hid hN
    clear hlk hpa X4 hsl hN hol
    by_cases hk:(N:Int) < c.k
    ·
     have HV:=hid (show R.sget c s=([],0,some (.fault sSGet s (.loss s N c.k))) by rw [HG2.out,if_pos hk])
     have HW:=hid (Za2 sSGet s (.loss s N c.k) w4)
     simp only [Err.val] at HW
     clear HG2
     go_wp2_with (guard_target=wpList _ _ _ (⟨some _,Op.build _ _,_,_,_,none⟩::_) _ _; refine Zav rfl 127 _ rfl #[.int .i64 s,.int .i64 N,.int .i64 c.k] (by kernel_rfl) ?_)
     refine HW.out.mono ?_
     rintro e w5 ⟨rfl,rfl⟩
     go_wp2
     go_ret3
     rw [HV.out]
     exact ⟨_,rfl,OwnVs.nil _ _ _ _,HXW.out⟩
    ·
     have HV:=hid (show R.sget c s=(decoded c ps,G,none) by rw [HG2.out,if_neg hk])
     have k0:=HGD.out.1.k0
     have kn:=HGD.out.1.k1
     have n8:=HGD.out.1.n1
     obtain ⟨k,hkk⟩:∃ k:Nat,c.k=k:=⟨c.k.toNat,by omega⟩
     obtain ⟨n,hnn⟩:∃ n:Nat,c.n=n:=⟨c.n.toNat,by omega⟩
     have hps:=Rck.slook_eq HF.out
     rw [HSL.out,hnn] at hps
     have hps2:ps=partsG (R.sgood c s) (newG (R.sgood c s) n) n:=(Prod.mk.inj hps).2
     have HPN:=hid (show ∀ p∈ps,p.1 < n from fun p hp=>(Zby (hps2▸hp)).1)
     have HND:=hid (show (ps.map (·.1)).Nodup from hps2▸Zb8 _ _ _)
     have HPL:=hid (show ∀ p∈ps,p.2.length=108/\∀ y∈p.2,y < 256 from fun p hp=>by
      obtain ⟨_,f,h1,h2⟩:=Zby (hps2▸hp)
      have ok:=H3.out.got_ok h1
      rw [h2]
      exact ⟨ok.len,ok.byte⟩)
     have hNn:N<=n:=by rw [<- HN.out,hps2]; exact partsG_len _ _ _
     rw [hkk] at k0 kn hk c1'
     rw [hnn] at kn n8 c2'
     have k1:1<=k:=by omega
     have kN:k<=N:=by omega
     have kn2:k<=n:=by omega
     have n82:n<=8:=by omega
     obtain ⟨q,hq⟩:∃ q,(Cd.solve ((ps.take k).map fun p=>Cd.row k p.1) ((ps.take k).map fun p=>p.2)).2=q:=⟨_,rfl⟩
     have HDQ:=hid (show decoded c ps=q by unfold decoded; rw [hkk]; exact hq)
     have HQB:=hid (show Cd.Blocks k 108 q from by
      rw [<- hq]
      have hl:(ps.take k).length=k:=by rw [List.length_take,HN.out]; omega
      exact Cd.solve_blocks
       (Cd.Blocks.mem (by rw [List.length_map]; exact hl) (by intro b hb; obtain ⟨p,_,rfl⟩:=List.mem_map.1 hb; exact Cd.row_len _ _) (by intro b hb; obtain ⟨p,_,rfl⟩:=List.mem_map.1 hb; exact Cd.row_byte _ _))
       (Cd.Blocks.mem (by rw [List.length_map]; exact hl) (by intro b hb; obtain ⟨p,hp,rfl⟩:=List.mem_map.1 hb; exact (HPL.out p (List.mem_of_mem_take hp)).1) (by intro b hb; obtain ⟨p,hp,rfl⟩:=List.mem_map.1 hb; exact (HPL.out p (List.mem_of_mem_take hp)).2))
      )
     obtain ⟨pb,rfl,hpt⟩:=HPT.out (by intro q; have:=HN.out; rw [q] at this; simp at this; omega)
     have HPT2:=hid hpt
     have HQ:=hid hq
     clear hps hps2 hpt hq hkk hnn HG2 HPT k0 kn n8
     go_wp2_with fail
     refine (codenew_c k n k1 kn2 n82 w4).mono ?_
     rintro e w5 ⟨cb,rfl,hcode,x5⟩
     have HCO:=hid hcode
     have HX5:=hid (Ext.trans HXW.out x5)
     have HP5:=hid (show PartsAt w5 pb 108 ps from fun i p hi=>by
      obtain ⟨q1,b,off,c,q2,q3⟩:=HPT2.out i p hi
      exact ⟨x5.cell q1,b,off,c,x5.cell q2,q3.onlyG x5 (fun x=>x)⟩)
     clear hcode x5 c1' c2'
     go_wp2_with fail
     refine (decode_c HCO.out pb pcp N ps HP5.out HN.out kN k1 (by omega) (by omega) (by omega) HPN.out n82 HND.out HPL.out).mono ?_
     rintro e w6 ⟨g6,c6,rfl,hr6,x6⟩
     rw [HQ.out] at hr6
     have HR6:=hid hr6
     have HX6:=hid (Ext.trans HX5.out x6)
     clear hr6 x6
     have HO0:=hid (OwnVs.nil w6 w6.heap.size 120 108)
     go_wp2
     go_loopw [85,14] (fun t v wr=>∃ j:Nat,t=.int .i64 j/\j<=k/\OwnVs wr w6.heap.size 120 108 v ((q.take j).map bA)/\Ext w6 wr) (fun t _ _=>k - (intOf t).toNat)
     case atStart=>exact ⟨0,rfl,by omega,HO0.out,Ext.refl _⟩
     case round =>
      clear HO0
      obtain ⟨j,rfl,hj,hown,hx7⟩:=hrel
      have HO:=hid hown
      have HX7:=hid hx7
      clear hown hx7
      by_cases hjk:j < k
      ·
       have hql:j < q.length:=by rw [HQB.out.n]; exact hjk
       obtain ⟨D,hD⟩:∃ D,q[j]?=some D:=⟨q[j],List.getElem?_eq_getElem hql⟩
       have hdl:D.length=108:=by
        have:=HQB.out.len j hjk
        unfold Cd.B at this
        rw [List.getD_eq_getElem?_getD,hD] at this
        exact this
       obtain ⟨b,bc,q1,q2⟩:=HR6.out j D hD
       rw [hdl] at q1
       have hq1:=HX7.out.cell q1
       have HBC:Hid (∀ i v,(bA D).toList[i]?=some v->wr.cell? ((⟨b,0,none⟩:Addr).add i)=some v):=hid fun i v hv=>by
        have hi:i < 108:=by
         rcases Nat.lt_or_ge i 108 with q | q
         ·
          exact q
         ·
          rw [List.getElem?_eq_none (by rw [Array.length_toList,Za3]; omega)] at hv; cases hv
        rw [addrPlus]
        have q3:=q2.get i (by omega)
        refine (HX7.out.cell q3).trans ?_
        have:=Zb5 D i (by omega)
        rw [<- Array.getElem?_toList] at this
        rw [<- hv,<- this]
       have HSB:Hid ((bA D).size=108):=hid (by rw [Za3,hdl])
       have harr:∀ (W:World),Sem.run Tryz.prog (Instr.arrayAt 120 (.slice (some ⟨b,0,none⟩) 108 bc)) W=.ok (.pointer (some ⟨b,0,none⟩)) W:=fun W=>rfl
       obtain ⟨v',w3,hap,hown2,_,hx4⟩:=HO.out.add (tsl:=98) Tryz.underlying98 infoBlk (by show (bA z108).size=108; rw [Za3]; simp [z108]) (by omega) (bA D) HSB.out (bA_one _) (by rw [List.length_map,List.length_take]; omega) (by omega) HX7.out.size
       have HO2:Hid (OwnVs w3 w6.heap.size 120 108 v' ((q.take (j+1)).map bA)):=hid (by
        have e:q.take (j+1)=q.take j++[D]:=by
         rw [List.getElem?_eq_getElem hql] at hD
         rw [List.take_succ_eq_append_getElem hql,Option.some.inj hD]
        rw [e,List.map_append]
        exact hown2)
       have HX8:=hid (hx4 w6 (Nat.le_refl _) HX7.out)
       have j0:(0:Int)<=(j:Int):=by omega
       have j1:(j:Int) < (k:Int):=by omega
       clear hown2 hx4 q1 q2 hD hdl hql
       go_wp2_with (first
        | (guard_target=wpList _ _ _ (⟨some _,Op.load _ _,_,_,_,none⟩::_) _ _; refine Zae rfl 120 _ rfl ⟨b,0,none⟩ rfl (bA D) (by rw [HSB.out]; exact aggBlock) HBC.out ?_)
        | (guard_target=wpList _ _ _ (⟨some _,Op.buildSlice _ _ _,_,_,_,none⟩::_) _ _; refine Zag rfl 98 120 _ rfl (bA D) _ _ 108 108 Tryz.underlying98 infoBlk (by omega) (by omega) rfl rfl HSB.out ?_)
        | (at_builtin; refine wpList_append_run rfl _ _ _ rfl _ _ _ _ rfl rfl hap ?_))
       go_roundw
       case rel=>exact ⟨j+1,by go_num,by omega,HO2.out,HX8.out⟩
       case measure=>simp [intOf]; omega
      ·
       obtain rfl:k=j:=by omega
       have HFI:=hid (show q.take k=q from List.take_of_length_le (by rw [HQB.out.n]; exact Nat.le_refl _))
       go_wp2
       go_ret3
       rw [HV.out,HDQ.out]
       exact ⟨_,rfl,by have:=HO.out.down (B':=w.heap.size) (by have:=HX6.out.size; omega); rw [HFI.out] at this; exact this,Ext.trans HX6.out HX7.out⟩
  ·
   have HV:=hid (show R.sget c s=([],0,some (.fault sSGet s (.no 7))) by rw [HG0.out,if_pos HF.out,if_pos (.inl ho)])
   rw [ho] at oc
   clear ho HG0
   go_wp2_with fail
   refine Zal (S:=Ext) (.fin [0,1,2,3,4,5,6,7,8,9]) (by kernel_rfl) (by kernel_rfl) (fun _ _ d _ _ h=>by cases d<;>exact h) ?_
   rw [wpS]
   simp only [opsAt,opA,opB,opC,opD,opE,opF,opG]
   (refine Zaa (fun K hK=>?_); go_simp; refine hK _ ?_; clear hK K)
   (refine Zaa (fun K hK=>?_); go_simp; (apply Exists.intro; refine ⟨fun x=>?_,hK _ ?_⟩; (exact oc.out x); clear hK K))
   (refine Zaa (fun K hK=>?_); go_simp; refine hK _ ?_; clear hK K)
   iterate 6 (refine Zcb rfl (fun K hK=>?_); go_simp; refine hK _ ?_; clear hK K)
   (refine Zaa (fun K hK=>?_); go_simp; refine hK _ ?_; clear hK K)
   refine Zac ?_
   intro V hV
   have HXV:=hid (Ext.trans HX2.out (Ext.trans xd hV))
   have HW:=hid (Za2 sSGet s (.no 7) V)
   simp only [Err.val] at HW
   clear hV xd oc
   go_wp2_with fail
   refine HW.out.mono ?_
   rintro e w3 ⟨rfl,rfl⟩
   go_wp2
   go_ret3
   rw [HV.out]
   exact ⟨_,rfl,OwnVs.nil _ _ _ _,HXV.out⟩
end Go.Proofs.YtgjnnbomnoafcaaGreatDoor
