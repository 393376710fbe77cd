/- Texts of one proof, joined: StripePure, StripeLive, StripeRack, StripeRecs, StripeLaws, PartsPure. -/
import Derived.Test.YtgjnnbomnoafcaaGreatPI
import Derived.Test.YtgjnnbomnoafcaaGreatPK
set_option linter.unusedVariables false
set_option linter.unusedSimpArgs false
namespace Go.Proofs.YtgjnnbomnoafcaaGreat
set_option linter.unusedVariables false
def sSPut:ByteArray:=⟨#[115,116,114,105,112,101,46,80,117,116]⟩
def sSGet:ByteArray:=⟨#[115,116,114,105,112,101,46,71,101,116]⟩
def sfrm (s gen:Int) (d:Nat) (b:List Nat):Frm:=⟨3,d,s,gen,b⟩
def sfrag (c:Cfg) (l:List (List Nat)) (d:Nat):List Nat:=Cd.mix (Cd.row c.k.toNat d) l
def lookStep (g:Nat->Option Frm) (q:Int × List (Nat × List Nat)) (d:Nat):Int × List (Nat × List Nat) :=
 match g d with
 | none=>q
 | some f=>if f.gen=0\/f.gen < q.1 then q else if q.1 < f.gen then (f.gen,[(d,f.data)]) else (q.1,q.2++[(d,f.data)])
def decoded (c:Cfg) (ps:List (Nat × List Nat)):List (List Nat):=(Cd.solve ((ps.take c.k.toNat).map fun p=>Cd.row c.k.toNat p.1) ((ps.take c.k.toNat).map fun p=>p.2)).2
namespace Rck
def ssec (c:Cfg) (s:Int):Int:=1+c.slots*c.k+s
def sknown (R:Rck) (c:Cfg) (s:Int):Bool:=R.fits c && decide (0<=s) && decide (s < c.stripes)
def srow (c:Cfg) (s gen:Int) (l:List (List Nat)) (R:Rck) (d:Nat):Option Err × Rck:=R.write d (ssec c s) (sfrm s gen d (sfrag c l d)).put
def sputs (R:Rck) (c:Cfg) (s gen:Int) (l:List (List Nat)):Option Err × Rck :=
 match (each (srow c s gen l) R.online R).1 with
 | some e=>(some e,(each (srow c s gen l) R.online R).2)
 | none=>each (fun R d=>R.flush (d:Nat)) (each (srow c s gen l) R.online R).2.online (each (srow c s gen l) R.online R).2
def sputOk (R:Rck) (c:Cfg) (s gen:Int) (l:List (List Nat)):Bool:=R.sknown c s && decide (1<=gen) && decide (gen<=1152921504606846976) && decide ((l.length:Int)=c.k)
def sput (R:Rck) (c:Cfg) (s gen:Int) (l:List (List Nat)):Option Err × Rck :=
 if R.sputOk c s gen l=true then ((R.sputs c s gen l).1.map (.fault sSPut s),(R.sputs c s gen l).2) else (some (.fault sSPut s (.no 1)),R)
def sgood (R:Rck) (c:Cfg) (s:Int) (d:Nat):Option Frm:=R.get d (ssec c s) 3 d s
def slook (R:Rck) (c:Cfg) (s:Int):Int × List (Nat × List Nat):=if R.sknown c s=true then (List.range c.n.toNat).foldl (lookStep (R.sgood c s)) (0,[]) else (0,[])
def sget (R:Rck) (c:Cfg) (s:Int):List (List Nat) × Int × Option Err :=
 if R.sknown c s=true then
  if R.off=true\/(R.online.length:Int) < c.k then ([],0,some (.fault sSGet s (.no 7)))
  else if ((R.slook c s).2.length:Int) < c.k then ([],0,some (.fault sSGet s (.loss s (R.slook c s).2.length c.k)))
  else (decoded c (R.slook c s).2,(R.slook c s).1,none)
 else ([],0,some (.fault sSGet s (.no 1)))
end Rck
def newG (g:Nat->Option Frm):Nat->Int
 | 0=>0
 | n+1=>match g n with
  | some f=>max (newG g n) f.gen
  | none=>newG g n
def partAt (g:Nat->Option Frm) (G:Int) (d:Nat):Option (Nat × List Nat):=(g d).bind fun f=>if f.gen=G/\f.gen≠0 then some (d,f.data) else none
def partsG (g:Nat->Option Frm) (G:Int) (n:Nat):List (Nat × List Nat):=(List.range n).filterMap (partAt g G)
theorem Zbt (g:Nat->Option Frm) (G:Int) (n:Nat):partsG g G (n+1)=partsG g G n++(partAt g G n).toList:=by
 unfold partsG
 rw [List.range_succ,List.filterMap_append]
 congr 1
theorem newG_nonneg (g:Nat->Option Frm):∀ n,0<=newG g n
 | 0=>Int.le_refl _
 | n+1=>by
  have:=newG_nonneg g n
  unfold newG
  split
  ·
   omega
  ·
   exact this
theorem newG_ge (g:Nat->Option Frm):∀ (n d:Nat) (f:Frm),d < n->g d=some f->f.gen<=newG g n
 | n+1,d,f,hd,hf=>by
  unfold newG
  by_cases e:d=n
  ·
   subst e; rw [hf]; exact Int.le_max_right _ _
  ·
   have:=newG_ge g n d f (by omega) hf
   split
   ·
    omega
   ·
    exact this
theorem newG_eq {g:Nat->Option Frm} {G:Int} (hG:0<=G):∀ n,(∀ d f,d < n->g d=some f->f.gen<=G)->newG g n<=G
 | 0,_=>hG
 | n+1,h=>by
  have:=newG_eq hG n fun d f hd=>h d f (by omega)
  unfold newG
  split
  ·
   rename_i f hf
   have:=h n f (by omega) hf
   omega
  ·
   exact this
theorem partsG_none {g:Nat->Option Frm} {G:Int} {n:Nat} (h:newG g n < G):partsG g G n=[]:=by
 unfold partsG
 rw [List.filterMap_eq_nil_iff]
 intro d hd
 have hd:=List.mem_range.1 hd
 unfold partAt
 rcases hg:g d with _ | f
 ·
  rfl
 ·
  have:=newG_ge g n d f hd hg
  simp only [Option.bind_some]
  rw [if_neg (by omega)]
theorem look_fold (g:Nat->Option Frm) (n:Nat):(List.range n).foldl (lookStep g) (0,[])=(newG g n,partsG g (newG g n) n):=by
 induction n with
 | zero=>rfl
 | succ n ih =>
  rw [List.range_succ,List.foldl_append,ih]
  show lookStep g (newG g n,partsG g (newG g n) n) n=_
  have h0:=newG_nonneg g n
  rw [Zbt]
  unfold lookStep
  rcases hg:g n with _ | f
  ·
   have e1:newG g (n+1)=newG g n:=by show (match g n with | some f=>max (newG g n) f.gen | none=>newG g n)=_; rw [hg]
   rw [e1]
   unfold partAt
   simp [hg]
  ·
   have e1:newG g (n+1)=max (newG g n) f.gen:=by show (match g n with | some f=>max (newG g n) f.gen | none=>newG g n)=_; rw [hg]
   have e2:∀ G,partAt g G n=if f.gen=G/\f.gen≠0 then some (n,f.data) else none:=fun G=>by unfold partAt; rw [hg]; rfl
   rw [e1,e2]
   simp only
   by_cases h1:f.gen=0\/f.gen < newG g n
   ·
    rw [if_pos h1,show max (newG g n) f.gen=newG g n by omega,if_neg (by omega)]
    simp
   ·
    rw [if_neg h1]
    by_cases h2:newG g n < f.gen
    ·
     rw [if_pos h2,show max (newG g n) f.gen=f.gen by omega,if_pos ⟨rfl,by omega⟩,partsG_none h2]
     rfl
    ·
     rw [if_neg h2,show max (newG g n) f.gen=newG g n by omega,if_pos ⟨by omega,by omega⟩]
     rfl
def ssecN (c:Cfg) (s:Nat):Nat:=1+c.slots.toNat*c.k.toNat+s
theorem ssec_eq {c:Cfg} (hc:c.Good) (s:Nat):Rck.ssec c (s:Int)=(ssecN c s:Nat):=by
 unfold Rck.ssec ssecN
 have e:c.k=((c.k.toNat:Nat):Int):=by have:=hc.k0; omega
 have e2:c.slots=((c.slots.toNat:Nat):Int):=by have:=hc.sl0; omega
 rw [e,e2]; simp
theorem Zbq {c:Cfg} (hc:c.Good) {m:Nat} (hm:c.sectors<=(m:Int)) {s:Nat} (hs:s < c.stripes.toNat):ssecN c s < m:=by
 have h2:((c.slots.toNat*c.k.toNat:Nat):Int)=c.slots*c.k:=by
  have e:c.k=((c.k.toNat:Nat):Int):=by have:=hc.k0; omega
  have e2:c.slots=((c.slots.toNat:Nat):Int):=by have:=hc.sl0; omega
  rw [e,e2]; simp
 unfold Cfg.sectors at hm
 rw [<- h2] at hm
 have h3:=hc.st0
 unfold ssecN
 omega
theorem ssecN_inj {c:Cfg} {s t:Nat} (h:ssecN c s=ssecN c t):s=t:=by unfold ssecN at h; omega
structure SFit (c:Cfg) (s:Nat) (gen:Int) (l:List (List Nat)):Prop where
 st:s < c.stripes.toNat
 g0:1<=gen
 g1:gen<=1152921504606846976
 bl:Cd.Blocks c.k.toNat 108 l
namespace SFit
variable {c:Cfg} {s:Nat} {gen:Int} {l:List (List Nat)}
theorem frag_len (h:SFit c s gen l) (hc:c.Good) (d:Nat):(sfrag c l d).length=108:=by
 unfold sfrag Cd.mix
 rw [Cd.mixK_len,h.bl.len 0 (by have:=hc.k0; omega)]
theorem frag_byte (h:SFit c s gen l) (d:Nat):∀ x∈sfrag c l d,x < 256:=Cd.mixK_byte _ _ _ (Cd.row_byte _ _) h.bl.byte
theorem ok (h:SFit c s gen l) (hc:c.Good) (d:Nat):(sfrm s gen d (sfrag c l d)).Ok:=⟨h.frag_len hc d,h.frag_byte d⟩
theorem right (h:SFit c s gen l) (hc:c.Good) {d:Nat} (hd:d < c.n.toNat):(sfrm s gen d (sfrag c l d)).right=true:=by
 have e1:(sfrm s gen d (sfrag c l d)).kind=3:=rfl
 have e2:(sfrm s gen d (sfrag c l d)).slot=d:=rfl
 have e3:(sfrm s gen d (sfrag c l d)).stripe=s:=rfl
 have e4:(sfrm s gen d (sfrag c l d)).gen=gen:=rfl
 have q1:=h.st; have q2:=h.g0; have q3:=h.g1; have q4:=hc.st1; have q5:=hc.n1
 exact Frm.right_of (by omega) (by omega) (by omega) (by omega) (by omega) (by omega) (by omega) (by omega)
theorem put (h:SFit c s gen l) (hc:c.Good) {d:Nat} (hd:d < c.n.toNat):(sfrm s gen d (sfrag c l d)).put=(sfrm s gen d (sfrag c l d)).bytes:=by unfold Frm.put; rw [h.right hc hd]; rfl
theorem get (h:SFit c s gen l) (hc:c.Good) {d:Nat} (hd:d < c.n.toNat):Frm.get (sfrm s gen d (sfrag c l d)).bytes=some (sfrm s gen d (sfrag c l d)):=Frm.get_bytes _ (h.ok hc d) (h.right hc hd)
theorem len (h:SFit c s gen l) (hc:c.Good) (d:Nat):(sfrm s gen d (sfrag c l d)).bytes.length=128:=Frm.bytes_len _ (h.ok hc d)
theorem lenk (h:SFit c s gen l) (hc:c.Good):(l.length:Int)=c.k:=by rw [h.bl.n]; have:=hc.k0; omega
end SFit
namespace Dsk
def sg (D:Dsk) (c:Cfg) (s d:Nat):Option Frm :=
 if D.dead then none else (Frm.get (D.read (ssecN c s))).bind fun f=>if f.kind=3/\f.slot=d/\f.stripe=s then some f else none
theorem sg_has {D:Dsk} {c:Cfg} {s d:Nat} {gen:Int} {l:List (List Nat)} (hc:c.Good) (hx:SFit c s gen l) (hd:d < c.n.toNat) (ha:D.dead=false) (hr:D.read (ssecN c s)=(sfrm s gen d (sfrag c l d)).bytes):D.sg c s d=some (sfrm s gen d (sfrag c l d)):=by
 unfold sg
 rw [ha,hr,hx.get hc hd]
 simp only [Bool.false_eq_true,if_false,Option.bind_some]
 rw [if_pos ⟨rfl,rfl,rfl⟩]
end Dsk
theorem Super.sknown {R:Rck} {c:Cfg} {m:Nat} (h:Super R c m) {s:Nat} (hs:s < c.stripes.toNat):R.sknown c (s:Int)=true:=by
 unfold Rck.sknown
 rw [h.fits]
 simp only [Bool.true_and,Bool.and_eq_true,decide_eq_true_eq]
 omega
theorem Super.sgood {R:Rck} {c:Cfg} {m:Nat} (h:Super R c m) {d s:Nat} (hd:d < c.n.toNat) (hs:s < c.stripes.toNat):R.sgood c (s:Int) d=(R.dsk d).sg c s d:=by
 have hm:=Zbq h.good h.fit hs
 unfold Rck.sgood Dsk.sg
 rw [ssec_eq h.good]
 rcases ha:(R.dsk d).dead with _ | _
 ·
  rw [h.live.get hd hm ha]
  rcases hg:Frm.get ((R.dsk d).read (ssecN c s)) with _ | f
  ·
   rfl
  ·
   simp only [Bool.false_eq_true,if_false,Option.bind_some]
   have e:(0<=(s:Int)->f.stripe=s)↔f.stripe=s:=⟨fun q=>q (by omega),fun q _=>q⟩
   simp only [e]
 ·
  rw [h.live.get_dead hd hm ha]
  rfl
theorem newG_congr {g g':Nat->Option Frm}:∀ n,(∀ d,d < n->g d=g' d)->newG g n=newG g' n
 | 0,_=>rfl
 | n+1,h=>by
  have:=newG_congr n fun d hd=>h d (by omega)
  unfold newG
  rw [h n (by omega),this]
theorem partsG_congr {g g':Nat->Option Frm} {G:Int}:∀ {n:Nat},(∀ d,d < n->g d=g' d)->partsG g G n=partsG g' G n
 | 0,_=>rfl
 | n+1,h=>by
  have e:partAt g G n=partAt g' G n:=by unfold partAt; rw [h n (by omega)]
  rw [Zbt,Zbt,partsG_congr fun d hd=>h d (by omega),e]
theorem Super.slook {R:Rck} {c:Cfg} {m:Nat} (h:Super R c m) {s:Nat} (hs:s < c.stripes.toNat) {g:Nat->Option Frm} (hg:∀ d:Nat,d < c.n.toNat->(R.dsk d).sg c s d=g d):R.slook c (s:Int)=(newG g c.n.toNat,partsG g (newG g c.n.toNat) c.n.toNat):=by
 unfold Rck.slook
 rw [if_pos (h.sknown hs),look_fold]
 have e:∀ d,d < c.n.toNat->R.sgood c (s:Int) d=g d:=fun d hd=>(h.sgood hd hs).trans (hg d hd)
 rw [newG_congr _ e,partsG_congr e]
def hasG (g:Nat->Option Frm) (G:Int) (d:Nat):Bool:=match g d with
 | some f=>decide (f.gen=G)
 | none=>false
theorem partsG_eq {g:Nat->Option Frm} {G:Int} (hG:G≠0) {b:Nat->List Nat} {n:Nat} (h:∀ d f,d < n->g d=some f->f.gen=G->f.data=b d):partsG g G n=((List.range n).filter (hasG g G)).map fun d=>(d,b d):=by
 induction n with
 | zero=>rfl
 | succ n ih =>
  rw [Zbt,ih fun d f hd=>h d f (by omega),List.range_succ,List.filter_append,List.map_append]
  congr 1
  unfold partAt
  rcases hg:g n with _ | f
  ·
   simp [hasG,hg]
  ·
   simp only [Option.bind_some]
   by_cases e:f.gen=G
   ·
    rw [if_pos ⟨e,by omega⟩,h n f (by omega) hg e]
    simp [hasG,hg,e]
   ·
    rw [if_neg (fun q=>e q.1)]
    simp [hasG,hg,e]
theorem newG_is {g:Nat->Option Frm} {G:Int} {n d:Nat} {f:Frm} (hG:0<=G) (h:∀ d f,d < n->g d=some f->f.gen<=G) (hd:d < n) (hf:g d=some f) (he:f.gen=G):newG g n=G:=by
 have h1:=newG_eq hG n h
 have h2:=newG_ge g n d f hd hf
 omega
theorem Super.sget_ok {R:Rck} {c:Cfg} {m:Nat} (h:Super R c m) (k4:c.k<=4) (n6:c.n<=6) {s:Nat} (hs:s < c.stripes.toNat) {g:Nat->Option Frm} (hg:∀ d:Nat,d < c.n.toNat->(R.dsk d).sg c s d=g d) {G:Int} {l:List (List Nat)} (hl:Cd.Blocks c.k.toNat 108 l) (hG:1<=G)
  (h1:∀ d f,d < c.n.toNat->g d=some f->f.gen<=G/\(f.gen=G->f.data=sfrag c l d)) (h2:c.k.toNat<=((List.range c.n.toNat).filter (hasG g G)).length) (hup:c.k<=R.online.length):R.sget c (s:Int)=(l,G,none):=by
 have hk0:=h.good.k0
 have hlk:=h.slook hs hg
 have hne:newG g c.n.toNat=G:=by
  rcases hq:(List.range c.n.toNat).filter (hasG g G) with _ | ⟨d,l'⟩
  ·
   rw [hq] at h2; simp at h2; omega
  ·
   have hd:d∈(List.range c.n.toNat).filter (hasG g G):=by rw [hq]; simp
   obtain ⟨hd1,hd2⟩:=List.mem_filter.1 hd
   have hd1:=List.mem_range.1 hd1
   unfold hasG at hd2
   rcases hf:g d with _ | f
   ·
    rw [hf] at hd2; cases hd2
   ·
    rw [hf] at hd2
    exact newG_is (by omega) (fun d f hd hf=>(h1 d f hd hf).1) hd1 hf (by simpa using hd2)
 rw [hne,partsG_eq (b:=sfrag c l) (by omega) fun d f hd hf=>(h1 d f hd hf).2] at hlk
 unfold Rck.sget
 rw [if_pos (h.sknown hs),if_neg (by rw [h.live.off]; simp; omega),hlk]
 simp only [List.length_map]
 rw [if_neg (by omega)]
 congr 1
 unfold decoded
 rw [<- List.map_take]
 generalize hps:((List.range c.n.toNat).filter (hasG g G)).take c.k.toNat=ps
 have hpl:ps.length=c.k.toNat:=by rw [<- hps,List.length_take]; omega
 have hsub:ps.Sublist (List.range 6):=by
  rw [<- hps]
  refine ((List.take_sublist _ _).trans List.filter_sublist).trans ?_
  have:(List.range c.n.toNat)=(List.range 6).take c.n.toNat:=(range_take6 (by omega)).symm
  rw [this]; exact List.take_sublist _ _
 rw [List.map_map,List.map_map]
 exact Cd.decode hl (by omega) hpl (Cd.good (by omega) (by omega) hpl hsub)
where
 range_take6 {n:Nat} (h:n<=6):(List.range 6).take n=List.range n:=by
  apply List.ext_getElem?
  intro i
  rw [List.getElem?_take]
  by_cases hi:i < n
  ·
   rw [if_pos hi]; simp [hi,show i < 6 by omega]
  ·
   rw [if_neg hi]; simp; omega
section
variable {c:Cfg} {m s:Nat} {gen:Int} {l:List (List Nat)}
def Dsk.sw (c:Cfg) (s:Nat) (gen:Int) (l:List (List Nat)) (d:Nat) (D:Dsk):Dsk:=D.write (ssecN c s) (sfrm s gen d (sfrag c l d)).bytes
theorem does_sput (hc:c.Good) (hm:c.sectors<=(m:Int)) (hx:SFit c s gen l):Does c.n.toNat m (fun R=>R.sputs c (s:Int) gen l) (c.n.toNat+c.n.toNat) fun d D=>(D.sw c s gen l d).flush:=by
 have d1:Does c.n.toNat m (each (Rck.srow c (s:Int) gen l) (List.range c.n.toNat)) (1*c.n.toNat) fun j D=>if j < c.n.toNat then D.sw c s gen l j else D:=by
  refine (Does.each (g:=fun d j D=>if j=d then D.write (ssecN c s) (sfrm s gen d (sfrag c l d)).bytes else D) (c:=1) (List.range c.n.toNat) fun d hd=>?_).congr (by simp) fun j D hj=>?_
  ·
   have hd:=List.mem_range.1 hd
   show Does c.n.toNat m (fun R=>R.write d (Rck.ssec c s) (sfrm s gen d (sfrag c l d)).put) 1 _
   rw [ssec_eq hc,hx.put hc hd]
   exact Does.write hd (Zbq hc hm hx.st) (hx.len hc d)
  ·
   rw [show (fun (D:Dsk) (d:Nat)=>if j=d then D.write (ssecN c s) (sfrm s gen d (sfrag c l d)).bytes else D)=fun D d=>if j=d then D.sw c s gen l j else D from by
    funext D d
    by_cases e:j=d
    ·
     subst e; rfl
    ·
     rw [if_neg e,if_neg e]]
   exact Zbl (Dsk.sw c s gen l j) j _ D
 have d2:Does c.n.toNat m (each (fun R (d:Nat)=>R.flush d) (List.range c.n.toNat)) (1*c.n.toNat) fun j D=>if j < c.n.toNat then D.flush else D :=
  (Does.each (f:=fun R (d:Nat)=>R.flush d) (g:=fun d j D=>if j=d then D.flush else D) (List.range c.n.toNat) fun d hd=>Does.flush (List.mem_range.1 hd)).congr (by simp) fun j D _=>Zbl Dsk.flush j _ D
 rw [Nat.one_mul] at d1 d2
 intro R F h
 refine ⟨fun hF=>?_,fun h0 h1=>?_⟩
 ·
  obtain ⟨R1,a1,a2,a3⟩:=(d1 R F h).1 (by omega)
  obtain ⟨R2,b1,b2,b3⟩:=(d2 R1 _ a2).1 (by unfold burn; split<;>omega)
  refine ⟨R2,?_,by rw [burn_add F _ _ (by omega)] at b2; exact b2,fun d hd=>?_⟩
  ·
   show R.sputs c s gen l=_
   unfold Rck.sputs
   rw [h.online,a1]
   simp only
   rw [a2.online,b1]
  ·
   rw [b3 d hd,a3 d hd]; simp only [hd,if_true]
 ·
  by_cases hk:((c.n.toNat:Nat):Int)<=F
  ·
   obtain ⟨R1,a1,a2,a3⟩:=(d1 R F h).1 (.inr hk)
   obtain ⟨e,R2,b1⟩:=(d2 R1 _ a2).2 (by unfold burn; rw [if_pos h0]; omega) (by unfold burn; rw [if_pos h0]; omega)
   refine ⟨e,R2,?_⟩
   show R.sputs c s gen l=_
   unfold Rck.sputs
   rw [h.online,a1]
   simp only
   rw [a2.online,b1]
  ·
   obtain ⟨e,R1,a1⟩:=(d1 R F h).2 h0 (by omega)
   refine ⟨e,R1,?_⟩
   show R.sputs c s gen l=_
   unfold Rck.sputs
   rw [h.online,a1]
theorem Super.sput_eq {R:Rck} (h:Super R c m) (hx:SFit c s gen l):R.sput c (s:Int) gen l=((R.sputs c (s:Int) gen l).1.map (.fault sSPut s),(R.sputs c (s:Int) gen l).2):=by
 unfold Rck.sput
 rw [if_pos]
 unfold Rck.sputOk
 rw [h.sknown hx.st]
 simp only [Bool.true_and,Bool.and_eq_true,decide_eq_true_eq]
 exact ⟨⟨hx.g0,hx.g1⟩,hx.lenk h.good⟩
theorem sput_does {R:Rck} (h:Pow R c.n.toNat m (-1)) (hc:c.Good) (hm:c.sectors<=(m:Int)) (hx:SFit c s gen l):∃ R',R.sput c (s:Int) gen l=(none,R')/\Pow R' c.n.toNat m (-1)/\∀ d:Nat,d < c.n.toNat->R'.dsk d=((R.dsk d).sw c s gen l d).flush:=by
 obtain ⟨R',a1,a2,a3⟩:=(does_sput hc hm hx R (-1) h).1 (.inl (by omega))
 have a1':R.sputs c (s:Int) gen l=(none,R'):=a1
 refine ⟨R',?_,a2,a3⟩
 rw [(⟨h.live,hc,hm⟩:Super R c m).sput_eq hx,a1']; rfl
end
namespace Dsk
variable {c:Cfg} {s:Nat} {gen:Int} {l:List (List Nat)}
theorem sw_read (D:Dsk) (d j:Nat) (hj:j < D.l.length):(D.sw c s gen l d).flush.read j=if j=ssecN c s then (sfrm s gen d (sfrag c l d)).bytes else D.read j:=by
 rw [flush_read _ _ (by show j < D.l.length; exact hj)]
 exact write_read D _ _ _
theorem sw_len (D:Dsk) (d:Nat):(D.sw c s gen l d).flush.l.length=D.l.length:=by rw [flush_len]; rfl
theorem sw_dead (D:Dsk) (d:Nat):(D.sw c s gen l d).flush.dead=D.dead:=rfl
theorem sw_rot (D:Dsk) (d j:Nat) (h:D.rot j=false):(D.sw c s gen l d).flush.rot j=false:=by
 show (if (true && ((D.sw c s gen l d).waits j).isSome)=true then false else D.rot j)=false
 split
 ·
  rfl
 ·
  exact h
end Dsk
end Go.Proofs.YtgjnnbomnoafcaaGreat
namespace Go.Proofs.YtgjnnbomnoafcaaGreat
set_option linter.unusedVariables false
abbrev Strs:=Nat->Option (Int × List (List Nat))
def updS (f:Strs) (s:Nat) (x:Int × List (List Nat)) (t:Nat):Option (Int × List (List Nat)):=if t=s then some x else f t
theorem Zb3 (f:Strs) (s:Nat) (x:Int × List (List Nat)):updS f s x s=some x:=if_pos rfl
theorem Zbh (f:Strs) {s t:Nat} (x:Int × List (List Nat)) (h:t≠s):updS f s x t=f t:=if_neg h
structure SDw (D:Dsk) (d:Nat) (c:Cfg) (m:Nat) (f:Strs) (u:Bool) (B:Nat->Bool):Prop where
 len:D.l.length=m
 dead:D.dead=!u
 waits:∀ i,D.waits i=none
 rot:∀ i,B i=false->D.rot i=false
 has:∀ s gen l,s < c.stripes.toNat->f s=some (gen,l)->B (ssecN c s)=false->D.read (ssecN c s)=(sfrm s gen d (sfrag c l d)).bytes
 bad:∀ j,B j=true->Frm.get (D.read j)=none
namespace SDw
variable {D:Dsk} {d:Nat} {c:Cfg} {m:Nat} {f:Strs} {u:Bool} {B:Nat->Bool}
end SDw
structure SR (R:Rck) (c:Cfg) (m:Nat) (f:Strs) (U:Nat->Bool) (B:Nat->Nat->Bool):Prop where
 live:Live R c.n.toNat m
 good:c.Good
 fit:c.sectors<=(m:Int)
 dsk:∀ d:Nat,d < c.n.toNat->SDw (R.dsk d) d c m f (U d) (B d)
 fits:∀ s gen l,f s=some (gen,l)->SFit c s gen l
def allU:Nat->Bool:=fun _=>true
namespace SR
variable {R:Rck} {c:Cfg} {m:Nat} {f:Strs} {U:Nat->Bool} {B:Nat->Nat->Bool}
def isG (c:Cfg) (U:Nat->Bool) (B:Nat->Nat->Bool) (s d:Nat):Bool:=U d && !B d (ssecN c s)
def gs (c:Cfg) (U:Nat->Bool) (B:Nat->Nat->Bool) (s:Nat) (gen:Int) (l:List (List Nat)) (d:Nat):Option Frm:=if isG c U B s d then some (sfrm s gen d (sfrag c l d)) else none
end SR
end Go.Proofs.YtgjnnbomnoafcaaGreat
namespace Go.Proofs.YtgjnnbomnoafcaaGreat
set_option linter.unusedVariables false
open Go Go.RowKit
namespace Runs11
def c:Cfg:=⟨9,2,3,1,1⟩
def a:List (List Nat):=blocksOf 2 5
def b:List (List Nat):=blocksOf 2 8
structure All (R1 R4:Rck):Prop where
 p1:(Rck.new 3 4).sput c 0 5 a=(none,R1)
 g1:(R1.die 1).sget c 0=(a,5,none)
 p2:((R1.die 1).replace 1).sput c 0 6 b=(none,R4)
 r1:R4.rotOk 2 3 0 1=true
 g2:(R4.rot 2 3 0 1).sget c 0=(b,6,none)
end Runs11
def cntP (P:Nat->Bool) (n:Nat):Nat:=((List.range n).filter P).length
section
variable {R:Rck} {c:Cfg} {m:Nat} {f:Strs} {l:List (List Nat)}
def LookI (R:Rck) (c:Cfg) (m:Nat) (f:Strs) (bit:Nat->Bool) (i:Nat):Prop :=
 ∃ U B,SR R c m f U B/\(∀ d,d < c.n.toNat->U d=true)/\∀ d,d < c.n.toNat->B d (ssecN c 0)=(decide (d < i) && bit d)
namespace LookI
variable {bit:Nat->Bool} {i:Nat}
end LookI
end
end Go.Proofs.YtgjnnbomnoafcaaGreat
namespace Go.Proofs.YtgjnnbomnoafcaaGreat
set_option linter.unusedVariables false
section
variable {R:Rck} {c:Cfg} {m:Nat} {f:Strs} {gen:Int} {l:List (List Nat)} {U:Nat->Bool} {B:Nat->Nat->Bool}
structure Budg (R:Rck) (c:Cfg) (m:Nat) (f:Strs) (s:Nat) (L:List Nat) (on:Nat):Prop where
 ex:∃ U B,SR R c m f U B/\(∀ d,d < c.n.toNat->d∈L->SR.isG c U B s d=true)/\cntP (SR.isG c U B s) c.n.toNat=L.length/\cntP U c.n.toNat=on
 nodup:L.Nodup
 lt:∀ d∈L,d < c.n.toNat
namespace Budg
variable {s on:Nat} {L:List Nat}
end Budg
structure CutS (c:Cfg) (m:Nat) (F G:Nat->Frm) (d:Nat) (D:Dsk):Prop where
 len:D.l.length=m
 alive:D.dead=false
 base:D.l.getD (ssecN c 0) []=(F d).bytes\/D.l.getD (ssecN c 0) []=(G d).bytes
 wait:D.waits (ssecN c 0)=none\/D.waits (ssecN c 0)=some (G d).bytes
namespace CutS
variable {F G:Nat->Frm} {d:Nat} {D:Dsk}
end CutS
structure CutSR (c:Cfg) (m:Nat) (F G:Nat->Frm) (R:Rck):Prop where
 len:R.l.length=c.n.toNat
 dsk:∀ d:Nat,d < c.n.toNat->CutS c m F G d (R.dsk d)
namespace CutSR
variable {F G:Nat->Frm}
end CutSR
namespace CutAll
variable {X Y:List (List Nat)}
end CutAll
end
end Go.Proofs.YtgjnnbomnoafcaaGreat
namespace Go.Proofs.YtgjnnbomnoafcaaGreat
set_option linter.unusedVariables false
theorem partAt_some {g:Nat->Option Frm} {G:Int} {d:Nat} {p:Nat × List Nat} (h:partAt g G d=some p):p.1=d/\∃ f,g d=some f/\p.2=f.data:=by
 unfold partAt at h
 rcases hg:g d with _ | f
 ·
  rw [hg] at h; cases h
 ·
  rw [hg] at h
  simp only [Option.bind_some] at h
  split at h
  ·
   cases h; exact ⟨rfl,f,rfl,rfl⟩
  ·
   cases h
theorem partsG_mem {g:Nat->Option Frm} {G:Int} {n:Nat} {p:Nat × List Nat} (h:p∈partsG g G n):p.1 < n/\∃ f,g p.1=some f/\p.2=f.data:=by
 unfold partsG at h
 obtain ⟨d,hd,hp⟩:=List.mem_filterMap.1 h
 obtain ⟨rfl,f,h1,h2⟩:=partAt_some hp
 exact ⟨List.mem_range.1 hd,f,h1,h2⟩
theorem partsG_nodup (g:Nat->Option Frm) (G:Int):∀ n,((partsG g G n).map (·.1)).Nodup
 | 0=>by simp [partsG]
 | n+1=>by
  rw [Zbt,List.map_append]
  rcases hp:partAt g G n with _ | p
  ·
   simpa using partsG_nodup g G n
  ·
   rw [List.nodup_append]
   refine ⟨partsG_nodup g G n,by simp,?_⟩
   intro a ha b hb
   obtain ⟨q,hq,rfl⟩:=List.mem_map.1 ha
   simp only [Option.toList_some,List.map_cons,List.map_nil,List.mem_singleton] at hb
   have h1:=(partsG_mem hq).1
   have h2:=(partAt_some hp).1
   omega
theorem partsG_len (g:Nat->Option Frm) (G:Int):∀ n,(partsG g G n).length<=n
 | 0=>by simp [partsG]
 | n+1=>by
  have:=partsG_len g G n
  rw [Zbt]
  rcases hp:partAt g G n with _ | p<;>simp<;>omega
theorem Rck.slook_eq {R:Rck} {c:Cfg} {s:Int} (h:R.sknown c s=true):R.slook c s=(newG (R.sgood c s) c.n.toNat,partsG (R.sgood c s) (newG (R.sgood c s) c.n.toNat) c.n.toNat):=by
 unfold Rck.slook
 rw [if_pos h,look_fold]
end Go.Proofs.YtgjnnbomnoafcaaGreat
