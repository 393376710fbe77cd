/- Texts of one proof, joined: MendPure, MendLaw, MendLawB, MendLawC, MendTick, MendRound, MendMiss, MendTurn, TapeRot, MendRuns. -/
import Derived.Test.YtkipjmbplmdaaaaGreatDoorMS
import Derived.Test.YtkipjmbplmdaaaaGreatDoorMX
import Derived.Test.YtkipjmbplmdaaaaGreatDoorMY
import Derived.Test.YtkipjmbplmdaaaaGreatDoorMT
set_option linter.unusedVariables false
set_option linter.unusedSimpArgs false
namespace Go.Proofs.YtkipjmbplmdaaaaGreatDoor
set_option linter.unusedVariables false
def sMTick:ByteArray:=⟨#[109,101,110,100,46,84,105,99,107]⟩
def meach {α:Type} (f:Rck->α->Option Err × Bool × Rck):List α->Rck->Nat->Option Err × Nat × Rck
 | [],R,n=>(none,n,R)
 | x::l,R,n=>match f R x with
  | (some e,_,R')=>(some e,n,R')
  | (none,true,R')=>meach f l R' (n+1)
  | (none,false,R')=>meach f l R' n
namespace Rck
def mput (R:Rck) (d:Nat) (sec:Int) (want:Frm) (has:Option Frm):Option Err × Bool × Rck :=
 if has=some want then (none,false,R) else match R.write d sec want.put with
  | (some e,R')=>(some e,false,R')
  | (none,R')=>(none,true,R')
def mflush (R:Rck) (n:Nat):Option Err × Rck:=if n=0 then (none,R) else each (fun R d=>R.flush (d:Nat)) R.online R
def msuper (c:Cfg) (R:Rck) (d:Nat):Option Err × Bool × Rck :=
 if R.superGet d=some c then (none,false,R) else match R.superPut c d with
  | (some e,R')=>(some e,false,R')
  | (none,R')=>(none,true,R')
def msupers (R:Rck) (c:Cfg):Option Err × Nat × Rck:=meach (msuper c) R.online R 0
def mdone (q:Option Err × Nat × Rck):Option Err × Nat × Rck:=match q with
 | (some e,n,R)=>(some e,n,R)
 | (none,n,R)=>((R.mflush n).1,n,(R.mflush n).2)
def mrow (c:Cfg) (s:Int) (x:Rcd) (R:Rck) (p:Nat × Nat):Option Err × Bool × Rck:=R.mput p.1 (jsec c s p.2) (x.frm p.2) (R.jgood c p.1 s p.2)
def mplaces (R:Rck) (c:Cfg):List (Nat × Nat):=R.online.flatMap fun d=>(List.range c.k.toNat).map fun i=>(d,i)
def mslot (R:Rck) (c:Cfg) (s:Int):Option Err × Nat × Rck :=
 match R.jslot c s with
 | (_,_,_,some e)=>(some e,0,R)
 | (x,_,_,none)=>mdone (meach (mrow c s x) (R.mplaces c) R 0)
def mpart (c:Cfg) (s gen:Int) (l:List (List Nat)) (R:Rck) (d:Nat):Option Err × Bool × Rck:=R.mput d (ssec c s) (sfrm s gen d (sfrag c l d)) (R.sgood c s d)
def mstripe (R:Rck) (c:Cfg) (s:Int):Option Err × Nat × Rck :=
 match R.sget c s with
 | (_,_,some e)=>(some e,0,R)
 | (l,gen,none)=>mdone (meach (mpart c s gen l) R.online R 0)
end Rck
def Cfg.groups (c:Cfg):Int:=1+c.slots+c.stripes
structure MTick where
 n:Nat
 err:Option Err
 R:Rck
 v:Vol
 at_:Int
def Vol.group (c:Cfg) (R:Rck) (g:Int):Option Err × Nat × Rck:=if g=0 then R.msupers c else if g<=c.slots then R.mslot c (g - 1) else R.mstripe c (g - 1 - c.slots)
def Err.isDown:Err->Bool
 | .no k=>k == 5
 | .loss _ _ _=>false
 | .fault _ _ e=>e.isDown
def Vol.tick (v:Vol) (R:Rck) (g:Int):MTick :=
 if v.down=true\/R.off=true then ⟨0,some (.fault sMTick g (.no 5)),R,v,g⟩
 else ⟨(Vol.group v.c R g).2.1,(Vol.group v.c R g).1.map (.fault sMTick g),(Vol.group v.c R g).2.2,if ((Vol.group v.c R g).1.map Err.isDown).getD false=true then ⟨v.c,v.seq,true⟩ else v,(g+1) % v.c.groups⟩
theorem Zby {α:Type} (f:Rck->α->Option Err × Bool × Rck):∀ (l m:List α) (R:Rck) (n:Nat),meach f (l++m) R n=match meach f l R n with
  | (some e,k,R')=>(some e,k,R')
  | (none,k,R')=>meach f m R' k
 | [],m,R,n=>rfl
 | x::l,m,R,n=>by
  show (match f R x with | (some e,_,R')=>(some e,n,R') | (none,true,R')=>meach f (l++m) R' (n+1) | (none,false,R')=>meach f (l++m) R' n)=match (match f R x with | (some e,_,R')=>(some e,n,R') | (none,true,R')=>meach f l R' (n+1) | (none,false,R')=>meach f l R' n) with | (some e,k,R')=>(some e,k,R') | (none,k,R')=>meach f m R' k
  rcases f R x with ⟨_ | e,b,R'⟩
  ·
   rcases b with _ | _
   ·
    exact Zby f l m R' n
   ·
    exact Zby f l m R' (n+1)
  ·
   rfl
theorem meach_rows {α:Type} {f:Rck->α->Option Err × Bool × Rck} {R:Rck} {n m:Nat} {F:Nat->List α} {ct:Nat->Nat} {g:Nat->Dsk} :
  ∀ (l:List Nat),l.Nodup->(∀ d∈l,∀ R' k,Live R' n m->R'.dsk (d:Nat)=R.dsk (d:Nat)->∃ R'',meach f (F d) R' k=(none,k+ct d,R'')/\Live R'' n m/\∀ e:Nat,R''.dsk (e:Nat)=if e=d then g d else R'.dsk (e:Nat)) ->
   ∀ R1 k,Live R1 n m->(∀ d∈l,R1.dsk (d:Nat)=R.dsk (d:Nat))->∃ R',meach f (l.flatMap F) R1 k=(none,k+(l.map ct).sum,R')/\Live R' n m/\∀ d:Nat,R'.dsk (d:Nat)=if d∈l then g d else R1.dsk (d:Nat)
 | [],_,_,R1,k,h1,_=>⟨R1,rfl,h1,fun d=>by rw [if_neg (by simp)]⟩
 | d::l,hn,h,R1,k,h1,hs=>by
  obtain ⟨hnd,hnl⟩:=List.nodup_cons.1 hn
  obtain ⟨R2,e2,l2,k2⟩:=h d List.mem_cons_self R1 k h1 (hs d List.mem_cons_self)
  obtain ⟨R3,e3,l3,k3⟩:=meach_rows l hnl (fun e he=>h e (List.mem_cons_of_mem _ he)) R2 (k+ct d) l2 (fun e he=>by
   rw [k2,if_neg (fun q=>hnd (by rw [<- q]; exact he))]
   exact hs e (List.mem_cons_of_mem _ he))
  refine ⟨R3,?_,l3,fun e=>?_⟩
  ·
   rw [List.flatMap_cons,Zby,e2]
   show meach f (l.flatMap F) R2 (k+ct d)=_
   rw [e3,List.map_cons,List.sum_cons,Nat.add_assoc]
  ·
   rw [k3]
   by_cases hel:e∈l
   ·
    rw [if_pos hel,if_pos (List.mem_cons_of_mem _ hel)]
   ·
    rw [if_neg hel,k2]
    by_cases hed:e=d
    ·
     rw [if_pos hed,if_pos (by rw [hed]; exact List.mem_cons_self),hed]
    ·
     rw [if_neg hed,if_neg (fun q=>(List.mem_cons.1 q).elim hed hel)]
theorem Live.same {R R':Rck} {n m:Nat} (h:Live R n m) (h':Live R' n m) (hd:∀ d:Nat,d < n->R.dsk (d:Nat)=R'.dsk (d:Nat)):R=R':=by
 have e1:R.l=R'.l:=by
  refine List.ext_getElem (by rw [h.len,h'.len]) fun i h1 h2=>?_
  have:=hd i (by have:=h.len; omega)
  unfold Rck.dsk at this
  rw [Int.toNat_natCast,List.getD_eq_getElem?_getD,List.getD_eq_getElem?_getD,List.getElem?_eq_getElem h1,List.getElem?_eq_getElem h2] at this
  exact this
 have e2:R.off=R'.off:=by rw [h.off,h'.off]
 have e3:R.fuse=R'.fuse:=by rw [h.fuse,h'.fuse]
 cases R; cases R'
 simp only at e1 e2 e3
 rw [e1,e2,e3]
structure Alike (D E E':Dsk):Prop where
 l:E.l=D.l
 l':E'.l=D.l
 dead:E.dead=E'.dead
 rot:E.rot=D.rot
 rot':E'.rot=D.rot
 w:∀ q,E.waits q=E'.waits q\/(q < D.l.length/\E.waits q=some (D.l.getD q [])/\E'.waits q=none/\D.rot q=false)
namespace Alike
variable {D E E':Dsk}
theorem refl (D:Dsk):Alike D D D:=⟨rfl,rfl,rfl,rfl,rfl,fun _=>.inl rfl⟩
theorem both (h:Alike D E E') (q:Nat) (b:List Nat):Alike D (E.write q b) (E'.write q b):=⟨h.l,h.l',h.dead,h.rot,h.rot',fun p=>by
 by_cases e:p=q
 ·
  exact .inl (by show (if p=q then some b else E.waits p)=(if p=q then some b else E'.waits p); rw [if_pos e,if_pos e])
 ·
  rcases h.w p with z | ⟨z1,z2,z3,z4⟩
  ·
   exact .inl (by show (if p=q then some b else E.waits p)=(if p=q then some b else E'.waits p); rw [if_neg e,if_neg e,z])
  ·
   exact .inr ⟨z1,by show (if p=q then some b else E.waits p)=_; rw [if_neg e,z2],by show (if p=q then some b else E'.waits p)=_; rw [if_neg e,z3],z4⟩⟩
theorem one (h:Alike D E E') {q:Nat} {b:List Nat} (hq:q < D.l.length) (hb:D.l.getD q []=b) (hw:E'.waits q=none) (hr:D.rot q=false):Alike D (E.write q b) E':=⟨h.l,h.l',h.dead,h.rot,h.rot',fun p=>by
 by_cases e:p=q
 ·
  subst e
  exact .inr ⟨hq,by show (if p=p then some b else E.waits p)=_; rw [if_pos rfl,hb],hw,hr⟩
 ·
  rcases h.w p with z | ⟨z1,z2,z3,z4⟩
  ·
   exact .inl (by show (if p=q then some b else E.waits p)=_; rw [if_neg e,z])
  ·
   exact .inr ⟨z1,by show (if p=q then some b else E.waits p)=_; rw [if_neg e,z2],z3,z4⟩⟩
theorem flush (h:Alike D E E'):E.flush=E'.flush:=by
 unfold Dsk.flush Dsk.settle
 rw [h.l,h.l',h.dead,h.rot,h.rot']
 congr 1
 ·
  refine List.map_congr_left fun q hq=>?_
  rcases h.w q with z | ⟨_,z2,z3,_⟩
  ·
   rw [z]
  ·
   rw [z2,z3]; rfl
 ·
  funext q
  rcases h.w q with z | ⟨_,z2,z3,z4⟩
  ·
   rw [z]
  ·
   rw [z2,z3,z4]; simp
end Alike
theorem Dsk.flush_idle {D:Dsk} (h:∀ q,D.waits q=none):D.flush=D:=by
 have e1:(List.range D.l.length).map (fun i=>if true=true then (D.waits i).getD (D.l.getD i []) else D.l.getD i [])=D.l:=by
  refine List.ext_getElem (by simp) fun i h1 h2=>?_
  simp only [List.getElem_map,List.getElem_range,if_true]
  rw [h,List.getD_eq_getElem?_getD,List.getElem?_eq_getElem h2]; rfl
 have e2:(fun i=>if (true && (D.waits i).isSome)=true then false else D.rot i)=D.rot:=by
  funext q; rw [h]; rfl
 have e3:(fun _=>none:Nat->Option (List Nat))=D.waits:=by funext q; rw [h]
 unfold Dsk.flush Dsk.settle
 rw [e1,e2,e3]
theorem sum01 (p:Nat->Bool):∀ l:List Nat,(l.map fun d=>if p d=true then 1 else 0).sum=(l.filter p).length
 | []=>rfl
 | d::l=>by
  rw [List.map_cons,List.sum_cons,sum01 p l]
  rcases e:p d with _ | _
  ·
   rw [List.filter_cons_of_neg (by rw [e]; simp)]; simp
  ·
   rw [List.filter_cons_of_pos e,List.length_cons]; simp; omega
theorem Live.mflush {R:Rck} {n m:Nat} (h:Live R n m) (k:Nat):∃ R',R.mflush k=(none,R')/\Live R' n m/\∀ d:Nat,d < n->R'.dsk (d:Nat)=if (R.dsk (d:Nat)).dead=true\/k=0 then R.dsk (d:Nat) else (R.dsk (d:Nat)).flush:=by
 unfold Rck.mflush
 by_cases hk:k=0
 ·
  rw [if_pos hk]
  exact ⟨R,rfl,h,fun d _=>by rw [if_pos (.inr hk)]⟩
 ·
  rw [if_neg hk]
  obtain ⟨R2,e2,l2,_,k2⟩:=h.ups (f:=fun R (d:Nat)=>R.flush (d:Nat)) (g:=fun _ D=>D.flush) fun d hd=>On.flush hd
  refine ⟨R2,e2,l2,fun d hd=>?_⟩
  rw [k2 d hd]
  rcases ha:(R.dsk (d:Nat)).dead with _ | _
  ·
   simp [hk]
  ·
   simp
section
variable {R:Rck} {c:Cfg} {m:Nat} {U sp:Nat->Bool} {jr:JR} {st:ST}
theorem GTd.clean {D:Dsk} {d:Nat} {u s':Bool} {j':Nat->Nat->Option Rcd} {t':Nat->Option (Int × List (List Nat))} (h:GTd D d c m u s' j' t') {q:Nat} {f:Frm} (hf:Frm.get (D.read q)=some f):D.rot q=false:=by
 rcases e:D.rot q with _ | _
 ·
  rfl
 ·
  rw [h.rot q e] at hf; cases hf
theorem Dsk.read_l {D:Dsk} (h:∀ q,D.waits q=none) (q:Nat):D.read q=D.l.getD q []:=by unfold Dsk.read; rw [h]; rfl
theorem GT.mstripe (h:GT R c m U sp jr st) {s:Nat} {gen:Int} {l:List (List Nat)} (hx:SFit c s gen l) (hg:R.sget c (s:Int)=(l,gen,none)) (h01:∀ d,d < c.n.toNat->st d s=none\/st d s=some (gen,l)) :
  ∃ R',R.mstripe c (s:Int)=(none,(((List.range c.n.toNat).filter U).filter fun d=>(st d s).isNone).length,R')/\GT R' c m U sp jr (fun d t=>if t=s then (if U d then some (gen,l) else none) else st d t):=by
 obtain ⟨R9,e9,g9⟩:=h.sput hx
 obtain ⟨R8,e8,l8,k8⟩:=h.live.sputs h.good h.fit hx
 rw [e9] at e8
 have e8:R9=R8:=by cases e8; rfl
 subst e8
 have hon:∀ d,d∈R.online->d < c.n.toNat/\U d=true:=fun d hd=>by
  rw [h.online] at hd
  obtain ⟨h1,h2⟩:=List.mem_filter.1 hd
  exact ⟨List.mem_range.1 h1,h2⟩
 have hsg:∀ d,d < c.n.toNat->(R.dsk (d:Nat)).sg c s d=(st d s).map fun y=>sfrm s y.1 d (sfrag c y.2 d):=fun d hd=>h.sg hd hx.st
 have alive:∀ d,d∈R.online->(R.dsk (d:Nat)).dead=false:=fun d hd=>by rw [(h.dsk d (hon d hd).1).dead,(hon d hd).2]; rfl
 obtain ⟨R1,e1,l1,k1⟩:=meach_rows (f:=Rck.mpart c (s:Int) gen l) (R:=R) (n:=c.n.toNat) (m:=m) (F:=fun d=>[d]) (ct:=fun d=>if (st d s).isNone=true then 1 else 0) (g:=fun d=>if (st d s).isNone=true then (R.dsk (d:Nat)).sw c s gen l d else R.dsk (d:Nat)) R.online (Live.on_nodup R) (fun d hd R' k hl hsame=>by
  obtain ⟨hdn,hu⟩:=hon d hd
  have ha:(R'.dsk (d:Nat)).dead=false:=by rw [hsame]; exact alive d hd
  have hgood:R'.sgood c (s:Int) d=(st d s).map fun y=>sfrm s y.1 d (sfrag c y.2 d):=by
   rw [(⟨hl,h.good,h.fit⟩:Super R' c m).sgood hdn hx.st,hsame]; exact hsg d hdn
  rcases h01 d hdn with e | e
  ·
   have hw:=hl.write (s:=ssecN c s) hdn ha (Za1 h.good h.fit hx.st) (hx.len h.good d)
   have hp:Rck.mpart c (s:Int) gen l R' d=(none,true,R'.setD d ((R'.dsk (d:Nat)).write (ssecN c s) (sfrm s gen d (sfrag c l d)).bytes)):=by
    unfold Rck.mpart Rck.mput
    rw [hgood,e,if_neg (by simp),ssec_eq h.good,hx.put h.good hdn,hw]
   obtain ⟨l2,k2⟩:=hl.setD ((R'.dsk (d:Nat)).write (ssecN c s) (sfrm s gen d (sfrag c l d)).bytes) (by rw [Dsk.write_len]; exact hl.secs d hdn) hdn
   refine ⟨_,?_,l2,fun e'=>?_⟩
   ·
    show (match Rck.mpart c (s:Int) gen l R' d with | (some e,_,R')=>(some e,k,R') | (none,true,R')=>meach _ [] R' (k+1) | (none,false,R')=>meach _ [] R' k)=_
    rw [hp,e]; rfl
   ·
    rw [k2,e,hsame]; rfl
  ·
   have hp:Rck.mpart c (s:Int) gen l R' d=(none,false,R'):=by
    unfold Rck.mpart Rck.mput
    rw [hgood,e]; exact if_pos rfl
   refine ⟨R',?_,hl,fun e'=>?_⟩
   ·
    show (match Rck.mpart c (s:Int) gen l R' d with | (some e,_,R')=>(some e,k,R') | (none,true,R')=>meach _ [] R' (k+1) | (none,false,R')=>meach _ [] R' k)=_
    rw [hp,e]; rfl
   ·
    rw [e]
    by_cases q:e'=d
    ·
     rw [if_pos q,q]; exact hsame
    ·
     rw [if_neg q]) R 0 h.live (fun d _=>rfl)
 rw [List.flatMap_singleton'] at e1
 rw [Nat.zero_add,sum01 (fun d=>(st d s).isNone)] at e1
 obtain ⟨R2,e2,l2,k2⟩:=l1.mflush ((R.online.filter fun d=>(st d s).isNone).length)
 have hR:R2=R9:=by
  refine l2.same l8 fun d hd=>?_
  rw [k2 d hd,k8 d hd,k1 d]
  have hD:=h.dsk d hd
  rcases hu:U d with _ | _
  ·
   have hno:d∉R.online:=fun q=>by have:=(hon d q).2; rw [hu] at this; cases this
   have hdead:(R.dsk (d:Nat)).dead=true:=by rw [hD.dead,hu]; rfl
   rw [if_neg hno,if_pos (.inl hdead),if_pos hdead]
  ·
   have hyes:d∈R.online:=by rw [h.online]; exact List.mem_filter.2 ⟨List.mem_range.2 hd,hu⟩
   have hdead:(R.dsk (d:Nat)).dead=false:=alive d hyes
   have hr:(if (R.dsk (d:Nat)).dead=true then R.dsk (d:Nat) else ((R.dsk (d:Nat)).sw c s gen l d).flush)=((R.dsk (d:Nat)).sw c s gen l d).flush:=if_neg (by rw [hdead]; simp)
   rw [if_pos hyes,hr]
   rcases h01 d hd with e | e
   ·
    have hn:(R.online.filter fun d=>(st d s).isNone).length≠0:=by
     have:d∈R.online.filter fun d=>(st d s).isNone:=List.mem_filter.2 ⟨hyes,by rw [e]; rfl⟩
     have:=List.length_pos_of_mem this
     omega
    have hsw:(if (st d s).isNone=true then (R.dsk (d:Nat)).sw c s gen l d else R.dsk (d:Nat))=(R.dsk (d:Nat)).sw c s gen l d:=if_pos (by rw [e]; rfl)
    rw [hsw]
    refine if_neg ?_
    rintro (q | q)
    ·
     have q:(R.dsk (d:Nat)).dead=true:=q
     rw [hdead] at q; exact absurd q (by simp)
    ·
     exact hn q
   ·
    have hrd:=hD.st1 s (gen,l) hx.st e
    have hlen:ssecN c s < (R.dsk (d:Nat)).l.length:=by rw [hD.len]; exact Za1 h.good h.fit hx.st
    have hal:((R.dsk (d:Nat)).sw c s gen l d).flush=R.dsk (d:Nat):=by
     have:=((Alike.refl (R.dsk (d:Nat))).one hlen (b:=(sfrm s gen d (sfrag c l d)).bytes) (by rw [<- Dsk.read_l hD.waits]; exact hrd) (hD.waits _) (hD.clean (f:=sfrm s gen d (sfrag c l d)) (by rw [hrd]; exact hx.get h.good hd))).flush
     rw [Dsk.flush_idle hD.waits] at this
     exact this
    have hsw:(if (st d s).isNone=true then (R.dsk (d:Nat)).sw c s gen l d else R.dsk (d:Nat))=R.dsk (d:Nat):=if_neg (by rw [e]; simp)
    rw [hsw,hal,Dsk.flush_idle hD.waits,ite_self]
 refine ⟨R9,?_,g9⟩
 unfold Rck.mstripe
 rw [hg]
 show Rck.mdone (meach (Rck.mpart c (s:Int) gen l) R.online R 0)=_
 rw [e1]
 show ((R1.mflush _).1,_,(R1.mflush _).2)=_
 rw [e2,hR,h.online]
end
end Go.Proofs.YtkipjmbplmdaaaaGreatDoor
namespace Go.Proofs.YtkipjmbplmdaaaaGreatDoor
set_option linter.unusedVariables false
def mwr (lk:Nat->Bool) (c:Cfg) (s:Nat) (x:Rcd) (D:Dsk) (i:Nat):Dsk:=(List.range i).foldl (fun D i=>if lk i=true then D.write (jsecN c s i) (x.frm i).bytes else D) D
section
variable {lk:Nat->Bool} {c:Cfg} {s:Nat} {x:Rcd} {D:Dsk}
theorem Zc0 (i:Nat):mwr lk c s x D (i+1)=if lk i=true then (mwr lk c s x D i).write (jsecN c s i) (x.frm i).bytes else mwr lk c s x D i:=by
 unfold mwr; rw [List.range_succ,List.foldl_append]; rfl
theorem mwr_l:∀ i,(mwr lk c s x D i).l=D.l
 | 0=>rfl
 | i+1=>by
  rw [Zc0]
  split
  ·
   exact mwr_l i
  ·
   exact mwr_l i
theorem mwr_dead:∀ i,(mwr lk c s x D i).dead=D.dead
 | 0=>rfl
 | i+1=>by
  rw [Zc0]
  split
  ·
   exact mwr_dead i
  ·
   exact mwr_dead i
theorem mwr_waits {q:Nat}:∀ i,(∀ j,j < i->q≠jsecN c s j)->(mwr lk c s x D i).waits q=D.waits q
 | 0,_=>rfl
 | i+1,h=>by
  rw [Zc0]
  have ih:=mwr_waits i fun j hj=>h j (by omega)
  split
  ·
   show (if q=jsecN c s i then _ else (mwr lk c s x D i).waits q)=_
   rw [if_neg (h i (by omega))]; exact ih
  ·
   exact ih
theorem mwr_alike (hw:∀ q,D.waits q=none) {k:Nat} (hj:∀ i j,i < k->j < k->jsecN c s i=jsecN c s j->i=j) (hl:∀ i,i < k->lk i=false->jsecN c s i < D.l.length/\D.l.getD (jsecN c s i) []=(x.frm i).bytes/\D.rot (jsecN c s i)=false):∀ i,i<=k->Alike D ((List.range i).foldl (fun D i=>D.write (jsecN c s i) (x.frm i).bytes) D) (mwr lk c s x D i)
 | 0,_=>Alike.refl D
 | i+1,h=>by
  have ih:=mwr_alike hw hj hl i (by omega)
  rw [Zc0,List.range_succ,List.foldl_append]
  rcases e:lk i with _ | _
  ·
   obtain ⟨a1,a2,a3⟩:=hl i (by omega) e
   exact ih.one a1 a2 (by rw [mwr_waits i fun j hj' q=>by have:=hj i j (by omega) (by omega) q; omega]; exact hw _) a3
  ·
   exact ih.both _ _
end
section
variable {R:Rck} {c:Cfg} {m:Nat} {U sp:Nat->Bool} {jr:JR} {st:ST}
theorem GT.mrows (h:GT R c m U sp jr st) {s:Nat} {x:Rcd} (hs:s < c.slots.toNat) (hx:x.Fit c s) {d:Nat} (hd:d < c.n.toNat) (hu:U d=true) (h01:∀ i,i < c.k.toNat->jr d s i=none\/jr d s i=some x):∀ i,i<=c.k.toNat->∀ R' k0,Live R' c.n.toNat m->R'.dsk (d:Nat)=R.dsk (d:Nat) ->
  ∃ R'',meach (Rck.mrow c (s:Int) x) ((List.range i).map fun i=>(d,i)) R' k0=(none,k0+((List.range i).filter fun i=>(jr d s i).isNone).length,R'')/\Live R'' c.n.toNat m/\∀ e:Nat,R''.dsk (e:Nat)=if e=d then mwr (fun i=>(jr d s i).isNone) c s x (R.dsk (d:Nat)) i else R'.dsk (e:Nat)
 | 0,_,R',k0,hl,hsame=>⟨R',rfl,hl,fun e=>by
  by_cases q:e=d
  ·
   rw [if_pos q,q]; exact hsame
  ·
   rw [if_neg q]⟩
 | i+1,hi,R',k0,hl,hsame=>by
  obtain ⟨R2,e2,l2,k2⟩:=GT.mrows h hs hx hd hu h01 i (by omega) R' k0 hl hsame
  have hD:=h.dsk d hd
  have hk8:=h.k8
  have hdead:(R2.dsk (d:Nat)).dead=false:=by rw [k2,if_pos rfl,mwr_dead,hD.dead,hu]; rfl
  have hrd:(R2.dsk (d:Nat)).read (jsecN c s i)=(R.dsk (d:Nat)).read (jsecN c s i):=by
   rw [k2,if_pos rfl]
   unfold Dsk.read
   rw [mwr_waits i (fun j hj q=>by have:=(jsecN_inj (by omega) (by omega) q).2; omega),mwr_l]
  have hgood:R2.jgood c d (s:Int) i=(jr d s i).map fun x=>x.frm i:=by
   rw [(⟨l2,h.good,h.fit⟩:Super R2 c m).jgood hd hs (by omega),<- h.jg hd hs (by omega)]
   unfold Dsk.jg
   rw [hrd,hdead,hD.dead,hu]; rfl
  rw [List.range_succ,List.map_append,Zby,e2,List.filter_append,List.length_append]
  show ∃ R'',meach (Rck.mrow c (s:Int) x) [(d,i)] R2 (k0+_)=_/\_
  rcases h01 i (by omega) with e | e
  ·
   have hw:=l2.write (s:=jsecN c s i) hd hdead (Zbe h.good h.fit hs (by omega)) (hx.len i)
   have hp:Rck.mrow c (s:Int) x R2 (d,i)=(none,true,R2.setD d ((R2.dsk (d:Nat)).write (jsecN c s i) (x.frm i).bytes)):=by
    unfold Rck.mrow Rck.mput
    show (if R2.jgood c d (s:Int) i=some (x.frm i) then _ else match R2.write (d:Nat) (Rck.jsec c s i) (x.frm i).put with | (some e,R')=>(some e,false,R') | (none,R')=>(none,true,R'))=_
    rw [hgood,e,if_neg (by simp),jsec_eq h.good,hx.put h.good (by omega),hw]
   obtain ⟨l3,k3⟩:=l2.setD ((R2.dsk (d:Nat)).write (jsecN c s i) (x.frm i).bytes) (by rw [Dsk.write_len]; exact l2.secs d hd) hd
   refine ⟨_,?_,l3,fun e'=>?_⟩
   ·
    show (match Rck.mrow c (s:Int) x R2 (d,i) with | (some e,_,R')=>(some e,_,R') | (none,true,R')=>meach _ [] R' (_+1) | (none,false,R')=>meach _ [] R' _)=_
    rw [hp,List.filter_cons_of_pos (by rw [e]; rfl)]; rfl
   ·
    rw [k3]
    have e1:mwr (fun i=>(jr d s i).isNone) c s x (R.dsk (d:Nat)) (i+1)=(mwr (fun i=>(jr d s i).isNone) c s x (R.dsk (d:Nat)) i).write (jsecN c s i) (x.frm i).bytes:=by
     rw [Zc0]; exact if_pos (by show (jr d s i).isNone=true; rw [e]; rfl)
    by_cases q:e'=d
    ·
     rw [if_pos q,if_pos q,e1,k2,if_pos rfl]
    ·
     rw [if_neg q,if_neg q,k2,if_neg q]
  ·
   have hp:Rck.mrow c (s:Int) x R2 (d,i)=(none,false,R2):=by
    unfold Rck.mrow Rck.mput
    show (if R2.jgood c d (s:Int) i=some (x.frm i) then _ else _)=_
    rw [hgood,e]; exact if_pos rfl
   refine ⟨R2,?_,l2,fun e'=>?_⟩
   ·
    show (match Rck.mrow c (s:Int) x R2 (d,i) with | (some e,_,R')=>(some e,_,R') | (none,true,R')=>meach _ [] R' (_+1) | (none,false,R')=>meach _ [] R' _)=_
    rw [hp,List.filter_cons_of_neg (by rw [e]; simp)]; rfl
   ·
    have e1:mwr (fun i=>(jr d s i).isNone) c s x (R.dsk (d:Nat)) (i+1)=mwr (fun i=>(jr d s i).isNone) c s x (R.dsk (d:Nat)) i:=by
     rw [Zc0]; exact if_neg (by show ¬(jr d s i).isNone=true; rw [e]; simp)
    rw [e1]
    exact k2 e'
theorem GT.mslot (h:GT R c m U sp jr st) {s:Nat} {x:Rcd} (hs:s < c.slots.toNat) (hx:x.Fit c s) (hl:(x.blocks.length:Int)=c.k) {w:Bool} {q:Int} (hg:R.jslot c (s:Int)=(x,w,q,none)) (h01:∀ d i,d < c.n.toNat->i < c.k.toNat->jr d s i=none\/jr d s i=some x) :
  ∃ R',R.mslot c (s:Int)=(none,(((List.range c.n.toNat).filter U).map fun d=>((List.range c.k.toNat).filter fun i=>(jr d s i).isNone).length).sum,R')/\GT R' c m U sp (fun d t i=>if t=s then (if U d then some x else none) else jr d t i) st:=by
 obtain ⟨R9,e9,g9⟩:=h.jput hs hx hl
 obtain ⟨R8,e8,l8,k8⟩:=h.live.jput h.good h.fit hs hx
 rw [e9] at e8
 have e8:R9=R8:=by cases e8; rfl
 subst e8
 have hon:∀ d,d∈R.online->d < c.n.toNat/\U d=true:=fun d hd=>by
  rw [h.online] at hd
  obtain ⟨h1,h2⟩:=List.mem_filter.1 hd
  exact ⟨List.mem_range.1 h1,h2⟩
 have alive:∀ d,d∈R.online->(R.dsk (d:Nat)).dead=false:=fun d hd=>by rw [(h.dsk d (hon d hd).1).dead,(hon d hd).2]; rfl
 obtain ⟨R1,e1,l1,k1⟩:=meach_rows (f:=Rck.mrow c (s:Int) x) (R:=R) (n:=c.n.toNat) (m:=m) (F:=fun d=>(List.range c.k.toNat).map fun i=>(d,i)) (ct:=fun d=>((List.range c.k.toNat).filter fun i=>(jr d s i).isNone).length) (g:=fun d=>mwr (fun i=>(jr d s i).isNone) c s x (R.dsk (d:Nat)) c.k.toNat) R.online (Live.on_nodup R) (fun d hd R' k hl' hsame=>h.mrows hs hx (hon d hd).1 (hon d hd).2 (fun i hi=>h01 d i (hon d hd).1 hi) c.k.toNat (Nat.le_refl _) R' k hl' hsame) R 0 h.live (fun d _=>rfl)
 rw [Nat.zero_add] at e1
 obtain ⟨T,hT⟩:∃ T,(R.online.map fun d=>((List.range c.k.toNat).filter fun i=>(jr d s i).isNone).length).sum=T:=⟨_,rfl⟩
 rw [hT] at e1
 obtain ⟨R2,e2,l2,k2⟩:=l1.mflush T
 have hR:R2=R9:=by
  refine l2.same l8 fun d hd=>?_
  rw [k2 d hd,k8 d hd,k1 d]
  have hD:=h.dsk d hd
  rcases hu:U d with _ | _
  ·
   have hno:d∉R.online:=fun q=>by have:=(hon d q).2; rw [hu] at this; cases this
   have hdead:(R.dsk (d:Nat)).dead=true:=by rw [hD.dead,hu]; rfl
   rw [if_neg hno,if_pos (.inl hdead),if_pos hdead]
  ·
   have hyes:d∈R.online:=by rw [h.online]; exact List.mem_filter.2 ⟨List.mem_range.2 hd,hu⟩
   have hdead:(R.dsk (d:Nat)).dead=false:=alive d hyes
   have hr:(if (R.dsk (d:Nat)).dead=true then R.dsk (d:Nat) else ((R.dsk (d:Nat)).jw c s x).flush)=((R.dsk (d:Nat)).jw c s x).flush:=if_neg (by rw [hdead]; simp)
   rw [if_pos hyes,hr]
   have hal:=(mwr_alike (lk:=fun i=>(jr d s i).isNone) (x:=x) (c:=c) (s:=s) hD.waits (k:=c.k.toNat) (fun i j hi hj e=>(jsecN_inj hi hj e).2) (fun i hi e=>by
    rcases h01 d i hd hi with z | z
    ·
     have e:(jr d s i).isNone=false:=e
     rw [z] at e; cases e
    ·
     have hrd:=hD.jr1 s i x hs hi z
     exact ⟨by rw [hD.len]; exact Zbe h.good h.fit hs hi,by rw [<- Dsk.read_l hD.waits]; exact hrd,hD.clean (f:=x.frm i) (by rw [hrd]; exact hx.get h.good (by have:=h.k8; omega))⟩) c.k.toNat (Nat.le_refl _)).flush
   have hal:((R.dsk (d:Nat)).jw c s x).flush=(mwr (fun i=>(jr d s i).isNone) c s x (R.dsk (d:Nat)) c.k.toNat).flush:=hal
   rw [hal]
   by_cases hT0:T=0
   ·
    rw [if_pos (.inr hT0)]
    have hmem:((List.range c.k.toNat).filter fun i=>(jr d s i).isNone).length=0:=by
     have h1:∀ (l:List Nat) (f:Nat->Nat),d∈l->f d<=(l.map f).sum:=fun l f hm=>by
      induction l with
      | nil=>cases hm
      | cons a l ih =>
       rw [List.map_cons,List.sum_cons]
       rcases List.mem_cons.1 hm with z | z
       ·
        rw [z]; omega
       ·
        have:=ih z; omega
     have:=h1 R.online (fun d=>((List.range c.k.toNat).filter fun i=>(jr d s i).isNone).length) hyes
     omega
    have hnone:∀ i,i < c.k.toNat->(jr d s i).isNone=false:=fun i hi=>by
     rcases z:(jr d s i).isNone with _ | _
     ·
      rfl
     ·
      have:i∈(List.range c.k.toNat).filter fun i=>(jr d s i).isNone:=List.mem_filter.2 ⟨List.mem_range.2 hi,z⟩
      have:=List.length_pos_of_mem this
      omega
    have hid:∀ i,i<=c.k.toNat->mwr (fun i=>(jr d s i).isNone) c s x (R.dsk (d:Nat)) i=R.dsk (d:Nat):=fun i hi=>by
     induction i with
     | zero=>rfl
     | succ i ih =>
      rw [Zc0]
      exact (if_neg (by show ¬(jr d s i).isNone=true; rw [hnone i (by omega)]; simp)).trans (ih (by omega))
    rw [hid _ (Nat.le_refl _),Dsk.flush_idle hD.waits]
   ·
    refine if_neg ?_
    rintro (z | z)
    ·
     have z:(mwr (fun i=>(jr d s i).isNone) c s x (R.dsk (d:Nat)) c.k.toNat).dead=true:=z
     rw [mwr_dead,hdead] at z; exact absurd z (by simp)
    ·
     exact hT0 z
 refine ⟨R9,?_,g9⟩
 unfold Rck.mslot
 rw [hg]
 show Rck.mdone (meach (Rck.mrow c (s:Int) x) (R.mplaces c) R 0)=_
 unfold Rck.mplaces
 rw [e1]
 show ((R1.mflush _).1,_,(R1.mflush _).2)=_
 rw [e2,hR,<- h.online,hT]
end
end Go.Proofs.YtkipjmbplmdaaaaGreatDoor
namespace Go.Proofs.YtkipjmbplmdaaaaGreatDoor
set_option linter.unusedVariables false
theorem GTd.super {D:Dsk} {d:Nat} {c:Cfg} {m:Nat} {sp:Bool} {jr:Nat->Nat->Option Rcd} {st:Nat->Option (Int × List (List Nat))} (h:GTd D d c m true sp jr st) (hc:c.Good) (hm:c.sectors<=(m:Int)):GTd (Super.disk D (c.block d).bytes) d c m true true jr st:=by
 have h0:0 < m:=by
  have h1:=Za1 hc hm (s:=0) (by have:=hc.st0; omega)
  omega
 have rd:∀ q,q < m->(Super.disk D (c.block d).bytes).read q=if q=0 then (c.block d).bytes else D.read q:=fun q hq=>by
  unfold Super.disk
  rw [Dsk.flush_read _ _ (by rw [Dsk.write_len,h.len]; exact hq),Dsk.write_read]
 have hlen:(Super.disk D (c.block d).bytes).l.length=m:=by
  unfold Super.disk
  rw [Dsk.flush_len,Dsk.write_len]; exact h.len
 have hrot:∀ q,(Super.disk D (c.block d).bytes).rot q=if q=0 then false else D.rot q:=fun q=>by
  show (if (true && (if q=0 then some (c.block d).bytes else D.waits q).isSome)=true then false else D.rot q)=_
  by_cases e:q=0
  ·
   rw [if_pos e,if_pos e]; rfl
  ·
   rw [if_neg e,if_neg e,h.waits]; rfl
 refine ⟨hlen,h.dead,fun q=>rfl,fun q hq=>?_,fun q hq=>(by
  rw [hrot]
  split
  ·
   rfl
  ·
   exact h.rotm q hq),fun _=>(by rw [rd 0 h0,if_pos rfl]),fun e=>(by cases e),fun t i y ht hi e=>?_,fun t i ht hi e=>?_,fun t y ht e=>?_,fun t ht e=>?_,fun e=>(by cases e)⟩
 ·
  rw [hrot] at hq
  by_cases e:q=0
  ·
   rw [if_pos e] at hq; cases hq
  ·
   rw [if_neg e] at hq
   by_cases hqm:q < m
   ·
    rw [rd q hqm,if_neg e]; exact h.rot q hq
   ·
    have:=h.rotm q (by omega)
    rw [this] at hq; cases hq
 ·
  rw [rd _ (Zbe hc hm ht hi),if_neg (jsec_pos c t i)]; exact h.jr1 t i y ht hi e
 ·
  rw [rd _ (Zbe hc hm ht hi),if_neg (jsec_pos c t i)]; exact h.jr0 t i ht hi e
 ·
  rw [rd _ (Za1 hc hm ht),if_neg (Zct c t)]; exact h.st1 t y ht e
 ·
  rw [rd _ (Za1 hc hm ht),if_neg (Zct c t)]; exact h.st0 t ht e
section
variable {R:Rck} {c:Cfg} {m:Nat} {U sp:Nat->Bool} {jr:JR} {st:ST}
theorem GT.msupers (h:GT R c m U sp jr st):∃ R',R.msupers c=(none,(((List.range c.n.toNat).filter U).filter fun d=>!sp d).length,R')/\GT R' c m U U jr st:=by
 have hon:∀ d,d∈R.online->d < c.n.toNat/\U d=true:=fun d hd=>by
  rw [h.online] at hd
  obtain ⟨h1,h2⟩:=List.mem_filter.1 hd
  exact ⟨List.mem_range.1 h1,h2⟩
 have alive:∀ d,d∈R.online->(R.dsk (d:Nat)).dead=false:=fun d hd=>by rw [(h.dsk d (hon d hd).1).dead,(hon d hd).2]; rfl
 have hn8:c.n.toNat<=8:=by have:=h.good.n1; omega
 obtain ⟨R1,e1,l1,k1⟩:=meach_rows (f:=Rck.msuper c) (R:=R) (n:=c.n.toNat) (m:=m) (F:=fun d=>[d]) (ct:=fun d=>if (!sp d)=true then 1 else 0) (g:=fun d=>if sp d=true then R.dsk (d:Nat) else Super.disk (R.dsk (d:Nat)) (c.block d).bytes) R.online (Live.on_nodup R) (fun d hd R' k hl hsame=>by
  obtain ⟨hdn,hu⟩:=hon d hd
  have ha:(R'.dsk (d:Nat)).dead=false:=by rw [hsame]; exact alive d hd
  have ht:R'.superGet (d:Nat)=R.superGet (d:Nat):=by
   unfold Rck.superGet
   have a1:=hl.get (s:=0) hdn (by have:=h.m0; omega) ha 1 d 0
   have a2:=h.live.get (s:=0) hdn (by have:=h.m0; omega) (alive d hd) 1 d 0
   rw [hsame,<- a2] at a1
   have a1:R'.get (d:Nat) 0 1 (d:Nat) 0=R.get (d:Nat) 0 1 (d:Nat) 0:=a1
   rw [a1]
  have htold:=h.told hdn
  rw [<- ht] at htold
  rcases e:sp d with _ | _
  ·
   rw [e] at htold
   have hput:=(⟨hl,h.good,h.fit⟩:Super R' c m).put hdn ha
   have hp:Rck.msuper c R' d=(none,true,R'.setD d (Super.disk (R'.dsk (d:Nat)) (c.block d).bytes)):=by
    unfold Rck.msuper
    rw [htold,if_neg (by simp),hput]
   obtain ⟨l2,k2⟩:=hl.setD (Super.disk (R'.dsk (d:Nat)) (c.block d).bytes) (by unfold Super.disk; rw [Dsk.flush_len,Dsk.write_len]; exact hl.secs d hdn) hdn
   refine ⟨_,?_,l2,fun e'=>?_⟩
   ·
    show (match Rck.msuper c R' d with | (some e,_,R')=>(some e,k,R') | (none,true,R')=>meach _ [] R' (k+1) | (none,false,R')=>meach _ [] R' k)=_
    rw [hp]; rfl
   ·
    rw [k2,hsame]; rfl
  ·
   rw [e] at htold
   have hp:Rck.msuper c R' d=(none,false,R'):=by
    unfold Rck.msuper
    rw [htold]; exact if_pos rfl
   refine ⟨R',?_,hl,fun e'=>?_⟩
   ·
    show (match Rck.msuper c R' d with | (some e,_,R')=>(some e,k,R') | (none,true,R')=>meach _ [] R' (k+1) | (none,false,R')=>meach _ [] R' k)=_
    rw [hp]; rfl
   ·
    by_cases q:e'=d
    ·
     rw [if_pos q,q]; exact hsame
    ·
     rw [if_neg q]) R 0 h.live (fun d _=>rfl)
 rw [List.flatMap_singleton'] at e1
 rw [Nat.zero_add,sum01 (fun d=>!sp d)] at e1
 refine ⟨R1,?_,l1,h.good,h.fit,fun d hd=>?_,h.jfit,h.sfit⟩
 ·
  unfold Rck.msupers
  rw [e1,<- h.online]
 ·
  rw [k1 d]
  have hD:=h.dsk d hd
  rcases hu:U d with _ | _
  ·
   have hno:d∉R.online:=fun q=>by have:=(hon d q).2; rw [hu] at this; cases this
   rw [if_neg hno]
   rw [hu] at hD
   obtain ⟨g1,_,_⟩:=hD.gone rfl
   rw [g1] at hD; exact hD
  ·
   have hyes:d∈R.online:=by rw [h.online]; exact List.mem_filter.2 ⟨List.mem_range.2 hd,hu⟩
   rw [if_pos hyes]
   rw [hu] at hD
   rcases e:sp d with _ | _
   ·
    simp only [Bool.false_eq_true,if_false]
    exact hD.super h.good h.fit
   ·
    simp only [if_true]
    rw [e] at hD; exact hD
end
end Go.Proofs.YtkipjmbplmdaaaaGreatDoor
namespace Go.Proofs.YtkipjmbplmdaaaaGreatDoor
set_option linter.unusedVariables false
structure MS (R:Rck) (c:Cfg) (m:Nat) (j:Nat->Option Rcd) (f:Strs) (U sp:Nat->Bool) (jr:JR) (st:ST):Prop where
 gt:GT R c m U sp jr st
 hj:∀ d s i,d < c.n.toNat->s < c.slots.toNat->i < c.k.toNat->jr d s i=none\/jr d s i=j s
 hs:∀ d t,d < c.n.toNat->t < c.stripes.toNat->st d t=none\/st d t=f t
 jrec:∀ s,s < c.slots.toNat->∃ x,j s=some x/\x.Fit c s/\(x.blocks.length:Int)=c.k/\∀ i,i < c.k.toNat->∃ d,d < c.n.toNat/\jr d s i=some x
 srec:∀ t,t < c.stripes.toNat->∃ y,f t=some y/\SFit c t y.1 y.2/\c.k.toNat<=((List.range c.n.toNat).filter fun d=>decide (st d t=some y)).length
theorem filter_le {p q:Nat->Bool}:∀ {l:List Nat},(∀ d∈l,p d=true->q d=true)->(l.filter p).length<=(l.filter q).length
 | [],_=>Nat.le_refl _
 | d::l,h=>by
  have ih:=filter_le (p:=p) (q:=q) (l:=l) fun e he=>h e (List.mem_cons_of_mem _ he)
  rcases e:p d with _ | _
  ·
   rw [List.filter_cons_of_neg (by rw [e]; simp)]
   rcases e2:q d with _ | _
   ·
    rw [List.filter_cons_of_neg (by rw [e2]; simp)]; exact ih
   ·
    rw [List.filter_cons_of_pos e2,List.length_cons]; omega
  ·
   rw [List.filter_cons_of_pos e,List.filter_cons_of_pos (h d List.mem_cons_self e),List.length_cons,List.length_cons]; omega
namespace MS
variable {R:Rck} {c:Cfg} {m:Nat} {j:Nat->Option Rcd} {f:Strs} {U sp:Nat->Bool} {jr:JR} {st:ST}
theorem jslot (h:MS R c m j f U sp jr st) {s:Nat} (hs:s < c.slots.toNat) {x:Rcd} (hx:j s=some x):∃ w q,R.jslot c (s:Int)=(x,w,q,none):=by
 obtain ⟨x',e,_,_,hrec⟩:=h.jrec s hs
 rw [hx] at e; cases e
 have hall:∀ d i y,d < c.n.toNat->i < c.k.toNat->jr d s i=some y->y=x:=fun d i y hd hi e=>by
  rcases h.hj d s i hd hs hi with q | q
  ·
   rw [q] at e; cases e
  ·
   rw [q,hx] at e; cases e; rfl
 rcases h.gt.jslot hs (fun d e i i' a b hd he hi hi' e1 e2 _=>(hall d i a hd hi e1).trans (hall e i' b he hi' e2).symm) with ⟨i,hi,hno,_⟩ | ⟨y,⟨d,i,hd,hi,e⟩,_,_,q⟩
 ·
  obtain ⟨d,hd,e⟩:=hrec i hi
  rw [hno d hd] at e; cases e
 ·
  have hy:=hall d i y hd hi e
  subst hy
  rcases q with ⟨_,q⟩ | ⟨⟨i',hi',hno⟩,_⟩
  ·
   exact ⟨_,_,q⟩
  ·
   obtain ⟨d',hd',e'⟩:=hrec i' hi'
   exact absurd e' (hno d' hd')
theorem sget (h:MS R c m j f U sp jr st) (k4:c.k<=4) (n6:c.n<=6) {t:Nat} (ht:t < c.stripes.toNat) {y:Int × List (List Nat)} (hy:f t=some y):R.sget c (t:Int)=(y.2,y.1,none):=by
 obtain ⟨y',e,_,hcnt⟩:=h.srec t ht
 rw [hy] at e; cases e
 refine h.gt.sget_ok k4 n6 ht (fun d z hd e=>?_) hcnt
 rcases h.hs d t hd ht with q | q
 ·
  rw [q] at e; cases e
 ·
  rw [q,hy] at e; cases e
  exact ⟨Int.le_refl _,fun _=>rfl⟩
def lack (c:Cfg) (U sp:Nat->Bool) (jr:JR) (st:ST) (g:Nat):Nat :=
 if g=0 then (((List.range c.n.toNat).filter U).filter fun d=>!sp d).length
 else if g<=c.slots.toNat then (((List.range c.n.toNat).filter U).map fun d=>((List.range c.k.toNat).filter fun i=>(jr d (g - 1) i).isNone).length).sum
 else (((List.range c.n.toNat).filter U).filter fun d=>(st d (g - 1 - c.slots.toNat)).isNone).length
def spG (U sp:Nat->Bool) (g:Nat):Nat->Bool:=if g=0 then U else sp
def jrG (c:Cfg) (j:Nat->Option Rcd) (U:Nat->Bool) (jr:JR) (g:Nat):JR:=fun d s i=>if 1<=g/\g<=c.slots.toNat/\s=g - 1 then (if U d then j s else none) else jr d s i
def stG (c:Cfg) (f:Strs) (U:Nat->Bool) (st:ST) (g:Nat):ST:=fun d t=>if c.slots.toNat < g/\t=g - 1 - c.slots.toNat then (if U d then f t else none) else st d t
theorem group (h:MS R c m j f U sp jr st) (k4:c.k<=4) (n6:c.n<=6) {g:Nat} (hg:(g:Int) < c.groups) :
  ∃ R',Vol.group c R (g:Int)=(none,lack c U sp jr st g,R')/\MS R' c m j f U (spG U sp g) (jrG c j U jr g) (stG c f U st g):=by
 have hc:=h.gt.good
 have hsl:=hc.sl0
 have hst:=hc.st0
 have hup:∀ d s i x,d < c.n.toNat->jr d s i=some x->U d=true:=fun d s i x hd e=>h.gt.up_of_jr hd e
 have hust:∀ d t y,d < c.n.toNat->st d t=some y->U d=true:=fun d t y hd e=>h.gt.up_of_st hd e
 unfold Cfg.groups at hg
 by_cases h0:g=0
 ·
  subst h0
  obtain ⟨R',e,g'⟩:=h.gt.msupers
  refine ⟨R',?_,?_⟩
  ·
   unfold Vol.group lack
   rw [if_pos rfl]
   exact (if_pos rfl).trans e
  ·
   have ej:jrG c j U jr 0=jr:=by funext d s i; exact if_neg (by omega)
   have es:stG c f U st 0=st:=by funext d t; exact if_neg (by omega)
   rw [ej,es]
   exact ⟨g',h.hj,h.hs,h.jrec,h.srec⟩
 by_cases h1:g<=c.slots.toNat
 ·
  have hs:g - 1 < c.slots.toNat:=by omega
  obtain ⟨x,hx,hfit,hlen,hrec⟩:=h.jrec (g - 1) hs
  obtain ⟨w,q,hjs⟩:=h.jslot hs hx
  obtain ⟨R',e,g'⟩:=h.gt.mslot hs hfit hlen hjs fun d i hd hi=>by rw [<- hx]; exact h.hj d (g - 1) i hd hs hi
  have ej:jrG c j U jr g=fun d t i=>if t=g - 1 then (if U d then some x else none) else jr d t i:=by
   funext d t i
   unfold jrG
   by_cases et:t=g - 1
   ·
    rw [if_pos ⟨by omega,h1,et⟩,if_pos et,et,hx]
   ·
    rw [if_neg (fun z=>et z.2.2),if_neg et]
  have es:stG c f U st g=st:=by funext d t; exact if_neg (by omega)
  have ep:spG U sp g=sp:=if_neg h0
  refine ⟨R',?_,?_⟩
  ·
   unfold Vol.group lack
   rw [if_neg (by omega),if_pos (by omega),if_neg h0,if_pos h1,show (g:Int) - 1=((g - 1:Nat):Int) by omega]
   exact e
  ·
   rw [ej,es,ep]
   refine ⟨g',fun d s i hd hs' hi=>?_,h.hs,fun s hs'=>?_,h.srec⟩
   ·
    show (if s=g - 1 then (if U d=true then some x else none) else jr d s i)=none\/(if s=g - 1 then (if U d=true then some x else none) else jr d s i)=j s
    by_cases z:s=g - 1
    ·
     rw [if_pos z,z,hx]
     split
     ·
      exact .inr rfl
     ·
      exact .inl rfl
    ·
     rw [if_neg z]; exact h.hj d s i hd hs' hi
   ·
    obtain ⟨x',a1,a2,a3,a4⟩:=h.jrec s hs'
    refine ⟨x',a1,a2,a3,fun i hi=>?_⟩
    obtain ⟨d,hd,ed⟩:=a4 i hi
    refine ⟨d,hd,?_⟩
    show (if s=g - 1 then (if U d=true then some x else none) else jr d s i)=some x'
    by_cases z:s=g - 1
    ·
     rw [if_pos z,if_pos (hup d s i x' hd ed)]
     rw [z,hx] at a1; exact a1
    ·
     rw [if_neg z]; exact ed
 ·
  have ht:g - 1 - c.slots.toNat < c.stripes.toNat:=by omega
  obtain ⟨y,hy,hfit,hcnt⟩:=h.srec _ ht
  have hsg:=h.sget k4 n6 ht hy
  obtain ⟨R',e,g'⟩:=h.gt.mstripe hfit hsg fun d hd=>by rw [show ((y.1,y.2):Int × List (List Nat))=y from rfl,<- hy]; exact h.hs d _ hd ht
  have es:stG c f U st g=fun d t=>if t=g - 1 - c.slots.toNat then (if U d then some (y.1,y.2) else none) else st d t:=by
   funext d t
   unfold stG
   by_cases et:t=g - 1 - c.slots.toNat
   ·
    rw [if_pos ⟨by omega,et⟩,if_pos et,et,hy]
   ·
    rw [if_neg (fun z=>et z.2),if_neg et]
  have ej:jrG c j U jr g=jr:=by funext d s i; exact if_neg (by omega)
  have ep:spG U sp g=sp:=if_neg h0
  refine ⟨R',?_,?_⟩
  ·
   unfold Vol.group lack
   rw [if_neg (by omega),if_neg (by omega),if_neg h0,if_neg h1,show (g:Int) - 1 - c.slots=((g - 1 - c.slots.toNat:Nat):Int) by omega]
   exact e
  ·
   rw [es,ej,ep]
   refine ⟨g',h.hj,fun d t hd ht'=>?_,h.jrec,fun t ht'=>?_⟩
   ·
    show (if t=g - 1 - c.slots.toNat then (if U d=true then some (y.1,y.2) else none) else st d t)=none\/(if t=g - 1 - c.slots.toNat then (if U d=true then some (y.1,y.2) else none) else st d t)=f t
    by_cases z:t=g - 1 - c.slots.toNat
    ·
     rw [if_pos z,z,hy]
     split
     ·
      exact .inr rfl
     ·
      exact .inl rfl
    ·
     rw [if_neg z]; exact h.hs d t hd ht'
   ·
    obtain ⟨y',a1,a2,a3⟩:=h.srec t ht'
    refine ⟨y',a1,a2,Nat.le_trans a3 ?_⟩
    refine filter_le fun d hm hd=>?_
    have hdn:=List.mem_range.1 hm
    have hd:st d t=some y':=by simpa using hd
    by_cases z:t=g - 1 - c.slots.toNat
    ·
     have hu:=hust d t y' hdn hd
     rw [z,hy] at a1
     have a1:y=y':=Option.some.inj a1
     simp only [z,hu,if_true]
     exact decide_eq_true (congrArg some a1)
    ·
     simp only [if_neg z]
     exact decide_eq_true hd
end MS
end Go.Proofs.YtkipjmbplmdaaaaGreatDoor
namespace Go.Proofs.YtkipjmbplmdaaaaGreatDoor
set_option linter.unusedVariables false
open Go.Proofs.YtkipjmbplmdaaaaGreatDoor.GT (cnt Played Opened Shut)
section
variable {R R0:Rck} {c:Cfg} {m:Nat} {cur:Int} {j:Nat->Option Rcd} {f:Strs} {U sp:Nat->Bool} {jr:JR} {st:ST} {L:List Nat}
theorem MS.of_sure (g:GT R c m U sp jr st) (hv:VI c cur j f) (hj:∀ d s i x,d < c.n.toNat->jr d s i=some x->j s=some x) (hs:∀ d t y,d < c.n.toNat->st d t=some y->f t=some y) (hsure:Sure c sp jr st):MS R c m j f U sp jr st:=by
 obtain ⟨G,hG,hg⟩:=hsure
 have hk:=g.good.k0
 have hpick:∃ d,d < c.n.toNat/\G d=true:=by
  have hne:(List.range c.n.toNat).filter G≠[]:=fun q=>by
   have:cnt G c.n.toNat=0:=by unfold GT.cnt; rw [q]; rfl
   omega
  obtain ⟨d,hd⟩:=List.exists_mem_of_ne_nil _ hne
  obtain ⟨h1,h2⟩:=List.mem_filter.1 hd
  exact ⟨d,List.mem_range.1 h1,h2⟩
 refine ⟨g,fun d s i hd hs' hi=>?_,fun d t hd ht=>?_,fun s hs'=>?_,fun t ht=>?_⟩
 ·
  rcases e:jr d s i with _ | x
  ·
   exact .inl rfl
  ·
   exact .inr (hj d s i x hd e).symm
 ·
  rcases e:st d t with _ | y
  ·
   exact .inl rfl
  ·
   exact .inr (hs d t y hd e).symm
 ·
  obtain ⟨x,ex,_⟩:=hv.vv.slot s hs'
  obtain ⟨h1,h2,_⟩:=hv.fit hs' ex
  refine ⟨x,ex,h1,h2,fun i hi=>?_⟩
  obtain ⟨d,hd,hgd⟩:=hpick
  refine ⟨d,hd,?_⟩
  rcases e:jr d s i with _ | y
  ·
   exact absurd e ((hg d hd hgd).2.1 s i hs' hi)
  ·
   have:=hj d s i y hd e
   rw [ex] at this; exact this.symm
 ·
  obtain ⟨gen,l,ey,hx,_⟩:=hv.vv.str t ht
  refine ⟨(gen,l),ey,hx,Nat.le_trans hG ?_⟩
  unfold GT.cnt
  refine filter_le fun d hm hgd=>?_
  have hd:=List.mem_range.1 hm
  rcases e:st d t with _ | y
  ·
   exact absurd e ((hg d hd hgd).2.2 t ht)
  ·
   have:=hs d t y hd e
   rw [ey] at this
   exact decide_eq_true this.symm
theorem MS.tick (h:MS R c m j f U sp jr st) (k4:c.k<=4) (n6:c.n<=6) {g:Nat} (hg:(g:Int) < c.groups) (cur:Int) :
  ∃ R',Vol.tick ⟨c,cur,false⟩ R (g:Int)=⟨lack c U sp jr st g,none,R',⟨c,cur,false⟩,((g:Int)+1) % c.groups⟩/\MS R' c m j f U (spG U sp g) (jrG c j U jr g) (stG c f U st g):=by
 obtain ⟨R',e,h'⟩:=h.group k4 n6 hg
 refine ⟨R',?_,h'⟩
 unfold Vol.tick
 rw [if_neg (by rw [h.gt.live.off]; simp)]
 simp only [e]
 rfl
structure MWhole (c:Cfg) (j:Nat->Option Rcd) (f:Strs) (U sp:Nat->Bool) (jr:JR) (st:ST) (g:Nat):Prop where
 sup:0 < g->∀ d,d < c.n.toNat->U d=true->sp d=true
 slot:∀ s,s < c.slots.toNat->s+1 < g->∀ d i,d < c.n.toNat->U d=true->jr d s i=j s
 str:∀ t,t < c.stripes.toNat->t+1+c.slots.toNat < g->∀ d,d < c.n.toNat->U d=true->st d t=f t
theorem MWhole.zero:MWhole c j f U sp jr st 0:=⟨fun q=>by omega,fun s _ q=>by omega,fun t _ q=>by omega⟩
theorem MWhole.step {g:Nat} (h:MWhole c j f U sp jr st g):MWhole c j f U (MS.spG U sp g) (MS.jrG c j U jr g) (MS.stG c f U st g) (g+1):=by
 refine ⟨fun _ d hd hu=>?_,fun s hs hsg d i hd hu=>?_,fun t ht htg d hd hu=>?_⟩
 ·
  unfold MS.spG
  by_cases e:g=0
  ·
   rw [if_pos e]; exact hu
  ·
   rw [if_neg e]; exact h.sup (by omega) d hd hu
 ·
  unfold MS.jrG
  by_cases e:1<=g/\g<=c.slots.toNat/\s=g - 1
  ·
   rw [if_pos e,if_pos hu]
  ·
   rw [if_neg e]; exact h.slot s hs (by omega) d i hd hu
 ·
  unfold MS.stG
  by_cases e:c.slots.toNat < g/\t=g - 1 - c.slots.toNat
  ·
   rw [if_pos e,if_pos hu]
  ·
   rw [if_neg e]; exact h.str t ht (by omega) d hd hu
theorem MWhole.idle {g:Nat} (h:MWhole c j f U sp jr st (1+c.slots.toNat+c.stripes.toNat)) (hj:∀ s,s < c.slots.toNat->j s≠none) (hf:∀ t,t < c.stripes.toNat->f t≠none) (hg:g < 1+c.slots.toNat+c.stripes.toNat):MS.lack c U sp jr st g=0:=by
 have hmem:∀ d,d∈(List.range c.n.toNat).filter U->d < c.n.toNat/\U d=true:=fun d hd=>by
  obtain ⟨h1,h2⟩:=List.mem_filter.1 hd
  exact ⟨List.mem_range.1 h1,h2⟩
 unfold MS.lack
 by_cases h0:g=0
 ·
  rw [if_pos h0,List.length_eq_zero_iff]
  refine List.filter_eq_nil_iff.2 fun d hd=>?_
  rw [h.sup (by omega) d (hmem d hd).1 (hmem d hd).2]; simp
 ·
  rw [if_neg h0]
  by_cases h1:g<=c.slots.toNat
  ·
   rw [if_pos h1]
   have hz:∀ l:List Nat,(∀ d∈l,d < c.n.toNat/\U d=true)->(l.map fun d=>((List.range c.k.toNat).filter fun i=>(jr d (g - 1) i).isNone).length).sum=0:=fun l hl=>by
    induction l with
    | nil=>rfl
    | cons a l ih =>
     rw [List.map_cons,List.sum_cons,ih fun d hd=>hl d (List.mem_cons_of_mem _ hd)]
     obtain ⟨a1,a2⟩:=hl a List.mem_cons_self
     have:(List.range c.k.toNat).filter (fun i=>(jr a (g - 1) i).isNone)=[]:=List.filter_eq_nil_iff.2 fun i _=>by
      rw [h.slot (g - 1) (by omega) (by omega) a i a1 a2]
      have:=hj (g - 1) (by omega)
      rcases e:j (g - 1) with _ | x
      ·
       exact absurd e this
      ·
       simp
     rw [this]; rfl
   exact hz _ hmem
  ·
   rw [if_neg h1,List.length_eq_zero_iff]
   refine List.filter_eq_nil_iff.2 fun d hd=>?_
   rw [h.str (g - 1 - c.slots.toNat) (by omega) (by omega) d (hmem d hd).1 (hmem d hd).2]
   have:=hf (g - 1 - c.slots.toNat) (by omega)
   rcases e:f (g - 1 - c.slots.toNat) with _ | x
   ·
    exact absurd e this
   ·
    simp
theorem MS.vh (h:MS R c m j f U sp jr st) (hm:(m:Int)=c.sectors) (hw:MWhole c j f U sp jr st (1+c.slots.toNat+c.stripes.toNat)) (hu:∀ d,d < c.n.toNat->U d=true):VH R c m true j f:=by
 refine h.gt.vh hm hu (fun d hd=>hw.sup (by omega) d hd (hu d hd)) (fun d s i hd hs hi=>?_) (fun d t hd ht=>?_)
 ·
  obtain ⟨x,e,_⟩:=h.jrec s hs
  have e2:=hw.slot s hs (by omega) d i hd (hu d hd)
  rw [e2]
  exact ⟨by rw [e]; simp,fun y q=>q⟩
 ·
  obtain ⟨y,e,_⟩:=h.srec t ht
  have e2:=hw.str t ht (by omega) d hd (hu d hd)
  rw [e2]
  exact ⟨by rw [e]; simp,fun y q=>q⟩
end
end Go.Proofs.YtkipjmbplmdaaaaGreatDoor
namespace Go.Proofs.YtkipjmbplmdaaaaGreatDoor
set_option linter.unusedVariables false
open Go.Proofs.YtkipjmbplmdaaaaGreatDoor.GT (cnt Played Opened Shut)
section
variable {R:Rck} {c:Cfg} {m:Nat} {cur:Int} {j:Nat->Option Rcd} {f:Strs} {U sp:Nat->Bool} {jr:JR} {st:ST}
theorem GTd.fresh {D:Dsk} {d:Nat} (hl:D.l.length=m):GTd D.replace d c m true false (fun _ _=>none) fun _=>none :=
 ⟨by rw [Dsk.replace_len]; exact hl,rfl,fun _=>rfl,fun q hq=>Dsk.blank_bad D q,fun q _=>rfl,fun e=>(by cases e),fun _=>Dsk.blank_bad D 0,fun s i x _ _ e=>(by cases e),fun s i _ _ _=>Dsk.blank_bad D _,fun t y _ e=>(by cases e),fun t _ _=>Dsk.blank_bad D _,fun e=>(by cases e)⟩
theorem GTd.dead_ {D:Dsk} {d:Nat} (hl:D.l.length=m):GTd D.die d c m false false (fun _ _=>none) fun _=>none :=
 ⟨by rw [Dsk.die_len]; exact hl,rfl,fun _=>rfl,fun q hq=>Dsk.blank_bad D q,fun q _=>rfl,fun e=>(by cases e),fun _=>Dsk.blank_bad D 0,fun s i x _ _ e=>(by cases e),fun s i _ _ _=>Dsk.blank_bad D _,fun t y _ e=>(by cases e),fun t _ _=>Dsk.blank_bad D _,fun _=>⟨rfl,fun _ _=>rfl,fun _=>rfl⟩⟩
theorem GT.setNone (h:GT R c m U sp jr st) {d:Nat} (hd:d < c.n.toNat) {D:Dsk} {u:Bool} (g:GTd D d c m u false (fun _ _=>none) fun _=>none):GT (R.setD (d:Nat) D) c m (fun e=>if e=d then u else U e) (fun e=>if e=d then false else sp e) (fun e s i=>if e=d then none else jr e s i) (fun e t=>if e=d then none else st e t):=by
 obtain ⟨l1,k1⟩:=h.live.setD D g.len hd
 refine ⟨l1,h.good,h.fit,fun e he=>?_,fun e s i x he hs hi q=>?_,fun e t y he ht q=>?_⟩
 ·
  rw [k1]
  by_cases z:e=d
  ·
   subst z
   simp only [if_true]
   exact g
  ·
   simp only [if_neg z]
   exact h.dsk e he
 ·
  have q:(if e=d then none else jr e s i)=some x:=q
  by_cases z:e=d
  ·
   rw [if_pos z] at q; cases q
  ·
   rw [if_neg z] at q; exact h.jfit e s i x he hs hi q
 ·
  have q:(if e=d then none else st e t)=some y:=q
  by_cases z:e=d
  ·
   rw [if_pos z] at q; cases q
  ·
   rw [if_neg z] at q; exact h.sfit e t y he ht q
theorem GT.replace (h:GT R c m U sp jr st) {d:Nat} (hd:d < c.n.toNat):GT (R.replace (d:Nat)) c m (fun e=>if e=d then true else U e) (fun e=>if e=d then false else sp e) (fun e s i=>if e=d then none else jr e s i) (fun e t=>if e=d then none else st e t):=by
 rw [h.live.replace hd]
 exact h.setNone hd (GTd.fresh (h.dsk d hd).len)
theorem GT.die_ (h:GT R c m U sp jr st) {d:Nat} (hd:d < c.n.toNat):GT (R.die (d:Nat)) c m (fun e=>if e=d then false else U e) (fun e=>if e=d then false else sp e) (fun e s i=>if e=d then none else jr e s i) (fun e t=>if e=d then none else st e t):=by
 rw [h.live.die hd]
 exact h.setNone hd (GTd.dead_ (h.dsk d hd).len)
structure Miss (c:Cfg) (j:Nat->Option Rcd) (f:Strs) (U sp:Nat->Bool) (jr:JR) (st:ST) (d0 g:Nat):Prop where
 up:∀ d,d < c.n.toNat->U d=true
 sup:∀ d,d < c.n.toNat->d≠d0->sp d=true
 slot:∀ d s i,d < c.n.toNat->d≠d0->s < c.slots.toNat->i < c.k.toNat->jr d s i=j s
 str:∀ d t,d < c.n.toNat->d≠d0->t < c.stripes.toNat->st d t=f t
 sup0:g=0->sp d0=false
 slot0:∀ s i,s < c.slots.toNat->i < c.k.toNat->g<=s+1->jr d0 s i=none
 str0:∀ t,t < c.stripes.toNat->g<=t+1+c.slots.toNat->st d0 t=none
theorem filter_one {p:Nat->Bool} {d0:Nat}:∀ {n:Nat},d0 < n->(∀ d,d < n->p d=decide (d=d0))->((List.range n).filter p).length=1
 | 0,h,_=>by omega
 | n+1,h,hp=>by
  rw [List.range_succ,List.filter_append,List.length_append]
  by_cases e:d0=n
  ·
   subst e
   have h0:(List.range d0).filter p=[]:=List.filter_eq_nil_iff.2 fun d hd=>by
    have:=List.mem_range.1 hd
    rw [hp d (by omega),decide_eq_false (by omega)]; simp
   rw [h0,List.filter_cons_of_pos (by rw [hp d0 (by omega)]; simp)]; rfl
  ·
   rw [filter_one (by omega) fun d hd=>hp d (by omega),List.filter_cons_of_neg (by rw [hp n (by omega),decide_eq_false (by omega)]; simp)]; rfl
theorem sum_one {ct:Nat->Nat} {d0 k:Nat}:∀ {n:Nat},d0 < n->(∀ d,d < n->ct d=if d=d0 then k else 0)->((List.range n).map ct).sum=k
 | 0,h,_=>by omega
 | n+1,h,hp=>by
  have zero:∀ q,(∀ d,d < q->ct d=0)->((List.range q).map ct).sum=0:=fun q hq=>by
   induction q with
   | zero=>rfl
   | succ q ih =>
    rw [List.range_succ,List.map_append,List.sum_append,ih fun d hd=>hq d (by omega)]
    simp [hq q (by omega)]
  rw [List.range_succ,List.map_append,List.sum_append]
  by_cases e:d0=n
  ·
   subst e
   rw [zero d0 fun d hd=>by rw [hp d (by omega),if_neg (by omega)]]
   simp [hp d0 (by omega)]
  ·
   rw [sum_one (by omega) fun d hd=>hp d (by omega)]
   simp [hp n (by omega),show n≠d0 from fun q=>e q.symm]
theorem Miss.lack {d0 g:Nat} (h:Miss c j f U sp jr st d0 g) (hd:d0 < c.n.toNat) (hj:∀ s,s < c.slots.toNat->j s≠none) (hf:∀ t,t < c.stripes.toNat->f t≠none) (hg:g < 1+c.slots.toNat+c.stripes.toNat):MS.lack c U sp jr st g=if 1<=g/\g<=c.slots.toNat then c.k.toNat else 1:=by
 have hall:(List.range c.n.toNat).filter U=List.range c.n.toNat:=List.filter_eq_self.2 fun d hd=>h.up d (List.mem_range.1 hd)
 unfold MS.lack
 rw [hall]
 by_cases h0:g=0
 ·
  rw [if_pos h0,if_neg (by omega)]
  refine filter_one hd fun d hdn=>?_
  by_cases e:d=d0
  ·
   rw [decide_eq_true e,e,h.sup0 h0]; rfl
  ·
   rw [decide_eq_false e,h.sup d hdn e]; rfl
 ·
  rw [if_neg h0]
  by_cases h1:g<=c.slots.toNat
  ·
   rw [if_pos h1,if_pos ⟨by omega,h1⟩]
   refine sum_one hd fun d hdn=>?_
   by_cases e:d=d0
   ·
    rw [if_pos e,e,List.filter_eq_self.2 fun i hi=>by rw [h.slot0 (g - 1) i (by omega) (List.mem_range.1 hi) (by omega)]; rfl,List.length_range]
   ·
    rw [if_neg e,List.length_eq_zero_iff]
    refine List.filter_eq_nil_iff.2 fun i hi=>?_
    rw [h.slot d (g - 1) i hdn e (by omega) (List.mem_range.1 hi)]
    have:=hj (g - 1) (by omega)
    rcases q:j (g - 1) with _ | x
    ·
     exact absurd q this
    ·
     simp
  ·
   rw [if_neg h1,if_neg (by omega)]
   refine filter_one hd fun d hdn=>?_
   by_cases e:d=d0
   ·
    rw [decide_eq_true e,e,h.str0 (g - 1 - c.slots.toNat) (by omega) (by omega)]; rfl
   ·
    rw [decide_eq_false e,h.str d (g - 1 - c.slots.toNat) hdn e (by omega)]
    have:=hf (g - 1 - c.slots.toNat) (by omega)
    rcases q:f (g - 1 - c.slots.toNat) with _ | x
    ·
     exact absurd q this
    ·
     rfl
theorem Miss.step {d0 g:Nat} (h:Miss c j f U sp jr st d0 g) (hd:d0 < c.n.toNat):Miss c j f U (MS.spG U sp g) (MS.jrG c j U jr g) (MS.stG c f U st g) d0 (g+1):=by
 refine ⟨h.up,fun d hdn e=>?_,fun d s i hdn e hs hi=>?_,fun d t hdn e ht=>?_,fun q=>by omega,fun s i hs hi q=>?_,fun t ht q=>?_⟩
 ·
  unfold MS.spG
  split
  ·
   exact h.up d hdn
  ·
   exact h.sup d hdn e
 ·
  unfold MS.jrG
  split
  ·
   rw [if_pos (h.up d hdn)]
  ·
   exact h.slot d s i hdn e hs hi
 ·
  unfold MS.stG
  split
  ·
   rw [if_pos (h.up d hdn)]
  ·
   exact h.str d t hdn e ht
 ·
  unfold MS.jrG
  rw [if_neg (by omega)]
  exact h.slot0 s i hs hi (by omega)
 ·
  unfold MS.stG
  rw [if_neg (by omega)]
  exact h.str0 t ht (by omega)
theorem cnt_but {d0:Nat}:∀ {n:Nat},n<=cnt (fun d=>decide (d≠d0)) n+1
 | 0=>Nat.zero_le _
 | n+1=>by
  have ih:=cnt_but (d0:=d0) (n:=n)
  unfold GT.cnt at *
  rw [List.range_succ,List.filter_append,List.length_append]
  by_cases e:n=d0
  ·
   subst e
   have h0:(List.range n).filter (fun d=>decide (d≠n))=List.range n:=List.filter_eq_self.2 fun d hd=>decide_eq_true (by have:=List.mem_range.1 hd; omega)
   rw [h0,List.length_range]
   omega
  ·
   have h1:([n].filter fun d=>decide (d≠d0))=[n]:=List.filter_eq_self.2 fun d hd=>by
    have:d=n:=by simpa using hd
    exact decide_eq_true (by rw [this]; exact e)
   rw [h1,List.length_singleton]
   omega
theorem VH.replaced (h:VH R c m true j f) (hv:VI c cur j f) {d0:Nat} (hd:d0 < c.n.toNat) (hk:c.k < c.n):∃ U sp jr st,MS (R.replace (d0:Nat)) c m j f U sp jr st/\Miss c j f U sp jr st d0 0:=by
 have g:=(h.gt hv).replace hd
 refine ⟨_,_,_,_,MS.of_sure g hv (fun d s i x _ e=>?_) (fun d t y _ e=>?_) ⟨fun d=>decide (d≠d0),?_,fun d hdn hg=>?_⟩,fun d hdn=>?_,fun d hdn e=>?_,fun d s i hdn e hs hi=>?_,fun d t hdn e ht=>?_,fun _=>if_pos rfl,fun s i _ _ _=>if_pos rfl,fun t _ _=>if_pos rfl⟩
 ·
  have e:(if d=d0 then none else j s)=some x:=e
  split at e
  ·
   cases e
  ·
   exact e
 ·
  have e:(if d=d0 then none else f t)=some y:=e
  split at e
  ·
   cases e
  ·
   exact e
 ·
  have:=cnt_but (d0:=d0) (n:=c.n.toNat)
  have:=h.good.k0
  omega
 ·
  have hne:d≠d0:=by simpa using hg
  refine ⟨if_neg hne,fun s i hs hi=>?_,fun t ht=>?_⟩
  ·
   show (if d=d0 then none else j s)≠none
   rw [if_neg hne]; exact VH.fullj hv d s i hdn hs hi
  ·
   show (if d=d0 then none else f t)≠none
   rw [if_neg hne]; exact VH.fulls hv d t hdn ht
 ·
  show (if d=d0 then true else true)=true
  split<;>rfl
 ·
  exact if_neg e
 ·
  exact if_neg e
 ·
  exact if_neg e
theorem VH.died (h:VH R c m true j f) (hv:VI c cur j f) {d0:Nat} (hd:d0 < c.n.toNat) (hk:c.k < c.n) (g0:Nat):∃ U sp jr st,MS (R.die (d0:Nat)) c m j f U sp jr st/\MWhole c j f U sp jr st g0:=by
 have g:=(h.gt hv).die_ hd
 have hne:∀ d,(if d=d0 then false else true)=true->d≠d0:=fun d q e=>by rw [if_pos e] at q; cases q
 refine ⟨_,_,_,_,MS.of_sure g hv (fun d s i x _ e=>?_) (fun d t y _ e=>?_) ⟨fun d=>decide (d≠d0),?_,fun d hdn hg=>?_⟩,fun _ d hdn hu=>if_neg (hne d hu),fun s _ _ d i _ hu=>if_neg (hne d hu),fun t _ _ d _ hu=>if_neg (hne d hu)⟩
 ·
  have e:(if d=d0 then none else j s)=some x:=e
  split at e
  ·
   cases e
  ·
   exact e
 ·
  have e:(if d=d0 then none else f t)=some y:=e
  split at e
  ·
   cases e
  ·
   exact e
 ·
  have:=cnt_but (d0:=d0) (n:=c.n.toNat)
  have:=h.good.k0
  omega
 ·
  have hne:d≠d0:=by simpa using hg
  refine ⟨if_neg hne,fun s i hs hi=>?_,fun t ht=>?_⟩
  ·
   show (if d=d0 then none else j s)≠none
   rw [if_neg hne]; exact VH.fullj hv d s i hdn hs hi
  ·
   show (if d=d0 then none else f t)≠none
   rw [if_neg hne]; exact VH.fulls hv d t hdn ht
end
end Go.Proofs.YtkipjmbplmdaaaaGreatDoor
namespace Go.Proofs.YtkipjmbplmdaaaaGreatDoor
set_option linter.unusedVariables false
section
variable {R:Rck} {c:Cfg} {m:Nat} {cur:Int} {j:Nat->Option Rcd} {f:Strs}
end
end Go.Proofs.YtkipjmbplmdaaaaGreatDoor
namespace Go.Proofs.YtkipjmbplmdaaaaGreatDoor
set_option linter.unusedVariables false
open Go.Proofs.YtkipjmbplmdaaaaGreatDoor.GT (cnt Played Opened Shut)
theorem parts_none {g:Nat->Option Frm} {G:Int}:∀ n,(∀ d,d < n->g d=none)->partsG g G n=[]
 | 0,_=>by simp [partsG]
 | n+1,h=>by
  rw [Zbl,parts_none n fun d hd=>h d (by omega)]
  have e:partAt g G n=none:=by unfold partAt; rw [h n (by omega)]; rfl
  rw [e]; rfl
section
variable {R:Rck} {c:Cfg} {m:Nat} {U sp:Nat->Bool} {jr:JR} {st:ST} {cur:Int} {j:Nat->Option Rcd} {f:Strs} {L:List (List (List Nat))} {x q:Nat}
end
end Go.Proofs.YtkipjmbplmdaaaaGreatDoor
namespace Go.Proofs.YtkipjmbplmdaaaaGreatDoor
set_option linter.unusedVariables false
section
variable {R:Rck} {c:Cfg} {m:Nat} {cur:Int} {j:Nat->Option Rcd} {f:Strs} {U sp:Nat->Bool} {jr:JR} {st:ST}
theorem MWhole.keep {G:Nat} (h:MWhole c j f U sp jr st G) (g:Nat):MWhole c j f U (MS.spG U sp g) (MS.jrG c j U jr g) (MS.stG c f U st g) G:=by
 refine ⟨fun hG d hd hu=>?_,fun s hs hsg d i hd hu=>?_,fun t ht htg d hd hu=>?_⟩
 ·
  unfold MS.spG
  by_cases e:g=0
  ·
   rw [if_pos e]; exact hu
  ·
   rw [if_neg e]; exact h.sup hG d hd hu
 ·
  unfold MS.jrG
  by_cases e:1<=g/\g<=c.slots.toNat/\s=g - 1
  ·
   rw [if_pos e,if_pos hu]
  ·
   rw [if_neg e]; exact h.slot s hs hsg d i hd hu
 ·
  unfold MS.stG
  by_cases e:c.slots.toNat < g/\t=g - 1 - c.slots.toNat
  ·
   rw [if_pos e,if_pos hu]
  ·
   rw [if_neg e]; exact h.str t ht htg d hd hu
structure MAll (R:Rck) (c:Cfg) (m:Nat) (j:Nat->Option Rcd) (f:Strs) (d0 i:Nat):Prop where
 ex:∃ U sp jr st,MS R c m j f U sp jr st/\Miss c j f U sp jr st d0 i/\MWhole c j f U sp jr st i
structure MIdle (R:Rck) (c:Cfg) (m:Nat) (j:Nat->Option Rcd) (f:Strs):Prop where
 ex:∃ U sp jr st,MS R c m j f U sp jr st/\MWhole c j f U sp jr st (1+c.slots.toNat+c.stripes.toNat)
theorem VH.mall (h:VH R c m true j f) (hv:VI c cur j f) {d0:Nat} (hd:d0 < c.n.toNat) (hk:c.k < c.n):MAll (R.replace (d0:Nat)) c m j f d0 0:=by
 obtain ⟨U,sp,jr,st,h1,h2⟩:=h.replaced hv hd hk
 exact ⟨U,sp,jr,st,h1,h2,MWhole.zero⟩
theorem VH.midle (h:VH R c m true j f) (hv:VI c cur j f) {d0:Nat} (hd:d0 < c.n.toNat) (hk:c.k < c.n):MIdle (R.die (d0:Nat)) c m j f:=by
 obtain ⟨U,sp,jr,st,h1,h2⟩:=h.died hv hd hk (1+c.slots.toNat+c.stripes.toNat)
 exact ⟨U,sp,jr,st,h1,h2⟩
theorem MAll.tick {d0 g:Nat} (h:MAll R c m j f d0 g) (hv:VI c cur j f) (k4:c.k<=4) (n6:c.n<=6) (hd:d0 < c.n.toNat) (hg:(g:Int) < c.groups) :
  ∃ R',Vol.tick ⟨c,cur,false⟩ R (g:Int)=⟨if 1<=g/\g<=c.slots.toNat then c.k.toNat else 1,none,R',⟨c,cur,false⟩,((g:Int)+1) % c.groups⟩/\MAll R' c m j f d0 (g+1):=by
 obtain ⟨U,sp,jr,st,h1,h2,h3⟩:=h.ex
 have hsl:=h1.gt.good.sl0
 have hst:=h1.gt.good.st0
 have hg':g < 1+c.slots.toNat+c.stripes.toNat:=by unfold Cfg.groups at hg; omega
 obtain ⟨R',e,h4⟩:=h1.tick k4 n6 hg cur
 rw [h2.lack hd (fun s hs q=>VH.fullj hv 0 s 0 (by omega) hs (by have:=h1.gt.good.k0; omega) q) (fun t ht q=>VH.fulls hv 0 t (by omega) ht q) hg'] at e
 exact ⟨R',e,_,_,_,_,h4,h2.step hd,h3.step⟩
theorem MAll.vh {d0:Nat} (h:MAll R c m j f d0 (1+c.slots.toNat+c.stripes.toNat)) (hm:(m:Int)=c.sectors):VH R c m true j f:=by
 obtain ⟨U,sp,jr,st,h1,h2,h3⟩:=h.ex
 exact h1.vh hm h3 h2.up
theorem MIdle.tick {g:Nat} (h:MIdle R c m j f) (hv:VI c cur j f) (k4:c.k<=4) (n6:c.n<=6) (hg:(g:Int) < c.groups) :
  ∃ R',Vol.tick ⟨c,cur,false⟩ R (g:Int)=⟨0,none,R',⟨c,cur,false⟩,((g:Int)+1) % c.groups⟩/\MIdle R' c m j f:=by
 obtain ⟨U,sp,jr,st,h1,h3⟩:=h.ex
 have hsl:=h1.gt.good.sl0
 have hst:=h1.gt.good.st0
 have hk0:=h1.gt.k0
 have hn0:=h1.gt.n0
 have hg':g < 1+c.slots.toNat+c.stripes.toNat:=by unfold Cfg.groups at hg; omega
 obtain ⟨R',e,h4⟩:=h1.tick k4 n6 hg cur
 rw [h3.idle (fun s hs q=>VH.fullj hv 0 s 0 hn0 hs hk0 q) (fun t ht q=>VH.fulls hv 0 t hn0 ht q) hg'] at e
 exact ⟨R',e,_,_,_,_,h4,h3.keep g⟩
theorem MIdle.read (h:MIdle R c m j f) (k4:c.k<=4) (n6:c.n<=6) (cur:Int) {t:Nat} (ht:t < c.stripes.toNat) {gen:Int} {l:List (List Nat)} (hf:f t=some (gen,l)):Vol.read ⟨c,cur,false⟩ R (t:Int)=(l,gen,none):=by
 obtain ⟨U,sp,jr,st,h1,h3⟩:=h.ex
 exact Vol.read_of (h1.sget k4 n6 ht hf) cur
end
namespace Runs13
def c:Cfg:=⟨9,1,2,2,1⟩
def a:List (List Nat):=blocksOf 1 4
theorem good:c.Good:=(Cfg.right_iff c).1 (by decide)
theorem a_bl:Cd.Blocks 1 108 a:=blocksOf_Blocks 1 4
def A (R:Rck) (i:Nat):Prop:=∃ j f,VI c 2 j f/\f 1=some (2,a)/\MAll R c 4 j f 0 i
def B (R:Rck):Prop:=∃ j f,VI c 2 j f/\f 1=some (2,a)/\MIdle R c 4 j f
theorem start:∃ R1 R2 R3,(Rck.new 2 4).vmake c=(none,R1)/\R1.vopen=(none,R2,c,1)/\Vol.commit ⟨c,1,false⟩ R2 1 a=(none,R3,⟨c,2,false⟩)/\A (R3.replace 0) 0:=by
 obtain ⟨R1,R2,e1,e2,h2,v2⟩:=VH.start good (by decide) (by decide) (m:=4) (by decide)
 obtain ⟨s,R3,e3,h3,v3⟩:=h2.commit_on (VI.new good) (by decide) (by decide) (by decide) (by decide) (s:=1) (by decide) (l:=a) a_bl
 exact ⟨R1,R2,R3,e1,e2,e3,_,_,v3,if_pos rfl,h3.mall v3 (d0:=0) (by decide) (by decide)⟩
theorem A.tick {R:Rck} {i:Nat} (h:A R i) (hi:i < 4):∃ R',Vol.tick ⟨c,2,false⟩ R (i:Int)=⟨1,none,R',⟨c,2,false⟩,((i:Int)+1) % c.groups⟩/\A R' (i+1):=by
 obtain ⟨j,f,hv,hf,h⟩:=h
 obtain ⟨R',e,h2⟩:=h.tick hv (by decide) (by decide) (by decide) (g:=i) (by show (i:Int) < 4; omega)
 rw [show (if 1<=i/\i<=c.slots.toNat then c.k.toNat else 1)=1 by split<;>rfl] at e
 exact ⟨R',e,j,f,hv,hf,h2⟩
theorem A.die {R:Rck} (h:A R 4):B (R.die 1):=by
 obtain ⟨j,f,hv,hf,h⟩:=h
 exact ⟨j,f,hv,hf,(MAll.vh (d0:=0) h (by decide)).midle hv (d0:=1) (by decide) (by decide)⟩
theorem B.read {R:Rck} (h:B R):Vol.read ⟨c,2,false⟩ R 1=(a,2,none):=by
 obtain ⟨j,f,hv,hf,h⟩:=h
 exact h.read (by decide) (by decide) 2 (t:=1) (by decide) hf
theorem B.tick {R:Rck} {i:Nat} (h:B R) (hi:i < 4):∃ R',Vol.tick ⟨c,2,false⟩ R (i:Int)=⟨0,none,R',⟨c,2,false⟩,((i:Int)+1) % c.groups⟩/\B R':=by
 obtain ⟨j,f,hv,hf,h⟩:=h
 obtain ⟨R',e,h2⟩:=h.tick hv (by decide) (by decide) (g:=i) (by show (i:Int) < 4; omega)
 exact ⟨R',e,j,f,hv,hf,h2⟩
end Runs13
end Go.Proofs.YtkipjmbplmdaaaaGreatDoor
