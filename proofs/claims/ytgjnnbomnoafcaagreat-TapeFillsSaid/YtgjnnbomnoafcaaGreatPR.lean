/- Texts of one proof, joined: VolPure, VolMem, RecSort, RecSortB, RecSortC. -/
import Derived.Test.YtgjnnbomnoafcaaGreatPL
import Derived.Test.YtgjnnbomnoafcaaGreatPH
import Derived.Test.YtgjnnbomnoafcaaGreatPF
import Derived.Test.YtgjnnbomnoafcaaGreatPQ
import Derived.Test.YtgjnnbomnoafcaaGreatPJ
import Derived.Test.YtgjnnbomnoafcaaGreatPI
set_option linter.unusedVariables false
set_option linter.unusedSimpArgs false
namespace Go.Proofs.YtgjnnbomnoafcaaGreat
set_option linter.unusedVariables false
def sVMake:ByteArray:=⟨#[118,111,108,117,109,101,46,77,97,107,101]⟩
def sVOpen:ByteArray:=⟨#[118,111,108,117,109,101,46,79,112,101,110]⟩
def sVCommit:ByteArray:=⟨#[118,111,108,117,109,101,46,67,111,109,109,105,116]⟩
def sVRead:ByteArray:=⟨#[118,111,108,117,109,101,46,82,101,97,100]⟩
def thenE (p:Option Err × Rck) (f:Rck->Option Err × Rck):Option Err × Rck :=
 match p.1 with
 | some e=>(some e,p.2)
 | none=>f p.2
theorem Zba {p:Option Err × Rck} {f:Rck->Option Err × Rck} {R:Rck} (h:p=(none,R)):thenE p f=f R:=by subst h; rfl
theorem Zca {p:Option Err × Rck} {f:Rck->Option Err × Rck} {e:Err} {R:Rck} (h:p=(some e,R)):thenE p f=(some e,R):=by subst h; rfl
def zblks (k:Nat):List (List Nat):=List.replicate k (List.replicate 108 0)
def bub {α:Type} (key:α->Int):Nat->List α->List α
 | 0,l=>l
 | j+1,l=>match l[j]?,l[j+1]? with
  | some a,some b=>if key b < key a then bub key j ((l.set j b).set (j+1) a) else l
  | _,_=>l
def sortTo {α:Type} (key:α->Int) (n:Nat) (l:List α):List α:=(List.range n).foldl (fun l i=>bub key i l) l
def sortR (l:List Rcd):List Rcd:=sortTo Rcd.seq l.length l
theorem Zb2 {α:Type} (key:α->Int) (n:Nat) (l:List α):sortTo key (n+1) l=bub key n (sortTo key n l):=by
 unfold sortTo; rw [List.range_succ,List.foldl_append]; rfl
theorem bub_len {α:Type} (key:α->Int):∀ (j:Nat) (l:List α),(bub key j l).length=l.length
 | 0,l=>rfl
 | j+1,l=>by
  unfold bub
  split
  ·
   split
   ·
    rw [bub_len]; simp
   ·
    rfl
  ·
   rfl
theorem sortTo_len {α:Type} (key:α->Int) (n:Nat) (l:List α):(sortTo key n l).length=l.length:=by
 induction n with
 | zero=>rfl
 | succ n ih=>rw [Zb2,bub_len,ih]
theorem bub_map {α β:Type} (g:α->β) (key:α->Int) (key':β->Int) (h:∀ a,key' (g a)=key a):∀ (j:Nat) (l:List α),bub key' j (l.map g)=(bub key j l).map g
 | 0,l=>rfl
 | j+1,l=>by
  unfold bub
  rw [List.getElem?_map,List.getElem?_map]
  rcases l[j]? with _ | a<;>rcases l[j+1]? with _ | b<;>simp only [Option.map_none,Option.map_some]
  rw [h,h]
  split
  ·
   rw [<- bub_map g key key' h j,List.map_set,List.map_set]
  ·
   rfl
theorem sortTo_map {α β:Type} (g:α->β) (key:α->Int) (key':β->Int) (h:∀ a,key' (g a)=key a) (n:Nat) (l:List α):sortTo key' n (l.map g)=(sortTo key n l).map g:=by
 induction n with
 | zero=>rfl
 | succ n ih=>rw [Zb2,Zb2,ih,bub_map g key key' h]
structure VRec where
 err:Option Err
 R:Rck
 seq:Int
 out:List Rcd
namespace Rck
def vbare (R:Rck):Option Err × Rck :=
 thenE (each (fun R d=>R.write (d:Nat) 0 (List.replicate 128 0)) (List.range R.l.length) R) fun R=>each (fun R d=>R.flush (d:Nat)) (List.range R.l.length) R
def vblanks (c:Cfg) (n:Nat) (R:Rck):Option Err × Rck:=each (fun R s=>R.jblank c (s:Nat)) (List.range n) R
def vzeros (c:Cfg) (n:Nat) (R:Rck):Option Err × Rck:=each (fun R s=>R.sput c (s:Nat) 1 (zblks c.k.toNat)) (List.range n) R
def vsupers (c:Cfg) (n:Nat) (R:Rck):Option Err × Rck:=each (fun R d=>R.superPut c (d:Nat)) (List.range n) R
def vfilled (R:Rck) (c:Cfg):Option Err × Rck :=
 thenE (vblanks c c.slots.toNat R) fun R=>thenE (vzeros c c.stripes.toNat R) fun R=>vsupers c R.l.length R
def vmake (R:Rck) (c:Cfg):Option Err × Rck :=
 if R.fits c=true then
  if R.off=true\/(R.online.length:Int) < c.n then (some (.fault sVMake 0 (.no 7)),R)
  else ((thenE R.vbare fun R=>R.vfilled c).1.map (.fault sVMake 0),(thenE R.vbare fun R=>R.vfilled c).2)
 else (some (.fault sVMake 0 (.no 1)),R)
def vslot (R:Rck) (c:Cfg) (s:Int) (x:Rcd) (whole:Bool):Option Err × Rck :=
 if whole=false then R.jblank c s else if 1 < x.seq then R.jlog c x else (none,R)
def vrec (c:Cfg) (q:VRec) (s:Nat):VRec :=
 match q.err with
 | some _=>q
 | none=>match (q.R.jslot c s).2.2.2 with
  | some e=>⟨some e,q.R,q.seq,[]⟩
  | none =>
   match (q.R.vslot c s (q.R.jslot c s).1 (q.R.jslot c s).2.1).1 with
   | some e=>⟨some e,(q.R.vslot c s (q.R.jslot c s).1 (q.R.jslot c s).2.1).2,max q.seq (q.R.jslot c s).2.2.1,[]⟩
   | none=>⟨none,(q.R.vslot c s (q.R.jslot c s).1 (q.R.jslot c s).2.1).2,max q.seq (q.R.jslot c s).2.2.1,if (q.R.jslot c s).2.1=true/\1 < (q.R.jslot c s).1.seq then q.out++[(q.R.jslot c s).1] else q.out⟩
def vrecs (R:Rck) (c:Cfg) (seq:Int) (n:Nat):VRec:=(List.range n).foldl (vrec c) ⟨none,R,seq,[]⟩
theorem vrecs_succ (R:Rck) (c:Cfg) (seq:Int) (n:Nat):R.vrecs c seq (n+1)=vrec c (R.vrecs c seq n) n:=by
 unfold vrecs; rw [List.range_succ,List.foldl_append]; rfl
def vplay (c:Cfg) (R:Rck) (x:Rcd):Option Err × Rck:=if x.seq < (R.slook c x.stripe).1 then (none,R) else R.sput c x.stripe x.seq x.blocks
def vask (R:Rck) (c:Cfg) (seq:Int):Nat->Option Err × Int
 | 0=>(none,seq)
 | n+1=>match (R.vask c seq n).1 with
  | some e=>(some e,(R.vask c seq n).2)
  | none=>match (R.sget c n).2.2 with
   | some e=>(some e,(R.vask c seq n).2)
   | none=>(none,max (R.vask c seq n).2 (R.sget c n).2.1)
def vrecover (R:Rck) (c:Cfg) (seq:Int):Option Err × Rck × Int :=
 match (R.vrecs c seq c.slots.toNat).err with
 | some e=>(some e,(R.vrecs c seq c.slots.toNat).R,(R.vrecs c seq c.slots.toNat).seq)
 | none =>
  match (each (vplay c) (sortR (R.vrecs c seq c.slots.toNat).out) (R.vrecs c seq c.slots.toNat).R).1 with
  | some e=>(some e,(each (vplay c) (sortR (R.vrecs c seq c.slots.toNat).out) (R.vrecs c seq c.slots.toNat).R).2,(R.vrecs c seq c.slots.toNat).seq)
  | none=>(((each (vplay c) (sortR (R.vrecs c seq c.slots.toNat).out) (R.vrecs c seq c.slots.toNat).R).2.vask c (R.vrecs c seq c.slots.toNat).seq c.stripes.toNat).1,
    (each (vplay c) (sortR (R.vrecs c seq c.slots.toNat).out) (R.vrecs c seq c.slots.toNat).R).2,
    ((each (vplay c) (sortR (R.vrecs c seq c.slots.toNat).out) (R.vrecs c seq c.slots.toNat).R).2.vask c (R.vrecs c seq c.slots.toNat).seq c.stripes.toNat).2)
def vopen (R:Rck):Option Err × Rck × Cfg × Int :=
 if R.off=true then (some (.fault sVOpen 0 (.no 5)),R,Cfg.zero,0)
 else match R.superFind.2 with
  | some e=>(some (.fault sVOpen 0 e),R,Cfg.zero,0)
  | none =>
   if (R.online.length:Int) < R.superFind.1.k then (some (.fault sVOpen 0 (.no 7)),R,Cfg.zero,0)
   else match (R.vrecover R.superFind.1 1).1 with
    | some e=>(some (.fault sVOpen 0 e),(R.vrecover R.superFind.1 1).2.1,Cfg.zero,0)
    | none=>(none,(R.vrecover R.superFind.1 1).2.1,R.superFind.1,(R.vrecover R.superFind.1 1).2.2)
end Rck
structure Vol where
 c:Cfg
 seq:Int
 down:Bool
namespace Vol
def may (v:Vol) (R:Rck) (s:Int) (n:Nat):Option Err :=
 if s < 0\/v.c.stripes<=s\/(n:Int)≠v.c.k then some (.no 1)
 else if v.down=true\/R.off=true then some (.no 5)
 else if (R.online.length:Int) < v.c.k then some (.no 7)
 else if 1152921504606846976<=v.seq then some (.no 8)
 else (R.sget v.c s).2.2
def put (v:Vol) (R:Rck) (s:Int) (l:List (List Nat)):Option Err × Rck:=thenE (R.jlog v.c ⟨v.seq+1,s,l⟩) fun R=>R.sput v.c s (v.seq+1) l
def commit (v:Vol) (R:Rck) (s:Int) (l:List (List Nat)):Option Err × Rck × Vol :=
 match v.may R s l.length with
 | some e=>(some (.fault sVCommit s e),R,v)
 | none=>match (v.put R s l).1 with
  | some _=>(some (.fault sVCommit s (.no 5)),(v.put R s l).2,⟨v.c,v.seq+1,true⟩)
  | none=>(none,(v.put R s l).2,⟨v.c,v.seq+1,v.down⟩)
def read (v:Vol) (R:Rck) (s:Int):List (List Nat) × Int × Option Err :=
 if v.down=true then ([],0,some (.fault sVRead s (.no 5))) else ((R.sget v.c s).1,(R.sget v.c s).2.1,(R.sget v.c s).2.2.map (.fault sVRead s))
end Vol
open Go Go.RowKit
def Vol.A (v:Vol) (r:Nat):Array Value:=#[.pointer (some ⟨r,0,none⟩),.int .i64 v.c.id,.int .i64 v.c.k,.int .i64 v.c.n,.int .i64 v.c.stripes,.int .i64 v.c.slots,.int .i64 v.seq,.bool v.down]
def VolAt (w:World) (g r:Nat) (v:Vol):Prop:=w.heap[g]?=some (.cells (v.A r) 96 (0,0))
namespace VolAt
variable {w w':World} {g r:Nat} {v:Vol}
theorem ext (h:VolAt w g r v) (e:Ext w w'):VolAt w' g r v:=e.at h
theorem keep {S:Nat->Prop} (h:VolAt w g r v) (k:Keeps S w w') (hg:S g):VolAt w' g r v:=k.at h fun q=>q hg
theorem rack (h:VolAt w g r v):w.cell? ⟨g,0,none⟩=some (.pointer (some ⟨r,0,none⟩)):=(Zaf h).trans rfl
theorem ck (h:VolAt w g r v):w.cell? ⟨g,2,none⟩=some (.int .i64 v.c.k):=(Zaf h).trans rfl
theorem cst (h:VolAt w g r v):w.cell? ⟨g,4,none⟩=some (.int .i64 v.c.stripes):=(Zaf h).trans rfl
theorem csl (h:VolAt w g r v):w.cell? ⟨g,5,none⟩=some (.int .i64 v.c.slots):=(Zaf h).trans rfl
theorem seq (h:VolAt w g r v):w.cell? ⟨g,6,none⟩=some (.int .i64 v.seq):=(Zaf h).trans rfl
theorem down (h:VolAt w g r v):w.cell? ⟨g,7,none⟩=some (.bool v.down):=(Zaf h).trans rfl
theorem cfg (h:VolAt w g r v):∀ j u,(Cfg.A v.c).toList[j]?=some u->w.cell? ((⟨g,1,none⟩:Addr).add j)=some u:=by
 intro j u hu
 have e:(⟨g,1,none⟩:Addr).add j=⟨g,1+j,none⟩:=by unfold Addr.add; split<;>simp_all
 rw [e,Zaf h]
 rw [Cfg.A_def] at hu
 unfold Cfg.cl at hu
 rcases j with _ | _ | _ | _ | _ | j
 ·
  simpa [Vol.A] using hu
 ·
  simpa [Vol.A] using hu
 ·
  simpa [Vol.A] using hu
 ·
  simpa [Vol.A] using hu
 ·
  simpa [Vol.A] using hu
 ·
  simp at hu
theorem free (h:VolAt w g r v) (i:Nat):w.frozen? ⟨g,i,none⟩=false:=Za7 h
theorem setSeq (h:VolAt w g r v) (n:Int):VolAt (w.setCell ⟨g,6,none⟩ (.int .i64 n)) g r ⟨v.c,n,v.down⟩:=Zay h (i:=6) (.int .i64 n)
theorem setDown (h:VolAt w g r v) (b:Bool):VolAt (w.setCell ⟨g,7,none⟩ (.bool b)) g r ⟨v.c,v.seq,b⟩:=Zay h (i:=7) (.bool b)
end VolAt
end Go.Proofs.YtgjnnbomnoafcaaGreat
namespace Go.Proofs.YtgjnnbomnoafcaaGreat
set_option linter.unusedVariables false
open Go Go.RowKit
attribute [local irreducible] wpSQ
abbrev RecE:=Rcd × Option Addr × Nat
def RecE.A (e:RecE):Array Value:=e.1.V e.2.1 e.2.2
def RecE.key (e:RecE):Int:=e.1.seq
theorem RecE.A_size (e:RecE):e.A.size=3:=rfl
def RIn (w:World) (g:Nat) (es:List RecE):Prop:=∃ cur,w.heap[g]?=some (.cells cur 101 (0,0))/\cur.toList.take (es.length*3)=(es.map RecE.A).flatMap Array.toList/\es.length*3<=cur.size
theorem flat3 (es:List RecE):((es.map RecE.A).flatMap Array.toList).length=es.length*3:=by
 rw [flat_len (sz:=3) _ fun x hx=>by obtain ⟨e,_,rfl⟩:=List.mem_map.1 hx; rfl,List.length_map]
namespace RIn
variable {w w':World} {g:Nat} {es:List RecE}
theorem ext (h:RIn w g es) (e:Ext w w'):RIn w' g es:=by
 obtain ⟨cur,h1,h2,h3⟩:=h
 exact ⟨cur,e.at h1,h2,h3⟩
theorem load (h:RIn w g es) {j:Nat} {e:RecE} (hj:es[j]?=some e):∀ q u,e.A.toList[q]?=some u->w.cell? ((⟨g,j*3,none⟩:Addr).add q)=some u:=by
 obtain ⟨cur,h1,h2,h3⟩:=h
 intro q u hu
 have hq:q < 3:=by
  rcases Nat.lt_or_ge q 3 with z | z
  ·
   exact z
  ·
   rw [List.getElem?_eq_none (by rw [Array.length_toList,RecE.A_size]; exact z)] at hu; cases hu
 have hjl:j < es.length:=by
  rcases Nat.lt_or_ge j es.length with z | z
  ·
   exact z
  ·
   rw [List.getElem?_eq_none z] at hj; cases hj
 have e1:(⟨g,j*3,none⟩:Addr).add q=⟨g,j*3+q,none⟩:=by unfold Addr.add; split<;>simp_all
 rw [e1,Zaf h1,<- Array.getElem?_toList]
 have e2:cur.toList[j*3+q]?=(cur.toList.take (es.length*3))[j*3+q]?:=by
  rw [List.getElem?_take,if_pos (by omega)]
 rw [e2,h2,flat_get (sz:=3) _ (fun x hx=>by obtain ⟨e,_,rfl⟩:=List.mem_map.1 hx; rfl) j e.A (by rw [List.getElem?_map,hj]; rfl) q hq]
 exact hu
theorem flat_set (es:List RecE) (L:List Value) (hL:L.take (es.length*3)=(es.map RecE.A).flatMap Array.toList) {j:Nat} (hj:j < es.length) (e:RecE) :
  (L.take (j*3)++e.A.toList++L.drop (j*3+3)).take ((es.set j e).length*3)=((es.set j e).map RecE.A).flatMap Array.toList:=by
 have hd:L=(es.map RecE.A).flatMap Array.toList++L.drop (es.length*3):=by rw [<- hL,List.take_append_drop]
 have hs:es=es.take j++es[j]::es.drop (j+1):=by rw [<- List.drop_eq_getElem_cons hj,List.take_append_drop]
 generalize L.drop (es.length*3)=T at hd
 subst hd
 have hset:es.set j e=es.take j++e::es.drop (j+1):=List.set_eq_take_append_cons_drop.trans (if_pos hj)
 have hl:(es.set j e).length=es.length:=List.length_set
 rw [hl,hset]
 have hpl:(es.take j).length=j:=by rw [List.length_take]; omega
 have hfp:(((es.take j).map RecE.A).flatMap Array.toList).length=j*3:=by rw [flat3,hpl]
 have hfe:(es.map RecE.A).flatMap Array.toList=((es.take j).map RecE.A).flatMap Array.toList++(es[j].A.toList++((es.drop (j+1)).map RecE.A).flatMap Array.toList):=by
  conv=>lhs; rw [hs,List.map_append,List.map_cons,List.flatMap_append,List.flatMap_cons]
 have hff:((es.take j++e::es.drop (j+1)).map RecE.A).flatMap Array.toList=((es.take j).map RecE.A).flatMap Array.toList++(e.A.toList++((es.drop (j+1)).map RecE.A).flatMap Array.toList):=by
  rw [List.map_append,List.map_cons,List.flatMap_append,List.flatMap_cons]
 have hx3:∀ x:RecE,x.A.toList.length=3:=fun x=>rfl
 rw [hfe,hff]
 generalize hP:((es.take j).map RecE.A).flatMap Array.toList=P at *
 have hQl:(((es.drop (j+1)).map RecE.A).flatMap Array.toList).length=(es.length - (j+1))*3:=by rw [flat3,List.length_drop]
 generalize ((es.drop (j+1)).map RecE.A).flatMap Array.toList=Q at *
 have e1:(P++(es[j].A.toList++Q)++T).take (j*3)=P:=by
  rw [List.append_assoc,List.take_append_of_le_length (by omega),List.take_of_length_le (by omega)]
 have e2:(P++(es[j].A.toList++Q)++T).drop (j*3+3)=Q++T:=by
  rw [List.append_assoc,List.append_assoc,<- List.append_assoc P]
  rw [List.drop_append_of_le_length (by rw [List.length_append,hfp,hx3]; omega),List.drop_of_length_le (by rw [List.length_append,hfp,hx3]; omega),List.nil_append]
 rw [e1,e2,List.append_assoc,<- List.append_assoc e.A.toList,<- List.append_assoc P]
 rw [List.take_append_of_le_length (by simp only [List.length_append,hfp,hx3,hQl]; omega),List.take_of_length_le (by simp only [List.length_append,hfp,hx3,hQl]; omega)]
theorem store (h:RIn w g es) {j:Nat} (hj:j < es.length) (e:RecE):∃ cur,w.heap[g]?=some (.cells cur 101 (0,0))/\j*3+e.A.size<=cur.size/\RIn (w.setRow g (cur.toList.take (j*3)++e.A.toList++cur.toList.drop (j*3+e.A.size)).toArray) g (es.set j e):=by
 obtain ⟨cur,h1,h2,h3⟩:=h
 refine ⟨cur,h1,by rw [RecE.A_size]; omega,_,setRow_heap _ _ _ _ _ _ h1,?_,?_⟩
 ·
  exact flat_set es cur.toList h2 hj e
 ·
  rw [List.length_set]
  simp only [List.size_toArray,List.length_append,List.length_take,List.length_drop,Array.length_toList,RecE.A_size]
  omega
end RIn
theorem cmp_c (x y:RecE) (hx:0<=x.key/\x.key<=1152921504606846976) (hy:0<=y.key/\y.key<=1152921504606846976) (w:World) :
  Calls Tryz.prog 83 #[.agg x.A,.agg y.A] w fun e w'=>e=.returned (.int .i64 (x.key - y.key))/\Ext w w':=by
 obtain ⟨A,hA⟩:∃ A,x.A=A:=⟨_,rfl⟩
 obtain ⟨B,hB⟩:∃ B,y.A=B:=⟨_,rfl⟩
 have a0:A[0]?=some (.int .i64 x.key):=hA▸rfl
 have b0:B[0]?=some (.int .i64 y.key):=hB▸rfl
 rw [hA,hB]
 obtain ⟨hx0,hx1⟩:=hx
 obtain ⟨hy0,hy1⟩:=hy
 generalize x.key=kx at *
 generalize y.key=ky at *
 have e1:(w.alloc (.cells A 101)).heap.size=w.heap.size+1:=by simp
 have c1:((w.alloc (.cells A 101)).alloc (.cells B 101)).cell? ⟨w.heap.size,0,none⟩=some (.int .i64 kx):=by
  rw [World.cell?_alloc_lt _ _ _ (by simp)]
  exact (Zaf Zad).trans a0
 have c2:((w.alloc (.cells A 101)).alloc (.cells B 101)).cell? ⟨w.heap.size+1,0,none⟩=some (.int .i64 ky):=by
  rw [<- e1]
  exact (Zaf Zad).trans b0
 clear hA hB a0 b0 e1
 go_enter Tryz.func83,Tryz.ntmps83
 go_wp2
 go_ret
 exact ⟨rfl,((Ext.refl w).alloc _).alloc _⟩
end Go.Proofs.YtgjnnbomnoafcaaGreat
namespace Go.Proofs.YtgjnnbomnoafcaaGreat
set_option linter.unusedVariables false
open Go Go.RowKit
attribute [local irreducible] wpSQ
def SeqOk (l:List RecE):Prop:=∀ e∈l,0<=e.key/\e.key<=1152921504606846976
theorem SeqOk.set {l:List RecE} (h:SeqOk l) {e:RecE} (he:0<=e.key/\e.key<=1152921504606846976) (j:Nat):SeqOk (l.set j e):=fun x hx=>by
 rcases List.mem_or_eq_of_mem_set hx with q | q
 ·
  exact h x q
 ·
  rw [q]; exact he
set_option maxRecDepth 100000 in
set_option maxHeartbeats 2000000 in
theorem insort_c (es:List RecE) (n cap g:Nat) (hn:es.length=n) (h0:0 < n) (h12:n<=12) (hcap:n<=cap) (hs:SeqOk es) (w:World) (h:RIn w g es) :
  Calls Tryz.prog 106 #[.slice (some ⟨g,0,none⟩) n cap,.int .i64 0,.int .i64 n,.func (.func 83) #[] #[]] w
   fun e w'=>e=.returned (.tuple #[])/\RIn w' g (sortTo RecE.key n es)/\Only (fun b=>b=g) w w':=by
 have H:=hid h; have HS:=hid hs; have HN:=hid hn
 have n12:(n:Int)<=12:=by omega
 clear h hs hn
 go_enter Tryz.func106,Tryz.ntmps106
 go_wp2
 go_loopw [8] (fun t wr=>∃ i:Nat,t=.int .i64 i/\1<=i/\i<=n/\RIn wr g (sortTo RecE.key i es)/\SeqOk (sortTo RecE.key i es)/\Only (fun b=>b=g) w wr) (fun t _=>n - (intOf t).toNat)
 case atStart=>exact ⟨1,rfl,by omega,by omega,H.out,HS.out,Only.refl _ _⟩
 case round =>
  obtain ⟨i,rfl,hi1,hi,hr,hsq,ho⟩:=hrel
  have HR:=hid hr; have HSQ:=hid hsq; have HO:=hid ho
  clear hr hsq ho
  by_cases hlt:i < n
  ·
   have hlt':(i:Int) < (n:Int):=by omega
   have HLI:=hid (show (sortTo RecE.key i es).length=n by rw [sortTo_len]; exact HN.out)
   have HST:=hid (Zb2 RecE.key i es)
   generalize sortTo RecE.key i es=li at *
   go_wp2
   go_loopw [9] (fun t wq=>∃ (j:Nat) (l:List RecE),t=.int .i64 j/\j<=i/\l.length=n/\bub RecE.key j l=bub RecE.key i li/\RIn wq g l/\SeqOk l/\Only (fun b=>b=g) w wq) (fun t _=>(intOf t).toNat)
   case atStart=>exact ⟨i,li,rfl,Nat.le_refl _,HLI.out,rfl,HR.out,HSQ.out,HO.out⟩
   case round =>
    clear HR HSQ HO HLI
    obtain ⟨j,l,rfl,hj,hl,hb,hr,hsq,ho⟩:=hrel
    have HR:=hid hr; have HSQ:=hid hsq; have HO:=hid ho; have HL:=hid hl; have HB:=hid hb
    clear hr hsq ho hl hb
    have xd:Ext wr wr.drew:=(Ext.refl wr).drew
    have HXD:=hid xd
    rcases j with _ | q
    ·
     have HDONE:=hid (show l=bub RecE.key i li from HB.out)
     rw [show ((0:Nat):Int)=0 from rfl]
     go_wp2_with fail
     refine Zal (S:=Ext) (.fin [0,1,2,3,4,5,6,7,8,9,10,11,12,13,14,15,16]) (by kernel_rfl) (by kernel_rfl) (fun _ _ d _ _ h=>by cases d<;>exact h) ?_
     rw [wpS]
     simp only [opsAt,opA,opB,opC,opD,opE,opF,opG]
     iterate 4 ((refine Zab (fun K hK=>?_); go_simp; refine hK _ ?_; clear hK K))
     iterate 12 (refine wpSQ_pass rfl (fun K hK=>?_); go_simp; refine hK _ ?_; clear hK K)
     (refine Zab (fun K hK=>?_); go_simp; refine hK _ ?_; clear hK K)
     refine Zae ?_
     intro V hV
     have HR2:=hid (show RIn V g (sortTo RecE.key (i+1) es) from by rw [HST.out,<- HDONE.out]; exact HR.out.ext (Ext.trans HXD.out hV))
     have HS2:=hid (show SeqOk (sortTo RecE.key (i+1) es) from by rw [HST.out,<- HDONE.out]; exact HSQ.out)
     have HO2:=hid (Only.ext HO.out (Ext.trans HXD.out hV))
     clear hV xd
     go_wp2
     go_roundw
     case rel=>exact ⟨i+1,by go_num,by omega,by omega,HR2.out,HS2.out,HO2.out⟩
     case measure=>simp [intOf]; omega
    ·
     obtain ⟨p,hp⟩:∃ p,q+1=p:=⟨_,rfl⟩
     rw [hp]
     have hpn:p < n:=by omega
     have p0:(0:Int) < (p:Int):=by omega
     have pn0:0 < p:=by omega
     have p1:(p:Int) < (n:Int):=by omega
     have p2:(0:Int)<=(p:Int):=by omega
     have q1:(q:Int) < (n:Int):=by omega
     have q2:(0:Int)<=(q:Int):=by omega
     have hw1:wrap64 ((p:Int) - 1)=(q:Int):=by unfold wrap64; omega
     have hw2:IntKind.i64.wrap ((p:Int) - 1)=(q:Int):=by rw [IntKind.wrap_i64]; omega
     obtain ⟨x,hx⟩:∃ x,l[q]?=some x:=⟨l[q]'(by rw [HL.out]; omega),List.getElem?_eq_getElem _⟩
     obtain ⟨y,hy⟩:∃ y,l[p]?=some y:=⟨l[p]'(by rw [HL.out]; omega),List.getElem?_eq_getElem _⟩
     have HX:=hid (HSQ.out x (List.mem_of_getElem? hx))
     have HY:=hid (HSQ.out y (List.mem_of_getElem? hy))
     have lx:Hid (∀ z:SW Ext wr.drew,∀ k u,x.A.toList[k]?=some u->z.w.cell? ((⟨g,q*3,none⟩:Addr).add k)=some u):=hid fun z=>(HR.out.ext (Ext.trans xd z.ext)).load hx
     have ly:Hid (∀ z:SW Ext wr.drew,∀ k u,y.A.toList[k]?=some u->z.w.cell? ((⟨g,p*3,none⟩:Addr).add k)=some u):=hid fun z=>(HR.out.ext (Ext.trans xd z.ext)).load hy
     have cc:Hid (∀ z:SW Ext wr.drew,Calls Tryz.prog 83 #[.agg y.A,.agg x.A] z.w fun e w''=>e=.returned (.int .i64 (y.key - x.key))/\Ext z.w w''):=hid fun z=>cmp_c y x HY.out HX.out z.w
     have HAX:=hid (show AggType Tryz.prog 101 x.A.size from Za6 _ _ _)
     have HAY:=hid (show AggType Tryz.prog 101 y.A.size from Za6 _ _ _)
     have HBE:=hid (show bub RecE.key (q+1) l=if y.key < x.key then bub RecE.key q ((l.set q y).set (q+1) x) else l from by
      conv=>lhs; unfold bub
      rw [hx,hp,hy])
     have HP:=hid hp
     have HHX:=hid hx; have HHY:=hid hy
     obtain ⟨Ax,hAx⟩:∃ A,x.A=A:=⟨_,rfl⟩
     obtain ⟨Ay,hAy⟩:∃ A,y.A=A:=⟨_,rfl⟩
     have HAXE:=hid hAx; have HAYE:=hid hAy
     rw [hAx] at lx cc HAX
     rw [hAy] at ly cc HAY
     obtain ⟨kx,hkx⟩:∃ k,x.key=k:=⟨_,rfl⟩
     obtain ⟨ky,hky⟩:∃ k,y.key=k:=⟨_,rfl⟩
     rw [hkx,hky] at cc HBE
     clear hp hx hy hAx hAy hkx hky xd
     by_cases hlk:ky < kx
     ·
      have hk0:ky - kx < 0:=by omega
      have HB2:=hid (show bub RecE.key q ((l.set q y).set p x)=bub RecE.key i li from by
       rw [<- HB.out,HBE.out,if_pos hlk,HP.out])
      have HAX1:=hid (show ∀ v∈Ax.toList,v.oneCell'=true from HAXE.out▸V_one _ _ _)
      have HAY1:=hid (show ∀ v∈Ay.toList,v.oneCell'=true from HAYE.out▸V_one _ _ _)
      go_wp2_with fail
      refine Zal (S:=Ext) (.fin [0,1,2,3,4,5,6,7,8,9,10,11,12,13,14,15,16]) (by kernel_rfl) (by kernel_rfl) (fun _ _ d _ _ h=>by cases d<;>exact h) ?_
      rw [wpS]
      simp only [opsAt,opA,opB,opC,opD,opE,opF,opG]
      iterate 8 ((refine Zab (fun K hK=>?_); go_simp; refine hK _ ?_; clear hK K))
      refine Zam 101 _ rfl ⟨g,p*3,none⟩ rfl Ay rfl HAY.out ly.out ?_
      iterate 4 ((refine Zab (fun K hK=>?_); go_simp; refine hK _ ?_; clear hK K))
      refine Zam 101 _ rfl ⟨g,q*3,none⟩ rfl Ax rfl HAX.out lx.out ?_
      (refine Zab (fun K hK=>?_); go_simp; (apply Exists.intro; refine ⟨fun x=>?_,hK _ ?_⟩; (exact cc.out x); clear hK K))
      iterate 2 ((refine Zab (fun K hK=>?_); go_simp; refine hK _ ?_; clear hK K))
      refine Zae ?_
      intro V hV
      have HRV:=hid (HR.out.ext (Ext.trans HXD.out hV))
      have HOV:=hid (Only.ext HO.out (Ext.trans HXD.out hV))
      clear hV lx ly cc
      have xd:Ext V V.drew:=(Ext.refl V).drew
      have HXD2:=hid xd
      have lx:Hid (∀ z:SW Ext V.drew,∀ k u,Ax.toList[k]?=some u->z.w.cell? ((⟨g,q*3,none⟩:Addr).add k)=some u):=hid fun z=>HAXE.out▸(HRV.out.ext (Ext.trans xd z.ext)).load HHX.out
      have ly:Hid (∀ z:SW Ext V.drew,∀ k u,Ay.toList[k]?=some u->z.w.cell? ((⟨g,p*3,none⟩:Addr).add k)=some u):=hid fun z=>HAYE.out▸(HRV.out.ext (Ext.trans xd z.ext)).load HHY.out
      clear xd
      go_wp2_with fail
      refine Zbr (E:=Ext) (S:=Only fun b=>b=g) (fun i=>i == 15 || i == 17) [0,1,2,3,4,5,6,7,8,10,11,12] [9,13] (.one [14] 15 (.one [16] 17 (.fin []))) (by kernel_rfl) (by kernel_rfl) (fun _ _ d _ _ h=>by cases d<;>exact h) ?_
      simp only [opsAt,opA,opB,opC,opD,opE,opF,opG]
      iterate 12 ((refine Zab (fun K hK=>?_); go_simp; refine hK _ ?_; clear hK K))
      refine Zae ?_
      refine Zam 101 _ rfl ⟨g,q*3,none⟩ rfl Ax rfl HAX.out lx.out ?_
      refine Zam 101 _ rfl ⟨g,p*3,none⟩ rfl Ay rfl HAY.out ly.out ?_
      refine Zae ?_
      intro V0 hV0
      rw [wpU]
      simp only [opsAt,opA,opB,opC,opD,opE,opF,opG]
      (refine Zab (fun K hK=>?_); go_simp; refine hK _ ?_; clear hK K)
      refine Zae ?_
      intro U1 hU1
      have HX1:=hid (Ext.trans HXD2.out (Ext.trans hV0 hU1))
      have HR1:=hid (HRV.out.ext HX1.out)
      obtain ⟨cur,hc1,hc2,hc3⟩:=HR1.out.store (j:=p) (by rw [HL.out]; exact hpn) x
      rw [HAXE.out] at hc2 hc3
      have HC1:=hid hc1; have HC2:=hid hc2; have HC3:=hid hc3
      clear lx ly hV0 hU1 hc1 hc2 hc3
      refine Zbw fun K hK=>?_
      go_wp2_with (refine Zbk rfl 101 _ _ rfl g (p*3) rfl Ax cur rfl 101 HAX.out HC1.out HC2.out HAX1.out ?_)
      refine hK _ _ (Zag _ _ _) ?_
      clear hK K
      obtain ⟨U2,hU2⟩:∃ U,U1.setRow g (cur.toList.take (p*3)++Ax.toList++cur.toList.drop (p*3+Ax.size)).toArray=U:=⟨_,rfl⟩
      have HR2:=hid (hU2▸HC3.out)
      have HO2:=hid (show Only (fun b=>b=g) V U2 from hU2▸Only.trans (Ext.only HX1.out) (Zag _ _ _) fun _ _ h=>h)
      rw [hU2]
      clear hU2 HC1 HC2 HC3
      rw [wpU]
      simp only [opsAt,opA,opB,opC,opD,opE,opF,opG]
      (refine Zab (fun K hK=>?_); go_simp; refine hK _ ?_; clear hK K)
      refine Zae ?_
      intro U3 hU3
      have HR3:=hid (HR2.out.ext hU3)
      have HO3:=hid (Only.ext HO2.out hU3)
      obtain ⟨cur,hc1,hc2,hc3⟩:=HR3.out.store (j:=q) (by rw [List.length_set,HL.out]; omega) y
      rw [HAYE.out] at hc2 hc3
      have HC1:=hid hc1; have HC2:=hid hc2; have HC3:=hid hc3
      clear hU3 hc1 hc2 hc3
      refine Zbw fun K hK=>?_
      go_wp2_with (refine Zbk rfl 101 _ _ rfl g (q*3) rfl Ay cur rfl 101 HAY.out HC1.out HC2.out HAY1.out ?_)
      refine hK _ _ (Zag _ _ _) ?_
      clear hK K
      obtain ⟨U4,hU4⟩:∃ U,U3.setRow g (cur.toList.take (q*3)++Ay.toList++cur.toList.drop (q*3+Ay.size)).toArray=U:=⟨_,rfl⟩
      have HR4:=hid (hU4▸HC3.out)
      have HO4:=hid (show Only (fun b=>b=g) V U4 from hU4▸Only.trans HO3.out (Zag _ _ _) fun _ _ h=>h)
      rw [hU4]
      clear hU4 HC1 HC2 HC3
      rw [wpU]
      simp only [opsAt,List.map_nil]
      refine Zae ?_
      intro U5 hU5
      have HSW:=hid (show (l.set p x).set q y=(l.set q y).set p x from List.set_comm _ _ (by have:=HP.out; omega))
      have HR5:=hid (show RIn U5 g ((l.set q y).set p x) from by rw [<- HSW.out]; exact HR4.out.ext hU5)
      have HO5:=hid (show Only (fun b=>b=g) w U5 from Only.ext (Only.trans HOV.out HO4.out fun _ _ h=>h) hU5)
      have HS5:=hid ((HSQ.out.set HY.out q).set HX.out p)
      have HL5:=hid (show ((l.set q y).set p x).length=n by rw [List.length_set,List.length_set]; exact HL.out)
      clear hU5
      go_wp2
      go_roundw
      case rel=>exact ⟨q,(l.set q y).set p x,by go_num,by omega,HL5.out,HB2.out,HR5.out,HS5.out,HO5.out⟩
      case measure=>(have:=HP.out; simp [intOf]; omega)
     ·
      have hk0:¬ky - kx < 0:=by omega
      have HDONE:=hid (show l=bub RecE.key i li from by rw [<- HB.out,HBE.out,if_neg hlk])
      go_wp2_with fail
      refine Zal (S:=Ext) (.fin [0,1,2,3,4,5,6,7,8,9,10,11,12,13,14,15,16]) (by kernel_rfl) (by kernel_rfl) (fun _ _ d _ _ h=>by cases d<;>exact h) ?_
      rw [wpS]
      simp only [opsAt,opA,opB,opC,opD,opE,opF,opG]
      iterate 8 ((refine Zab (fun K hK=>?_); go_simp; refine hK _ ?_; clear hK K))
      refine Zam 101 _ rfl ⟨g,p*3,none⟩ rfl Ay rfl HAY.out ly.out ?_
      iterate 4 ((refine Zab (fun K hK=>?_); go_simp; refine hK _ ?_; clear hK K))
      refine Zam 101 _ rfl ⟨g,q*3,none⟩ rfl Ax rfl HAX.out lx.out ?_
      (refine Zab (fun K hK=>?_); go_simp; (apply Exists.intro; refine ⟨fun x=>?_,hK _ ?_⟩; (exact cc.out x); clear hK K))
      iterate 2 ((refine Zab (fun K hK=>?_); go_simp; refine hK _ ?_; clear hK K))
      refine Zae ?_
      intro V hV
      have HR2:=hid (show RIn V g (sortTo RecE.key (i+1) es) from by rw [HST.out,<- HDONE.out]; exact HR.out.ext (Ext.trans HXD.out hV))
      have HS2:=hid (show SeqOk (sortTo RecE.key (i+1) es) from by rw [HST.out,<- HDONE.out]; exact HSQ.out)
      have HO2:=hid (Only.ext HO.out (Ext.trans HXD.out hV))
      clear hV lx ly cc
      go_wp2
      go_roundw
      case rel=>exact ⟨i+1,by go_num,by omega,by omega,HR2.out,HS2.out,HO2.out⟩
      case measure=>simp [intOf]; omega
  ·
   obtain rfl:n=i:=by omega
   go_wp2
   go_end0
   exact ⟨rfl,HR.out,HO.out⟩
end Go.Proofs.YtgjnnbomnoafcaaGreat
namespace Go.Proofs.YtgjnnbomnoafcaaGreat
set_option linter.unusedVariables false
open Go Go.RowKit
set_option maxRecDepth 100000 in
set_option maxHeartbeats 1000000 in
theorem bitslen_c (n:Nat) (h:n<=4) (w:World):Calls Tryz.prog 98 #[.int .u64 n] w fun e w'=>(∃ x:Int,e=.returned (.int .i64 x))/\w=w':=by
 have hc:n=0\/n=1\/n=2\/n=3\/n=4:=by omega
 clear h
 rcases hc with rfl | rfl | rfl | rfl | rfl
 ·
  rw [show ((0:Nat):Int)=0 from rfl]
  go_enter Tryz.func98,Tryz.ntmps98
  go_wp2
  go_ret
  exact ⟨⟨_,rfl⟩,rfl⟩
 ·
  rw [show ((1:Nat):Int)=1 from rfl]
  go_enter Tryz.func98,Tryz.ntmps98
  go_wp2
  go_ret
  exact ⟨⟨_,rfl⟩,rfl⟩
 ·
  rw [show ((2:Nat):Int)=2 from rfl]
  go_enter Tryz.func98,Tryz.ntmps98
  go_wp2
  go_ret
  exact ⟨⟨_,rfl⟩,rfl⟩
 ·
  rw [show ((3:Nat):Int)=3 from rfl]
  go_enter Tryz.func98,Tryz.ntmps98
  go_wp2
  go_ret
  exact ⟨⟨_,rfl⟩,rfl⟩
 ·
  rw [show ((4:Nat):Int)=4 from rfl]
  go_enter Tryz.func98,Tryz.ntmps98
  go_wp2
  go_ret
  exact ⟨⟨_,rfl⟩,rfl⟩
def SortPost (g n cap:Nat) (v:Option Addr) (es:List RecE) (w:World) (e:Ending) (w':World):Prop:=e=.returned (.tuple #[])/\(0 < n->RIn w' g (sortTo RecE.key n es))/\Only (fun b=>0 < n/\b=g) w w'
set_option maxRecDepth 100000 in
theorem insort0_c (a:Option Addr) (cap:Nat) (f:Value) (w:World):Calls Tryz.prog 106 #[.slice a 0 cap,.int .i64 0,.int .i64 0,f] w fun e w'=>e=.returned (.tuple #[])/\w=w':=by
 go_enter Tryz.func106,Tryz.ntmps106
 go_wp2
 go_loopw [8] (fun t wr=>t=.int .i64 1/\wr=w) (fun _ _=>0)
 case atStart=>exact ⟨rfl,rfl⟩
 case round =>
  obtain ⟨rfl,rfl⟩:=hrel
  go_wp2
  go_end0
  exact ⟨rfl,rfl⟩
theorem insortN_c (es:List RecE) (n cap g:Nat) (a:Option Addr) (hn:es.length=n) (h12:n<=12) (hcap:n<=cap) (ha:0 < n->a=some ⟨g,0,none⟩) (hs:SeqOk es) (w:World) (h:0 < n->RIn w g es) :
  Calls Tryz.prog 106 #[.slice a n cap,.int .i64 0,.int .i64 n,.func (.func 83) #[] #[]] w (SortPost g n cap a es w):=by
 rcases Nat.eq_zero_or_pos n with h0 | h0
 ·
  subst h0
  refine (insort0_c a cap _ w).mono ?_
  rintro e w' ⟨h1,rfl⟩
  exact ⟨h1,fun q=>by omega,Only.refl _ _⟩
 ·
  obtain rfl:=ha h0
  refine (insort_c es n cap g hn h0 h12 hcap hs w (h h0)).mono ?_
  rintro e w' ⟨h1,h2,h3⟩
  exact ⟨h1,fun _=>h2,h3.mono fun b _ hb=>⟨h0,hb⟩⟩
set_option maxRecDepth 100000 in
set_option maxHeartbeats 1000000 in
theorem pdq_c (es:List RecE) (n cap g:Nat) (a:Option Addr) (hn:es.length=n) (h12:n<=12) (hcap:n<=cap) (ha:0 < n->a=some ⟨g,0,none⟩) (hs:SeqOk es) (x:Int) (w:World) (h:0 < n->RIn w g es) :
  Calls Tryz.prog 97 #[.slice a n cap,.int .i64 0,.int .i64 n,.int .i64 x,.func (.func 83) #[] #[]] w (SortPost g n cap a es w):=by
 have HI:=hid (insortN_c es n cap g a hn h12 hcap ha hs w h)
 have n12:(n:Int)<=12:=by omega
 have n0:(0:Int)<=(n:Int):=by omega
 have nn12:n<=12:=h12
 clear hn hcap ha hs h h12
 go_enter Tryz.func97,Tryz.ntmps97
 go_wp2
 go_loopw [1,2] (fun p q wr=>p=.int .i64 0/\q=.int .i64 n/\wr=w) (fun _ _ _=>0)
 case atStart=>exact ⟨rfl,rfl,rfl⟩
 case round =>
  obtain ⟨rfl,rfl,rfl⟩:=hrel
  go_wp2_with fail
  refine HI.out.mono ?_
  rintro e w' ⟨rfl,h2,h3⟩
  have H2:=hid h2; have H3:=hid h3
  clear h2 h3
  go_wp2
  go_end0
  exact ⟨rfl,H2.out,H3.out⟩
set_option maxRecDepth 100000 in
set_option maxHeartbeats 1000000 in
theorem sortrecs_c (es:List RecE) (n cap g:Nat) (a:Option Addr) (hn:es.length=n) (h4:n<=4) (hcap:n<=cap) (ha:0 < n->a=some ⟨g,0,none⟩) (hs:SeqOk es) (w:World) (h:0 < n->RIn w g es) :
  Calls Tryz.prog 82 #[.slice a n cap,.func (.func 83) #[] #[]] w (SortPost g n cap a es w):=by
 have HI:=hid (fun x=>pdq_c es n cap g a hn (by omega) hcap ha hs x w h)
 have HL:=hid (bitslen_c n h4 w)
 have n4:(n:Int)<=4:=by omega
 have n0:(0:Int)<=(n:Int):=by omega
 clear hn hcap ha hs h
 go_enter Tryz.func82,Tryz.ntmps82
 go_wp2_with fail
 refine HL.out.mono ?_
 rintro e w1 ⟨⟨x,rfl⟩,rfl⟩
 go_wp2_with fail
 refine (HI.out x).mono ?_
 rintro e w' ⟨rfl,h2,h3⟩
 have H2:=hid h2; have H3:=hid h3
 clear h2 h3
 go_wp2
 go_end0
 exact ⟨rfl,H2.out,H3.out⟩
end Go.Proofs.YtgjnnbomnoafcaaGreat
