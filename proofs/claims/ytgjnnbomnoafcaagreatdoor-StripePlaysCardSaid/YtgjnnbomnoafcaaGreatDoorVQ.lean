/- Texts of one proof, joined: JourPure, OwnVs, VsAdd, Blks, JourA, JourB, JourC, PutT, JourD, JourE. -/
import Derived.Test.YtgjnnbomnoafcaaGreatDoorVH
import Derived.Test.YtgjnnbomnoafcaaGreatDoorVA
import Derived.Test.YtgjnnbomnoafcaaGreatDoorProg
import Derived.Maps.AppendAt
import Derived.Test.YtgjnnbomnoafcaaGreatDoorVB
import Derived.Great.BuildSlice
import Derived.Test.YtgjnnbomnoafcaaGreatDoorVN
import Derived.Test.YtgjnnbomnoafcaaGreatDoorVF
import Derived.Test.YtgjnnbomnoafcaaGreatDoorVC
set_option linter.unusedVariables false
set_option linter.unusedSimpArgs false
namespace Go.Proofs.YtgjnnbomnoafcaaGreatDoor
set_option linter.unusedVariables false
def each {α:Type} (f:Rck->α->Option Err × Rck):List α->Rck->Option Err × Rck
 | [],R=>(none,R)
 | i::l,R=>match (f R i).1 with
  | none=>each f l (f R i).2
  | some e=>(some e,(f R i).2)
theorem each_ok {α:Type} {f:Rck->α->Option Err × Rck} {i:α} {l:List α} {R R':Rck} (h:f R i=(none,R')):each f (i::l) R=each f l R':=by
 show (match (f R i).1 with | none=>each f l (f R i).2 | some e=>(some e,(f R i).2))=_
 rw [h]
theorem each_err {α:Type} {f:Rck->α->Option Err × Rck} {i:α} {l:List α} {R R':Rck} {e:Err} (h:f R i=(some e,R')):each f (i::l) R=(some e,R'):=by
 show (match (f R i).1 with | none=>each f l (f R i).2 | some e=>(some e,(f R i).2))=_
 rw [h]
theorem each_app {α:Type} (f:Rck->α->Option Err × Rck) (l m:List α) (R:Rck):each f (l++m) R=match (each f l R).1 with
  | none=>each f m (each f l R).2
  | some e=>(some e,(each f l R).2):=by
 induction l generalizing R with
 | nil=>rfl
 | cons i l ih =>
  rcases h:f R i with ⟨o,R'⟩
  rcases o with _ | e
  ·
   rw [List.cons_append,each_ok h,each_ok h,ih]
  ·
   rw [List.cons_append,each_err h,each_err h]
structure Rcd where
 seq:Int
 stripe:Int
 blocks:List (List Nat)
namespace Rcd
def none_:Rcd:=⟨0,0,[]⟩
structure Ok (x:Rcd):Prop where
 len:∀ b∈x.blocks,b.length=108
 byte:∀ b∈x.blocks,∀ y∈b,y < 256
def frm (x:Rcd) (i:Nat):Frm:=⟨2,i,x.stripe,x.seq,x.blocks.getD i (List.replicate 108 0)⟩
end Rcd
def sJLog:ByteArray:=⟨#[106,111,117,114,110,97,108,46,76,111,103]⟩
def sJBlank:ByteArray:=⟨#[106,111,117,114,110,97,108,46,66,108,97,110,107]⟩
def sJSlot:ByteArray:=⟨#[106,111,117,114,110,97,108,46,83,108,111,116]⟩
namespace Rck
def jsec (c:Cfg) (slot:Int) (i:Nat):Int:=1+slot*c.k+i
def jrow (c:Cfg) (slot:Int) (x:Rcd) (R:Rck) (d:Nat):Option Err × Rck:=each (fun R i=>R.write d (jsec c slot i) (x.frm i).put) (List.range c.k.toNat) R
def jput (R:Rck) (c:Cfg) (slot:Int) (x:Rcd):Option Err × Rck :=
 match (each (jrow c slot x) R.online R).1 with
 | some e=>(some e,(each (jrow c slot x) R.online R).2)
 | none=>each (fun R d=>R.flush (d:Nat)) (each (jrow c slot x) R.online R).2.online (each (jrow c slot x) R.online R).2
def jknown (R:Rck) (c:Cfg) (slot:Int):Bool:=R.fits c && decide (0<=slot) && decide (slot < c.slots)
def jlogOk (R:Rck) (c:Cfg) (x:Rcd):Bool:=R.fits c && decide (2<=x.seq) && decide (x.seq<=1152921504606846976) && decide (0<=x.stripe) && decide (x.stripe < c.stripes) && decide ((x.blocks.length:Int)=c.k)
def jlog (R:Rck) (c:Cfg) (x:Rcd):Option Err × Rck :=
 if R.jlogOk c x=true then ((R.jput c (x.seq % c.slots) x).1.map (.fault sJLog x.seq),(R.jput c (x.seq % c.slots) x).2) else (some (.fault sJLog x.seq (.no 1)),R)
def jblank (R:Rck) (c:Cfg) (slot:Int):Option Err × Rck :=
 if R.jknown c slot=true then ((R.jput c slot Rcd.none_).1.map (.fault sJBlank slot),(R.jput c slot Rcd.none_).2) else (some (.fault sJBlank slot (.no 1)),R)
def jgood (R:Rck) (c:Cfg) (d:Nat) (slot:Int) (i:Nat):Option Frm :=
 (R.get d (jsec c slot i) 2 i (-1)).bind fun f=>if c.stripes<=f.stripe\/f.gen=1\/(1 < f.gen/\f.gen % c.slots≠slot) then none else some f
def jgoods (R:Rck) (c:Cfg) (slot:Int) (i:Nat):List Frm:=(List.range c.n.toNat).filterMap fun d=>R.jgood c d slot i
end Rck
def pickF (seq:Int) (i:Nat) (stripe:Int) (fs:List Frm):Option Frm:=fs.find? fun f=>decide (f.gen=seq) && (decide (i=0) || decide (f.stripe=stripe))
def wholeFrom (seq:Int):Nat->Rcd->List (List Frm)->Option Rcd
 | _,x,[]=>some x
 | i,x,fs::l=>match pickF seq i x.stripe fs with
  | none=>none
  | some f=>wholeFrom seq (i+1) ⟨seq,f.stripe,x.blocks++[f.data]⟩ l
def whole (seq:Int) (l:List (List Frm)):Option Rcd:=wholeFrom seq 0 ⟨seq,0,[]⟩ l
def newestF (m:Int) (fs:List Frm):Int:=fs.foldl (fun m f=>max m f.gen) m
def newest (l:List (List Frm)):Int:=l.foldl newestF 0
namespace Rck
def jall (R:Rck) (c:Cfg) (slot:Int):List (List Frm):=(List.range c.k.toNat).map fun i=>R.jgoods c slot i
def jslot (R:Rck) (c:Cfg) (slot:Int):Rcd × Bool × Int × Option Err :=
 if R.jknown c slot=true then
  if (R.jall c slot).any (fun fs=>fs.isEmpty)=true then (Rcd.none_,false,0,some (.fault sJSlot slot (.loss slot 0 1)))
  else ((whole (newest (R.jall c slot)) (R.jall c slot)).getD Rcd.none_,(whole (newest (R.jall c slot)) (R.jall c slot)).isSome,newest (R.jall c slot),none)
 else (Rcd.none_,false,0,some (.fault sJSlot slot (.no 1)))
end Rck
open Go Go.RowKit
theorem flat_get {sz:Nat}:∀ (l:List (Array Value)),(∀ x∈l,x.size=sz)->∀ (i:Nat) (x:Array Value),l[i]?=some x->∀ j,j < sz->(l.flatMap Array.toList)[i*sz+j]?=x.toList[j]?
 | [],_,i,x,h,j,hj=>by simp at h
 | y::l,hs,0,x,h,j,hj=>by
  have e:y=x:=by simpa using h
  subst e
  rw [List.flatMap_cons,Nat.zero_mul,Nat.zero_add,List.getElem?_append_left (by rw [Array.length_toList,hs y List.mem_cons_self]; exact hj)]
 | y::l,hs,i+1,x,h,j,hj=>by
  have hy:=hs y List.mem_cons_self
  have h':l[i]?=some x:=by simpa using h
  rw [List.flatMap_cons,List.getElem?_append_right (by rw [Array.length_toList,hy,Nat.succ_mul]; omega),Array.length_toList,hy,show (i+1)*sz+j - sz=i*sz+j by rw [Nat.succ_mul]; omega]
  exact flat_get l (fun z hz=>hs z (List.mem_cons_of_mem _ hz)) i x h' j hj
structure OwnVs (w:World) (B:Nat) (ty:TypeId) (sz:Nat) (v:Value) (l:List (Array Value)):Prop where
 own:w.ownsRow B ty sz v l.length (l.flatMap Array.toList)
 size:∀ x∈l,x.size=sz
def VsAt (w:World) (g:Nat) (sz:Nat) (l:List (Array Value)):Prop:=∀ i x,l[i]?=some x->∀ j v,x.toList[j]?=some v->w.cell? ⟨g,i*sz+j,none⟩=some v
theorem VsAt.only {F:Nat->Prop} {w w':World} {g sz:Nat} {l:List (Array Value)} (h:VsAt w g sz l) (e:Only F w w') (hn:¬F g):VsAt w' g sz l:=fun i x hx j v hv=>e.cell (h i x hx j v hv) hn
theorem VsAt.ext {w w':World} {g sz:Nat} {l:List (Array Value)} (h:VsAt w g sz l) (e:Ext w w'):VsAt w' g sz l:=fun i x hx j v hv=>e.cell (h i x hx j v hv)
namespace OwnVs
variable {F:Nat->Prop} {w w':World} {B sz:Nat} {ty:TypeId} {v:Value} {l:List (Array Value)}
theorem nil (w:World) (B:Nat) (ty:TypeId) (sz:Nat):OwnVs w B ty sz (.slice none 0 0) []:=⟨World.ownsRow_nil w B _ _,by simp⟩
theorem only (h:OwnVs w B ty sz v l) (e:Only F w w') (hn:∀ b,v.ownBlock=some b->¬F b):OwnVs w' B ty sz v l:=by
 refine ⟨⟨h.1.1,?_⟩,h.2⟩
 rcases h.1.2 with h' | ⟨g,c,cur,h1,h2,h3,h4⟩
 ·
  exact .inl h'
 ·
  exact .inr ⟨g,c,cur,h1,h2,e.at h3 (hn g (by rw [h1]; rfl)),h4⟩
theorem ext (h:OwnVs w B ty sz v l) (e:Ext w w'):OwnVs w' B ty sz v l:=h.only e fun _ _ x=>x
theorem lt (h:OwnVs w B ty sz v l) (b:Nat) (e:v.ownBlock=some b):B<=b/\b < w.heap.size:=h.1.lt b e
theorem down (h:OwnVs w B ty sz v l) {B':Nat} (hb:B'<=B):OwnVs w B' ty sz v l:=by
 refine ⟨⟨h.1.1,?_⟩,h.2⟩
 rcases h.1.2 with h' | ⟨g,c,cur,h1,h2,h3⟩
 ·
  exact .inl h'
 ·
  exact .inr ⟨g,c,cur,h1,by omega,h3⟩
theorem slice (h:OwnVs w B ty sz v l):∃ a c,v=.slice a l.length c/\((l=[]/\a=none)\/∃ g,a=some ⟨g,0,none⟩/\B<=g/\g < w.heap.size/\l.length<=c/\VsAt w g sz l):=by
 rcases h.1.2 with ⟨h1,h2⟩ | ⟨g,c,cur,h1,h2,h3,h4⟩
 ·
  exact ⟨none,0,by rw [h1,h2],.inl ⟨List.length_eq_zero_iff.1 h2,rfl⟩⟩
 ·
  refine ⟨_,c,h1,.inr ⟨g,rfl,h2,lt_of_block h3,h4.1,fun i x hx j u hu=>?_⟩⟩
  have hxs:=h.2 x (List.mem_of_getElem? hx)
  have hj:j < sz:=by
   rcases Nat.lt_or_ge j sz with q | q
   ·
    exact q
   ·
    rw [List.getElem?_eq_none (by rw [Array.length_toList,hxs]; exact q)] at hu; cases hu
  have:=h.1.cells (g:=g) (by rw [h1]; rfl) (i*sz+j) u (by rw [flat_get l h.2 i x hx j hj]; exact hu)
  have e:(⟨g,0,none⟩:Addr).add (i*sz+j)=⟨g,i*sz+j,none⟩:=by unfold Addr.add; split<;>simp_all
  rw [e] at this
  exact this
theorem push (h:OwnVs w B ty sz v l) {tsl:TypeId} {z:Value} {by_:Nat} (hu:Tryz.prog.underlying tsl=some (.slice ty)) (hi:(Tryz.prog.info? ty).map (fun i=>(i.zero,i.size,i.bytes))=some (some z,sz,by_)) (hz:z.cells.size=sz) (h0:0 < sz)
  (x:Array Value) (hx:x.size=sz) (h1:∀ u∈x.toList,u.oneCell'=true) (ad:Addr) (hc:∀ j u,x.toList[j]?=some u->w.cell? (ad.add j)=some u) (cp:Nat) (hl:l.length < 1000) (hby:by_<=1000000) (hB:B<=w.heap.size) :
  ∃ v' w',(Builtin.append_ #[tsl,tsl] tsl #[v,.slice (some ad) 1 cp]).run Tryz.prog w=.ok v' w'/\OwnVs w' B ty sz v' (l++[x]) ∧
   Only (fun b=>v.ownBlock=some b) w w'/\(∀ w0,w0.heap.size<=B->Ext w0 w->Ext w0 w')/\(v'.ownBlock=v.ownBlock\/v'.ownBlock=some w.heap.size):=by
 obtain ⟨i0,hi,hz0,hz1,hz2⟩:=info_parts hi
 have hb1:(l.length+1)*by_<=140737488355328:=by
  have:=Nat.mul_le_mul (show l.length+1<=1000 by omega) hby
  omega
 obtain ⟨v',w',e1,e2,e3,_,e5⟩:=run_append_own_at (P:=Tryz.prog) (w:=w) B tsl tsl ty i0 z sz by_ hu hi hz0 hz1 hz2 hz h0 v l.length _ h.1 ad 1 cp x.toList (by rw [Array.length_toList,hx,Nat.one_mul]) hc h1 (by unfold maxLen; omega) hb1 hB
 have ho:Only (fun b=>v.ownBlock=some b) w w':=(Only.refl (fun b=>v.ownBlock=some b) w).grown e3 (fun k _ e=>e)
 refine ⟨v',w',e1,⟨?_,?_⟩,ho,fun w0 hw0 hx0=>Ext.then hx0 ho fun i hi e=>?_,e5⟩
 ·
  rw [List.length_append,List.flatMap_append]
  simpa using e2
 ·
  intro y hy
  rcases List.mem_append.1 hy with hy | hy
  ·
   exact h.2 y hy
  ·
   rw [List.mem_singleton.1 hy]; exact hx
 ·
  have:=(h.lt i e).1
  omega
end OwnVs
end Go.Proofs.YtgjnnbomnoafcaaGreatDoor
namespace Go
theorem fill_one {Z A:Array Value} {sz:Nat} {v:Value} (hv:v.cells=A) (hA:A.size=sz) (hZ:Z.size=sz):Instr.fill (fun i=>some (i*sz,sz)) Z [(0,v)]=some A:=by
 have hs:v.cells.size=sz:=by rw [hv]; exact hA
 unfold Instr.fill
 simp only [hs,Nat.zero_mul]
 rw [if_neg (by simp; omega)]
 simp only [Instr.fill]
 congr 1
 rw [hv]
 apply Array.ext_getElem?
 intro i
 have h:=fold_set 0 A.toList 0 Z i
 simp only [Nat.zero_add] at h
 rw [<- Array.foldl_toList,Array.toList_zipIdx]
 simp only [Nat.zero_add]
 refine h.trans ?_
 rw [Array.length_toList,hZ,hA]
 by_cases hi:i < sz
 ·
  rw [if_pos ⟨Nat.zero_le _,hi,hi⟩]; simp
 ·
  rw [if_neg (fun q=>hi q.2.2),Array.getElem?_eq_none (by omega),Array.getElem?_eq_none (by omega)]
theorem Zag {P:Program} {ops:Array Oper} {rest:List Oper} {o:Oper} {a:Act} {w:World} {Q:Exit->Act->World->Prop} (hg:o.guard=none) (t e:TypeId) (x:Operand) (ho:o.op=.buildSlice t 1 #[(0,x)])
  (A:Array Value) (v z:Value) (sz by_:Nat) (hu:P.underlying t=some (.slice e)) (hi:(P.info? e).map (fun i=>(i.zero,i.size,i.bytes))=some (some z,sz,by_)) (h0:0 < sz) (hs:sz<=16777216) (hx:a.eval x=v) (hv:v.cells=A) (hA:A.size=sz)
  (h:wpList P ops Q rest (a.put o.dst (.slice (some ⟨w.heap.size,0,none⟩) 1 1)) (w.alloc (.cells A e))):wpList P ops Q (o::rest) a w:=by
 cases hie:P.info? e with
 | none=>rw [hie] at hi; cases hi
 | some ie =>
  rw [hie] at hi
  simp only [Option.map_some,Option.some.injEq,Prod.mk.injEq] at hi
  obtain ⟨hz,hsz,_⟩:=hi
  refine wpList_buildSlice hg t e 1 _ ho A ie z hu hie hz (by rw [hsz]; omega) (by rw [hsz]; omega) ?_ h
  rw [hsz]
  have e1:((#[(0,x)]:Array (Nat × Operand)).map fun (i,x)=>(i,a.eval x)).toList=[(0,v)]:=by simp [hx]
  rw [e1]
  exact fill_one hv hA (by simp)
end Go
namespace Go.Proofs.YtgjnnbomnoafcaaGreatDoor
set_option linter.unusedVariables false
open Go Go.RowKit
theorem OwnVs.add {w:World} {B sz:Nat} {ty:TypeId} {v:Value} {l:List (Array Value)} (h:OwnVs w B ty sz v l) {tsl:TypeId} {z:Value} {by_:Nat} (hu:Tryz.prog.underlying tsl=some (.slice ty)) (hi:(Tryz.prog.info? ty).map (fun i=>(i.zero,i.size,i.bytes))=some (some z,sz,by_)) (hz:z.cells.size=sz) (h0:0 < sz)
  (x:Array Value) (hx:x.size=sz) (h1:∀ u∈x.toList,u.oneCell'=true) (hl:l.length < 1000) (hby:by_<=1000000) (hB:B<=w.heap.size) :
  ∃ v' w',(Builtin.append_ #[tsl,tsl] tsl #[v,.slice (some ⟨w.heap.size,0,none⟩) 1 1]).run Tryz.prog (w.alloc (.cells x ty))=.ok v' w'/\OwnVs w' B ty sz v' (l++[x]) ∧
   Only (fun b=>v.ownBlock=some b) w w'/\(∀ w0,w0.heap.size<=B->Ext w0 w->Ext w0 w'):=by
 have hxt:Ext w (w.alloc (.cells x ty)):=(Ext.refl w).alloc _
 obtain ⟨v',w',e1,e2,e3,e4,_⟩:=(h.ext hxt).push hu hi hz h0 x hx h1 ⟨w.heap.size,0,none⟩ (Zaj Zad) 1 hl hby (by simp; omega)
 exact ⟨v',w',e1,e2,Only.trans (Ext.only hxt) e3 (fun _ _ h=>h),fun w0 hw0 hx0=>e4 w0 hw0 (hx0.alloc _)⟩
theorem infoBlk:(Tryz.prog.info? 120).map (fun i=>(i.zero,i.size,i.bytes))=some (some (.agg (bA z108)),108,108):=by kernel_rfl
def BlksAt (w:World) (a:Option Addr) (l:List (List Nat)):Prop:=∀ i b,l[i]?=some b->∃ g,a=some ⟨g,0,none⟩/\∀ j,j < 108->w.cell? ⟨g,i*108+j,none⟩=some (.int .u8 (nth b j))
theorem BlksAt.ext {w w':World} {a:Option Addr} {l:List (List Nat)} (h:BlksAt w a l) (e:Ext w w'):BlksAt w' a l:=fun i b hb=>by
 obtain ⟨g,h1,h2⟩:=h i b hb
 exact ⟨g,h1,fun j hj=>Ext.cell e (h2 j hj)⟩
theorem BlksAt.only {w w':World} {a:Option Addr} {l:List (List Nat)} {F:Nat->Prop} (h:BlksAt w a l) (e:Only F w w') (hn:∀ g,a=some ⟨g,0,none⟩->¬F g):BlksAt w' a l:=fun i b hb=>by
 obtain ⟨g,h1,h2⟩:=h i b hb
 exact ⟨g,h1,fun j hj=>e.cell (h2 j hj) (hn g h1)⟩
theorem BlksAt.of_vs {w:World} {g:Nat} {l:List (List Nat)} (hl:∀ b∈l,b.length=108) (h:VsAt w g 108 (l.map bA)):BlksAt w (some ⟨g,0,none⟩) l:=fun i b hb=>by
 refine ⟨g,rfl,fun j hj=>h i (bA b) (by rw [List.getElem?_map,hb]; rfl) j _ ?_⟩
 have:=Zb5 b j (by rw [hl b (List.mem_of_getElem? hb)]; exact hj)
 simpa using this
theorem BlksAt.lt {w:World} {a:Option Addr} {l:List (List Nat)} (h:BlksAt w a l) (hn:l≠[]):∀ g,a=some ⟨g,0,none⟩->g < w.heap.size:=fun g hg=>by
 rcases hl:l with _ | ⟨b,l'⟩
 ·
  exact absurd hl hn
 ·
  obtain ⟨g',hg',hc⟩:=h 0 b (by rw [hl]; rfl)
  rw [hg'] at hg
  cases hg
  exact World.block_lt_of_cell? w _ (hc 0 (by omega))
def Rcd.V (x:Rcd) (a:Option Addr) (c:Nat):Array Value:=#[.int .i64 x.seq,.int .i64 x.stripe,.slice a x.blocks.length c]
def PutT (S:Nat->Prop) (n m:Nat) (b:Nat):Prop:=S b\/(n<=b/\b < m)
theorem RackAt.disks8 {S:Nat->Prop} {w:World} {r:Nat} {R:Rck} (h:RackAt S w r R):R.l.length<=8:=by
 obtain ⟨_,K,_,h2,_⟩:=h
 have:=h2.small
 rw [h2.len]; omega
theorem Rck.online_len (R:Rck):R.online.length<=R.l.length:=by
 unfold Rck.online
 have:=List.length_filter_le (fun i:Nat=>R.up i) (List.range R.l.length)
 simpa using this
theorem each_cut {α:Type} {f:Rck->α->Option Err × Rck} {l:List α} {i:Nat} {b:α} {R R1:Rck} (hi:l[i]?=some b) (h:each f (l.take i) R=(none,R1)):each f l R=each f (b::l.drop (i+1)) R1:=by
 have hlt:i < l.length:=by
  rcases Nat.lt_or_ge i l.length with q | q
  ·
   exact q
  ·
   rw [List.getElem?_eq_none q] at hi; cases hi
 have e:l=l.take i++(b::l.drop (i+1)):=by
  rw [List.getElem?_eq_getElem hlt] at hi
  rw [<- Option.some.inj hi,<- List.drop_eq_getElem_cons hlt,List.take_append_drop]
 conv=>lhs; rw [e,each_app,h]
theorem each_mid {α:Type} {f:Rck->α->Option Err × Rck} {l:List α} {i:Nat} {b:α} {R R1 R2:Rck} {er:Err} (hi:l[i]?=some b) (h:each f (l.take i) R=(none,R1)) (h2:f R1 b=(some er,R2)):each f l R=(some er,R2):=(each_cut hi h).trans (each_err h2)
theorem each_next {α:Type} {f:Rck->α->Option Err × Rck} {l:List α} {i:Nat} {b:α} {R R1 R2:Rck} (hi:l[i]?=some b) (h:each f (l.take i) R=(none,R1)) (h2:f R1 b=(none,R2)):each f (l.take (i+1)) R=(none,R2):=by
 have hlt:i < l.length:=by
  rcases Nat.lt_or_ge i l.length with q | q
  ·
   exact q
  ·
   rw [List.getElem?_eq_none q] at hi; cases hi
 rw [List.getElem?_eq_getElem hlt] at hi
 rw [List.take_succ_eq_append_getElem hlt,Option.some.inj hi,each_app,h]
 exact (each_ok (l:=[]) h2).trans rfl
structure JPut (S:Nat->Prop) (w W:World) (r:Nat) (R:Rck) (wr:World):Prop where
 rack:RackAt (PutT S w.heap.size W.heap.size) wr r R
 keeps:Only (fun b=>¬PutT S w.heap.size W.heap.size b) W wr
theorem JPut.out {S:Nat->Prop} {w W:World} {r:Nat} {R:Rck} {wr:World} (h:JPut S w W r R wr) (e:Ext w W):RackAt S wr r R/\Keeps S w wr :=
 ⟨h.rack.less fun b hb=>.inl hb,Only.trans (Ext.only e) h.keeps fun b _ hb q=>hb (.inl q)⟩
theorem JPut.step {S:Nat->Prop} {w W:World} {r:Nat} {R R2:Rck} {wr w4:World} (h:JPut S w W r R wr) (h4:RackAt (PutT S w.heap.size W.heap.size) w4 r R2) (k:Keeps (PutT S w.heap.size W.heap.size) wr w4):JPut S w W r R2 w4 :=
 ⟨h4,Only.trans h.keeps k fun _ _ q=>q⟩
attribute [local irreducible] wpSQ
end Go.Proofs.YtgjnnbomnoafcaaGreatDoor
namespace Go.Proofs.YtgjnnbomnoafcaaGreatDoor
set_option linter.unusedVariables false
open Go Go.RowKit
attribute [local irreducible] wpSQ
end Go.Proofs.YtgjnnbomnoafcaaGreatDoor
