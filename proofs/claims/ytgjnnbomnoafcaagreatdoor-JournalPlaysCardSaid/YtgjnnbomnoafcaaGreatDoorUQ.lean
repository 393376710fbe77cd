/- Texts of one proof, joined: JourPure, OwnVs, VsAdd, Blks, JourA, JourB, JourC, PutT, JourD, JourE. -/
import Derived.Test.YtgjnnbomnoafcaaGreatDoorUH
import Derived.Test.YtgjnnbomnoafcaaGreatDoorUA
import Derived.Test.YtgjnnbomnoafcaaGreatDoorProg
import Derived.Maps.AppendAt
import Derived.Test.YtgjnnbomnoafcaaGreatDoorUB
import Derived.Great.BuildSlice
import Derived.Test.YtgjnnbomnoafcaaGreatDoorUN
import Derived.Test.YtgjnnbomnoafcaaGreatDoorUF
import Derived.Test.YtgjnnbomnoafcaaGreatDoorUC
set_option linter.unusedVariables false
set_option linter.unusedSimpArgs false
namespace Go.Proofs.YtgjnnbomnoafcaaGreatDoor
set_option linter.unusedVariables false
def each {α:Type} (f:Rck->α->Option Err × Rck):List α->Rck->Option Err × Rck
 | [],R=>(none,R)
 | i::l,R=>match (f R i).1 with
  | none=>each f l (f R i).2
  | some e=>(some e,(f R i).2)
theorem each_ok {α:Type} {f:Rck->α->Option Err × Rck} {i:α} {l:List α} {R R':Rck} (h:f R i=(none,R')):each f (i::l) R=each f l R':=by
 show (match (f R i).1 with | none=>each f l (f R i).2 | some e=>(some e,(f R i).2))=_
 rw [h]
theorem each_err {α:Type} {f:Rck->α->Option Err × Rck} {i:α} {l:List α} {R R':Rck} {e:Err} (h:f R i=(some e,R')):each f (i::l) R=(some e,R'):=by
 show (match (f R i).1 with | none=>each f l (f R i).2 | some e=>(some e,(f R i).2))=_
 rw [h]
theorem each_app {α:Type} (f:Rck->α->Option Err × Rck) (l m:List α) (R:Rck):each f (l++m) R=match (each f l R).1 with
  | none=>each f m (each f l R).2
  | some e=>(some e,(each f l R).2):=by
 induction l generalizing R with
 | nil=>rfl
 | cons i l ih =>
  rcases h:f R i with ⟨o,R'⟩
  rcases o with _ | e
  ·
   rw [List.cons_append,each_ok h,each_ok h,ih]
  ·
   rw [List.cons_append,each_err h,each_err h]
structure Rcd where
 seq:Int
 stripe:Int
 blocks:List (List Nat)
namespace Rcd
def none_:Rcd:=⟨0,0,[]⟩
structure Ok (x:Rcd):Prop where
 len:∀ b∈x.blocks,b.length=108
 byte:∀ b∈x.blocks,∀ y∈b,y < 256
def frm (x:Rcd) (i:Nat):Frm:=⟨2,i,x.stripe,x.seq,x.blocks.getD i (List.replicate 108 0)⟩
theorem frm_ok (x:Rcd) (h:x.Ok) (i:Nat):(x.frm i).Ok:=by
 have e:(x.frm i).data=x.blocks.getD i (List.replicate 108 0):=rfl
 rcases Nat.lt_or_ge i x.blocks.length with hi | hi
 ·
  have e2:x.blocks.getD i (List.replicate 108 0)=x.blocks[i]:=by simp [List.getD_eq_getElem?_getD,hi]
  exact ⟨by rw [e,e2]; exact h.len _ (List.getElem_mem hi),by rw [e,e2]; exact h.byte _ (List.getElem_mem hi)⟩
 ·
  have e2:x.blocks.getD i (List.replicate 108 0)=List.replicate 108 0:=by simp [List.getD_eq_getElem?_getD,hi]
  exact ⟨by rw [e,e2]; simp,by rw [e,e2]; intro y hy; rw [(List.mem_replicate.1 hy).2]; omega⟩
end Rcd
def sJLog:ByteArray:=⟨#[106,111,117,114,110,97,108,46,76,111,103]⟩
def sJBlank:ByteArray:=⟨#[106,111,117,114,110,97,108,46,66,108,97,110,107]⟩
def sJSlot:ByteArray:=⟨#[106,111,117,114,110,97,108,46,83,108,111,116]⟩
namespace Rck
def jsec (c:Cfg) (slot:Int) (i:Nat):Int:=1+slot*c.k+i
def jrow (c:Cfg) (slot:Int) (x:Rcd) (R:Rck) (d:Nat):Option Err × Rck:=each (fun R i=>R.write d (jsec c slot i) (x.frm i).put) (List.range c.k.toNat) R
def jput (R:Rck) (c:Cfg) (slot:Int) (x:Rcd):Option Err × Rck :=
 match (each (jrow c slot x) R.online R).1 with
 | some e=>(some e,(each (jrow c slot x) R.online R).2)
 | none=>each (fun R d=>R.flush (d:Nat)) (each (jrow c slot x) R.online R).2.online (each (jrow c slot x) R.online R).2
def jknown (R:Rck) (c:Cfg) (slot:Int):Bool:=R.fits c && decide (0<=slot) && decide (slot < c.slots)
def jlogOk (R:Rck) (c:Cfg) (x:Rcd):Bool:=R.fits c && decide (2<=x.seq) && decide (x.seq<=1152921504606846976) && decide (0<=x.stripe) && decide (x.stripe < c.stripes) && decide ((x.blocks.length:Int)=c.k)
def jlog (R:Rck) (c:Cfg) (x:Rcd):Option Err × Rck :=
 if R.jlogOk c x=true then ((R.jput c (x.seq % c.slots) x).1.map (.fault sJLog x.seq),(R.jput c (x.seq % c.slots) x).2) else (some (.fault sJLog x.seq (.no 1)),R)
def jblank (R:Rck) (c:Cfg) (slot:Int):Option Err × Rck :=
 if R.jknown c slot=true then ((R.jput c slot Rcd.none_).1.map (.fault sJBlank slot),(R.jput c slot Rcd.none_).2) else (some (.fault sJBlank slot (.no 1)),R)
def jgood (R:Rck) (c:Cfg) (d:Nat) (slot:Int) (i:Nat):Option Frm :=
 (R.get d (jsec c slot i) 2 i (-1)).bind fun f=>if c.stripes<=f.stripe\/f.gen=1\/(1 < f.gen/\f.gen % c.slots≠slot) then none else some f
def jgoods (R:Rck) (c:Cfg) (slot:Int) (i:Nat):List Frm:=(List.range c.n.toNat).filterMap fun d=>R.jgood c d slot i
end Rck
def pickF (seq:Int) (i:Nat) (stripe:Int) (fs:List Frm):Option Frm:=fs.find? fun f=>decide (f.gen=seq) && (decide (i=0) || decide (f.stripe=stripe))
def wholeFrom (seq:Int):Nat->Rcd->List (List Frm)->Option Rcd
 | _,x,[]=>some x
 | i,x,fs::l=>match pickF seq i x.stripe fs with
  | none=>none
  | some f=>wholeFrom seq (i+1) ⟨seq,f.stripe,x.blocks++[f.data]⟩ l
def whole (seq:Int) (l:List (List Frm)):Option Rcd:=wholeFrom seq 0 ⟨seq,0,[]⟩ l
def newestF (m:Int) (fs:List Frm):Int:=fs.foldl (fun m f=>max m f.gen) m
def newest (l:List (List Frm)):Int:=l.foldl newestF 0
namespace Rck
def jall (R:Rck) (c:Cfg) (slot:Int):List (List Frm):=(List.range c.k.toNat).map fun i=>R.jgoods c slot i
def jslot (R:Rck) (c:Cfg) (slot:Int):Rcd × Bool × Int × Option Err :=
 if R.jknown c slot=true then
  if (R.jall c slot).any (fun fs=>fs.isEmpty)=true then (Rcd.none_,false,0,some (.fault sJSlot slot (.loss slot 0 1)))
  else ((whole (newest (R.jall c slot)) (R.jall c slot)).getD Rcd.none_,(whole (newest (R.jall c slot)) (R.jall c slot)).isSome,newest (R.jall c slot),none)
 else (Rcd.none_,false,0,some (.fault sJSlot slot (.no 1)))
end Rck
open Go Go.RowKit
theorem flat_get {sz:Nat}:∀ (l:List (Array Value)),(∀ x∈l,x.size=sz)->∀ (i:Nat) (x:Array Value),l[i]?=some x->∀ j,j < sz->(l.flatMap Array.toList)[i*sz+j]?=x.toList[j]?
 | [],_,i,x,h,j,hj=>by simp at h
 | y::l,hs,0,x,h,j,hj=>by
  have e:y=x:=by simpa using h
  subst e
  rw [List.flatMap_cons,Nat.zero_mul,Nat.zero_add,List.getElem?_append_left (by rw [Array.length_toList,hs y List.mem_cons_self]; exact hj)]
 | y::l,hs,i+1,x,h,j,hj=>by
  have hy:=hs y List.mem_cons_self
  have h':l[i]?=some x:=by simpa using h
  rw [List.flatMap_cons,List.getElem?_append_right (by rw [Array.length_toList,hy,Nat.succ_mul]; omega),Array.length_toList,hy,show (i+1)*sz+j - sz=i*sz+j by rw [Nat.succ_mul]; omega]
  exact flat_get l (fun z hz=>hs z (List.mem_cons_of_mem _ hz)) i x h' j hj
structure OwnVs (w:World) (B:Nat) (ty:TypeId) (sz:Nat) (v:Value) (l:List (Array Value)):Prop where
 own:w.ownsRow B ty sz v l.length (l.flatMap Array.toList)
 size:∀ x∈l,x.size=sz
def VsAt (w:World) (g:Nat) (sz:Nat) (l:List (Array Value)):Prop:=∀ i x,l[i]?=some x->∀ j v,x.toList[j]?=some v->w.cell? ⟨g,i*sz+j,none⟩=some v
theorem VsAt.ext {w w':World} {g sz:Nat} {l:List (Array Value)} (h:VsAt w g sz l) (e:Ext w w'):VsAt w' g sz l:=fun i x hx j v hv=>e.cell (h i x hx j v hv)
namespace OwnVs
variable {F:Nat->Prop} {w w':World} {B sz:Nat} {ty:TypeId} {v:Value} {l:List (Array Value)}
theorem nil (w:World) (B:Nat) (ty:TypeId) (sz:Nat):OwnVs w B ty sz (.slice none 0 0) []:=⟨World.ownsRow_nil w B _ _,by simp⟩
theorem only (h:OwnVs w B ty sz v l) (e:Only F w w') (hn:∀ b,v.ownBlock=some b->¬F b):OwnVs w' B ty sz v l:=by
 refine ⟨⟨h.1.1,?_⟩,h.2⟩
 rcases h.1.2 with h' | ⟨g,c,cur,h1,h2,h3,h4⟩
 ·
  exact .inl h'
 ·
  exact .inr ⟨g,c,cur,h1,h2,e.at h3 (hn g (by rw [h1]; rfl)),h4⟩
theorem ext (h:OwnVs w B ty sz v l) (e:Ext w w'):OwnVs w' B ty sz v l:=h.only e fun _ _ x=>x
theorem lt (h:OwnVs w B ty sz v l) (b:Nat) (e:v.ownBlock=some b):B<=b/\b < w.heap.size:=h.1.lt b e
theorem down (h:OwnVs w B ty sz v l) {B':Nat} (hb:B'<=B):OwnVs w B' ty sz v l:=by
 refine ⟨⟨h.1.1,?_⟩,h.2⟩
 rcases h.1.2 with h' | ⟨g,c,cur,h1,h2,h3⟩
 ·
  exact .inl h'
 ·
  exact .inr ⟨g,c,cur,h1,by omega,h3⟩
theorem slice (h:OwnVs w B ty sz v l):∃ a c,v=.slice a l.length c/\((l=[]/\a=none)\/∃ g,a=some ⟨g,0,none⟩/\B<=g/\g < w.heap.size/\l.length<=c/\VsAt w g sz l):=by
 rcases h.1.2 with ⟨h1,h2⟩ | ⟨g,c,cur,h1,h2,h3,h4⟩
 ·
  exact ⟨none,0,by rw [h1,h2],.inl ⟨List.length_eq_zero_iff.1 h2,rfl⟩⟩
 ·
  refine ⟨_,c,h1,.inr ⟨g,rfl,h2,lt_of_block h3,h4.1,fun i x hx j u hu=>?_⟩⟩
  have hxs:=h.2 x (List.mem_of_getElem? hx)
  have hj:j < sz:=by
   rcases Nat.lt_or_ge j sz with q | q
   ·
    exact q
   ·
    rw [List.getElem?_eq_none (by rw [Array.length_toList,hxs]; exact q)] at hu; cases hu
  have:=h.1.cells (g:=g) (by rw [h1]; rfl) (i*sz+j) u (by rw [flat_get l h.2 i x hx j hj]; exact hu)
  have e:(⟨g,0,none⟩:Addr).add (i*sz+j)=⟨g,i*sz+j,none⟩:=by unfold Addr.add; split<;>simp_all
  rw [e] at this
  exact this
theorem push (h:OwnVs w B ty sz v l) {tsl:TypeId} {z:Value} {by_:Nat} (hu:Tryz.prog.underlying tsl=some (.slice ty)) (hi:(Tryz.prog.info? ty).map (fun i=>(i.zero,i.size,i.bytes))=some (some z,sz,by_)) (hz:z.cells.size=sz) (h0:0 < sz)
  (x:Array Value) (hx:x.size=sz) (h1:∀ u∈x.toList,u.oneCell'=true) (ad:Addr) (hc:∀ j u,x.toList[j]?=some u->w.cell? (ad.add j)=some u) (cp:Nat) (hl:l.length < 1000) (hby:by_<=1000000) (hB:B<=w.heap.size) :
  ∃ v' w',(Builtin.append_ #[tsl,tsl] tsl #[v,.slice (some ad) 1 cp]).run Tryz.prog w=.ok v' w'/\OwnVs w' B ty sz v' (l++[x]) ∧
   Only (fun b=>v.ownBlock=some b) w w'/\(∀ w0,w0.heap.size<=B->Ext w0 w->Ext w0 w')/\(v'.ownBlock=v.ownBlock\/v'.ownBlock=some w.heap.size):=by
 obtain ⟨i0,hi,hz0,hz1,hz2⟩:=info_parts hi
 have hb1:(l.length+1)*by_<=140737488355328:=by
  have:=Nat.mul_le_mul (show l.length+1<=1000 by omega) hby
  omega
 obtain ⟨v',w',e1,e2,e3,_,e5⟩:=run_append_own_at (P:=Tryz.prog) (w:=w) B tsl tsl ty i0 z sz by_ hu hi hz0 hz1 hz2 hz h0 v l.length _ h.1 ad 1 cp x.toList (by rw [Array.length_toList,hx,Nat.one_mul]) hc h1 (by unfold maxLen; omega) hb1 hB
 have ho:Only (fun b=>v.ownBlock=some b) w w':=(Only.refl (fun b=>v.ownBlock=some b) w).grown e3 (fun k _ e=>e)
 refine ⟨v',w',e1,⟨?_,?_⟩,ho,fun w0 hw0 hx0=>Ext.then hx0 ho fun i hi e=>?_,e5⟩
 ·
  rw [List.length_append,List.flatMap_append]
  simpa using e2
 ·
  intro y hy
  rcases List.mem_append.1 hy with hy | hy
  ·
   exact h.2 y hy
  ·
   rw [List.mem_singleton.1 hy]; exact hx
 ·
  have:=(h.lt i e).1
  omega
end OwnVs
end Go.Proofs.YtgjnnbomnoafcaaGreatDoor
namespace Go
theorem fill_one {Z A:Array Value} {sz:Nat} {v:Value} (hv:v.cells=A) (hA:A.size=sz) (hZ:Z.size=sz):Instr.fill (fun i=>some (i*sz,sz)) Z [(0,v)]=some A:=by
 have hs:v.cells.size=sz:=by rw [hv]; exact hA
 unfold Instr.fill
 simp only [hs,Nat.zero_mul]
 rw [if_neg (by simp; omega)]
 simp only [Instr.fill]
 congr 1
 rw [hv]
 apply Array.ext_getElem?
 intro i
 have h:=fold_set 0 A.toList 0 Z i
 simp only [Nat.zero_add] at h
 rw [<- Array.foldl_toList,Array.toList_zipIdx]
 simp only [Nat.zero_add]
 refine h.trans ?_
 rw [Array.length_toList,hZ,hA]
 by_cases hi:i < sz
 ·
  rw [if_pos ⟨Nat.zero_le _,hi,hi⟩]; simp
 ·
  rw [if_neg (fun q=>hi q.2.2),Array.getElem?_eq_none (by omega),Array.getElem?_eq_none (by omega)]
theorem Zaz {P:Program} {ops:Array Oper} {rest:List Oper} {o:Oper} {a:Act} {w:World} {Q:Exit->Act->World->Prop} (hg:o.guard=none) (t e:TypeId) (x:Operand) (ho:o.op=.buildSlice t 1 #[(0,x)])
  (A:Array Value) (v z:Value) (sz by_:Nat) (hu:P.underlying t=some (.slice e)) (hi:(P.info? e).map (fun i=>(i.zero,i.size,i.bytes))=some (some z,sz,by_)) (h0:0 < sz) (hs:sz<=16777216) (hx:a.eval x=v) (hv:v.cells=A) (hA:A.size=sz)
  (h:wpList P ops Q rest (a.put o.dst (.slice (some ⟨w.heap.size,0,none⟩) 1 1)) (w.alloc (.cells A e))):wpList P ops Q (o::rest) a w:=by
 cases hie:P.info? e with
 | none=>rw [hie] at hi; cases hi
 | some ie =>
  rw [hie] at hi
  simp only [Option.map_some,Option.some.injEq,Prod.mk.injEq] at hi
  obtain ⟨hz,hsz,_⟩:=hi
  refine wpList_buildSlice hg t e 1 _ ho A ie z hu hie hz (by rw [hsz]; omega) (by rw [hsz]; omega) ?_ h
  rw [hsz]
  have e1:((#[(0,x)]:Array (Nat × Operand)).map fun (i,x)=>(i,a.eval x)).toList=[(0,v)]:=by simp [hx]
  rw [e1]
  exact fill_one hv hA (by simp)
end Go
namespace Go.Proofs.YtgjnnbomnoafcaaGreatDoor
set_option linter.unusedVariables false
open Go Go.RowKit
theorem OwnVs.add {w:World} {B sz:Nat} {ty:TypeId} {v:Value} {l:List (Array Value)} (h:OwnVs w B ty sz v l) {tsl:TypeId} {z:Value} {by_:Nat} (hu:Tryz.prog.underlying tsl=some (.slice ty)) (hi:(Tryz.prog.info? ty).map (fun i=>(i.zero,i.size,i.bytes))=some (some z,sz,by_)) (hz:z.cells.size=sz) (h0:0 < sz)
  (x:Array Value) (hx:x.size=sz) (h1:∀ u∈x.toList,u.oneCell'=true) (hl:l.length < 1000) (hby:by_<=1000000) (hB:B<=w.heap.size) :
  ∃ v' w',(Builtin.append_ #[tsl,tsl] tsl #[v,.slice (some ⟨w.heap.size,0,none⟩) 1 1]).run Tryz.prog (w.alloc (.cells x ty))=.ok v' w'/\OwnVs w' B ty sz v' (l++[x]) ∧
   Only (fun b=>v.ownBlock=some b) w w'/\(∀ w0,w0.heap.size<=B->Ext w0 w->Ext w0 w'):=by
 have hxt:Ext w (w.alloc (.cells x ty)):=(Ext.refl w).alloc _
 obtain ⟨v',w',e1,e2,e3,e4,_⟩:=(h.ext hxt).push hu hi hz h0 x hx h1 ⟨w.heap.size,0,none⟩ (Zai Zaf) 1 hl hby (by simp; omega)
 exact ⟨v',w',e1,e2,Only.trans (Ext.only hxt) e3 (fun _ _ h=>h),fun w0 hw0 hx0=>e4 w0 hw0 (hx0.alloc _)⟩
theorem infoBlk:(Tryz.prog.info? 120).map (fun i=>(i.zero,i.size,i.bytes))=some (some (.agg (bA z108)),108,108):=by kernel_rfl
def BlksAt (w:World) (a:Option Addr) (l:List (List Nat)):Prop:=∀ i b,l[i]?=some b->∃ g,a=some ⟨g,0,none⟩/\∀ j,j < 108->w.cell? ⟨g,i*108+j,none⟩=some (.int .u8 (nth b j))
theorem BlksAt.ext {w w':World} {a:Option Addr} {l:List (List Nat)} (h:BlksAt w a l) (e:Ext w w'):BlksAt w' a l:=fun i b hb=>by
 obtain ⟨g,h1,h2⟩:=h i b hb
 exact ⟨g,h1,fun j hj=>Ext.cell e (h2 j hj)⟩
theorem BlksAt.only {w w':World} {a:Option Addr} {l:List (List Nat)} {F:Nat->Prop} (h:BlksAt w a l) (e:Only F w w') (hn:∀ g,a=some ⟨g,0,none⟩->¬F g):BlksAt w' a l:=fun i b hb=>by
 obtain ⟨g,h1,h2⟩:=h i b hb
 exact ⟨g,h1,fun j hj=>e.cell (h2 j hj) (hn g h1)⟩
theorem BlksAt.of_vs {w:World} {g:Nat} {l:List (List Nat)} (hl:∀ b∈l,b.length=108) (h:VsAt w g 108 (l.map bA)):BlksAt w (some ⟨g,0,none⟩) l:=fun i b hb=>by
 refine ⟨g,rfl,fun j hj=>h i (bA b) (by rw [List.getElem?_map,hb]; rfl) j _ ?_⟩
 have:=Zbo b j (by rw [hl b (List.mem_of_getElem? hb)]; exact hj)
 simpa using this
theorem BlksAt.lt {w:World} {a:Option Addr} {l:List (List Nat)} (h:BlksAt w a l) (hn:l≠[]):∀ g,a=some ⟨g,0,none⟩->g < w.heap.size:=fun g hg=>by
 rcases hl:l with _ | ⟨b,l'⟩
 ·
  exact absurd hl hn
 ·
  obtain ⟨g',hg',hc⟩:=h 0 b (by rw [hl]; rfl)
  rw [hg'] at hg
  cases hg
  exact World.block_lt_of_cell? w _ (hc 0 (by omega))
theorem jsec_bd (c:Cfg) (h:c.Good) (slot:Int) (h0:0<=slot) (h1:slot < c.slots):0<=slot*c.k/\slot*c.k<=32:=by
 obtain ⟨q1,q2,q3,q4,q5,q6,q7,q8,q9⟩:=h
 have e1:0<=slot*c.k:=Int.mul_nonneg h0 (by omega)
 have e2:slot*c.k<=4*c.k:=Int.mul_le_mul_of_nonneg_right (by omega) (by omega)
 omega
set_option maxRecDepth 100000 in
theorem jsector_c (c:Cfg) (h:c.Good) (slot:Int) (h0:0<=slot) (h1:slot < c.slots) (i:Nat) (hi:i < 8) (w:World) :
  Calls Tryz.prog 186 #[.agg (Cfg.A c),.int .i64 slot,.int .i64 i] w fun e w'=>e=.returned (.int .i64 (Rck.jsec c slot i))/\Ext w w':=by
 have a1:=Cfg.A1 c
 obtain ⟨b0,b1⟩:=jsec_bd c h slot h0 h1
 have HR:Hid (Rck.jsec c slot i=1+slot*c.k+i):=hid rfl
 rw [HR.out]
 clear HR h h1
 obtain ⟨id,k,n,st,sl⟩:=c
 simp only at a1 b0 b1 ⊢
 generalize Cfg.A _=A at *
 obtain ⟨p,hp⟩:∃ p,slot*k=p:=⟨_,rfl⟩
 rw [hp] at b0 b1 ⊢
 have hw:wrap64 (slot*k)=p:=by rw [hp]; unfold wrap64; omega
 have w2:wrap64 (1+p)=1+p:=by unfold wrap64; omega
 have w3:wrap64 (1+p+(i:Int))=1+p+i:=by unfold wrap64; omega
 clear hp b0 b1
 go_enter Tryz.func186,Tryz.ntmps186
 go_wp2
 go_ret
 exact ⟨ret_int (by simp only [hw,w2,w3]),(Ext.refl w).alloc _⟩
def Rcd.V (x:Rcd) (a:Option Addr) (c:Nat):Array Value:=#[.int .i64 x.seq,.int .i64 x.stripe,.slice a x.blocks.length c]
theorem Frm.A_data (f:Frm) (hf:f.Ok) (b:List Nat) (hb:b.length=108):((Frm.A f).toList.take 4++(bA b).toList++(Frm.A f).toList.drop (4+(bA b).size)).toArray=Frm.A { f with data:=b }:=by
 have hs:=hf.len
 rw [Frm.A_def,Frm.A_def,Za6,hb,bA_def]
 unfold Frm.cl
 apply Array.ext'
 simp [hs]
def JFramePost (w:World) (x:Rcd) (i:Nat) (e:Ending) (w':World):Prop:=e=.returned (.agg (Frm.A (x.frm i)))/\Ext w w'
set_option maxRecDepth 100000 in
set_option maxHeartbeats 1000000 in
theorem jframe_c (x:Rcd) (hx:x.Ok) (hl:x.blocks.length<=8) (a:Option Addr) (c:Nat) (w:World) (hb:BlksAt w a x.blocks) (i:Nat) (hi:i < 8) :
  Calls Tryz.prog 187 #[.agg (x.V a c),.int .i64 i] w (JFramePost w x i):=by
 have hz:=Zav
 have HZ:=hid (Frm.A_size _ Za5)
 have HB:Hid (Tryz.prog.built 42 [(0,.int .i64 2),(1,.int .i64 i),(2,.int .i64 x.stripe),(3,.int .i64 x.seq)]=some (Frm.A ⟨2,i,x.stripe,x.seq,List.replicate 108 0⟩)):=hid (Zb2 2 i x.stripe x.seq)
 have hok0:(⟨2,i,x.stripe,x.seq,List.replicate 108 0⟩:Frm).Ok:=⟨by simp,by intro y hy; rw [(List.mem_replicate.1 hy).2]; omega⟩
 have HS0:=hid (Frm.A_size _ hok0)
 have HOK:=hid (Rcd.frm_ok x hx i)
 have HS1:=hid (Frm.A_size _ HOK.out)
 obtain ⟨F0,hF0⟩:∃ F,(⟨2,i,x.stripe,x.seq,List.replicate 108 0⟩:Frm)=F:=⟨_,rfl⟩
 -- the worlds
 obtain ⟨W0,hW0⟩:∃ W,w.alloc (.cells (x.V a c) 101)=W:=⟨_,rfl⟩
 have HX0:=hid (show Ext w W0 from hW0▸(Ext.refl w).alloc _)
 have HR0:=hid (show W0.heap[w.heap.size]?=some (.cells (x.V a c) 101 (0,0)) from hW0▸heap_alloc_new _ _)
 have hsz0:W0.heap.size=w.heap.size+1:=by rw [<- hW0]; simp
 obtain ⟨W1,hW1⟩:∃ W,W0.alloc (.cells (Frm.A Frm.zero) 42)=W:=⟨_,rfl⟩
 have HX1:=hid (show Ext W0 W1 from hW1▸(Ext.refl W0).alloc _)
 have HRES:=hid (show W1.heap[W0.heap.size]?=some (.cells (Frm.A Frm.zero) 42 (0,0)) from hW1▸heap_alloc_new _ _)
 have hsz1:W1.heap.size=w.heap.size+1+1:=by rw [<- hW1]; simp [hsz0]
 have hbs:(W1.alloc (.cells (Frm.A Frm.zero) 42)).heap[w.heap.size+1+1]?=some (.cells (Frm.A Frm.zero) 42 (0,0)):=by rw [<- hsz1]; exact heap_alloc_new _ _
 obtain ⟨W2,hW2⟩:∃ W,(W1.alloc (.cells (Frm.A Frm.zero) 42)).setRow (w.heap.size+1+1) (Frm.A F0)=W:=⟨_,rfl⟩
 have HW2:=hid hW2
 have X12:Ext W1 W2:=by rw [<- hW2]; exact Ext.then ((Ext.refl W1).alloc _) (Zad _ _ _) (fun i hi=>by omega)
 have HF2:Hid (W2.heap[w.heap.size+1+1]?=some (.cells (Frm.A F0) 42 (0,0))):=hid (by rw [<- hW2]; exact setRow_heap _ _ _ _ _ _ hbs)
 have hres2:W2.heap[w.heap.size+1]?=some (.cells (Frm.A Frm.zero) 42 (0,0)):=by rw [<- hsz0]; exact Ext.at X12 HRES.out
 have hrec2:W2.heap[w.heap.size]?=some (.cells (x.V a c) 101 (0,0)):=Ext.at X12 (Ext.at HX1.out HR0.out)
 have HX2:=hid (Ext.trans HX0.out (Ext.trans HX1.out X12))
 have c0:W1.cell? ⟨w.heap.size,0,none⟩=some (.int .i64 x.seq):=(Zae (Ext.at HX1.out HR0.out)).trans rfl
 have c1:W1.cell? ⟨w.heap.size,1,none⟩=some (.int .i64 x.stripe):=(Zae (Ext.at HX1.out HR0.out)).trans rfl
 have c2:W2.cell? ⟨w.heap.size,2,none⟩=some (.slice a x.blocks.length c):=(Zae hrec2).trans rfl
 have i0:(0:Int)<=(i:Int):=by omega
 have hF:x.frm i={ F0 with data:=x.blocks.getD i (List.replicate 108 0) }:=by rw [<- hF0]; rfl
 have hlen8:(x.blocks.length:Int)<=8:=by omega
 rw [hF0] at HB HS0 hok0
 have HRES2:=hid hres2
 clear hres2 hrec2 X12 hW2
 go_enter Tryz.func187,Tryz.ntmps187
 by_cases hlt:i < x.blocks.length
 ·
  have i1:(i:Int) < (x.blocks.length:Int):=by omega
  obtain ⟨g,rfl,hbc⟩:=hb i x.blocks[i] (List.getElem?_eq_getElem hlt)
  have hbl:x.blocks[i].length=108:=hx.len _ (List.getElem_mem hlt)
  have hgd:x.blocks.getD i (List.replicate 108 0)=x.blocks[i]:=by simp [List.getD_eq_getElem?_getD,hlt]
  rw [hgd] at hF
  generalize x.blocks[i]=b at *
  have HBC:Hid (∀ j v,(bA b).toList[j]?=some v->W2.cell? ((⟨g,i*108,none⟩:Addr).add j)=some v):=hid fun j v hv=>by
   have hj:j < 108:=by
    rcases Nat.lt_or_ge j 108 with q | q
    ·
     exact q
    ·
     rw [List.getElem?_eq_none (by rw [Array.length_toList,Za6]; omega)] at hv; cases hv
   have e:(⟨g,i*108,none⟩:Addr).add j=⟨g,i*108+j,none⟩:=by unfold Addr.add; split<;>simp_all
   rw [e,Ext.cell HX2.out (hbc j hj)]
   have:=Zbo b j (by omega)
   rw [<- Array.getElem?_toList] at this
   rw [<- hv,<- this]
  have HSB:Hid ((bA b).size=108):=hid (by rw [Za6,hbl])
  have HDT:=hid (Frm.A_data F0 hok0 b hbl)
  have hrow:(W2.setRow (w.heap.size+1+1) (Frm.A { F0 with data:=b })).heap[w.heap.size+1+1]?=some (.cells (Frm.A { F0 with data:=b }) 42 (0,0)):=setRow_heap _ _ _ _ _ _ HF2.out
  have hres3:(W2.setRow (w.heap.size+1+1) (Frm.A { F0 with data:=b })).heap[w.heap.size+1]?=some (.cells (Frm.A Frm.zero) 42 (0,0)):=(Zad _ _ _).at HRES2.out (by omega)
  rw [<- hF] at hrow hres3 HDT
  have HROW:=hid hrow; have HRES3:=hid hres3
  clear hrow hres3 hb hbc hbl hgd hF hok0 hF0
  go_wp2_with (first
   | (refine Zal rfl 42 _ rfl (Frm.A F0) ?_ ?_; (simp only [List.map_toArray,List.map_cons,List.map_nil,Act.eval]; simp only [Array.getD_eq_getD_getElem?,List.getElem?_toArray,List.getElem?_cons_succ,List.getElem?_cons_zero,Option.getD_some]; exact HB.out))
   | (refine Zaa rfl 42 _ _ rfl (w.heap.size+1+1) rfl (Frm.A F0) _ rfl 42 ?_ hbs ?_ ?_ ?_; (rw [HS0.out]; exact aggFrame); (rw [HS0.out,HZ.out]); exact Frm.A_one _; rw [HW2.out])
   | (refine Zab rfl 120 _ rfl ⟨g,i*108,none⟩ rfl (bA b) ?_ HBC.out ?_; (rw [HSB.out]; exact aggBlock))
   | (refine Zbn rfl 40 _ _ rfl (w.heap.size+1+1) 4 rfl (bA b) (Frm.A F0) rfl 42 ?_ HF2.out ?_ ?_ ?_; (rw [HSB.out]; exact agg108); (rw [HSB.out,HS0.out]; omega); exact bA_one _; rw [HDT.out])
   | (refine Zab rfl 42 _ rfl ⟨w.heap.size+1+1,0,none⟩ rfl (Frm.A (x.frm i)) ?_ (Zai HROW.out) ?_; (rw [HS1.out]; exact aggFrame))
   | (refine Zaa rfl 42 _ _ rfl (w.heap.size+1) rfl (Frm.A (x.frm i)) _ rfl 42 ?_ HRES3.out ?_ ?_ ?_; (rw [HS1.out]; exact aggFrame); (rw [HS1.out,HZ.out]); exact Frm.A_one _))
  --M1
  refine bodyPost_ret (results_cell_row Tryz.results187 _ _ (w.heap.size+1) _ (Frm.A (x.frm i)) _ _ rfl (setRow_heap _ _ _ _ _ _ HRES3.out) Tryz.underlying42 rfl (by rw [HS1.out]; exact aggFrame.2)) rfl ?_
  exact ⟨rfl,Ext.then (Ext.then HX2.out (Zad _ _ _) (fun i hi=>by omega)) (Zad _ _ _) (fun i hi=>by omega)⟩
 ·
  have i1:¬(i:Int) < (x.blocks.length:Int):=by omega
  have hgd:x.blocks.getD i (List.replicate 108 0)=List.replicate 108 0:=by simp [List.getD_eq_getElem?_getD,Nat.le_of_not_lt hlt]
  have hF1:x.frm i=F0:=by rw [hF,hgd,<- hF0]
  have HF1:=hid hF1
  have hrow2:=HF2.out
  rw [<- HF1.out] at hrow2
  have HROW:=hid hrow2
  clear hb hgd hF hok0 hF0 hF1 hrow2
  go_wp2_with (first
   | (refine Zal rfl 42 _ rfl (Frm.A F0) ?_ ?_; (simp only [List.map_toArray,List.map_cons,List.map_nil,Act.eval]; simp only [Array.getD_eq_getD_getElem?,List.getElem?_toArray,List.getElem?_cons_succ,List.getElem?_cons_zero,Option.getD_some]; exact HB.out))
   | (refine Zaa rfl 42 _ _ rfl (w.heap.size+1+1) rfl (Frm.A F0) _ rfl 42 ?_ hbs ?_ ?_ ?_; (rw [HS0.out]; exact aggFrame); (rw [HS0.out,HZ.out]); exact Frm.A_one _; rw [HW2.out])
   | (refine Zab rfl 42 _ rfl ⟨w.heap.size+1+1,0,none⟩ rfl (Frm.A (x.frm i)) ?_ (Zai HROW.out) ?_; (rw [HS1.out]; exact aggFrame))
   | (refine Zaa rfl 42 _ _ rfl (w.heap.size+1) rfl (Frm.A (x.frm i)) _ rfl 42 ?_ HRES2.out ?_ ?_ ?_; (rw [HS1.out]; exact aggFrame); (rw [HS1.out,HZ.out]); exact Frm.A_one _))
  refine bodyPost_ret (results_cell_row Tryz.results187 _ _ (w.heap.size+1) _ (Frm.A (x.frm i)) _ _ rfl (setRow_heap _ _ _ _ _ _ HRES2.out) Tryz.underlying42 rfl (by rw [HS1.out]; exact aggFrame.2)) rfl ?_
  exact ⟨rfl,Ext.then HX2.out (Zad _ _ _) (fun i hi=>by omega)⟩
set_option maxRecDepth 100000 in
set_option maxHeartbeats 1000000 in
theorem jknown_c {S:Nat->Prop} {w:World} {r:Nat} {R:Rck} (h:RackAt S w r R) (c:Cfg) (slot:Int) :
  Calls Tryz.prog 139 #[.pointer (some ⟨r,0,none⟩),.agg (Cfg.A c),.int .i64 slot] w fun e w'=>e=.returned (.bool (R.jknown c slot))/\Ext w w':=by
 obtain ⟨W0,hW0⟩:∃ W,w.alloc (.cells (Cfg.A c) 74)=W:=⟨_,rfl⟩
 have X0:Ext w W0:=hW0▸(Ext.refl w).alloc _
 have HC:=hid (show W0.heap[w.heap.size]?=some (.cells (Cfg.A c) 74 (0,0)) from hW0▸heap_alloc_new _ _)
 have HX0:=hid X0
 have H0:=hid (h.ext X0)
 have HF:Hid (R.jknown c slot=(R.fits c && decide (0<=slot) && decide (slot < c.slots))):=hid rfl
 obtain ⟨kb,hkb⟩:∃ b,R.jknown c slot=b:=⟨_,rfl⟩
 rw [hkb] at HF ⊢
 clear X0 h hkb
 go_enter Tryz.func139,Tryz.ntmps139
 go_wp2_with (refine Zab rfl 74 _ rfl ⟨w.heap.size,0,none⟩ rfl (Cfg.A c) (Zas c) (Zai HC.out) ?_)
 refine (sfits_c H0.out c).mono ?_
 rintro e w2 ⟨rfl,x2⟩
 have HX2:=hid (Ext.trans HX0.out x2)
 have c4:w2.cell? ⟨w.heap.size,4,none⟩=some (.int .i64 c.slots):=(Zae (Ext.at x2 HC.out)).trans (Cfg.A4 c)
 clear x2
 rcases hf:R.fits c with _ | _
 ·
  have HV:=hid (show kb=false by rw [HF.out,hf]; rfl)
  clear hf
  go_wp2
  go_ret
  exact ⟨Zat HV.out.symm,HX2.out⟩
 ·
  by_cases h0:0<=slot
  ·
   have HV:=hid (show kb=decide (slot < c.slots) by rw [HF.out,hf,decide_eq_true h0]; rfl)
   clear hf
   go_wp2
   go_ret
   exact ⟨Zat HV.out.symm,HX2.out⟩
  ·
   have HV:=hid (show kb=false by rw [HF.out,hf,decide_eq_false h0]; rfl)
   clear hf
   go_wp2
   go_ret
   exact ⟨Zat HV.out.symm,HX2.out⟩
def PutT (S:Nat->Prop) (n m:Nat) (b:Nat):Prop:=S b\/(n<=b/\b < m)
theorem RackAt.disks8 {S:Nat->Prop} {w:World} {r:Nat} {R:Rck} (h:RackAt S w r R):R.l.length<=8:=by
 obtain ⟨_,K,_,h2,_⟩:=h
 have:=h2.small
 rw [h2.len]; omega
theorem Rck.online_len (R:Rck):R.online.length<=R.l.length:=by
 unfold Rck.online
 have:=List.length_filter_le (fun i:Nat=>R.up i) (List.range R.l.length)
 simpa using this
theorem each_cut {α:Type} {f:Rck->α->Option Err × Rck} {l:List α} {i:Nat} {b:α} {R R1:Rck} (hi:l[i]?=some b) (h:each f (l.take i) R=(none,R1)):each f l R=each f (b::l.drop (i+1)) R1:=by
 have hlt:i < l.length:=by
  rcases Nat.lt_or_ge i l.length with q | q
  ·
   exact q
  ·
   rw [List.getElem?_eq_none q] at hi; cases hi
 have e:l=l.take i++(b::l.drop (i+1)):=by
  rw [List.getElem?_eq_getElem hlt] at hi
  rw [<- Option.some.inj hi,<- List.drop_eq_getElem_cons hlt,List.take_append_drop]
 conv=>lhs; rw [e,each_app,h]
theorem each_mid {α:Type} {f:Rck->α->Option Err × Rck} {l:List α} {i:Nat} {b:α} {R R1 R2:Rck} {er:Err} (hi:l[i]?=some b) (h:each f (l.take i) R=(none,R1)) (h2:f R1 b=(some er,R2)):each f l R=(some er,R2):=(each_cut hi h).trans (each_err h2)
theorem each_next {α:Type} {f:Rck->α->Option Err × Rck} {l:List α} {i:Nat} {b:α} {R R1 R2:Rck} (hi:l[i]?=some b) (h:each f (l.take i) R=(none,R1)) (h2:f R1 b=(none,R2)):each f (l.take (i+1)) R=(none,R2):=by
 have hlt:i < l.length:=by
  rcases Nat.lt_or_ge i l.length with q | q
  ·
   exact q
  ·
   rw [List.getElem?_eq_none q] at hi; cases hi
 rw [List.getElem?_eq_getElem hlt] at hi
 rw [List.take_succ_eq_append_getElem hlt,Option.some.inj hi,each_app,h]
 exact (each_ok (l:=[]) h2).trans rfl
theorem range_take (K i:Nat) (h:i<=K):(List.range K).take i=List.range i:=by
 rw [List.take_range,Nat.min_eq_left h]
structure JPut (S:Nat->Prop) (w W:World) (r:Nat) (R:Rck) (wr:World):Prop where
 rack:RackAt (PutT S w.heap.size W.heap.size) wr r R
 keeps:Only (fun b=>¬PutT S w.heap.size W.heap.size b) W wr
theorem JPut.out {S:Nat->Prop} {w W:World} {r:Nat} {R:Rck} {wr:World} (h:JPut S w W r R wr) (e:Ext w W):RackAt S wr r R/\Keeps S w wr :=
 ⟨h.rack.less fun b hb=>.inl hb,Only.trans (Ext.only e) h.keeps fun b _ hb q=>hb (.inl q)⟩
theorem JPut.step {S:Nat->Prop} {w W:World} {r:Nat} {R R2:Rck} {wr w4:World} (h:JPut S w W r R wr) (h4:RackAt (PutT S w.heap.size W.heap.size) w4 r R2) (k:Keeps (PutT S w.heap.size W.heap.size) wr w4):JPut S w W r R2 w4 :=
 ⟨h4,Only.trans h.keeps k fun _ _ q=>q⟩
theorem aggRec:AggType Tryz.prog 101 3:=⟨by kernel_rfl,by kernel_rfl⟩
attribute [local irreducible] wpSQ
set_option maxRecDepth 100000 in
set_option maxHeartbeats 2000000 in
theorem jput_c {S:Nat->Prop} {w:World} {r:Nat} {R:Rck} (h:RackAt S w r R) (c:Cfg) (hc:c.Good) (slot:Int) (h0:0<=slot) (h1:slot < c.slots) (x:Rcd) (hx:x.Ok) (hl:x.blocks.length<=8) (a:Option Addr) (cp:Nat)
  (hb:BlksAt w a x.blocks) (ha:∀ g,a=some ⟨g,0,none⟩->S g) :
  Calls Tryz.prog 140 #[.pointer (some ⟨r,0,none⟩),.agg (Cfg.A c),.int .i64 slot,.agg (x.V a cp)] w fun e w'=>e=.returned (oErr (R.jput c slot x).1)/\RackAt S w' r (R.jput c slot x).2/\Keeps S w w':=by
 obtain ⟨W0,hW0⟩:∃ W,w.alloc (.cells (Cfg.A c) 74)=W:=⟨_,rfl⟩
 have x0:Ext w W0:=hW0▸(Ext.refl w).alloc _
 have hc0:W0.heap[w.heap.size]?=some (.cells (Cfg.A c) 74 (0,0)):=hW0▸heap_alloc_new _ _
 have hsz0:W0.heap.size=w.heap.size+1:=by rw [<- hW0]; simp
 obtain ⟨W1,hW1⟩:∃ W,W0.alloc (.cells (x.V a cp) 101)=W:=⟨_,rfl⟩
 have x1:Ext W0 W1:=hW1▸(Ext.refl W0).alloc _
 have hc1:W1.heap[w.heap.size+1]?=some (.cells (x.V a cp) 101 (0,0)):=by rw [<- hsz0]; exact hW1▸heap_alloc_new _ _
 have H:=hid h
 have HX1:=hid (Ext.trans x0 x1)
 have HC1:=hid (Ext.at x1 hc0)
 have HD1:=hid hc1
 have HBL:=hid hb
 have HGC:=hid hc
 clear x0 x1 hc0 hc1 h hb
 go_enter Tryz.func140,Tryz.ntmps140
 go_wp2_with fail
 refine (at_online (H.out.ext HX1.out)).mono ?_
 rintro e W2 ⟨v,rfl,hown,x2⟩
 obtain ⟨oa,oc,rfl,hcell⟩:=hown.slice
 obtain ⟨L,hL⟩:∃ L,R.online=L:=⟨_,rfl⟩
 have hLn:L.length<=8:=by rw [<- hL]; have:=R.online_len; have:=H.out.disks8; omega
 have HL:=hid hL
 rw [hL] at hcell ⊢
 obtain ⟨K,hK⟩:∃ K:Nat,c.k=(K:Int):=⟨c.k.toNat,by have:=hc.k0; omega⟩
 have hK8:K<=8:=by have:=hc.k1; have:=hc.n1; omega
 have HK:=hid hK
 have hXX:=Ext.trans HX1.out x2
 have HX2:=hid hXX
 have hcW:W2.heap[w.heap.size]?=some (.cells (Cfg.A c) 74 (0,0)):=Ext.at x2 HC1.out
 have hdW:W2.heap[w.heap.size+1]?=some (.cells (x.V a cp) 101 (0,0)):=Ext.at x2 HD1.out
 have hlt:=lt_of_block hdW
 have HCW:=hid hcW; have HDW:=hid hdW
 have HBW:=hid (HBL.out.ext hXX)
 have HSG:Hid (∀ g,a=some ⟨g,0,none⟩->¬ ¬PutT S w.heap.size W2.heap.size g):=hid fun g hg q=>q (.inl (ha g hg))
 have HPC:Hid (PutT S w.heap.size W2.heap.size w.heap.size/\PutT S w.heap.size W2.heap.size (w.heap.size+1)):=hid ⟨.inr ⟨Nat.le_refl _,by omega⟩,.inr ⟨by omega,hlt⟩⟩
 have HON:Hid (∀ wr,Only (fun b=>¬PutT S w.heap.size W2.heap.size b) W2 wr->∀ j d:Nat,L[j]?=some d->∃ g,oa=some ⟨g,0,none⟩/\wr.cell? ⟨g,j,none⟩=some (.int .i64 d)):=hid fun wr e j d hd=>by
  rcases hcell with ⟨q,_⟩ | ⟨g,q1,q2,q3,q4,q5⟩
  ·
   subst q; simp at hd
  ·
   have hjl:j < L.length:=by
    rcases Nat.lt_or_ge j L.length with q | q
    ·
     exact q
    ·
     rw [List.getElem?_eq_none q] at hd; cases hd
   refine ⟨g,q1,e.cell ?_ (fun q=>q (.inr ⟨Nat.le_trans HX1.out.size q2,q3⟩))⟩
   rw [q5 j hjl]
   have:L.getD j 0=d:=by rw [List.getD_eq_getElem?_getD,hd]; rfl
   rw [this]; rfl
 have HST:Hid (JPut S w W2 r R W2):=hid ⟨H.out.more hXX fun b hb=>by
  have:=hXX.size
  rcases hb with hb | hb
  ·
   exact ⟨by have:=H.out.there b hb; omega,.inl hb⟩
  ·
   exact ⟨hb.2,.inr hb.1⟩,Only.refl _ _⟩
 clear hcell hown x2 hXX hcW hdW hlt hK hL hc
 go_wp2
 go_loopw [19] (fun v wr=>∃ (j:Nat) (Rj:Rck),v=.int .i64 j/\j<=L.length/\each (Rck.jrow c slot x) (L.take j) R=(none,Rj)/\JPut S w W2 r Rj wr) (fun v _=>L.length - (intOf v).toNat)
 case atStart=>exact ⟨0,R,rfl,by omega,rfl,HST.out⟩
 case round =>
  clear HST
  obtain ⟨j,Rj,rfl,hj,hej,hst⟩:=hrel
  have HEJ:=hid hej; have HS:=hid hst
  clear hej hst
  by_cases hlt:j < L.length
  ·
   have j0:(0:Int)<=(j:Int):=by omega
   have j1:(j:Int) < (L.length:Int):=by omega
   obtain ⟨d,hd⟩:∃ d,L[j]?=some d:=⟨L[j],List.getElem?_eq_getElem hlt⟩
   obtain ⟨g,rfl,cd⟩:=HON.out wr HS.out.keeps j d hd
   have ck:wr.cell? ⟨w.heap.size,1,none⟩=some (.int .i64 K):=(Zae (HS.out.keeps.at HCW.out (fun q=>q HPC.out.1))).trans (by rw [Cfg.A1,HK.out])
   have HD:=hid hd
   clear hd
   go_wp2
   go_loopw [25] (fun v wr=>∃ (i:Nat) (Ri:Rck),v=.int .i64 i/\i<=K/\each (fun R i=>R.write d (Rck.jsec c slot i) (x.frm i).put) (List.range i) Rj=(none,Ri)/\JPut S w W2 r Ri wr) (fun v _=>K - (intOf v).toNat)
   case atStart=>exact ⟨0,Rj,rfl,by omega,rfl,HS.out⟩
   case round =>
    clear HS
    obtain ⟨i,Ri,rfl,hi,hei,hst⟩:=hrel
    have HEI:=hid hei; have HS:=hid hst
    clear hei hst
    by_cases hli:i < K
    ·
     have i0:(0:Int)<=(i:Int):=by omega
     have i1:(i:Int) < (K:Int):=by omega
     --M2
     go_wp2_with fail
     have xd:Ext wr wr.drew:=(Ext.refl wr).drew
     have base:Hid (∀ y:SW Ext wr.drew,Only (fun b=>¬PutT S w.heap.size W2.heap.size b) W2 y.w):=hid fun y=>Only.ext HS.out.keeps (Ext.trans xd y.ext)
     have lc:Hid (∀ y:SW Ext wr.drew,∀ j v,(Cfg.A c).toList[j]?=some v->y.w.cell? ((⟨w.heap.size,0,none⟩:Addr).add j)=some v):=hid fun y=>Zai ((base.out y).at HCW.out (fun q=>q HPC.out.1))
     have lr:Hid (∀ y:SW Ext wr.drew,∀ j v,(x.V a cp).toList[j]?=some v->y.w.cell? ((⟨w.heap.size+1,0,none⟩:Addr).add j)=some v):=hid fun y=>Zai ((base.out y).at HDW.out (fun q=>q HPC.out.2))
     have sc:Hid (∀ y:SW Ext wr.drew,Calls Tryz.prog 186 #[.agg (Cfg.A c),.int .i64 slot,.int .i64 i] y.w fun e w''=>e=.returned (.int .i64 (Rck.jsec c slot i))/\Ext y.w w''):=hid fun y=>jsector_c c HGC.out slot h0 h1 i (by omega) y.w
     have fc:Hid (∀ y:SW Ext wr.drew,Calls Tryz.prog 187 #[.agg (x.V a cp),.int .i64 i] y.w fun e w''=>e=.returned (.agg (Frm.A (x.frm i)))/\Ext y.w w''):=hid fun y=>jframe_c x hx hl a cp y.w (HBW.out.only (base.out y) HSG.out) i (by omega)
     refine Zaq (S:=Ext) 10 (.one [0,1,2,3,4,5,6,7,8] 9 (.fin [])) (by kernel_rfl) (by kernel_rfl) (fun _ _ d _ _ h=>by cases d<;>exact h) ?_
     rw [wpS]
     simp only [opsAt,opA,opB,opC,opD,opE,opF,opG]
     iterate 2 ((refine Zac (fun K hK=>?_); go_simp; refine hK _ ?_; clear hK K))
     refine Zap 74 _ rfl ⟨w.heap.size,0,none⟩ rfl (Cfg.A c) rfl (Zas c) lc.out ?_
     iterate 2 ((refine Zac (fun K hK=>?_); go_simp; refine hK _ ?_; clear hK K))
     (refine Zac (fun K hK=>?_); go_simp; (apply Exists.intro; refine ⟨fun x=>?_,hK _ ?_⟩; (exact sc.out x); clear hK K))
     refine Zap 101 _ rfl ⟨w.heap.size+1,0,none⟩ rfl (x.V a cp) rfl aggRec lr.out ?_
     (refine Zac (fun K hK=>?_); go_simp; refine hK _ ?_; clear hK K)
     (refine Zac (fun K hK=>?_); go_simp; (apply Exists.intro; refine ⟨fun x=>?_,hK _ ?_⟩; (exact fc.out x); clear hK K))
     refine Zak ?_
     intro V1 hV1
     refine Zay fun Q hQ=>?_
     --M3
     go_wp2_with fail
     refine (fput_b (x.frm i) V1 (Rcd.frm_ok x hx i)).mono ?_
     rintro e V2 ⟨fa,fn,rfl,hbt,_,xf⟩
     go_wp2
     refine hQ _ _ xf ?_
     clear hQ Q
     rw [wpS]
     simp only [opsAt,List.map_nil]
     refine Zak ?_
     intro V3 hV3
     have X3:=Ext.trans xd (Ext.trans hV1 (Ext.trans xf hV3))
     have HB3:=hid (hbt.ext hV3)
     have HR3:=hid (HS.out.rack.ext X3)
     have HK3:Hid (Only (fun b=>¬PutT S w.heap.size W2.heap.size b) W2 V3):=hid (Only.ext HS.out.keeps X3)
     clear base lc lr sc fc hV1 hV3 hbt xf X3 xd
     simp only [List.drop_succ_cons,List.drop_zero]
     --M4
     go_wp2_with fail
     refine (at_write HR3.out d (Rck.jsec c slot i) fa fn fn _ HB3.out).mono ?_
     rintro e V4 ⟨rfl,h4,k4⟩
     rcases hw:Ri.write d (Rck.jsec c slot i) (x.frm i).put with ⟨o,Rn⟩
     rw [hw] at h4
     simp only at h4 ⊢
     have HST4:Hid (JPut S w W2 r Rn V4):=hid ⟨h4,Only.trans HK3.out k4 fun _ _ q=>q⟩
     have HW:=hid hw
     clear h4 k4 hw
     rcases o with _ | er
     ·
      have HE1:Hid (each (fun R i=>R.write d (Rck.jsec c slot i) (x.frm i).put) (List.range (i+1)) Rj=(none,Rn)):=hid (by
       rw [List.range_succ,each_app,HEI.out]
       exact (each_ok (l:=[]) HW.out).trans rfl)
      simp only [oErr]
      go_wp2
      go_roundw
      case rel=>exact ⟨i+1,Rn,by go_num,by omega,HE1.out,HST4.out⟩
      case measure=>simp [intOf]; omega
     ·
      --M5
      have HR:Hid (R.jput c slot x=(some er,Rn)):=hid (by
       have e1:Rck.jrow c slot x Rj d=(some er,Rn):=by
        have:c.k.toNat=K:=by rw [HK.out]; rfl
        unfold Rck.jrow
        rw [this]
        exact each_mid (i:=i) (b:=i) (by rw [List.getElem?_range hli]) (by rw [range_take K i (by omega)]; exact HEI.out) HW.out
       have e2:each (Rck.jrow c slot x) R.online R=(some er,Rn):=by rw [HL.out]; exact each_mid HD.out HEJ.out e1
       unfold Rck.jput
       rw [e2])
      obtain ⟨t2,v2,hq⟩:∃ t v,er.val=.iface t v:=by cases er<;>exact ⟨_,_,rfl⟩
      have HQ:=hid hq
      simp only [oErr]
      rw [hq]
      clear hq
      go_wp2
      go_ret
      rw [HR.out]
      exact ⟨by rw [<- HQ.out]; rfl,(HST4.out.out HX2.out).1,(HST4.out.out HX2.out).2⟩
    ·
     obtain rfl:i=K:=by omega
     have HE2:Hid (each (Rck.jrow c slot x) (L.take (j+1)) R=(none,Ri)):=hid (each_next HD.out HEJ.out (by
      have:c.k.toNat=i:=by rw [HK.out]; rfl
      unfold Rck.jrow
      rw [this]
      exact HEI.out))
     go_wp2
     --M6
     exact ⟨⟨j+1,Ri,by go_num,by omega,HE2.out,HS.out⟩,by simp [intOf]; omega⟩
  ·
   obtain rfl:j=L.length:=by omega
   have HR:Hid (R.jput c slot x=each (fun R d=>R.flush (d:Nat)) Rj.online Rj):=hid (by
    have e2:each (Rck.jrow c slot x) R.online R=(none,Rj):=by rw [HL.out,<- HEJ.out,List.take_length]
    unfold Rck.jput
    rw [e2])
   clear HON HEJ
   go_wp2_with fail
   --M7
   refine (at_online HS.out.rack).mono ?_
   rintro e W3 ⟨v,rfl,hown,x3⟩
   obtain ⟨oa2,oc2,rfl,hcell⟩:=hown.slice
   obtain ⟨L2,hL2⟩:∃ L,Rj.online=L:=⟨_,rfl⟩
   have hLn2:L2.length<=8:=by rw [<- hL2]; have:=Rj.online_len; have:=HS.out.rack.disks8; omega
   rw [hL2] at hcell ⊢
   have HL2:=hid hL2
   have HOUT:=hid (HS.out.out HX2.out)
   have HON:Hid (∀ wx,Only (fun b=>¬PutT S wr.heap.size W3.heap.size b) W3 wx->∀ j d:Nat,L2[j]?=some d->∃ g,oa2=some ⟨g,0,none⟩/\wx.cell? ⟨g,j,none⟩=some (.int .i64 d)):=hid fun wx e j d hd=>by
    rcases hcell with ⟨q,_⟩ | ⟨g,q1,q2,q3,q4,q5⟩
    ·
     subst q; simp at hd
    ·
     have hjl:j < L2.length:=by
      rcases Nat.lt_or_ge j L2.length with q | q
      ·
       exact q
      ·
       rw [List.getElem?_eq_none q] at hd; cases hd
     refine ⟨g,q1,e.cell ?_ (fun q=>q (.inr ⟨q2,q3⟩))⟩
     rw [q5 j hjl]
     have:L2.getD j 0=d:=by rw [List.getD_eq_getElem?_getD,hd]; rfl
     rw [this]; rfl
   have HK3:Hid (Keeps S w W3):=hid (Only.ext HOUT.out.2 x3)
   have HST:Hid (JPut S wr W3 r Rj W3):=hid ⟨HOUT.out.1.more x3 fun b hb=>by
    have:=x3.size
    rcases hb with hb | hb
    ·
     exact ⟨by have:=HOUT.out.1.there b hb; omega,.inl hb⟩
    ·
     exact ⟨hb.2,.inr hb.1⟩,Only.refl _ _⟩
   have HKO:Hid (∀ wx Rx,JPut S wr W3 r Rx wx->RackAt S wx r Rx/\Keeps S w wx):=hid fun wx Rx q=>⟨q.rack.less fun b hb=>.inl hb,Only.trans HK3.out q.keeps fun b _ hb q=>hb (.inl q)⟩
   clear hcell hown x3 hL2 HS
   go_wp2
   go_loopw [47] (fun v wx=>∃ (m:Nat) (Rm:Rck),v=.int .i64 m/\m<=L2.length/\each (fun R d=>R.flush (d:Nat)) (L2.take m) Rj=(none,Rm)/\JPut S wr W3 r Rm wx) (fun v _=>L2.length - (intOf v).toNat)
   case atStart=>exact ⟨0,Rj,rfl,by omega,rfl,HST.out⟩
   case round =>
    clear HST
    obtain ⟨m,Rm,rfl,hm,hem,hst⟩:=hrel
    have HEM:=hid hem; have HS:=hid hst
    clear hem hst
    by_cases hlt2:m < L2.length
    ·
     have j0:(0:Int)<=(m:Int):=by omega
     have j1:(m:Int) < (L2.length:Int):=by omega
     obtain ⟨d,hd⟩:∃ d,L2[m]?=some d:=⟨L2[m],List.getElem?_eq_getElem hlt2⟩
     obtain ⟨g,rfl,cd⟩:=HON.out wr HS.out.keeps m d hd
     have HD:=hid hd
     clear hd
     go_wp2_with fail
     --M8
     refine (at_flush HS.out.rack d).mono ?_
     rintro e W4 ⟨rfl,h4,k4⟩
     rcases hw:Rm.flush d with ⟨o,Rn⟩
     rw [hw] at h4
     simp only at h4 ⊢
     have HST4:=hid (JPut.step HS.out h4 k4)
     have HW:=hid hw
     clear h4 k4 hw
     rcases o with _ | er
     ·
      have HE1:=hid (each_next (f:=fun R d=>R.flush (d:Nat)) HD.out HEM.out HW.out)
      simp only [oErr]
      go_wp2
      exact ⟨⟨m+1,Rn,by go_num,by omega,HE1.out,HST4.out⟩,by simp [intOf]; omega⟩
     ·
      have HE3:Hid (R.jput c slot x=(some er,Rn)):=hid (by rw [HR.out,HL2.out]; exact each_mid HD.out HEM.out HW.out)
      obtain ⟨t2,v2,hq⟩:∃ t v,er.val=.iface t v:=by cases er<;>exact ⟨_,_,rfl⟩
      have HQ:=hid hq
      simp only [oErr]
      rw [hq]
      clear hq
      go_wp2
      go_ret
      rw [HE3.out]
      exact ⟨by rw [<- HQ.out]; rfl,HKO.out _ _ HST4.out⟩
    ·
     obtain rfl:m=L2.length:=by omega
     have HE3:Hid (R.jput c slot x=(none,Rm)):=hid (by rw [HR.out,HL2.out,<- HEM.out,List.take_length])
     go_wp2
     --M9
     go_ret
     rw [HE3.out]
     exact ⟨rfl,HKO.out _ _ HS.out⟩
end Go.Proofs.YtgjnnbomnoafcaaGreatDoor
namespace Go.Proofs.YtgjnnbomnoafcaaGreatDoor
set_option linter.unusedVariables false
open Go Go.RowKit
attribute [local irreducible] wpSQ
set_option maxRecDepth 100000 in
set_option maxHeartbeats 1000000 in
theorem jblank_c {S:Nat->Prop} {w:World} {r:Nat} {R:Rck} (h:RackAt S w r R) (c:Cfg) (slot:Int) :
  Calls Tryz.prog 54 #[.pointer (some ⟨r,0,none⟩),.agg (Cfg.A c),.int .i64 slot] w fun e w'=>e=.returned (oErr (R.jblank c slot).1)/\RackAt S w' r (R.jblank c slot).2/\Keeps S w w':=by
 obtain ⟨W0,hW0⟩:∃ W,w.alloc (.cells (Cfg.A c) 74)=W:=⟨_,rfl⟩
 have X0:Ext w W0:=hW0▸(Ext.refl w).alloc _
 have HC:=hid (show W0.heap[w.heap.size]?=some (.cells (Cfg.A c) 74 (0,0)) from hW0▸heap_alloc_new _ _)
 have HX0:=hid X0
 have H0:=hid (h.ext X0)
 have HB0:Hid (R.jblank c slot=if R.jknown c slot=true then ((R.jput c slot Rcd.none_).1.map (.fault sJBlank slot),(R.jput c slot Rcd.none_).2) else (some (.fault sJBlank slot (.no 1)),R)):=hid rfl
 have HKN:=hid (fun hk:R.jknown c slot=true=>(show c.Good/\0<=slot/\slot < c.slots from by
  unfold Rck.jknown at hk
  simp only [Bool.and_eq_true,decide_eq_true_eq] at hk
  have hf:=hk.1.1
  unfold Rck.fits at hf
  simp only [Bool.and_eq_true,decide_eq_true_eq] at hf
  exact ⟨(Cfg.right_iff c).1 hf.1.1,hk.1.2,hk.2⟩))
 clear X0 h
 go_enter Tryz.func54,Tryz.ntmps54
 go_wp2_with (refine Zab rfl 74 _ rfl ⟨w.heap.size,0,none⟩ rfl (Cfg.A c) (Zas c) (Zai HC.out) ?_)
 refine (jknown_c H0.out c slot).mono ?_
 rintro e w2 ⟨rfl,x2⟩
 rcases hk:R.jknown c slot with _ | _
 ·
  have HV:=hid (show R.jblank c slot=(some (.fault sJBlank slot (.no 1)),R) by rw [HB0.out,hk]; rfl)
  have HX2:=hid (Ext.trans HX0.out x2)
  have H2:=hid (H0.out.ext x2)
  have HW:=hid (Za3 sJBlank slot (.no 1) w2)
  simp only [Err.val] at HW
  clear hk HB0 HKN x2 HC
  go_wp2_with fail
  refine HW.out.mono ?_
  rintro e w3 ⟨rfl,rfl⟩
  go_wp2
  go_ret
  rw [HV.out]
  exact ⟨rfl,H2.out,Ext.only HX2.out⟩
 ·
  obtain ⟨g1,g2,g3⟩:=HKN.out hk
  have HV:=hid (show R.jblank c slot=((R.jput c slot Rcd.none_).1.map (.fault sJBlank slot),(R.jput c slot Rcd.none_).2) by rw [HB0.out,hk]; rfl)
  have HX2:=hid (Ext.trans HX0.out x2)
  have H2:=hid (H0.out.ext x2)
  have HC2:=hid (Ext.at x2 HC.out)
  clear hk HB0 HKN x2 HC
  go_wp2_with (first
   | (refine Zab rfl 74 _ rfl ⟨w.heap.size,0,none⟩ rfl (Cfg.A c) (Zas c) (Zai HC2.out) ?_)
   | (refine Zal rfl 101 _ rfl (Rcd.none_.V none 0) (by kernel_rfl) ?_))
  refine (jput_c H2.out c g1 slot g2 g3 Rcd.none_ ⟨(by intro b hb; cases hb),(by intro b hb; cases hb)⟩ (Nat.zero_le _) none 0 (by intro i b hb; simp [Rcd.none_] at hb) (by intro g hg; cases hg)).mono ?_
  rintro e w3 ⟨rfl,h3,k3⟩
  rcases hp:R.jput c slot Rcd.none_ with ⟨o,Rn⟩
  rw [hp] at HV h3
  simp only at h3 ⊢
  have H3:=hid h3
  have K3:Hid (Keeps S w w3):=hid (Only.trans (Ext.only HX2.out) k3 fun _ _ x=>x)
  clear h3 k3 hp g1 g2 g3
  rcases o with _ | er
  ·
   simp only [oErr]
   go_wp2_with fail
   refine (wrap_nil sJBlank slot w3).mono ?_
   rintro e w4 ⟨rfl,rfl⟩
   go_wp2
   go_ret
   rw [HV.out]
   exact ⟨rfl,H3.out,K3.out⟩
  ·
   have HW:=hid (Za3 sJBlank slot er w3)
   obtain ⟨t2,v2,hq⟩:∃ t v,er.val=.iface t v:=by cases er<;>exact ⟨_,_,rfl⟩
   simp only [oErr]
   rw [hq] at HW ⊢
   clear hq
   go_wp2_with fail
   refine HW.out.mono ?_
   rintro e w4 ⟨rfl,rfl⟩
   go_wp2
   go_ret
   rw [HV.out]
   exact ⟨rfl,H3.out,K3.out⟩
set_option maxRecDepth 100000 in
set_option maxHeartbeats 1000000 in
theorem jlog_c {S:Nat->Prop} {w:World} {r:Nat} {R:Rck} (h:RackAt S w r R) (c:Cfg) (x:Rcd) (hx:x.Ok) (a:Option Addr) (cp:Nat)
  (hb:BlksAt w a x.blocks) (ha:∀ g,a=some ⟨g,0,none⟩->S g) :
  Calls Tryz.prog 57 #[.pointer (some ⟨r,0,none⟩),.agg (Cfg.A c),.agg (x.V a cp)] w fun e w'=>e=.returned (oErr (R.jlog c x).1)/\RackAt S w' r (R.jlog c x).2/\Keeps S w w':=by
 obtain ⟨W0,hW0⟩:∃ W,w.alloc (.cells (Cfg.A c) 74)=W:=⟨_,rfl⟩
 have x0:Ext w W0:=hW0▸(Ext.refl w).alloc _
 have hc0:W0.heap[w.heap.size]?=some (.cells (Cfg.A c) 74 (0,0)):=hW0▸heap_alloc_new _ _
 have hsz0:W0.heap.size=w.heap.size+1:=by rw [<- hW0]; simp
 obtain ⟨W1,hW1⟩:∃ W,W0.alloc (.cells (x.V a cp) 101)=W:=⟨_,rfl⟩
 have x1:Ext W0 W1:=hW1▸(Ext.refl W0).alloc _
 have hc1:W1.heap[w.heap.size+1]?=some (.cells (x.V a cp) 101 (0,0)):=by rw [<- hsz0]; exact hW1▸heap_alloc_new _ _
 have HX1:=hid (Ext.trans x0 x1)
 have HC1:=hid (Ext.at x1 hc0)
 have HD1:=hid hc1
 have H1:=hid (h.ext HX1.out)
 have H:=hid h
 have HB0:Hid (R.jlog c x=if R.jlogOk c x=true then ((R.jput c (x.seq % c.slots) x).1.map (.fault sJLog x.seq),(R.jput c (x.seq % c.slots) x).2) else (some (.fault sJLog x.seq (.no 1)),R)):=hid rfl
 have HOK:Hid (R.jlogOk c x=true↔(((((R.fits c=true/\2<=x.seq)/\x.seq<=1152921504606846976)/\0<=x.stripe)/\x.stripe < c.stripes)/\(x.blocks.length:Int)=c.k)):=hid (by
  unfold Rck.jlogOk
  simp only [Bool.and_eq_true,decide_eq_true_eq])
 have HKN:=hid (fun hf:R.fits c=true=>(show c.Good from by
  unfold Rck.fits at hf
  simp only [Bool.and_eq_true,decide_eq_true_eq] at hf
  exact (Cfg.right_iff c).1 hf.1.1))
 have HBW:=hid (hb.ext HX1.out)
 have HG:=hid ha
 have HOKX:=hid hx
 clear x0 x1 hc0 hc1 h hb ha hx
 go_enter Tryz.func57,Tryz.ntmps57
 go_wp2_with (refine Zab rfl 74 _ rfl ⟨w.heap.size,0,none⟩ rfl (Cfg.A c) (Zas c) (Zai HC1.out) ?_)
 refine (sfits_c H1.out c).mono ?_
 rintro e w2 ⟨rfl,x2⟩
 have HX2:=hid (Ext.trans HX1.out x2)
 have H2:=hid (H1.out.ext x2)
 have HC2:=hid (Ext.at x2 HC1.out)
 have HD2:=hid (Ext.at x2 HD1.out)
 have HBL:=hid (HBW.out.ext x2)
 have d0:w2.cell? ⟨w.heap.size+1,0,none⟩=some (.int .i64 x.seq):=(Zae HD2.out).trans rfl
 have d1:w2.cell? ⟨w.heap.size+1,1,none⟩=some (.int .i64 x.stripe):=(Zae HD2.out).trans rfl
 have d2:w2.cell? ⟨w.heap.size+1,2,none⟩=some (.slice a x.blocks.length cp):=(Zae HD2.out).trans rfl
 have c1:w2.cell? ⟨w.heap.size,1,none⟩=some (.int .i64 c.k):=(Zae HC2.out).trans (Cfg.A1 c)
 have c3:w2.cell? ⟨w.heap.size,3,none⟩=some (.int .i64 c.stripes):=(Zae HC2.out).trans (Cfg.A3 c)
 have HW:=hid (Za3 sJLog x.seq (.no 1) w2)
 simp only [Err.val] at HW
 clear x2 HBW
 rcases hf:R.fits c with _ | _
 ·
  have HNE:=hid (show ¬R.fits c=true by rw [hf]; simp)
  clear hf
  have HV:=hid (show R.jlog c x=(some (.fault sJLog x.seq (.no 1)),R) by rw [HB0.out]; exact if_neg (by rw [HOK.out]; intro q; exact absurd q (by first | (exact fun q=>HNE.out q.1.1.1.1.1) | omega | (exact fun q=>HNE.out q.2))))
  clear HKN HB0 HOK HNE
  go_wp2_with fail
  refine HW.out.mono ?_
  rintro e w3 ⟨rfl,rfl⟩
  go_wp2
  go_ret
  rw [HV.out]
  exact ⟨rfl,H2.out,Ext.only HX2.out⟩
 ·
  have HF:=hid hf
  clear hf
  by_cases a0:2<=x.seq
  case neg =>
   have HNE:=hid a0
   have HV:=hid (show R.jlog c x=(some (.fault sJLog x.seq (.no 1)),R) by rw [HB0.out]; exact if_neg (by rw [HOK.out]; intro q; exact absurd q (by first | (exact fun q=>HNE.out q.1.1.1.1.1) | omega | (exact fun q=>HNE.out q.2))))
   clear HKN HB0 HOK HNE
   go_wp2_with fail
   refine HW.out.mono ?_
   rintro e w3 ⟨rfl,rfl⟩
   go_wp2
   go_ret
   rw [HV.out]
   exact ⟨rfl,H2.out,Ext.only HX2.out⟩
  by_cases a1:x.seq<=1152921504606846976
  case neg =>
   have HNE:=hid a1
   have HV:=hid (show R.jlog c x=(some (.fault sJLog x.seq (.no 1)),R) by rw [HB0.out]; exact if_neg (by rw [HOK.out]; intro q; exact absurd q (by first | (exact fun q=>HNE.out q.1.1.1.1.1) | omega | (exact fun q=>HNE.out q.2))))
   clear HKN HB0 HOK HNE
   go_wp2_with fail
   refine HW.out.mono ?_
   rintro e w3 ⟨rfl,rfl⟩
   go_wp2
   go_ret
   rw [HV.out]
   exact ⟨rfl,H2.out,Ext.only HX2.out⟩
  by_cases a2:0<=x.stripe
  case neg =>
   have HNE:=hid a2
   have HV:=hid (show R.jlog c x=(some (.fault sJLog x.seq (.no 1)),R) by rw [HB0.out]; exact if_neg (by rw [HOK.out]; intro q; exact absurd q (by first | (exact fun q=>HNE.out q.1.1.1.1.1) | omega | (exact fun q=>HNE.out q.2))))
   clear HKN HB0 HOK HNE
   go_wp2_with fail
   refine HW.out.mono ?_
   rintro e w3 ⟨rfl,rfl⟩
   go_wp2
   go_ret
   rw [HV.out]
   exact ⟨rfl,H2.out,Ext.only HX2.out⟩
  by_cases a3:x.stripe < c.stripes
  case neg =>
   have HNE:=hid a3
   have HV:=hid (show R.jlog c x=(some (.fault sJLog x.seq (.no 1)),R) by rw [HB0.out]; exact if_neg (by rw [HOK.out]; intro q; exact absurd q (by first | (exact fun q=>HNE.out q.1.1.1.1.1) | omega | (exact fun q=>HNE.out q.2))))
   clear HKN HB0 HOK HNE
   go_wp2_with fail
   refine HW.out.mono ?_
   rintro e w3 ⟨rfl,rfl⟩
   go_wp2
   go_ret
   rw [HV.out]
   exact ⟨rfl,H2.out,Ext.only HX2.out⟩
  by_cases a4:(x.blocks.length:Int)=c.k
  case neg =>
   have HNE:=hid a4
   have ab:((x.blocks.length:Int) != c.k)=true:=by simpa using a4
   have HV:=hid (show R.jlog c x=(some (.fault sJLog x.seq (.no 1)),R) by rw [HB0.out]; exact if_neg (by rw [HOK.out]; intro q; exact absurd q (by first | (exact fun q=>HNE.out q.1.1.1.1.1) | omega | (exact fun q=>HNE.out q.2))))
   clear HKN HB0 HOK HNE
   go_wp2_with fail
   refine HW.out.mono ?_
   rintro e w3 ⟨rfl,rfl⟩
   go_wp2
   go_ret
   rw [HV.out]
   exact ⟨rfl,H2.out,Ext.only HX2.out⟩
  have ab:((x.blocks.length:Int) != c.k)=false:=by simpa using a4
  have HV:=hid (show R.jlog c x=((R.jput c (x.seq % c.slots) x).1.map (.fault sJLog x.seq),(R.jput c (x.seq % c.slots) x).2) by rw [HB0.out]; exact if_pos (HOK.out.2 ⟨⟨⟨⟨⟨HF.out,a0⟩,a1⟩,a2⟩,a3⟩,a4⟩))
  have HGC:=hid (HKN.out HF.out)
  clear HKN HB0 HOK HW
  have HL8:=hid (show x.blocks.length<=8 by have:=HGC.out.k1; have:=HGC.out.n1; omega)
  have HS0:=hid (show 1<=c.slots from HGC.out.sl0)
  have hm:x.seq.tmod c.slots=x.seq % c.slots:=Int.tmod_eq_emod_of_nonneg (by omega)
  have hs0:¬c.slots=0:=by have:=HS0.out; omega
  have b0:0<=x.seq % c.slots:=Int.emod_nonneg _ (by have:=HS0.out; omega)
  have b1:x.seq % c.slots < c.slots:=Int.emod_lt_of_pos _ (by have:=HS0.out; omega)
  generalize hz:x.seq % c.slots=z at *
  have HB:=hid (And.intro b0 b1)
  go_wp2_with fail
  clear a0 a1 a2 a3 a4 b0 b1 hz HF
  have xd:Ext w2 w2.drew:=(Ext.refl w2).drew
  have base:Hid (∀ y:SW (Only fun b=>¬PutT S w.heap.size (w.heap.size+2) b) w2.drew,Only (fun b=>¬PutT S w.heap.size (w.heap.size+2) b) w2 y.w):=hid fun y=>Only.trans (Ext.only xd) y.ext fun _ _ q=>q
  have t0:PutT S w.heap.size (w.heap.size+2) w.heap.size:=.inr ⟨Nat.le_refl _,by omega⟩
  have t1:PutT S w.heap.size (w.heap.size+2) (w.heap.size+1):=.inr ⟨by omega,by omega⟩
  have lc:Hid (∀ y:SW (Only fun b=>¬PutT S w.heap.size (w.heap.size+2) b) w2.drew,∀ j v,(Cfg.A c).toList[j]?=some v->y.w.cell? ((⟨w.heap.size,0,none⟩:Addr).add j)=some v):=hid fun y=>Zai ((base.out y).at HC2.out (fun q=>q t0))
  have lr:Hid (∀ y:SW (Only fun b=>¬PutT S w.heap.size (w.heap.size+2) b) w2.drew,∀ j v,(x.V a cp).toList[j]?=some v->y.w.cell? ((⟨w.heap.size+1,0,none⟩:Addr).add j)=some v):=hid fun y=>Zai ((base.out y).at HD2.out (fun q=>q t1))
  have cs:∀ y:SW (Only fun b=>¬PutT S w.heap.size (w.heap.size+2) b) w2.drew,y.w.cell? ⟨w.heap.size+1,0,none⟩=some (.int .i64 x.seq):=fun y=>(Zae ((base.out y).at HD2.out (fun q=>q t1))).trans rfl
  have cl:∀ y:SW (Only fun b=>¬PutT S w.heap.size (w.heap.size+2) b) w2.drew,y.w.cell? ⟨w.heap.size,4,none⟩=some (.int .i64 c.slots):=fun y=>(Zae ((base.out y).at HC2.out (fun q=>q t0))).trans (Cfg.A4 c)
  clear d0 d1 d2 c1 c3 base
  refine Za9 (E:=Ext) (S:=Only fun b=>¬PutT S w.heap.size (w.heap.size+2) b) 11 (.one [0,1,2,3,4,5,6,7,8,9] 10 (.fin [])) (by kernel_rfl) (by kernel_rfl) (fun _ _ d _ _ h=>by cases d<;>exact h) ?_
  rw [wpS]
  simp only [opsAt,opA,opB,opC,opD,opE,opF,opG]
  iterate 3 ((refine Zac (fun K hK=>?_); go_simp; refine hK _ ?_; clear hK K))
  refine Zap 74 _ rfl ⟨w.heap.size,0,none⟩ rfl (Cfg.A c) rfl (Zas c) lc.out ?_
  iterate 4 ((refine Zac (fun K hK=>?_); go_simp; refine hK _ ?_; clear hK K))
  (refine Zac (fun K hK=>?_); go_simp; refine hK _ ?_; clear hK K)
  refine Zap 101 _ rfl ⟨w.heap.size+1,0,none⟩ rfl (x.V a cp) rfl aggRec lr.out ?_
  refine Zak ?_
  intro V1 hV1
  refine Zay fun Q hQ=>?_
  go_wp2_with fail
  have HT:Hid (RackAt (PutT S w.heap.size (w.heap.size+2)) V1 r R):=hid (H.out.more (Ext.trans HX2.out (Ext.trans xd hV1)) fun b hb=>by
   have q1:=(Ext.trans HX2.out (Ext.trans xd hV1)).size
   have q2:=HX1.out.size
   have q3:=lt_of_block HD2.out
   have q4:=(Ext.trans xd hV1).size
   rcases hb with hb | hb
   ·
    exact ⟨by have:=H.out.there b hb; omega,.inl hb⟩
   ·
    exact ⟨by omega,.inr hb.1⟩)
  --M1
  refine (jput_c HT.out c HGC.out z HB.out.1 HB.out.2 x HOKX.out HL8.out a cp (HBL.out.ext (Ext.trans xd hV1)) (fun g hg=>.inl (HG.out g hg))).mono ?_
  rintro e V2 ⟨rfl,h3,k3⟩
  rcases hp:R.jput c z x with ⟨o,Rn⟩
  rw [hp] at HV h3
  simp only at h3 ⊢
  go_wp2
  refine hQ _ _ k3 ?_
  clear hQ Q
  rw [wpS]
  simp only [opsAt,List.map_nil]
  refine Zak ?_
  intro V3 hV3
  have H3:=hid ((h3.less fun b hb=>Or.inl hb:RackAt S V2 r Rn).ext hV3)
  have K3:Hid (Keeps S w V3):=hid (Only.ext (Only.trans (Ext.only (Ext.trans HX2.out (Ext.trans xd hV1))) k3 fun b _ hb q=>hb (.inl q)) hV3)
  clear h3 k3 hp lc lr cs cl hV1 hV3 xd t0 t1
  simp only [List.drop_succ_cons,List.drop_zero]
  rcases o with _ | er
  ·
   simp only [oErr]
   go_wp2_with fail
   refine (wrap_nil sJLog x.seq V3).mono ?_
   rintro e w4 ⟨rfl,rfl⟩
   go_wp2
   go_ret
   rw [HV.out]
   exact ⟨rfl,H3.out,K3.out⟩
  ·
   have HW:=hid (Za3 sJLog x.seq er V3)
   obtain ⟨t2,v2,hq⟩:∃ t v,er.val=.iface t v:=by cases er<;>exact ⟨_,_,rfl⟩
   simp only [oErr]
   rw [hq] at HW ⊢
   clear hq
   go_wp2_with fail
   refine HW.out.mono ?_
   rintro e w4 ⟨rfl,rfl⟩
   go_wp2
   go_ret
   rw [HV.out]
   exact ⟨rfl,H3.out,K3.out⟩
end Go.Proofs.YtgjnnbomnoafcaaGreatDoor
