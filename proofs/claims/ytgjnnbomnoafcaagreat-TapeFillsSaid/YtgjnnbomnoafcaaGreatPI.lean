/- Texts of one proof, joined: JourPure, GotOk, OwnVs, JourLive, JourRack, JourDisk, JourCutPure, JourBad, JourUnionPure, JourRecs, VsAdd. -/
import Derived.Test.YtgjnnbomnoafcaaGreatPH
import Derived.Test.YtgjnnbomnoafcaaGreatPF
import Derived.Test.YtgjnnbomnoafcaaGreatPA
import Derived.Test.YtgjnnbomnoafcaaGreatProg
import Derived.Maps.AppendAt
import Derived.Test.YtgjnnbomnoafcaaGreatPG
import Derived.Test.YtgjnnbomnoafcaaGreatPB
import Derived.Great.BuildSlice
set_option linter.unusedVariables false
set_option linter.unusedSimpArgs false
namespace Go.Proofs.YtgjnnbomnoafcaaGreat
set_option linter.unusedVariables false
def each {α:Type} (f:Rck->α->Option Err × Rck):List α->Rck->Option Err × Rck
 | [],R=>(none,R)
 | i::l,R=>match (f R i).1 with
  | none=>each f l (f R i).2
  | some e=>(some e,(f R i).2)
theorem Zb8 {α:Type} {f:Rck->α->Option Err × Rck} {i:α} {l:List α} {R R':Rck} (h:f R i=(none,R')):each f (i::l) R=each f l R':=by
 show (match (f R i).1 with | none=>each f l (f R i).2 | some e=>(some e,(f R i).2))=_
 rw [h]
theorem each_err {α:Type} {f:Rck->α->Option Err × Rck} {i:α} {l:List α} {R R':Rck} {e:Err} (h:f R i=(some e,R')):each f (i::l) R=(some e,R'):=by
 show (match (f R i).1 with | none=>each f l (f R i).2 | some e=>(some e,(f R i).2))=_
 rw [h]
theorem each_app {α:Type} (f:Rck->α->Option Err × Rck) (l m:List α) (R:Rck):each f (l++m) R=match (each f l R).1 with
  | none=>each f m (each f l R).2
  | some e=>(some e,(each f l R).2):=by
 induction l generalizing R with
 | nil=>rfl
 | cons i l ih =>
  rcases h:f R i with ⟨o,R'⟩
  rcases o with _ | e
  ·
   rw [List.cons_append,Zb8 h,Zb8 h,ih]
  ·
   rw [List.cons_append,each_err h,each_err h]
structure Rcd where
 seq:Int
 stripe:Int
 blocks:List (List Nat)
namespace Rcd
def none_:Rcd:=⟨0,0,[]⟩
structure Ok (x:Rcd):Prop where
 len:∀ b∈x.blocks,b.length=108
 byte:∀ b∈x.blocks,∀ y∈b,y < 256
def frm (x:Rcd) (i:Nat):Frm:=⟨2,i,x.stripe,x.seq,x.blocks.getD i (List.replicate 108 0)⟩
theorem frm_ok (x:Rcd) (h:x.Ok) (i:Nat):(x.frm i).Ok:=by
 have e:(x.frm i).data=x.blocks.getD i (List.replicate 108 0):=rfl
 rcases Nat.lt_or_ge i x.blocks.length with hi | hi
 ·
  have e2:x.blocks.getD i (List.replicate 108 0)=x.blocks[i]:=by simp [List.getD_eq_getElem?_getD,hi]
  exact ⟨by rw [e,e2]; exact h.len _ (List.getElem_mem hi),by rw [e,e2]; exact h.byte _ (List.getElem_mem hi)⟩
 ·
  have e2:x.blocks.getD i (List.replicate 108 0)=List.replicate 108 0:=by simp [List.getD_eq_getElem?_getD,hi]
  exact ⟨by rw [e,e2]; simp,by rw [e,e2]; intro y hy; rw [(List.mem_replicate.1 hy).2]; omega⟩
end Rcd
def sJLog:ByteArray:=⟨#[106,111,117,114,110,97,108,46,76,111,103]⟩
def sJBlank:ByteArray:=⟨#[106,111,117,114,110,97,108,46,66,108,97,110,107]⟩
def sJSlot:ByteArray:=⟨#[106,111,117,114,110,97,108,46,83,108,111,116]⟩
namespace Rck
def jsec (c:Cfg) (slot:Int) (i:Nat):Int:=1+slot*c.k+i
def jrow (c:Cfg) (slot:Int) (x:Rcd) (R:Rck) (d:Nat):Option Err × Rck:=each (fun R i=>R.write d (jsec c slot i) (x.frm i).put) (List.range c.k.toNat) R
def jput (R:Rck) (c:Cfg) (slot:Int) (x:Rcd):Option Err × Rck :=
 match (each (jrow c slot x) R.online R).1 with
 | some e=>(some e,(each (jrow c slot x) R.online R).2)
 | none=>each (fun R d=>R.flush (d:Nat)) (each (jrow c slot x) R.online R).2.online (each (jrow c slot x) R.online R).2
def jknown (R:Rck) (c:Cfg) (slot:Int):Bool:=R.fits c && decide (0<=slot) && decide (slot < c.slots)
def jlogOk (R:Rck) (c:Cfg) (x:Rcd):Bool:=R.fits c && decide (2<=x.seq) && decide (x.seq<=1152921504606846976) && decide (0<=x.stripe) && decide (x.stripe < c.stripes) && decide ((x.blocks.length:Int)=c.k)
def jlog (R:Rck) (c:Cfg) (x:Rcd):Option Err × Rck :=
 if R.jlogOk c x=true then ((R.jput c (x.seq % c.slots) x).1.map (.fault sJLog x.seq),(R.jput c (x.seq % c.slots) x).2) else (some (.fault sJLog x.seq (.no 1)),R)
def jblank (R:Rck) (c:Cfg) (slot:Int):Option Err × Rck :=
 if R.jknown c slot=true then ((R.jput c slot Rcd.none_).1.map (.fault sJBlank slot),(R.jput c slot Rcd.none_).2) else (some (.fault sJBlank slot (.no 1)),R)
def jgood (R:Rck) (c:Cfg) (d:Nat) (slot:Int) (i:Nat):Option Frm :=
 (R.get d (jsec c slot i) 2 i (-1)).bind fun f=>if c.stripes<=f.stripe\/f.gen=1\/(1 < f.gen/\f.gen % c.slots≠slot) then none else some f
def jgoods (R:Rck) (c:Cfg) (slot:Int) (i:Nat):List Frm:=(List.range c.n.toNat).filterMap fun d=>R.jgood c d slot i
end Rck
def pickF (seq:Int) (i:Nat) (stripe:Int) (fs:List Frm):Option Frm:=fs.find? fun f=>decide (f.gen=seq) && (decide (i=0) || decide (f.stripe=stripe))
def wholeFrom (seq:Int):Nat->Rcd->List (List Frm)->Option Rcd
 | _,x,[]=>some x
 | i,x,fs::l=>match pickF seq i x.stripe fs with
  | none=>none
  | some f=>wholeFrom seq (i+1) ⟨seq,f.stripe,x.blocks++[f.data]⟩ l
def whole (seq:Int) (l:List (List Frm)):Option Rcd:=wholeFrom seq 0 ⟨seq,0,[]⟩ l
def newestF (m:Int) (fs:List Frm):Int:=fs.foldl (fun m f=>max m f.gen) m
def newest (l:List (List Frm)):Int:=l.foldl newestF 0
namespace Rck
def jall (R:Rck) (c:Cfg) (slot:Int):List (List Frm):=(List.range c.k.toNat).map fun i=>R.jgoods c slot i
def jslot (R:Rck) (c:Cfg) (slot:Int):Rcd × Bool × Int × Option Err :=
 if R.jknown c slot=true then
  if (R.jall c slot).any (fun fs=>fs.isEmpty)=true then (Rcd.none_,false,0,some (.fault sJSlot slot (.loss slot 0 1)))
  else ((whole (newest (R.jall c slot)) (R.jall c slot)).getD Rcd.none_,(whole (newest (R.jall c slot)) (R.jall c slot)).isSome,newest (R.jall c slot),none)
 else (Rcd.none_,false,0,some (.fault sJSlot slot (.no 1)))
end Rck
open Go Go.RowKit
theorem RackAt.got_ok {S:Nat->Prop} {w:World} {r:Nat} {R:Rck} (h:RackAt S w r R) {i s k sl st:Int} {f:Frm} (hf:R.get i s k sl st=some f):f.Ok:=by
 obtain ⟨_,K,_,h2,_⟩:=h
 unfold Rck.get at hf
 rcases hr:R.read i s with _ | l
 ·
  rw [hr] at hf; cases hf
 ·
  have hr':R.readE i s=none:=by
   unfold Rck.read at hr
   split at hr
   ·
    assumption
   ·
    cases hr
  have hl:l=(R.dsk i).read s.toNat:=by
   unfold Rck.read at hr
   rw [if_pos hr'] at hr
   cases hr; rfl
  rw [hr] at hf
  rcases hg:Frm.get l with _ | g
  ·
   simp only [Option.bind_some,hg] at hf; cases hf
  ·
   simp only [Option.bind_some,hg] at hf
   split at hf
   ·
    cases hf; exact Frm.get_ok (fun x hx=>(h2.bytes hr').2 x (hl▸hx)) hg
   ·
    cases hf
theorem Frm.nth_bd {l:List Nat} (h:∀ x∈l,x < 256) (i:Nat):((nth l i:Nat):Int)<=255:=by
 unfold nth
 rw [List.getD_eq_getElem?_getD]
 rcases hi:l[i]? with _ | x
 ·
  simp
 ·
  have:=h x (List.mem_of_getElem? hi)
  simp; omega
theorem flat_len {sz:Nat}:∀ (l:List (Array Value)),(∀ x∈l,x.size=sz)->(l.flatMap Array.toList).length=l.length*sz
 | [],_=>by simp
 | x::l,h=>by
  rw [List.flatMap_cons,List.length_append,flat_len l fun y hy=>h y (List.mem_cons_of_mem _ hy),Array.length_toList,h x List.mem_cons_self,List.length_cons,Nat.succ_mul,Nat.add_comm]
theorem flat_get {sz:Nat}:∀ (l:List (Array Value)),(∀ x∈l,x.size=sz)->∀ (i:Nat) (x:Array Value),l[i]?=some x->∀ j,j < sz->(l.flatMap Array.toList)[i*sz+j]?=x.toList[j]?
 | [],_,i,x,h,j,hj=>by simp at h
 | y::l,hs,0,x,h,j,hj=>by
  have e:y=x:=by simpa using h
  subst e
  rw [List.flatMap_cons,Nat.zero_mul,Nat.zero_add,List.getElem?_append_left (by rw [Array.length_toList,hs y List.mem_cons_self]; exact hj)]
 | y::l,hs,i+1,x,h,j,hj=>by
  have hy:=hs y List.mem_cons_self
  have h':l[i]?=some x:=by simpa using h
  rw [List.flatMap_cons,List.getElem?_append_right (by rw [Array.length_toList,hy,Nat.succ_mul]; omega),Array.length_toList,hy,show (i+1)*sz+j - sz=i*sz+j by rw [Nat.succ_mul]; omega]
  exact flat_get l (fun z hz=>hs z (List.mem_cons_of_mem _ hz)) i x h' j hj
structure OwnVs (w:World) (B:Nat) (ty:TypeId) (sz:Nat) (v:Value) (l:List (Array Value)):Prop where
 own:w.ownsRow B ty sz v l.length (l.flatMap Array.toList)
 size:∀ x∈l,x.size=sz
def VsAt (w:World) (g:Nat) (sz:Nat) (l:List (Array Value)):Prop:=∀ i x,l[i]?=some x->∀ j v,x.toList[j]?=some v->w.cell? ⟨g,i*sz+j,none⟩=some v
theorem VsAt.only {F:Nat->Prop} {w w':World} {g sz:Nat} {l:List (Array Value)} (h:VsAt w g sz l) (e:Only F w w') (hn:¬F g):VsAt w' g sz l:=fun i x hx j v hv=>e.cell (h i x hx j v hv) hn
theorem VsAt.ext {w w':World} {g sz:Nat} {l:List (Array Value)} (h:VsAt w g sz l) (e:Ext w w'):VsAt w' g sz l:=fun i x hx j v hv=>e.cell (h i x hx j v hv)
namespace OwnVs
variable {F:Nat->Prop} {w w':World} {B sz:Nat} {ty:TypeId} {v:Value} {l:List (Array Value)}
theorem nil (w:World) (B:Nat) (ty:TypeId) (sz:Nat):OwnVs w B ty sz (.slice none 0 0) []:=⟨World.ownsRow_nil w B _ _,by simp⟩
theorem only (h:OwnVs w B ty sz v l) (e:Only F w w') (hn:∀ b,v.ownBlock=some b->¬F b):OwnVs w' B ty sz v l:=by
 refine ⟨⟨h.1.1,?_⟩,h.2⟩
 rcases h.1.2 with h' | ⟨g,c,cur,h1,h2,h3,h4⟩
 ·
  exact .inl h'
 ·
  exact .inr ⟨g,c,cur,h1,h2,e.at h3 (hn g (by rw [h1]; rfl)),h4⟩
theorem ext (h:OwnVs w B ty sz v l) (e:Ext w w'):OwnVs w' B ty sz v l:=h.only e fun _ _ x=>x
theorem lt (h:OwnVs w B ty sz v l) (b:Nat) (e:v.ownBlock=some b):B<=b/\b < w.heap.size:=h.1.lt b e
theorem down (h:OwnVs w B ty sz v l) {B':Nat} (hb:B'<=B):OwnVs w B' ty sz v l:=by
 refine ⟨⟨h.1.1,?_⟩,h.2⟩
 rcases h.1.2 with h' | ⟨g,c,cur,h1,h2,h3⟩
 ·
  exact .inl h'
 ·
  exact .inr ⟨g,c,cur,h1,by omega,h3⟩
theorem slice (h:OwnVs w B ty sz v l):∃ a c,v=.slice a l.length c/\((l=[]/\a=none)\/∃ g,a=some ⟨g,0,none⟩/\B<=g/\g < w.heap.size/\l.length<=c/\VsAt w g sz l):=by
 rcases h.1.2 with ⟨h1,h2⟩ | ⟨g,c,cur,h1,h2,h3,h4⟩
 ·
  exact ⟨none,0,by rw [h1,h2],.inl ⟨List.length_eq_zero_iff.1 h2,rfl⟩⟩
 ·
  refine ⟨_,c,h1,.inr ⟨g,rfl,h2,lt_of_block h3,h4.1,fun i x hx j u hu=>?_⟩⟩
  have hxs:=h.2 x (List.mem_of_getElem? hx)
  have hj:j < sz:=by
   rcases Nat.lt_or_ge j sz with q | q
   ·
    exact q
   ·
    rw [List.getElem?_eq_none (by rw [Array.length_toList,hxs]; exact q)] at hu; cases hu
  have:=h.1.cells (g:=g) (by rw [h1]; rfl) (i*sz+j) u (by rw [flat_get l h.2 i x hx j hj]; exact hu)
  have e:(⟨g,0,none⟩:Addr).add (i*sz+j)=⟨g,i*sz+j,none⟩:=by unfold Addr.add; split<;>simp_all
  rw [e] at this
  exact this
theorem push (h:OwnVs w B ty sz v l) {tsl:TypeId} {z:Value} {by_:Nat} (hu:Tryz.prog.underlying tsl=some (.slice ty)) (hi:(Tryz.prog.info? ty).map (fun i=>(i.zero,i.size,i.bytes))=some (some z,sz,by_)) (hz:z.cells.size=sz) (h0:0 < sz)
  (x:Array Value) (hx:x.size=sz) (h1:∀ u∈x.toList,u.oneCell'=true) (ad:Addr) (hc:∀ j u,x.toList[j]?=some u->w.cell? (ad.add j)=some u) (cp:Nat) (hl:l.length < 1000) (hby:by_<=1000000) (hB:B<=w.heap.size) :
  ∃ v' w',(Builtin.append_ #[tsl,tsl] tsl #[v,.slice (some ad) 1 cp]).run Tryz.prog w=.ok v' w'/\OwnVs w' B ty sz v' (l++[x]) ∧
   Only (fun b=>v.ownBlock=some b) w w'/\(∀ w0,w0.heap.size<=B->Ext w0 w->Ext w0 w')/\(v'.ownBlock=v.ownBlock\/v'.ownBlock=some w.heap.size):=by
 obtain ⟨i0,hi,hz0,hz1,hz2⟩:=info_parts hi
 have hb1:(l.length+1)*by_<=140737488355328:=by
  have:=Nat.mul_le_mul (show l.length+1<=1000 by omega) hby
  omega
 obtain ⟨v',w',e1,e2,e3,_,e5⟩:=run_append_own_at (P:=Tryz.prog) (w:=w) B tsl tsl ty i0 z sz by_ hu hi hz0 hz1 hz2 hz h0 v l.length _ h.1 ad 1 cp x.toList (by rw [Array.length_toList,hx,Nat.one_mul]) hc h1 (by unfold maxLen; omega) hb1 hB
 have ho:Only (fun b=>v.ownBlock=some b) w w':=(Only.refl (fun b=>v.ownBlock=some b) w).grown e3 (fun k _ e=>e)
 refine ⟨v',w',e1,⟨?_,?_⟩,ho,fun w0 hw0 hx0=>Ext.then hx0 ho fun i hi e=>?_,e5⟩
 ·
  rw [List.length_append,List.flatMap_append]
  simpa using e2
 ·
  intro y hy
  rcases List.mem_append.1 hy with hy | hy
  ·
   exact h.2 y hy
  ·
   rw [List.mem_singleton.1 hy]; exact hx
 ·
  have:=(h.lt i e).1
  omega
end OwnVs
end Go.Proofs.YtgjnnbomnoafcaaGreat
namespace Go.Proofs.YtgjnnbomnoafcaaGreat
set_option linter.unusedVariables false
theorem newestF_ge:∀ (fs:List Frm) (m:Int),m<=newestF m fs/\∀ f∈fs,f.gen<=newestF m fs
 | [],m=>⟨Int.le_refl _,by simp⟩
 | g::fs,m=>by
  obtain ⟨h1,h2⟩:=newestF_ge fs (max m g.gen)
  have e:newestF m (g::fs)=newestF (max m g.gen) fs:=rfl
  rw [e]
  refine ⟨by omega,fun f hf=>?_⟩
  rcases List.mem_cons.1 hf with rfl | hf
  ·
   omega
  ·
   exact h2 f hf
theorem newestF_le:∀ (fs:List Frm) (m B:Int),m<=B->(∀ f∈fs,f.gen<=B)->newestF m fs<=B
 | [],m,B,hm,_=>hm
 | g::fs,m,B,hm,h=>by
  have e:newestF m (g::fs)=newestF (max m g.gen) fs:=rfl
  rw [e]
  have:=h g List.mem_cons_self
  exact newestF_le fs _ B (by omega) fun f hf=>h f (List.mem_cons_of_mem _ hf)
theorem newest_ge':∀ (l:List (List Frm)) (m:Int),m<=l.foldl newestF m/\∀ fs∈l,∀ f∈fs,f.gen<=l.foldl newestF m
 | [],m=>⟨Int.le_refl _,by simp⟩
 | gs::l,m=>by
  obtain ⟨h1,h2⟩:=newest_ge' l (newestF m gs)
  obtain ⟨h3,h4⟩:=newestF_ge gs m
  have e:(gs::l).foldl newestF m=l.foldl newestF (newestF m gs):=rfl
  rw [e]
  refine ⟨by omega,fun fs hfs f hf=>?_⟩
  rcases List.mem_cons.1 hfs with rfl | hfs
  ·
   have:=h4 f hf; omega
  ·
   exact h2 fs hfs f hf
theorem newest_le':∀ (l:List (List Frm)) (m B:Int),m<=B->(∀ fs∈l,∀ f∈fs,f.gen<=B)->l.foldl newestF m<=B
 | [],m,B,hm,_=>hm
 | gs::l,m,B,hm,h=>by
  have e:(gs::l).foldl newestF m=l.foldl newestF (newestF m gs):=rfl
  rw [e]
  exact newest_le' l _ B (newestF_le gs m B hm (h gs List.mem_cons_self)) fun fs hfs=>h fs (List.mem_cons_of_mem _ hfs)
theorem newest_eq {l:List (List Frm)} {s:Int} (h0:0<=s) (hle:∀ fs∈l,∀ f∈fs,f.gen<=s) (hm:s=0\/∃ fs∈l,∃ f∈fs,f.gen=s):newest l=s:=by
 have h1:newest l<=s:=newest_le' l 0 s h0 hle
 obtain ⟨h2,h3⟩:=newest_ge' l 0
 have e:newest l=l.foldl newestF 0:=rfl
 rcases hm with rfl | ⟨fs,hfs,f,hf,hs⟩
 ·
  omega
 ·
  have:=h3 fs hfs f hf; omega
theorem wholeFrom_of (X:Rcd):∀ (l:List (List Frm)) (i:Nat) (x:Rcd),(∀ j fs,l[j]?=some fs->(∃ f∈fs,f.gen=X.seq)/\∀ f∈fs,f.gen=X.seq->f=X.frm (i+j))->(i=0\/x.stripe=X.stripe)->x.seq=X.seq ->
  wholeFrom X.seq i x l=some ⟨X.seq,if l=[] then x.stripe else X.stripe,x.blocks++(List.range' i l.length).map fun j=>(X.frm j).data⟩
 | [],i,x,_,_,hq=>by
  unfold wholeFrom
  simp [<- hq]
 | fs::l,i,x,h,hi,hq=>by
  obtain ⟨⟨f,hf,hg⟩,h2⟩:=h 0 fs rfl
  have hp:pickF X.seq i x.stripe fs=some (X.frm i):=by
   unfold pickF
   have hsome:(fs.find? fun f=>decide (f.gen=X.seq) && (decide (i=0) || decide (f.stripe=x.stripe))).isSome:=by
    rw [List.find?_isSome]
    refine ⟨f,hf,?_⟩
    have e:=h2 f hf hg
    have es:f.stripe=X.stripe:=by rw [e]; rfl
    rcases hi with hi | hi
    ·
     simp [hg,hi]
    ·
     simp [hg,es,hi]
   obtain ⟨g,hgg⟩:=Option.isSome_iff_exists.1 hsome
   rw [hgg]
   have m1:=List.mem_of_find?_eq_some hgg
   have m2:=List.find?_some hgg
   simp only [Bool.and_eq_true,decide_eq_true_eq] at m2
   rw [h2 g m1 m2.1]; rfl
  have hr:=wholeFrom_of X l (i+1) ⟨X.seq,(X.frm i).stripe,x.blocks++[(X.frm i).data]⟩ (fun j gs hj=>by
   have:=h (j+1) gs hj
   rw [show i+(j+1)=i+1+j by omega] at this
   exact this) (.inr rfl) rfl
  unfold wholeFrom
  rw [hp]
  simp only
  rw [hr]
  have e2:(X.frm i).stripe=X.stripe:=rfl
  simp [List.range'_succ,e2]
theorem whole_yes (X:Rcd) (l:List (List Frm)) (hl:l.length=X.blocks.length) (h0:0 < l.length) (h:∀ j fs,l[j]?=some fs->(∃ f∈fs,f.gen=X.seq)/\∀ f∈fs,f.gen=X.seq->f=X.frm j) :
  whole X.seq l=some X:=by
 unfold whole
 rw [wholeFrom_of X l 0 ⟨X.seq,0,[]⟩ (fun j fs hj=>by rw [Nat.zero_add]; exact h j fs hj) (.inl rfl) rfl,if_neg (fun e=>by rw [e] at h0; simp at h0)]
 have e:(List.range' 0 l.length).map (fun j=>(X.frm j).data)=X.blocks:=by
  apply List.ext_getElem?
  intro i
  rcases Nat.lt_or_ge i l.length with hi | hi
  ·
   have hb:i < X.blocks.length:=by omega
   simp only [List.getElem?_map]
   rw [List.getElem?_range' hi]
   simp [Rcd.frm,List.getD_eq_getElem?_getD,hb]
  ·
   rw [List.getElem?_eq_none (by simpa using hi),List.getElem?_eq_none (by omega)]
 rw [e]
 simp
namespace Rck
variable {R:Rck} {c:Cfg} {slot:Int}
theorem jall_len:(R.jall c slot).length=c.k.toNat:=by simp [jall]
theorem jall_get {i:Nat} {fs:List Frm} (h:(R.jall c slot)[i]?=some fs):i < c.k.toNat/\fs=R.jgoods c slot i:=by
 have hi:i < c.k.toNat:=by
  have:=(List.getElem?_eq_some_iff.1 h).1
  rwa [jall_len] at this
 refine ⟨hi,?_⟩
 unfold jall at h
 simp [hi] at h
 exact h.symm
theorem jall_at {i:Nat} (h:i < c.k.toNat):(R.jall c slot)[i]?=some (R.jgoods c slot i):=by
 unfold jall
 simp [h]
theorem jall_mem {fs:List Frm}:fs∈R.jall c slot↔∃ i,i < c.k.toNat/\fs=R.jgoods c slot i:=by
 unfold jall
 simp only [List.mem_map,List.mem_range]
 exact ⟨fun ⟨i,h,e⟩=>⟨i,h,e.symm⟩,fun ⟨i,h,e⟩=>⟨i,h,e.symm⟩⟩
theorem jgoods_mem {i:Nat} {f:Frm}:f∈R.jgoods c slot i↔∃ d:Nat,d < c.n.toNat/\R.jgood c d slot i=some f:=by
 unfold jgoods
 simp only [List.mem_filterMap,List.mem_range]
theorem jslot_lost (hk:R.jknown c slot=true) {i:Nat} (hi:i < c.k.toNat) (he:R.jgoods c slot i=[]):R.jslot c slot=(Rcd.none_,false,0,some (.fault sJSlot slot (.loss slot 0 1))):=by
 unfold jslot
 rw [if_pos hk,if_pos]
 rw [List.any_eq_true]
 exact ⟨[],jall_mem.2 ⟨i,hi,he.symm⟩,rfl⟩
theorem jslot_there (hk:R.jknown c slot=true) (he:∀ i,i < c.k.toNat->R.jgoods c slot i≠[]) {s:Int} (hs:newest (R.jall c slot)=s) :
  R.jslot c slot=((whole s (R.jall c slot)).getD Rcd.none_,(whole s (R.jall c slot)).isSome,s,none):=by
 unfold jslot
 rw [if_pos hk,if_neg,hs]
 rw [List.any_eq_true]
 rintro ⟨fs,hm,h⟩
 obtain ⟨i,hi,rfl⟩:=jall_mem.1 hm
 exact he i hi (List.isEmpty_iff.1 h)
theorem jslot_full (hk:R.jknown c slot=true) (k0:0 < c.k.toNat) {Y:Rcd} (hl:(Y.blocks.length:Int)=c.k) (hY:0<=Y.seq) (h:∀ i,i < c.k.toNat->(∃ f∈R.jgoods c slot i,f.gen=Y.seq)/\∀ f∈R.jgoods c slot i,f.gen<=Y.seq/\(f.gen=Y.seq->f=Y.frm i)) :
  R.jslot c slot=(Y,true,Y.seq,none):=by
 have hn:newest (R.jall c slot)=Y.seq:=by
  refine newest_eq hY (fun fs hm f hf=>?_) (.inr ?_)
  ·
   obtain ⟨i,hi,rfl⟩:=jall_mem.1 hm
   exact ((h i hi).2 f hf).1
  ·
   obtain ⟨f,hf,hg⟩:=(h 0 k0).1
   exact ⟨_,jall_mem.2 ⟨0,k0,rfl⟩,f,hf,hg⟩
 have hw:whole Y.seq (R.jall c slot)=some Y:=by
  refine whole_yes Y _ (by rw [jall_len]; omega) (by rw [jall_len]; exact k0) fun j fs hj=>?_
  obtain ⟨hi,rfl⟩:=jall_get hj
  exact ⟨(h j hi).1,fun f hf=>((h j hi).2 f hf).2⟩
 rw [jslot_there hk (fun i hi q=>by obtain ⟨f,hf,_⟩:=(h i hi).1; rw [q] at hf; simp at hf) hn,hw]
 rfl
theorem jslot_one (hk:R.jknown c slot=true) (k0:0 < c.k.toNat) {X:Rcd} (hl:(X.blocks.length:Int)=c.k) (hX:0<=X.seq) (h:∀ i,i < c.k.toNat->R.jgoods c slot i≠[]/\∀ f∈R.jgoods c slot i,f=X.frm i) :
  R.jslot c slot=(X,true,X.seq,none):=by
 refine jslot_full hk k0 hl hX fun i hi=>⟨?_,fun f hf=>?_⟩
 ·
  obtain ⟨f,hf⟩:=List.exists_mem_of_ne_nil _ (h i hi).1
  exact ⟨f,hf,by rw [(h i hi).2 f hf]; rfl⟩
 ·
  have e:=(h i hi).2 f hf
  exact ⟨by rw [e]; exact Int.le_refl _,fun _=>e⟩
end Rck
end Go.Proofs.YtgjnnbomnoafcaaGreat
namespace Go.Proofs.YtgjnnbomnoafcaaGreat
set_option linter.unusedVariables false
structure Rcd.Fit (x:Rcd) (c:Cfg) (slot:Nat):Prop where
 ok:x.Ok
 st0:0<=x.stripe
 st1:x.stripe < c.stripes
 seq0:0<=x.seq
 seq1:x.seq<=1152921504606846976
 ring:x.seq=0\/(2<=x.seq/\x.seq % c.slots=slot)
namespace Rcd.Fit
variable {x:Rcd} {c:Cfg} {slot:Nat}
theorem right (h:x.Fit c slot) (hc:c.Good) {i:Nat} (hi:i < 8):(x.frm i).right=true:=by
 have e1:(x.frm i).kind=2:=rfl
 have e2:(x.frm i).slot=i:=rfl
 have e3:(x.frm i).stripe=x.stripe:=rfl
 have e4:(x.frm i).gen=x.seq:=rfl
 have q1:=h.st0; have q2:=h.st1; have q3:=h.seq0; have q4:=h.seq1; have q5:=hc.st1
 exact Frm.right_of (by omega) (by omega) (by omega) (by omega) (by omega) (by omega) (by omega) (by omega)
theorem put (h:x.Fit c slot) (hc:c.Good) {i:Nat} (hi:i < 8):(x.frm i).put=(x.frm i).bytes:=by unfold Frm.put; rw [h.right hc hi]; rfl
theorem get (h:x.Fit c slot) (hc:c.Good) {i:Nat} (hi:i < 8):Frm.get (x.frm i).bytes=some (x.frm i):=Frm.get_bytes _ (Rcd.frm_ok x h.ok i) (h.right hc hi)
theorem len (h:x.Fit c slot) (i:Nat):(x.frm i).bytes.length=128:=Frm.bytes_len _ (Rcd.frm_ok x h.ok i)
end Rcd.Fit
def jsecN (c:Cfg) (slot i:Nat):Nat:=1+slot*c.k.toNat+i
theorem jsec_eq {c:Cfg} (hc:c.Good) (slot i:Nat):Rck.jsec c (slot:Int) i=(jsecN c slot i:Nat):=by
 unfold Rck.jsec jsecN
 have e:c.k=((c.k.toNat:Nat):Int):=by have:=hc.k0; omega
 rw [e]
 simp
theorem Zch {c:Cfg} (hc:c.Good) {m:Nat} (hm:c.sectors<=(m:Int)) {slot i:Nat} (hs:slot < c.slots.toNat) (hi:i < c.k.toNat):jsecN c slot i < m:=by
 have h1:(slot+1)*c.k.toNat<=c.slots.toNat*c.k.toNat:=Nat.mul_le_mul_right _ (by omega)
 have h2:((c.slots.toNat*c.k.toNat:Nat):Int)=c.slots*c.k:=by
  have e:c.k=((c.k.toNat:Nat):Int):=by have:=hc.k0; omega
  have e2:c.slots=((c.slots.toNat:Nat):Int):=by have:=hc.sl0; omega
  rw [e,e2]; simp
 unfold Cfg.sectors at hm
 rw [<- h2] at hm
 rw [Nat.succ_mul] at h1
 have h3:=hc.st0
 unfold jsecN
 omega
theorem jsecN_inj {c:Cfg} {s t i j:Nat} (hi:i < c.k.toNat) (hj:j < c.k.toNat) (h:jsecN c s i=jsecN c t j):s=t/\i=j:=by
 unfold jsecN at h
 generalize c.k.toNat=K at *
 have h':i+K*s=j+K*t:=by rw [Nat.mul_comm K s,Nat.mul_comm K t]; omega
 have hk:0 < K:=by omega
 have a1:(i+K*s) / K=s:=by rw [Nat.add_mul_div_left _ _ hk,Nat.div_eq_of_lt hi,Nat.zero_add]
 have a2:(j+K*t) / K=t:=by rw [Nat.add_mul_div_left _ _ hk,Nat.div_eq_of_lt hj,Nat.zero_add]
 have:s=t:=by rw [<- a1,<- a2,h']
 subst this
 exact ⟨rfl,by omega⟩
namespace Dsk
def jg (D:Dsk) (c:Cfg) (slot i:Nat):Option Frm :=
 if D.dead then none else (Frm.get (D.read (jsecN c slot i))).bind fun f=>if f.kind=2/\f.slot=i/\¬(c.stripes<=f.stripe\/f.gen=1\/(1 < f.gen/\f.gen % c.slots≠slot)) then some f else none
theorem jg_has {D:Dsk} {c:Cfg} {slot i:Nat} {x:Rcd} (hc:c.Good) (hx:x.Fit c slot) (hi:i < 8) (ha:D.dead=false) (hr:D.read (jsecN c slot i)=(x.frm i).bytes):D.jg c slot i=some (x.frm i):=by
 unfold jg
 have e1:(x.frm i).kind=2:=rfl
 have e2:(x.frm i).slot=i:=rfl
 have e3:(x.frm i).stripe=x.stripe:=rfl
 have e4:(x.frm i).gen=x.seq:=rfl
 rw [ha,hr,hx.get hc hi]
 simp only [Bool.false_eq_true,if_false,Option.bind_some]
 rw [if_pos]
 rw [e1,e2,e3,e4]
 refine ⟨rfl,rfl,?_⟩
 have q1:=hx.st1; have q2:=hx.ring
 rintro (h | h | ⟨h1,h2⟩)
 ·
  omega
 ·
  omega
 ·
  rcases q2 with q2 | ⟨_,q2⟩
  ·
   omega
  ·
   exact h2 q2
end Dsk
theorem Super.known {R:Rck} {c:Cfg} {m:Nat} (h:Super R c m) {slot:Nat} (hs:slot < c.slots.toNat):R.jknown c (slot:Int)=true:=by
 unfold Rck.jknown
 rw [h.fits]
 simp only [Bool.true_and,Bool.and_eq_true,decide_eq_true_eq]
 omega
theorem Super.jgood {R:Rck} {c:Cfg} {m:Nat} (h:Super R c m) {d slot i:Nat} (hd:d < c.n.toNat) (hs:slot < c.slots.toNat) (hi:i < c.k.toNat):R.jgood c d (slot:Int) i=(R.dsk d).jg c slot i:=by
 have hm:=Zch h.good h.fit hs hi
 unfold Rck.jgood Dsk.jg
 rw [jsec_eq h.good]
 rcases ha:(R.dsk d).dead with _ | _
 ·
  rw [h.live.get hd hm ha]
  rcases hg:Frm.get ((R.dsk d).read (jsecN c slot i)) with _ | f
  ·
   rfl
  ·
   simp only [Bool.false_eq_true,if_false,Option.bind_some]
   by_cases h1:f.kind=2/\f.slot=i
   ·
    rw [if_pos ⟨h1.1,h1.2,fun q=>absurd q (by decide)⟩]
    simp only [Option.bind_some]
    by_cases h2:c.stripes<=f.stripe\/f.gen=1\/(1 < f.gen/\f.gen % c.slots≠slot)
    ·
     rw [if_pos h2,if_neg (fun q=>q.2.2 h2)]
    ·
     rw [if_neg h2,if_pos ⟨h1.1,h1.2,h2⟩]
   ·
    rw [if_neg (fun q=>h1 ⟨q.1,q.2.1⟩),if_neg (fun q=>h1 ⟨q.1,q.2.1⟩)]
    rfl
 ·
  rw [h.live.get_dead hd hm ha]
  rfl
theorem Super.jslot_of {R:Rck} {c:Cfg} {m:Nat} (h:Super R c m) {slot:Nat} (hs:slot < c.slots.toNat) {x:Rcd} (hl:(x.blocks.length:Int)=c.k) (hx:0<=x.seq)
  (hj:∀ i,i < c.k.toNat->(∃ d,d < c.n.toNat/\(R.dsk (d:Nat)).jg c slot i=some (x.frm i))/\∀ d,d < c.n.toNat->(R.dsk (d:Nat)).jg c slot i=some (x.frm i)\/(R.dsk (d:Nat)).jg c slot i=none) :
  R.jslot c (slot:Int)=(x,true,x.seq,none):=by
 refine Rck.jslot_one (h.known hs) (by have:=h.good.k0; omega) hl hx fun i hi=>⟨fun q=>?_,fun f hf=>?_⟩
 ·
  obtain ⟨d,hd,e⟩:=(hj i hi).1
  have:x.frm i∈R.jgoods c slot i:=Rck.jgoods_mem.2 ⟨d,hd,by rw [h.jgood hd hs hi,e]⟩
  rw [q] at this; simp at this
 ·
  obtain ⟨d,hd,e⟩:=Rck.jgoods_mem.1 hf
  rw [h.jgood hd hs hi] at e
  rcases (hj i hi).2 d hd with q | q
  ·
   rw [q] at e; cases e; rfl
  ·
   rw [q] at e; cases e
structure Pow (R:Rck) (n m:Nat) (F:Int):Prop where
 len:R.l.length=n
 secs:∀ j:Nat,j < n->(R.dsk j).l.length=m
 alive:∀ j:Nat,j < n->(R.dsk j).dead=false
 off:R.off=false
 fuse:R.fuse=F
 pos:1<=n
def burn (F:Int) (c:Nat):Int:=if 0<=F then F - c else F
theorem burn_zero (F:Int):burn F 0=F:=by unfold burn; split<;>simp
theorem burn_add (F:Int) (a b:Nat) (h:F < 0\/(a:Int)<=F):burn (burn F a) b=burn F (a+b):=by
 unfold burn
 rcases h with h | h
 ·
  rw [if_neg (by omega),if_neg (by omega),if_neg (by omega)]
 ·
  rw [if_pos (by omega),if_pos (by omega),if_pos (by omega)]; omega
theorem Pow.live {R:Rck} {n m:Nat} (h:Pow R n m (-1)):Live R n m:=⟨h.len,h.secs,h.off,h.fuse,h.pos⟩
theorem Pow.of {R:Rck} {n m:Nat} (h:Live R n m) (ha:∀ j:Nat,j < n->(R.dsk j).dead=false):Pow R n m (-1):=⟨h.len,h.secs,ha,h.off,h.fuse,h.pos⟩
theorem Rck.dsk_setD (R:Rck) {n:Nat} (hn:R.l.length=n) {i:Nat} (hi:i < n) (D:Dsk) (j:Nat):(R.setD i D).dsk j=if j=i then D else R.dsk j:=by
 unfold Rck.setD Rck.dsk
 by_cases e:j=i
 ·
  subst e; simp [List.getD_eq_getElem?_getD,hn,hi]
 ·
  simp [List.getD_eq_getElem?_getD,List.getElem?_set_ne (Ne.symm e),e]
def Does (n m:Nat) (f:Rck->Option Err × Rck) (c:Nat) (g:Nat->Dsk->Dsk):Prop :=
 ∀ R F,Pow R n m F->((F < 0\/(c:Int)<=F)->∃ R',f R=(none,R')/\Pow R' n m (burn F c)/\∀ d:Nat,d < n->R'.dsk d=g d (R.dsk d))/\(0<=F->F < c->∃ e R',f R=(some e,R'))
theorem Does.congr {n m c c':Nat} {f:Rck->Option Err × Rck} {g g':Nat->Dsk->Dsk} (h:Does n m f c g) (hc:c=c') (hg:∀ d D,d < n->g d D=g' d D):Does n m f c' g':=by
 subst hc
 intro R F hR
 refine ⟨fun hF=>?_,(h R F hR).2⟩
 obtain ⟨R',h1,h2,h3⟩:=(h R F hR).1 hF
 exact ⟨R',h1,h2,fun d hd=>by rw [h3 d hd,hg d _ hd]⟩
theorem Does.each {α:Type} {n m c:Nat} {f:Rck->α->Option Err × Rck} {g:α->Nat->Dsk->Dsk}:∀ (l:List α),(∀ i∈l,Does n m (fun R=>f R i) c (g i))->Does n m (each f l) (c*l.length) fun d D=>l.foldl (fun D i=>g i d D) D
 | [],_=>fun R F hR=>⟨fun _=>⟨R,rfl,by simpa [burn_zero] using hR,fun _ _=>rfl⟩,fun h0 h1=>by simp at h1; omega⟩
 | i::l,h=>fun R F hR=>by
  have hi:=h i List.mem_cons_self R F hR
  have hl:=Does.each l fun j hj=>h j (List.mem_cons_of_mem _ hj)
  have ec:c*(i::l).length=c+c*l.length:=by rw [List.length_cons,Nat.mul_succ,Nat.add_comm]
  rw [ec]
  refine ⟨fun hF=>?_,fun h0 h1=>?_⟩
  ·
   obtain ⟨R1,a1,a2,a3⟩:=hi.1 (by omega)
   obtain ⟨R2,b1,b2,b3⟩:=(hl R1 _ a2).1 (by unfold burn; split<;>omega)
   refine ⟨R2,by rw [Zb8 a1,b1],by rw [burn_add F _ _ (by omega)] at b2; exact b2,fun d hd=>?_⟩
   rw [b3 d hd,a3 d hd]; rfl
  ·
   by_cases hc:(c:Int)<=F
   ·
    obtain ⟨R1,a1,a2,a3⟩:=hi.1 (.inr hc)
    obtain ⟨e,R2,b1⟩:=(hl R1 _ a2).2 (by unfold burn; rw [if_pos h0]; omega) (by unfold burn; rw [if_pos h0]; omega)
    exact ⟨e,R2,by rw [Zb8 a1,b1]⟩
   ·
    obtain ⟨e,R1,a1⟩:=hi.2 h0 (by omega)
    exact ⟨e,R1,each_err a1⟩
theorem Pow.up {R:Rck} {n m:Nat} {F:Int} (h:Pow R n m F) {i:Nat} (hi:i < n):R.up (i:Int)=true/\R.has (i:Int)=true:=by
 have:R.has (i:Int)=true:=by unfold Rck.has; rw [h.len]; simp; omega
 refine ⟨?_,this⟩
 unfold Rck.up; rw [this,h.alive i hi]; rfl
theorem Pow.online {R:Rck} {n m:Nat} {F:Int} (h:Pow R n m F):R.online=List.range n:=by
 unfold Rck.online
 rw [h.len,List.filter_eq_self]
 intro i hi
 exact (h.up (List.mem_range.1 hi)).1
theorem Pow.may {R:Rck} {n m:Nat} {F:Int} (h:Pow R n m F) {i:Nat} (hi:i < n):((F < 0\/1<=F)->R.may i false=0/\R.asked i false={ R with fuse:=burn F 1 })/\(F=0->R.may i false=5/\R.asked i false={ R with off:=true }):=by
 obtain ⟨h1,h2⟩:=h.up hi
 unfold Rck.may Rck.asked
 rw [h1,h2,h.off]
 simp only [Bool.false_or,Bool.not_true,Bool.true_eq_false,if_false,Bool.false_eq_true,h.fuse]
 refine ⟨fun hF=>?_,fun hF=>?_⟩
 ·
  rw [if_neg (by omega),if_neg (by omega)]
  refine ⟨rfl,?_⟩
  unfold burn
  by_cases h0:0 < F
  ·
   rw [if_pos h0,if_pos (by omega)]; rfl
  ·
   rw [if_neg h0,if_neg (by omega)]
   rw [<- h.fuse,<- h.off]
 ·
  rw [if_pos hF,if_pos hF]; exact ⟨rfl,rfl⟩
theorem Pow.set {R:Rck} {n m:Nat} {F G:Int} (h:Pow R n m F) {i:Nat} (hi:i < n) (D:Dsk) (h1:D.l.length=m) (h2:D.dead=false) :
  Pow (({ R with fuse:=G }:Rck).setD i D) n m G/\∀ j:Nat,(({ R with fuse:=G }:Rck).setD i D).dsk j=if j=i then D else R.dsk j:=by
 have hd:∀ j:Nat,(({ R with fuse:=G }:Rck).setD i D).dsk j=if j=i then D else R.dsk j:=fun j=>Rck.dsk_setD ({ R with fuse:=G }:Rck) (n:=n) h.len hi D j
 refine ⟨⟨by simp [Rck.setD,h.len],fun j hj=>?_,fun j hj=>?_,h.off,rfl,h.pos⟩,hd⟩
 ·
  rw [hd j]; split
  ·
   exact h1
  ·
   exact h.secs j hj
 ·
  rw [hd j]; split
  ·
   exact h2
  ·
   exact h.alive j hj
theorem Does.write {n m i s:Nat} {b:List Nat} (hi:i < n) (hs:s < m) (hb:b.length=128):Does n m (fun R=>R.write i s b) 1 fun d D=>if d=i then D.write s b else D:=by
 intro R F h
 have hsec:(R.dsk 0).l.length=m:=h.secs 0 h.pos
 have hw:R.badW s b=false:=by unfold Rck.badW Rck.sectors; rw [hsec,hb]; simp; omega
 obtain ⟨m1,m2⟩:=h.may hi
 refine ⟨fun hF=>?_,fun h0 h1=>?_⟩
 ·
  obtain ⟨e1,e2⟩:=m1 (by omega)
  obtain ⟨p1,p2⟩:=h.set (G:=burn F 1) hi ((R.dsk i).write s b) (h.secs i hi) (h.alive i hi)
  refine ⟨_,?_,p1,fun d _=>?_⟩
  ·
   show R.write i s b=_
   unfold Rck.write
   rw [hw,if_pos e1,e2]; rfl
  ·
   rw [p2 d]
   by_cases e:d=i
   ·
    subst e; simp
   ·
    simp [e]
 ·
  obtain ⟨e1,e2⟩:=m2 (by omega)
  refine ⟨.fault sRackWrite i (.no 5),{ R with off:=true },?_⟩
  ·
   show R.write i s b=_
   unfold Rck.write
   rw [hw,e1,e2,if_neg (by decide)]
theorem Does.flush {n m i:Nat} (hi:i < n):Does n m (fun R=>R.flush i) 1 fun d D=>if d=i then D.flush else D:=by
 intro R F h
 obtain ⟨m1,m2⟩:=h.may hi
 refine ⟨fun hF=>?_,fun h0 h1=>?_⟩
 ·
  obtain ⟨e1,e2⟩:=m1 (by omega)
  obtain ⟨p1,p2⟩:=h.set (G:=burn F 1) hi (R.dsk i).flush (by rw [Dsk.flush_len]; exact h.secs i hi) (h.alive i hi)
  refine ⟨_,?_,p1,fun d _=>?_⟩
  ·
   show R.flush i=_
   unfold Rck.flush
   rw [if_pos e1,e2]
  ·
   rw [p2 d]
   by_cases e:d=i
   ·
    subst e; simp
   ·
    simp [e]
 ·
  obtain ⟨e1,e2⟩:=m2 (by omega)
  refine ⟨.fault sRackFlush i (.no 5),{ R with off:=true },?_⟩
  show R.flush i=_
  unfold Rck.flush
  rw [e1,e2,if_neg (by decide)]
namespace Dsk
def jw (c:Cfg) (slot:Nat) (x:Rcd) (D:Dsk):Dsk:=(List.range c.k.toNat).foldl (fun D i=>D.write (jsecN c slot i) (x.frm i).bytes) D
end Dsk
theorem foldl_same {α:Type} (p:Prop) [Decidable p] (f:Dsk->α->Dsk):∀ (l:List α) (D:Dsk),l.foldl (fun D i=>if p then f D i else D) D=if p then l.foldl f D else D
 | [],D=>by simp
 | i::l,D=>by
  rw [List.foldl_cons,foldl_same p f l]
  by_cases h:p
  ·
   simp [h]
  ·
   simp [h]
theorem Zbl (f:Dsk->Dsk) (d:Nat):∀ (n:Nat) (D:Dsk),(List.range n).foldl (fun D i=>if d=i then f D else D) D=if d < n then f D else D
 | 0,D=>by simp
 | n+1,D=>by
  rw [List.range_succ,List.foldl_append,Zbl f d n D]
  simp only [List.foldl_cons,List.foldl_nil]
  by_cases h:d < n
  ·
   rw [if_pos h,if_neg (by omega),if_pos (by omega)]
  ·
   by_cases e:d=n
   ·
    rw [if_neg h,if_pos e,if_pos (by omega)]
   ·
    rw [if_neg h,if_neg e,if_neg (by omega)]
section
variable {c:Cfg} {m slot:Nat} {x:Rcd}
theorem does_row (hc:c.Good) (hm:c.sectors<=(m:Int)) (hs:slot < c.slots.toNat) (hx:x.Fit c slot) {d:Nat} (hd:d < c.n.toNat):Does c.n.toNat m (fun R=>Rck.jrow c (slot:Int) x R d) c.k.toNat fun j D=>if j=d then D.jw c slot x else D:=by
 have hn1:=hc.n1; have hk1:=hc.k1
 refine (Does.each (f:=fun R i=>R.write d (Rck.jsec c slot i) (x.frm i).put) (c:=1) (g:=fun i j D=>if j=d then D.write (jsecN c slot i) (x.frm i).bytes else D) (List.range c.k.toNat) fun i hi=>?_).congr (by simp) fun j D _=>foldl_same (j=d) (fun D i=>D.write (jsecN c slot i) (x.frm i).bytes) _ D
 have hi:=List.mem_range.1 hi
 rw [jsec_eq hc,hx.put hc (by omega)]
 exact Does.write hd (Zch hc hm hs hi) (hx.len i)
theorem does_put (hc:c.Good) (hm:c.sectors<=(m:Int)) (hs:slot < c.slots.toNat) (hx:x.Fit c slot):Does c.n.toNat m (fun R=>R.jput c (slot:Int) x) (c.n.toNat*c.k.toNat+c.n.toNat) fun _ D=>(D.jw c slot x).flush:=by
 have d1:Does c.n.toNat m (each (Rck.jrow c (slot:Int) x) (List.range c.n.toNat)) (c.k.toNat*c.n.toNat) fun j D=>if j < c.n.toNat then D.jw c slot x else D :=
  (Does.each (g:=fun d j D=>if j=d then D.jw c slot x else D) (List.range c.n.toNat) fun d hd=>does_row hc hm hs hx (List.mem_range.1 hd)).congr (by simp) fun j D _=>Zbl (Dsk.jw c slot x) j _ D
 have d2:Does c.n.toNat m (each (fun R (d:Nat)=>R.flush d) (List.range c.n.toNat)) (1*c.n.toNat) fun j D=>if j < c.n.toNat then D.flush else D :=
  (Does.each (f:=fun R (d:Nat)=>R.flush d) (g:=fun d j D=>if j=d then D.flush else D) (List.range c.n.toNat) fun d hd=>Does.flush (List.mem_range.1 hd)).congr (by simp) fun j D _=>Zbl Dsk.flush j _ D
 rw [Nat.mul_comm] at d1
 rw [Nat.one_mul] at d2
 intro R F h
 refine ⟨fun hF=>?_,fun h0 h1=>?_⟩
 ·
  obtain ⟨R1,a1,a2,a3⟩:=(d1 R F h).1 (by omega)
  obtain ⟨R2,b1,b2,b3⟩:=(d2 R1 _ a2).1 (by unfold burn; split<;>omega)
  refine ⟨R2,?_,by rw [burn_add F _ _ (by omega)] at b2; exact b2,fun d hd=>?_⟩
  ·
   show R.jput c slot x=_
   unfold Rck.jput
   rw [h.online,a1]
   simp only
   rw [a2.online,b1]
  ·
   rw [b3 d hd,a3 d hd]; simp only [hd,if_true]
 ·
  by_cases hk:((c.n.toNat*c.k.toNat:Nat):Int)<=F
  ·
   obtain ⟨R1,a1,a2,a3⟩:=(d1 R F h).1 (.inr hk)
   obtain ⟨e,R2,b1⟩:=(d2 R1 _ a2).2 (by unfold burn; rw [if_pos h0]; omega) (by unfold burn; rw [if_pos h0]; omega)
   refine ⟨e,R2,?_⟩
   show R.jput c slot x=_
   unfold Rck.jput
   rw [h.online,a1]
   simp only
   rw [a2.online,b1]
  ·
   obtain ⟨e,R1,a1⟩:=(d1 R F h).2 h0 (by omega)
   refine ⟨e,R1,?_⟩
   show R.jput c slot x=_
   unfold Rck.jput
   rw [h.online,a1]
end
namespace Dsk
variable {c:Cfg} {slot:Nat} {x:Rcd}
theorem jw_facts (D:Dsk):∀ (k:Nat) (D:Dsk),let E:=(List.range k).foldl (fun D i=>D.write (jsecN c slot i) (x.frm i).bytes) D
  E.l=D.l/\E.dead=D.dead/\E.rot=D.rot/\(∀ i,i < k->E.waits (jsecN c slot i)=some (x.frm i).bytes)/\∀ j,(∀ i,i < k->j≠jsecN c slot i)->E.waits j=D.waits j
 | 0,D=>⟨rfl,rfl,rfl,fun i hi=>absurd hi (Nat.not_lt_zero _),fun _ _=>rfl⟩
 | k+1,D=>by
  obtain ⟨h1,h2,h3,h4,h5⟩:=jw_facts D k D
  simp only [List.range_succ,List.foldl_append,List.foldl_cons,List.foldl_nil]
  generalize (List.range k).foldl (fun D i=>D.write (jsecN c slot i) (x.frm i).bytes) D=E at *
  refine ⟨h1,h2,h3,fun i hi=>?_,fun j hj=>?_⟩
  ·
   show (if jsecN c slot i=jsecN c slot k then some (x.frm k).bytes else E.waits (jsecN c slot i))=_
   by_cases e:i=k
   ·
    subst e; rw [if_pos rfl]
   ·
    rw [if_neg (by unfold jsecN; omega)]; exact h4 i (by omega)
  ·
   show (if j=jsecN c slot k then some (x.frm k).bytes else E.waits j)=_
   rw [if_neg (hj k (by omega))]
   exact h5 j fun i hi=>hj i (by omega)
end Dsk
end Go.Proofs.YtgjnnbomnoafcaaGreat
namespace Go.Proofs.YtgjnnbomnoafcaaGreat
set_option linter.unusedVariables false
structure DW (D:Dsk) (c:Cfg) (m:Nat) (f:Nat->Option Rcd) (B:Nat->Bool):Prop where
 len:D.l.length=m
 alive:D.dead=false
 waits:∀ i,D.waits i=none
 rot:∀ i,B i=false->D.rot i=false
 has:∀ s x i,s < c.slots.toNat->f s=some x->i < c.k.toNat->B (jsecN c s i)=false->D.read (jsecN c s i)=(x.frm i).bytes
 bad:∀ j,B j=true->Frm.get (D.read j)=none
def upd (f:Nat->Option Rcd) (s:Nat) (x:Rcd) (t:Nat):Option Rcd:=if t=s then some x else f t
theorem upd_at (f:Nat->Option Rcd) (s:Nat) (x:Rcd):upd f s x s=some x:=if_pos rfl
theorem Zbj (f:Nat->Option Rcd) {s t:Nat} (x:Rcd) (h:t≠s):upd f s x t=f t:=if_neg h
def noB:Nat->Bool:=fun _=>false
namespace DW
variable {D:Dsk} {c:Cfg} {m:Nat} {f:Nat->Option Rcd} {B:Nat->Bool}
end DW
structure RJ (R:Rck) (c:Cfg) (m:Nat) (f:Nat->Option Rcd):Prop where
 pow:Pow R c.n.toNat m (-1)
 good:c.Good
 fit:c.sectors<=(m:Int)
 dsk:∀ d:Nat,d < c.n.toNat->DW (R.dsk d) c m f noB
 fits:∀ s x,f s=some x->x.Fit c s
namespace RJ
variable {R:Rck} {c:Cfg} {m:Nat} {f:Nat->Option Rcd}
end RJ
end Go.Proofs.YtgjnnbomnoafcaaGreat
namespace Go.Proofs.YtgjnnbomnoafcaaGreat
set_option linter.unusedVariables false
structure CutD (c:Cfg) (m:Nat) (X Y:Rcd) (D:Dsk):Prop where
 len:D.l.length=m
 alive:D.dead=false
 base:∀ i,i < c.k.toNat->D.l.getD (jsecN c 0 i) []=(X.frm i).bytes\/D.l.getD (jsecN c 0 i) []=(Y.frm i).bytes
 wait:∀ i,i < c.k.toNat->D.waits (jsecN c 0 i)=none\/D.waits (jsecN c 0 i)=some (Y.frm i).bytes
namespace CutD
variable {c:Cfg} {m:Nat} {X Y:Rcd} {D:Dsk}
end CutD
theorem Rck.asked_lP (R:Rck) (i:Int) (b:Bool):(R.asked i b).l=R.l:=by
 unfold Rck.asked
 repeat' split
 all_goals rfl
theorem each_inv {α:Type} {f:Rck->α->Option Err × Rck} (P:Rck->Prop):∀ (l:List α),(∀ i∈l,∀ R,P R->P (f R i).2)->∀ R,P R->P (each f l R).2
 | [],_,R,h=>h
 | i::l,hf,R,h=>by
  have h1:=hf i List.mem_cons_self R h
  rcases hr:f R i with ⟨o,R'⟩
  rw [hr] at h1
  rcases o with _ | e
  ·
   rw [Zb8 hr]
   exact each_inv P l (fun j hj=>hf j (List.mem_cons_of_mem _ hj)) R' h1
  ·
   rw [each_err hr]; exact h1
structure CutR (c:Cfg) (m:Nat) (X Y:Rcd) (R:Rck):Prop where
 len:R.l.length=c.n.toNat
 dsk:∀ d:Nat,d < c.n.toNat->CutD c m X Y (R.dsk d)
namespace CutR
variable {c:Cfg} {m:Nat} {X Y:Rcd} {R:Rck}
end CutR
namespace Cut
variable {c:Cfg} {m:Nat} {f:Nat->Option Rcd} {X Y:Rcd} {R:Rck}
end Cut
end Go.Proofs.YtgjnnbomnoafcaaGreat
namespace Go.Proofs.YtgjnnbomnoafcaaGreat
set_option linter.unusedVariables false
structure RB (R:Rck) (c:Cfg) (m:Nat) (f:Nat->Option Rcd) (B:Nat->Nat->Bool):Prop where
 live:Live R c.n.toNat m
 good:c.Good
 fit:c.sectors<=(m:Int)
 dsk:∀ d:Nat,d < c.n.toNat->DW (R.dsk d) c m f (B d)
 fits:∀ s x,f s=some x->x.Fit c s
namespace RB
variable {R:Rck} {c:Cfg} {m:Nat} {f:Nat->Option Rcd} {B B':Nat->Nat->Bool}
end RB
structure One (R:Rck) (c:Cfg) (m:Nat) (f:Nat->Option Rcd) (x:Rcd) (left d:Nat):Prop where
 live:Live R c.n.toNat m
 good:c.Good
 fit:c.sectors<=(m:Int)
 has:f 0=some x
 fits:x.Fit c 0
 left:left < c.n.toNat/\∀ i,i < c.k.toNat->(R.dsk left).jg c 0 i=some (x.frm i)
 past:∀ e:Nat,e < c.n.toNat->e < d->∀ i,i < c.k.toNat->(R.dsk e).jg c 0 i=some (x.frm i)\/(R.dsk e).jg c 0 i=none
 rest:∀ e:Nat,e < c.n.toNat->d<=e->DW (R.dsk e) c m f noB
namespace One
variable {R:Rck} {c:Cfg} {m:Nat} {f:Nat->Option Rcd} {x:Rcd} {left d:Nat}
end One
end Go.Proofs.YtgjnnbomnoafcaaGreat
namespace Go.Proofs.YtgjnnbomnoafcaaGreat
set_option linter.unusedVariables false
section
variable {R:Rck} {c:Cfg} {m:Nat} {f:Nat->Option Rcd} {i keep d:Nat} {x:Rcd}
end
end Go.Proofs.YtgjnnbomnoafcaaGreat
namespace Go.Proofs.YtgjnnbomnoafcaaGreat
set_option linter.unusedVariables false
open Go Go.RowKit
def blocksOf (k:Nat) (n:Int):List (List Nat):=(List.range k).map fun i:Nat=>blockOf (wrap64 (n+31*(i:Int)))
def recOf (c:Cfg) (seq stripe n:Int):Rcd:=⟨seq,stripe,blocksOf c.k.toNat n⟩
namespace Runs10
def c:Cfg:=⟨9,1,2,1,2⟩
def x:Rcd:=recOf c 3 0 5
structure All (R1 R2 R3:Rck):Prop where
 b0:(Rck.new 2 4).jblank c 0=(none,R1)
 b1:R1.jblank c 1=(none,R2)
 lg:R2.jlog c x=(none,R3)
 s1:R3.jslot c 1=(x,true,3,none)
 s0:R3.jslot c 0=(⟨0,0,[List.replicate 108 0]⟩,true,0,none)
 r0:R3.rotOk 0 2 0 1=true
 r1:(R3.rot 0 2 0 1).rotOk 1 2 0 1=true
 s2:((R3.rot 0 2 0 1).rot 1 2 0 1).jslot c 1=(Rcd.none_,false,0,some (.fault sJSlot 1 (.loss 1 0 1)))
end Runs10
end Go.Proofs.YtgjnnbomnoafcaaGreat
namespace Go
theorem fill_one {Z A:Array Value} {sz:Nat} {v:Value} (hv:v.cells=A) (hA:A.size=sz) (hZ:Z.size=sz):Instr.fill (fun i=>some (i*sz,sz)) Z [(0,v)]=some A:=by
 have hs:v.cells.size=sz:=by rw [hv]; exact hA
 unfold Instr.fill
 simp only [hs,Nat.zero_mul]
 rw [if_neg (by simp; omega)]
 simp only [Instr.fill]
 congr 1
 rw [hv]
 apply Array.ext_getElem?
 intro i
 have h:=fold_set 0 A.toList 0 Z i
 simp only [Nat.zero_add] at h
 rw [<- Array.foldl_toList,Array.toList_zipIdx]
 simp only [Nat.zero_add]
 refine h.trans ?_
 rw [Array.length_toList,hZ,hA]
 by_cases hi:i < sz
 ·
  rw [if_pos ⟨Nat.zero_le _,hi,hi⟩]; simp
 ·
  rw [if_neg (fun q=>hi q.2.2),Array.getElem?_eq_none (by omega),Array.getElem?_eq_none (by omega)]
theorem Zak {P:Program} {ops:Array Oper} {rest:List Oper} {o:Oper} {a:Act} {w:World} {Q:Exit->Act->World->Prop} (hg:o.guard=none) (t e:TypeId) (x:Operand) (ho:o.op=.buildSlice t 1 #[(0,x)])
  (A:Array Value) (v z:Value) (sz by_:Nat) (hu:P.underlying t=some (.slice e)) (hi:(P.info? e).map (fun i=>(i.zero,i.size,i.bytes))=some (some z,sz,by_)) (h0:0 < sz) (hs:sz<=16777216) (hx:a.eval x=v) (hv:v.cells=A) (hA:A.size=sz)
  (h:wpList P ops Q rest (a.put o.dst (.slice (some ⟨w.heap.size,0,none⟩) 1 1)) (w.alloc (.cells A e))):wpList P ops Q (o::rest) a w:=by
 cases hie:P.info? e with
 | none=>rw [hie] at hi; cases hi
 | some ie =>
  rw [hie] at hi
  simp only [Option.map_some,Option.some.injEq,Prod.mk.injEq] at hi
  obtain ⟨hz,hsz,_⟩:=hi
  refine wpList_buildSlice hg t e 1 _ ho A ie z hu hie hz (by rw [hsz]; omega) (by rw [hsz]; omega) ?_ h
  rw [hsz]
  have e1:((#[(0,x)]:Array (Nat × Operand)).map fun (i,x)=>(i,a.eval x)).toList=[(0,v)]:=by simp [hx]
  rw [e1]
  exact fill_one hv hA (by simp)
end Go
namespace Go.Proofs.YtgjnnbomnoafcaaGreat
set_option linter.unusedVariables false
open Go Go.RowKit
theorem OwnVs.add {w:World} {B sz:Nat} {ty:TypeId} {v:Value} {l:List (Array Value)} (h:OwnVs w B ty sz v l) {tsl:TypeId} {z:Value} {by_:Nat} (hu:Tryz.prog.underlying tsl=some (.slice ty)) (hi:(Tryz.prog.info? ty).map (fun i=>(i.zero,i.size,i.bytes))=some (some z,sz,by_)) (hz:z.cells.size=sz) (h0:0 < sz)
  (x:Array Value) (hx:x.size=sz) (h1:∀ u∈x.toList,u.oneCell'=true) (hl:l.length < 1000) (hby:by_<=1000000) (hB:B<=w.heap.size) :
  ∃ v' w',(Builtin.append_ #[tsl,tsl] tsl #[v,.slice (some ⟨w.heap.size,0,none⟩) 1 1]).run Tryz.prog (w.alloc (.cells x ty))=.ok v' w'/\OwnVs w' B ty sz v' (l++[x]) ∧
   Only (fun b=>v.ownBlock=some b) w w'/\(∀ w0,w0.heap.size<=B->Ext w0 w->Ext w0 w'):=by
 have hxt:Ext w (w.alloc (.cells x ty)):=(Ext.refl w).alloc _
 obtain ⟨v',w',e1,e2,e3,e4,_⟩:=(h.ext hxt).push hu hi hz h0 x hx h1 ⟨w.heap.size,0,none⟩ (Zai Zad) 1 hl hby (by simp; omega)
 exact ⟨v',w',e1,e2,Only.trans (Ext.only hxt) e3 (fun _ _ h=>h),fun w0 hw0 hx0=>e4 w0 hw0 (hx0.alloc _)⟩
end Go.Proofs.YtgjnnbomnoafcaaGreat
