/- Texts of one proof, joined: MendLeft, VolWas, SameBlk2, SupG, MendCommit, MendHeal, MendFull. -/
import Derived.Test.YtkipjmbplmdaaaaGreatMAC
import Derived.Test.YtkipjmbplmdaaaaGreatMW
import Derived.Test.YtkipjmbplmdaaaaGreatMU
import Derived.Test.YtkipjmbplmdaaaaGreatMJ
import Derived.Test.YtkipjmbplmdaaaaGreatMR
import Derived.Test.YtkipjmbplmdaaaaGreatMA
import Derived.Test.YtkipjmbplmdaaaaGreatMAB
import Derived.Test.YtkipjmbplmdaaaaGreatMY
import Derived.Test.YtkipjmbplmdaaaaGreatMAD
import Derived.Test.YtkipjmbplmdaaaaGreatMO
set_option linter.unusedVariables false
set_option linter.unusedSimpArgs false
namespace Go.Proofs.YtkipjmbplmdaaaaGreat
set_option linter.unusedVariables false
open Go.Proofs.YtkipjmbplmdaaaaGreat.GT (cnt Played Opened Shut)
structure MR (R:Rck) (c:Cfg) (m:Nat) (j:Nat->Option Rcd) (f:Strs) (L:List Nat):Prop where
 ex:∃ sp jr st,MZ R c m j f (fun _=>true) sp jr st/\∀ d∈L,d < c.n.toNat/\sp d=true/\(∀ s i,jr d s i=j s)/\∀ t,st d t=f t
 nd:L.Nodup
namespace MR
variable {R:Rck} {c:Cfg} {m:Nat} {cur:Int} {j:Nat->Option Rcd} {f:Strs} {L L':List Nat}
theorem start (h:VH R c m true j f) (hv:VI c cur j f) (hm:(m:Int)=c.sectors):MR R c m j f (List.range c.n.toNat) :=
 ⟨⟨_,_,_,MZ.of_vh h hv hm,fun d hd=>⟨List.mem_range.1 hd,rfl,fun _ _=>rfl,fun _=>rfl⟩⟩,List.nodup_range⟩
theorem less (h:MR R c m j f L) (hs:L'.Sublist L):MR R c m j f L':=by
 obtain ⟨sp,jr,st,h1,h2⟩:=h.ex
 exact ⟨⟨sp,jr,st,h1,fun d hd=>h2 d (hs.subset hd)⟩,h.nd.sublist hs⟩
theorem upD_true {d:Nat}:upD (fun _:Nat=>true) d true=fun _=>true:=upD_self (fun _=>true) d
theorem replace (h:MR R c m j f L) {d:Nat} (hd:d < c.n.toNat) (hn:d∉L):MR (R.replace (d:Nat)) c m j f L:=by
 obtain ⟨sp,jr,st,h1,h2⟩:=h.ex
 have h3:=h1.replace hd
 rw [upD_true] at h3
 refine ⟨⟨_,_,_,h3,fun e he=>?_⟩,h.nd⟩
 have hne:e≠d:=fun q=>hn (q▸he)
 rw [Zcl _ _ hne,Zcl _ _ hne,Zcl _ _ hne]
 exact h2 e he
theorem rot (h:MR R c m j f L) (hm:(m:Int)=c.sectors) {d q A X:Nat} (hd:d < c.n.toNat) (hn:d∉L) (hq:q < m) (hA:A<=124) (hX:X < 4294967296):MR (R.rot (d:Nat) (q:Nat) (A:Nat) X) c m j f L:=by
 obtain ⟨sp,jr,st,h1,h2⟩:=h.ex
 obtain ⟨s',j',t',h3⟩:=h1.rot hm hd hq hA hX
 refine ⟨⟨_,_,_,h3,fun e he=>?_⟩,h.nd⟩
 have hne:e≠d:=fun q=>hn (q▸he)
 rw [Zcl _ _ hne,Zcl _ _ hne,Zcl _ _ hne]
 exact h2 e he
theorem live (h:MR R c m j f L):Live R c.n.toNat m:=by
 obtain ⟨sp,jr,st,h1,h2⟩:=h.ex
 exact h1.gt.live
theorem lt (h:MR R c m j f L):∀ d∈L,d < c.n.toNat:=by
 obtain ⟨sp,jr,st,h1,h2⟩:=h.ex
 exact fun d hd=>(h2 d hd).1
theorem sure (h:MR R c m j f L) (hv:VI c cur j f) (hL:c.k.toNat<=L.length):∃ sp jr st,GT R c m (fun _=>true) sp jr st/\(∀ d s i,d < c.n.toNat->s < c.slots.toNat->i < c.k.toNat->jr d s i=none\/jr d s i=j s)/\(∀ d t,d < c.n.toNat->t < c.stripes.toNat->st d t=none\/st d t=f t) ∧
  c.k.toNat<=cnt (fun d=>decide (d∈L)) c.n.toNat/\∀ d,d < c.n.toNat->decide (d∈L)=true->sp d=true/\(∀ s i,s < c.slots.toNat->i < c.k.toNat->jr d s i=j s)/\∀ t,t < c.stripes.toNat->st d t=f t:=by
 obtain ⟨sp,jr,st,h1,h2⟩:=h.ex
 refine ⟨sp,jr,st,h1.gt,h1.hj,h1.hs,Nat.le_trans hL ?_,fun d hd hG=>?_⟩
 ·
  unfold GT.cnt
  refine List.Nodup.length_le_of_subset h.nd fun d hd=>?_
  rw [List.mem_filter,List.mem_range]
  exact ⟨(h2 d hd).1,by simpa using hd⟩
 ·
  have hd':d∈L:=of_decide_eq_true hG
  exact ⟨(h2 d hd').2.1,fun s i _ _=>(h2 d hd').2.2.1 s i,fun t _=>(h2 d hd').2.2.2 t⟩
end MR
structure MF (R:Rck) (c:Cfg) (m:Nat) (j:Nat->Option Rcd) (f:Strs) (U sp:Nat->Bool) (jr:JR) (st:ST) (G:Nat->Bool):Prop where
 gt:GT R c m U sp jr st
 hj:∀ d s i,d < c.n.toNat->s < c.slots.toNat->i < c.k.toNat->jr d s i=none\/jr d s i=j s
 hs:∀ d t,d < c.n.toNat->t < c.stripes.toNat->st d t=none\/st d t=f t
 hG:c.k.toNat<=cnt G c.n.toNat
 full:∀ d,d < c.n.toNat->G d=true->sp d=true/\(∀ s i,s < c.slots.toNat->i < c.k.toNat->jr d s i=j s)/\∀ t,t < c.stripes.toNat->st d t=f t
namespace MF
variable {R:Rck} {c:Cfg} {m:Nat} {cur:Int} {j:Nat->Option Rcd} {f:Strs} {U sp G:Nat->Bool} {jr:JR} {st:ST}
theorem some_ (h:MF R c m j f U sp jr st G):∃ d,d < c.n.toNat/\G d=true:=by
 have hk:=h.gt.k0
 have hne:(List.range c.n.toNat).filter G≠[]:=fun q=>by
  have:cnt G c.n.toNat=0:=by unfold GT.cnt; rw [q]; rfl
  have:=h.hG
  omega
 obtain ⟨d,hd⟩:=List.exists_mem_of_ne_nil _ hne
 obtain ⟨h1,h2⟩:=List.mem_filter.1 hd
 exact ⟨d,List.mem_range.1 h1,h2⟩
theorem ms (h:MF R c m j f U sp jr st G) (hv:VI c cur j f):MS R c m j f U sp jr st:=by
 refine ⟨h.gt,h.hj,h.hs,fun s hs'=>?_,fun t ht=>?_⟩
 ·
  obtain ⟨x,ex,_⟩:=hv.vv.slot s hs'
  obtain ⟨h1,h2,_⟩:=hv.fit hs' ex
  obtain ⟨d,hd,hg⟩:=h.some_
  exact ⟨x,ex,h1,h2,fun i hi=>⟨d,hd,by rw [(h.full d hd hg).2.1 s i hs' hi]; exact ex⟩⟩
 ·
  obtain ⟨gen,l,ey,hx,_⟩:=hv.vv.str t ht
  refine ⟨(gen,l),ey,hx,Nat.le_trans h.hG ?_⟩
  unfold GT.cnt
  refine Zcp fun d hm hgd=>?_
  rw [(h.full d (List.mem_range.1 hm) hgd).2.2 t ht,ey]
  exact decide_eq_true rfl
end MF
theorem MR.mf {R:Rck} {c:Cfg} {m:Nat} {cur:Int} {j:Nat->Option Rcd} {f:Strs} {L:List Nat} (h:MR R c m j f L) (hv:VI c cur j f) (hL:c.k.toNat<=L.length):∃ sp jr st,MF R c m j f (fun _=>true) sp jr st fun d=>decide (d∈L):=by
 obtain ⟨sp,jr,st,h1,h2,h3,h4,h5⟩:=h.sure hv hL
 exact ⟨sp,jr,st,h1,h2,h3,h4,h5⟩
theorem Tnt.die_any {R0 R:Rck} {n m:Nat} {L:List Nat} (h:Tnt R0 R n m L) {d:Nat} (hd:d < n):Tnt R0 (R.die (d:Nat)) n m (L.erase d):=by
 have hl:=h.live.secs d hd
 have e1:=h.live.die hd
 obtain ⟨l1,k1⟩:=h.live.setD (R.dsk (d:Nat)).die (by rw [Dsk.die_len]; exact hl) hd
 rw [e1]
 refine ⟨l1,h.nodup.erase d,fun e he=>h.lt e (List.mem_of_mem_erase he),fun e he=>?_,fun e he=>?_⟩
 ·
  have hne:e≠d:=fun q=>by rw [q] at he; exact h.nodup.not_mem_erase he
  rw [k1,if_neg hne]; exact h.same e (List.mem_of_mem_erase he)
 ·
  rw [k1]
  by_cases z:e=d
  ·
   rw [if_pos z,z]
   have e0:(R0.dsk (d:Nat)).l.length=(R.dsk (d:Nat)).l.length:=by
    cases h.worn d hd with
    | same q=>rw [q]
    | die q=>rw [q,Dsk.die_len]
    | replace q=>rw [q,Dsk.replace_len]
    | rot s a hs ha q=>rw [q,Dsk.rotted_len]
   refine .die ?_
   unfold Dsk.die Dsk.blank
   rw [e0]
  ·
   rw [if_neg z]; exact h.worn e he
theorem length_erase_ge (L:List Nat) (d:Nat):L.length<=(L.erase d).length+1:=by
 rw [List.length_erase]
 split<;>omega
end Go.Proofs.YtkipjmbplmdaaaaGreat
namespace Go.Proofs.YtkipjmbplmdaaaaGreat
set_option linter.unusedVariables false
open Go Go.RowKit
theorem infoBs:(Tryz.prog.info? 29).map (fun i=>(i.zero,i.size,i.bytes))=some (some (.slice none 0 0),1,24):=by kernel_rfl
theorem make_was (k:Nat) (h1:k<=8):∃ C:Array Value,(∀ w:World,Sem.run Tryz.prog (Instr.makeSlice 55 (.int .i64 k) (.int .i64 k)) w=.ok (.slice (some ⟨w.heap.size,0,none⟩) k k) (w.alloc (.cells C 29)))/\C.size=k/\∀ q,q < k->C[q]?=some (.slice none 0 0):=by
 obtain ⟨i0,hi,hz0,hz1,hz2⟩:=info_parts infoBs
 refine ⟨madeCells #[.slice none 0 0] (k*1),fun w=>?_,by unfold madeCells; simp,fun q hq=>?_⟩
 ·
  have h:=run_make (P:=Tryz.prog) w 55 29 i0 (.slice none 0 0) Tryz.underlying55 hi hz0 .i64 .i64 k k (by omega) (Int.le_refl _) (by rw [hz2]; omega) (by omega)
  rw [h,hz1]
  rfl
 ·
  unfold madeCells
  rw [Array.getElem?_map,Array.getElem?_range,if_pos (by omega)]
  have e:q % 1=0:=Nat.mod_one q
  simp [e]
structure WasAt (w:World) (g0 N:Nat) (F:Nat->List (List Nat)) (a:Nat->Option Addr) (cp:Nat->Nat):Prop where
 blk:∃ C:Array Value,w.heap[g0]?=some (.cells C 29 (0,0))/\C.size=N/\∀ s,s < N->C[s]?=some (.slice (a s) (F s).length (cp s))
 bks:∀ s,s < N->BlksAt w (a s) (F s)
structure WasOwn (S:Nat->Prop) (g0 N:Nat) (F:Nat->List (List Nat)) (a:Nat->Option Addr):Prop where
 own:S g0
 bks:∀ s,s < N->F s≠[]->∀ b,a s=some ⟨b,0,none⟩->S b/\b≠g0
theorem WasOwn.mono {S T:Nat->Prop} {g0 N:Nat} {F:Nat->List (List Nat)} {a:Nat->Option Addr} (h:WasOwn S g0 N F a) (hT:∀ b,S b->T b):WasOwn T g0 N F a:=⟨hT _ h.own,fun s hs hn b e=>⟨hT _ (h.bks s hs hn b e).1,(h.bks s hs hn b e).2⟩⟩
theorem BlksAt.nil (w:World) (a:Option Addr):BlksAt w a []:=fun i b hb=>by simp at hb
namespace WasAt
variable {w w':World} {S:Nat->Prop} {g0 N:Nat} {F:Nat->List (List Nat)} {a:Nat->Option Addr} {cp:Nat->Nat}
theorem new (C:Array Value) (hC:C.size=N) (h:∀ q,q < N->C[q]?=some (.slice none 0 0)):WasAt (w.alloc (.cells C 29)) w.heap.size N (fun _=>[]) (fun _=>none) fun _=>0:=⟨⟨C,heap_alloc_new _ _,hC,h⟩,fun s _=>BlksAt.nil _ _⟩
theorem ext (h:WasAt w g0 N F a cp) (e:Ext w w'):WasAt w' g0 N F a cp:=by
 obtain ⟨⟨C,h1,h2,h3⟩,h4⟩:=h
 exact ⟨⟨C,e.at h1,h2,h3⟩,fun s hs=>(h4 s hs).ext e⟩
theorem only {P:Nat->Prop} (h:WasAt w g0 N F a cp) (o:WasOwn S g0 N F a) (e:Only P w w') (hP:∀ b,S b->¬P b):WasAt w' g0 N F a cp:=by
 obtain ⟨⟨C,h1,h2,h3⟩,h4⟩:=h
 refine ⟨⟨C,e.at h1 (hP _ o.own),h2,h3⟩,fun s hs=>?_⟩
 by_cases q:F s=[]
 ·
  rw [q]; exact BlksAt.nil _ _
 ·
  exact (h4 s hs).only e fun b eb=>hP b (o.bks s hs q b eb).1
theorem cell (h:WasAt w g0 N F a cp) {s:Nat} (hs:s < N):w.cell? ⟨g0,s,none⟩=some (.slice (a s) (F s).length (cp s)):=by
 obtain ⟨⟨C,h1,h2,h3⟩,h4⟩:=h
 exact (Zag h1).trans (h3 s hs)
theorem free (h:WasAt w g0 N F a cp) (s:Nat):w.frozen? ⟨g0,s,none⟩=false:=by
 obtain ⟨⟨C,h1,h2,h3⟩,h4⟩:=h
 exact Za6 h1
theorem set (h:WasAt w g0 N F a cp) (o:WasOwn S g0 N F a) {s:Nat} {l:List (List Nat)} {a':Option Addr} {c':Nat} (hl:BlksAt w a' l) (ho:∀ b,a'=some ⟨b,0,none⟩->S b/\b≠g0) :
  WasAt (w.setCell ⟨g0,s,none⟩ (.slice a' l.length c')) g0 N (fun t=>if t=s then l else F t) (fun t=>if t=s then a' else a t) (fun t=>if t=s then c' else cp t)/\WasOwn S g0 N (fun t=>if t=s then l else F t) (fun t=>if t=s then a' else a t):=by
 have k:Only (fun b=>b=g0) w (w.setCell ⟨g0,s,none⟩ (.slice a' l.length c')):=Zbo _ _ _ _
 obtain ⟨⟨C,h1,h2,h3⟩,h4⟩:=h
 refine ⟨⟨⟨C.setIfInBounds s (.slice a' l.length c'),Zay h1 _,by rw [Array.size_setIfInBounds,h2],fun t ht=>?_⟩,fun t ht=>?_⟩,o.own,fun t ht hn b e=>?_⟩
 ·
  rw [Array.getElem?_setIfInBounds]
  show _=some (Value.slice (if t=s then a' else a t) (if t=s then l else F t).length (if t=s then c' else cp t))
  by_cases e:s=t
  ·
   subst e; rw [if_pos rfl,if_pos (by omega),if_pos rfl,if_pos rfl,if_pos rfl]
  ·
   rw [if_neg e,if_neg (fun q:t=s=>e q.symm),if_neg (fun q:t=s=>e q.symm),if_neg (fun q:t=s=>e q.symm)]; exact h3 t ht
 ·
  show BlksAt _ (if t=s then a' else a t) (if t=s then l else F t)
  by_cases e:t=s
  ·
   rw [if_pos e,if_pos e]; exact hl.only k fun b eb q=>(ho b eb).2 q
  ·
   rw [if_neg e,if_neg e]
   by_cases q:F t=[]
   ·
    rw [q]; exact BlksAt.nil _ _
   ·
    exact (h4 t ht).only k fun b eb z=>(o.bks t ht q b eb).2 z
 ·
  have hn:(if t=s then l else F t)≠[]:=hn
  have e:(if t=s then a' else a t)=some ⟨b,0,none⟩:=e
  by_cases q:t=s
  ·
   rw [if_pos q] at e; exact ho b e
  ·
   rw [if_neg q] at e hn; exact o.bks t ht hn b e
end WasAt
end Go.Proofs.YtkipjmbplmdaaaaGreat
namespace Go.Proofs.YtkipjmbplmdaaaaGreat
set_option linter.unusedVariables false
open Go Go.RowKit
theorem block_neq2 (l m:List Nat) (hl:l.length=108) (hm:m.length=108) (w:World):(binOp .neq 24 (.agg (bA l)) (.agg (bA m))).run Tryz.prog w=.ok (.bool (!(l == m))) w:=by
 rw [run_neq_struct]
 have h:=run_bytes_eq 9998 24 l m hl hm Tryz.underlying24 w
 rw [show (Op.equalIn 10000 24 (.agg (bA l)) (.agg (bA m))).run Tryz.prog w=.ok (l == m) w from h]; rfl
attribute [local irreducible] wpSQ
set_option maxRecDepth 100000 in
set_option maxHeartbeats 1000000 in
theorem sameblk2_c (l m:List (List Nat)) (hl:∀ b∈l,b.length=108) (hm:∀ b∈m,b.length=108) (hlm:m.length=l.length) (hn:l.length<=8) (a1 a2:Option Addr) (c1 c2:Nat) (w:World) (h1:BlksAt w a1 l) (h2:BlksAt w a2 m) :
  Calls Tryz.prog 13 #[.slice a1 l.length c1,.slice a2 m.length c2] w fun e w'=>e=.returned (.bool (decide (l=m)))/\Ext w w':=by
 rw [hlm]
 have HM:=hid hm
 have HLM:=hid hlm
 clear hm hlm
 have H1:=hid h1
 have H2:=hid h2
 have HL:=hid hl
 have hn8:(l.length:Int)<=8:=by omega
 have hne:((l.length:Int) != (l.length:Int))=false:=by simp
 clear h1 h2 hl
 go_enter Tryz.func13,Tryz.ntmps13
 go_wp2
 clear hne
 go_loopw [5] (fun t wr=>∃ j:Nat,t=.int .i64 j/\j<=l.length/\(∀ i,i < j->l[i]?=m[i]?)/\Ext w wr) (fun t _=>l.length - (intOf t).toNat)
 case atStart=>exact ⟨0,rfl,by omega,fun i hi=>by omega,Ext.refl _⟩
 case round =>
  obtain ⟨j,rfl,hj,heq,hx⟩:=hrel
  have HEQ:=hid heq
  clear heq
  by_cases hlt:j < l.length
  ·
   have j0:(0:Int)<=(j:Int):=by omega
   have j1:(j:Int) < (l.length:Int):=by omega
   obtain ⟨b,hb⟩:∃ b,l[j]?=some b:=⟨l[j],List.getElem?_eq_getElem hlt⟩
   have hbl:=HL.out b (List.mem_of_getElem? hb)
   obtain ⟨b',hb'⟩:∃ b',m[j]?=some b':=⟨m[j]'(by rw [HLM.out]; exact hlt),List.getElem?_eq_getElem _⟩
   have hbl':=HM.out b' (List.mem_of_getElem? hb')
   obtain ⟨g1,rfl,k1⟩:=H1.out j b hb
   obtain ⟨g2,rfl,k2⟩:=H2.out j b' hb'
   have xd:Ext wr wr.drew:=(Ext.refl wr).drew
   have cells:∀ (b:List Nat) (hbl:b.length=108) (g:Nat),(∀ q,q < 108->w.cell? ⟨g,j*108+q,none⟩=some (.int .u8 (nth b q)))->∀ x:SW Ext wr.drew,∀ q v,(bA b).toList[q]?=some v->x.w.cell? ((⟨g,j*108,none⟩:Addr).add q)=some v:=fun b hbl g hk x q v hv=>by
    have hq:q < 108:=by
     rcases Nat.lt_or_ge q 108 with h | h
     ·
      exact h
     ·
      rw [List.getElem?_eq_none (by rw [Array.length_toList,Za0,hbl]; exact h)] at hv; cases hv
    have e:(⟨g,j*108,none⟩:Addr).add q=⟨g,j*108+q,none⟩:=by unfold Addr.add; split<;>simp_all
    have h:=Zbz b q (by rw [hbl]; exact hq)
    rw [Array.getElem?_toList,h] at hv
    rw [e,<- hv]
    exact Ext.cell (Ext.trans hx (Ext.trans xd x.ext)) (hk q hq)
   have L1:=hid (cells b hbl g1 k1)
   have L2:=hid (cells b' hbl' g2 k2)
   have HSZ:=hid (show (bA b).size=108 by rw [Za0]; exact hbl)
   have HSY:=hid (show (bA b').size=108 by rw [Za0]; exact hbl')
   have HNE:=hid (block_neq2 b b' hbl hbl')
   have HB:=hid hb; have HB':=hid hb'
   have HX:=hid hx
   clear cells k1 k2 hb hbl hx hb' hbl'
   go_wp2_with fail
   refine Zan (S:=Ext) (.fin [0,1,2,3,4,5,6,7,8]) (by kernel_rfl) (by kernel_rfl) (fun _ _ d _ _ h=>by cases d<;>exact h) ?_
   rw [wpS]
   simp only [opsAt,opA,opB,opC,opD,opE,opF,opG]
   iterate 3 ((refine Zab (fun K hK=>?_); go_simp; refine hK _ ?_; clear hK K))
   refine Zaj 24 _ rfl ⟨g1,j*108,none⟩ rfl (bA b) rfl (by rw [HSZ.out]; exact aggBlock) L1.out ?_
   iterate 3 ((refine Zab (fun K hK=>?_); go_simp; refine hK _ ?_; clear hK K))
   refine Zaj 24 _ rfl ⟨g2,j*108,none⟩ rfl (bA b') rfl (by rw [HSY.out]; exact aggBlock) L2.out ?_
   refine wpSQ_eql .neq 24 _ _ _ rfl (bA b) (bA b') rfl rfl (.bool (!(b == b'))) rfl (fun w=>block_guard _ _ _ _ _ w) HNE.out ?_
   refine Zah ?_
   intro W hW
   have HXW:=hid (Ext.trans HX.out (Ext.trans xd hW))
   clear hW L1 L2
   by_cases hbb:b=b'
   ·
    have hq:(!(b == b'))=false:=by rw [hbb]; simp
    rw [hq]
    have HQ:=hid hbb
    clear hbb hq
    go_wp2
    go_roundw
    case rel=>exact ⟨j+1,by go_num,by omega,fun i hi=>by
     by_cases e:i=j
     ·
      rw [e,HB.out,HB'.out,HQ.out]
     ·
      exact HEQ.out i (by omega),HXW.out⟩
    case measure=>simp [intOf]; omega
   ·
    have hq:(!(b == b'))=true:=by simpa using hbb
    rw [hq]
    have HQ:=hid (show l≠m from fun q=>hbb (by have:=HB.out; rw [q,HB'.out] at this; cases this; rfl))
    clear hbb hq
    go_wp2
    go_ret
    exact ⟨by rw [decide_eq_false HQ.out]; rfl,HXW.out⟩
  ·
   obtain rfl:l.length=j:=by omega
   have HX:=hid hx
   have HQ:=hid (show l=m from List.ext_getElem? fun i=>by
    by_cases e:i < l.length
    ·
     exact HEQ.out i e
    ·
     rw [List.getElem?_eq_none (by omega),List.getElem?_eq_none (by rw [HLM.out]; omega)])
   clear hx
   go_wp2
   go_ret
   exact ⟨by rw [decide_eq_true HQ.out]; rfl,HX.out⟩
end Go.Proofs.YtkipjmbplmdaaaaGreat
namespace Go.Proofs.YtkipjmbplmdaaaaGreat
set_option linter.unusedVariables false
open Go Go.RowKit
def keepCfg (k n stripes slots:Int):Cfg:=⟨7,within k 1 4,within n (within k 1 4) 6,within stripes 1 6,within slots 1 3⟩
theorem keepCfg_good (k n stripes slots:Int):(keepCfg k n stripes slots).Good:=by
 obtain ⟨a0,a1⟩:=within_bd k 1 4 (by omega)
 obtain ⟨b0,b1⟩:=within_bd n (within k 1 4) 6 (by omega)
 obtain ⟨c0,c1⟩:=within_bd stripes 1 6 (by omega)
 obtain ⟨d0,d1⟩:=within_bd slots 1 3 (by omega)
 exact ⟨by show (1:Int)<=7; omega,by show (7:Int)<=2147483647; omega,by show within n (within k 1 4) 6<=8; omega,a0,b0,c0,by show within stripes 1 6<=64; omega,d0,by show within slots 1 3<=4; omega⟩
set_option maxRecDepth 100000 in
set_option maxHeartbeats 1000000 in
theorem kconfig_c (k n stripes slots:Int) (w:World):Calls Tryz.prog 30 #[.int .i64 k,.int .i64 n,.int .i64 stripes,.int .i64 slots] w (KCfgPost w (keepCfg k n stripes slots)):=by
 have hzc:=Zb0
 have HCS:=hid Cfg.A_size
 have HK:Hid (keepCfg k n stripes slots=⟨7,within k 1 4,within n (within k 1 4) 6,within stripes 1 6,within slots 1 3⟩):=hid rfl
 rw [HK.out]
 clear HK
 obtain ⟨a0,a1⟩:=within_bd k 1 4 (by omega)
 have HWK:=hid (within_c k 1 4)
 generalize within k 1 4=kk at *
 have hb3:=built_cfg3
 go_enter Tryz.func30,Tryz.ntmps30
 go_wp2_with fail
 refine (HWK.out _ (by omega) (by omega) (by omega)).mono ?_
 rintro e w2 ⟨rfl,rfl⟩
 go_wp2_with fail
 refine (within_c stripes 1 6 _ (by omega) (by omega) (by omega)).mono ?_
 rintro e w2 ⟨rfl,rfl⟩
 go_wp2_with fail
 refine (within_c slots 1 3 _ (by omega) (by omega) (by omega)).mono ?_
 rintro e w2 ⟨rfl,rfl⟩
 generalize within stripes 1 6=st at *
 generalize within slots 1 3=sl at *
 have e1:(w.alloc (.cells (Cfg.A Cfg.zero) 26)).heap.size=w.heap.size+1:=by simp
 have hbs:((w.alloc (.cells (Cfg.A Cfg.zero) 26)).alloc (.cells (Cfg.A Cfg.zero) 26)).heap[w.heap.size+1]?=some (.cells (Cfg.A Cfg.zero) 26 (0,0)):=by rw [<- e1]; exact heap_alloc_new _ _
 have HB3:Hid (Tryz.prog.built 26 [(0,.int .i64 7),(1,.int .i64 kk),(3,.int .i64 st),(4,.int .i64 sl)]=some (Cfg.A ⟨7,kk,0,st,sl⟩)):=hid (built_cfg3 7 kk st sl)
 clear hb3
 have c1:(((w.alloc (.cells (Cfg.A Cfg.zero) 26)).alloc (.cells (Cfg.A Cfg.zero) 26)).setRow (w.heap.size+1) (Cfg.A ⟨7,kk,0,st,sl⟩)).cell? ⟨w.heap.size+1,1,none⟩=some (.int .i64 kk):=(Zag (setRow_heap _ _ _ _ _ _ hbs)).trans (Cfg.A1 _)
 go_wp2_with (first
  | (refine Zas rfl 26 _ rfl (Cfg.A ⟨7,kk,0,st,sl⟩) ?_ ?_; (simp only [List.map_toArray,List.map_cons,List.map_nil,Act.eval]; simp only [Array.getD_eq_getD_getElem?,List.getElem?_toArray,List.getElem?_cons_succ,List.getElem?_cons_zero,Option.getD_some]; exact HB3.out))
  | (refine Zaa rfl 26 _ _ rfl (w.heap.size+1) rfl (Cfg.A ⟨7,kk,0,st,sl⟩) _ rfl 26 ?_ hbs ?_ ?_ ?_; (rw [HCS.out]; exact aggCfg); (rw [HCS.out,HCS.out]); exact Cfg.A_one _))
 have HO:Hid (CBlk (((w.alloc (.cells (Cfg.A Cfg.zero) 26)).alloc (.cells (Cfg.A Cfg.zero) 26)).setRow (w.heap.size+1) (Cfg.A ⟨7,kk,0,st,sl⟩)) (w.heap.size+1) ⟨7,kk,0,st,sl⟩):=hid (setRow_heap _ _ _ _ _ _ hbs)
 have HR:Hid (CBlk (((w.alloc (.cells (Cfg.A Cfg.zero) 26)).alloc (.cells (Cfg.A Cfg.zero) 26)).setRow (w.heap.size+1) (Cfg.A ⟨7,kk,0,st,sl⟩)) w.heap.size Cfg.zero):=hid (by
  have:=(Zae ((w.alloc (.cells (Cfg.A Cfg.zero) 26)).alloc (.cells (Cfg.A Cfg.zero) 26)) (w.heap.size+1) (Cfg.A ⟨7,kk,0,st,sl⟩)).at (k:=w.heap.size) (o:=.cells (Cfg.A Cfg.zero) 26) (by rw [heap_alloc_old _ _ (by simp)]; exact heap_alloc_new _ _) (by omega)
  exact this)
 have HX:Hid (Ext w (((w.alloc (.cells (Cfg.A Cfg.zero) 26)).alloc (.cells (Cfg.A Cfg.zero) 26)).setRow (w.heap.size+1) (Cfg.A ⟨7,kk,0,st,sl⟩))):=hid (Ext.then (((Ext.refl w).alloc _).alloc _) (Zae _ _ _) (fun i hi=>by omega))
 clear hbs c1 HB3
 generalize ((w.alloc (.cells (Cfg.A Cfg.zero) 26)).alloc (.cells (Cfg.A Cfg.zero) 26)).setRow (w.heap.size+1) (Cfg.A ⟨7,kk,0,st,sl⟩)=W at *
 refine (within_c n kk 6 W (by omega) (by omega) (by omega)).mono ?_
 rintro e w2 ⟨rfl,rfl⟩
 generalize within n kk 6=nn at *
 have c2:W.cell? ⟨w.heap.size+1,2,none⟩=some (.int .i64 0):=(Zag HO.out).trans (Cfg.A2 _)
 have f2:W.frozen? ⟨w.heap.size+1,2,none⟩=false:=Za6 HO.out
 have HO2:Hid ((W.setCell ⟨w.heap.size+1,2,none⟩ (.int .i64 nn)).heap[w.heap.size+1]?=some (.cells (Cfg.A ⟨7,kk,nn,st,sl⟩) 26 (0,0))):=hid (by
  have:=Zay HO.out (i:=2) (.int .i64 nn)
  rw [Cfg.A_n] at this
  exact this)
 have HR2:Hid ((W.setCell ⟨w.heap.size+1,2,none⟩ (.int .i64 nn)).heap[w.heap.size]?=some (.cells (Cfg.A Cfg.zero) 26 (0,0))):=hid ((Zao _ (by omega)).trans HR.out)
 have HX2:Hid (Ext w (W.setCell ⟨w.heap.size+1,2,none⟩ (.int .i64 nn))):=hid (Only.setCell (F:=fun _=>False) HX.out (.inl (by show _<=w.heap.size+1; omega)) _)
 go_wp2_with (first
  | (refine Zac rfl 26 _ rfl ⟨w.heap.size+1,0,none⟩ rfl (Cfg.A ⟨7,kk,nn,st,sl⟩) (Zap _) (Zaf HO2.out) ?_)
  | (refine Zaa rfl 26 _ _ rfl w.heap.size rfl (Cfg.A ⟨7,kk,nn,st,sl⟩) _ rfl 26 ?_ HR2.out ?_ ?_ ?_; (rw [HCS.out]; exact aggCfg); (rw [HCS.out,HCS.out]); exact Cfg.A_one _))
 refine bodyPost_ret (results_cell_row Tryz.results30 _ _ w.heap.size _ (Cfg.A ⟨7,kk,nn,st,sl⟩) _ _ rfl (setRow_heap _ _ _ _ _ _ HR2.out) Tryz.underlying26 rfl (by rw [HCS.out]; exact aggCfg.2)) rfl ?_
 exact ⟨rfl,Ext.then HX2.out (Zae _ _ _) (fun i hi=>by omega)⟩
section
variable {R:Rck} {c:Cfg} {m:Nat} {cur:Int} {j:Nat->Option Rcd} {f:Strs} {U sp:Nat->Bool} {jr:JR} {st:ST}
def jrC (U:Nat->Bool) (jr:JR) (a:Nat) (p:Rcd):JR:=fun d t i=>if t=a then (if U d then some p else none) else jr d t i
def stC (U:Nat->Bool) (st:ST) (s:Nat) (y:Int × List (List Nat)):ST:=fun d t=>if t=s then (if U d then some y else none) else st d t
theorem MS.commit (h:MS R c m j f U sp jr st) (hv:VI c cur j f) (k4:c.k<=4) (n6:c.n<=6) (hcur:cur < 1152921504606846976) (hon:c.k.toNat<=((List.range c.n.toNat).filter U).length) {s:Nat} (hs:s < c.stripes.toNat) {l:List (List Nat)} (hl:Cd.Blocks c.k.toNat 108 l) :
  ∃ a R',Vol.commit ⟨c,cur,false⟩ R (s:Int) l=(none,R',⟨c,cur+1,false⟩)/\VI c (cur+1) (upd j a ⟨cur+1,s,l⟩) (updS f s (cur+1,l))/\MS R' c m (upd j a ⟨cur+1,s,l⟩) (updS f s (cur+1,l)) U sp (jrC U jr a ⟨cur+1,s,l⟩) (stC U st s (cur+1,l)):=by
 have hc:=h.gt.good
 have c0:=hv.vv.cur
 have hk0:=hc.k0
 obtain ⟨a,hp⟩:=exists_pnd hc c0 hcur s hs l hl
 have hpg:=hp.ge hv
 have hlen:(l.length:Int)=c.k:=hp.len
 obtain ⟨y0,hf0,hx0,_⟩:=h.srec s hs
 have hsg:=h.sget k4 n6 hs hf0
 have hmay:Vol.may ⟨c,cur,false⟩ R (s:Int) l.length=none:=by
  unfold Vol.may
  rw [if_neg (by show ¬((s:Int) < 0\/c.stripes<=s\/(l.length:Int)≠c.k); omega),if_neg (by rw [h.gt.live.off]; simp),if_neg (by rw [h.gt.online]; show ¬((((List.range c.n.toNat).filter U).length:Nat):Int) < c.k; omega),if_neg (by show ¬_<=cur; omega),hsg]
 have hx:SFit c s (cur+1) l:=⟨hs,by omega,by omega,hl⟩
 obtain ⟨R1,e1,g1⟩:=h.gt.log hp.a hp.fit hpg hlen
 obtain ⟨R2,e2,g2⟩:=g1.sput hx
 have hup:∀ d s i x,d < c.n.toNat->jr d s i=some x->U d=true:=fun d s i x hd e=>h.gt.up_of_jr hd e
 have hust:∀ d t y,d < c.n.toNat->st d t=some y->U d=true:=fun d t y hd e=>h.gt.up_of_st hd e
 obtain ⟨d0,hd0,hu0⟩:∃ d,d < c.n.toNat/\U d=true:=by
  have hne:(List.range c.n.toNat).filter U≠[]:=fun q=>by rw [q] at hon; simp at hon; omega
  obtain ⟨d,hd⟩:=List.exists_mem_of_ne_nil _ hne
  obtain ⟨h1,h2⟩:=List.mem_filter.1 hd
  exact ⟨d,List.mem_range.1 h1,h2⟩
 refine ⟨a,R2,?_,hv.commit hc hp,g2,fun d t i hd ht hi=>?_,fun d t hd ht=>?_,fun t ht=>?_,fun t ht=>?_⟩
 ·
  unfold Vol.commit
  have hput:Vol.put ⟨c,cur,false⟩ R (s:Int) l=(none,R2):=by
   unfold Vol.put
   rw [Zbe e1,e2]
  rw [hmay,hput]
 ·
  unfold jrC upd
  by_cases e:t=a
  ·
   rw [if_pos e,if_pos e]
   split
   ·
    exact .inr rfl
   ·
    exact .inl rfl
  ·
   rw [if_neg e,if_neg e]; exact h.hj d t i hd ht hi
 ·
  unfold stC updS
  by_cases e:t=s
  ·
   rw [if_pos e,if_pos e]
   split
   ·
    exact .inr rfl
   ·
    exact .inl rfl
  ·
   rw [if_neg e,if_neg e]; exact h.hs d t hd ht
 ·
  by_cases e:t=a
  ·
   refine ⟨⟨cur+1,s,l⟩,by unfold upd; rw [if_pos e],by rw [e]; exact hp.fit,hp.len,fun i hi=>⟨d0,hd0,?_⟩⟩
   unfold jrC
   rw [if_pos e,if_pos hu0]
  ·
   obtain ⟨x,a1,a2,a3,a4⟩:=h.jrec t ht
   refine ⟨x,by unfold upd; rw [if_neg e]; exact a1,a2,a3,fun i hi=>?_⟩
   obtain ⟨d,hd,ed⟩:=a4 i hi
   exact ⟨d,hd,by unfold jrC; rw [if_neg e]; exact ed⟩
 ·
  by_cases e:t=s
  ·
   refine ⟨(cur+1,l),by unfold updS; rw [if_pos e],by rw [e]; exact hx,Nat.le_trans hon (Zcp fun d hd hu=>?_)⟩
   unfold stC
   rw [if_pos e,if_pos hu]
   exact decide_eq_true rfl
  ·
   obtain ⟨y,a1,a2,a3⟩:=h.srec t ht
   refine ⟨y,by unfold updS; rw [if_neg e]; exact a1,a2,Nat.le_trans a3 (Zcp fun d hd hy=>?_)⟩
   unfold stC
   rw [if_neg e]
   exact hy
theorem MWhole.commit {g a s:Nat} {p:Rcd} {y:Int × List (List Nat)} (h:MWhole c j f U sp jr st g):MWhole c (upd j a p) (updS f s y) U sp (jrC U jr a p) (stC U st s y) g:=by
 refine ⟨h.sup,fun t ht htg d i hd hu=>?_,fun t ht htg d hd hu=>?_⟩
 ·
  unfold jrC upd
  by_cases e:t=a
  ·
   rw [if_pos e,if_pos e,if_pos hu]
  ·
   rw [if_neg e,if_neg e]; exact h.slot t ht htg d i hd hu
 ·
  unfold stC updS
  by_cases e:t=s
  ·
   rw [if_pos e,if_pos e,if_pos hu]
  ·
   rw [if_neg e,if_neg e]; exact h.str t ht htg d hd hu
end
end Go.Proofs.YtkipjmbplmdaaaaGreat
namespace Go.Proofs.YtkipjmbplmdaaaaGreat
set_option linter.unusedVariables false
structure MH (R:Rck) (c:Cfg) (m:Nat) (j:Nat->Option Rcd) (f:Strs) (g:Nat):Prop where
 ex:∃ sp jr st,MS R c m j f (fun _=>true) sp jr st/\MWhole c j f (fun _=>true) sp jr st g
namespace MH
variable {R:Rck} {c:Cfg} {m:Nat} {cur:Int} {j:Nat->Option Rcd} {f:Strs}
theorem start {L:List Nat} (h:MR R c m j f L) (hv:VI c cur j f) (hL:c.k.toNat<=L.length):MH R c m j f 0:=by
 obtain ⟨sp,jr,st,h1⟩:=h.mf hv hL
 exact ⟨sp,jr,st,h1.ms hv,MWhole.zero⟩
theorem tick {g:Nat} (h:MH R c m j f g) (k4:c.k<=4) (n6:c.n<=6) (hg:(g:Int) < c.groups) (cur:Int) :
  ∃ R' n,Vol.tick ⟨c,cur,false⟩ R (g:Int)=⟨n,none,R',⟨c,cur,false⟩,((g:Int)+1) % c.groups⟩/\MH R' c m j f (g+1):=by
 obtain ⟨sp,jr,st,h1,h2⟩:=h.ex
 obtain ⟨R',e,h3⟩:=h1.tick k4 n6 hg cur
 exact ⟨R',_,e,_,_,_,h3,h2.step⟩
theorem commit {g:Nat} (h:MH R c m j f g) (hv:VI c cur j f) (k4:c.k<=4) (n6:c.n<=6) (hcur:cur < 1152921504606846976) {s:Nat} (hs:s < c.stripes.toNat) {l:List (List Nat)} (hl:Cd.Blocks c.k.toNat 108 l) :
  ∃ a R',Vol.commit ⟨c,cur,false⟩ R (s:Int) l=(none,R',⟨c,cur+1,false⟩)/\VI c (cur+1) (upd j a ⟨cur+1,s,l⟩) (updS f s (cur+1,l))/\MH R' c m (upd j a ⟨cur+1,s,l⟩) (updS f s (cur+1,l)) g:=by
 obtain ⟨sp,jr,st,h1,h2⟩:=h.ex
 have hc:=h1.gt.good.k1
 obtain ⟨a,R',e,hv',h3⟩:=h1.commit hv k4 n6 hcur (by rw [List.filter_eq_self.2 fun _ _=>rfl,List.length_range]; omega) hs hl
 exact ⟨a,R',e,hv',_,_,_,h3,h2.commit⟩
theorem vh (h:MH R c m j f (1+c.slots.toNat+c.stripes.toNat)) (hm:(m:Int)=c.sectors):VH R c m true j f:=by
 obtain ⟨sp,jr,st,h1,h2⟩:=h.ex
 exact h1.vh hm h2 fun _ _=>rfl
end MH
theorem VH.slook_all {R:Rck} {c:Cfg} {m:Nat} {cur:Int} {j:Nat->Option Rcd} {f:Strs} (h:VH R c m true j f) (hv:VI c cur j f) {t:Nat} (ht:t < c.stripes.toNat):(R.slook c (t:Int)).2.length=R.online.length:=by
 have hs:=h.ms hv
 have h1:MP R c m j f (fun _=>true) (fun _=>true) (fun _ s _=>j s) (fun _ t=>f t):=⟨hs.gt,hs.hj,hs.hs⟩
 have hn0:=hs.gt.n0
 rw [h1.slook_len hv ht,h1.on]
 unfold hasS upsN
 have e:(f t).isSome=true:=by
  rcases q:f t with _ | y
  ·
   exact absurd q (VH.fulls hv 0 t hn0 ht)
  ·
   rfl
 simp [e]
namespace MR
variable {R:Rck} {c:Cfg} {m:Nat} {j:Nat->Option Rcd} {f:Strs} {L:List Nat}
theorem not_mem (h:L.Nodup) {x:Nat} (hx:x < L.length):L[x]∉L.eraseIdx x:=fun hd=>by
 rw [List.mem_eraseIdx_iff_getElem] at hd
 obtain ⟨i,hi,hne,e⟩:=hd
 exact hne ((List.getElem_inj h).1 e)
theorem out (h:MR R c m j f L) (x:Nat):MR R c m j f (L.eraseIdx x):=h.less (List.eraseIdx_sublist L x)
theorem replaceAt (h:MR R c m j f L) {x:Nat} (hx:x < L.length):MR (R.replace ((L[x]:Nat):Int)) c m j f (L.eraseIdx x) :=
 (h.out x).replace (h.lt _ (List.getElem_mem hx)) (not_mem h.nd hx)
end MR
end Go.Proofs.YtkipjmbplmdaaaaGreat
namespace Go.Proofs.YtkipjmbplmdaaaaGreat
set_option linter.unusedVariables false
open Go Go.RowKit
set_option maxRecDepth 100000 in
set_option maxHeartbeats 1000000 in
theorem mwhole_c {S:Nat->Prop} {w:World} {r:Nat} {R:Rck} (h:RackAt S w r R) (c:Cfg) (s:Int) :
  Calls Tryz.prog 33 #[.pointer (some ⟨r,0,none⟩),.agg (Cfg.A c),.int .i64 s] w fun e w'=>e=.returned (.bool (((R.slook c s).2.length:Int) == (R.online.length:Int)))/\Ext w w':=by
 obtain ⟨W1,hW1⟩:∃ W,w.alloc (.cells (Cfg.A c) 26)=W:=⟨_,rfl⟩
 have X1:=hid (show Ext w W1 from hW1▸(Ext.refl w).alloc _)
 have B1:=hid (show W1.heap[w.heap.size]?=some (.cells (Cfg.A c) 26 (0,0)) from hW1▸heap_alloc_new _ _)
 have H1:=hid (h.ext X1.out)
 clear h
 go_enter Tryz.func33,Tryz.ntmps33
 go_wp2_with (guard_target=wpList _ _ _ (⟨some _,Op.load _ _,_,_,_,none⟩::_) _ _; refine Zac rfl 26 _ rfl ⟨w.heap.size,0,none⟩ rfl (Cfg.A c) (Zap c) (Zaf B1.out) ?_)
 have hl:=slook_c H1.out c s
 rcases hsl:R.slook c s with ⟨G,ps⟩
 unfold LookPost at hl
 rw [hsl] at hl
 simp only at hl
 refine hl.mono ?_
 have HSL:=hid hsl
 clear hl hsl
 rintro e w2 ⟨v,rfl,hlk⟩
 obtain ⟨pa,pcp,rfl,_⟩:=hlk.parts
 have X2:=hid (Ext.trans X1.out hlk.ext)
 have H2:=hid (H1.out.ext hlk.ext)
 clear hlk hW1
 go_wp2_with fail
 refine (Zbi H2.out).mono ?_
 rintro e w3 ⟨v,rfl,hown,x3⟩
 obtain ⟨oa,oc,rfl,_⟩:=hown.slice
 have X3:=hid (Ext.trans X2.out x3)
 clear hown x3
 go_wp2
 go_ret
 rw [HSL.out]
 exact ⟨rfl,X3.out⟩
end Go.Proofs.YtkipjmbplmdaaaaGreat
