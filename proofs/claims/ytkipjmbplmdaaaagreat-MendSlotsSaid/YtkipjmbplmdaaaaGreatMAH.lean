/- Texts of one proof, joined: MendLeft, VolWas, SameBlk2. -/
import Derived.Test.YtkipjmbplmdaaaaGreatMAC
import Derived.Test.YtkipjmbplmdaaaaGreatMW
import Derived.Test.YtkipjmbplmdaaaaGreatMU
import Derived.Test.YtkipjmbplmdaaaaGreatMJ
set_option linter.unusedVariables false
set_option linter.unusedSimpArgs false
namespace Go.Proofs.YtkipjmbplmdaaaaGreat
set_option linter.unusedVariables false
open Go.Proofs.YtkipjmbplmdaaaaGreat.GT (cnt Played Opened Shut)
structure MR (R:Rck) (c:Cfg) (m:Nat) (j:Nat->Option Rcd) (f:Strs) (L:List Nat):Prop where
 ex:∃ sp jr st,MZ R c m j f (fun _=>true) sp jr st/\∀ d∈L,d < c.n.toNat/\sp d=true/\(∀ s i,jr d s i=j s)/\∀ t,st d t=f t
 nd:L.Nodup
namespace MR
variable {R:Rck} {c:Cfg} {m:Nat} {cur:Int} {j:Nat->Option Rcd} {f:Strs} {L L':List Nat}
end MR
structure MF (R:Rck) (c:Cfg) (m:Nat) (j:Nat->Option Rcd) (f:Strs) (U sp:Nat->Bool) (jr:JR) (st:ST) (G:Nat->Bool):Prop where
 gt:GT R c m U sp jr st
 hj:∀ d s i,d < c.n.toNat->s < c.slots.toNat->i < c.k.toNat->jr d s i=none\/jr d s i=j s
 hs:∀ d t,d < c.n.toNat->t < c.stripes.toNat->st d t=none\/st d t=f t
 hG:c.k.toNat<=cnt G c.n.toNat
 full:∀ d,d < c.n.toNat->G d=true->sp d=true/\(∀ s i,s < c.slots.toNat->i < c.k.toNat->jr d s i=j s)/\∀ t,t < c.stripes.toNat->st d t=f t
namespace MF
variable {R:Rck} {c:Cfg} {m:Nat} {cur:Int} {j:Nat->Option Rcd} {f:Strs} {U sp G:Nat->Bool} {jr:JR} {st:ST}
end MF
theorem Tnt.die_any {R0 R:Rck} {n m:Nat} {L:List Nat} (h:Tnt R0 R n m L) {d:Nat} (hd:d < n):Tnt R0 (R.die (d:Nat)) n m (L.erase d):=by
 have hl:=h.live.secs d hd
 have e1:=h.live.die hd
 obtain ⟨l1,k1⟩:=h.live.setD (R.dsk (d:Nat)).die (by rw [Dsk.die_len]; exact hl) hd
 rw [e1]
 refine ⟨l1,h.nodup.erase d,fun e he=>h.lt e (List.mem_of_mem_erase he),fun e he=>?_,fun e he=>?_⟩
 ·
  have hne:e≠d:=fun q=>by rw [q] at he; exact h.nodup.not_mem_erase he
  rw [k1,if_neg hne]; exact h.same e (List.mem_of_mem_erase he)
 ·
  rw [k1]
  by_cases z:e=d
  ·
   rw [if_pos z,z]
   have e0:(R0.dsk (d:Nat)).l.length=(R.dsk (d:Nat)).l.length:=by
    cases h.worn d hd with
    | same q=>rw [q]
    | die q=>rw [q,Dsk.die_len]
    | replace q=>rw [q,Dsk.replace_len]
    | rot s a hs ha q=>rw [q,Dsk.rotted_len]
   refine .die ?_
   unfold Dsk.die Dsk.blank
   rw [e0]
  ·
   rw [if_neg z]; exact h.worn e he
end Go.Proofs.YtkipjmbplmdaaaaGreat
namespace Go.Proofs.YtkipjmbplmdaaaaGreat
set_option linter.unusedVariables false
open Go Go.RowKit
theorem infoBs:(Tryz.prog.info? 29).map (fun i=>(i.zero,i.size,i.bytes))=some (some (.slice none 0 0),1,24):=by kernel_rfl
theorem make_was (k:Nat) (h1:k<=8):∃ C:Array Value,(∀ w:World,Sem.run Tryz.prog (Instr.makeSlice 55 (.int .i64 k) (.int .i64 k)) w=.ok (.slice (some ⟨w.heap.size,0,none⟩) k k) (w.alloc (.cells C 29)))/\C.size=k/\∀ q,q < k->C[q]?=some (.slice none 0 0):=by
 obtain ⟨i0,hi,hz0,hz1,hz2⟩:=info_parts infoBs
 refine ⟨madeCells #[.slice none 0 0] (k*1),fun w=>?_,by unfold madeCells; simp,fun q hq=>?_⟩
 ·
  have h:=run_make (P:=Tryz.prog) w 55 29 i0 (.slice none 0 0) Tryz.underlying55 hi hz0 .i64 .i64 k k (by omega) (Int.le_refl _) (by rw [hz2]; omega) (by omega)
  rw [h,hz1]
  rfl
 ·
  unfold madeCells
  rw [Array.getElem?_map,Array.getElem?_range,if_pos (by omega)]
  have e:q % 1=0:=Nat.mod_one q
  simp [e]
structure WasAt (w:World) (g0 N:Nat) (F:Nat->List (List Nat)) (a:Nat->Option Addr) (cp:Nat->Nat):Prop where
 blk:∃ C:Array Value,w.heap[g0]?=some (.cells C 29 (0,0))/\C.size=N/\∀ s,s < N->C[s]?=some (.slice (a s) (F s).length (cp s))
 bks:∀ s,s < N->BlksAt w (a s) (F s)
structure WasOwn (S:Nat->Prop) (g0 N:Nat) (F:Nat->List (List Nat)) (a:Nat->Option Addr):Prop where
 own:S g0
 bks:∀ s,s < N->F s≠[]->∀ b,a s=some ⟨b,0,none⟩->S b/\b≠g0
theorem WasOwn.mono {S T:Nat->Prop} {g0 N:Nat} {F:Nat->List (List Nat)} {a:Nat->Option Addr} (h:WasOwn S g0 N F a) (hT:∀ b,S b->T b):WasOwn T g0 N F a:=⟨hT _ h.own,fun s hs hn b e=>⟨hT _ (h.bks s hs hn b e).1,(h.bks s hs hn b e).2⟩⟩
theorem BlksAt.nil (w:World) (a:Option Addr):BlksAt w a []:=fun i b hb=>by simp at hb
namespace WasAt
variable {w w':World} {S:Nat->Prop} {g0 N:Nat} {F:Nat->List (List Nat)} {a:Nat->Option Addr} {cp:Nat->Nat}
theorem new (C:Array Value) (hC:C.size=N) (h:∀ q,q < N->C[q]?=some (.slice none 0 0)):WasAt (w.alloc (.cells C 29)) w.heap.size N (fun _=>[]) (fun _=>none) fun _=>0:=⟨⟨C,heap_alloc_new _ _,hC,h⟩,fun s _=>BlksAt.nil _ _⟩
theorem ext (h:WasAt w g0 N F a cp) (e:Ext w w'):WasAt w' g0 N F a cp:=by
 obtain ⟨⟨C,h1,h2,h3⟩,h4⟩:=h
 exact ⟨⟨C,e.at h1,h2,h3⟩,fun s hs=>(h4 s hs).ext e⟩
theorem only {P:Nat->Prop} (h:WasAt w g0 N F a cp) (o:WasOwn S g0 N F a) (e:Only P w w') (hP:∀ b,S b->¬P b):WasAt w' g0 N F a cp:=by
 obtain ⟨⟨C,h1,h2,h3⟩,h4⟩:=h
 refine ⟨⟨C,e.at h1 (hP _ o.own),h2,h3⟩,fun s hs=>?_⟩
 by_cases q:F s=[]
 ·
  rw [q]; exact BlksAt.nil _ _
 ·
  exact (h4 s hs).only e fun b eb=>hP b (o.bks s hs q b eb).1
theorem cell (h:WasAt w g0 N F a cp) {s:Nat} (hs:s < N):w.cell? ⟨g0,s,none⟩=some (.slice (a s) (F s).length (cp s)):=by
 obtain ⟨⟨C,h1,h2,h3⟩,h4⟩:=h
 exact (Zah h1).trans (h3 s hs)
theorem free (h:WasAt w g0 N F a cp) (s:Nat):w.frozen? ⟨g0,s,none⟩=false:=by
 obtain ⟨⟨C,h1,h2,h3⟩,h4⟩:=h
 exact Za9 h1
theorem set (h:WasAt w g0 N F a cp) (o:WasOwn S g0 N F a) {s:Nat} {l:List (List Nat)} {a':Option Addr} {c':Nat} (hl:BlksAt w a' l) (ho:∀ b,a'=some ⟨b,0,none⟩->S b/\b≠g0) :
  WasAt (w.setCell ⟨g0,s,none⟩ (.slice a' l.length c')) g0 N (fun t=>if t=s then l else F t) (fun t=>if t=s then a' else a t) (fun t=>if t=s then c' else cp t)/\WasOwn S g0 N (fun t=>if t=s then l else F t) (fun t=>if t=s then a' else a t):=by
 have k:Only (fun b=>b=g0) w (w.setCell ⟨g0,s,none⟩ (.slice a' l.length c')):=Zbl _ _ _ _
 obtain ⟨⟨C,h1,h2,h3⟩,h4⟩:=h
 refine ⟨⟨⟨C.setIfInBounds s (.slice a' l.length c'),Zaz h1 _,by rw [Array.size_setIfInBounds,h2],fun t ht=>?_⟩,fun t ht=>?_⟩,o.own,fun t ht hn b e=>?_⟩
 ·
  rw [Array.getElem?_setIfInBounds]
  show _=some (Value.slice (if t=s then a' else a t) (if t=s then l else F t).length (if t=s then c' else cp t))
  by_cases e:s=t
  ·
   subst e; rw [if_pos rfl,if_pos (by omega),if_pos rfl,if_pos rfl,if_pos rfl]
  ·
   rw [if_neg e,if_neg (fun q:t=s=>e q.symm),if_neg (fun q:t=s=>e q.symm),if_neg (fun q:t=s=>e q.symm)]; exact h3 t ht
 ·
  show BlksAt _ (if t=s then a' else a t) (if t=s then l else F t)
  by_cases e:t=s
  ·
   rw [if_pos e,if_pos e]; exact hl.only k fun b eb q=>(ho b eb).2 q
  ·
   rw [if_neg e,if_neg e]
   by_cases q:F t=[]
   ·
    rw [q]; exact BlksAt.nil _ _
   ·
    exact (h4 t ht).only k fun b eb z=>(o.bks t ht q b eb).2 z
 ·
  have hn:(if t=s then l else F t)≠[]:=hn
  have e:(if t=s then a' else a t)=some ⟨b,0,none⟩:=e
  by_cases q:t=s
  ·
   rw [if_pos q] at e; exact ho b e
  ·
   rw [if_neg q] at e hn; exact o.bks t ht hn b e
end WasAt
end Go.Proofs.YtkipjmbplmdaaaaGreat
namespace Go.Proofs.YtkipjmbplmdaaaaGreat
set_option linter.unusedVariables false
open Go Go.RowKit
theorem block_neq2 (l m:List Nat) (hl:l.length=108) (hm:m.length=108) (w:World):(binOp .neq 24 (.agg (bA l)) (.agg (bA m))).run Tryz.prog w=.ok (.bool (!(l == m))) w:=by
 rw [run_neq_struct]
 have h:=run_bytes_eq 9998 24 l m hl hm Tryz.underlying24 w
 rw [show (Op.equalIn 10000 24 (.agg (bA l)) (.agg (bA m))).run Tryz.prog w=.ok (l == m) w from h]; rfl
attribute [local irreducible] wpSQ
set_option maxRecDepth 100000 in
set_option maxHeartbeats 1000000 in
theorem sameblk2_c (l m:List (List Nat)) (hl:∀ b∈l,b.length=108) (hm:∀ b∈m,b.length=108) (hlm:m.length=l.length) (hn:l.length<=8) (a1 a2:Option Addr) (c1 c2:Nat) (w:World) (h1:BlksAt w a1 l) (h2:BlksAt w a2 m) :
  Calls Tryz.prog 13 #[.slice a1 l.length c1,.slice a2 m.length c2] w fun e w'=>e=.returned (.bool (decide (l=m)))/\Ext w w':=by
 rw [hlm]
 have HM:=hid hm
 have HLM:=hid hlm
 clear hm hlm
 have H1:=hid h1
 have H2:=hid h2
 have HL:=hid hl
 have hn8:(l.length:Int)<=8:=by omega
 have hne:((l.length:Int) != (l.length:Int))=false:=by simp
 clear h1 h2 hl
 go_enter Tryz.func13,Tryz.ntmps13
 go_wp2
 clear hne
 go_loopw [5] (fun t wr=>∃ j:Nat,t=.int .i64 j/\j<=l.length/\(∀ i,i < j->l[i]?=m[i]?)/\Ext w wr) (fun t _=>l.length - (intOf t).toNat)
 case atStart=>exact ⟨0,rfl,by omega,fun i hi=>by omega,Ext.refl _⟩
 case round =>
  obtain ⟨j,rfl,hj,heq,hx⟩:=hrel
  have HEQ:=hid heq
  clear heq
  by_cases hlt:j < l.length
  ·
   have j0:(0:Int)<=(j:Int):=by omega
   have j1:(j:Int) < (l.length:Int):=by omega
   obtain ⟨b,hb⟩:∃ b,l[j]?=some b:=⟨l[j],List.getElem?_eq_getElem hlt⟩
   have hbl:=HL.out b (List.mem_of_getElem? hb)
   obtain ⟨b',hb'⟩:∃ b',m[j]?=some b':=⟨m[j]'(by rw [HLM.out]; exact hlt),List.getElem?_eq_getElem _⟩
   have hbl':=HM.out b' (List.mem_of_getElem? hb')
   obtain ⟨g1,rfl,k1⟩:=H1.out j b hb
   obtain ⟨g2,rfl,k2⟩:=H2.out j b' hb'
   have xd:Ext wr wr.drew:=(Ext.refl wr).drew
   have cells:∀ (b:List Nat) (hbl:b.length=108) (g:Nat),(∀ q,q < 108->w.cell? ⟨g,j*108+q,none⟩=some (.int .u8 (nth b q)))->∀ x:SW Ext wr.drew,∀ q v,(bA b).toList[q]?=some v->x.w.cell? ((⟨g,j*108,none⟩:Addr).add q)=some v:=fun b hbl g hk x q v hv=>by
    have hq:q < 108:=by
     rcases Nat.lt_or_ge q 108 with h | h
     ·
      exact h
     ·
      rw [List.getElem?_eq_none (by rw [Array.length_toList,Za0,hbl]; exact h)] at hv; cases hv
    have e:(⟨g,j*108,none⟩:Addr).add q=⟨g,j*108+q,none⟩:=by unfold Addr.add; split<;>simp_all
    have h:=Zby b q (by rw [hbl]; exact hq)
    rw [Array.getElem?_toList,h] at hv
    rw [e,<- hv]
    exact Ext.cell (Ext.trans hx (Ext.trans xd x.ext)) (hk q hq)
   have L1:=hid (cells b hbl g1 k1)
   have L2:=hid (cells b' hbl' g2 k2)
   have HSZ:=hid (show (bA b).size=108 by rw [Za0]; exact hbl)
   have HSY:=hid (show (bA b').size=108 by rw [Za0]; exact hbl')
   have HNE:=hid (block_neq2 b b' hbl hbl')
   have HB:=hid hb; have HB':=hid hb'
   have HX:=hid hx
   clear cells k1 k2 hb hbl hx hb' hbl'
   go_wp2_with fail
   refine Zan (S:=Ext) (.fin [0,1,2,3,4,5,6,7,8]) (by kernel_rfl) (by kernel_rfl) (fun _ _ d _ _ h=>by cases d<;>exact h) ?_
   rw [wpS]
   simp only [opsAt,opA,opB,opC,opD,opE,opF,opG]
   iterate 3 ((refine Zab (fun K hK=>?_); go_simp; refine hK _ ?_; clear hK K))
   refine Zaj 24 _ rfl ⟨g1,j*108,none⟩ rfl (bA b) rfl (by rw [HSZ.out]; exact aggBlock) L1.out ?_
   iterate 3 ((refine Zab (fun K hK=>?_); go_simp; refine hK _ ?_; clear hK K))
   refine Zaj 24 _ rfl ⟨g2,j*108,none⟩ rfl (bA b') rfl (by rw [HSY.out]; exact aggBlock) L2.out ?_
   refine wpSQ_eql .neq 24 _ _ _ rfl (bA b) (bA b') rfl rfl (.bool (!(b == b'))) rfl (fun w=>block_guard _ _ _ _ _ w) HNE.out ?_
   refine Zag ?_
   intro W hW
   have HXW:=hid (Ext.trans HX.out (Ext.trans xd hW))
   clear hW L1 L2
   by_cases hbb:b=b'
   ·
    have hq:(!(b == b'))=false:=by rw [hbb]; simp
    rw [hq]
    have HQ:=hid hbb
    clear hbb hq
    go_wp2
    go_roundw
    case rel=>exact ⟨j+1,by go_num,by omega,fun i hi=>by
     by_cases e:i=j
     ·
      rw [e,HB.out,HB'.out,HQ.out]
     ·
      exact HEQ.out i (by omega),HXW.out⟩
    case measure=>simp [intOf]; omega
   ·
    have hq:(!(b == b'))=true:=by simpa using hbb
    rw [hq]
    have HQ:=hid (show l≠m from fun q=>hbb (by have:=HB.out; rw [q,HB'.out] at this; cases this; rfl))
    clear hbb hq
    go_wp2
    go_ret
    exact ⟨by rw [decide_eq_false HQ.out]; rfl,HXW.out⟩
  ·
   obtain rfl:l.length=j:=by omega
   have HX:=hid hx
   have HQ:=hid (show l=m from List.ext_getElem? fun i=>by
    by_cases e:i < l.length
    ·
     exact HEQ.out i e
    ·
     rw [List.getElem?_eq_none (by omega),List.getElem?_eq_none (by rw [HLM.out]; omega)])
   clear hx
   go_wp2
   go_ret
   exact ⟨by rw [decide_eq_true HQ.out]; rfl,HX.out⟩
end Go.Proofs.YtkipjmbplmdaaaaGreat
