/- Texts of one proof, joined: Base, QuietTail, Mix, Rely, Held, Within, Bytes, Agg, Blk, Append, RunLaws. -/
import Derived.WalkKit
import Derived.ProofKit
import Derived.Below
import Derived.Deep.Draws
import Derived.StillTail
import Derived.Deep.Quiet
import Derived.Deep.QuietTactic
import Derived.BigQuiet
import Derived.Orders
import Derived.Laws.Tables
import Derived.Test.YtgjnnbomnoafcaaGreatDoorProg
import Derived.WalkLawsBesides
import Derived.WalkSpells
import Derived.Laws.Rows
import Derived.Laws.ResultCell
import Derived.Laws.CopyOwn
import Derived.OpenShut
import Derived.Deep.AppendLies
import Derived.Deep.RegionLaw
set_option linter.unusedVariables false
set_option linter.unusedSimpArgs false
namespace Go.Proofs.YtgjnnbomnoafcaaGreatDoor
theorem opA {α:Type _} {β:Type _} {f:α->β} {a:α} {l:List α}:(a::l).map f=f a::l.map f:=List.map_cons
theorem opB {α:Type _} {β:Type _} {f:α->β}:([]:List α).map f=[]:=List.map_nil
theorem opC {α:Type _} {xs:Array α} {i:Nat} {d:α}:xs.getD i d=xs[i]?.getD d:=Array.getD_eq_getD_getElem?
theorem opD {α:Type _} {l:List α} {i:Nat}:l.toArray[i]?=l[i]?:=List.getElem?_toArray
theorem opE {α:Type _} {a:α} {l:List α} {i:Nat}:(a::l)[i+1]?=l[i]?:=List.getElem?_cons_succ
theorem opF {α:Type _} {a:α} {l:List α}:(a::l)[0]?=some a:=List.getElem?_cons_zero
theorem opG {α:Type _} {a d:α}:(some a).getD d=a:=Option.getD_some
set_option linter.unusedVariables false
open Go.RowKit
structure Only (F:Nat->Prop) (w w':World):Prop where
 os:w'.os=w.os
 tape:w'.tape=w.tape
 output:w'.output=w.output
 size:w.heap.size<=w'.heap.size
 block:∀ k,k < w.heap.size->¬F k->w'.heap[k]?=w.heap[k]?
abbrev Ext (w w':World):Prop:=Only (fun _=>False) w w'
theorem Only.refl (F:Nat->Prop) (w:World):Only F w w:=⟨rfl,rfl,rfl,Nat.le_refl _,fun _ _ _=>rfl⟩
theorem Only.trans {F G:Nat->Prop} {a b c:World} (h:Only F a b) (k:Only G b c) (hg:∀ i,i < a.heap.size->G i->F i):Only F a c :=
 ⟨k.os.trans h.os,k.tape.trans h.tape,k.output.trans h.output,Nat.le_trans h.size k.size,
  fun i hi hn=>(k.block i (Nat.lt_of_lt_of_le hi h.size) (fun x=>hn (hg i hi x))).trans (h.block i hi hn)⟩
theorem Only.mono {F G:Nat->Prop} {a b:World} (h:Only F a b) (hg:∀ i,i < a.heap.size->F i->G i):Only G a b :=
 ⟨h.os,h.tape,h.output,h.size,fun i hi hn=>h.block i hi (fun x=>hn (hg i hi x))⟩
theorem Only.ext {F:Nat->Prop} {a b c:World} (h:Only F a b) (k:Ext b c):Only F a c:=h.trans k (fun _ _ x=>x.elim)
theorem Ext.only {F:Nat->Prop} {a b:World} (h:Ext a b):Only F a b:=h.mono (fun _ _ x=>x.elim)
theorem Ext.trans {a b c:World} (h:Ext a b) (k:Ext b c):Ext a c:=Only.ext h k
theorem Ext.refl (w:World):Ext w w:=Only.refl _ w
theorem Ext.then {F:Nat->Prop} {a b c:World} (h:Ext a b) (k:Only F b c) (hg:∀ i,i < a.heap.size->¬F i):Ext a c:=Only.trans h k (fun i hi x=>hg i hi x)
theorem Ext.below {a b:World} (h:Ext a b):Below a.heap.size a b:=⟨h.os,h.tape,h.output,h.size,fun k hk=>h.block k hk (fun x=>x)⟩
theorem Only.drewN {F:Nat->Prop} {a b:World} (h:Only F a b) (n:Nat):Only F a (b.drewN n):=⟨h.os,h.tape,h.output,h.size,h.block⟩
theorem Only.drew {F:Nat->Prop} {a b:World} (h:Only F a b):Only F a b.drew:=⟨h.os,h.tape,h.output,h.size,h.block⟩
theorem Only.alloc {F:Nat->Prop} {a b:World} (h:Only F a b) (o:Obj):Only F a (b.alloc o) :=
 Only.ext h ⟨rfl,rfl,rfl,by simp,fun k hk _=>Below.heap_alloc _ _ _ (by omega)⟩
theorem Only.setCell {F:Nat->Prop} {a b:World} (h:Only F a b) {p:Addr} (hp:a.heap.size<=p.block\/F p.block) (u:Value):Only F a (b.setCell p u):=by
 refine h.trans (G:=fun k=>k=p.block) ⟨rfl,rfl,rfl,by simp [World.setCell],fun k hk hn=>Below.heap_setCell _ _ _ _ hn⟩ ?_
 intro i hi e; subst e; rcases hp with h | h
 ·
  omega
 ·
  exact h
theorem Only.grown {F:Nat->Prop} {a b c:World} {row:Option Nat} (h:Only F a b) (hg:b.grownBy c row) (hr:∀ k,k < a.heap.size->row=some k->F k):Only F a c :=
 h.trans (G:=fun k=>row=some k) ⟨hg.os,hg.tape,hg.output,hg.size,fun k hk hn=>hg.block k hk (fun e=>hn e.symm)⟩ hr
theorem Only.at {F:Nat->Prop} {a b:World} (h:Only F a b) {k:Nat} {o:Obj} (e:a.heap[k]?=some o) (hn:¬F k):b.heap[k]?=some o:=by
 rw [h.block k (lt_of_block e) hn]; exact e
theorem Ext.at {a b:World} (h:Ext a b) {k:Nat} {o:Obj} (e:a.heap[k]?=some o):b.heap[k]?=some o:=Only.at h e (fun x=>x)
theorem Ext.cell {a b:World} (h:Ext a b) {p:Addr} {v:Value} (e:a.cell? p=some v):b.cell? p=some v:=by
 have:=World.block_lt_of_cell? a p e
 rw [World.cell?_of_block (h.block p.block this (fun x=>x))]; exact e
theorem Only.cell {F:Nat->Prop} {a b:World} (h:Only F a b) {p:Addr} {v:Value} (e:a.cell? p=some v) (hn:¬F p.block):b.cell? p=some v:=by
 have:=World.block_lt_of_cell? a p e
 rw [World.cell?_of_block (h.block p.block this hn)]; exact e
theorem Zaf {w:World} {b i:Nat} {c:Array Value} {E:TypeId} {f:Nat × Nat} (h:w.heap[b]?=some (.cells c E f)):w.cell? ⟨b,i,none⟩=c[i]?:=by
 simp [World.cell?,h]
theorem Zax {w:World} {b i:Nat} {c:Array Value} {E:TypeId} (h:w.heap[b]?=some (.cells c E (0,0))):w.frozen? ⟨b,i,none⟩=false:=by
 simp [World.frozen?,h]
theorem heap_drewN (w:World) (n:Nat):(w.drewN n).heap=w.heap:=rfl
theorem Zad {w:World} {o:Obj}:(w.alloc o).heap[w.heap.size]?=some o:=heap_alloc_new w o
theorem Zar {w:World} {b i:Nat} {c:Array Value} {E:TypeId} {f:Nat × Nat} (h:w.heap[b]?=some (.cells c E f)) (v:Value) :
  (w.setCell ⟨b,i,none⟩ v).heap[b]?=some (.cells (c.setIfInBounds i v) E f):=by
 simp [World.setCell,Array.getElem?_modify,h]
theorem Zai {w:World} {b i k:Nat} (v:Value) (h:k≠b):(w.setCell ⟨b,i,none⟩ v).heap[k]?=w.heap[k]? :=
 Below.heap_setCell _ _ _ _ h
theorem ret_int {k:IntKind} {a b:Int} (h:a=b):Ending.returned (.int k a)=.returned (.int k b):=by rw [h]
theorem Zas {a b:Bool} (h:a=b):Ending.returned (.bool a)=.returned (.bool b):=by rw [h]
theorem bits_xor_nat (k:IntKind) (j:Nat) (hj:j<=k.bits) (hk:∀ n:Int,0<=n->n < 2 ^ j->k.wrap n=n) (a b:Nat) (ha:a < 2 ^ j) (hb:b < 2 ^ j) :
  bits .xor k a b=((a ^^^ b:Nat):Int):=by
 have hp:2 ^ j<=2 ^ k.bits:=Nat.pow_le_pow_right (by decide) hj
 have ha':a % 2 ^ k.bits=a:=Nat.mod_eq_of_lt (Nat.lt_of_lt_of_le ha hp)
 have hb':b % 2 ^ k.bits=b:=Nat.mod_eq_of_lt (Nat.lt_of_lt_of_le hb hp)
 have cast:∀ n:Nat,n < 2 ^ j->((n:Nat):Int) < 2 ^ j:=fun n h=>by exact_mod_cast h
 simp only [bits,BitVec.ofInt_natCast,BitVec.toNat_xor,BitVec.toNat_ofNat,ha',hb']
 exact hk _ (Int.natCast_nonneg _) (cast _ (Nat.xor_lt_two_pow ha hb))
theorem wraps_i64 (n:Int) (h₀:0<=n) (h₁:n < 2 ^ 63):IntKind.i64.wrap n=n:=by rw [IntKind.wrap_i64]; omega
theorem Zb2 (a b:Nat) (ha:a < 2 ^ 63) (hb:b < 2 ^ 63):bits .xor .i64 (a:Int) (b:Int)=((a ^^^ b:Nat):Int) :=
 bits_xor_nat .i64 63 (by decide) wraps_i64 a b ha hb
theorem i64_and_nat (a b:Nat) (ha:a < 2 ^ 63) (hb:b < 2 ^ 63):bits .and .i64 (a:Int) (b:Int)=((a &&& b:Nat):Int) :=
 (bits_nat .i64 63 (by decide) wraps_i64 a b ha hb).1
theorem tmod_cases (n:Int) (m:Int) (hm:0 < m):(0<=n/\n.tmod m=n % m)\/(n < 0/\n.tmod m=-((-n) % m)):=by
 by_cases h:0<=n
 ·
  exact .inl ⟨h,Int.tmod_eq_emod_of_nonneg h⟩
 ·
  refine .inr ⟨by omega,?_⟩
  rw [<- Int.tmod_eq_emod_of_nonneg (by omega:0<=-n),Int.neg_tmod,Int.neg_neg]
theorem tmod_bd (n m:Int) (hm:0 < m):-m < n.tmod m/\n.tmod m < m:=by
 have h1:=Int.emod_lt_of_pos n hm
 have h2:=Int.emod_lt_of_pos (-n) hm
 have h3:=Int.emod_nonneg n (by omega:m≠0)
 have h4:=Int.emod_nonneg (-n) (by omega:m≠0)
 rcases tmod_cases n m hm with ⟨_,h⟩ | ⟨_,h⟩<;>rw [h]<;>omega
theorem hid {p:Prop} (h:p):Hid p:=h
end Go.Proofs.YtgjnnbomnoafcaaGreatDoor
namespace Go
set_option linter.unusedVariables false
section
variable {P:Program} {ops:Array Oper} {md:Region.Mode} {C:World->Prop}
def qtAny (P:Program) (md:Region.Mode) (ops:Array Oper) (C:World->Prop) (n:Nat) (L:Array Bool->Act->Prop):Nat->Array Bool->Act->Prop
 | 0,listed,a=>L listed a
 | f+1,listed,a =>
  Region.ready md ops listed≠[]/\∀ i∈Region.ready md ops listed,i < n/\qOp P ops C i (qtAny P md ops C n L f (listed.setIfInBounds i true)) a
theorem qtAny_wp {n g:Nat} {L:Array Bool->Act->Prop} {Q':Exit->Act->World->Prop} (hL:∀ listed a w,C w->L listed a->wpAny P md ops Q' g listed a w) :
  ∀ (f:Nat) (listed:Array Bool) (a:Act) (w:World),C w->qtAny P md ops C n L f listed a->wpAny P md ops Q' (f+g) listed a w
 | 0,listed,a,w,hw,h=>by rw [Nat.zero_add]; exact hL _ _ _ hw h
 | f+1,listed,a,w,hw,h=>by
  rw [show f+1+g=(f+g)+1 by omega]
  exact ⟨fun h0=>absurd h0 h.1,fun i hi=>wpOp_of_qOp hw (fun a' w' hw' h'=>qtAny_wp hL f _ a' w' hw' h') (h.2 i hi).2⟩
theorem qtAny_first {n i:Nat} {oi:Oper} {v:Value} {L:Array Bool->Act->Prop} (hi:ops[i]?=some oi) (hsel:∀ (j:Nat) (o:Oper) cs b,ops[j]?=some o->o.op≠.select cs b)
  (hs:Region.sinkB md ops n=true) (hc:Region.chainB md ops n=true) (hn:n < ops.size) (hin:i < n)
  (hdone:∀ listed a,L listed a->∀ j∈Region.ready md ops listed,n<=j) :
  ∀ (f:Nat) (listed:Array Bool) (a:Act),HeadInv md ops n listed ->
   (∀ j oj,ops[j]?=some oj->j≠i->listed.getD j true=false->(∀ e∈oj.after,Region.binds md e=true->e.on≠i)->oi.apart ops oj=true) ->
   i∈Region.ready md ops listed->YieldsIn P ops C oi v a ->
   qtAny P md ops C n L f (listed.setIfInBounds i true) (a.put oi.dst v)->qtAny P md ops C n L (f+1) listed a:=by
 intro f
 induction f with
 | zero =>
  intro listed a inv _ hr hy H
  have hun:=(mem_ready.1 hr).1
  refine ⟨fun h=>(by rw [h] at hr; cases hr),fun j hj=>?_⟩
  have hjn:j < n:=by
   rcases Nat.lt_or_ge j n with h | h
   ·
    exact h
   ·
    exact absurd hj (tail_waits hs hc hn inv _ i rfl hin hun j h)
  refine ⟨hjn,?_⟩
  by_cases hji:j=i
  ·
   subst hji; exact hy.qOp hi H
  ·
   have:=hdone _ _ H j (ready_mono hj hji)
   omega
 | succ f ih =>
  intro listed a inv hfree hr hy H
  have hun:=(mem_ready.1 hr).1
  refine ⟨fun h=>(by rw [h] at hr; cases hr),fun j hj=>?_⟩
  have hjn:j < n:=by
   rcases Nat.lt_or_ge j n with h | h
   ·
    exact h
   ·
    exact absurd hj (tail_waits hs hc hn inv _ i rfl hin hun j h)
  refine ⟨hjn,?_⟩
  by_cases hji:j=i
  ·
   subst hji; exact hy.qOp hi H
  ·
   have h1:=(H.2 j (ready_mono hj hji)).2
   obtain ⟨hjun,oj,hoj,hall⟩:=mem_ready.1 hj
   have hnot:∀ e∈oj.after,Region.binds md e=true->e.on≠i:=fun e he hb heq=>by
    have h1:=hall e he hb
    rw [heq,getD_both hun] at h1
    cases h1
   have h2:=qOp_put hoj (hfree j oj hoj hji hjun hnot) (fun cs b=>hsel i oi cs b hi) (fun cs b=>hsel j oj cs b hoj) hy h1
   have hfree':∀ k ok,ops[k]?=some ok->k≠i->(listed.setIfInBounds j true).getD k true=false ->
     (∀ e∈ok.after,Region.binds md e=true->e.on≠i)->oi.apart ops ok=true:=fun k ok hk hki hun hno=>by
    refine hfree k ok hk hki ?_ hno
    by_cases hjk:j=k
    ·
     subst hjk; exact hjun
    ·
     rw [getD_set_ne true hjk] at hun; exact hun
   refine qOp_mono (fun a' h3=>ih (listed.setIfInBounds j true) a' (inv.set hj hjn) hfree' (ready_mono hr (Ne.symm hji)) h3.1 ?_) h2
   rw [Array.setIfInBounds_comm _ _ hji]
   exact h3.2
theorem qtAny_lex {n g:Nat} {Lq:Act->Prop} (hsel:Region.noSelect ops=true) (hs:Region.sinkB md ops n=true) (hc:Region.chainB md ops n=true) (hn:n < ops.size) :
  ∀ (l:List Oper) (k:Nat) (listed:Array Bool) (a:Act),(∀ j,j < l.length->l[j]?=ops[k+j]?)->k+l.length=n->HeadInv md ops n listed ->
  Region.lexHead md ops g l.length k listed=true->wpQuiet P ops C Lq l a ->
  qtAny P md ops C n (fun listed' a'=>Region.seqB md ops g n listed'=true/\Lq a') l.length listed a
 | [],k,listed,a,_,hk,_,hB,h=>by
  have:k=n:=by simpa using hk
  subst this
  exact ⟨by simpa [Region.lexHead] using hB,h⟩
 | o::l,k,listed,a,hl,hk,inv,hB,h=>by
  have h0:ops[k]?=some o:=by simpa using (hl 0 (by simp)).symm
  simp only [List.length_cons,Region.lexHead,Bool.and_eq_true] at hB
  obtain ⟨⟨hr,hf⟩,hB'⟩:=hB
  have hkn:k < n:=by simp only [List.length_cons] at hk; omega
  have hr':k∈Region.ready md ops listed:=by simpa using hr
  have hst:qOp P ops C k (wpQuiet P ops C Lq l) a:=by unfold qOp; simp only [h0]; exact h
  obtain ⟨v,hy,hK⟩:=yieldsIn_of_qOp h0 hst
  exact qtAny_first h0 (Region.noSelect_spec hsel) hs hc hn hkn (fun listed' a' hL=>seqB_ready hL.1) l.length listed a inv (Region.free_spec h0 hf) hr' hy
   (qtAny_lex hsel hs hc hn l (k+1) _ _ (fun j hj=>by have:=hl (j+1) (by simp; omega); simpa [Nat.add_assoc,Nat.add_comm 1 j] using this) (by simp only [List.length_cons] at hk; omega) (inv.set hr' hkn) hB' hK)
theorem Zck {id:Nat} {Q:Exit->Act->World->Prop} {a:Act} {w:World} {l:List Oper} (n:Nat) (hm:P.follows .mixedOrders=true) (hB:Region.lexTailB .any l.toArray n=true)
  (hC:C { w with drawn:=w.drawn+1 })
  (h:wpQuiet P l.toArray C (fun a'=>∀ w',C w'->wpList P l.toArray Q (l.drop n) a' w') (l.take n) a):(Code.region id l.toArray true).wp P Q a w:=by
 simp only [Region.lexTailB,Bool.and_eq_true,decide_eq_true_eq] at hB
 obtain ⟨⟨⟨⟨hsel,hn⟩,hs⟩,hc⟩,hlex⟩:=hB
 have hn':n < l.length:=by simpa using hn
 have htl:(l.take n).length=n:=by simp; omega
 have hdl:(l.drop n).length=l.toArray.size - n:=by simp
 have inv0:HeadInv .any l.toArray n (Array.replicate l.toArray.size false) :=
  ⟨by simp,fun j oj _ hl=>(by rw [getD_replicate_false] at hl; cases hl),fun t _ ht=>getD_in (by simpa using ht) (getD_replicate_false _ _)⟩
 have H:=qtAny_lex (md:=.any) (C:=C) (g:=l.toArray.size - n) hsel hs hc hn (l.take n) 0 _ a (fun j hj=>by
  have hj':j < n:=by rw [htl] at hj; exact hj
  simp [hj']) (by simpa using htl) inv0 (by rw [htl]; exact hlex) h
 refine wp_region_any hm ?_
 have:=qtAny_wp (Q':=Q) (g:=l.toArray.size - n) (fun listed a' w' hw' hL=>by
  have:=wpAny_of_seq (md:=.any) (Q':=Q) (l.drop n) n listed a' w' (fun j=>by simp [List.getElem?_drop]) (by rw [hdl]; exact hL.1) (hL.2 w' hw')
  rwa [hdl] at this) _ _ _ _ hC H
 rw [htl,show n+(l.toArray.size - n)=l.toArray.size by omega] at this
 exact this
theorem Zaw {id:Nat} {Q:Exit->Act->World->Prop} {a:Act} {w:World} {l:List Oper} (n:Nat) (hm:P.follows .mixedOrders=true) (hB:Region.lexTailB .any l.toArray n=true)
  (h:wpQuiet P l.toArray (fun w'=>∃ n,w'=w.drewN n) (fun a'=>∀ w',(∃ n,w'=w.drewN n)->wpList P l.toArray Q (l.drop n) a' w') (l.take n) a):(Code.region id l.toArray true).wp P Q a w :=
 Zck (C:=fun w'=>∃ n,w'=w.drewN n) n hm hB ⟨1,rfl⟩ h
end
end Go
namespace Go
set_option linter.unusedVariables false
section
variable {P:Program} {ops:Array Oper} {Q:Exit->Act->World->Prop}
def wpPure (P:Program) (ops:Array Oper) (K:Act->Prop):List Oper->Act->Prop
 | [],a=>K a
 | o::rest,a=>if Region.wanted o (yielded ops a.tmps) then ∃ v,(∀ w,(execOp a.eval o).run P w=.ok (.value v) w)/\wpPure P ops K rest (a.put o.dst v) else wpPure P ops K rest (a.put o.dst undef)
theorem Zbi {K:Act->Prop} {a:Act} (h:K a):wpPure P ops K [] a:=h
theorem Zco {K:Act->Prop} {a:Act} {o:Oper} {rest:List Oper}
  (h:∀ K':Act->Prop,(∀ a,wpPure P ops K rest a->K' a)->if Region.wanted o (yielded ops a.tmps) then ∃ v,(∀ w,(execOp a.eval o).run P w=.ok (.value v) w)/\K' (a.put o.dst v) else K' (a.put o.dst undef)):wpPure P ops K (o::rest) a :=
 h _ (fun _ h=>h)
def wpMix (P:Program) (ops:Array Oper) (Q:Exit->Act->World->Prop):List (List Oper × Oper)->List Oper->Act->World->Prop
 | [],last,a,w=>wpPure P ops (fun a'=>Q .normal a' w) last a
 | (ps,o)::rest,last,a,w=>wpPure P ops (fun a'=>wpList P ops (Exit.then (wpMix P ops Q rest last) Q) [o] a' w) ps a
theorem Zca {a:Act} {w:World} {o:Oper} {rest:List (List Oper × Oper)} {last:List Oper}
  (h:∀ K:Act->World->Prop,(∀ a w,wpMix P ops Q rest last a w->K a w)->wpList P ops (Exit.then K Q) [o] a w):wpList P ops (Exit.then (wpMix P ops Q rest last) Q) [o] a w :=
 h _ (fun _ _ h=>h)
def mixPureB (md:Region.Mode) (ops:Array Oper) (k:Array Bool->Bool):List Nat->Array Bool->Bool
 | [],listed=>k listed
 | i::rest,listed=>(Region.ready md ops listed).contains i && Region.free md ops listed i && mixPureB md ops k rest (listed.setIfInBounds i true)
def mixB (md:Region.Mode) (ops:Array Oper):List (List Nat × Nat)->List Nat->Array Bool->Bool
 | [],last,listed=>mixPureB md ops (fun l=>(Region.ready md ops l).isEmpty) last listed
 | (ps,i)::rest,last,listed=>mixPureB md ops (fun l=>decide (Region.ready md ops l=[i]) && mixB md ops rest last (l.setIfInBounds i true)) ps listed
def opsAt (ops:Array Oper) (σ:List Nat):List Oper:=σ.map fun i=>ops.getD i default
theorem Oper.wp_then {o:Oper} {a:Act} {w:World} {K K':Act->World->Prop} (hh:o.wp P a w K (Exit.then K' Q)):o.wp P a w K Q:=by
 unfold Oper.wp at *
 generalize (execOp a.eval o).run P w=r at *
 cases r with
 | ok n w' =>
  cases n<;>simp only [Oper.upon] at hh ⊢ <;>
   first
    | exact hh
    | exact Calls.mono hh (fun e w'' he=>by cases e<;>exact he)
 | halt x w'=>cases x<;>simp only [Oper.upon] at hh ⊢<;>exact hh
theorem getD_of_some {i:Nat} {o:Oper} (h:ops[i]?=some o):ops.getD i default=o:=by
 simp [Array.getD_eq_getD_getElem?,h]
theorem Za7 {md:Region.Mode} {i:Nat} {listed:Array Bool} (h:i∈Region.ready md ops listed):ops[i]?=some (ops.getD i default):=by
 obtain ⟨_,o,ho,_⟩:=mem_ready.1 h
 rw [getD_of_some ho]; exact ho
theorem mix_pure {md:Region.Mode} (hs:Region.noSelect ops=true) (hQ:∀ c (a:Act) d v w,Q (.panic c) (a.put d v) w->Q (.panic c) a w) {k:Array Bool->Bool} {K:Act->Prop} {w:World} {n:Nat}
  (hK:∀ listed a,k listed=true->K a->wpAny P md ops Q n listed a w):∀ (σ:List Nat) (listed:Array Bool) (a:Act),mixPureB md ops k σ listed=true->wpPure P ops K (opsAt ops σ) a ->
  wpAny P md ops Q (σ.length+n) listed a w
 | [],listed,a,hB,h=>by rw [List.length_nil,Nat.zero_add]; exact hK listed a hB h
 | i::σ,listed,a,hB,h=>by
  simp only [mixPureB,Bool.and_eq_true] at hB
  obtain ⟨⟨hr,hf⟩,hB'⟩:=hB
  have hr':i∈Region.ready md ops listed:=by simpa using hr
  have hi:=Za7 hr'
  have h:if Region.wanted (ops.getD i default) (yielded ops a.tmps) then ∃ v,(∀ w,(execOp a.eval (ops.getD i default)).run P w=.ok (.value v) w)/\wpPure P ops K (opsAt ops σ) (a.put (ops.getD i default).dst v) else wpPure P ops K (opsAt ops σ) (a.put (ops.getD i default).dst undef):=h
  rw [show (i::σ).length+n=(σ.length+n)+1 by simp; omega]
  by_cases hw:Region.wanted (ops.getD i default) (yielded ops a.tmps)=true
  ·
   rw [if_pos hw] at h
   obtain ⟨v,hv,h2⟩:=h
   exact wpAny_take hi hs hf hr (fun c a w h=>hQ c _ _ _ w h) (.inl ⟨hw,hv⟩) (mix_pure hs hQ hK σ _ _ hB' h2)
  ·
   rw [if_neg hw] at h
   exact wpAny_take hi hs hf hr (fun c a w h=>hQ c _ _ _ w h) (.inr ⟨by simpa using hw,rfl⟩) (mix_pure hs hQ hK σ _ _ hB' h)
def mixLen:List (List Nat × Nat)->List Nat->Nat
 | [],last=>last.length
 | (ps,_)::rest,last=>ps.length+(mixLen rest last+1)
theorem mix_any {md:Region.Mode} (hs:Region.noSelect ops=true) (hQ:∀ c (a:Act) d v w,Q (.panic c) (a.put d v) w->Q (.panic c) a w) (last:List Nat):∀ (segs:List (List Nat × Nat)) (listed:Array Bool) (a:Act) (w:World),
  mixB md ops segs last listed=true->wpMix P ops Q (segs.map fun s=>(opsAt ops s.1,ops.getD s.2 default)) (opsAt ops last) a w->wpAny P md ops Q (mixLen segs last) listed a w
 | [],listed,a,w,hB,h=>by
  have:=mix_pure (P:=P) (n:=0) hs hQ (K:=fun a'=>Q .normal a' w) (w:=w) (k:=fun l=>(Region.ready md ops l).isEmpty) (md:=md)
   (fun l a hl hk=>⟨by simpa using hl,hk⟩) last listed a hB h
  simpa [mixLen] using this
 | (ps,i)::rest,listed,a,w,hB,h=>by
  refine mix_pure (n:=mixLen rest last+1) hs hQ (md:=md) ?_ ps listed a hB h
  intro l a hl hk
  simp only [Bool.and_eq_true,decide_eq_true_eq] at hl
  obtain ⟨hr,hB'⟩:=hl
  refine wpAny_all hr (by simp) ?_
  intro j hj
  obtain rfl:j=i:=by simpa using hj
  have hi:=Za7 (ops:=ops) (md:=md) (listed:=l) (i:=j) (by rw [hr]; simp)
  have hk:if Region.wanted (ops.getD j default) (yielded ops a.tmps) then
    (ops.getD j default).wp P a w (fun a w=>Exit.then (wpMix P ops Q (rest.map fun s=>(opsAt ops s.1,ops.getD s.2 default)) (opsAt ops last)) Q .normal a w) (Exit.then (wpMix P ops Q (rest.map fun s=>(opsAt ops s.1,ops.getD s.2 default)) (opsAt ops last)) Q)
     ∨ ((ops.getD j default).asks P a w/\LetsOut (Exit.then (wpMix P ops Q (rest.map fun s=>(opsAt ops s.1,ops.getD s.2 default)) (opsAt ops last)) Q))
    else Exit.then (wpMix P ops Q (rest.map fun s=>(opsAt ops s.1,ops.getD s.2 default)) (opsAt ops last)) Q .normal (a.put (ops.getD j default).dst undef) w:=hk
  unfold wpOp
  simp only [hi]
  split
  ·
   rename_i hw
   rw [if_pos hw] at hk
   rcases hk with hk | ⟨h1,h2⟩
   ·
    exact .inl (Oper.wp_mono (fun a' w' h'=>mix_any hs hQ last rest _ a' w' hB' h') (Oper.wp_then hk))
   ·
    exact .inr ⟨h1,h2⟩
  ·
   rename_i hw
   rw [if_neg hw] at hk
   exact mix_any hs hQ last rest _ _ w hB' hk
theorem Zci {id:Nat} {a:Act} {w:World} {l:List Oper} (segs:List (List Nat × Nat)) (last:List Nat) (hm:P.follows .mixedOrders=true)
  (hB:(Region.noSelect l.toArray && decide (mixLen segs last=l.toArray.size) && mixB .any l.toArray segs last (Array.replicate l.toArray.size false))=true)
  (hQ:∀ c (a:Act) d v w,Q (.panic c) (a.put d v) w->Q (.panic c) a w)
  (h:wpMix P l.toArray Q (segs.map fun s=>(opsAt l.toArray s.1,l.toArray.getD s.2 default)) (opsAt l.toArray last) a w.drew):(Code.region id l.toArray true).wp P Q a w:=by
 simp only [Bool.and_eq_true,decide_eq_true_eq] at hB
 obtain ⟨⟨h1,h2⟩,h3⟩:=hB
 refine wp_region_any hm ?_
 have:=mix_any (md:=.any) h1 hQ last segs _ a _ h3 h
 rwa [h2] at this
end
end Go
namespace Go.Proofs.YtgjnnbomnoafcaaGreatDoor
set_option linter.unusedVariables false
set_option linter.unusedSectionVars false
open Go
class Pre (S:World->World->Prop):Prop where
 refl:∀ w,S w w
 trans:∀ {a b c},S a b->S b c->S a c
class Within2 (E S:World->World->Prop):Prop where
 sub:∀ {a b},E a b->S a b
instance Within2.same (S:World->World->Prop):Within2 S S:=⟨id⟩
instance Within2.ext (F:Nat->Prop):Within2 Ext (Only F):=⟨fun h=>Ext.only h⟩
instance Pre.only (F:Nat->Prop):Pre (Only F):=⟨Only.refl F,fun h k=>Only.trans h k (fun _ _ x=>x)⟩
section
variable {P:Program} {ops:Array Oper} {Q:Exit->Act->World->Prop} {md:Region.Mode} {E S:World->World->Prop} [hE:Pre E] [hS:Pre S] [hES:Within2 E S]
def SW (S:World->World->Prop) (w:World):Type:={w':World // S w w'}
instance (w:World):Nonempty (SW S w):=⟨⟨w,hS.refl w⟩⟩
def SW.w {w:World} (x:SW S w):World:=x.1
theorem SW.ext {w:World} (x:SW S w):S w x.w:=x.2
def YieldsS (E S:World->World->Prop) (P:Program) (ops:Array Oper) (w0:World) (o:Oper) (v:Value) (a:Act):Prop :=
 (Region.wanted o (yielded ops a.tmps)=true/\∀ w,S w0 w->o.quietAt P a (E w) w v)\/(Region.wanted o (yielded ops a.tmps)=false/\v=undef)
theorem YieldsS.mono {w0 w1:World} {o:Oper} {v:Value} {a:Act} (h:YieldsS E S P ops w0 o v a) (e:S w0 w1):YieldsS E S P ops w1 o v a :=
 h.imp (fun ⟨h1,h2⟩=>⟨h1,fun w hw=>h2 w (hS.trans e hw)⟩) id
theorem YieldsS.of_same {w0:World} {o:Oper} {v:Value} {a a':Act} (hy:YieldsS E S P ops w0 o v a) (he:execOp a'.eval o=execOp a.eval o)
  (hw:Region.wanted o (yielded ops a'.tmps)=Region.wanted o (yielded ops a.tmps)):YieldsS E S P ops w0 o v a':=by
 unfold YieldsS Oper.quietAt at *
 rw [he,hw]
 exact hy
theorem YieldsS.wpOp {w0:World} {i:Nat} {o:Oper} {v:Value} {a:Act} (hi:ops[i]?=some o) (hy:YieldsS E S P ops w0 o v a) {w:World} (hw:S w0 w) {K:Act->World->Prop}
  (h:∀ w',E w w'->K (a.put o.dst v) w'):wpOp P ops Q i K a w:=by
 unfold Go.wpOp
 simp only [hi]
 rcases hy with ⟨hwt,hv⟩ | ⟨hwt,rfl⟩
 ·
  simp only [hwt,if_true]
  refine .inl ?_
  have h3:=hv w hw
  unfold Oper.quietAt at h3
  unfold Oper.wp
  generalize (execOp a.eval o).run P w=r at *
  cases r with
  | ok n w' =>
   cases n<;>simp only [Oper.quietUpon] at h3<;>simp only [Oper.upon]
   case value u=>obtain ⟨e1,e2⟩:=h3; rw [e1,e2]; exact h _ (hE.refl _)
   case skip=>obtain ⟨e1,e2⟩:=h3; rw [e1,<- e2]; exact h _ (hE.refl _)
   case enter f args =>
    obtain ⟨e1,hc⟩:=h3
    rw [e1]
    exact hc.mono fun e w'' ⟨he,hw''⟩=>by subst he; exact h _ hw''
  | halt x w'=>simp only [Oper.quietUpon] at h3
 ·
  simp only [hwt,Bool.false_eq_true,if_false]; exact h _ (hE.refl _)
theorem wpOp_putS {w0:World} {j:Nat} {oi oj:Oper} {v:Value} (hj:ops[j]?=some oj) (hap:oi.apart ops oj=true)
  (hsi:∀ cs b,oi.op≠.select cs b) (hsj:∀ cs b,oj.op≠.select cs b)
  (hQ:∀ c a w,Q (.panic c) (a.put oi.dst v) w->Q (.panic c) a w) {K:Act->World->Prop} {a:Act} {w:World}
  (hy:YieldsS E S P ops w0 oi v a) (h:wpOp P ops Q j K (a.put oi.dst v) w) :
  wpOp P ops Q j (fun a' w'=>YieldsS E S P ops w0 oi v a'/\K (a'.put oi.dst v) w') a w:=by
 obtain ⟨h1,h2,h3⟩:=Oper.apart_spec hap
 have keep:∀ (a:Act),YieldsS E S P ops w0 oi v a->∀ u,YieldsS E S P ops w0 oi v (a.put oj.dst u):=fun a hy u =>
  hy.of_same (execOp_put oi hsi a oj.dst u h3) (wanted_put oi a oj.dst u h3)
 have keepD:∀ d,YieldsS E S P ops w0 oi v { a with defers:=d::a.defers }:=fun d=>hy.of_same rfl rfl
 unfold Go.wpOp at *
 simp only [hj] at *
 rw [wanted_put oj a oi.dst v h1] at h
 split
 ·
  rename_i hw
  simp only [hw,if_true] at h
  rcases h with h | ⟨hasks,hlets⟩
  case inr=>exact .inr ⟨by unfold Oper.asks at *; rw [execOp_put oj hsj a oi.dst v h1] at hasks; exact hasks,hlets⟩
  refine .inl ?_
  unfold Oper.wp at *
  rw [execOp_put oj hsj a oi.dst v h1] at h
  generalize (execOp a.eval oj).run P w=r at *
  cases r with
  | ok n w' =>
   cases n<;>simp only [Oper.upon] at h ⊢
   case value u=>exact ⟨keep a hy u,by rw [<- Act.put_comm a v u h2]; exact h⟩
   case skip=>exact ⟨keep a hy _,by rw [<- Act.put_comm a v undef h2]; exact h⟩
   case defer d =>
    refine ⟨keep _ (keepD d) _,?_⟩
    rw [<- Act.put_comm _ v undef h2,<- Act.put_defers]
    exact h
   case enter f args =>
    refine Calls.mono h fun e w'' he=>?_
    cases e with
    | returned u=>exact ⟨keep a hy u,by rw [<- Act.put_comm a v u h2]; exact he⟩
    | panicked c=>exact hQ _ _ _ he
    | outgrown=>exact he
   case row row args=>exact Rows.mono h fun u w'' he=>⟨keep a hy u,by rw [<- Act.put_comm a v u h2]; exact he⟩
  | halt x w' =>
   cases x<;>simp only [Oper.upon] at h ⊢
   case panic u=>exact hQ _ _ _ h
 ·
  rename_i hw
  simp only [hw] at h
  exact ⟨keep a hy _,by rw [<- Act.put_comm a v undef h2]; exact h⟩
def sAny (E S:World->World->Prop) (P:Program) (md:Region.Mode) (ops:Array Oper) (Q:Exit->Act->World->Prop) (n:Nat) (L:Array Bool->Act->World->Prop):Nat->Array Bool->Act->World->Prop
 | 0,listed,a,w=>L listed a w
 | f+1,listed,a,w=>Region.ready md ops listed≠[]/\∀ i∈Region.ready md ops listed,i < n ∧
   ∀ w',E w w'->wpOp P ops Q i (fun a'' w''=>S w' w''/\sAny E S P md ops Q n L f (listed.setIfInBounds i true) a'' w'') a w'
theorem sAny_wp {n g:Nat} {L:Array Bool->Act->World->Prop} (hL:∀ listed a w,L listed a w->wpAny P md ops Q g listed a w) :
  ∀ (f:Nat) (listed:Array Bool) (a:Act) (w:World),sAny E S P md ops Q n L f listed a w->wpAny P md ops Q (f+g) listed a w
 | 0,listed,a,w,h=>by rw [Nat.zero_add]; exact hL _ _ _ h
 | f+1,listed,a,w,h=>by
  rw [show f+1+g=(f+g)+1 by omega]
  exact ⟨fun h0=>absurd h0 h.1,fun i hi=>wpOp_mono (fun a' w' h'=>sAny_wp hL f _ a' w' h'.2) ((h.2 i hi).2 w (hE.refl w))⟩
theorem sAny_ext {n:Nat} {L:Array Bool->Act->World->Prop} (hL:∀ listed a w w',E w w'->L listed a w->L listed a w') :
  ∀ (f:Nat) (listed:Array Bool) (a:Act) (w w':World),E w w'->sAny E S P md ops Q n L f listed a w->sAny E S P md ops Q n L f listed a w'
 | 0,listed,a,w,w',e,h=>hL _ _ _ _ e h
 | f+1,listed,a,w,w',e,h=>⟨h.1,fun i hi=>⟨(h.2 i hi).1,fun w2 e2=>(h.2 i hi).2 w2 (hE.trans e e2)⟩⟩
theorem sAny_first {n i:Nat} {oi:Oper} {v:Value} {L:Array Bool->Act->World->Prop} (hi:ops[i]?=some oi) (hsel:∀ (j:Nat) (o:Oper) cs b,ops[j]?=some o->o.op≠.select cs b)
  (hQ:∀ c (a:Act) d v w,Q (.panic c) (a.put d v) w->Q (.panic c) a w)
  (hwait:∀ listed,HeadInv md ops n listed->listed.getD i true=false->∀ j∈Region.ready md ops listed,j < n) (hin:i < n)
  (hL:∀ listed a w w',E w w'->L listed a w->L listed a w')
  (hdone:∀ listed a w,L listed a w->∀ j∈Region.ready md ops listed,n<=j) :
  ∀ (f:Nat) (listed:Array Bool) (a:Act) (w:World),HeadInv md ops n listed ->
   (∀ j oj,ops[j]?=some oj->j≠i->listed.getD j true=false->(∀ e∈oj.after,Region.binds md e=true->e.on≠i)->oi.apart ops oj=true) ->
   i∈Region.ready md ops listed->YieldsS E S P ops w oi v a ->
   sAny E S P md ops Q n L f (listed.setIfInBounds i true) (a.put oi.dst v) w->sAny E S P md ops Q n L (f+1) listed a w:=by
 intro f
 induction f with
 | zero =>
  intro listed a w inv _ hr hy H
  have hun:=(mem_ready.1 hr).1
  refine ⟨fun h=>(by rw [h] at hr; cases hr),fun j hj=>⟨hwait _ inv hun j hj,fun w' hw'=>?_⟩⟩
  by_cases hji:j=i
  ·
   subst hji; exact hy.wpOp hi (hES.sub hw') fun w'' e=>⟨hES.sub e,hL _ _ _ _ (hE.trans hw' e) H⟩
  ·
   have h1:=hdone _ _ _ H j (ready_mono hj hji)
   have h2:=hwait _ inv hun j hj
   omega
 | succ f ih =>
  intro listed a w inv hfree hr hy H
  have hun:=(mem_ready.1 hr).1
  refine ⟨fun h=>(by rw [h] at hr; cases hr),fun j hj=>⟨hwait _ inv hun j hj,fun w' hw'=>?_⟩⟩
  have hjn:=hwait _ inv hun j hj
  by_cases hji:j=i
  ·
   subst hji; exact hy.wpOp hi (hES.sub hw') fun w'' e=>⟨hES.sub e,sAny_ext hL _ _ _ _ _ (hE.trans hw' e) H⟩
  ·
   have h1:=(H.2 j (ready_mono hj hji)).2 w' hw'
   obtain ⟨hjun,oj,hoj,hall⟩:=mem_ready.1 hj
   have hnot:∀ e∈oj.after,Region.binds md e=true->e.on≠i:=fun e he hb heq=>by
    have h1:=hall e he hb
    rw [heq,getD_both hun] at h1
    cases h1
   have h2:=wpOp_putS hoj (hfree j oj hoj hji hjun hnot) (fun cs b=>hsel i oi cs b hi) (fun cs b=>hsel j oj cs b hoj) (fun c a w h=>hQ c _ _ _ w h) hy h1
   have hfree':∀ k ok,ops[k]?=some ok->k≠i->(listed.setIfInBounds j true).getD k true=false ->
     (∀ e∈ok.after,Region.binds md e=true->e.on≠i)->oi.apart ops ok=true:=fun k ok hk hki hun hno=>by
    refine hfree k ok hk hki ?_ hno
    by_cases hjk:j=k
    ·
     subst hjk; exact hjun
    ·
     rw [getD_set_ne true hjk] at hun; exact hun
   refine wpOp_mono (fun a' w'' h3=>⟨h3.2.1,ih (listed.setIfInBounds j true) a' w'' (inv.set hj hjn) hfree' (ready_mono hr (Ne.symm hji)) (h3.1.mono (hS.trans (hES.sub hw') h3.2.1)) ?_⟩) h2
   rw [Array.setIfInBounds_comm _ _ hji]
   exact h3.2.2
def wpSQ (E S:World->World->Prop) (P:Program) (ops:Array Oper) (w:World) (K:Act->Prop):List Oper->Act->Prop
 | [],a=>K a
 | o::rest,a=>if Region.wanted o (yielded ops a.tmps) then ∃ v,(∀ x:SW S w,o.quietAt P a (E x.w) x.w v)/\wpSQ E S P ops w K rest (a.put o.dst v) else wpSQ E S P ops w K rest (a.put o.dst undef)
theorem Zac {w:World} {K:Act->Prop} {a:Act} (h:K a):wpSQ E S P ops w K [] a:=h
theorem Zaa {w:World} {K:Act->Prop} {a:Act} {o:Oper} {rest:List Oper}
  (h:∀ K':Act->Prop,(∀ a,wpSQ E S P ops w K rest a->K' a)->if Region.wanted o (yielded ops a.tmps) then ∃ v,(∀ x:SW S w,o.quietAt P a (E x.w) x.w v)/\K' (a.put o.dst v) else K' (a.put o.dst undef)):wpSQ E S P ops w K (o::rest) a :=
 h _ (fun _ h=>h)
theorem wpSQ_build {w:World} {K:Act->Prop} {a:Act} {o:Oper} {rest:List Oper} (hgd:o.guard=none) (t:TypeId) (parts:Array (Nat × Operand)) (ho:o.op=.build t parts) (A:Array Value)
  (hb:P.built t (parts.map fun (i,x)=>(i,a.eval x)).toList=some A) (h:wpSQ E S P ops w K rest (a.put o.dst (.agg A))):wpSQ E S P ops w K (o::rest) a:=by
 have hw:Region.wanted o (yielded ops a.tmps)=true:=by unfold Region.wanted; rw [hgd]
 have h0:wpSQ E S P ops w K (o::rest) a=if Region.wanted o (yielded ops a.tmps) then ∃ v,(∀ x:SW S w,o.quietAt P a (E x.w) x.w v)/\wpSQ E S P ops w K rest (a.put o.dst v) else wpSQ E S P ops w K rest (a.put o.dst undef):=rfl
 rw [h0,if_pos hw]
 refine ⟨_,fun x=>?_,h⟩
 unfold Oper.quietAt execOp
 simp only [ho,Sem.run_bind,run_build x.w t _ A hb,Result.andThen_ok]
 exact ⟨rfl,rfl⟩
inductive STree where
 | fin (ps:List Nat)
 | one (ps:List Nat) (i:Nat) (k:STree)
 | two (ps:List Nat) (i j:Nat) (k l:STree)
def wpS (E S:World->World->Prop) (P:Program) (ops:Array Oper) (Q:Exit->Act->World->Prop) (T:Act->World->Prop):STree->Act->World->Prop
 | .fin ps,a,w=>wpSQ E S P ops w (fun a'=>∀ w',E w w'->T a' w') (opsAt ops ps) a
 | .one ps i k,a,w=>wpSQ E S P ops w (fun a'=>∀ w',E w w'->wpList P ops (Exit.then (fun a'' w''=>S w' w''/\wpS E S P ops Q T k a'' w'') Q) [ops.getD i default] a' w') (opsAt ops ps) a
 | .two ps i j k l,a,w=>wpSQ E S P ops w (fun a'=>∀ w',E w w'->wpList P ops (Exit.then (fun a'' w''=>S w' w''/\wpS E S P ops Q T k a'' w'') Q) [ops.getD i default] a' w'/\wpList P ops (Exit.then (fun a'' w''=>S w' w''/\wpS E S P ops Q T l a'' w'') Q) [ops.getD j default] a' w') (opsAt ops ps) a
theorem Zat {a:Act} {w':World} {o:Oper} {k:STree} {T:Act->World->Prop}
  (h:∀ K:Act->World->Prop,(∀ a w,S w' w->wpS E S P ops Q T k a w->K a w)->wpList P ops (Exit.then K Q) [o] a w'):wpList P ops (Exit.then (fun a'' w''=>S w' w''/\wpS E S P ops Q T k a'' w'') Q) [o] a w' :=
 h _ (fun _ _ h1 h2=>⟨h1,h2⟩)
def sB (md:Region.Mode) (ops:Array Oper) (n:Nat) (g:Array Bool->Bool):STree->Array Bool->Bool
 | .fin ps,listed=>mixPureB md ops g ps listed && ps.all (decide <| · < n)
 | .one ps i k,listed=>mixPureB md ops (fun l=>decide (Region.ready md ops l=[i]) && sB md ops n g k (l.setIfInBounds i true)) ps listed && ps.all (decide <| · < n) && decide (i < n)
 | .two ps i j k m,listed=>mixPureB md ops (fun l=>decide (Region.ready md ops l=[i,j]) && sB md ops n g k (l.setIfInBounds i true) && sB md ops n g m (l.setIfInBounds j true)) ps listed && ps.all (decide <| · < n) && decide (i < n) && decide (j < n)
def sLen:STree->Option Nat
 | .fin ps=>some ps.length
 | .one ps _ k=>(sLen k).map fun n=>ps.length+(n+1)
 | .two ps _ _ k l=>match sLen k,sLen l with
  | some n,some m=>if n=m then some (ps.length+(n+1)) else none
  | _,_=>none
theorem loudS {i:Nat} {l:Array Bool} {a:Act} {w:World} {T K:Act->World->Prop} (hi':i∈Region.ready md ops l)
  (hT:∀ a' w',T a' w'->K a' w') (hk:wpList P ops (Exit.then T Q) [ops.getD i default] a w):wpOp P ops Q i K a w:=by
 have hi:=Za7 hi'
 have hk:if Region.wanted (ops.getD i default) (yielded ops a.tmps) then
   (ops.getD i default).wp P a w (fun a w=>Exit.then T Q .normal a w) (Exit.then T Q)\/((ops.getD i default).asks P a w/\LetsOut (Exit.then T Q))
   else Exit.then T Q .normal (a.put (ops.getD i default).dst undef) w:=hk
 unfold wpOp
 simp only [hi]
 split
 ·
  rename_i hw
  rw [if_pos hw] at hk
  rcases hk with hk | ⟨h1,h2⟩
  ·
   exact .inl (Oper.wp_mono (fun a' w' h'=>hT a' w' h') (Oper.wp_then hk))
  ·
   exact .inr ⟨h1,h2⟩
 ·
  rename_i hw
  rw [if_neg hw] at hk
  exact hT _ _ hk
theorem s_pure {n:Nat} {L:Array Bool->Act->World->Prop} (hs:Region.noSelect ops=true) (hQ:∀ c (a:Act) d v w,Q (.panic c) (a.put d v) w->Q (.panic c) a w)
  (hwait:∀ i,i < n->∀ listed,HeadInv md ops n listed->listed.getD i true=false->∀ j∈Region.ready md ops listed,j < n)
  (hL:∀ listed a w w',E w w'->L listed a w->L listed a w') (hdone:∀ listed a w,L listed a w->∀ j∈Region.ready md ops listed,n<=j)
  {k:Array Bool->Bool} {K:Act->Prop} {w:World} {f:Nat} (hK:∀ listed a,HeadInv md ops n listed->k listed=true->K a->sAny E S P md ops Q n L f listed a w) :
  ∀ (σ:List Nat) (listed:Array Bool) (a:Act),HeadInv md ops n listed->mixPureB md ops k σ listed=true->σ.all (decide <| · < n)=true->wpSQ E S P ops w K (opsAt ops σ) a->sAny E S P md ops Q n L (σ.length+f) listed a w
 | [],listed,a,inv,hB,_,h=>by rw [List.length_nil,Nat.zero_add]; exact hK listed a inv hB h
 | i::σ,listed,a,inv,hB,hn,h=>by
  simp only [mixPureB,Bool.and_eq_true] at hB
  obtain ⟨⟨hr,hf⟩,hB'⟩:=hB
  simp only [List.all_cons,Bool.and_eq_true,decide_eq_true_eq] at hn
  have hr':i∈Region.ready md ops listed:=by simpa using hr
  have hi:=Za7 hr'
  have h:if Region.wanted (ops.getD i default) (yielded ops a.tmps) then ∃ v,(∀ x:SW S w,(ops.getD i default).quietAt P a (E x.w) x.w v)/\wpSQ E S P ops w K (opsAt ops σ) (a.put (ops.getD i default).dst v) else wpSQ E S P ops w K (opsAt ops σ) (a.put (ops.getD i default).dst undef):=h
  rw [show (i::σ).length+f=(σ.length+f)+1 by simp; omega]
  by_cases hw:Region.wanted (ops.getD i default) (yielded ops a.tmps)=true
  ·
   rw [if_pos hw] at h
   obtain ⟨v,hv,h2⟩:=h
   exact sAny_first hi (Region.noSelect_spec hs) hQ (hwait i hn.1) hn.1 hL hdone _ listed a w inv (Region.free_spec hi hf) hr' (.inl ⟨hw,fun w' hw'=>hv ⟨w',hw'⟩⟩)
    (s_pure hs hQ hwait hL hdone hK σ _ _ (inv.set hr' hn.1) hB' hn.2 h2)
  ·
   rw [if_neg hw] at h
   exact sAny_first hi (Region.noSelect_spec hs) hQ (hwait i hn.1) hn.1 hL hdone _ listed a w inv (Region.free_spec hi hf) hr' (.inr ⟨by simpa using hw,rfl⟩)
    (s_pure hs hQ hwait hL hdone hK σ _ _ (inv.set hr' hn.1) hB' hn.2 h)
theorem s_any {n:Nat} {g:Array Bool->Bool} {T:Act->World->Prop} (hs:Region.noSelect ops=true) (hQ:∀ c (a:Act) d v w,Q (.panic c) (a.put d v) w->Q (.panic c) a w)
  (hwait:∀ i,i < n->∀ listed,HeadInv md ops n listed->listed.getD i true=false->∀ j∈Region.ready md ops listed,j < n)
  (hdone:∀ listed,g listed=true->∀ j∈Region.ready md ops listed,n<=j):∀ (t:STree) (N:Nat) (listed:Array Bool) (a:Act) (w:World),HeadInv md ops n listed ->
  sLen t=some N->sB md ops n g t listed=true->wpS E S P ops Q T t a w->sAny E S P md ops Q n (fun l a w=>g l=true/\∀ w',E w w'->T a w') N listed a w
 | .fin ps,N,listed,a,w,inv,hN,hB,h=>by
  obtain rfl:ps.length=N:=by simpa [sLen] using hN
  simp only [sB,Bool.and_eq_true] at hB
  exact s_pure (f:=0) (k:=g) (K:=fun a'=>∀ w',E w w'->T a' w') hs hQ hwait (fun _ _ _ _ e h=>⟨h.1,fun w' e'=>h.2 w' (hE.trans e e')⟩) (fun l a w h=>hdone l h.1) (fun l a _ hg hk=>by unfold sAny; exact ⟨hg,hk⟩) ps listed a inv hB.1 hB.2 h
 | .one ps i k,N,listed,a,w,inv,hN,hB,h=>by
  simp only [sLen,Option.map_eq_some_iff] at hN
  obtain ⟨m,hm,rfl⟩:=hN
  simp only [sB,Bool.and_eq_true,decide_eq_true_eq] at hB
  refine s_pure (f:=m+1) hs hQ hwait (fun _ _ _ _ e h=>⟨h.1,fun w' e'=>h.2 w' (hE.trans e e')⟩) (fun l a w h=>hdone l h.1) ?_ ps listed a inv hB.1.1 hB.1.2 h
  intro l a inv hl hk
  simp only [Bool.and_eq_true,decide_eq_true_eq] at hl
  obtain ⟨hr,hB'⟩:=hl
  refine ⟨by rw [hr]; simp,fun j hj=>?_⟩
  rw [hr] at hj
  obtain rfl:j=i:=by simpa using hj
  have hj':j∈Region.ready md ops l:=by rw [hr]; simp
  exact ⟨hB.2,fun w' hw'=>loudS hj' (fun a' w'' h'=>⟨h'.1,s_any hs hQ hwait hdone k m _ a' w'' (inv.set hj' hB.2) hm hB' h'.2⟩) (hk w' hw')⟩
 | .two ps i j k m,N,listed,a,w,inv,hN,hB,h=>by
  simp only [sLen] at hN
  split at hN
  ·
   rename_i n1 n2 hn hn'
   split at hN
   ·
    rename_i e
    subst e
    cases hN
    simp only [sB,Bool.and_eq_true,decide_eq_true_eq] at hB
    refine s_pure (f:=n1+1) hs hQ hwait (fun _ _ _ _ e h=>⟨h.1,fun w' e'=>h.2 w' (hE.trans e e')⟩) (fun l a w h=>hdone l h.1) ?_ ps listed a inv hB.1.1.1 hB.1.1.2 h
    intro l a inv hl hk
    simp only [Bool.and_eq_true,decide_eq_true_eq] at hl
    obtain ⟨⟨hr,hB1⟩,hB2⟩:=hl
    refine ⟨by rw [hr]; simp,fun q hq=>?_⟩
    have hq':=hq
    rw [hr] at hq
    have hq:q=i\/q=j:=by simpa using hq
    rcases hq with rfl | rfl
    ·
     exact ⟨hB.1.2,fun w' hw'=>loudS hq' (fun a' w'' h'=>⟨h'.1,s_any hs hQ hwait hdone k _ _ a' w'' (inv.set hq' hB.1.2) hn hB1 h'.2⟩) (hk w' hw').1⟩
    ·
     exact ⟨hB.2,fun w' hw'=>loudS hq' (fun a' w'' h'=>⟨h'.1,s_any hs hQ hwait hdone m _ _ a' w'' (inv.set hq' hB.2) hn' hB2 h'.2⟩) (hk w' hw').2⟩
   ·
    cases hN
  ·
   cases hN
theorem invS0 {n:Nat}:HeadInv md ops n (Array.replicate ops.size false) :=
 ⟨by simp,fun j oj _ hl=>(by rw [getD_replicate_false] at hl; cases hl),fun t _ ht=>getD_in (by simpa using ht) (getD_replicate_false _ _)⟩
theorem Zbf {id:Nat} {a:Act} {w:World} {l:List Oper} (n:Nat) (t:STree) (hm:P.follows .mixedOrders=true)
  (hB:(Region.noSelect l.toArray && decide (n < l.toArray.size) && Region.sinkB .any l.toArray n && Region.chainB .any l.toArray n && decide (sLen t=some n) &&
   sB .any l.toArray n (Region.seqB .any l.toArray (l.toArray.size - n) n) t (Array.replicate l.toArray.size false))=true)
  (hQ:∀ c (a:Act) d v w,Q (.panic c) (a.put d v) w->Q (.panic c) a w)
  (h:wpS E S P l.toArray Q (wpList P l.toArray Q (l.drop n)) t a w.drew):(Code.region id l.toArray true).wp P Q a w:=by
 simp only [Bool.and_eq_true,decide_eq_true_eq] at hB
 obtain ⟨⟨⟨⟨⟨h1,hn⟩,hs⟩,hc⟩,hN⟩,hB⟩:=hB
 refine wp_region_any hm ?_
 have hdl:(l.drop n).length=l.toArray.size - n:=by simp
 have H:=s_any (P:=P) (Q:=Q) (md:=.any) (n:=n) (T:=wpList P l.toArray Q (l.drop n)) h1 hQ
  (fun i hi listed inv hun j hj=>by
   rcases Nat.lt_or_ge j n with h | h
   ·
    exact h
   ·
    exact absurd hj (tail_waits hs hc hn inv _ i rfl hi hun j h))
  (fun listed hg=>seqB_ready hg) t n _ a w.drew invS0 hN hB h
 have:=sAny_wp (g:=l.toArray.size - n) (fun listed a' w' hL=>by
  have:=wpAny_of_seq (P:=P) (md:=.any) (Q':=Q) (l.drop n) n listed a' w' (fun j=>by simp [List.getElem?_drop]) (by rw [hdl]; exact hL.1) (hL.2 w' (hE.refl w'))
  rwa [hdl] at this) _ _ _ _ H
 rw [show n+(l.toArray.size - n)=l.toArray.size by omega] at this
 exact this
theorem Zau {id:Nat} {a:Act} {w:World} {l:List Oper} (t:STree) (hm:P.follows .mixedOrders=true)
  (hB:(Region.noSelect l.toArray && decide (sLen t=some l.toArray.size) &&
   sB .any l.toArray l.toArray.size (fun x=>(Region.ready .any l.toArray x).isEmpty) t (Array.replicate l.toArray.size false))=true)
  (hQ:∀ c (a:Act) d v w,Q (.panic c) (a.put d v) w->Q (.panic c) a w)
  (h:wpS E S P l.toArray Q (fun a w=>Q .normal a w) t a w.drew):(Code.region id l.toArray true).wp P Q a w:=by
 simp only [Bool.and_eq_true,decide_eq_true_eq] at hB
 obtain ⟨⟨h1,hN⟩,hB⟩:=hB
 refine wp_region_any hm ?_
 have H:=s_any (P:=P) (Q:=Q) (md:=.any) (n:=l.toArray.size) (T:=fun a w=>Q .normal a w) h1 hQ
  (fun i hi listed inv hun j hj=>by
   obtain ⟨_,o,ho,_⟩:=mem_ready.1 hj
   exact (Array.getElem?_eq_some_iff.1 ho).1)
  (fun listed hg j hj=>by
   have:Region.ready .any l.toArray listed=[]:=by simpa using hg
   rw [this] at hj; cases hj) t _ _ a w.drew invS0 hN hB h
 have:=sAny_wp (g:=0) (fun listed a' w' hL=>(⟨by simpa using hL.1,hL.2 w' (hE.refl w')⟩:wpAny P .any l.toArray Q 0 listed a' w')) _ _ _ _ H
 exact this
end
section
variable {P:Program} {Q:Exit->Act->World->Prop} {S:World->World->Prop} [hS:Pre S]
theorem Zan {id:Nat} {a:Act} {w:World} {l:List Oper} (n:Nat) (t:STree) (hm:P.follows .mixedOrders=true)
  (hB:(Region.noSelect l.toArray && decide (n < l.toArray.size) && Region.sinkB .any l.toArray n && Region.chainB .any l.toArray n && decide (sLen t=some n) &&
   sB .any l.toArray n (Region.seqB .any l.toArray (l.toArray.size - n) n) t (Array.replicate l.toArray.size false))=true)
  (hQ:∀ c (a:Act) d v w,Q (.panic c) (a.put d v) w->Q (.panic c) a w)
  (h:wpS S S P l.toArray Q (wpList P l.toArray Q (l.drop n)) t a w.drew):(Code.region id l.toArray true).wp P Q a w:=Zbf (E:=S) (S:=S) n t hm hB hQ h
theorem Zal {id:Nat} {a:Act} {w:World} {l:List Oper} (t:STree) (hm:P.follows .mixedOrders=true)
  (hB:(Region.noSelect l.toArray && decide (sLen t=some l.toArray.size) &&
   sB .any l.toArray l.toArray.size (fun x=>(Region.ready .any l.toArray x).isEmpty) t (Array.replicate l.toArray.size false))=true)
  (hQ:∀ c (a:Act) d v w,Q (.panic c) (a.put d v) w->Q (.panic c) a w)
  (h:wpS S S P l.toArray Q (fun a w=>Q .normal a w) t a w.drew):(Code.region id l.toArray true).wp P Q a w:=Zau (E:=S) (S:=S) t hm hB hQ h
end
end Go.Proofs.YtgjnnbomnoafcaaGreatDoor
namespace Go.Proofs.YtgjnnbomnoafcaaGreatDoor
set_option linter.unusedVariables false
open Go
section
variable {P:Program} {ops:Array Oper} {Q:Exit->Act->World->Prop} {md:Region.Mode}
def ExtW (w:World):Type:={w':World // Ext w w'}
instance (w:World):Nonempty (ExtW w):=⟨⟨w,Ext.refl w⟩⟩
def ExtW.w {w:World} (x:ExtW w):World:=x.1
theorem ExtW.ext {w:World} (x:ExtW w):Ext w x.w:=x.2
def YieldsE (P:Program) (ops:Array Oper) (w0:World) (o:Oper) (v:Value) (a:Act):Prop :=
 (Region.wanted o (yielded ops a.tmps)=true/\∀ w,Ext w0 w->o.quietAt P a (Ext w) w v)\/(Region.wanted o (yielded ops a.tmps)=false/\v=undef)
theorem YieldsE.mono {w0 w1:World} {o:Oper} {v:Value} {a:Act} (h:YieldsE P ops w0 o v a) (e:Ext w0 w1):YieldsE P ops w1 o v a :=
 h.imp (fun ⟨h1,h2⟩=>⟨h1,fun w hw=>h2 w (Ext.trans e hw)⟩) id
theorem YieldsE.of_same {w0:World} {o:Oper} {v:Value} {a a':Act} (hy:YieldsE P ops w0 o v a) (he:execOp a'.eval o=execOp a.eval o)
  (hw:Region.wanted o (yielded ops a'.tmps)=Region.wanted o (yielded ops a.tmps)):YieldsE P ops w0 o v a':=by
 unfold YieldsE Oper.quietAt at *
 rw [he,hw]
 exact hy
theorem YieldsE.wpOp {w0:World} {i:Nat} {o:Oper} {v:Value} {a:Act} (hi:ops[i]?=some o) (hy:YieldsE P ops w0 o v a) {w:World} (hw:Ext w0 w) {K:Act->World->Prop}
  (h:∀ w',Ext w w'->K (a.put o.dst v) w'):wpOp P ops Q i K a w:=by
 unfold Go.wpOp
 simp only [hi]
 rcases hy with ⟨hwt,hv⟩ | ⟨hwt,rfl⟩
 ·
  simp only [hwt,if_true]
  refine .inl ?_
  have h3:=hv w hw
  unfold Oper.quietAt at h3
  unfold Oper.wp
  generalize (execOp a.eval o).run P w=r at *
  cases r with
  | ok n w' =>
   cases n<;>simp only [Oper.quietUpon] at h3<;>simp only [Oper.upon]
   case value u=>obtain ⟨e1,e2⟩:=h3; rw [e1,e2]; exact h _ (Ext.refl _)
   case skip=>obtain ⟨e1,e2⟩:=h3; rw [e1,<- e2]; exact h _ (Ext.refl _)
   case enter f args =>
    obtain ⟨e1,hc⟩:=h3
    rw [e1]
    exact hc.mono fun e w'' ⟨he,hw''⟩=>by subst he; exact h _ hw''
  | halt x w'=>simp only [Oper.quietUpon] at h3
 ·
  simp only [hwt,Bool.false_eq_true,if_false]; exact h _ (Ext.refl _)
theorem wpOp_putE {w0:World} {j:Nat} {oi oj:Oper} {v:Value} (hj:ops[j]?=some oj) (hap:oi.apart ops oj=true)
  (hsi:∀ cs b,oi.op≠.select cs b) (hsj:∀ cs b,oj.op≠.select cs b)
  (hQ:∀ c a w,Q (.panic c) (a.put oi.dst v) w->Q (.panic c) a w) {K:Act->World->Prop} {a:Act} {w:World}
  (hy:YieldsE P ops w0 oi v a) (h:wpOp P ops Q j K (a.put oi.dst v) w) :
  wpOp P ops Q j (fun a' w'=>YieldsE P ops w0 oi v a'/\K (a'.put oi.dst v) w') a w:=by
 obtain ⟨h1,h2,h3⟩:=Oper.apart_spec hap
 have keep:∀ (a:Act),YieldsE P ops w0 oi v a->∀ u,YieldsE P ops w0 oi v (a.put oj.dst u):=fun a hy u =>
  hy.of_same (execOp_put oi hsi a oj.dst u h3) (wanted_put oi a oj.dst u h3)
 have keepD:∀ d,YieldsE P ops w0 oi v { a with defers:=d::a.defers }:=fun d=>hy.of_same rfl rfl
 unfold Go.wpOp at *
 simp only [hj] at *
 rw [wanted_put oj a oi.dst v h1] at h
 split
 ·
  rename_i hw
  simp only [hw,if_true] at h
  rcases h with h | ⟨hasks,hlets⟩
  case inr=>exact .inr ⟨by unfold Oper.asks at *; rw [execOp_put oj hsj a oi.dst v h1] at hasks; exact hasks,hlets⟩
  refine .inl ?_
  unfold Oper.wp at *
  rw [execOp_put oj hsj a oi.dst v h1] at h
  generalize (execOp a.eval oj).run P w=r at *
  cases r with
  | ok n w' =>
   cases n<;>simp only [Oper.upon] at h ⊢
   case value u=>exact ⟨keep a hy u,by rw [<- Act.put_comm a v u h2]; exact h⟩
   case skip=>exact ⟨keep a hy _,by rw [<- Act.put_comm a v undef h2]; exact h⟩
   case defer d =>
    refine ⟨keep _ (keepD d) _,?_⟩
    rw [<- Act.put_comm _ v undef h2,<- Act.put_defers]
    exact h
   case enter f args =>
    refine Calls.mono h fun e w'' he=>?_
    cases e with
    | returned u=>exact ⟨keep a hy u,by rw [<- Act.put_comm a v u h2]; exact he⟩
    | panicked c=>exact hQ _ _ _ he
    | outgrown=>exact he
   case row row args=>exact Rows.mono h fun u w'' he=>⟨keep a hy u,by rw [<- Act.put_comm a v u h2]; exact he⟩
  | halt x w' =>
   cases x<;>simp only [Oper.upon] at h ⊢
   case panic u=>exact hQ _ _ _ h
 ·
  rename_i hw
  simp only [hw] at h
  exact ⟨keep a hy _,by rw [<- Act.put_comm a v undef h2]; exact h⟩
def eAny (P:Program) (md:Region.Mode) (ops:Array Oper) (Q:Exit->Act->World->Prop) (n:Nat) (L:Array Bool->Act->World->Prop):Nat->Array Bool->Act->World->Prop
 | 0,listed,a,w=>L listed a w
 | f+1,listed,a,w=>Region.ready md ops listed≠[]/\∀ i∈Region.ready md ops listed,i < n ∧
   ∀ w',Ext w w'->wpOp P ops Q i (fun a'' w''=>Ext w' w''/\eAny P md ops Q n L f (listed.setIfInBounds i true) a'' w'') a w'
theorem eAny_wp {n g:Nat} {L:Array Bool->Act->World->Prop} (hL:∀ listed a w,L listed a w->wpAny P md ops Q g listed a w) :
  ∀ (f:Nat) (listed:Array Bool) (a:Act) (w:World),eAny P md ops Q n L f listed a w->wpAny P md ops Q (f+g) listed a w
 | 0,listed,a,w,h=>by rw [Nat.zero_add]; exact hL _ _ _ h
 | f+1,listed,a,w,h=>by
  rw [show f+1+g=(f+g)+1 by omega]
  exact ⟨fun h0=>absurd h0 h.1,fun i hi=>wpOp_mono (fun a' w' h'=>eAny_wp hL f _ a' w' h'.2) ((h.2 i hi).2 w (Ext.refl w))⟩
theorem eAny_ext {n:Nat} {L:Array Bool->Act->World->Prop} (hL:∀ listed a w w',Ext w w'->L listed a w->L listed a w') :
  ∀ (f:Nat) (listed:Array Bool) (a:Act) (w w':World),Ext w w'->eAny P md ops Q n L f listed a w->eAny P md ops Q n L f listed a w'
 | 0,listed,a,w,w',e,h=>hL _ _ _ _ e h
 | f+1,listed,a,w,w',e,h=>⟨h.1,fun i hi=>⟨(h.2 i hi).1,fun w2 e2=>(h.2 i hi).2 w2 (Ext.trans e e2)⟩⟩
theorem eAny_first {n i:Nat} {oi:Oper} {v:Value} {L:Array Bool->Act->World->Prop} (hi:ops[i]?=some oi) (hsel:∀ (j:Nat) (o:Oper) cs b,ops[j]?=some o->o.op≠.select cs b)
  (hQ:∀ c (a:Act) d v w,Q (.panic c) (a.put d v) w->Q (.panic c) a w)
  (hwait:∀ listed,HeadInv md ops n listed->listed.getD i true=false->∀ j∈Region.ready md ops listed,j < n) (hin:i < n)
  (hL:∀ listed a w w',Ext w w'->L listed a w->L listed a w')
  (hdone:∀ listed a w,L listed a w->∀ j∈Region.ready md ops listed,n<=j) :
  ∀ (f:Nat) (listed:Array Bool) (a:Act) (w:World),HeadInv md ops n listed ->
   (∀ j oj,ops[j]?=some oj->j≠i->listed.getD j true=false->(∀ e∈oj.after,Region.binds md e=true->e.on≠i)->oi.apart ops oj=true) ->
   i∈Region.ready md ops listed->YieldsE P ops w oi v a ->
   eAny P md ops Q n L f (listed.setIfInBounds i true) (a.put oi.dst v) w->eAny P md ops Q n L (f+1) listed a w:=by
 intro f
 induction f with
 | zero =>
  intro listed a w inv _ hr hy H
  have hun:=(mem_ready.1 hr).1
  refine ⟨fun h=>(by rw [h] at hr; cases hr),fun j hj=>⟨hwait _ inv hun j hj,fun w' hw'=>?_⟩⟩
  by_cases hji:j=i
  ·
   subst hji; exact hy.wpOp hi hw' fun w'' e=>⟨e,hL _ _ _ _ (Ext.trans hw' e) H⟩
  ·
   have h1:=hdone _ _ _ H j (ready_mono hj hji)
   have h2:=hwait _ inv hun j hj
   omega
 | succ f ih =>
  intro listed a w inv hfree hr hy H
  have hun:=(mem_ready.1 hr).1
  refine ⟨fun h=>(by rw [h] at hr; cases hr),fun j hj=>⟨hwait _ inv hun j hj,fun w' hw'=>?_⟩⟩
  have hjn:=hwait _ inv hun j hj
  by_cases hji:j=i
  ·
   subst hji; exact hy.wpOp hi hw' fun w'' e=>⟨e,eAny_ext hL _ _ _ _ _ (Ext.trans hw' e) H⟩
  ·
   have h1:=(H.2 j (ready_mono hj hji)).2 w' hw'
   obtain ⟨hjun,oj,hoj,hall⟩:=mem_ready.1 hj
   have hnot:∀ e∈oj.after,Region.binds md e=true->e.on≠i:=fun e he hb heq=>by
    have h1:=hall e he hb
    rw [heq,getD_both hun] at h1
    cases h1
   have h2:=wpOp_putE hoj (hfree j oj hoj hji hjun hnot) (fun cs b=>hsel i oi cs b hi) (fun cs b=>hsel j oj cs b hoj) (fun c a w h=>hQ c _ _ _ w h) hy h1
   have hfree':∀ k ok,ops[k]?=some ok->k≠i->(listed.setIfInBounds j true).getD k true=false ->
     (∀ e∈ok.after,Region.binds md e=true->e.on≠i)->oi.apart ops ok=true:=fun k ok hk hki hun hno=>by
    refine hfree k ok hk hki ?_ hno
    by_cases hjk:j=k
    ·
     subst hjk; exact hjun
    ·
     rw [getD_set_ne true hjk] at hun; exact hun
   refine wpOp_mono (fun a' w'' h3=>⟨h3.2.1,ih (listed.setIfInBounds j true) a' w'' (inv.set hj hjn) hfree' (ready_mono hr (Ne.symm hji)) (h3.1.mono (Ext.trans hw' h3.2.1)) ?_⟩) h2
   rw [Array.setIfInBounds_comm _ _ hji]
   exact h3.2.2
def wpEQ (P:Program) (ops:Array Oper) (w:World) (K:Act->Prop):List Oper->Act->Prop
 | [],a=>K a
 | o::rest,a=>if Region.wanted o (yielded ops a.tmps) then ∃ v,(∀ x:ExtW w,o.quietAt P a (Ext x.w) x.w v)/\wpEQ P ops w K rest (a.put o.dst v) else wpEQ P ops w K rest (a.put o.dst undef)
theorem wpEQ_nil {w:World} {K:Act->Prop} {a:Act} (h:K a):wpEQ P ops w K [] a:=h
theorem wpEQ_step {w:World} {K:Act->Prop} {a:Act} {o:Oper} {rest:List Oper}
  (h:∀ K':Act->Prop,(∀ a,wpEQ P ops w K rest a->K' a)->if Region.wanted o (yielded ops a.tmps) then ∃ v,(∀ x:ExtW w,o.quietAt P a (Ext x.w) x.w v)/\K' (a.put o.dst v) else K' (a.put o.dst undef)):wpEQ P ops w K (o::rest) a :=
 h _ (fun _ h=>h)
theorem wpEQ_build {w:World} {K:Act->Prop} {a:Act} {o:Oper} {rest:List Oper} (hgd:o.guard=none) (t:TypeId) (parts:Array (Nat × Operand)) (ho:o.op=.build t parts) (A:Array Value)
  (hb:P.built t (parts.map fun (i,x)=>(i,a.eval x)).toList=some A) (h:wpEQ P ops w K rest (a.put o.dst (.agg A))):wpEQ P ops w K (o::rest) a:=by
 have hw:Region.wanted o (yielded ops a.tmps)=true:=by unfold Region.wanted; rw [hgd]
 have h0:wpEQ P ops w K (o::rest) a=if Region.wanted o (yielded ops a.tmps) then ∃ v,(∀ x:ExtW w,o.quietAt P a (Ext x.w) x.w v)/\wpEQ P ops w K rest (a.put o.dst v) else wpEQ P ops w K rest (a.put o.dst undef):=rfl
 rw [h0,if_pos hw]
 refine ⟨_,fun x=>?_,h⟩
 unfold Oper.quietAt execOp
 simp only [ho,Sem.run_bind,run_build x.w t _ A hb,Result.andThen_ok]
 exact ⟨rfl,rfl⟩
inductive ETree where
 | fin (ps:List Nat)
 | one (ps:List Nat) (i:Nat) (k:ETree)
 | two (ps:List Nat) (i j:Nat) (k l:ETree)
def wpE (P:Program) (ops:Array Oper) (Q:Exit->Act->World->Prop) (T:Act->World->Prop):ETree->Act->World->Prop
 | .fin ps,a,w=>wpEQ P ops w (fun a'=>∀ w',Ext w w'->T a' w') (opsAt ops ps) a
 | .one ps i k,a,w=>wpEQ P ops w (fun a'=>∀ w',Ext w w'->wpList P ops (Exit.then (fun a'' w''=>Ext w' w''/\wpE P ops Q T k a'' w'') Q) [ops.getD i default] a' w') (opsAt ops ps) a
 | .two ps i j k l,a,w=>wpEQ P ops w (fun a'=>∀ w',Ext w w'->wpList P ops (Exit.then (fun a'' w''=>Ext w' w''/\wpE P ops Q T k a'' w'') Q) [ops.getD i default] a' w'/\wpList P ops (Exit.then (fun a'' w''=>Ext w' w''/\wpE P ops Q T l a'' w'') Q) [ops.getD j default] a' w') (opsAt ops ps) a
theorem wpE_loud {a:Act} {w':World} {o:Oper} {k:ETree} {T:Act->World->Prop}
  (h:∀ K:Act->World->Prop,(∀ a w,Ext w' w->wpE P ops Q T k a w->K a w)->wpList P ops (Exit.then K Q) [o] a w'):wpList P ops (Exit.then (fun a'' w''=>Ext w' w''/\wpE P ops Q T k a'' w'') Q) [o] a w' :=
 h _ (fun _ _ h1 h2=>⟨h1,h2⟩)
def eB (md:Region.Mode) (ops:Array Oper) (n:Nat) (g:Array Bool->Bool):ETree->Array Bool->Bool
 | .fin ps,listed=>mixPureB md ops g ps listed && ps.all (decide <| · < n)
 | .one ps i k,listed=>mixPureB md ops (fun l=>decide (Region.ready md ops l=[i]) && eB md ops n g k (l.setIfInBounds i true)) ps listed && ps.all (decide <| · < n) && decide (i < n)
 | .two ps i j k m,listed=>mixPureB md ops (fun l=>decide (Region.ready md ops l=[i,j]) && eB md ops n g k (l.setIfInBounds i true) && eB md ops n g m (l.setIfInBounds j true)) ps listed && ps.all (decide <| · < n) && decide (i < n) && decide (j < n)
def eLen:ETree->Option Nat
 | .fin ps=>some ps.length
 | .one ps _ k=>(eLen k).map fun n=>ps.length+(n+1)
 | .two ps _ _ k l=>match eLen k,eLen l with
  | some n,some m=>if n=m then some (ps.length+(n+1)) else none
  | _,_=>none
theorem loudE {i:Nat} {l:Array Bool} {a:Act} {w:World} {T K:Act->World->Prop} (hi':i∈Region.ready md ops l)
  (hT:∀ a' w',T a' w'->K a' w') (hk:wpList P ops (Exit.then T Q) [ops.getD i default] a w):wpOp P ops Q i K a w:=by
 have hi:=Za7 hi'
 have hk:if Region.wanted (ops.getD i default) (yielded ops a.tmps) then
   (ops.getD i default).wp P a w (fun a w=>Exit.then T Q .normal a w) (Exit.then T Q)\/((ops.getD i default).asks P a w/\LetsOut (Exit.then T Q))
   else Exit.then T Q .normal (a.put (ops.getD i default).dst undef) w:=hk
 unfold wpOp
 simp only [hi]
 split
 ·
  rename_i hw
  rw [if_pos hw] at hk
  rcases hk with hk | ⟨h1,h2⟩
  ·
   exact .inl (Oper.wp_mono (fun a' w' h'=>hT a' w' h') (Oper.wp_then hk))
  ·
   exact .inr ⟨h1,h2⟩
 ·
  rename_i hw
  rw [if_neg hw] at hk
  exact hT _ _ hk
theorem e_pure {n:Nat} {L:Array Bool->Act->World->Prop} (hs:Region.noSelect ops=true) (hQ:∀ c (a:Act) d v w,Q (.panic c) (a.put d v) w->Q (.panic c) a w)
  (hwait:∀ i,i < n->∀ listed,HeadInv md ops n listed->listed.getD i true=false->∀ j∈Region.ready md ops listed,j < n)
  (hL:∀ listed a w w',Ext w w'->L listed a w->L listed a w') (hdone:∀ listed a w,L listed a w->∀ j∈Region.ready md ops listed,n<=j)
  {k:Array Bool->Bool} {K:Act->Prop} {w:World} {f:Nat} (hK:∀ listed a,HeadInv md ops n listed->k listed=true->K a->eAny P md ops Q n L f listed a w) :
  ∀ (σ:List Nat) (listed:Array Bool) (a:Act),HeadInv md ops n listed->mixPureB md ops k σ listed=true->σ.all (decide <| · < n)=true->wpEQ P ops w K (opsAt ops σ) a->eAny P md ops Q n L (σ.length+f) listed a w
 | [],listed,a,inv,hB,_,h=>by rw [List.length_nil,Nat.zero_add]; exact hK listed a inv hB h
 | i::σ,listed,a,inv,hB,hn,h=>by
  simp only [mixPureB,Bool.and_eq_true] at hB
  obtain ⟨⟨hr,hf⟩,hB'⟩:=hB
  simp only [List.all_cons,Bool.and_eq_true,decide_eq_true_eq] at hn
  have hr':i∈Region.ready md ops listed:=by simpa using hr
  have hi:=Za7 hr'
  have h:if Region.wanted (ops.getD i default) (yielded ops a.tmps) then ∃ v,(∀ x:ExtW w,(ops.getD i default).quietAt P a (Ext x.w) x.w v)/\wpEQ P ops w K (opsAt ops σ) (a.put (ops.getD i default).dst v) else wpEQ P ops w K (opsAt ops σ) (a.put (ops.getD i default).dst undef):=h
  rw [show (i::σ).length+f=(σ.length+f)+1 by simp; omega]
  by_cases hw:Region.wanted (ops.getD i default) (yielded ops a.tmps)=true
  ·
   rw [if_pos hw] at h
   obtain ⟨v,hv,h2⟩:=h
   exact eAny_first hi (Region.noSelect_spec hs) hQ (hwait i hn.1) hn.1 hL hdone _ listed a w inv (Region.free_spec hi hf) hr' (.inl ⟨hw,fun w' hw'=>hv ⟨w',hw'⟩⟩)
    (e_pure hs hQ hwait hL hdone hK σ _ _ (inv.set hr' hn.1) hB' hn.2 h2)
  ·
   rw [if_neg hw] at h
   exact eAny_first hi (Region.noSelect_spec hs) hQ (hwait i hn.1) hn.1 hL hdone _ listed a w inv (Region.free_spec hi hf) hr' (.inr ⟨by simpa using hw,rfl⟩)
    (e_pure hs hQ hwait hL hdone hK σ _ _ (inv.set hr' hn.1) hB' hn.2 h)
theorem e_any {n:Nat} {g:Array Bool->Bool} {T:Act->World->Prop} (hs:Region.noSelect ops=true) (hQ:∀ c (a:Act) d v w,Q (.panic c) (a.put d v) w->Q (.panic c) a w)
  (hwait:∀ i,i < n->∀ listed,HeadInv md ops n listed->listed.getD i true=false->∀ j∈Region.ready md ops listed,j < n)
  (hdone:∀ listed,g listed=true->∀ j∈Region.ready md ops listed,n<=j):∀ (t:ETree) (N:Nat) (listed:Array Bool) (a:Act) (w:World),HeadInv md ops n listed ->
  eLen t=some N->eB md ops n g t listed=true->wpE P ops Q T t a w->eAny P md ops Q n (fun l a w=>g l=true/\∀ w',Ext w w'->T a w') N listed a w
 | .fin ps,N,listed,a,w,inv,hN,hB,h=>by
  obtain rfl:ps.length=N:=by simpa [eLen] using hN
  simp only [eB,Bool.and_eq_true] at hB
  exact e_pure (f:=0) (k:=g) (K:=fun a'=>∀ w',Ext w w'->T a' w') hs hQ hwait (fun _ _ _ _ e h=>⟨h.1,fun w' e'=>h.2 w' (Ext.trans e e')⟩) (fun l a w h=>hdone l h.1) (fun l a _ hg hk=>by unfold eAny; exact ⟨hg,hk⟩) ps listed a inv hB.1 hB.2 h
 | .one ps i k,N,listed,a,w,inv,hN,hB,h=>by
  simp only [eLen,Option.map_eq_some_iff] at hN
  obtain ⟨m,hm,rfl⟩:=hN
  simp only [eB,Bool.and_eq_true,decide_eq_true_eq] at hB
  refine e_pure (f:=m+1) hs hQ hwait (fun _ _ _ _ e h=>⟨h.1,fun w' e'=>h.2 w' (Ext.trans e e')⟩) (fun l a w h=>hdone l h.1) ?_ ps listed a inv hB.1.1 hB.1.2 h
  intro l a inv hl hk
  simp only [Bool.and_eq_true,decide_eq_true_eq] at hl
  obtain ⟨hr,hB'⟩:=hl
  refine ⟨by rw [hr]; simp,fun j hj=>?_⟩
  rw [hr] at hj
  obtain rfl:j=i:=by simpa using hj
  have hj':j∈Region.ready md ops l:=by rw [hr]; simp
  exact ⟨hB.2,fun w' hw'=>loudE hj' (fun a' w'' h'=>⟨h'.1,e_any hs hQ hwait hdone k m _ a' w'' (inv.set hj' hB.2) hm hB' h'.2⟩) (hk w' hw')⟩
 | .two ps i j k m,N,listed,a,w,inv,hN,hB,h=>by
  simp only [eLen] at hN
  split at hN
  ·
   rename_i n1 n2 hn hn'
   split at hN
   ·
    rename_i e
    subst e
    cases hN
    simp only [eB,Bool.and_eq_true,decide_eq_true_eq] at hB
    refine e_pure (f:=n1+1) hs hQ hwait (fun _ _ _ _ e h=>⟨h.1,fun w' e'=>h.2 w' (Ext.trans e e')⟩) (fun l a w h=>hdone l h.1) ?_ ps listed a inv hB.1.1.1 hB.1.1.2 h
    intro l a inv hl hk
    simp only [Bool.and_eq_true,decide_eq_true_eq] at hl
    obtain ⟨⟨hr,hB1⟩,hB2⟩:=hl
    refine ⟨by rw [hr]; simp,fun q hq=>?_⟩
    have hq':=hq
    rw [hr] at hq
    have hq:q=i\/q=j:=by simpa using hq
    rcases hq with rfl | rfl
    ·
     exact ⟨hB.1.2,fun w' hw'=>loudE hq' (fun a' w'' h'=>⟨h'.1,e_any hs hQ hwait hdone k _ _ a' w'' (inv.set hq' hB.1.2) hn hB1 h'.2⟩) (hk w' hw').1⟩
    ·
     exact ⟨hB.2,fun w' hw'=>loudE hq' (fun a' w'' h'=>⟨h'.1,e_any hs hQ hwait hdone m _ _ a' w'' (inv.set hq' hB.2) hn' hB2 h'.2⟩) (hk w' hw').2⟩
   ·
    cases hN
  ·
   cases hN
theorem inv0 {n:Nat}:HeadInv md ops n (Array.replicate ops.size false) :=
 ⟨by simp,fun j oj _ hl=>(by rw [getD_replicate_false] at hl; cases hl),fun t _ ht=>getD_in (by simpa using ht) (getD_replicate_false _ _)⟩
theorem wp_region_held_tail {id:Nat} {a:Act} {w:World} {l:List Oper} (n:Nat) (t:ETree) (hm:P.follows .mixedOrders=true)
  (hB:(Region.noSelect l.toArray && decide (n < l.toArray.size) && Region.sinkB .any l.toArray n && Region.chainB .any l.toArray n && decide (eLen t=some n) &&
   eB .any l.toArray n (Region.seqB .any l.toArray (l.toArray.size - n) n) t (Array.replicate l.toArray.size false))=true)
  (hQ:∀ c (a:Act) d v w,Q (.panic c) (a.put d v) w->Q (.panic c) a w)
  (h:wpE P l.toArray Q (wpList P l.toArray Q (l.drop n)) t a w.drew):(Code.region id l.toArray true).wp P Q a w:=by
 simp only [Bool.and_eq_true,decide_eq_true_eq] at hB
 obtain ⟨⟨⟨⟨⟨h1,hn⟩,hs⟩,hc⟩,hN⟩,hB⟩:=hB
 refine wp_region_any hm ?_
 have hdl:(l.drop n).length=l.toArray.size - n:=by simp
 have H:=e_any (P:=P) (Q:=Q) (md:=.any) (n:=n) (T:=wpList P l.toArray Q (l.drop n)) h1 hQ
  (fun i hi listed inv hun j hj=>by
   rcases Nat.lt_or_ge j n with h | h
   ·
    exact h
   ·
    exact absurd hj (tail_waits hs hc hn inv _ i rfl hi hun j h))
  (fun listed hg=>seqB_ready hg) t n _ a w.drew inv0 hN hB h
 have:=eAny_wp (g:=l.toArray.size - n) (fun listed a' w' hL=>by
  have:=wpAny_of_seq (P:=P) (md:=.any) (Q':=Q) (l.drop n) n listed a' w' (fun j=>by simp [List.getElem?_drop]) (by rw [hdl]; exact hL.1) (hL.2 w' (Ext.refl w'))
  rwa [hdl] at this) _ _ _ _ H
 rw [show n+(l.toArray.size - n)=l.toArray.size by omega] at this
 exact this
end
end Go.Proofs.YtgjnnbomnoafcaaGreatDoor
namespace Go.Proofs.YtgjnnbomnoafcaaGreatDoor
set_option linter.unusedVariables false
open Go.RowKit
def within (n lo hi:Int):Int:=lo+n % (hi - lo+1)
theorem Zbl (n lo hi:Int) (h:lo<=hi):lo<=within n lo hi/\within n lo hi<=hi:=by
 unfold within
 have h1:=Int.emod_lt_of_pos n (show 0 < hi - lo+1 by omega)
 have h2:=Int.emod_nonneg n (show hi - lo+1≠0 by omega)
 omega
theorem emod_of_neg (n m:Int) (hm:0 < m) (h:n.tmod m < 0):n % m=n.tmod m+m:=by
 rcases tmod_cases n m hm with ⟨_,e⟩ | ⟨_,e⟩
 ·
  have:=Int.emod_nonneg n (show m≠0 by omega); omega
 ·
  have h1:=Int.emod_lt_of_pos (-n) hm
  have h2:=Int.emod_nonneg (-n) (show m≠0 by omega)
  have h3:=Int.mul_ediv_add_emod (-n) m
  rw [e] at h ⊢
  have h4:n=(m - (-n) % m)+m*(-((-n) / m) - 1):=by
   rw [Int.mul_sub,Int.mul_neg]; omega
  conv=>lhs; rw [h4]
  rw [Int.add_mul_emod_self_left,Int.emod_eq_of_lt (by omega) (by omega)]; omega
theorem emod_of_nonneg (n m:Int) (hm:0 < m) (h:0<=n.tmod m):n % m=n.tmod m:=by
 rcases tmod_cases n m hm with ⟨_,e⟩ | ⟨_,e⟩
 ·
  exact e.symm
 ·
  have h2:=Int.emod_nonneg (-n) (show m≠0 by omega)
  have h5:(-n) % m=0:=by omega
  have h6:n % m=0:=by
   have:=Int.emod_emod_of_dvd (-n) (Int.dvd_refl m)
   have h7:=Int.dvd_of_emod_eq_zero h5
   exact Int.emod_eq_zero_of_dvd ((Int.dvd_neg).1 h7)
  omega
set_option maxHeartbeats 400000 in
theorem Zb7 (n lo hi:Int) (w:World) (h1:-1000000<=lo) (h2:lo<=hi) (h3:hi<=1000000) :
  Calls Tryz.prog 12 #[.int .i64 n,.int .i64 lo,.int .i64 hi] w fun e w'=>e=.returned (.int .i64 (within n lo hi))/\w=w':=by
 have hb:=tmod_bd n (hi - lo+1) (by omega)
 by_cases hn:n.tmod (hi - lo+1) < 0
 ·
  have HW:Hid (within n lo hi=lo+(n.tmod (hi - lo+1)+hi - lo+1)):=by
   refine hid ?_
   unfold within
   rw [emod_of_neg n _ (by omega) hn]; omega
  go_enter Tryz.func12,Tryz.ntmps12
  go_wp2
  go_ret
  exact ⟨ret_int HW.out.symm,rfl⟩
 ·
  have HW:Hid (within n lo hi=lo+n.tmod (hi - lo+1)):=by
   refine hid ?_
   unfold within
   rw [emod_of_nonneg n _ (by omega) (by omega)]
  go_enter Tryz.func12,Tryz.ntmps12
  go_wp2
  go_ret
  exact ⟨ret_int HW.out.symm,rfl⟩
def bv (x:Nat):Value:=.int .u8 x
def nth (l:List Nat) (i:Nat):Nat:=l.getD i 0
theorem Za0 {l:List Nat} {i:Nat} (h:i < l.length):nth l i=l[i]:=by simp [nth,h]
theorem Zay {l:List Nat} (h:∀ x∈l,x < 256) (i:Nat):nth l i < 256:=by
 by_cases hi:i < l.length
 ·
  rw [Za0 hi]; exact h _ (List.getElem_mem hi)
 ·
  simp [nth,Nat.not_lt.1 hi]
theorem Zbq {l m:List Nat} (hl:l.length=m.length) (h:∀ i,i < l.length->nth l i=nth m i):l=m:=by
 apply List.ext_getElem hl
 intro i h1 h2
 have:=h i h1
 rwa [Za0 h1,Za0 h2] at this
structure BytesAt (w:World) (a:Option Addr) (n:Nat) (l:List Nat):Prop where
 len:l.length=n
 small:n<=140737488355328
 byte:∀ x∈l,x < 256
 cells:n=0\/∃ b off,a=some ⟨b,off,none⟩/\∀ i,i < n->w.cell? ⟨b,off+i,none⟩=some (.int .u8 (nth l i))
theorem BytesAt.ext {w w':World} {a:Option Addr} {n:Nat} {l:List Nat} (h:BytesAt w a n l) (e:Ext w w'):BytesAt w' a n l:=by
 refine ⟨h.len,h.small,h.byte,?_⟩
 rcases h.cells with h | ⟨b,off,rfl,hc⟩
 ·
  exact .inl h
 ·
  exact .inr ⟨b,off,rfl,fun i hi=>e.cell (hc i hi)⟩
def inBlock (a:Option Addr) (k:Nat):Prop:=∃ p,a=some p/\p.block=k
theorem BytesAt.only {F:Nat->Prop} {w w':World} {a:Option Addr} {n:Nat} {l:List Nat} (h:BytesAt w a n l) (e:Only F w w') (hn:∀ k,0 < n->inBlock a k->¬F k):BytesAt w' a n l:=by
 refine ⟨h.len,h.small,h.byte,?_⟩
 rcases h.cells with h | ⟨b,off,rfl,hc⟩
 ·
  exact .inl h
 ·
  exact .inr ⟨b,off,rfl,fun i hi=>e.cell (hc i hi) (hn b (by omega) ⟨_,rfl,rfl⟩)⟩
theorem BytesAt.get {w:World} {b off n:Nat} {l:List Nat} (h:BytesAt w (some ⟨b,off,none⟩) n l) (i:Nat) (hi:i < n):w.cell? ⟨b,off+i,none⟩=some (.int .u8 (nth l i)):=by
 rcases h.cells with h0 | ⟨b2,o2,e,hc⟩
 ·
  omega
 ·
  cases e; exact hc i hi
end Go.Proofs.YtgjnnbomnoafcaaGreatDoor
namespace Go
set_option linter.unusedVariables false
section
variable {P:Program}
def AggType (P:Program) (ty:TypeId) (n:Nat):Prop:=(match P.underlying ty with | some (.struct _) | some (.array _ _)=>true | _=>false)=true/\(P.info? ty).map (·.size)=some n
theorem run_isAgg {ty:TypeId} {n:Nat} (h:AggType P ty n) (w:World):(isAgg ty).run P w=.ok true w:=by
 have h1:=h.1
 unfold isAgg
 cases hu:P.underlying ty with
 | none=>rw [hu] at h1; cases h1
 | some d =>
  rw [hu] at h1
  simp only [Sem.run_bind,run_underlying hu,Result.andThen_ok]
  cases d<;>first | rfl | cases h1
theorem run_sizeOf_agg {ty:TypeId} {n:Nat} (h:AggType P ty n) (w:World):(sizeOf ty).run P w=.ok n w:=by
 have h2:=h.2
 cases hi:P.info? ty with
 | none=>rw [hi] at h2; cases h2
 | some i =>
  rw [hi] at h2
  have:i.size=n:=by simpa using h2
  simp [sizeOf,typeInfo,hi,this]
theorem Zbc (w:World) (ty:TypeId) (ad:Addr) (A:Array Value) (ht:AggType P ty A.size) (hc:∀ j v,A.toList[j]?=some v->w.cell? (ad.add j)=some v) :
  (loadVar ty ad).run P w=.ok (.agg A) w:=by
 have hl:=run_loadCells_list (P:=P) w ad A.toList hc
 rw [Array.length_toList] at hl
 unfold loadVar
 simp only [Sem.run_bind,run_isAgg ht,run_sizeOf_agg ht,Result.andThen_ok,if_true,hl]
 rfl
theorem wp_load_agg {o:Oper} {a:Act} {w:World} {K:Act->World->Prop} {Q:Exit->Act->World->Prop} (ty:TypeId) (x:Operand) (ho:o.op=.load ty x)
  (ad:Addr) (hx:a.eval x=.pointer (some ad)) (A:Array Value) (ht:AggType P ty A.size) (hc:∀ j v,A.toList[j]?=some v->w.cell? (ad.add j)=some v)
  (h:K (a.put o.dst (.agg A)) w):o.wp P a w K Q:=by
 unfold Oper.wp execOp
 simp only [ho,hx,Instr.loadAt,Instr.sureAddr,Sem.run_bind,Sem.run_pure,Result.andThen_ok,Zbc w ty ad A ht hc]
 exact h
theorem Zae {ops:Array Oper} {rest:List Oper} {o:Oper} {a:Act} {w:World} {Q:Exit->Act->World->Prop} (hgd:o.guard=none) (ty:TypeId) (x:Operand) (ho:o.op=.load ty x)
  (ad:Addr) (hx:a.eval x=.pointer (some ad)) (A:Array Value) (ht:AggType P ty A.size) (hc:∀ j v,A.toList[j]?=some v->w.cell? (ad.add j)=some v)
  (h:wpList P ops Q rest (a.put o.dst (.agg A)) w):wpList P ops Q (o::rest) a w :=
 wpList_plain hgd fun _ hK=>wp_load_agg ty x ho ad hx A ht hc (hK _ _ h)
theorem run_storeVar_agg (w:World) (ty:TypeId) (g off:Nat) (A cur:Array Value) (t:TypeId) (ht:AggType P ty A.size) (hg:w.heap[g]?=some (.cells cur t (0,0))) (hfit:off+A.size<=cur.size)
  (h1:∀ v∈A.toList,v.oneCell'=true):(storeVar ty ⟨g,off,none⟩ (.agg A)).run P w=.ok () (w.setRow g (cur.toList.take off++A.toList++cur.toList.drop (off+A.size)).toArray):=by
 have hs:=run_storeCells_at P g off t A.toList 0 cur w hg (by rw [Array.length_toList]; omega) h1
 rw [Nat.add_zero,Array.length_toList] at hs
 unfold storeVar
 simp only [Sem.run_bind,run_sizeOf_agg ht,Result.andThen_ok,Value.cells,ne_eq,not_true_eq_false,if_false,hs]
theorem wp_store_agg {o:Oper} {a:Act} {w:World} {K:Act->World->Prop} {Q:Exit->Act->World->Prop} (ty:TypeId) (x y:Operand) (ho:o.op=.store ty x y)
  (g off:Nat) (hx:a.eval x=.pointer (some ⟨g,off,none⟩)) (A cur:Array Value) (hy:a.eval y=.agg A) (t:TypeId) (ht:AggType P ty A.size) (hg:w.heap[g]?=some (.cells cur t (0,0))) (hfit:off+A.size<=cur.size)
  (h1:∀ v∈A.toList,v.oneCell'=true) (h:K (a.put o.dst undef) (w.setRow g (cur.toList.take off++A.toList++cur.toList.drop (off+A.size)).toArray)):o.wp P a w K Q:=by
 unfold Oper.wp execOp
 simp only [ho,hx,hy,Instr.storeAt,Instr.sureAddr,Sem.run_bind,Sem.run_pure,Result.andThen_ok,run_storeVar_agg w ty g off A cur t ht hg hfit h1]
 exact h
theorem wpList_store_agg {ops:Array Oper} {rest:List Oper} {o:Oper} {a:Act} {w:World} {Q:Exit->Act->World->Prop} (hgd:o.guard=none) (ty:TypeId) (x y:Operand) (ho:o.op=.store ty x y)
  (g off:Nat) (hx:a.eval x=.pointer (some ⟨g,off,none⟩)) (A cur:Array Value) (hy:a.eval y=.agg A) (t:TypeId) (ht:AggType P ty A.size) (hg:w.heap[g]?=some (.cells cur t (0,0))) (hfit:off+A.size<=cur.size)
  (h1:∀ v∈A.toList,v.oneCell'=true) (h:wpList P ops Q rest (a.put o.dst undef) (w.setRow g (cur.toList.take off++A.toList++cur.toList.drop (off+A.size)).toArray)):wpList P ops Q (o::rest) a w :=
 wpList_plain hgd fun _ hK=>wp_store_agg ty x y ho g off hx A cur hy t ht hg hfit h1 (hK _ _ h)
theorem Zab {ops:Array Oper} {rest:List Oper} {o:Oper} {a:Act} {w:World} {Q:Exit->Act->World->Prop} (hgd:o.guard=none) (ty:TypeId) (x y:Operand) (ho:o.op=.store ty x y)
  (g:Nat) (hx:a.eval x=.pointer (some ⟨g,0,none⟩)) (A cur:Array Value) (hy:a.eval y=.agg A) (t:TypeId) (ht:AggType P ty A.size) (hg:w.heap[g]?=some (.cells cur t (0,0))) (hfit:A.size=cur.size)
  (h1:∀ v∈A.toList,v.oneCell'=true) (h:wpList P ops Q rest (a.put o.dst undef) (w.setRow g A)):wpList P ops Q (o::rest) a w:=by
 refine wpList_store_agg hgd ty x y ho g 0 hx A cur hy t ht hg (by omega) h1 ?_
 have e:(cur.toList.take 0++A.toList++cur.toList.drop (0+A.size)).toArray=A:=by
  rw [List.take_zero,List.nil_append,Nat.zero_add,hfit,List.drop_of_length_le (by simp),List.append_nil]
 rw [e]; exact h
theorem Zak {fn:Func} {p u:Tmp} {ty t:TypeId} {g:Nat} {A:Array Value} {tmps:Array Value} {w:World} (h:fn.results=#[.cell p ty,.tmp u]) (hp:tmps.getD p undef=.pointer (some ⟨g,0,none⟩))
  (ht:AggType P ty A.size) (hg:w.heap[g]?=some (.cells A t (0,0))):(results fn tmps).run P w=.ok (.tuple #[.agg A,tmps.getD u undef]) w:=by
 rw [results_cell_tmp h,hp]
 have hl:=Zbc (P:=P) w ty ⟨g,0,none⟩ A ht (fun j v hv=>by
  have e:(⟨g,0,none⟩:Addr).add j=⟨g,j,none⟩:=by unfold Addr.add; split<;>simp_all
  rw [e]; simp only [World.cell?,hg]
  simpa using hv)
 show ((loadVar ty ⟨g,0,none⟩).run P w).andThen _=_
 rw [hl]
 rfl
theorem Zao (w:World) (c X:Array Value) (t:TypeId):(w.alloc (.cells c t)).setRow w.heap.size X=w.alloc (.cells X t):=by
 unfold World.setRow World.alloc
 congr 1
 apply Array.ext_getElem?
 intro j
 simp only [Array.getElem?_modify,Array.getElem?_push]
 by_cases hj:w.heap.size=j
 ·
  subst hj; simp
 ·
  rw [if_neg hj,if_neg (fun e=>hj e.symm),if_neg (fun e=>hj e.symm)]
end
end Go
namespace Go.Proofs.YtgjnnbomnoafcaaGreatDoor
set_option linter.unusedVariables false
open Go.RowKit
@[irreducible] def bA (l:List Nat):Array Value:=(l.map bv).toArray
theorem bA_def (l:List Nat):bA l=(l.map bv).toArray:=by unfold bA; rfl
theorem Za3 (l:List Nat):(bA l).size=l.length:=by rw [bA_def]; simp
theorem Zb5 (l:List Nat) (i:Nat) (h:i < l.length):(bA l)[i]?=some (.int .u8 (nth l i)):=by
 rw [bA_def]; simp [nth,h,bv]
theorem bA_set (l:List Nat) (i:Nat) (x:Nat):(bA l).setIfInBounds i (.int .u8 x)=bA (l.set i x):=by
 rw [bA_def,bA_def]; apply Array.ext'; simp [List.map_set,bv]
theorem nth_set (l:List Nat) (i j x:Nat):nth (l.set i x) j=if i=j/\i < l.length then x else nth l j:=by
 unfold nth; rw [List.getD_eq_getElem?_getD,List.getElem?_set,List.getD_eq_getElem?_getD]
 by_cases h:i=j
 ·
  subst h
  by_cases h2:i < l.length
  ·
   simp [h2]
  ·
   rw [if_pos rfl,if_neg h2,if_neg (by simp [h2])]; simp [Nat.not_lt.1 h2]
 ·
  rw [if_neg h,if_neg (by simp [h])]
theorem Zbd (l m:List Nat) (i:Nat):nth (l++m) i=if i < l.length then nth l i else nth m (i - l.length):=by
 unfold nth; simp only [List.getD_eq_getElem?_getD,List.getElem?_append]; split<;>rfl
theorem Zbu (l:List Nat) (n i:Nat):nth (l.take n) i=if i < n then nth l i else 0:=by
 unfold nth; simp only [List.getD_eq_getElem?_getD,List.getElem?_take]; split<;>rfl
theorem Zbw (l:List Nat) (n i:Nat):nth (l.drop n) i=nth l (n+i):=by
 unfold nth; simp only [List.getD_eq_getElem?_getD,List.getElem?_drop]
theorem info8:(Tryz.prog.info? 5).map (fun i=>(i.zero,i.size,i.bytes))=some (some (.int .u8 0),1,1):=by kernel_rfl
theorem Zbs (N:Int) (h0:0<=N) (h1:N<=140737488355328) (w:World) :
  Sem.run Tryz.prog (Instr.makeSlice 38 (.int .i64 N) (.int .i64 N)) w=.ok (.slice (some ⟨w.heap.size,0,none⟩) N.toNat N.toNat) (w.alloc (.cells (bA (List.replicate N.toNat 0)) 5)):=by
 obtain ⟨i0,hi,hz0,hz1,hz2⟩:=info_parts info8
 have h:=run_make (P:=Tryz.prog) w 38 5 i0 (.int .u8 0) Tryz.underlying38 hi hz0 .i64 .i64 N N h0 (Int.le_refl _) (by rw [hz2]; omega) (by omega)
 rw [h]
 have e:madeCells (Value.cells (.int .u8 0)) (N.toNat*i0.size)=bA (List.replicate N.toNat 0):=by
  rw [hz1,bA_def]
  apply Array.ext'
  show (madeCells #[.int .u8 0] (N.toNat*1)).toList=_
  rw [toList_madeCells_one,Nat.mul_one]; simp [bv]
 rw [e]
def Blk (w:World) (b:Nat) (l:List Nat):Prop:=w.heap[b]?=some (.cells (bA l) 5 (0,0))
theorem Blk.cell {w:World} {b:Nat} {l:List Nat} (h:Blk w b l) (i:Nat) (hi:i < l.length):w.cell? ⟨b,i,none⟩=some (.int .u8 (nth l i)):=by
 rw [Zaf h,Zb5 l i hi]
theorem Blk.free {w:World} {b:Nat} {l:List Nat} (h:Blk w b l) (i:Nat):w.frozen? ⟨b,i,none⟩=false:=Zax h
theorem Blk.bytes {w:World} {b n:Nat} {l:List Nat} (h:Blk w b l) (hb:∀ x∈l,x < 256) (hl:l.length=n) (hs:n<=140737488355328):BytesAt w (some ⟨b,0,none⟩) n l :=
 ⟨hl,hs,hb,.inr ⟨b,0,rfl,fun i hi=>by rw [Nat.zero_add]; exact h.cell i (by omega)⟩⟩
theorem Blk.owns {w:World} {b n:Nat} {l:List Nat} (h:Blk w b l) (hl:l.length=n) (hs:n<=140737488355328):w.ownsRow 0 5 1 (.slice (some ⟨b,0,none⟩) n n) n (l.map bv):=by
 refine ⟨by simp [hl],.inr ⟨b,n,bA l,rfl,Nat.zero_le _,h,Nat.le_refl _,by simp [maxLen]; omega,by rw [Za3]; omega,?_⟩⟩
 rw [bA_def]; show ((l.map bv).take (n*1))=_; rw [List.take_of_length_le (by simp; omega)]
theorem Blk.set {w:World} {b:Nat} {l:List Nat} (h:Blk w b l) (i x:Nat):Blk (w.setCell ⟨b,i,none⟩ (.int .u8 x)) b (l.set i x):=by
 unfold Blk; rw [<- bA_set]; exact Zar h _
theorem Blk.ext {w w':World} {b:Nat} {l:List Nat} (h:Blk w b l) (e:Ext w w'):Blk w' b l:=e.at h
def spl (L:List Nat) (off:Nat) (m:List Nat):List Nat:=L.take off++(m++L.drop (off+m.length))
theorem spl_len (L:List Nat) (off:Nat) (m:List Nat) (h:off+m.length<=L.length):(spl L off m).length=L.length:=by
 simp [spl]; omega
theorem Blk.setRow {W:World} {b:Nat} {L:List Nat} (h:Blk W b L) (l:List Nat):Blk (W.setRow b (bA l)) b l:=setRow_heap W b _ _ _ _ h
theorem Zah (W:World) (b:Nat) (X:Array Value):Only (fun k=>k=b) W (W.setRow b X) :=
 ⟨rfl,rfl,rfl,by simp,fun k _ hn=>setRow_other W b k X hn⟩
theorem copy_blk (W:World) (b off n c:Nat) (L l:List Nat) (a:Option Addr) (c':Nat) (hB:Blk W b L) (h:BytesAt W a n l) (hfit:off+n<=L.length) :
  Sem.run Tryz.prog (Builtin.copy_ #[38,38] 3 #[.slice (some ⟨b,off,none⟩) n c,.slice a n c']) W=.ok (.int .i64 n) (W.setRow b (bA (spl L off l))):=by
 obtain ⟨i0,hi,hz0,hz1,hz2⟩:=info_parts info8
 have hl:=h.len
 rcases h.cells with rfl | ⟨b',off',rfl,hc⟩
 ·
  obtain rfl:=List.length_eq_zero_iff.1 hl
  have e:W.setRow b (bA (spl L off []))=W:=by
   rw [show spl L off []=L by simp [spl]]; exact setRow_self W b _ _ _ hB
  rw [e]
  cases a<;>simp [loadCells,loadCellsFrom,Builtin.copy_,run_underlying Tryz.underlying38,Builtin.lenOf,Builtin.firstCells,sizeOf,typeInfo,hi,storeCells,goInt]
 ·
  have hr:=run_copy_row (P:=Tryz.prog) W 38 38 3 5 b off n c ⟨b',off',none⟩ n c' (bA L) 5 (l.map bv)
   Tryz.underlying38 (by rw [hi]; exact congrArg some hz1) hB (by rw [List.length_map,hl]; exact (Nat.min_self n).symm)
   (by
    intro j v hv
    rw [List.getElem?_map] at hv
    have hj:j < l.length:=by
     rcases Nat.lt_or_ge j l.length with h' | h'
     ·
      exact h'
     ·
      rw [List.getElem?_eq_none h'] at hv; cases hv
    rw [List.getElem?_eq_getElem hj] at hv
    have e:(⟨b',off',none⟩:Addr).add j=⟨b',off'+j,none⟩:=by unfold Addr.add; split<;>simp_all
    rw [e,hc j (by omega),Za0 hj]
    exact hv)
   (by rw [Za3,List.length_map]; omega) (by intro v hv; obtain ⟨x,_,rfl⟩:=List.mem_map.1 hv; rfl)
  rw [hr,List.length_map,hl]
  exact congrArg (fun X=>Result.ok (Value.int .i64 n) (W.setRow b X)) (by rw [bA_def,bA_def]; apply Array.ext'; simp [spl,hl,List.map_take,List.map_drop])
theorem owns_bytes {w:World} {b n cap:Nat} {l:List Nat} (h:w.ownsRow 0 5 1 (.slice (some ⟨b,0,none⟩) n cap) n (l.map bv)) (hb:∀ x∈l,x < 256) (hs:n<=140737488355328):BytesAt w (some ⟨b,0,none⟩) n l:=by
 have hl:l.length=n:=by simpa using h.1
 refine ⟨hl,hs,hb,.inr ⟨b,0,rfl,fun i hi=>?_⟩⟩
 rw [Nat.zero_add,h.cellAt i (by omega),List.getElem?_map,List.getElem?_eq_getElem (by omega),Za0 (by omega)]; rfl
theorem owns_base {w:World} {base b n cap:Nat} {l:List Value} (h:w.ownsRow base 5 1 (.slice (some ⟨b,0,none⟩) n cap) n l):w.ownsRow 0 5 1 (.slice (some ⟨b,0,none⟩) n cap) n l:=by
 refine ⟨h.1,?_⟩
 rcases h.2 with h' | ⟨g,c,cur,h1,h2,h3⟩
 ·
  exact .inl h'
 ·
  exact .inr ⟨g,c,cur,h1,Nat.zero_le _,h3⟩
theorem owns_only {F:Nat->Prop} {w w':World} {b n cap:Nat} {l:List Value} (h:w.ownsRow 0 5 1 (.slice (some ⟨b,0,none⟩) n cap) n l) (e:Only F w w') (hn:¬F b):w'.ownsRow 0 5 1 (.slice (some ⟨b,0,none⟩) n cap) n l:=by
 refine ⟨h.1,?_⟩
 rcases h.2 with h' | ⟨g,c,cur,h1,h2,h3,h4⟩
 ·
  exact .inl h'
 ·
  cases h1; exact .inr ⟨b,_,cur,rfl,Nat.zero_le _,e.at h3 hn,h4⟩
theorem owns_lt {w:World} {b n cap:Nat} {l:List Value} (h:w.ownsRow 0 5 1 (.slice (some ⟨b,0,none⟩) n cap) n l):b < w.heap.size:=(h.lt b rfl).2
theorem append_fresh_at (W:World) (g:Nat) (hg:W.heap[g]?=some (.cells #[] 5 (0,0))) (a:Option Addr) (n c:Nat) (l:List Nat) (h:BytesAt W a n l) :
  ∃ b cap W',Sem.run Tryz.prog (Builtin.append_ #[38,38] 38 #[.slice (some ⟨g,0,none⟩) 0 0,.slice a n c]) W=.ok (.slice (some ⟨b,0,none⟩) n cap) W' ∧
   W'.ownsRow 0 5 1 (.slice (some ⟨b,0,none⟩) n cap) n (l.map bv)/\Only (fun k=>k=g) W W'/\(b=g\/b=W.heap.size):=by
 obtain ⟨i0,hi,hz0,hz1,hz2⟩:=info_parts info8
 have hlt:=lt_of_block hg
 have hown:W.ownsRow g 5 1 (.slice (some ⟨g,0,none⟩) 0 0) 0 []:=⟨rfl,.inr ⟨g,0,#[],rfl,Nat.le_refl _,hg,Nat.le_refl _,Nat.zero_le _,rfl,rfl⟩⟩
 have hl:=h.len
 by_cases h0:n=0
 ·
  subst h0
  obtain rfl:=List.length_eq_zero_iff.1 hl
  refine ⟨g,0,W,?_,owns_base hown,Only.refl _ _,.inl rfl⟩
  cases a<;>simp [loadCells,loadCellsFrom,Builtin.append_,run_underlying Tryz.underlying38,sizeOf,typeInfo,hi,Builtin.lenOf,Builtin.firstCells,storeCells]
 ·
  rcases h.cells with h1 | ⟨b,off,rfl,hc⟩
  ·
   exact (h0 h1).elim
  ·
   obtain ⟨b',cap,W',h1,h2,h3,h4,h5⟩:=run_append_lies (P:=Tryz.prog) W 38 38 g 5 i0 (.int .u8 0) 1 1 Tryz.underlying38 hi hz0 hz1 hz2 rfl (by omega)
    (.slice (some ⟨g,0,none⟩) 0 0) 0 [] hown ⟨b,off,none⟩ n c (l.map bv) (by simp [hl])
    (by
     intro j v hv
     rw [List.getElem?_map] at hv
     have hj:j < l.length:=by
      rcases Nat.lt_or_ge j l.length with h' | h'
      ·
       exact h'
      ·
       rw [List.getElem?_eq_none h'] at hv; cases hv
     rw [List.getElem?_eq_getElem hj] at hv
     have e:(⟨b,off,none⟩:Addr).add j=⟨b,off+j,none⟩:=by unfold Addr.add; split<;>simp_all
     rw [e,hc j (by omega),Za0 hj]
     exact hv)
    (by intro v hv; obtain ⟨x,_,rfl⟩:=List.mem_map.1 hv; rfl) (by omega)
    (by have:=h.small; simp [maxLen]; omega) (by have:=h.small; omega) (by omega) _ rfl
   rw [Nat.zero_add] at h1 h2
   rw [List.nil_append] at h2
   refine ⟨b',cap,W',h1,owns_base h2,⟨h3.os,h3.tape,h3.output,h3.size,fun k hk hn=>h3.block k hk (by simpa [Value.ownBlock] using hn)⟩,?_⟩
   rcases h4 with h4 | h4
   ·
    exact .inl (by simpa [Value.ownBlock] using h4.symm)
   ·
    exact .inr h4
theorem Zbb (W:World) (g:Nat) (hg:W.heap[g]?=some (.cells #[] 5 (0,0))) (a:Option Addr) (n c:Nat) (l:List Nat) (h:BytesAt W a n l) :
  ∃ b cap W',Sem.run Tryz.prog (Builtin.append_ #[38,38] 38 #[.slice (some ⟨g,0,none⟩) 0 0,.slice a n c]) W=.ok (.slice (some ⟨b,0,none⟩) n cap) W' ∧
   W'.ownsRow 0 5 1 (.slice (some ⟨b,0,none⟩) n cap) n (l.map bv)/\Only (fun k=>k=g) W W'/\g<=b:=by
 obtain ⟨b,cap,W',h1,h2,h3,h4⟩:=append_fresh_at W g hg a n c l h
 have:=lt_of_block hg
 exact ⟨b,cap,W',h1,h2,h3,by omega⟩
end Go.Proofs.YtgjnnbomnoafcaaGreatDoor
namespace Go
set_option linter.unusedVariables false
section
variable {P:Program}
theorem wp_append_run {o:Oper} {a:Act} {w:World} {K:Act->World->Prop} {Q:Exit->Act->World->Prop} (s x:Operand) (t:TypeId)
  (ho:o.op=.call { callee:=.builtin .append,args:=#[s,x],argTypes:=#[t,t] }) (v1 v2 v:Value) (w':World) (hs:a.eval s=v1) (hx:a.eval x=v2)
  (hrun:Sem.run P (Builtin.append_ #[t,t] o.type #[v1,v2]) w=.ok v w') (hK:K (a.put o.dst v) w'):Oper.wp P o a w K Q:=by
 unfold Oper.wp
 simp [execOp,ho,resolve,invoke,builtin,hs,hx,hrun,Result.andThen]
 exact hK
theorem wpList_append_run {ops:Array Oper} {rest:List Oper} {o:Oper} {a:Act} {w:World} {Q:Exit->Act->World->Prop} (hgd:o.guard=none) (s x:Operand) (t:TypeId)
  (ho:o.op=.call { callee:=.builtin .append,args:=#[s,x],argTypes:=#[t,t] }) (v1 v2 v:Value) (w':World) (hs:a.eval s=v1) (hx:a.eval x=v2)
  (hrun:Sem.run P (Builtin.append_ #[t,t] o.type #[v1,v2]) w=.ok v w') (hK:wpList P ops Q rest (a.put o.dst v) w'):wpList P ops Q (o::rest) a w :=
 wpList_plain hgd fun _ h=>wp_append_run s x t ho v1 v2 v w' hs hx hrun (h _ _ hK)
end
end Go
