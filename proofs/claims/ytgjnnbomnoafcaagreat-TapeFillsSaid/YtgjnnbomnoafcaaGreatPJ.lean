/- Texts of one proof, joined: Blks, KBlks, SameBlk, Rely3, Rely4, PutT. -/
import Derived.Test.YtgjnnbomnoafcaaGreatPI
import Derived.Test.YtgjnnbomnoafcaaGreatPB
import Derived.Test.YtgjnnbomnoafcaaGreatPH
import Derived.Test.YtgjnnbomnoafcaaGreatPF
import Derived.Test.YtgjnnbomnoafcaaGreatPA
set_option linter.unusedVariables false
set_option linter.unusedSimpArgs false
namespace Go.Proofs.YtgjnnbomnoafcaaGreat
set_option linter.unusedVariables false
open Go Go.RowKit
theorem infoBlk:(Tryz.prog.info? 24).map (fun i=>(i.zero,i.size,i.bytes))=some (some (.agg (bA z108)),108,108):=by kernel_rfl
def BlksAt (w:World) (a:Option Addr) (l:List (List Nat)):Prop:=∀ i b,l[i]?=some b->∃ g,a=some ⟨g,0,none⟩/\∀ j,j < 108->w.cell? ⟨g,i*108+j,none⟩=some (.int .u8 (nth b j))
theorem BlksAt.ext {w w':World} {a:Option Addr} {l:List (List Nat)} (h:BlksAt w a l) (e:Ext w w'):BlksAt w' a l:=fun i b hb=>by
 obtain ⟨g,h1,h2⟩:=h i b hb
 exact ⟨g,h1,fun j hj=>Ext.cell e (h2 j hj)⟩
theorem BlksAt.only {w w':World} {a:Option Addr} {l:List (List Nat)} {F:Nat->Prop} (h:BlksAt w a l) (e:Only F w w') (hn:∀ g,a=some ⟨g,0,none⟩->¬F g):BlksAt w' a l:=fun i b hb=>by
 obtain ⟨g,h1,h2⟩:=h i b hb
 exact ⟨g,h1,fun j hj=>e.cell (h2 j hj) (hn g h1)⟩
theorem BlksAt.of_vs {w:World} {g:Nat} {l:List (List Nat)} (hl:∀ b∈l,b.length=108) (h:VsAt w g 108 (l.map bA)):BlksAt w (some ⟨g,0,none⟩) l:=fun i b hb=>by
 refine ⟨g,rfl,fun j hj=>h i (bA b) (by rw [List.getElem?_map,hb]; rfl) j _ ?_⟩
 have:=Zbf b j (by rw [hl b (List.mem_of_getElem? hb)]; exact hj)
 simpa using this
theorem BlksAt.lt {w:World} {a:Option Addr} {l:List (List Nat)} (h:BlksAt w a l) (hn:l≠[]):∀ g,a=some ⟨g,0,none⟩->g < w.heap.size:=fun g hg=>by
 rcases hl:l with _ | ⟨b,l'⟩
 ·
  exact absurd hl hn
 ·
  obtain ⟨g',hg',hc⟩:=h 0 b (by rw [hl]; rfl)
  rw [hg'] at hg
  cases hg
  exact World.block_lt_of_cell? w _ (hc 0 (by omega))
theorem kblocks_at {w:World} {B:Nat} {v:Value} {l:List (List Nat)} (hl:∀ b∈l,b.length=108) (h:OwnVs w B 24 108 v (l.map bA)):∃ a c,v=.slice a l.length c/\BlksAt w a l/\∀ g,a=some ⟨g,0,none⟩->B<=g:=by
 obtain ⟨a,c,e,q⟩:=h.slice
 rw [List.length_map] at e
 refine ⟨a,c,e,?_,?_⟩
 ·
  rcases q with ⟨q,_⟩ | ⟨g,rfl,_,_,_,hv⟩
  ·
   have:l=[]:=by simpa using q
   subst this
   intro i b hb; simp at hb
  ·
   exact BlksAt.of_vs hl hv
 ·
  intro g hg
  rcases q with ⟨_,q⟩ | ⟨g2,q,hb,_⟩
  ·
   rw [q] at hg; cases hg
  ·
   rw [q] at hg; cases hg; exact hb
theorem block_guardB:Tryz.prog.eqGuardType Tryz.prog.depth 24=false:=by kernel_rfl
theorem block_guard (op:BinOp) (x y:Operand) (xs ys:Array Value) (w:World):(eqGuard op 24 x y (.agg xs) (.agg ys)).run Tryz.prog w=.ok () w:=run_eqGuard_agg w op 24 x y xs ys block_guardB
attribute [local irreducible] wpSQ
end Go.Proofs.YtgjnnbomnoafcaaGreat
namespace Go.Proofs.YtgjnnbomnoafcaaGreat
set_option linter.unusedVariables false
set_option linter.unusedSectionVars false
open Go
section
variable {P:Program} {ops:Array Oper} {Q:Exit->Act->World->Prop} {md:Region.Mode} {E S:World->World->Prop} [hE:Pre E] [hS:Pre S] [hES:Within2 E S]
inductive TTree where
 | fin (ps:List Nat)
 | one (ps:List Nat) (i:Nat) (k:TTree)
 | two (ps:List Nat) (i j:Nat) (k l:TTree)
 | three (ps:List Nat) (i j h:Nat) (k l m:TTree)
def wpT (E S:World->World->Prop) (P:Program) (ops:Array Oper) (Q:Exit->Act->World->Prop) (T:Act->World->Prop):TTree->Act->World->Prop
 | .fin ps,a,w=>wpSQ E S P ops w (fun a'=>∀ w',E w w'->T a' w') (opsAt ops ps) a
 | .one ps i k,a,w=>wpSQ E S P ops w (fun a'=>∀ w',E w w'->wpList P ops (Exit.then (fun a'' w''=>S w' w''/\wpT E S P ops Q T k a'' w'') Q) [ops.getD i default] a' w') (opsAt ops ps) a
 | .two ps i j k l,a,w=>wpSQ E S P ops w (fun a'=>∀ w',E w w'->wpList P ops (Exit.then (fun a'' w''=>S w' w''/\wpT E S P ops Q T k a'' w'') Q) [ops.getD i default] a' w'/\wpList P ops (Exit.then (fun a'' w''=>S w' w''/\wpT E S P ops Q T l a'' w'') Q) [ops.getD j default] a' w') (opsAt ops ps) a
 | .three ps i j h k l m,a,w=>wpSQ E S P ops w (fun a'=>∀ w',E w w'->wpList P ops (Exit.then (fun a'' w''=>S w' w''/\wpT E S P ops Q T k a'' w'') Q) [ops.getD i default] a' w'/\wpList P ops (Exit.then (fun a'' w''=>S w' w''/\wpT E S P ops Q T l a'' w'') Q) [ops.getD j default] a' w'/\wpList P ops (Exit.then (fun a'' w''=>S w' w''/\wpT E S P ops Q T m a'' w'') Q) [ops.getD h default] a' w') (opsAt ops ps) a
theorem wpT_loud {a:Act} {w':World} {o:Oper} {k:TTree} {T:Act->World->Prop}
  (h:∀ K:Act->World->Prop,(∀ a w,S w' w->wpT E S P ops Q T k a w->K a w)->wpList P ops (Exit.then K Q) [o] a w'):wpList P ops (Exit.then (fun a'' w''=>S w' w''/\wpT E S P ops Q T k a'' w'') Q) [o] a w' :=
 h _ (fun _ _ h1 h2=>⟨h1,h2⟩)
def tB (md:Region.Mode) (ops:Array Oper) (n:Nat) (g:Array Bool->Bool):TTree->Array Bool->Bool
 | .fin ps,listed=>mixPureB md ops g ps listed && ps.all (decide <| · < n)
 | .one ps i k,listed=>mixPureB md ops (fun l=>decide (Region.ready md ops l=[i]) && tB md ops n g k (l.setIfInBounds i true)) ps listed && ps.all (decide <| · < n) && decide (i < n)
 | .two ps i j k m,listed=>mixPureB md ops (fun l=>decide (Region.ready md ops l=[i,j]) && tB md ops n g k (l.setIfInBounds i true) && tB md ops n g m (l.setIfInBounds j true)) ps listed && ps.all (decide <| · < n) && decide (i < n) && decide (j < n)
 | .three ps i j h k m t,listed=>mixPureB md ops (fun l=>decide (Region.ready md ops l=[i,j,h]) && tB md ops n g k (l.setIfInBounds i true) && tB md ops n g m (l.setIfInBounds j true) && tB md ops n g t (l.setIfInBounds h true)) ps listed && ps.all (decide <| · < n) && decide (i < n) && decide (j < n) && decide (h < n)
def tLen:TTree->Option Nat
 | .fin ps=>some ps.length
 | .one ps _ k=>(tLen k).map fun n=>ps.length+(n+1)
 | .two ps _ _ k l=>match tLen k,tLen l with
  | some n,some m=>if n=m then some (ps.length+(n+1)) else none
  | _,_=>none
 | .three ps _ _ _ k l t=>match tLen k,tLen l,tLen t with
  | some n,some m,some q=>if n=m/\n=q then some (ps.length+(n+1)) else none
  | _,_,_=>none
theorem t_any {n:Nat} {g:Array Bool->Bool} {T:Act->World->Prop} (hs:Region.noSelect ops=true) (hQ:∀ c (a:Act) d v w,Q (.panic c) (a.put d v) w->Q (.panic c) a w)
  (hwait:∀ i,i < n->∀ listed,HeadInv md ops n listed->listed.getD i true=false->∀ j∈Region.ready md ops listed,j < n)
  (hdone:∀ listed,g listed=true->∀ j∈Region.ready md ops listed,n<=j):∀ (t:TTree) (N:Nat) (listed:Array Bool) (a:Act) (w:World),HeadInv md ops n listed ->
  tLen t=some N->tB md ops n g t listed=true->wpT E S P ops Q T t a w->sAny E S P md ops Q n (fun l a w=>g l=true/\∀ w',E w w'->T a w') N listed a w
 | .fin ps,N,listed,a,w,inv,hN,hB,h=>by
  obtain rfl:ps.length=N:=by simpa [tLen] using hN
  simp only [tB,Bool.and_eq_true] at hB
  exact s_pure (f:=0) (k:=g) (K:=fun a'=>∀ w',E w w'->T a' w') hs hQ hwait (fun _ _ _ _ e h=>⟨h.1,fun w' e'=>h.2 w' (hE.trans e e')⟩) (fun l a w h=>hdone l h.1) (fun l a _ hg hk=>by unfold sAny; exact ⟨hg,hk⟩) ps listed a inv hB.1 hB.2 h
 | .one ps i k,N,listed,a,w,inv,hN,hB,h=>by
  simp only [tLen,Option.map_eq_some_iff] at hN
  obtain ⟨m,hm,rfl⟩:=hN
  simp only [tB,Bool.and_eq_true,decide_eq_true_eq] at hB
  refine s_pure (f:=m+1) hs hQ hwait (fun _ _ _ _ e h=>⟨h.1,fun w' e'=>h.2 w' (hE.trans e e')⟩) (fun l a w h=>hdone l h.1) ?_ ps listed a inv hB.1.1 hB.1.2 h
  intro l a inv hl hk
  simp only [Bool.and_eq_true,decide_eq_true_eq] at hl
  obtain ⟨hr,hB'⟩:=hl
  refine ⟨by rw [hr]; simp,fun j hj=>?_⟩
  rw [hr] at hj
  obtain rfl:j=i:=by simpa using hj
  have hj':j∈Region.ready md ops l:=by rw [hr]; simp
  exact ⟨hB.2,fun w' hw'=>loudS hj' (fun a' w'' h'=>⟨h'.1,t_any hs hQ hwait hdone k m _ a' w'' (inv.set hj' hB.2) hm hB' h'.2⟩) (hk w' hw')⟩
 | .two ps i j k m,N,listed,a,w,inv,hN,hB,h=>by
  simp only [tLen] at hN
  split at hN
  ·
   rename_i n1 n2 hn hn'
   split at hN
   ·
    rename_i e
    subst e
    cases hN
    simp only [tB,Bool.and_eq_true,decide_eq_true_eq] at hB
    refine s_pure (f:=n1+1) hs hQ hwait (fun _ _ _ _ e h=>⟨h.1,fun w' e'=>h.2 w' (hE.trans e e')⟩) (fun l a w h=>hdone l h.1) ?_ ps listed a inv hB.1.1.1 hB.1.1.2 h
    intro l a inv hl hk
    simp only [Bool.and_eq_true,decide_eq_true_eq] at hl
    obtain ⟨⟨hr,hB1⟩,hB2⟩:=hl
    refine ⟨by rw [hr]; simp,fun q hq=>?_⟩
    have hq':=hq
    rw [hr] at hq
    have hq:q=i\/q=j:=by simpa using hq
    rcases hq with rfl | rfl
    ·
     exact ⟨hB.1.2,fun w' hw'=>loudS hq' (fun a' w'' h'=>⟨h'.1,t_any hs hQ hwait hdone k _ _ a' w'' (inv.set hq' hB.1.2) hn hB1 h'.2⟩) (hk w' hw').1⟩
    ·
     exact ⟨hB.2,fun w' hw'=>loudS hq' (fun a' w'' h'=>⟨h'.1,t_any hs hQ hwait hdone m _ _ a' w'' (inv.set hq' hB.2) hn' hB2 h'.2⟩) (hk w' hw').2⟩
   ·
    cases hN
  ·
   cases hN
 | .three ps i j h k m t,N,listed,a,w,inv,hN,hB,hh=>by
  simp only [tLen] at hN
  split at hN
  ·
   rename_i n1 n2 n3 hn hn' hn''
   split at hN
   ·
    rename_i e
    obtain ⟨e,e'⟩:=e
    subst e; subst e'
    cases hN
    simp only [tB,Bool.and_eq_true,decide_eq_true_eq] at hB
    refine s_pure (f:=n1+1) hs hQ hwait (fun _ _ _ _ e h=>⟨h.1,fun w' e'=>h.2 w' (hE.trans e e')⟩) (fun l a w h=>hdone l h.1) ?_ ps listed a inv hB.1.1.1.1 hB.1.1.1.2 hh
    intro l a inv hl hk
    simp only [Bool.and_eq_true,decide_eq_true_eq] at hl
    obtain ⟨⟨⟨hr,hB1⟩,hB2⟩,hB3⟩:=hl
    refine ⟨by rw [hr]; simp,fun q hq=>?_⟩
    have hq':=hq
    rw [hr] at hq
    have hq:q=i\/q=j\/q=h:=by simpa using hq
    rcases hq with rfl | rfl | rfl
    ·
     exact ⟨hB.1.1.2,fun w' hw'=>loudS hq' (fun a' w'' h'=>⟨h'.1,t_any hs hQ hwait hdone k _ _ a' w'' (inv.set hq' hB.1.1.2) hn hB1 h'.2⟩) (hk w' hw').1⟩
    ·
     exact ⟨hB.1.2,fun w' hw'=>loudS hq' (fun a' w'' h'=>⟨h'.1,t_any hs hQ hwait hdone m _ _ a' w'' (inv.set hq' hB.1.2) hn' hB2 h'.2⟩) (hk w' hw').2.1⟩
    ·
     exact ⟨hB.2,fun w' hw'=>loudS hq' (fun a' w'' h'=>⟨h'.1,t_any hs hQ hwait hdone t _ _ a' w'' (inv.set hq' hB.2) hn'' hB3 h'.2⟩) (hk w' hw').2.2⟩
   ·
    cases hN
  ·
   cases hN
theorem wp_region_tree_all {id:Nat} {a:Act} {w:World} {l:List Oper} (t:TTree) (hm:P.follows .mixedOrders=true)
  (hB:(Region.noSelect l.toArray && decide (tLen t=some l.toArray.size) &&
   tB .any l.toArray l.toArray.size (fun x=>(Region.ready .any l.toArray x).isEmpty) t (Array.replicate l.toArray.size false))=true)
  (hQ:∀ c (a:Act) d v w,Q (.panic c) (a.put d v) w->Q (.panic c) a w)
  (h:wpT E S P l.toArray Q (fun a w=>Q .normal a w) t a w.drew):(Code.region id l.toArray true).wp P Q a w:=by
 simp only [Bool.and_eq_true,decide_eq_true_eq] at hB
 obtain ⟨⟨h1,hN⟩,hB⟩:=hB
 refine wp_region_any hm ?_
 have H:=t_any (P:=P) (Q:=Q) (md:=.any) (n:=l.toArray.size) (T:=fun a w=>Q .normal a w) h1 hQ
  (fun i hi listed inv hun j hj=>by
   obtain ⟨_,o,ho,_⟩:=mem_ready.1 hj
   exact (Array.getElem?_eq_some_iff.1 ho).1)
  (fun listed hg j hj=>by
   have:Region.ready .any l.toArray listed=[]:=by simpa using hg
   rw [this] at hj; cases hj) t _ _ a w.drew invS0 hN hB h
 have:=sAny_wp (g:=0) (fun listed a' w' hL=>(⟨by simpa using hL.1,hL.2 w' (hE.refl w')⟩:wpAny P .any l.toArray Q 0 listed a' w')) _ _ _ _ H
 exact this
end
end Go.Proofs.YtgjnnbomnoafcaaGreat
namespace Go.Proofs.YtgjnnbomnoafcaaGreat
set_option linter.unusedVariables false
set_option linter.unusedSectionVars false
open Go
section
variable {P:Program} {ops:Array Oper} {Q:Exit->Act->World->Prop} {md:Region.Mode} {E S:World->World->Prop} [hE:Pre E] [hS:Pre S] [hES:Within2 E S] {ld:Nat->Bool}
def relOf (E S:World->World->Prop) (ld:Nat->Bool) (i:Nat) (a b:World):Prop:=if ld i=true then S a b else E a b
theorem relOf_calm {i:Nat} {a b:World} (h:E a b):relOf E S ld i a b:=by
 unfold relOf
 split
 ·
  exact hES.sub h
 ·
  exact h
theorem relOf_sub {i:Nat} {a b:World} (h:relOf E S ld i a b):S a b:=by
 unfold relOf at h
 split at h
 ·
  exact h
 ·
  exact hES.sub h
def rAny (E S:World->World->Prop) (ld:Nat->Bool) (P:Program) (md:Region.Mode) (ops:Array Oper) (Q:Exit->Act->World->Prop) (n:Nat) (L:Array Bool->Act->World->Prop):Nat->Array Bool->Act->World->Prop
 | 0,listed,a,w=>L listed a w
 | f+1,listed,a,w=>Region.ready md ops listed≠[]/\∀ i∈Region.ready md ops listed,i < n ∧
   ∀ w',E w w'->wpOp P ops Q i (fun a'' w''=>relOf E S ld i w' w''/\rAny E S ld P md ops Q n L f (listed.setIfInBounds i true) a'' w'') a w'
theorem rAny_wp {n g:Nat} {L:Array Bool->Act->World->Prop} (hL:∀ listed a w,L listed a w->wpAny P md ops Q g listed a w) :
  ∀ (f:Nat) (listed:Array Bool) (a:Act) (w:World),rAny E S ld P md ops Q n L f listed a w->wpAny P md ops Q (f+g) listed a w
 | 0,listed,a,w,h=>by rw [Nat.zero_add]; exact hL _ _ _ h
 | f+1,listed,a,w,h=>by
  rw [show f+1+g=(f+g)+1 by omega]
  exact ⟨fun h0=>absurd h0 h.1,fun i hi=>wpOp_mono (fun a' w' h'=>rAny_wp hL f _ a' w' h'.2) ((h.2 i hi).2 w (hE.refl w))⟩
theorem rAny_ext {n:Nat} {L:Array Bool->Act->World->Prop} (hL:∀ listed a w w',E w w'->L listed a w->L listed a w') :
  ∀ (f:Nat) (listed:Array Bool) (a:Act) (w w':World),E w w'->rAny E S ld P md ops Q n L f listed a w->rAny E S ld P md ops Q n L f listed a w'
 | 0,listed,a,w,w',e,h=>hL _ _ _ _ e h
 | f+1,listed,a,w,w',e,h=>⟨h.1,fun i hi=>⟨(h.2 i hi).1,fun w2 e2=>(h.2 i hi).2 w2 (hE.trans e e2)⟩⟩
theorem rAny_first {T:World->World->Prop} [hTp:Pre T] [hET:Within2 E T] {n i:Nat} {oi:Oper} {v:Value} {L:Array Bool->Act->World->Prop} (hi:ops[i]?=some oi) (hsel:∀ (j:Nat) (o:Oper) cs b,ops[j]?=some o->o.op≠.select cs b)
  (hQ:∀ c (a:Act) d v w,Q (.panic c) (a.put d v) w->Q (.panic c) a w)
  (hwait:∀ listed,HeadInv md ops n listed->listed.getD i true=false->∀ j∈Region.ready md ops listed,j < n) (hin:i < n)
  (hL:∀ listed a w w',E w w'->L listed a w->L listed a w')
  (hdone:∀ listed a w,L listed a w->∀ j∈Region.ready md ops listed,n<=j)
  (hT:∀ j oj,ops[j]?=some oj->j≠i->(∀ e∈oj.after,Region.binds md e=true->e.on≠i)->∀ a b,relOf E S ld j a b->T a b) :
  ∀ (f:Nat) (listed:Array Bool) (a:Act) (w:World),HeadInv md ops n listed ->
   (∀ j oj,ops[j]?=some oj->j≠i->listed.getD j true=false->(∀ e∈oj.after,Region.binds md e=true->e.on≠i)->oi.apart ops oj=true) ->
   i∈Region.ready md ops listed->YieldsS E T P ops w oi v a ->
   rAny E S ld P md ops Q n L f (listed.setIfInBounds i true) (a.put oi.dst v) w->rAny E S ld P md ops Q n L (f+1) listed a w:=by
 intro f
 induction f with
 | zero =>
  intro listed a w inv _ hr hy H
  have hun:=(mem_ready.1 hr).1
  refine ⟨fun h=>(by rw [h] at hr; cases hr),fun j hj=>⟨hwait _ inv hun j hj,fun w' hw'=>?_⟩⟩
  by_cases hji:j=i
  ·
   subst hji; exact hy.wpOp hi (hET.sub hw') fun w'' e=>⟨relOf_calm e,hL _ _ _ _ (hE.trans hw' e) H⟩
  ·
   have h1:=hdone _ _ _ H j (ready_mono hj hji)
   have h2:=hwait _ inv hun j hj
   omega
 | succ f ih =>
  intro listed a w inv hfree hr hy H
  have hun:=(mem_ready.1 hr).1
  refine ⟨fun h=>(by rw [h] at hr; cases hr),fun j hj=>⟨hwait _ inv hun j hj,fun w' hw'=>?_⟩⟩
  have hjn:=hwait _ inv hun j hj
  by_cases hji:j=i
  ·
   subst hji; exact hy.wpOp hi (hET.sub hw') fun w'' e=>⟨relOf_calm e,rAny_ext hL _ _ _ _ _ (hE.trans hw' e) H⟩
  ·
   have h1:=(H.2 j (ready_mono hj hji)).2 w' hw'
   obtain ⟨hjun,oj,hoj,hall⟩:=mem_ready.1 hj
   have hnot:∀ e∈oj.after,Region.binds md e=true->e.on≠i:=fun e he hb heq=>by
    have h1:=hall e he hb
    rw [heq,getD_both hun] at h1
    cases h1
   have h2:=wpOp_putS (S:=T) hoj (hfree j oj hoj hji hjun hnot) (fun cs b=>hsel i oi cs b hi) (fun cs b=>hsel j oj cs b hoj) (fun c a w h=>hQ c _ _ _ w h) hy h1
   have hfree':∀ k ok,ops[k]?=some ok->k≠i->(listed.setIfInBounds j true).getD k true=false ->
     (∀ e∈ok.after,Region.binds md e=true->e.on≠i)->oi.apart ops ok=true:=fun k ok hk hki hun hno=>by
    refine hfree k ok hk hki ?_ hno
    by_cases hjk:j=k
    ·
     subst hjk; exact hjun
    ·
     rw [getD_set_ne true hjk] at hun; exact hun
   refine wpOp_mono (fun a' w'' h3=>⟨h3.2.1,ih (listed.setIfInBounds j true) a' w'' (inv.set hj hjn) hfree' (ready_mono hr (Ne.symm hji)) (h3.1.mono (hTp.trans (hET.sub hw') (hT j oj hoj hji hnot _ _ h3.2.1))) ?_⟩) h2
   rw [Array.setIfInBounds_comm _ _ hji]
   exact h3.2.2
def strongB (md:Region.Mode) (ops:Array Oper) (ld:Nat->Bool) (i:Nat):Bool:=(List.range ops.size).all fun j=>j == i || !ld j || ((ops[j]?).map fun o=>o.after.any fun e=>e.on == i && Region.binds md e).getD false
theorem strongB_spec {i:Nat} (h:strongB md ops ld i=true):∀ j oj,ops[j]?=some oj->j≠i->(∀ e∈oj.after,Region.binds md e=true->e.on≠i)->∀ a b,relOf E S ld j a b->E a b:=by
 intro j oj hj hne hno a b hr
 unfold strongB at h
 have hlt:j < ops.size:=(Array.getElem?_eq_some_iff.1 hj).1
 have h1:=List.all_eq_true.1 h j (List.mem_range.2 hlt)
 simp only [Bool.or_eq_true,beq_iff_eq,Bool.not_eq_true',hj,Option.map_some,Option.getD_some] at h1
 rcases h1 with (h1 | h1) | h1
 ·
  exact absurd h1 hne
 ·
  unfold relOf at hr
  rw [if_neg (by rw [h1]; simp)] at hr
  exact hr
 ·
  obtain ⟨e,he,h2⟩:=Array.any_eq_true'.1 h1
  simp only [Bool.and_eq_true,beq_iff_eq] at h2
  exact absurd h2.1 (hno e he h2.2)
inductive UTree where
 | fin (ps:List Nat)
 | one (ps:List Nat) (i:Nat) (k:UTree)
def wpU (E S:World->World->Prop) (P:Program) (ops:Array Oper) (Q:Exit->Act->World->Prop) (T:Act->World->Prop):UTree->Act->World->Prop
 | .fin ps,a,w=>wpSQ E S P ops w (fun a'=>∀ w',E w w'->T a' w') (opsAt ops ps) a
 | .one ps i k,a,w=>wpSQ E S P ops w (fun a'=>∀ w',E w w'->wpList P ops (Exit.then (fun a'' w''=>S w' w''/\wpU E S P ops Q T k a'' w'') Q) [ops.getD i default] a' w') (opsAt ops ps) a
theorem Zbw {a:Act} {w':World} {o:Oper} {k:UTree} {T:Act->World->Prop}
  (h:∀ K:Act->World->Prop,(∀ a w,S w' w->wpU E S P ops Q T k a w->K a w)->wpList P ops (Exit.then K Q) [o] a w'):wpList P ops (Exit.then (fun a'' w''=>S w' w''/\wpU E S P ops Q T k a'' w'') Q) [o] a w' :=
 h _ (fun _ _ h1 h2=>⟨h1,h2⟩)
def uB (md:Region.Mode) (ops:Array Oper) (ld:Nat->Bool) (n:Nat) (g:Array Bool->Bool):UTree->Array Bool->Bool
 | .fin ps,listed=>mixPureB md ops g ps listed && ps.all (decide <| · < n)
 | .one ps i k,listed=>mixPureB md ops (fun l=>decide (Region.ready md ops l=[i]) && uB md ops ld n g k (l.setIfInBounds i true)) ps listed && ps.all (decide <| · < n) && decide (i < n) && ld i
def uLen:UTree->Nat
 | .fin ps=>ps.length
 | .one ps _ k=>ps.length+(uLen k+1)
theorem u_pure {n:Nat} {L:Array Bool->Act->World->Prop} (hs:Region.noSelect ops=true) (hQ:∀ c (a:Act) d v w,Q (.panic c) (a.put d v) w->Q (.panic c) a w)
  (hwait:∀ i,i < n->∀ listed,HeadInv md ops n listed->listed.getD i true=false->∀ j∈Region.ready md ops listed,j < n)
  (hL:∀ listed a w w',E w w'->L listed a w->L listed a w') (hdone:∀ listed a w,L listed a w->∀ j∈Region.ready md ops listed,n<=j)
  {k:Array Bool->Bool} {K:Act->Prop} {w:World} {f:Nat} (hK:∀ listed a,HeadInv md ops n listed->k listed=true->K a->rAny E S ld P md ops Q n L f listed a w) :
  ∀ (σ:List Nat) (listed:Array Bool) (a:Act),HeadInv md ops n listed->mixPureB md ops k σ listed=true->σ.all (decide <| · < n)=true->wpSQ E S P ops w K (opsAt ops σ) a->rAny E S ld P md ops Q n L (σ.length+f) listed a w
 | [],listed,a,inv,hB,_,h=>by rw [List.length_nil,Nat.zero_add]; exact hK listed a inv hB h
 | i::σ,listed,a,inv,hB,hn,h=>by
  simp only [mixPureB,Bool.and_eq_true] at hB
  obtain ⟨⟨hr,hf⟩,hB'⟩:=hB
  simp only [List.all_cons,Bool.and_eq_true,decide_eq_true_eq] at hn
  have hr':i∈Region.ready md ops listed:=by simpa using hr
  have hi:=Za8 hr'
  have h:if Region.wanted (ops.getD i default) (yielded ops a.tmps) then ∃ v,(∀ x:SW S w,(ops.getD i default).quietAt P a (E x.w) x.w v)/\wpSQ E S P ops w K (opsAt ops σ) (a.put (ops.getD i default).dst v) else wpSQ E S P ops w K (opsAt ops σ) (a.put (ops.getD i default).dst undef):=h
  rw [show (i::σ).length+f=(σ.length+f)+1 by simp; omega]
  by_cases hw:Region.wanted (ops.getD i default) (yielded ops a.tmps)=true
  ·
   rw [if_pos hw] at h
   obtain ⟨v,hv,h2⟩:=h
   exact rAny_first (T:=S) hi (Region.noSelect_spec hs) hQ (hwait i hn.1) hn.1 hL hdone (fun _ _ _ _ _ _ _ h=>relOf_sub h) _ listed a w inv (Region.free_spec hi hf) hr' (.inl ⟨hw,fun w' hw'=>hv ⟨w',hw'⟩⟩)
    (u_pure hs hQ hwait hL hdone hK σ _ _ (inv.set hr' hn.1) hB' hn.2 h2)
  ·
   rw [if_neg hw] at h
   exact rAny_first (T:=S) hi (Region.noSelect_spec hs) hQ (hwait i hn.1) hn.1 hL hdone (fun _ _ _ _ _ _ _ h=>relOf_sub h) _ listed a w inv (Region.free_spec hi hf) hr' (.inr ⟨by simpa using hw,rfl⟩)
    (u_pure hs hQ hwait hL hdone hK σ _ _ (inv.set hr' hn.1) hB' hn.2 h)
theorem u_strong {n:Nat} {L:Array Bool->Act->World->Prop} (hs:Region.noSelect ops=true) (hQ:∀ c (a:Act) d v w,Q (.panic c) (a.put d v) w->Q (.panic c) a w)
  (hwait:∀ i,i < n->∀ listed,HeadInv md ops n listed->listed.getD i true=false->∀ j∈Region.ready md ops listed,j < n)
  (hL:∀ listed a w w',E w w'->L listed a w->L listed a w') (hdone:∀ listed a w,L listed a w->∀ j∈Region.ready md ops listed,n<=j)
  {k:Array Bool->Bool} {K:Act->Prop} {w:World} {f:Nat} (hK:∀ listed a,HeadInv md ops n listed->k listed=true->K a->rAny E S ld P md ops Q n L f listed a w) :
  ∀ (σ:List Nat) (listed:Array Bool) (a:Act),HeadInv md ops n listed->mixPureB md ops k σ listed=true->σ.all (decide <| · < n)=true->σ.all (strongB md ops ld)=true->wpSQ E E P ops w K (opsAt ops σ) a->rAny E S ld P md ops Q n L (σ.length+f) listed a w
 | [],listed,a,inv,hB,_,_,h=>by rw [List.length_nil,Nat.zero_add]; exact hK listed a inv hB h
 | i::σ,listed,a,inv,hB,hn,hst,h=>by
  simp only [mixPureB,Bool.and_eq_true] at hB
  obtain ⟨⟨hr,hf⟩,hB'⟩:=hB
  simp only [List.all_cons,Bool.and_eq_true,decide_eq_true_eq] at hn
  simp only [List.all_cons,Bool.and_eq_true] at hst
  have hr':i∈Region.ready md ops listed:=by simpa using hr
  have hi:=Za8 hr'
  have h:if Region.wanted (ops.getD i default) (yielded ops a.tmps) then ∃ v,(∀ x:SW E w,(ops.getD i default).quietAt P a (E x.w) x.w v)/\wpSQ E E P ops w K (opsAt ops σ) (a.put (ops.getD i default).dst v) else wpSQ E E P ops w K (opsAt ops σ) (a.put (ops.getD i default).dst undef):=h
  rw [show (i::σ).length+f=(σ.length+f)+1 by simp; omega]
  by_cases hw:Region.wanted (ops.getD i default) (yielded ops a.tmps)=true
  ·
   rw [if_pos hw] at h
   obtain ⟨v,hv,h2⟩:=h
   exact rAny_first (T:=E) hi (Region.noSelect_spec hs) hQ (hwait i hn.1) hn.1 hL hdone (strongB_spec hst.1) _ listed a w inv (Region.free_spec hi hf) hr' (.inl ⟨hw,fun w' hw'=>hv ⟨w',hw'⟩⟩)
    (u_strong hs hQ hwait hL hdone hK σ _ _ (inv.set hr' hn.1) hB' hn.2 hst.2 h2)
  ·
   rw [if_neg hw] at h
   exact rAny_first (T:=E) hi (Region.noSelect_spec hs) hQ (hwait i hn.1) hn.1 hL hdone (strongB_spec hst.1) _ listed a w inv (Region.free_spec hi hf) hr' (.inr ⟨by simpa using hw,rfl⟩)
    (u_strong hs hQ hwait hL hdone hK σ _ _ (inv.set hr' hn.1) hB' hn.2 hst.2 h)
theorem u_any {n:Nat} {g:Array Bool->Bool} {T:Act->World->Prop} (hs:Region.noSelect ops=true) (hQ:∀ c (a:Act) d v w,Q (.panic c) (a.put d v) w->Q (.panic c) a w)
  (hwait:∀ i,i < n->∀ listed,HeadInv md ops n listed->listed.getD i true=false->∀ j∈Region.ready md ops listed,j < n)
  (hdone:∀ listed,g listed=true->∀ j∈Region.ready md ops listed,n<=j):∀ (t:UTree) (listed:Array Bool) (a:Act) (w:World),HeadInv md ops n listed ->
  uB md ops ld n g t listed=true->wpU E S P ops Q T t a w->rAny E S ld P md ops Q n (fun l a w=>g l=true/\∀ w',E w w'->T a w') (uLen t) listed a w
 | .fin ps,listed,a,w,inv,hB,h=>by
  simp only [uB,Bool.and_eq_true] at hB
  exact u_pure (f:=0) (k:=g) (K:=fun a'=>∀ w',E w w'->T a' w') hs hQ hwait (fun _ _ _ _ e h=>⟨h.1,fun w' e'=>h.2 w' (hE.trans e e')⟩) (fun l a w h=>hdone l h.1) (fun l a _ hg hk=>by unfold rAny; exact ⟨hg,hk⟩) ps listed a inv hB.1 hB.2 h
 | .one ps i k,listed,a,w,inv,hB,h=>by
  simp only [uB,Bool.and_eq_true,decide_eq_true_eq] at hB
  refine u_pure (f:=uLen k+1) hs hQ hwait (fun _ _ _ _ e h=>⟨h.1,fun w' e'=>h.2 w' (hE.trans e e')⟩) (fun l a w h=>hdone l h.1) ?_ ps listed a inv hB.1.1.1 hB.1.1.2 h
  intro l a inv hl hk
  simp only [Bool.and_eq_true,decide_eq_true_eq] at hl
  obtain ⟨hr,hB'⟩:=hl
  refine ⟨by rw [hr]; simp,fun j hj=>?_⟩
  rw [hr] at hj
  obtain rfl:j=i:=by simpa using hj
  have hj':j∈Region.ready md ops l:=by rw [hr]; simp
  exact ⟨hB.1.2,fun w' hw'=>loudS hj' (fun a' w'' h'=>⟨by unfold relOf; rw [if_pos hB.2]; exact h'.1,u_any hs hQ hwait hdone k _ a' w'' (inv.set hj' hB.1.2) hB' h'.2⟩) (hk w' hw')⟩
theorem Zbr {id:Nat} {a:Act} {w:World} {l:List Oper} (ld:Nat->Bool) (ps0 ps:List Nat) (t:UTree) (hm:P.follows .mixedOrders=true)
  (hB:(Region.noSelect l.toArray && decide (ps0.length+(ps.length+uLen t)=l.toArray.size) && ps0.all (decide <| · < l.toArray.size) && ps.all (decide <| · < l.toArray.size) && ps.all (strongB .any l.toArray ld) &&
   mixPureB .any l.toArray (fun x=>mixPureB .any l.toArray (fun x=>uB .any l.toArray ld l.toArray.size (fun x=>(Region.ready .any l.toArray x).isEmpty) t x) ps x) ps0 (Array.replicate l.toArray.size false))=true)
  (hQ:∀ c (a:Act) d v w,Q (.panic c) (a.put d v) w->Q (.panic c) a w)
  (h:wpSQ E S P l.toArray w.drew (fun a0=>wpSQ E E P l.toArray w.drew (fun a'=>∀ w',E w.drew w'->wpU E S P l.toArray Q (fun a w=>Q .normal a w) t a' w') (opsAt l.toArray ps) a0) (opsAt l.toArray ps0) a):(Code.region id l.toArray true).wp P Q a w:=by
 simp only [Bool.and_eq_true,decide_eq_true_eq] at hB
 obtain ⟨⟨⟨⟨⟨h1,hN⟩,h0⟩,h2⟩,h3⟩,hB⟩:=hB
 refine wp_region_any hm ?_
 have hw0:∀ i,i < l.toArray.size->∀ listed,HeadInv .any l.toArray l.toArray.size listed->listed.getD i true=false->∀ j∈Region.ready .any l.toArray listed,j < l.toArray.size:=fun i hi listed inv hun j hj=>by
  obtain ⟨_,o,ho,_⟩:=mem_ready.1 hj
  exact (Array.getElem?_eq_some_iff.1 ho).1
 have hdone:∀ listed,(Region.ready .any l.toArray listed).isEmpty=true->∀ j∈Region.ready .any l.toArray listed,l.toArray.size<=j:=fun listed hg j hj=>by
  have:Region.ready .any l.toArray listed=[]:=by simpa using hg
  rw [this] at hj; cases hj
 have H:=u_pure (P:=P) (Q:=Q) (md:=.any) (E:=E) (S:=S) (ld:=ld) (n:=l.toArray.size) (f:=ps.length+uLen t) (L:=fun x a w=>(Region.ready .any l.toArray x).isEmpty=true/\∀ w',E w w'->Q .normal a w')
  (k:=fun x=>mixPureB .any l.toArray (fun x=>uB .any l.toArray ld l.toArray.size (fun x=>(Region.ready .any l.toArray x).isEmpty) t x) ps x)
  (K:=fun a0=>wpSQ E E P l.toArray w.drew (fun a'=>∀ w',E w.drew w'->wpU E S P l.toArray Q (fun a w=>Q .normal a w) t a' w') (opsAt l.toArray ps) a0) h1 hQ hw0 (fun _ _ _ _ e h=>⟨h.1,fun w' e'=>h.2 w' (hE.trans e e')⟩) (fun l a w h=>hdone l h.1)
  (fun listed a inv hg hk=>u_strong (P:=P) (Q:=Q) (md:=.any) (E:=E) (S:=S) (ld:=ld) (n:=l.toArray.size) (f:=uLen t) (L:=fun x a w=>(Region.ready .any l.toArray x).isEmpty=true/\∀ w',E w w'->Q .normal a w')
   (K:=fun a'=>∀ w',E w.drew w'->wpU E S P l.toArray Q (fun a w=>Q .normal a w) t a' w') h1 hQ hw0 (fun _ _ _ _ e h=>⟨h.1,fun w' e'=>h.2 w' (hE.trans e e')⟩) (fun l a w h=>hdone l h.1)
   (fun listed a inv hg hk=>u_any h1 hQ hw0 hdone t listed a w.drew inv hg (hk _ (hE.refl _))) ps listed a inv hg h2 h3 hk) ps0 _ a invS0 hB h0 h
 have:=rAny_wp (g:=0) (fun listed a' w' hL=>(⟨by simpa using hL.1,hL.2 w' (hE.refl w')⟩:wpAny P .any l.toArray Q 0 listed a' w')) _ _ _ _ H
 rw [Nat.add_zero,hN] at this
 exact this
end
end Go.Proofs.YtgjnnbomnoafcaaGreat
namespace Go.Proofs.YtgjnnbomnoafcaaGreat
set_option linter.unusedVariables false
open Go Go.RowKit
def PutT (S:Nat->Prop) (n m:Nat) (b:Nat):Prop:=S b\/(n<=b/\b < m)
theorem RackAt.disks8 {S:Nat->Prop} {w:World} {r:Nat} {R:Rck} (h:RackAt S w r R):R.l.length<=8:=by
 obtain ⟨_,K,_,h2,_⟩:=h
 have:=h2.small
 rw [h2.len]; omega
theorem Rck.online_len (R:Rck):R.online.length<=R.l.length:=by
 unfold Rck.online
 have:=List.length_filter_le (fun i:Nat=>R.up i) (List.range R.l.length)
 simpa using this
theorem each_cut {α:Type} {f:Rck->α->Option Err × Rck} {l:List α} {i:Nat} {b:α} {R R1:Rck} (hi:l[i]?=some b) (h:each f (l.take i) R=(none,R1)):each f l R=each f (b::l.drop (i+1)) R1:=by
 have hlt:i < l.length:=by
  rcases Nat.lt_or_ge i l.length with q | q
  ·
   exact q
  ·
   rw [List.getElem?_eq_none q] at hi; cases hi
 have e:l=l.take i++(b::l.drop (i+1)):=by
  rw [List.getElem?_eq_getElem hlt] at hi
  rw [<- Option.some.inj hi,<- List.drop_eq_getElem_cons hlt,List.take_append_drop]
 conv=>lhs; rw [e,each_app,h]
theorem Zbp {α:Type} {f:Rck->α->Option Err × Rck} {l:List α} {i:Nat} {b:α} {R R1 R2:Rck} {er:Err} (hi:l[i]?=some b) (h:each f (l.take i) R=(none,R1)) (h2:f R1 b=(some er,R2)):each f l R=(some er,R2):=(each_cut hi h).trans (each_err h2)
theorem Zbg {α:Type} {f:Rck->α->Option Err × Rck} {l:List α} {i:Nat} {b:α} {R R1 R2:Rck} (hi:l[i]?=some b) (h:each f (l.take i) R=(none,R1)) (h2:f R1 b=(none,R2)):each f (l.take (i+1)) R=(none,R2):=by
 have hlt:i < l.length:=by
  rcases Nat.lt_or_ge i l.length with q | q
  ·
   exact q
  ·
   rw [List.getElem?_eq_none q] at hi; cases hi
 rw [List.getElem?_eq_getElem hlt] at hi
 rw [List.take_succ_eq_append_getElem hlt,Option.some.inj hi,each_app,h]
 exact (Zb8 (l:=[]) h2).trans rfl
theorem Zbz (K i:Nat) (h:i<=K):(List.range K).take i=List.range i:=by
 rw [List.take_range,Nat.min_eq_left h]
structure JPut (S:Nat->Prop) (w W:World) (r:Nat) (R:Rck) (wr:World):Prop where
 rack:RackAt (PutT S w.heap.size W.heap.size) wr r R
 keeps:Only (fun b=>¬PutT S w.heap.size W.heap.size b) W wr
theorem JPut.out {S:Nat->Prop} {w W:World} {r:Nat} {R:Rck} {wr:World} (h:JPut S w W r R wr) (e:Ext w W):RackAt S wr r R/\Keeps S w wr :=
 ⟨h.rack.less fun b hb=>.inl hb,Only.trans (Ext.only e) h.keeps fun b _ hb q=>hb (.inl q)⟩
theorem JPut.step {S:Nat->Prop} {w W:World} {r:Nat} {R R2:Rck} {wr w4:World} (h:JPut S w W r R wr) (h4:RackAt (PutT S w.heap.size W.heap.size) w4 r R2) (k:Keeps (PutT S w.heap.size W.heap.size) wr w4):JPut S w W r R2 w4 :=
 ⟨h4,Only.trans h.keeps k fun _ _ q=>q⟩
end Go.Proofs.YtgjnnbomnoafcaaGreat
