/- Texts of one proof, joined: MapI, DiskPure, DiskRep, RackPure, RackRep, DiskA, DiskB, DiskC, DiskD, DiskE, DiskF, Ints, CrashPure, DiskG, DiskH. -/
import Derived.Test.YtgjnnbomnoafcaaGreatDoorVA
import Derived.Maps.RangeRun
import Derived.Test.YtgjnnbomnoafcaaGreatDoorVB
import Derived.Test.YtgjnnbomnoafcaaGreatDoorVC
import Derived.Deep.LoopGhost
import Derived.Test.YtgjnnbomnoafcaaGreatDoorProg
import Derived.Maps.AppendAt
set_option linter.unusedVariables false
set_option linter.unusedSimpArgs false
namespace Go.Proofs.YtgjnnbomnoafcaaGreatDoor
set_option linter.unusedVariables false
open Go Go.ChangeMaps
section
variable {P:Program}
def isKeyI (i:Int) (e:MapEntry):Bool:=match e.key with | .int .i64 j=>i == j | _=>false
def mFind (i:Int):List MapEntry->Nat->Option (Nat × Value)
 | [],_=>none
 | e::es,k=>if isKeyI i e then some (k,e.val) else mFind i es (k+1)
def mLook (i:Int) (es:List MapEntry):Option Value:=(es.find? (isKeyI i)).map (·.val)
structure MGood (es:List MapEntry) (clock:Nat):Prop where
 key:∀ x∈es.map (·.key),∃ i,x=.int .i64 i
 one:(es.map (·.key)).Nodup
 born:∀ x∈es.map (·.born),x < clock
 bone:(es.map (·.born)).Nodup
def MapI (w:World) (b:Nat) (f:Int->Option Value):Prop:=∃ es clock,w.heap[b]?=some (.map es clock)/\MGood es.toList clock/\∀ i,mLook i es.toList=f i
theorem MapI.made (w:World):MapI (w.alloc (.map #[] 0)) w.heap.size fun _=>none :=
 ⟨#[],0,heap_alloc_new w _,⟨by simp,by simp,by simp,by simp⟩,fun i=>rfl⟩
theorem MapI.same {w w':World} {b:Nat} {f:Int->Option Value} (h:MapI w b f) (e:w'.heap[b]?=w.heap[b]?):MapI w' b f:=by
 obtain ⟨es,c,h1,h2,h3⟩:=h
 exact ⟨es,c,e.trans h1,h2,h3⟩
theorem MapI.lt {w:World} {b:Nat} {f:Int->Option Value} (h:MapI w b f):b < w.heap.size:=by
 obtain ⟨es,c,h1,_⟩:=h
 exact lt_of_block h1
theorem mFind_look (i:Int) (es:List MapEntry) (k:Nat):(mFind i es k).map (·.2)=mLook i es:=by
 induction es generalizing k with
 | nil=>rfl
 | cons e es ih =>
  unfold mFind mLook
  rw [List.find?_cons]
  cases h:isKeyI i e
  ·
   simp only [Bool.false_eq_true,if_false]; rw [ih]; rfl
  ·
   simp
theorem findNow_int (i:Int) (es:List MapEntry) (k:Nat) (h:∀ x∈es.map (·.key),∃ j,x=.int .i64 j):Instr.findNow (.int .i64) (.int .i64 i) es k=some (mFind i es k):=by
 induction es generalizing k with
 | nil=>rfl
 | cons e es ih =>
  obtain ⟨j,hj⟩:=h e.key (by simp)
  unfold Instr.findNow mFind isKeyI
  rw [hj]
  simp only [Instr.sameNow,if_true]
  by_cases hij:i=j
  ·
   subst hij; simp
  ·
   have:(i == j)=false:=by simp [hij]
   simp only [this,Bool.false_eq_true,if_false]
   exact ih _ (fun x hx=>h x (by simp only [List.map_cons,List.mem_cons]; exact .inr hx))
theorem Zb0 {k:TypeId} (hk:P.underlying k=some (.int .i64)) (i:Int) (es:List MapEntry) (h:∀ x∈es.map (·.key),∃ j,x=.int .i64 j) (w:World):(Instr.findKey k (.int .i64 i) es).run P w=.ok (mFind i es 0) w:=by
 unfold Instr.findKey
 simp only [Sem.run_bind,run_underlying hk,Result.andThen_ok,findNow_int i es 0 h]
 rfl
theorem Zbv {k:TypeId} (hk:P.underlying k=some (.int .i64)) (b:Bool) (n:Nat) (i:Int) (w:World):(Instr.checkKey b (n+1) k (.int .i64 i)).run P w=.ok () w:=by
 unfold Instr.checkKey
 simp only [Sem.run_bind,run_underlying hk,Result.andThen_ok]
 rfl
theorem MapI.run_look {w:World} {b:Nat} {f:Int->Option Value} (h:MapI w b f) {t k e:TypeId} (ht:P.underlying t=some (.map k e)) (hk:P.underlying k=some (.int .i64)) {z:Value} (hz:(zeroValue e).run P w=.ok z w) (i:Int) (ok:Bool) :
  (Instr.lookup t (.map (some b)) (.int .i64 i) ok).run P w=.ok (if ok then .tuple #[(f i).getD z,.bool (f i).isSome] else (f i).getD z) w:=by
 obtain ⟨es,c,hb,hg,hl⟩:=h
 have h1:=Zb0 hk i es.toList hg.key w
 have h2:=mFind_look i es.toList 0
 rw [hl] at h2
 have h3:=Zbv hk es.isEmpty 9999 i w
 unfold Instr.lookup
 rw [<- h2]
 cases hm:mFind i es.toList 0 with
 | none =>
  rw [hm] at h1
  simp [run_underlying ht,MapKept.run_getObj_map hb,h3,h1,hz,Result.andThen]
 | some q =>
  rw [hm] at h1
  simp [run_underlying ht,MapKept.run_getObj_map hb,h3,h1,Result.andThen]
theorem mFind_some (i:Int) (v:Value):∀ (es:List MapEntry) (k p:Nat) (v0:Value),mFind i es k=some (p,v0) ->
  ∃ q,p=k+q/\(∃ e,es[q]?=some e/\e.key=.int .i64 i)/\(∀ j,mLook j (es.modify q fun e=>{ e with key:=.int .i64 i,val:=v })=if j=i then some v else mLook j es) ∧
   (es.modify q fun e=>{ e with key:=.int .i64 i,val:=v }).map (·.key)=es.map (·.key)/\(es.modify q fun e=>{ e with key:=.int .i64 i,val:=v }).map (·.born)=es.map (·.born)
 | [],k,p,v0,h=>by cases h
 | e::es,k,p,v0,h=>by
  unfold mFind at h
  cases hk:isKeyI i e with
  | true =>
   rw [hk] at h
   obtain ⟨rfl,rfl⟩:k=p/\e.val=v0:=by simpa using h
   have he:e.key=.int .i64 i:=by
    unfold isKeyI at hk
    split at hk
    ·
     rename_i j hj; rw [hj,beq_iff_eq.1 hk]
    ·
     cases hk
   refine ⟨0,by omega,⟨e,rfl,he⟩,fun j=>?_,?_,?_⟩
   ·
    unfold mLook
    rw [List.modify_zero_cons,List.find?_cons,List.find?_cons]
    by_cases hj:j=i
    ·
     subst hj; rw [if_pos rfl]; simp [isKeyI]
    ·
     rw [if_neg hj]
     have h1:isKeyI j { e with key:=.int .i64 i,val:=v }=false:=by simp [isKeyI,hj]
     have h2:isKeyI j e=false:=by simp [isKeyI,he,hj]
     rw [h1,h2]
   ·
    simp [List.modify_zero_cons,he]
   ·
    simp [List.modify_zero_cons]
  | false =>
   rw [hk] at h
   obtain ⟨q,rfl,⟨e0,h0,h0k⟩,h1,h2,h3⟩:=mFind_some i v es (k+1) p v0 (by simpa using h)
   refine ⟨q+1,by omega,⟨e0,by simpa using h0,h0k⟩,fun j=>?_,?_,?_⟩
   ·
    have:=h1 j
    unfold mLook at this ⊢
    rw [List.modify_succ_cons,List.find?_cons,List.find?_cons]
    by_cases hj:j=i
    ·
     subst hj; rw [hk]; rw [if_pos rfl] at this ⊢; exact this
    ·
     rw [if_neg hj] at this ⊢
     cases isKeyI j e
     ·
      exact this
     ·
      rfl
   ·
    rw [List.modify_succ_cons,List.map_cons,List.map_cons,h2]
   ·
    rw [List.modify_succ_cons,List.map_cons,List.map_cons,h3]
theorem mFind_none (i:Int) (v:Value) (b:Nat):∀ (es:List MapEntry) (k:Nat),mFind i es k=none ->
  (∀ j,mLook j (es++[⟨.int .i64 i,v,b⟩])=if j=i then some v else mLook j es)/\(.int .i64 i:Value)∉es.map (·.key)
 | [],k,h=>by
  refine ⟨fun j=>?_,by simp⟩
  by_cases hj:j=i
  ·
   subst hj; simp [mLook,isKeyI]
  ·
   simp [mLook,isKeyI,hj]
 | e::es,k,h=>by
  unfold mFind at h
  cases hk:isKeyI i e with
  | true=>rw [hk] at h; cases h
  | false =>
   rw [hk] at h
   obtain ⟨h1,h2⟩:=mFind_none i v b es (k+1) (by simpa using h)
   refine ⟨fun j=>?_,?_⟩
   ·
    have:=h1 j
    unfold mLook at this ⊢
    rw [List.cons_append,List.find?_cons,List.find?_cons]
    by_cases hj:j=i
    ·
     subst hj; rw [hk]; rw [if_pos rfl] at this ⊢; exact this
    ·
     rw [if_neg hj] at this ⊢
     cases isKeyI j e
     ·
      exact this
     ·
      rfl
   ·
    simp only [List.map_cons,List.mem_cons,not_or]
    refine ⟨fun he=>?_,h2⟩
    unfold isKeyI at hk
    rw [<- he] at hk
    simp at hk
theorem run_stays (i:Int) (w:World):(Instr.keyThatStays (.int .i64 i) (.int .i64 i)).run P w=.ok (.int .i64 i) w:=by
 have h:Instr.sameBits 10000 (.int .i64 i) (.int .i64 i)=true:=by simp [Instr.sameBits]
 unfold Instr.keyThatStays
 rw [if_pos h]
 rfl
theorem MapI.run_set {w:World} {b:Nat} {f:Int->Option Value} (h:MapI w b f) {t k e:TypeId} (ht:P.underlying t=some (.map k e)) (hk:P.underlying k=some (.int .i64)) (i:Int) (v:Value) :
  ∃ w',(Instr.mapUpdate t (.map (some b)) (.int .i64 i) v).run P w=.ok () w'/\MapI w' b (fun j=>if j=i then some v else f j)/\Only (fun k=>k=b) w w':=by
 obtain ⟨es,c,hb,hg,hl⟩:=h
 have h1:=Zb0 hk i es.toList hg.key w
 have h3:=Zbv hk false 9999 i w
 have hO:∀ es' c',Only (fun k=>k=b) w (setBlock w b (.map es' c')):=fun es' c' =>
  ⟨rfl,rfl,rfl,by simp [setBlock],fun k hk hn=>heap_setBlock_other hb _ hn⟩
 cases hm:mFind i es.toList 0 with
 | none =>
  rw [hm] at h1
  obtain ⟨hm1,hm2⟩:=mFind_none i v c es.toList 0 hm
  refine ⟨setBlock w b (.map (es.push ⟨.int .i64 i,v,c⟩) (c+1)),?_,⟨_,_,heap_setBlock_same hb _,⟨?_,?_,?_,?_⟩,fun j=>?_⟩,hO _ _⟩
  ·
   simp [Instr.mapUpdate,run_underlying ht,MapKept.run_getObj_map hb,h3,h1,MapKept.run_setObj_map _ hb,Result.andThen,setBlock]
  ·
   intro x hx
   simp only [Array.toList_push,List.map_append,List.mem_append,List.map_cons,List.map_nil,List.mem_singleton] at hx
   rcases hx with hx | rfl
   ·
    exact hg.key x hx
   ·
    exact ⟨i,rfl⟩
  ·
   simp only [Array.toList_push,List.map_append,List.map_cons,List.map_nil]
   rw [List.nodup_append]
   exact ⟨hg.one,by simp,fun x hx y hy=>by simp only [List.mem_singleton] at hy; subst hy; intro e; subst e; exact hm2 hx⟩
  ·
   intro x hx
   simp only [Array.toList_push,List.map_append,List.mem_append,List.map_cons,List.map_nil,List.mem_singleton] at hx
   rcases hx with hx | rfl
   ·
    exact Nat.lt_succ_of_lt (hg.born x hx)
   ·
    exact Nat.lt_succ_self _
  ·
   simp only [Array.toList_push,List.map_append,List.map_cons,List.map_nil]
   rw [List.nodup_append]
   exact ⟨hg.bone,by simp,fun x hx y hy=>by simp only [List.mem_singleton] at hy; subst hy; have:=hg.born x hx; omega⟩
  ·
   rw [Array.toList_push,hm1,hl]
 | some q =>
  obtain ⟨p,v0⟩:=q
  rw [hm] at h1
  obtain ⟨q,hq,⟨e0,he0,hek⟩,hm1,hm2,hm3⟩:=mFind_some i v es.toList 0 p v0 hm
  obtain rfl:p=q:=by omega
  have he0':es[p]?=some e0:=by simpa using he0
  refine ⟨setBlock w b (.map (es.modify p fun e=>{ e with key:=.int .i64 i,val:=v }) c),?_,⟨_,_,heap_setBlock_same hb _,⟨?_,?_,?_,?_⟩,fun j=>?_⟩,hO _ _⟩
  ·
   simp [Instr.mapUpdate,run_underlying ht,MapKept.run_getObj_map hb,h3,h1,MapKept.run_setObj_map _ hb,Result.andThen,setBlock,he0',hek,run_stays]
  ·
   rw [Array.toList_modify,hm2]; exact hg.key
  ·
   rw [Array.toList_modify,hm2]; exact hg.one
  ·
   rw [Array.toList_modify,hm3]; exact hg.born
  ·
   rw [Array.toList_modify,hm3]; exact hg.bone
  ·
   rw [Array.toList_modify,hm1,hl]
def IterI (w:World) (b r:Nat) (f:Int->Option Value) (left:Int->Bool) (cnt:Nat):Prop :=
 ∃ es clock since seen c0,w.heap[b]?=some (.map es clock)/\MGood es.toList clock/\(∀ i,mLook i es.toList=f i)/\w.heap[r]?=some (.mapIter (some b) since seen c0) ∧
  (∀ x∈es.toList,x.born < since)/\since<=c0/\since<=clock/\cnt=(leftOf es seen).size/\(∀ e∈es.toList,∀ i,e.key=.int .i64 i->left i=!seen.contains e.born)/\(∀ i,left i=true->(f i).isSome=true)
theorem IterI.same {w w':World} {b r:Nat} {f:Int->Option Value} {left:Int->Bool} {cnt:Nat} (h:IterI w b r f left cnt) (e:w'.heap[b]?=w.heap[b]?) (e':w'.heap[r]?=w.heap[r]?):IterI w' b r f left cnt:=by
 obtain ⟨es,clock,since,seen,c0,h1,h2,h3,h4,h5⟩:=h
 exact ⟨es,clock,since,seen,c0,e.trans h1,h2,h3,e'.trans h4,h5⟩
theorem IterI.map {w:World} {b r:Nat} {f:Int->Option Value} {left:Int->Bool} {cnt:Nat} (h:IterI w b r f left cnt):MapI w b f:=by
 obtain ⟨es,clock,since,seen,c0,h1,h2,h3,_⟩:=h
 exact ⟨es,clock,h1,h2,h3⟩
theorem nodup_inj {α β:Type} {f:α->β} {x y:α}:∀ {l:List α},(l.map f).Nodup->x∈l->y∈l->f x=f y->x=y
 | [],_,hx,_,_=>by cases hx
 | a::l,h,hx,hy,e=>by
  rw [List.map_cons,List.nodup_cons] at h
  rcases List.mem_cons.1 hx with rfl | hx'
  ·
   rcases List.mem_cons.1 hy with rfl | hy'
   ·
    rfl
   ·
    exact absurd (e▸List.mem_map_of_mem hy') h.1
  ·
   rcases List.mem_cons.1 hy with rfl | hy'
   ·
    exact absurd (e▸List.mem_map_of_mem hx') h.1
   ·
    exact nodup_inj h.2 hx' hy' e
theorem IterI.rlt {w:World} {b r:Nat} {f:Int->Option Value} {left:Int->Bool} {cnt:Nat} (h:IterI w b r f left cnt):r < w.heap.size:=by
 obtain ⟨es,clock,since,seen,c0,h1,h2,h3,h4,h5⟩:=h
 exact lt_of_block h4
theorem mLook_mem {es:List MapEntry} {clock:Nat} (hg:MGood es clock) {e:MapEntry} (he:e∈es) {i:Int} (hi:e.key=.int .i64 i):mLook i es=some e.val:=by
 unfold mLook
 have h1:isKeyI i e=true:=by simp [isKeyI,hi]
 obtain ⟨x,hx⟩:∃ x,es.find? (isKeyI i)=some x:=by
  rcases h:es.find? (isKeyI i) with _ | x
  ·
   have:=List.find?_eq_none.1 h e he; simp [h1] at this
  ·
   exact ⟨x,rfl⟩
 have hx1:=List.find?_some hx
 have hx2:=List.mem_of_find?_eq_some hx
 have hxk:x.key=.int .i64 i:=by
  unfold isKeyI at hx1
  split at hx1
  ·
   rename_i j hj; rw [hj,beq_iff_eq.1 hx1]
  ·
   cases hx1
 rw [hx]
 rw [nodup_inj hg.one hx2 he (by rw [hxk,hi])]; rfl
theorem mLook_key {es:List MapEntry} {i:Int} (h:(mLook i es).isSome=true):∃ e∈es,e.key=.int .i64 i:=by
 unfold mLook at h
 rcases hx:es.find? (isKeyI i) with _ | x
 ·
  rw [hx] at h; cases h
 ·
  have hx1:=List.find?_some hx
  refine ⟨x,List.mem_of_find?_eq_some hx,?_⟩
  unfold isKeyI at hx1
  split at hx1
  ·
   rename_i j hj; rw [hj,beq_iff_eq.1 hx1]
  ·
   cases hx1
theorem MapI.run_range {w:World} {b:Nat} {f:Int->Option Value} (h:MapI w b f) {t k e:TypeId} (ht:P.underlying t=some (.map k e)) :
  ∃ w' cnt,(Instr.range t (.map (some b))).run P w=.ok (.pointer (some ⟨w.heap.size,0,none⟩)) w'/\IterI w' b w.heap.size f (fun i=>(f i).isSome) cnt/\Ext w w'/\w'.heap.size=w.heap.size+1:=by
 obtain ⟨es,c,hb,hg,hl⟩:=h
 refine ⟨_,_,run_range_map w t k e b es c ht hb,⟨es,c,c,#[],c,?_,hg,hl,heap_alloc_new w _,fun x hx=>hg.born _ (List.mem_map_of_mem hx),Nat.le_refl _,Nat.le_refl _,rfl,?_,fun i h=>h⟩,(Ext.refl w).alloc _,by simp⟩
 ·
  rw [heap_alloc_old w _ (lt_of_block hb)]; exact hb
 ·
  intro x hx i hi
  show (f i).isSome=_
  rw [<- hl,mLook_mem hg hx hi]
  simp
theorem IterI.run_next {w:World} {b r:Nat} {f:Int->Option Value} {left:Int->Bool} {cnt:Nat} (h:IterI w b r f left cnt) (ty:TypeId) :
  ((∀ i,left i=false)/\(Instr.next (.pointer (some ⟨r,0,none⟩)) false ty).run P w=.ok (.tuple #[.bool false]) w) ∨
  ∃ i v w' cnt',left i=true/\f i=some v/\(Instr.next (.pointer (some ⟨r,0,none⟩)) false ty).run P w=.ok (.tuple #[.bool true,.int .i64 i,v]) w' ∧
   IterI w' b r f (fun j=>left j && !(j == i)) cnt'/\cnt' < cnt/\Only (fun k=>k=r) w w'/\w'.heap.size=w.heap.size/\(Instr.entry (.pointer (some ⟨r,0,none⟩))).run P w'=.ok (.tuple #[.int .i64 i,v]) w':=by
 obtain ⟨es,clock,since,seen,c0,hb,hg,hl,hr,hold,hsc,hsk,hcnt,hleft,hin⟩:=h
 rcases run_next_at (P:=P) w ty r b since c0 seen es clock hr hb hold hsc with ⟨h0,hrun⟩ | ⟨e,he,w1,hw1,hrun⟩
 ·
  refine .inl ⟨fun i=>?_,hrun⟩
  rcases hli:left i with _ | _
  ·
   rfl
  ·
   exfalso
   have h1:=hin i hli
   rw [<- hl] at h1
   obtain ⟨e,he,hk⟩:=mLook_key h1
   have h2:=hleft e he i hk
   rw [hli] at h2
   have:e∈(leftOf es seen).toList:=by
    unfold leftOf
    rw [Array.toList_filter,List.mem_filter]
    exact ⟨he,by rw [<- h2]⟩
   have h3:(leftOf es seen).toList=[]:=by rw [<- List.length_eq_zero_iff]; simpa using h0
   rw [h3] at this; cases this
 ·
  have hem:e∈es.toList/\(!seen.contains e.born)=true:=by
   unfold leftOf at he
   rw [Array.toList_filter,List.mem_filter] at he
   exact he
  obtain ⟨i,hi⟩:=hg.key e.key (List.mem_map_of_mem hem.1)
  have hne:b≠r:=by intro e; subst e; rw [hb] at hr; cases hr
  have hr1:w1.heap=w.heap:=by rcases hw1 with rfl | rfl<;>rfl
  have hrr:w1.heap[r]?=some (.mapIter (some b) since seen c0):=by rw [hr1]; exact hr
  have hlt:=lt_of_block hrr
  have hsame:(setBlock w1 r (.mapIter (some b) since (seen.push e.born) clock)).heap[r]?=some (.mapIter (some b) since (seen.push e.born) clock):=by
   simp [setBlock,hlt]
  have hother:∀ k,k≠r->(setBlock w1 r (.mapIter (some b) since (seen.push e.born) clock)).heap[k]?=w.heap[k]?:=by
   intro k hk
   rw [<- hr1]
   simp [setBlock,Ne.symm hk]
  have hOnly:Only (fun k=>k=r) w (setBlock w1 r (.mapIter (some b) since (seen.push e.born) clock)):=by
   refine ⟨?_,?_,?_,?_,fun k _ hk=>hother k hk⟩
   ·
    rcases hw1 with rfl | rfl<;>rfl
   ·
    rcases hw1 with rfl | rfl<;>rfl
   ·
    rcases hw1 with rfl | rfl<;>rfl
   ·
    simp [setBlock,hr1]
  refine .inr ⟨i,e.val,_,_,?_,?_,by rw [<- hi]; exact hrun,⟨es,clock,since,seen.push e.born,clock,(hother b hne).trans hb,hg,hl,hsame,hold,hsk,hsk,rfl,?_,?_⟩,?_,hOnly,?_,?_⟩
  ·
   rw [hleft e hem.1 i hi]; exact hem.2
  ·
   rw [<- hl]; exact mLook_mem hg hem.1 hi
  ·
   intro x hx j hj
   show (left j && !(j == i))=_
   rw [hleft x hx j hj,Array.contains_push]
   by_cases hji:j=i
   ·
    subst hji
    have:x=e:=nodup_inj hg.one hx hem.1 (by rw [hj,hi])
    subst this
    simp
   ·
    have hb':x.born≠e.born:=by
     intro eb
     have:=nodup_inj hg.bone hx hem.1 eb
     subst this
     rw [hj] at hi
     exact hji (by cases hi; rfl)
    have h1:(x.born == e.born)=false:=by simpa using hb'
    have h2:(j == i)=false:=by simpa using hji
    rw [h1,h2]; simp
  ·
   intro j hj
   simp only [Bool.and_eq_true] at hj
   exact hin j hj.1
  ·
   subst hcnt; exact left_shrinks es seen e he
  ·
   simp [setBlock,hr1]
  ·
   have:=run_entry_at (P:=P) (setBlock w1 r (.mapIter (some b) since (seen.push e.born) clock)) r b since seen es clock e hsame ((hother b hne).trans hb) hem.1 (by simpa using hg.bone)
   rw [hi] at this
   exact this
end
end Go.Proofs.YtgjnnbomnoafcaaGreatDoor
namespace Go.Proofs.YtgjnnbomnoafcaaGreatDoor
set_option linter.unusedVariables false
structure Dsk where
 l:List (List Nat)
 waits:Nat->Option (List Nat)
 rot:Nat->Bool
 dead:Bool
namespace Dsk
def zeros:List Nat:=List.replicate 128 0
def new (n:Nat):Dsk:=⟨List.replicate n zeros,fun _=>none,fun _=>false,false⟩
def blank (d:Dsk):Dsk:={ d with l:=List.replicate d.l.length zeros,waits:=fun _=>none,rot:=fun _=>false }
def n (d:Dsk):Nat:=d.l.length
def write (d:Dsk) (i:Nat) (b:List Nat):Dsk:={ d with waits:=fun j=>if j=i then some b else d.waits j }
def read (d:Dsk) (i:Nat):List Nat:=(d.waits i).getD (d.l.getD i [])
def put (d:Dsk) (i:Nat):Dsk:={ d with l:=d.l.set i ((d.waits i).getD []),rot:=fun j=>if j=i then false else d.rot j }
def settle (d:Dsk) (f:Nat->Bool):Dsk :=
 { d with l:=(List.range d.l.length).map fun i=>if f i then (d.waits i).getD (d.l.getD i []) else d.l.getD i [],waits:=fun _=>none,rot:=fun i=>if f i && (d.waits i).isSome then false else d.rot i }
def flush (d:Dsk):Dsk:=d.settle fun _=>true
def waiting (d:Dsk):List Nat:=(List.range d.l.length).filter fun i=>(d.waits i).isSome
def crash (d:Dsk) (bits:Nat):Dsk:=d.settle fun i=>(bits >>> (d.waiting.idxOf i % 64)) % 2 == 1
def xor4 (l:List Nat) (at_ x:Nat):List Nat:=(List.range 4).foldl (fun l k=>l.set (at_+k) (l.getD (at_+k) 0 ^^^ x / 2 ^ (8*k) % 256)) l
def rotOk (d:Dsk) (i:Int) (at_:Int) (x:Nat):Bool:=!(d.dead || decide (at_ < 0) || decide (124 < at_) || x == 0 || decide (i < 0) || decide ((d.l.length:Int)<=i)) && !d.rot i.toNat
def rotted (d:Dsk) (i at_ x:Nat):Dsk:={ d with l:=d.l.set i (xor4 (d.l.getD i []) at_ x),rot:=fun j=>if j=i then true else d.rot j }
def die (d:Dsk):Dsk:={ d.blank with dead:=true }
def replace (d:Dsk):Dsk:={ d.blank with dead:=false }
structure Ok (d:Dsk):Prop where
 len:∀ x∈d.l,x.length=128
 byte:∀ x∈d.l,∀ y∈x,y < 256
 wlen:∀ i b,d.waits i=some b->i < d.l.length/\b.length=128/\∀ y∈b,y < 256
end Dsk
open Go Go.RowKit
structure Spot where
 blk:Nat
 cap:Nat
instance:Inhabited Spot:=⟨⟨0,0⟩⟩
def Spot.val (s:Spot):Value:=.slice (some ⟨s.blk,0,none⟩) 128 s.cap
def SecAt (w:World) (s:Spot) (l:List Nat):Prop:=l.length=128/\(∀ x∈l,x < 256)/\w.ownsRow 0 5 1 s.val 128 (l.map bv)
theorem SecAt.bytes {w:World} {s:Spot} {l:List Nat} (h:SecAt w s l):BytesAt w (some ⟨s.blk,0,none⟩) 128 l:=owns_bytes h.2.2 h.2.1 (by omega)
theorem SecAt.same {w w':World} {s:Spot} {l:List Nat} (h:SecAt w s l) (e:w'.heap[s.blk]?=w.heap[s.blk]?):SecAt w' s l:=by
 refine ⟨h.1,h.2.1,h.2.2.1,?_⟩
 rcases h.2.2.2 with h' | ⟨g,c,cur,h1,h2,h3,h4⟩
 ·
  exact .inl h'
 ·
  cases h1; exact .inr ⟨s.blk,_,cur,rfl,Nat.zero_le _,e.trans h3,h4⟩
theorem SecAt.lt {w:World} {s:Spot} {l:List Nat} (h:SecAt w s l):s.blk < w.heap.size:=owns_lt h.2.2
theorem SecAt.cap {w:World} {s:Spot} {l:List Nat} (h:SecAt w s l):128<=s.cap:=by
 rcases h.2.2.2 with ⟨h',_⟩ | ⟨g,c,cur,h1,h2,h3,h4,_⟩
 ·
  cases h'
 ·
  cases h1; exact h4
inductive Slot where
 | p | lb | wm | rm
 | sec (i:Nat)
 | wait (i:Nat)
structure DSk where
 p:Nat
 lb:Nat
 wm:Nat
 rm:Nat
 n:Nat
 ss:Nat->Spot
 wf:Nat->Option Spot
namespace DSk
def at_ (k:DSk):Slot->Option Nat
 | .p=>some k.p
 | .lb=>some k.lb
 | .wm=>some k.wm
 | .rm=>some k.rm
 | .sec i=>if i < k.n then some (k.ss i).blk else none
 | .wait i=>(k.wf i).map (·.blk)
def foot (k:DSk) (b:Nat):Prop:=∃ x,k.at_ x=some b
def arr (k:DSk):Array Value:=((List.range k.n).map fun i=>(k.ss i).val).toArray
theorem arr_def (k:DSk):k.arr=((List.range k.n).map fun i=>(k.ss i).val).toArray:=rfl
theorem arr_size (k:DSk):k.arr.size=k.n:=by simp [arr]
theorem arr_get (k:DSk) (i:Nat) (h:i < k.n):k.arr[i]?=some (k.ss i).val:=by simp [arr,h]
end DSk
def iKey (f:Nat->Option Value) (i:Int):Option Value:=if 0<=i then f i.toNat else none
def dskA (k:DSk) (D:Dsk):Array Value:=#[.slice (some ⟨k.lb,0,none⟩) k.n k.n,.map (some k.wm),.map (some k.rm),.bool D.dead]
structure DiskRep (w:World) (k:DSk) (D:Dsk):Prop where
 len:D.l.length=k.n
 pos:1<=k.n
 small:k.n<=128
 own:w.heap[k.p]?=some (.cells (dskA k D) 243 (0,0))
 arr:w.heap[k.lb]?=some (.cells k.arr 38 (0,0))
 sec:∀ i,i < k.n->SecAt w (k.ss i) (D.l.getD i [])
 wmap:MapI w k.wm (iKey fun i=>(k.wf i).map Spot.val)
 waitS:∀ i s,k.wf i=some s->i < k.n/\∃ l,D.waits i=some l/\SecAt w s l
 waitN:∀ i,k.wf i=none->D.waits i=none
 rmap:∃ g,MapI w k.rm g/\∀ i:Int,(g i).getD (.bool false)=.bool (decide (0<=i) && D.rot i.toNat)
 inj:∀ x y b,k.at_ x=some b->k.at_ y=some b->x=y
namespace DiskRep
variable {w w':World} {k:DSk} {D:Dsk}
theorem same (h:DiskRep w k D) (e:∀ b,k.foot b->w'.heap[b]?=w.heap[b]?):DiskRep w' k D where
 len:=h.len
 pos:=h.pos
 small:=h.small
 own:=(e _ ⟨.p,rfl⟩).trans h.own
 arr:=(e _ ⟨.lb,rfl⟩).trans h.arr
 sec:=fun i hi=>(h.sec i hi).same (e _ ⟨.sec i,by simp [DSk.at_,hi]⟩)
 wmap:=h.wmap.same (e _ ⟨.wm,rfl⟩)
 waitS:=fun i s hs=>by
  obtain ⟨h1,l,h2,h3⟩:=h.waitS i s hs
  exact ⟨h1,l,h2,h3.same (e _ ⟨.wait i,by simp [DSk.at_,hs]⟩)⟩
 waitN:=h.waitN
 rmap:=by
  obtain ⟨g,h1,h2⟩:=h.rmap
  exact ⟨g,h1.same (e _ ⟨.rm,rfl⟩),h2⟩
 inj:=h.inj
theorem lt (h:DiskRep w k D) {b:Nat} (hb:k.foot b):b < w.heap.size:=by
 obtain ⟨x,hx⟩:=hb
 cases x with
 | p=>cases hx; exact lt_of_block h.own
 | lb=>cases hx; exact lt_of_block h.arr
 | wm=>cases hx; exact h.wmap.lt
 | rm=>cases hx; obtain ⟨g,h1,_⟩:=h.rmap; exact h1.lt
 | sec i =>
  simp only [DSk.at_] at hx
  split at hx
  ·
   rename_i hi; cases hx; exact (h.sec i hi).lt
  ·
   cases hx
 | wait i =>
  simp only [DSk.at_,Option.map_eq_some_iff] at hx
  obtain ⟨s,hs,rfl⟩:=hx
  obtain ⟨_,l,_,h3⟩:=h.waitS i s hs
  exact h3.lt
theorem only (h:DiskRep w k D) {F:Nat->Prop} (e:Only F w w') (hn:∀ b,k.foot b->¬F b):DiskRep w' k D :=
 h.same fun b hb=>e.block b (h.lt hb) (hn b hb)
theorem ext (h:DiskRep w k D) (e:Ext w w'):DiskRep w' k D:=h.only e fun _ _ x=>x
theorem ne (h:DiskRep w k D) {x y:Slot} {a b:Nat} (hx:k.at_ x=some a) (hy:k.at_ y=some b) (hne:x≠y):a≠b:=by
 intro e; subst e; exact hne (h.inj x y a hx hy)
theorem cell0 (h:DiskRep w k D):w.cell? ⟨k.p,0,none⟩=some (.slice (some ⟨k.lb,0,none⟩) k.n k.n):=Zaf h.own
theorem cell1 (h:DiskRep w k D):w.cell? ⟨k.p,1,none⟩=some (.map (some k.wm)):=Zaf h.own
theorem cell2 (h:DiskRep w k D):w.cell? ⟨k.p,2,none⟩=some (.map (some k.rm)):=Zaf h.own
theorem cell3 (h:DiskRep w k D):w.cell? ⟨k.p,3,none⟩=some (.bool D.dead):=Zaf h.own
theorem cellS (h:DiskRep w k D) (i:Nat) (hi:i < k.n):w.cell? ⟨k.lb,i,none⟩=some (k.ss i).val:=(Zaf h.arr).trans (k.arr_get i hi)
end DiskRep
structure DiskTo (w:World) (k:DSk) (w':World) (D':Dsk) (k':DSk):Prop where
 rep:DiskRep w' k' D'
 p:k'.p=k.p
 n:k'.n=k.n
 foot:∀ b,k'.foot b->k.foot b\/w.heap.size<=b
 only:Only k.foot w w'
theorem DiskTo.refl {w:World} {k:DSk} {D:Dsk} (h:DiskRep w k D):DiskTo w k w D k:=⟨h,rfl,rfl,fun b hb=>.inl hb,Only.refl _ _⟩
end Go.Proofs.YtgjnnbomnoafcaaGreatDoor
namespace Go.Proofs.YtgjnnbomnoafcaaGreatDoor
set_option linter.unusedVariables false
instance:Inhabited Dsk:=⟨⟨[],fun _=>none,fun _=>false,false⟩⟩
def oErr:Option Err->Value
 | none=>.nilIface
 | some e=>e.val
def okind:Option Err->Int
 | none=>0
 | some e=>e.kind
def sDiskWrite:ByteArray:=⟨#[100,105,115,107,46,87,114,105,116,101]⟩
def sDiskRead:ByteArray:=⟨#[100,105,115,107,46,82,101,97,100]⟩
def sDiskFlush:ByteArray:=⟨#[100,105,115,107,46,70,108,117,115,104]⟩
def sDiskRot:ByteArray:=⟨#[100,105,115,107,46,82,111,116]⟩
def sRackWrite:ByteArray:=⟨#[114,97,99,107,46,87,114,105,116,101]⟩
def sRackFlush:ByteArray:=⟨#[114,97,99,107,46,70,108,117,115,104]⟩
def sRackRead:ByteArray:=⟨#[114,97,99,107,46,82,101,97,100]⟩
namespace Dsk
def refusedE (d:Dsk) (op:ByteArray) (i:Int) (wrong:Bool):Option Err :=
 if d.dead then some (.fault op i (.no 5)) else if wrong || decide (i < 0) || decide ((d.l.length:Int)<=i) then some (.fault op i (.no 1)) else none
end Dsk
structure Rck where
 l:List Dsk
 off:Bool
 fuse:Int
namespace Rck
def has (r:Rck) (i:Int):Bool:=decide (0<=i) && decide (i < (r.l.length:Int))
def dsk (r:Rck) (i:Int):Dsk:=r.l.getD i.toNat default
def up (r:Rck) (i:Int):Bool:=r.has i && !(r.dsk i).dead
def sectors (r:Rck):Nat:=(r.dsk 0).l.length
def online (r:Rck):List Nat:=(List.range r.l.length).filter fun i=>r.up i
def may (r:Rck) (i:Int) (wrong:Bool):Int :=
 if r.has i=false then 1 else if r.off || !r.up i then 5 else if wrong then 1 else if r.fuse=0 then 5 else 0
def asked (r:Rck) (i:Int) (wrong:Bool):Rck :=
 if r.has i=false then r else if r.off || !r.up i then r else if wrong then r else if r.fuse=0 then { r with off:=true } else if 0 < r.fuse then { r with fuse:=r.fuse - 1 } else r
def setD (r:Rck) (i:Int) (d:Dsk):Rck:={ r with l:=r.l.set i.toNat d }
def badW (r:Rck) (s:Int) (b:List Nat):Bool:=decide (s < 0) || decide ((r.sectors:Int)<=s) || decide (b.length≠128)
def write (r:Rck) (i s:Int) (b:List Nat):Option Err × Rck :=
 if r.may i (r.badW s b)=0 then (none,(r.asked i (r.badW s b)).setD i ((r.dsk i).write s.toNat b)) else (some (.fault sRackWrite i (.no (r.may i (r.badW s b)))),r.asked i (r.badW s b))
def flush (r:Rck) (i:Int):Option Err × Rck :=
 if r.may i false=0 then (none,(r.asked i false).setD i (r.dsk i).flush) else (some (.fault sRackFlush i (.no (r.may i false))),r.asked i false)
def readE (r:Rck) (i s:Int):Option Err :=
 if r.has i=false then some (.fault sRackRead i (.no 1)) else if r.off then some (.fault sRackRead i (.no 5)) else ((r.dsk i).refusedE sDiskRead s false).map (.fault sRackRead i)
def read (r:Rck) (i s:Int):Option (List Nat):=if r.readE i s=none then some ((r.dsk i).read s.toNat) else none
def get (r:Rck) (i s kind slot stripe:Int):Option Frm :=
 match (r.read i s).bind Frm.get with
 | some f=>if f.kind=kind/\f.slot=slot/\(0<=stripe->f.stripe=stripe) then some f else none
 | none=>none
def arm (r:Rck) (n:Int):Rck:={ r with fuse:=max n (-1) }
def boot (r:Rck) (bits:List Nat):Rck:=⟨(List.range r.l.length).map fun i=>(r.l.getD i default).crash (bits.getD i 0),false,-1⟩
def die (r:Rck) (i:Int):Rck:=if r.has i then r.setD i (r.dsk i).die else r
def replace (r:Rck) (i:Int):Rck:=if r.has i then r.setD i (r.dsk i).replace else r
def rotOk (r:Rck) (i s at_:Int) (x:Nat):Bool:=r.has i && (r.dsk i).rotOk s at_ x
def rot (r:Rck) (i s at_:Int) (x:Nat):Rck:=if r.rotOk i s at_ x then r.setD i ((r.dsk i).rotted s.toNat at_.toNat x) else r
def new (n m:Nat):Rck:=⟨List.replicate n (Dsk.new m),false,-1⟩
end Rck
open Go Go.RowKit
structure RSk where
 r:Nat
 lb:Nat
 cap:Nat
 n:Nat
 m:Nat
 ks:Nat->DSk
namespace RSk
def foot (K:RSk) (b:Nat):Prop:=b=K.r\/b=K.lb\/∃ i,i < K.n/\(K.ks i).foot b
def ptr (K:RSk) (i:Nat):Value:=.pointer (some ⟨(K.ks i).p,0,none⟩)
def ptrs (K:RSk):List Value:=(List.range K.n).map K.ptr
theorem ptrs_get (K:RSk) (i:Nat) (h:i < K.n):K.ptrs[i]?=some (K.ptr i):=by simp [ptrs,h]
def val (K:RSk):Value:=.slice (some ⟨K.lb,0,none⟩) K.n K.cap
end RSk
def rckA (K:RSk) (R:Rck):Array Value:=#[K.val,.bool R.off,.int .i64 R.fuse]
structure RackRep (w:World) (K:RSk) (R:Rck):Prop where
 len:R.l.length=K.n
 pos:1<=K.n
 small:K.n<=8
 own:w.heap[K.r]?=some (.cells (rckA K R) 175 (0,0))
 arr:w.ownsRow 0 176 1 K.val K.n K.ptrs
 dsk:∀ i,i < K.n->DiskRep w (K.ks i) (R.l.getD i default)
 secs:∀ i,i < K.n->(K.ks i).n=K.m
 fuse:-1<=R.fuse/\R.fuse<=9223372036854775807
 one:∀ i j b,i < K.n->j < K.n->(K.ks i).foot b->(K.ks j).foot b->i=j
 far:∀ i b,i < K.n->(K.ks i).foot b->b≠K.r/\b≠K.lb
 two:K.r≠K.lb
namespace RackRep
variable {w w':World} {K:RSk} {R:Rck}
theorem arrAt (h:RackRep w K R):∃ cur,w.heap[K.lb]?=some (.cells cur 176 (0,0))/\∀ i,i < K.n->cur[i]?=some (K.ptr i):=by
 rcases h.arr.2 with ⟨h1,_⟩ | ⟨g,cap,cur,h1,_,h2,h3,h4,h5,h6⟩
 ·
  cases h1
 ·
  unfold RSk.val at h1
  cases h1
  refine ⟨cur,h2,fun i hi=>?_⟩
  have:=K.ptrs_get i hi
  rw [<- h6,List.getElem?_take,if_pos (by omega),Array.getElem?_toList] at this
  exact this
theorem same (h:RackRep w K R) (e:∀ b,K.foot b->w'.heap[b]?=w.heap[b]?):RackRep w' K R where
 len:=h.len
 pos:=h.pos
 small:=h.small
 own:=(e _ (.inl rfl)).trans h.own
 arr:=by
  refine ⟨h.arr.1,?_⟩
  rcases h.arr.2 with h' | ⟨g,c,cur,h1,h2,h3,h4⟩
  ·
   exact .inl h'
  ·
   have:=h1; unfold RSk.val at this; cases this
   exact .inr ⟨K.lb,_,cur,rfl,Nat.zero_le _,(e _ (.inr (.inl rfl))).trans h3,h4⟩
 dsk:=fun i hi=>(h.dsk i hi).same fun b hb=>e b (.inr (.inr ⟨i,hi,hb⟩))
 secs:=h.secs
 fuse:=h.fuse
 one:=h.one
 far:=h.far
 two:=h.two
theorem lt (h:RackRep w K R) {b:Nat} (hb:K.foot b):b < w.heap.size:=by
 rcases hb with rfl | rfl | ⟨i,hi,hb⟩
 ·
  exact lt_of_block h.own
 ·
  obtain ⟨cur,h1,_⟩:=h.arrAt; exact lt_of_block h1
 ·
  exact (h.dsk i hi).lt hb
theorem only (h:RackRep w K R) {F:Nat->Prop} (e:Only F w w') (hn:∀ b,K.foot b->¬F b):RackRep w' K R :=
 h.same fun b hb=>e.block b (h.lt hb) (hn b hb)
theorem ext (h:RackRep w K R) (e:Ext w w'):RackRep w' K R:=h.only e fun _ _ x=>x
theorem cell0 (h:RackRep w K R):w.cell? ⟨K.r,0,none⟩=some (.slice (some ⟨K.lb,0,none⟩) K.n K.cap):=Zaf h.own
theorem cell1 (h:RackRep w K R):w.cell? ⟨K.r,1,none⟩=some (.bool R.off):=Zaf h.own
theorem cell2 (h:RackRep w K R):w.cell? ⟨K.r,2,none⟩=some (.int .i64 R.fuse):=Zaf h.own
theorem cellP (h:RackRep w K R) (i:Nat) (hi:i < K.n):w.cell? ⟨K.lb,i,none⟩=some (.pointer (some ⟨(K.ks i).p,0,none⟩)):=by
 obtain ⟨cur,h1,h2⟩:=h.arrAt
 exact (Zaf h1).trans (h2 i hi)
def upd (K:RSk) (i:Nat) (k':DSk):RSk:={ K with ks:=fun j=>if j=i then k' else K.ks j }
theorem to (h:RackRep w K R) {i:Nat} (hi:i < K.n) {D':Dsk} {k':DSk} (t:DiskTo w (K.ks i) w' D' k'):RackRep w' (upd K i k') { R with l:=R.l.set i D' }:=by
 have hnot:∀ b,b < w.heap.size->¬(K.ks i).foot b->w'.heap[b]?=w.heap[b]?:=fun b hb hn=>t.only.block b hb hn
 have hother:∀ j,j < K.n->j≠i->∀ b,(K.ks j).foot b->w'.heap[b]?=w.heap[b]?:=fun j hj hne b hb=>hnot b ((h.dsk j hj).lt hb) (fun hf=>hne (h.one j i b hj hi hb hf))
 have hptr:∀ j,(upd K i k').ptr j=K.ptr j:=fun j=>by
  unfold RSk.ptr upd
  by_cases hj:j=i
  ·
   subst hj; simp [t.p]
  ·
   simp [hj]
 have hptrs:(upd K i k').ptrs=K.ptrs:=by unfold RSk.ptrs; exact List.map_congr_left fun j _=>hptr j
 have hfar:∀ j b,j < K.n->((upd K i k').ks j).foot b->(K.ks j).foot b\/(j=i/\w.heap.size<=b):=fun j b hj hb=>by
  unfold upd at hb
  by_cases hji:j=i
  ·
   subst hji
   simp only [if_true] at hb
   rcases t.foot b hb with h1 | h1
   ·
    exact .inl h1
   ·
    exact .inr ⟨rfl,h1⟩
  ·
   simp only [hji,if_false] at hb; exact .inl hb
 have hr:=h.lt (b:=K.r) (.inl rfl)
 have hlb:=h.lt (b:=K.lb) (.inr (.inl rfl))
 refine ⟨by simp [upd,h.len],h.pos,h.small,?_,?_,?_,?_,h.fuse,?_,?_,h.two⟩
 ·
  exact (hnot K.r hr (fun hf=>(h.far i _ hi hf).1 rfl)).trans h.own
 ·
  have e:=hnot K.lb hlb (fun hf=>(h.far i _ hi hf).2 rfl)
  rw [hptrs]
  refine ⟨h.arr.1,?_⟩
  rcases h.arr.2 with h' | ⟨g,c,cur,h1,h2,h3,h4⟩
  ·
   exact .inl h'
  ·
   have:=h1; unfold RSk.val at this; cases this
   exact .inr ⟨K.lb,_,cur,rfl,Nat.zero_le _,e.trans h3,h4⟩
 ·
  intro j hj
  by_cases hji:j=i
  ·
   subst hji
   have:(R.l.set j D').getD j default=D':=by simp [List.getD_eq_getElem?_getD,h.len,show j < K.n from hj]
   show DiskRep w' (if j=j then k' else K.ks j) _
   rw [if_pos rfl,this]; exact t.rep
  ·
   have:(R.l.set i D').getD j default=R.l.getD j default:=by simp [List.getD_eq_getElem?_getD,List.getElem?_set_ne (Ne.symm hji)]
   show DiskRep w' (if j=i then k' else K.ks j) _
   rw [if_neg hji,this]; exact (h.dsk j hj).same fun b hb=>hother j hj hji b hb
 ·
  intro j hj
  show (if j=i then k' else K.ks j).n=K.m
  by_cases hji:j=i
  ·
   subst hji; rw [if_pos rfl,t.n]; exact h.secs j hj
  ·
   rw [if_neg hji]; exact h.secs j hj
 ·
  intro j l b hj hl hb hb'
  rcases hfar j b hj hb with h1 | ⟨h1,h2⟩
  ·
   rcases hfar l b hl hb' with h3 | ⟨h3,h4⟩
   ·
    exact h.one j l b hj hl h1 h3
   ·
    have:=(h.dsk j hj).lt h1; omega
  ·
   rcases hfar l b hl hb' with h3 | ⟨h3,h4⟩
   ·
    have:=(h.dsk l hl).lt h3; omega
   ·
    rw [h1,h3]
 ·
  intro j b hj hb
  rcases hfar j b hj hb with h1 | ⟨_,h2⟩
  ·
   exact h.far j b hj h1
  ·
   show b≠K.r/\b≠K.lb
   omega
theorem to_foot (h:RackRep w K R) {i:Nat} (hi:i < K.n) {D':Dsk} {k':DSk} (t:DiskTo w (K.ks i) w' D' k'):∀ b,(upd K i k').foot b->K.foot b\/w.heap.size<=b:=by
 intro b hb
 rcases hb with h1 | h1 | ⟨j,hj,hb⟩
 ·
  exact .inl (.inl h1)
 ·
  exact .inl (.inr (.inl h1))
 ·
  unfold upd at hb
  by_cases hji:j=i
  ·
   subst hji
   simp only [if_true] at hb
   rcases t.foot b hb with h1 | h1
   ·
    exact .inl (.inr (.inr ⟨j,hj,h1⟩))
   ·
    exact .inr h1
  ·
   simp only [hji,if_false] at hb; exact .inl (.inr (.inr ⟨j,hj,hb⟩))
end RackRep
structure RackAt (S:Nat->Prop) (w:World) (r:Nat) (R:Rck):Prop where
 there:∀ b,S b->b < w.heap.size
 rep:∃ K:RSk,K.r=r/\RackRep w K R/\∀ b,K.foot b->¬S b
abbrev Keeps (S:Nat->Prop) (w w':World):Prop:=Only (fun b=>¬S b) w w'
theorem RackAt.only {S F:Nat->Prop} {w w':World} {r:Nat} {R:Rck} (h:RackAt S w r R) (e:Only F w w') (hF:∀ b,F b->S b):RackAt S w' r R:=by
 obtain ⟨h0,K,h1,h2,h3⟩:=h
 exact ⟨fun b hb=>Nat.lt_of_lt_of_le (h0 b hb) e.size,K,h1,h2.only e fun b hb hf=>h3 b hb (hF b hf),h3⟩
theorem RackAt.ext {S:Nat->Prop} {w w':World} {r:Nat} {R:Rck} (h:RackAt S w r R) (e:Ext w w'):RackAt S w' r R:=h.only e fun _ x=>x.elim
theorem RackAt.more {S T:Nat->Prop} {w w':World} {r:Nat} {R:Rck} (h:RackAt S w r R) (e:Ext w w') (hT:∀ b,T b->b < w'.heap.size/\(S b\/w.heap.size<=b)):RackAt T w' r R:=by
 obtain ⟨h0,K,h1,h2,h3⟩:=h
 refine ⟨fun b hb=>(hT b hb).1,K,h1,h2.ext e,fun b hb ht=>?_⟩
 rcases (hT b ht).2 with h4 | h4
 ·
  exact h3 b hb h4
 ·
  have:=h2.lt hb; omega
theorem RackAt.less {S T:Nat->Prop} {w:World} {r:Nat} {R:Rck} (h:RackAt S w r R) (hT:∀ b,T b->S b):RackAt T w r R:=by
 obtain ⟨h0,K,h1,h2,h3⟩:=h
 exact ⟨fun b hb=>h0 b (hT b hb),K,h1,h2,fun b hb ht=>h3 b hb (hT b ht)⟩
theorem RackAt.into {S:Nat->Prop} {w w':World} {K K':RSk} {R':Rck} (h0:∀ b,S b->b < w.heap.size) (h3:∀ b,K.foot b->¬S b) (hr:K'.r=K.r) (h:RackRep w' K' R') (hf:∀ b,K'.foot b->K.foot b\/w.heap.size<=b) (e:Only K.foot w w') :
  RackAt S w' K.r R'/\Keeps S w w' :=
 ⟨⟨fun b hb=>Nat.lt_of_lt_of_le (h0 b hb) e.size,K',hr,h,fun b hb hs=>by
  rcases hf b hb with h1 | h1
  ·
   exact h3 b h1 hs
  ·
   have:=h0 b hs; omega⟩,e.mono fun b _ hb=>h3 b hb⟩
end Go.Proofs.YtgjnnbomnoafcaaGreatDoor
namespace Go.Proofs.YtgjnnbomnoafcaaGreatDoor
set_option linter.unusedVariables false
open Go Go.RowKit
def ClonePost (w:World) (n:Nat) (l:List Nat) (e:Ending) (w':World):Prop :=
 ∃ s:Spot,e=.returned (.slice (some ⟨s.blk,0,none⟩) n s.cap)/\w.heap.size<=s.blk/\w'.ownsRow 0 5 1 (.slice (some ⟨s.blk,0,none⟩) n s.cap) n (l.map bv)/\Ext w w'
set_option maxRecDepth 100000 in
theorem clone_c (b off c n:Nat) (l:List Nat) (w:World) (h:BytesAt w (some ⟨b,off,none⟩) n l) :
  Calls Tryz.prog 175 #[.slice (some ⟨b,off,none⟩) n c] w (ClonePost w n l):=by
 have hE:∀ W,(binOp .eql 38 (.slice (some ⟨b,off,none⟩) n c) (.slice none 0 0)).run Tryz.prog W=.ok (.bool false) W:=fun W=>Lib.run_eql_slice_nil W _ _ _ _ _ _ _ Tryz.underlying38
 obtain ⟨p,pc,v2,hap,hown,hon,hgp⟩:=Zbb (w.alloc (.cells #[] 5)) w.heap.size Zad (some ⟨b,off,none⟩) n c l (h.ext ((Ext.refl w).alloc _))
 have HO:=hid hown; have HN:=hid hon
 clear hown hon
 go_enter Tryz.func175,Tryz.ntmps175
 go_wp2_with (refine wpList_append_run rfl _ _ _ rfl _ _ _ _ rfl rfl hap ?_)
 go_ret
 exact ⟨⟨p,pc⟩,rfl,hgp,HO.out,Ext.then ((Ext.refl w).alloc _) HN.out (fun i hi e=>by have:i=w.heap.size:=e; omega)⟩
theorem Zba {w:World} {k:DSk} {D:Dsk} (h:DiskRep w k D) (op:ByteArray) (i:Int) (wrong:Bool) :
  Calls Tryz.prog 174 #[.pointer (some ⟨k.p,0,none⟩),.string op,.int .i64 i,.bool wrong] w fun e w'=>e=.returned (oErr (D.refusedE op i wrong))/\w=w':=by
 have c0:=h.cell0
 have c3:=h.cell3
 have hl:=h.len
 have H:Hid (D.refusedE op i wrong=if D.dead then some (.fault op i (.no 5)) else if wrong || decide (i < 0) || decide ((k.n:Int)<=i) then some (.fault op i (.no 1)) else none):=hid (by unfold Dsk.refusedE; rw [hl])
 rw [H.out]
 have hs:=h.small
 clear H hl h
 rcases hd:D.dead with _ | _
 ·
  rw [hd] at c3
  clear hd
  rcases wrong with _ | _
  ·
   by_cases hi:i < 0
   ·
    have H2:Hid ((if false=true then some (Err.fault op i (Err.no 5)) else if (false || decide (i < 0) || decide ((k.n:Int)<=i))=true then some (Err.fault op i (Err.no 1)) else none)=some (Err.fault op i (Err.no 1))):=hid (by simp [hi])
    rw [H2.out]
    go_enter Tryz.func174,Tryz.ntmps174
    go_wp2_with (go_at_call 97; refine (Za2 op i (.no 1) _).mono ?_; rintro e w' ⟨rfl,rfl⟩)
    go_ret
    exact ⟨rfl,rfl⟩
   ·
    by_cases hn:(k.n:Int)<=i
    ·
     have H2:Hid ((if false=true then some (Err.fault op i (Err.no 5)) else if (false || decide (i < 0) || decide ((k.n:Int)<=i))=true then some (Err.fault op i (Err.no 1)) else none)=some (Err.fault op i (Err.no 1))):=hid (by simp [hn])
     rw [H2.out]
     go_enter Tryz.func174,Tryz.ntmps174
     go_wp2_with (go_at_call 97; refine (Za2 op i (.no 1) _).mono ?_; rintro e w' ⟨rfl,rfl⟩)
     go_ret
     exact ⟨rfl,rfl⟩
    ·
     have H2:Hid ((if false=true then some (Err.fault op i (Err.no 5)) else if (false || decide (i < 0) || decide ((k.n:Int)<=i))=true then some (Err.fault op i (Err.no 1)) else none)=none):=hid (by simp [hi,hn])
     rw [H2.out]
     go_enter Tryz.func174,Tryz.ntmps174
     go_wp2_with (go_at_call 97; refine (Za2 op i (.no 1) _).mono ?_; rintro e w' ⟨rfl,rfl⟩)
     go_ret
     exact ⟨rfl,rfl⟩
  ·
   have H2:Hid ((if false=true then some (Err.fault op i (Err.no 5)) else if (true || decide (i < 0) || decide ((k.n:Int)<=i))=true then some (Err.fault op i (Err.no 1)) else none)=some (Err.fault op i (Err.no 1))):=hid (by simp)
   rw [H2.out]
   go_enter Tryz.func174,Tryz.ntmps174
   go_wp2_with (go_at_call 97; refine (Za2 op i (.no 1) _).mono ?_; rintro e w' ⟨rfl,rfl⟩)
   go_ret
   exact ⟨rfl,rfl⟩
 ·
  rw [hd] at c3
  clear hd
  rw [if_pos rfl]
  go_enter Tryz.func174,Tryz.ntmps174
  go_wp2_with (go_at_call 97; refine (Za2 op i (.no 5) _).mono ?_; rintro e w' ⟨rfl,rfl⟩)
  go_ret
  exact ⟨rfl,rfl⟩
theorem dsectors_c {w:World} {k:DSk} {D:Dsk} (h:DiskRep w k D) :
  Calls Tryz.prog 128 #[.pointer (some ⟨k.p,0,none⟩)] w fun e w'=>e=.returned (.int .i64 k.n)/\w=w':=by
 have c0:=h.cell0
 clear h
 go_enter Tryz.func128,Tryz.ntmps128
 go_wp2
 go_ret
 exact ⟨rfl,rfl⟩
theorem ddead_c {w:World} {k:DSk} {D:Dsk} (h:DiskRep w k D) :
  Calls Tryz.prog 123 #[.pointer (some ⟨k.p,0,none⟩)] w fun e w'=>e=.returned (.bool D.dead)/\w=w':=by
 have c3:=h.cell3
 clear h
 go_enter Tryz.func123,Tryz.ntmps123
 go_wp2
 go_ret
 exact ⟨rfl,rfl⟩
theorem keyI:Tryz.prog.underlying 3=some (.int .i64):=Tryz.underlying3
theorem zeroS (w:World):(zeroValue 38).run Tryz.prog w=.ok (.slice none 0 0) w:=by kernel_rfl
theorem zeroB (w:World):(zeroValue 4).run Tryz.prog w=.ok (.bool false) w:=by kernel_rfl
def DSk.wv (k:DSk) (i:Int):Option Value:=iKey (fun i=>(k.wf i).map Spot.val) i
theorem DSk.wv_some {k:DSk} {i:Nat} {s:Spot} (h:k.wf i=some s):k.wv i=some s.val:=by simp [DSk.wv,iKey,h]
theorem DSk.wv_none {k:DSk} {i:Nat} (h:k.wf i=none):k.wv i=none:=by simp [DSk.wv,iKey,h]
theorem DiskRep.waits_ok {w:World} {k:DSk} {D:Dsk} (h:DiskRep w k D) (i:Int) :
  (Instr.lookup 193 (.map (some k.wm)) (.int .i64 i) true).run Tryz.prog w=.ok (.tuple #[(k.wv i).getD (.slice none 0 0),.bool (k.wv i).isSome]) w :=
 h.wmap.run_look Tryz.underlying193 keyI (zeroS w) i true
theorem DiskRep.written {w W W':World} {k:DSk} {D:Dsk} (h:DiskRep w k D) {i:Nat} (hi:i < k.n) {s:Spot} {l:List Nat} (hx:Ext w W) (hs:SecAt W s l) (hnew:w.heap.size<=s.blk)
  (hm:MapI W' k.wm (fun j=>if j=(i:Int) then some s.val else k.wv j)) (ho:Only (fun b=>b=k.wm) W W') :
  DiskTo w k W' (D.write i l) { k with wf:=fun j=>if j=i then some s else k.wf j }:=by
 have hW:=h.ext hx
 have hkeep:∀ b,b≠k.wm->b < W.heap.size->W'.heap[b]?=W.heap[b]?:=fun b hb hl=>ho.block b hl hb
 have hnot:∀ x b,k.at_ x=some b->x≠.wm->W'.heap[b]?=W.heap[b]?:=fun x b hb hne=>hkeep b (fun e=>hne (h.inj x .wm b hb (by rw [e]; rfl))) (hW.lt ⟨x,hb⟩)
 have hold:∀ x b,k.at_ x=some b->b≠s.blk:=fun x b hb=>by have:=h.lt ⟨x,hb⟩; omega
 refine ⟨⟨h.len,h.pos,h.small,?_,?_,?_,?_,?_,?_,?_,?_⟩,rfl,rfl,?_,?_⟩
 ·
  exact (hnot .p _ rfl (by simp)).trans hW.own
 ·
  exact (hnot .lb _ rfl (by simp)).trans hW.arr
 ·
  intro j hj
  exact (hW.sec j hj).same (hnot (.sec j) _ (by simp [DSk.at_,show j < k.n from hj]) (by simp))
 ·
  have e:(iKey fun j=>((if j=i then some s else k.wf j).map Spot.val))=fun j:Int=>if j=(i:Int) then some s.val else k.wv j:=by
   funext j
   unfold iKey DSk.wv iKey
   by_cases hj:0<=j
   ·
    simp only [hj,if_true]
    by_cases hji:j=(i:Int)
    ·
     subst hji; simp
    ·
     have:j.toNat≠i:=by omega
     simp [this,hji]
   ·
    have:j≠(i:Int):=by omega
    simp [hj,this]
  show MapI W' k.wm (iKey fun j=>((if j=i then some s else k.wf j).map Spot.val))
  rw [e]; exact hm
 ·
  intro j t ht
  by_cases hj:j=i
  ·
   subst hj
   simp only [if_true,Option.some.injEq] at ht
   subst ht
   refine ⟨hi,l,by simp [Dsk.write],hs.same (hkeep _ (fun e=>?_) hs.lt)⟩
   exact hold .wm _ rfl e.symm
  ·
   simp only [hj,if_false] at ht
   obtain ⟨h1,l',h2,h3⟩:=hW.waitS j t ht
   exact ⟨h1,l',by simp [Dsk.write,hj,h2],h3.same (hnot (.wait j) _ (by simp [DSk.at_,ht]) (by simp))⟩
 ·
  intro j hj
  by_cases hji:j=i
  ·
   simp [hji] at hj
  ·
   simp only [hji,if_false] at hj
   simp [Dsk.write,hji,h.waitN j hj]
 ·
  obtain ⟨g,h1,h2⟩:=hW.rmap
  exact ⟨g,h1.same (hnot .rm _ rfl (by simp)),h2⟩
 ·
  have key:∀ x b,({ k with wf:=fun j=>if j=i then some s else k.wf j }:DSk).at_ x=some b->(x=.wait i/\b=s.blk)\/k.at_ x=some b:=by
   intro x b hb
   cases x with
   | wait j =>
    by_cases hj:j=i
    ·
     subst hj; simp [DSk.at_] at hb; exact .inl ⟨rfl,hb.symm⟩
    ·
     simp [DSk.at_,hj] at hb; exact .inr (by simpa [DSk.at_] using hb)
   | _=>exact .inr hb
  intro x y b hx' hy'
  rcases key x b hx' with ⟨h1,h2⟩ | h1
  ·
   rcases key y b hy' with ⟨h3,h4⟩ | h3
   ·
    rw [h1,h3]
   ·
    exact absurd h2 (hold y b h3)
  ·
   rcases key y b hy' with ⟨h3,h4⟩ | h3
   ·
    exact absurd h4 (hold x b h1)
   ·
    exact h.inj x y b h1 h3
 ·
  intro b ⟨x,hb⟩
  cases x with
  | wait j =>
   by_cases hj:j=i
   ·
    subst hj; simp [DSk.at_] at hb; exact .inr (by omega)
   ·
    simp [DSk.at_,hj] at hb; exact .inl ⟨.wait j,by simpa [DSk.at_] using hb⟩
  | p=>exact .inl ⟨.p,hb⟩
  | lb=>exact .inl ⟨.lb,hb⟩
  | wm=>exact .inl ⟨.wm,hb⟩
  | rm=>exact .inl ⟨.rm,hb⟩
  | sec j=>exact .inl ⟨.sec j,hb⟩
 ·
  refine hx.only.trans (ho.mono (G:=k.foot) fun b _ hb=>⟨.wm,by rw [hb]; rfl⟩) fun _ _ x=>x
def DWritePost (w:World) (k:DSk) (D':Dsk) (e:Ending) (w':World):Prop:=e=.returned .nilIface/\∃ k',DiskTo w k w' D' k'
set_option maxHeartbeats 600000 in
theorem dwrite_c {w:World} {k:DSk} {D:Dsk} (h:DiskRep w k D) (hd:D.dead=false) (i:Nat) (hi:i < k.n) (b off c:Nat) (l:List Nat) (hb:BytesAt w (some ⟨b,off,none⟩) 128 l) :
  Calls Tryz.prog 108 #[.pointer (some ⟨k.p,0,none⟩),.int .i64 i,.slice (some ⟨b,off,none⟩) 128 c] w (DWritePost w k (D.write i l)):=by
 have hr:D.refusedE sDiskWrite i false=none:=by
  unfold Dsk.refusedE; rw [hd,h.len]; simp; omega
 have HR:=hid hr; have H:=hid h; have HB:=hid hb; have HI:=hid hi
 have c1:∀ x:SW Ext w.drew,x.w.cell? ⟨k.p,1,none⟩=some (.map (some k.wm)):=fun x=>(h.ext (Ext.trans (Ext.refl w).drew x.ext)).cell1
 clear hr h hb hi hd
 go_enter Tryz.func108,Tryz.ntmps108
 go_wp2_with (go_at_call 174; refine (Zba H.out sDiskWrite i false).mono ?_; rintro e w' ⟨rfl,rfl⟩; rw [HR.out]; simp only [oErr])
 refine Zan (S:=Ext) 7 (.one [0,1,2,3,4,5] 6 (.fin [])) (by kernel_rfl) (by kernel_rfl) (fun _ _ d _ _ h=>by cases d<;>exact h) ?_
 rw [wpS]
 simp only [opsAt,opA,opB,opC,opD,opE,opF,opG]
 iterate 6 ((refine Zaa (fun K hK=>?_); go_simp; refine hK _ ?_; clear hK K))
 refine Zac ?_
 intro W1 hW1
 have hw1:Ext w W1:=Ext.trans (Ext.refl w).drew hW1
 refine Zat fun K hK=>?_
 go_wp2_with fail
 refine (clone_c b off c 128 l W1 (HB.out.ext hw1)).mono ?_
 rintro e W2 ⟨s,rfl,hsb,hown,hx2⟩
 go_wp2
 refine hK _ _ hx2 ?_
 clear hK K
 rw [wpS]
 simp only [opsAt,List.map_nil]
 refine Zac ?_
 intro W3 hx3
 have hw3:Ext w W3:=Ext.trans hw1 (Ext.trans hx2 hx3)
 have hsec:SecAt W3 s l:=(show SecAt W2 s l from ⟨HB.out.len,HB.out.byte,hown⟩).same (hx3.block s.blk (owns_lt hown) (fun x=>x))
 have hnew:w.heap.size<=s.blk:=Nat.le_trans hw1.size hsb
 obtain ⟨W4,hrun,hm4,ho4⟩:=(H.out.ext hw3).wmap.run_set (P:=Tryz.prog) (e:=38) Tryz.underlying193 keyI i (.slice (some ⟨s.blk,0,none⟩) 128 s.cap)
 have HF:=hid (H.out.written HI.out hw3 hsec hnew hm4 ho4)
 clear hsec hm4 ho4 hown hx2 hx3 c1
 go_wp2
 go_ret
 exact ⟨rfl,_,HF.out⟩
def DReadPost (w:World) (D:Dsk) (i:Int) (e:Ending) (w':World):Prop :=
 (∃ er,D.refusedE sDiskRead i false=some er/\e=.returned (.tuple #[.slice none 0 0,er.val])/\Ext w w') ∨
 (D.refusedE sDiskRead i false=none/\∃ s:Spot,e=.returned (.tuple #[.slice (some ⟨s.blk,0,none⟩) 128 s.cap,.nilIface])/\w.heap.size<=s.blk/\SecAt w' s (D.read i.toNat)/\Ext w w')
theorem Zb4 {D:Dsk} {op:ByteArray} {i:Int} {wrong:Bool} (h:D.refusedE op i wrong=none):D.dead=false/\wrong=false/\∃ j:Nat,i=j/\j < D.l.length:=by
 unfold Dsk.refusedE at h
 cases hd:D.dead
 ·
  rw [hd] at h
  rw [if_neg (by simp)] at h
  split at h
  ·
   cases h
  ·
   rename_i hc
   simp only [Bool.or_eq_true,decide_eq_true_eq,not_or,Bool.not_eq_true] at hc
   exact ⟨rfl,hc.1.1,i.toNat,by omega,by omega⟩
 ·
  rw [hd] at h; simp at h
set_option maxHeartbeats 600000 in
theorem dread_c {w:World} {k:DSk} {D:Dsk} (h:DiskRep w k D) (i:Int) :
  Calls Tryz.prog 127 #[.pointer (some ⟨k.p,0,none⟩),.int .i64 i] w (DReadPost w D i):=by
 have H:=hid h
 rcases hr:D.refusedE sDiskRead i false with _ | er
 ·
  obtain ⟨_,_,j,rfl,hj⟩:=Zb4 hr
  rw [h.len] at hj
  have HR:=hid hr
  have hj0:(0:Int)<=(j:Int):=by omega
  have hj1:(j:Int) < (k.n:Int):=by omega
  have c0:=h.cell0
  have c1:=h.cell1
  have cS:=h.cellS j hj
  unfold Spot.val at cS
  rcases hw:k.wf j with _ | s
  ·
   have hl:=h.waits_ok j
   rw [DSk.wv_none hw] at hl
   simp only [Option.getD_none,Option.isSome_none] at hl
   have HB:=hid (h.sec j hj)
   have HV:Hid (D.read j=D.l.getD j []):=hid (by unfold Dsk.read; rw [h.waitN j hw]; rfl)
   clear hr h hj hw
   go_enter Tryz.func127,Tryz.ntmps127
   go_wp2_with (first
    | (go_at_call 174; refine (Zba H.out sDiskRead j false).mono ?_; rintro e w' ⟨rfl,rfl⟩; rw [HR.out]; simp only [oErr])
    | (go_at_call 175; refine (clone_c _ 0 _ 128 _ w HB.out.bytes).mono ?_; rintro e w2 ⟨s2,rfl,hb2,ho2,hx2⟩; have HO2:=hid ho2; have HX2:=hid hx2; clear ho2 hx2))
   go_ret2
   exact .inr ⟨HR.out,s2,rfl,hb2,by rw [Int.toNat_natCast,HV.out]; exact ⟨HB.out.1,HB.out.2.1,HO2.out⟩,HX2.out⟩
  ·
   have hl:=h.waits_ok j
   rw [DSk.wv_some hw] at hl
   simp only [Option.getD_some,Option.isSome_some,Spot.val] at hl
   obtain ⟨_,l,hlw,hsec⟩:=h.waitS j s hw
   have HB:=hid hsec
   have HV:Hid (D.read j=l):=hid (by unfold Dsk.read; rw [hlw]; rfl)
   clear hr h hj hw hsec hlw
   go_enter Tryz.func127,Tryz.ntmps127
   go_wp2_with (first
    | (go_at_call 174; refine (Zba H.out sDiskRead j false).mono ?_; rintro e w' ⟨rfl,rfl⟩; rw [HR.out]; simp only [oErr])
    | (go_at_call 175; refine (clone_c _ 0 _ 128 _ w HB.out.bytes).mono ?_; rintro e w2 ⟨s2,rfl,hb2,ho2,hx2⟩; have HO2:=hid ho2; have HX2:=hid hx2; clear ho2 hx2))
   go_ret2
   exact .inr ⟨HR.out,s2,rfl,hb2,by rw [Int.toNat_natCast,HV.out]; exact ⟨HB.out.1,HB.out.2.1,HO2.out⟩,HX2.out⟩
 ·
  have HR:=hid hr
  obtain ⟨t2,v2,hq⟩:∃ t v,er.val=.iface t v:=by cases er<;>exact ⟨_,_,rfl⟩
  have HQ:=hid hq
  clear hr h hq
  go_enter Tryz.func127,Tryz.ntmps127
  go_wp2_with (go_at_call 174; refine (Zba H.out sDiskRead i false).mono ?_; rintro e w' ⟨rfl,rfl⟩; rw [HR.out]; simp only [oErr,HQ.out])
  go_ret2
  exact .inl ⟨er,HR.out,by rw [HQ.out]; rfl,Ext.refl _⟩
structure Mid (w0 w:World) (k:DSk) (D:Dsk) (dn:Nat->Bool):Prop where
 only:Only (fun b=>b=k.lb\/b=k.rm) w0 w
 arr:w.heap[k.lb]?=some (.cells ((List.range k.n).map fun i=>(if dn i then (k.wf i).getD (k.ss i) else k.ss i).val).toArray 38 (0,0))
 rmap:∃ g,MapI w k.rm g/\∀ i:Int,(g i).getD (.bool false)=.bool (decide (0<=i) && (if dn i.toNat && (D.waits i.toNat).isSome then false else D.rot i.toNat))
namespace Mid
variable {w0 w w':World} {k:DSk} {D:Dsk} {dn:Nat->Bool}
theorem start (h:DiskRep w0 k D):Mid w0 w0 k D fun _=>false:=⟨Only.refl _ _,h.arr,by obtain ⟨g,h1,h2⟩:=h.rmap; exact ⟨g,h1,fun i=>by simpa using h2 i⟩⟩
theorem ext (h0:DiskRep w0 k D) (h:Mid w0 w k D dn) (e:Ext w w'):Mid w0 w' k D dn :=
 ⟨Only.ext h.only e,e.at h.arr,by obtain ⟨g,h1,h2⟩:=h.rmap; exact ⟨g,h1.same (e.block _ h1.lt (fun x=>x)),h2⟩⟩
theorem new {F:Nat->Prop} (h0:DiskRep w0 k D) (h:Mid w0 w k D dn) (e:Only F w w') (hF:∀ b,F b->w0.heap.size<=b):Mid w0 w' k D dn:=by
 have hk:∀ x b,k.at_ x=some b->w'.heap[b]?=w.heap[b]?:=fun x b hx=>by
  have:=h0.lt ⟨x,hx⟩
  exact e.block b (Nat.lt_of_lt_of_le this h.only.size) (fun hf=>by have:=hF b hf; omega)
 refine ⟨h.only.trans e fun i hi hf=>by have:=hF i hf; omega,(hk .lb _ rfl).trans h.arr,?_⟩
 obtain ⟨g,h1,h2⟩:=h.rmap
 exact ⟨g,h1.same (hk .rm _ rfl),h2⟩
theorem congr {dn':Nat->Bool} (h0:DiskRep w0 k D) (h:Mid w0 w k D dn) (e:∀ i,(k.wf i).isSome=true->dn i=dn' i):Mid w0 w k D dn':=by
 have h1:∀ i,(if dn i then (k.wf i).getD (k.ss i) else k.ss i)=if dn' i then (k.wf i).getD (k.ss i) else k.ss i:=fun i=>by
  rcases hw:k.wf i with _ | s
  ·
   simp
  ·
   rw [e i (by rw [hw]; rfl)]
 refine ⟨h.only,?_,?_⟩
 ·
  simp only [<- h1]; exact h.arr
 ·
  obtain ⟨g,h2,h3⟩:=h.rmap
  refine ⟨g,h2,fun i=>?_⟩
  rw [h3 i]
  rcases hw:k.wf i.toNat with _ | s
  ·
   rw [h0.waitN _ hw]; simp
  ·
   rw [e i.toNat (by rw [hw]; rfl)]
theorem at_ (h0:DiskRep w0 k D) (h:Mid w0 w k D dn) (x:Slot) (b:Nat) (hx:k.at_ x=some b) (h1:x≠.lb) (h2:x≠.rm):w.heap[b]?=w0.heap[b]? :=
 h.only.block b (h0.lt ⟨x,hx⟩) fun e=>by
  rcases e with e | e
  ·
   exact h1 (h0.inj x .lb b hx (by rw [e]; rfl))
  ·
   exact h2 (h0.inj x .rm b hx (by rw [e]; rfl))
theorem cell0 (h0:DiskRep w0 k D) (h:Mid w0 w k D dn):w.cell? ⟨k.p,0,none⟩=some (.slice (some ⟨k.lb,0,none⟩) k.n k.n):=Zaf ((h.at_ h0 .p _ rfl (by simp) (by simp)).trans h0.own)
theorem cell1 (h0:DiskRep w0 k D) (h:Mid w0 w k D dn):w.cell? ⟨k.p,1,none⟩=some (.map (some k.wm)):=Zaf ((h.at_ h0 .p _ rfl (by simp) (by simp)).trans h0.own)
theorem cell2 (h0:DiskRep w0 k D) (h:Mid w0 w k D dn):w.cell? ⟨k.p,2,none⟩=some (.map (some k.rm)):=Zaf ((h.at_ h0 .p _ rfl (by simp) (by simp)).trans h0.own)
theorem wmap (h0:DiskRep w0 k D) (h:Mid w0 w k D dn):MapI w k.wm (iKey fun i=>(k.wf i).map Spot.val):=h0.wmap.same (h.at_ h0 .wm _ rfl (by simp) (by simp))
theorem waits_v (h0:DiskRep w0 k D) (h:Mid w0 w k D dn) (i:Int) :
  (Instr.lookup 193 (.map (some k.wm)) (.int .i64 i) false).run Tryz.prog w=.ok ((k.wv i).getD (.slice none 0 0)) w :=
 (h.wmap h0).run_look Tryz.underlying193 keyI (zeroS w) i false
theorem lbrm (h0:DiskRep w0 k D):k.lb≠k.rm:=h0.ne (x:=.lb) (y:=.rm) rfl rfl (by simp)
theorem plb (h0:DiskRep w0 k D):k.p≠k.lb:=h0.ne (x:=.p) (y:=.lb) rfl rfl (by simp)
theorem prm (h0:DiskRep w0 k D):k.p≠k.rm:=h0.ne (x:=.p) (y:=.rm) rfl rfl (by simp)
theorem put (h0:DiskRep w0 k D) (h:Mid w0 w k D dn) {W W':World} (hx:Ext w W) {i:Nat} (hi:i < k.n) {s:Spot} (hs:k.wf i=some s)
  {g:Int->Option Value} (h2:∀ i:Int,(g i).getD (.bool false)=.bool (decide (0<=i) && (if dn i.toNat && (D.waits i.toNat).isSome then false else D.rot i.toNat))) (hm:MapI W' k.rm fun j=>if j=(i:Int) then some (.bool false) else g j) (ho:Only (fun b=>b=k.rm) (W.setCell ⟨k.lb,i,none⟩ s.val) W') :
  Mid w0 W' k D fun j=>dn j || j == i:=by
 have hW:=h.ext h0 hx
 have hO:Only (fun b=>b=k.lb\/b=k.rm) w0 (W.setCell ⟨k.lb,i,none⟩ s.val):=hW.only.setCell (.inr (.inl rfl)) s.val
 refine ⟨hO.trans (ho.mono (G:=fun b=>b=k.lb\/b=k.rm) fun b _ e=>.inr e) fun _ _ x=>x,?_,?_⟩
 ·
  have e1:(W.setCell ⟨k.lb,i,none⟩ s.val).heap[k.lb]?=some (.cells ((List.range k.n).map fun j=>(if dn j || j == i then (k.wf j).getD (k.ss j) else k.ss j).val).toArray 38 (0,0)):=by
   rw [Zar hW.arr]
   congr 2
   apply Array.ext'
   apply List.ext_getElem?
   intro j
   simp only [List.setIfInBounds_toArray,List.getElem?_set,List.getElem?_map,List.length_map,List.length_range]
   by_cases hj:i=j
   ·
    subst hj; simp [hi,hs]
   ·
    by_cases hjn:j < k.n
    ·
     simp [hj,hjn,Ne.symm hj]
    ·
     simp [hj,hjn]
  exact (ho.block k.lb (lt_of_block e1) (lbrm h0)).trans e1
 ·
  refine ⟨_,hm,fun j=>?_⟩
  by_cases hj:j=(i:Int)
  ·
   subst hj
   obtain ⟨_,l,hl,_⟩:=h0.waitS i s hs
   simp [hl]
  ·
   simp only [hj,if_false]
   rw [h2 j]
   by_cases hj0:0<=j
   ·
    have:(j.toNat == i)=false:=by simp; omega
    simp [this]
   ·
    have:decide (0<=j)=false:=by simp; omega
    rw [this,Bool.false_and,Bool.false_and]
end Mid
set_option maxHeartbeats 600000 in
theorem dput_c {w0 w:World} {k:DSk} {D:Dsk} {dn:Nat->Bool} (h0:DiskRep w0 k D) (h:Mid w0 w k D dn) (i:Nat) (hi:i < k.n) (s:Spot) (hs:k.wf i=some s) :
  Calls Tryz.prog 176 #[.pointer (some ⟨k.p,0,none⟩),.int .i64 i] w fun e w'=>e=.returned (.tuple #[])/\Mid w0 w' k D (fun j=>dn j || j == i)/\Only (fun b=>b=k.lb\/b=k.rm) w w':=by
 have M:∀ x:SW Ext w.drew,Mid w0 x.w k D dn:=fun x=>h.ext h0 (Ext.trans (Ext.refl w).drew x.ext)
 have c0:∀ x:SW Ext w.drew,x.w.cell? ⟨k.p,0,none⟩=some (.slice (some ⟨k.lb,0,none⟩) k.n k.n):=fun x=>(M x).cell0 h0
 have c1:∀ x:SW Ext w.drew,x.w.cell? ⟨k.p,1,none⟩=some (.map (some k.wm)):=fun x=>(M x).cell1 h0
 have c2:∀ x:SW Ext w.drew,(Instr.lookup 193 (.map (some k.wm)) (.int .i64 (i:Int)) false).run Tryz.prog x.w=.ok (.slice (some ⟨s.blk,0,none⟩) 128 s.cap) x.w:=fun x=>by
  have:=(M x).waits_v h0 i
  rw [DSk.wv_some hs] at this
  exact this
 have H0:=hid h0; have H:=hid h; have HI:=hid hi; have HS:=hid hs
 have i0:(0:Int)<=(i:Int):=by omega
 have i1:(i:Int) < (k.n:Int):=by omega
 clear M h0 h hi hs
 go_enter Tryz.func176,Tryz.ntmps176
 go_wp2
 refine Zan (S:=Ext) 11 (.fin [0,1,2,3,4,5,6,7,8,9,10]) (by kernel_rfl) (by kernel_rfl) (fun _ _ d _ _ h=>by cases d<;>exact h) ?_
 rw [wpS]
 simp only [opsAt,opA,opB,opC,opD,opE,opF,opG]
 iterate 11 ((refine Zaa (fun K hK=>?_); go_simp; refine hK _ ?_; clear hK K))
 refine Zac ?_
 intro W1 hW1
 have hw1:Ext w W1:=Ext.trans (Ext.refl w).drew hW1
 have M1:=H.out.ext H0.out hw1
 have a1:W1.cell? ⟨k.lb,i,none⟩=some (if dn i then (k.wf i).getD (k.ss i) else k.ss i).val:=(Zaf M1.arr).trans (by simp [HI.out])
 have f1:W1.frozen? ⟨k.lb,i,none⟩=false:=Zax M1.arr
 obtain ⟨old,ho⟩:∃ old,(if dn i then (k.wf i).getD (k.ss i) else k.ss i).val=old:=⟨_,rfl⟩
 rw [ho] at a1
 have p2:W1.cell? ⟨k.p,2,none⟩=some (.map (some k.rm)):=M1.cell2 H0.out
 have n1:k.p≠k.lb:=Mid.plb H0.out
 obtain ⟨g,hg1,hg2⟩:=M1.rmap
 obtain ⟨W2,hrun,hm2,ho2⟩:=(hg1.same (Zai (.slice (some ⟨s.blk,0,none⟩) 128 s.cap) (Ne.symm (Mid.lbrm H0.out)) (i:=i))).run_set (P:=Tryz.prog) (e:=4) Tryz.underlying194 keyI i (.bool false)
 have HF:Hid (Mid w0 W2 k D (fun j=>dn j || j == i)):=hid (H.out.put H0.out hw1 HI.out HS.out hg2 hm2 ho2)
 have HX:Hid (Only (fun b=>b=k.lb\/b=k.rm) w W2):=hid (((Only.setCell hw1.only (.inr (.inl rfl)) (.slice (some ⟨s.blk,0,none⟩) 128 s.cap) (p:=⟨k.lb,i,none⟩):Only (fun b=>b=k.lb\/b=k.rm) w (W1.setCell ⟨k.lb,i,none⟩ (.slice (some ⟨s.blk,0,none⟩) 128 s.cap)))).trans (ho2.mono (G:=fun b=>b=k.lb\/b=k.rm) fun b _ e=>.inr e) fun _ _ x=>x)
 clear c0 c1 c2 M1 hg1 hg2 hm2 ho2 ho hw1 hW1
 go_wp2
 go_end0
 exact ⟨rfl,HF.out,HX.out⟩
end Go.Proofs.YtgjnnbomnoafcaaGreatDoor
namespace Go.Proofs.YtgjnnbomnoafcaaGreatDoor
set_option linter.unusedVariables false
open Go Go.RowKit
def DSk.settled (k:DSk) (dn:Nat->Bool) (b:Nat):DSk:={ k with wm:=b,ss:=fun i=>if dn i then (k.wf i).getD (k.ss i) else k.ss i,wf:=fun _=>none }
def phi (k:DSk) (dn:Nat->Bool):Slot->Slot
 | .sec i=>if dn i && (k.wf i).isSome then .wait i else .sec i
 | x=>x
theorem phi_at {k:DSk} {dn:Nat->Bool} {b c:Nat} {x:Slot} (hx:(k.settled dn b).at_ x=some c) (hne:x≠.wm):k.at_ (phi k dn x)=some c:=by
 cases x with
 | wm=>exact absurd rfl hne
 | sec i =>
  have hx:(if i < k.n then some ((if dn i then (k.wf i).getD (k.ss i) else k.ss i):Spot).blk else none)=some c:=hx
  by_cases hi:i < k.n
  ·
   rw [if_pos hi] at hx
   cases hd:dn i
   ·
    have hp:phi k dn (.sec i)=.sec i:=by simp [phi,hd]
    simp [hd] at hx
    rw [hp]; simp [DSk.at_,hi,hx]
   ·
    rcases hw:k.wf i with _ | s
    ·
     have hp:phi k dn (.sec i)=.sec i:=by simp [phi,hd,hw]
     simp [hd,hw] at hx
     rw [hp]; simp [DSk.at_,hi,hx]
    ·
     have hp:phi k dn (.sec i)=.wait i:=by simp [phi,hd,hw]
     simp [hd,hw] at hx
     rw [hp]; simp [DSk.at_,hw,hx]
  ·
   rw [if_neg hi] at hx; cases hx
 | wait i=>simp [DSk.settled,DSk.at_] at hx
 | _=>exact hx
theorem phi_inj {k:DSk} {dn:Nat->Bool} {x y:Slot} (h:phi k dn x=phi k dn y) (hx:∀ i,x≠.wait i) (hy:∀ i,y≠.wait i):x=y:=by
 cases x with
 | wait i=>exact absurd rfl (hx i)
 | sec i =>
  cases y with
  | wait j=>exact absurd rfl (hy j)
  | sec j =>
   simp only [phi] at h
   split at h<;>split at h<;>simp at h<;>rw [h]
  | _=>simp only [phi] at h; split at h<;>cases h
 | _ =>
  cases y with
  | wait j=>exact absurd rfl (hy j)
  | sec j=>simp only [phi] at h; split at h<;>cases h
  | _=>first | rfl | cases h
theorem Mid.finish {w0 w:World} {k:DSk} {D:Dsk} {dn:Nat->Bool} (h0:DiskRep w0 k D) (h:Mid w0 w k D dn) :
  DiskTo w0 k ((w.alloc (.map #[] 0)).setCell ⟨k.p,1,none⟩ (.map (some w.heap.size))) (D.settle dn) (k.settled dn w.heap.size):=by
 have hO:Only (fun b=>b=k.lb\/b=k.rm\/b=k.p) w0 ((w.alloc (.map #[] 0)).setCell ⟨k.p,1,none⟩ (.map (some w.heap.size))) :=
  Only.setCell ((h.only.mono (G:=fun b=>b=k.lb\/b=k.rm\/b=k.p) fun b _ e=>by rcases e with e | e<;>simp [e]).alloc _) (.inr (.inr (.inr rfl))) _
 have hW:∀ b,b≠k.p->b < w.heap.size->((w.alloc (.map #[] 0)).setCell ⟨k.p,1,none⟩ (.map (some w.heap.size))).heap[b]?=w.heap[b]?:=fun b h1 h2=>by
  rw [Zai _ h1,heap_alloc_old w _ h2]
 have hlt:∀ x b,k.at_ x=some b->b < w.heap.size:=fun x b hx=>Nat.lt_of_lt_of_le (h0.lt ⟨x,hx⟩) h.only.size
 have hsz:=h.only.size
 have hp:k.p≠w.heap.size:=by have:=hlt .p _ rfl; omega
 have hat:∀ x b,k.at_ x=some b->x≠.lb->x≠.rm->x≠.p->((w.alloc (.map #[] 0)).setCell ⟨k.p,1,none⟩ (.map (some w.heap.size))).heap[b]?=w0.heap[b]?:=fun x b hx h1 h2 h3=>by
  rw [hW b (fun e=>h3 (h0.inj x .p b hx (by rw [e]; rfl))) (hlt x b hx)]
  exact h.at_ h0 x b hx h1 h2
 have hsec:∀ i,i < k.n->SecAt ((w.alloc (.map #[] 0)).setCell ⟨k.p,1,none⟩ (.map (some w.heap.size))) ((k.settled dn w.heap.size).ss i) ((D.settle dn).l.getD i []):=by
  intro i hi
  have hi':i < D.l.length:=by rw [h0.len]; exact hi
  have e1:(D.settle dn).l.getD i []=if dn i then (D.waits i).getD (D.l.getD i []) else D.l.getD i []:=by
   simp [Dsk.settle,List.getD_eq_getElem?_getD,hi']
  rw [e1]
  show SecAt _ (if dn i then (k.wf i).getD (k.ss i) else k.ss i) _
  have hs:=h0.sec i hi
  have hs':SecAt ((w.alloc (.map #[] 0)).setCell ⟨k.p,1,none⟩ (.map (some w.heap.size))) (k.ss i) (D.l.getD i []):=hs.same (hat (.sec i) _ (by simp [DSk.at_,hi]) (by simp) (by simp) (by simp))
  cases hd:dn i
  ·
   simpa using hs'
  ·
   rcases hw:k.wf i with _ | s
   ·
    rw [h0.waitN i hw]; simpa using hs'
   ·
    obtain ⟨_,l,hl,hsl⟩:=h0.waitS i s hw
    rw [hl]
    simpa using hsl.same (hat (.wait i) _ (by simp [DSk.at_,hw]) (by simp) (by simp) (by simp))
 refine ⟨⟨?_,h0.pos,h0.small,?_,?_,hsec,?_,(fun i s hs=>by cases hs),fun i _=>rfl,?_,?_⟩,rfl,rfl,?_,?_⟩
 ·
  simp [Dsk.settle,DSk.settled,h0.len]
 ·
  have e1:(w.alloc (.map #[] 0)).heap[k.p]?=some (.cells (dskA k D) 243 (0,0)):=by
   rw [heap_alloc_old w _ (hlt .p _ rfl),h.at_ h0 .p _ rfl (by simp) (by simp)]; exact h0.own
  rw [show (k.settled dn w.heap.size).p=k.p from rfl,Zar e1]
  rfl
 ·
  show _=some (Obj.cells ((List.range k.n).map fun i=>((if dn i then (k.wf i).getD (k.ss i) else k.ss i):Spot).val).toArray _ _)
  exact (hW k.lb (fun e=>Mid.plb h0 e.symm) (hlt .lb _ rfl)).trans h.arr
 ·
  have e1:((w.alloc (.map #[] 0)).setCell ⟨k.p,1,none⟩ (.map (some w.heap.size))).heap[w.heap.size]?=(w.alloc (.map #[] 0)).heap[w.heap.size]?:=Zai _ (Ne.symm hp)
  have:=(MapI.made w).same e1
  have e2:(iKey fun i=>(((k.settled dn w.heap.size).wf i).map Spot.val))=fun _=>none:=by funext i; simp [iKey,DSk.settled]
  rw [e2]; exact this
 ·
  obtain ⟨g,h1,h2⟩:=h.rmap
  refine ⟨g,h1.same (hW k.rm (fun e=>Mid.prm h0 e.symm) (hlt .rm _ rfl)),fun i=>?_⟩
  rw [h2 i]; rfl
 ·
  intro x y b hx hy
  have hnw:∀ z c,(k.settled dn w.heap.size).at_ z=some c->∀ i,z≠.wait i:=fun z c hz i e=>by subst e; simp [DSk.settled,DSk.at_] at hz
  by_cases hxw:x=.wm
  ·
   subst hxw
   have hb:w.heap.size=b:=by simpa [DSk.settled,DSk.at_] using hx
   by_cases hyw:y=.wm
   ·
    rw [hyw]
   ·
    have:=hlt _ _ (phi_at hy hyw); omega
  ·
   by_cases hyw:y=.wm
   ·
    subst hyw
    have hb:w.heap.size=b:=by simpa [DSk.settled,DSk.at_] using hy
    have:=hlt _ _ (phi_at hx hxw); omega
   ·
    exact phi_inj (h0.inj _ _ b (phi_at hx hxw) (phi_at hy hyw)) (hnw x b hx) (hnw y b hy)
 ·
  intro b ⟨x,hx⟩
  by_cases hxw:x=.wm
  ·
   subst hxw
   have hb:w.heap.size=b:=by simpa [DSk.settled,DSk.at_] using hx
   exact .inr (by omega)
  ·
   exact .inl ⟨_,phi_at hx hxw⟩
 ·
  refine hO.mono fun b _ e=>?_
  rcases e with e | e | e
  ·
   exact ⟨.lb,by rw [e]; rfl⟩
  ·
   exact ⟨.rm,by rw [e]; rfl⟩
  ·
   exact ⟨.p,by rw [e]; rfl⟩
theorem nat_beq (i j:Nat):((i:Int) == (j:Int))=(i == j):=by
 by_cases h:i=j
 ·
  subst h; rw [beq_self_eq_true,beq_self_eq_true]
 ·
  have:(i:Int)≠(j:Int):=by omega
  rw [beq_eq_false_iff_ne.2 this,beq_eq_false_iff_ne.2 h]
def DFlushPost (w:World) (k:DSk) (D':Dsk) (e:Ending) (w':World):Prop:=e=.returned .nilIface/\∃ k',DiskTo w k w' D' k'
def FlushRel (w:World) (k:DSk) (D:Dsk) (r:Nat) (g:Nat) (wr:World):Prop :=
 ∃ left dn,IterI wr k.wm r k.wv left g/\Mid w wr k D dn/\∀ i:Nat,(k.wf i).isSome=true->dn i=!left i
theorem FlushRel.start {w W:World} {k:DSk} {D:Dsk} {g:Nat} (h0:DiskRep w k D) (hx:Ext w W) (h:IterI W k.wm w.heap.size k.wv (fun i=>(k.wv i).isSome) g):FlushRel w k D w.heap.size g W :=
 ⟨_,_,h,(Mid.start h0).ext h0 hx,fun i hi=>by
  obtain ⟨s,hs⟩:=Option.isSome_iff_exists.1 hi
  rw [DSk.wv_some hs]; rfl⟩
set_option maxHeartbeats 800000 in
theorem dflush_c {w:World} {k:DSk} {D:Dsk} (h:DiskRep w k D) (hd:D.dead=false) :
  Calls Tryz.prog 112 #[.pointer (some ⟨k.p,0,none⟩)] w (DFlushPost w k D.flush):=by
 have hr:D.refusedE sDiskFlush 0 false=none:=by
  have:=h.pos
  unfold Dsk.refusedE; rw [hd,h.len]; simp; omega
 have HR:=hid hr; have H:=hid h
 have c1:=h.cell1
 have hmm:=@run_makeMap Tryz.prog
 obtain ⟨W1,cnt,hrun,hit,hx,hsz⟩:=h.wmap.run_range (P:=Tryz.prog) (k:=3) (e:=38) Tryz.underlying193
 have HS:=hid (FlushRel.start h hx hit)
 clear hr h hd hit hx hsz
 go_enter Tryz.func112,Tryz.ntmps112
 go_wp2_with (go_at_call 174; refine (Zba H.out sDiskFlush 0 false).mono ?_; rintro e w' ⟨rfl,rfl⟩; rw [HR.out]; simp only [oErr])
 clear c1 hrun
 go_loopg [4] cnt (fun g s4 wr=>FlushRel w k D w.heap.size g wr)
 case atStart=>exact HS.out
 case round =>
  clear HS
  obtain ⟨left,dn,hit,hmid,hdn⟩:=hrel
  have c1:=hmid.cell1 H.out
  rcases hit.run_next (P:=Tryz.prog) 0 with ⟨hl,hrun⟩ | ⟨i,v,W2,g2,hl,hv,hrun,hit2,hlt,ho2,hsz2,hent⟩
  ·
   have hfin:=(hmid.congr (dn':=fun _=>true) H.out (fun i hi=>by rw [hdn i hi,hl]; rfl)).finish H.out
   have HF:=hid hfin
   have hf:wr.frozen? ⟨k.p,1,none⟩=false:=Zax ((hmid.at_ H.out .p _ rfl (by simp) (by simp)).trans H.out.own)
   have hfa:∀ o,(wr.alloc o).frozen? ⟨k.p,1,none⟩=false:=fun o=>by
    have:=lt_of_block ((hmid.at_ H.out .p _ rfl (by simp) (by simp)).trans H.out.own)
    exact Zax ((heap_alloc_old wr o this).trans ((hmid.at_ H.out .p _ rfl (by simp) (by simp)).trans H.out.own))
   have hca:∀ o,(wr.alloc o).cell? ⟨k.p,1,none⟩=some (.map (some k.wm)):=fun o=>Ext.cell ((Ext.refl wr).alloc o) c1
   clear hfin hit hmid hdn hl
   go_wp2
   go_ret
   exact ⟨rfl,_,HF.out⟩
  ·
   have HD:=hid hdn
   obtain ⟨j,rfl⟩:∃ j:Nat,i=j:=by
    rcases Int.lt_or_le i 0 with h1 | h1
    ·
     have:k.wv i=none:=by simp [DSk.wv,iKey,show ¬0<=i by omega]
     rw [this] at hv; cases hv
    ·
     exact ⟨i.toNat,by omega⟩
   obtain ⟨s,hs⟩:∃ s,k.wf j=some s:=by
    rcases hw:k.wf j with _ | s
    ·
     rw [DSk.wv_none hw] at hv; cases hv
    ·
     exact ⟨s,rfl⟩
   have hj:=(H.out.waitS j s hs).1
   have HM:=hid (hmid.new H.out ho2 (fun b hb=>by have:b=w.heap.size:=hb; omega))
   have HI:=hid hit2; have HS:=hid hs; have HL:=hid hl; have HLT:=hid hlt
   clear hdn hit hmid hl hv hit2 ho2 hsz2 hs hlt c1
   go_wp2_with (go_at_call 176; refine (dput_c H.out HM.out j hj s HS.out).mono ?_; rintro e W3 ⟨rfl,hm3,ho3⟩)
   have hb:k.wm≠k.lb/\k.wm≠k.rm:=⟨H.out.ne (x:=.wm) (y:=.lb) rfl rfl (by simp),H.out.ne (x:=.wm) (y:=.rm) rfl rfl (by simp)⟩
   have h1:=H.out.lt (b:=k.lb) ⟨.lb,rfl⟩
   have h2:=H.out.lt (b:=k.rm) ⟨.rm,rfl⟩
   go_roundg g2
   case measure=>exact HLT.out
   case rel =>
    refine ⟨_,_,HI.out.same (ho3.block _ HI.out.map.lt (by omega)) (ho3.block _ HI.out.rlt (by omega)),hm3,fun i hi=>?_⟩
    have:=HD.out i hi
    have e:((i:Int) == (j:Int))=(i == j):=nat_beq i j
    simp [this,e]
theorem Zcc:Dsk.zeros.length=128:=by simp [Dsk.zeros]
theorem make_sector (W:World):Sem.run Tryz.prog (Instr.makeSlice 38 (.int .i64 128) (.int .i64 128)) W=.ok (.slice (some ⟨W.heap.size,0,none⟩) 128 128) (W.alloc (.cells (bA Dsk.zeros) 5)) :=
 Zbs 128 (by omega) (by omega) W
theorem infoS:(Tryz.prog.info? 38).map (fun i=>(i.zero,i.size,i.bytes))=some (some (.slice none 0 0),1,24):=by kernel_rfl
theorem make_slices (N:Nat) (h1:N<=1000000) (w:World) :
  ∃ C:Array Value,C.size=N/\Sem.run Tryz.prog (Instr.makeSlice 159 (.int .i64 N) (.int .i64 N)) w=.ok (.slice (some ⟨w.heap.size,0,none⟩) N N) (w.alloc (.cells C 38)):=by
 obtain ⟨i0,hi,hz0,hz1,hz2⟩:=info_parts infoS
 have h:=run_make (P:=Tryz.prog) w 159 38 i0 (.slice none 0 0) Tryz.underlying159 hi hz0 .i64 .i64 N N (by omega) (Int.le_refl _) (by rw [hz2]; omega) (by omega)
 rw [h]
 refine ⟨_,?_,rfl⟩
 rw [hz1]
 show (madeCells #[.slice none 0 0] ((N:Int).toNat*1)).size=N
 rw [<- Array.length_toList,toList_madeCells_one]
 simp
structure BlankMid (w wr:World) (lb n j:Nat):Prop where
 only:Only (fun b=>b=lb) w wr
 secs:∃ (C:Array Value) (ss:Nat->Spot),wr.heap[lb]?=some (.cells C 38 (0,0))/\C.size=n/\(∀ i,i < j->C[i]?=some (ss i).val/\SecAt wr (ss i) Dsk.zeros/\w.heap.size<=(ss i).blk)/\∀ i i',i < j->i' < j->(ss i).blk=(ss i').blk->i=i'
theorem BlankMid.ext {w wr W:World} {lb n j:Nat} (h:BlankMid w wr lb n j) (e:Ext wr W):BlankMid w W lb n j:=by
 obtain ⟨h1,C,ss,h2,h3,h4,h5⟩:=h
 exact ⟨Only.ext h1 e,C,ss,e.at h2,h3,fun i hi=>⟨(h4 i hi).1,(h4 i hi).2.1.same (e.block _ (h4 i hi).2.1.lt (fun x=>x)),(h4 i hi).2.2⟩,h5⟩
theorem BlankMid.step {w wr W:World} {lb n j g:Nat} (hlb:lb < w.heap.size) (h:BlankMid w wr lb n j) (hj:j < n) (e:Ext wr W) (hg:wr.heap.size<=g) (hb:Blk W g Dsk.zeros) :
  BlankMid w (W.setCell ⟨lb,j,none⟩ (.slice (some ⟨g,0,none⟩) 128 128)) lb n (j+1):=by
 have hE:=h.ext e
 obtain ⟨h1,C,ss,h2,h3,h4,h5⟩:=hE
 have hsz:=h.only.size
 have hlt:∀ i,i < j->(ss i).blk < wr.heap.size:=by
  intro i hi
  obtain ⟨_,C',ss',g2,g3,g4,g5⟩:=h
  have e1:W.heap[lb]?=some (.cells C' 38 (0,0)):=e.at g2
  rw [h2] at e1
  cases e1
  have q1:=(h4 i hi).1
  rw [(g4 i hi).1] at q1
  have:(ss' i).blk=(ss i).blk:=by
   have:=Option.some.inj q1
   unfold Spot.val at this
   cases hs:ss i; cases hs':ss' i
   rw [hs,hs'] at this
   simp at this
   simp [this.1]
  rw [<- this]; exact (g4 i hi).2.1.lt
 have hkeep:∀ b,b≠lb->(W.setCell ⟨lb,j,none⟩ (.slice (some ⟨g,0,none⟩) 128 128)).heap[b]?=W.heap[b]?:=fun b hb=>Zai _ hb
 have hgl:g≠lb:=by omega
 refine ⟨h1.setCell (.inr rfl) _,C.setIfInBounds j (.slice (some ⟨g,0,none⟩) 128 128),fun i=>if i=j then ⟨g,128⟩ else ss i,Zar h2 _,by simp [h3],fun i hi=>?_,fun i i' hi hi' he=>?_⟩
 ·
  by_cases hij:i=j
  ·
   subst hij
   refine ⟨by simp [Spot.val,h3,hj],?_,by simp; omega⟩
   simp only [if_true]
   have hz:∀ x∈Dsk.zeros,x < 256:=by simp [Dsk.zeros]
   have hB:Blk (W.setCell ⟨lb,i,none⟩ (.slice (some ⟨g,0,none⟩) 128 128)) g Dsk.zeros:=(hkeep g hgl).trans hb
   exact ⟨Zcc,hz,hB.owns Zcc (by omega)⟩
  ·
   have hi':i < j:=by omega
   obtain ⟨q1,q2,q3⟩:=h4 i hi'
   have hne:(ss i).blk≠lb:=by omega
   simp only [hij,if_false]
   refine ⟨by rw [Array.getElem?_setIfInBounds]; simp [Ne.symm hij,q1],q2.same (hkeep _ hne),q3⟩
 ·
  by_cases hij:i=j
  ·
   by_cases hij':i'=j
   ·
    omega
   ·
    simp only [hij,hij',if_true,if_false] at he
    have:=hlt i' (by omega); omega
  ·
   by_cases hij':i'=j
   ·
    simp only [hij,hij',if_true,if_false] at he
    have:=hlt i (by omega); omega
   ·
    simp only [hij,hij',if_false] at he
    exact h5 i i' (by omega) (by omega) he
def BlankPost (w:World) (p lb n:Nat) (dead:Bool) (e:Ending) (w':World):Prop :=
 e=.returned (.tuple #[])/\∃ k,k.p=p/\k.lb=lb/\k.n=n/\DiskRep w' k ⟨List.replicate n Dsk.zeros,fun _=>none,fun _=>false,dead⟩/\(∀ b,k.foot b->b=p\/b=lb\/w.heap.size<=b)/\Only (fun b=>b=p\/b=lb) w w'
theorem BlankMid.finish {w wr:World} {p lb n:Nat} {dead:Bool} {v1 v2:Value} (hn1:1<=n) (hn2:n<=128) (hne:p≠lb)
  (hp:w.heap[p]?=some (.cells #[.slice (some ⟨lb,0,none⟩) n n,v1,v2,.bool dead] 243 (0,0))) (hlb:lb < w.heap.size) (h:BlankMid w wr lb n n) :
  BlankPost w p lb n dead (.returned (.tuple #[])) ((((wr.alloc (.map #[] 0)).alloc (.map #[] 0)).setCell ⟨p,1,none⟩ (.map (some wr.heap.size))).setCell ⟨p,2,none⟩ (.map (some (wr.heap.size+1)))):=by
 obtain ⟨h1,C,ss,h2,h3,h4,h5⟩:=h
 have hsz:=h1.size
 have hpl:=lt_of_block hp
 have hO:Only (fun b=>b=p\/b=lb) w ((((wr.alloc (.map #[] 0)).alloc (.map #[] 0)).setCell ⟨p,1,none⟩ (.map (some wr.heap.size))).setCell ⟨p,2,none⟩ (.map (some (wr.heap.size+1)))) :=
  Only.setCell (Only.setCell (Only.alloc (Only.alloc (h1.mono (G:=fun b=>b=p\/b=lb) fun b _ e=>.inr e) _) _) (.inr (.inl rfl)) _) (.inr (.inl rfl)) _
 have hold:∀ b,b≠p->b < wr.heap.size->((((wr.alloc (.map #[] 0)).alloc (.map #[] 0)).setCell ⟨p,1,none⟩ (.map (some wr.heap.size))).setCell ⟨p,2,none⟩ (.map (some (wr.heap.size+1)))).heap[b]?=wr.heap[b]?:=fun b hb hl=>by
  rw [Zai _ hb,Zai _ hb,heap_alloc_old _ _ (by simp; omega),heap_alloc_old _ _ hl]
 have hpw:wr.heap[p]?=some (.cells #[.slice (some ⟨lb,0,none⟩) n n,v1,v2,.bool dead] 243 (0,0)):=h1.at hp hne
 have hp2:((wr.alloc (.map #[] 0)).alloc (.map #[] 0)).heap[p]?=some (.cells #[.slice (some ⟨lb,0,none⟩) n n,v1,v2,.bool dead] 243 (0,0)):=by
  rw [heap_alloc_old _ _ (by simp; omega),heap_alloc_old _ _ (by omega)]; exact hpw
 let k:DSk:=⟨p,lb,wr.heap.size,wr.heap.size+1,n,ss,fun _=>none⟩
 have hat:∀ x b,k.at_ x=some b->(x=.p/\b=p)\/(x=.lb/\b=lb)\/(x=.wm/\b=wr.heap.size)\/(x=.rm/\b=wr.heap.size+1)\/∃ i,i < n/\x=.sec i/\b=(ss i).blk:=by
  intro x b hx
  cases x with
  | p=>exact .inl ⟨rfl,(Option.some.inj hx).symm⟩
  | lb=>exact .inr (.inl ⟨rfl,(Option.some.inj hx).symm⟩)
  | wm=>exact .inr (.inr (.inl ⟨rfl,(Option.some.inj hx).symm⟩))
  | rm=>exact .inr (.inr (.inr (.inl ⟨rfl,(Option.some.inj hx).symm⟩)))
  | sec i =>
   have hx:(if i < n then some (ss i).blk else none)=some b:=hx
   by_cases hi:i < n
   ·
    rw [if_pos hi] at hx; exact .inr (.inr (.inr (.inr ⟨i,hi,rfl,(Option.some.inj hx).symm⟩)))
   ·
    rw [if_neg hi] at hx; cases hx
  | wait i=>cases hx
 refine ⟨rfl,k,rfl,rfl,rfl,⟨by simp [k],hn1,hn2,?_,?_,?_,?_,(fun i s hs=>by cases hs),fun i _=>rfl,?_,?_⟩,?_,hO⟩
 ·
  show _=some (Obj.cells (dskA k _) _ _)
  rw [Zar (Zar hp2 _) _]
  rfl
 ·
  refine (hold lb (Ne.symm hne) (by omega)).trans (h2.trans ?_)
  congr 2
  rw [DSk.arr_def]
  apply Array.ext'
  apply List.ext_getElem?
  intro i
  by_cases hi:i < n
  ·
   rw [Array.getElem?_toList,(h4 i hi).1]
   simp [k,hi]
  ·
   have e1:C.toList[i]?=none:=by rw [List.getElem?_eq_none]; simp [h3]; omega
   rw [e1]; simp [k,hi]
 ·
  intro i hi
  have hi:i < n:=hi
  obtain ⟨q1,q2,q3⟩:=h4 i hi
  have e1:(List.replicate n Dsk.zeros).getD i []=Dsk.zeros:=by simp [List.getD_eq_getElem?_getD,hi]
  show SecAt _ (ss i) ((List.replicate n Dsk.zeros).getD i [])
  rw [e1]
  exact q2.same (hold _ (by omega) q2.lt)
 ·
  have e2:(iKey fun i=>((k.wf i).map Spot.val))=fun _=>none:=by funext i; simp [iKey,k]
  rw [e2]
  refine (MapI.made wr).same ?_
  show _=(wr.alloc (.map #[] 0)).heap[wr.heap.size]?
  rw [Zai _ (by omega),Zai _ (by omega),heap_alloc_old _ _ (by simp)]
 ·
  refine ⟨fun _=>none,?_,fun i=>by simp⟩
  have:=MapI.made (wr.alloc (.map #[] 0))
  have e1:(wr.alloc (.map #[] 0)).heap.size=wr.heap.size+1:=by simp
  rw [e1] at this
  refine this.same ?_
  rw [Zai _ (by omega),Zai _ (by omega)]
 ·
  intro x y b hx hy
  rcases hat x b hx with ⟨rfl,h6⟩ | ⟨rfl,h6⟩ | ⟨rfl,h6⟩ | ⟨rfl,h6⟩ | ⟨i,hi,rfl,h6⟩<;>rcases hat y b hy with ⟨rfl,h7⟩ | ⟨rfl,h7⟩ | ⟨rfl,h7⟩ | ⟨rfl,h7⟩ | ⟨j,hj,rfl,h7⟩<;>first | rfl | omega | skip
  all_goals first
   | (have:=(h4 j hj).2.1.lt; have:=(h4 j hj).2.2; omega)
   | (have:=(h4 i hi).2.1.lt; have:=(h4 i hi).2.2; omega)
   | (rw [h5 i j hi hj (by omega)])
 ·
  intro b ⟨x,hx⟩
  rcases hat x b hx with ⟨rfl,h6⟩ | ⟨rfl,h6⟩ | ⟨rfl,h6⟩ | ⟨rfl,h6⟩ | ⟨i,hi,rfl,h6⟩
  ·
   exact .inl h6
  ·
   exact .inr (.inl h6)
  ·
   exact .inr (.inr (by omega))
  ·
   exact .inr (.inr (by omega))
  ·
   have:=(h4 i hi).2.2; exact .inr (.inr (by omega))
set_option maxHeartbeats 800000 in
theorem blank_c {w:World} {p lb n:Nat} {dead:Bool} {v1 v2:Value} {C:Array Value} (hn1:1<=n) (hn2:n<=128) (hne:p≠lb)
  (hp:w.heap[p]?=some (.cells #[.slice (some ⟨lb,0,none⟩) n n,v1,v2,.bool dead] 243 (0,0))) (hl:w.heap[lb]?=some (.cells C 38 (0,0))) (hC:C.size=n) :
  Calls Tryz.prog 165 #[.pointer (some ⟨p,0,none⟩)] w (BlankPost w p lb n dead):=by
 have c0:w.cell? ⟨p,0,none⟩=some (.slice (some ⟨lb,0,none⟩) n n):=Zaf hp
 have hmm:=@run_makeMap Tryz.prog
 have hmk:=make_sector
 have HS:Hid (BlankMid w w lb n 0):=hid ⟨Only.refl _ _,C,fun _=>⟨0,0⟩,hl,hC,fun i hi=>by omega,fun i i' hi=>by omega⟩
 have HP:=hid hp; have HL:=hid hl; have HC:=hid hC
 clear hp hl hC
 go_enter Tryz.func165,Tryz.ntmps165
 go_wp2
 clear c0
 go_loopw [8] (fun i wr=>∃ j:Nat,i=.int .i64 j/\j<=n/\BlankMid w wr lb n j) (fun i _=>n - (intOf i).toNat)
 case atStart=>exact ⟨0,rfl,by omega,HS.out⟩
 case round =>
  clear HS
  obtain ⟨j,rfl,hj,hmid⟩:=hrel
  have hlb:=lt_of_block HL.out
  by_cases hlt:j < n
  ·
   have c0:∀ x:SW Ext wr.drew,x.w.cell? ⟨p,0,none⟩=some (.slice (some ⟨lb,0,none⟩) n n):=fun x=>Ext.cell (Ext.trans (Ext.refl wr).drew x.ext) (Zaf (hmid.only.at HP.out hne))
   have HM:=hid hmid
   have i0:(0:Int)<=(j:Int):=by omega
   have i1:(j:Int) < (n:Int):=by omega
   clear hmid
   go_wp2
   refine Zan (S:=Ext) 6 (.one [0,1,2,3,4] 5 (.fin [])) (by kernel_rfl) (by kernel_rfl) (fun _ _ d _ _ h=>by cases d<;>exact h) ?_
   rw [wpS]
   simp only [opsAt,opA,opB,opC,opD,opE,opF,opG]
   iterate 5 ((refine Zaa (fun K hK=>?_); go_simp; refine hK _ ?_; clear hK K))
   refine Zac ?_
   intro W1 hW1
   have hw1:Ext wr W1:=Ext.trans (Ext.refl wr).drew hW1
   refine Zat fun K hK=>?_
   go_wp2
   refine hK _ _ ((Ext.refl W1).alloc _) ?_
   clear hK K
   rw [wpS]
   simp only [opsAt,List.map_nil]
   refine Zac ?_
   intro W2 hW2
   have hB:Blk W2 W1.heap.size Dsk.zeros:=hW2.at Zad
   have hx:Ext wr W2:=Ext.trans hw1 (Ext.trans ((Ext.refl W1).alloc _) hW2)
   have HF:=hid (HM.out.step hlb hlt hx hw1.size hB)
   obtain ⟨_,C2,ss2,g2,g3,_⟩:=HM.out.ext hx
   have cj:W2.cell? ⟨lb,j,none⟩=some (C2[j]'(by omega)):=(Zaf g2).trans (by simp)
   have fj:W2.frozen? ⟨lb,j,none⟩=false:=Zax g2
   obtain ⟨old,hold⟩:∃ old,C2[j]'(by omega)=old:=⟨_,rfl⟩
   rw [hold] at cj
   clear hB hx hW2 hw1 hW1 c0 g2 g3 hold
   generalize W1.heap.size=g at *
   go_wp2
   go_roundw
   case rel=>exact ⟨j+1,by go_num,by omega,HF.out⟩
   case measure=>simp [intOf]; omega
  ·
   obtain rfl:n=j:=by omega
   have hfin:=hmid.finish hn1 hn2 hne HP.out hlb
   have e1:=hmid.only.at HP.out hne
   have hpw:=lt_of_block e1
   rw [World.setCell_alloc_past (w:=wr.alloc (.map #[] 0)) _ p 1 _ (by simp; omega),World.setCell_alloc_past (w:=wr) _ p 1 _ hpw,
    World.setCell_alloc_past (w:=(wr.setCell ⟨p,1,none⟩ (.map (some wr.heap.size))).alloc (.map #[] 0)) _ p 2 _ (by simp; omega),World.setCell_alloc_past (w:=wr.setCell ⟨p,1,none⟩ (.map (some wr.heap.size))) _ p 2 _ (by simpa using hpw)] at hfin
   have HF:=hid hfin
   have e2:((wr.alloc (.map #[] 0)).alloc (.map #[] 0)).heap[p]?=some (.cells #[.slice (some ⟨lb,0,none⟩) n n,v1,v2,.bool dead] 243 (0,0)):=by
    rw [heap_alloc_old _ _ (by simp; omega),heap_alloc_old _ _ hpw]; exact e1
   have c1:wr.cell? ⟨p,1,none⟩=some v1:=Zaf e1
   have c2:wr.cell? ⟨p,2,none⟩=some v2:=Zaf e1
   have f1:∀ i,wr.frozen? ⟨p,i,none⟩=false:=fun i=>Zax e1
   have e3:=Zar e1 (i:=1) (.map (some wr.heap.size))
   have f3:∀ i,(((wr.setCell ⟨p,1,none⟩ (.map (some wr.heap.size))).alloc (.map #[] 0)).alloc (.map #[] 0)).frozen? ⟨p,i,none⟩=false:=fun i =>
    Zax ((heap_alloc_old _ _ (by simp; omega)).trans ((heap_alloc_old _ _ (by simp; omega)).trans e3))
   have f2:∀ i,((wr.alloc (.map #[] 0)).alloc (.map #[] 0)).frozen? ⟨p,i,none⟩=false:=fun i=>Zax e2
   clear e1 e2 e3 hmid hfin
   go_wp2
   go_end0
   exact HF.out
theorem DiskRep.setDead {w:World} {k:DSk} {D:Dsk} (h:DiskRep w k D) (b:Bool):DiskRep (w.setCell ⟨k.p,3,none⟩ (.bool b)) k { D with dead:=b }:=by
 have hk:∀ x c,k.at_ x=some c->x≠.p->(w.setCell ⟨k.p,3,none⟩ (.bool b)).heap[c]?=w.heap[c]?:=fun x c hx hne=>Zai _ (fun e=>hne (h.inj x .p c hx (by rw [e]; rfl)))
 refine ⟨h.len,h.pos,h.small,?_,(hk .lb _ rfl (by simp)).trans h.arr,?_,h.wmap.same (hk .wm _ rfl (by simp)),?_,h.waitN,?_,h.inj⟩
 ·
  rw [Zar h.own]; rfl
 ·
  intro i hi; exact (h.sec i hi).same (hk (.sec i) _ (by simp [DSk.at_,hi]) (by simp))
 ·
  intro i s hs
  obtain ⟨h1,l,h2,h3⟩:=h.waitS i s hs
  exact ⟨h1,l,h2,h3.same (hk (.wait i) _ (by simp [DSk.at_,hs]) (by simp))⟩
 ·
  obtain ⟨g,h1,h2⟩:=h.rmap
  exact ⟨g,h1.same (hk .rm _ rfl (by simp)),h2⟩
def DVoidPost (w:World) (k:DSk) (D':Dsk) (e:Ending) (w':World):Prop:=e=.returned (.tuple #[])/\∃ k',DiskTo w k w' D' k'
theorem BlankPost.to {w w':World} {k:DSk} {D:Dsk} (h:DiskRep w k D) {e:Ending} (hb:BlankPost w k.p k.lb k.n D.dead e w') (b:Bool) :
  ∃ k',k'.p=k.p/\DiskRep w' k' { D.blank with dead:=D.dead }/\DiskTo w k (w'.setCell ⟨k.p,3,none⟩ (.bool b)) { D.blank with dead:=b } k':=by
 obtain ⟨_,k1,h1,h2,h3,h4,h5,h6⟩:=hb
 have e1:(⟨List.replicate k.n Dsk.zeros,fun _=>none,fun _=>false,D.dead⟩:Dsk)={ D.blank with dead:=D.dead }:=by unfold Dsk.blank; rw [h.len]
 rw [e1] at h4
 have h7:=h4.setDead b
 rw [h1] at h7
 refine ⟨k1,h1,h4,h7,h1,h3,fun c hc=>?_,?_⟩
 ·
  rcases h5 c hc with rfl | rfl | h8
  ·
   exact .inl ⟨.p,rfl⟩
  ·
   exact .inl ⟨.lb,rfl⟩
  ·
   exact .inr h8
 ·
  refine Only.setCell (h6.mono (G:=k.foot) fun c _ hc=>?_) (.inr ⟨.p,rfl⟩) _
  rcases hc with rfl | rfl
  ·
   exact ⟨.p,rfl⟩
  ·
   exact ⟨.lb,rfl⟩
theorem DiskRep.blanks {w:World} {k:DSk} {D:Dsk} (h:DiskRep w k D):Calls Tryz.prog 165 #[.pointer (some ⟨k.p,0,none⟩)] w (BlankPost w k.p k.lb k.n D.dead) :=
 blank_c h.pos h.small (Mid.plb h) h.own h.arr k.arr_size
theorem ddie_c {w:World} {k:DSk} {D:Dsk} (h:DiskRep w k D) :
  Calls Tryz.prog 118 #[.pointer (some ⟨k.p,0,none⟩)] w (DVoidPost w k D.die):=by
 have H:=hid h
 clear h
 go_enter Tryz.func118,Tryz.ntmps118
 go_wp2_with fail
 refine H.out.blanks.mono ?_
 intro e w1 hb
 obtain ⟨k',h1,h2,h3⟩:=hb.to H.out true
 obtain ⟨rfl,_⟩:=hb
 have HF:=hid h3
 have c3:=h2.cell3
 have f3:w1.frozen? ⟨k'.p,3,none⟩=false:=Zax h2.own
 rw [h1] at c3 f3
 clear h2 h3
 go_wp2
 go_end0
 exact ⟨rfl,_,HF.out⟩
theorem dreplace_c {w:World} {k:DSk} {D:Dsk} (h:DiskRep w k D) :
  Calls Tryz.prog 119 #[.pointer (some ⟨k.p,0,none⟩)] w (DVoidPost w k D.replace):=by
 have H:=hid h
 clear h
 go_enter Tryz.func119,Tryz.ntmps119
 go_wp2_with fail
 refine H.out.blanks.mono ?_
 intro e w1 hb
 obtain ⟨k',h1,h2,h3⟩:=hb.to H.out false
 obtain ⟨rfl,_⟩:=hb
 have HF:=hid h3
 have c3:=h2.cell3
 have f3:w1.frozen? ⟨k'.p,3,none⟩=false:=Zax h2.own
 rw [h1] at c3 f3
 clear h2 h3
 go_wp2
 go_end0
 exact ⟨rfl,_,HF.out⟩
def DNewPost (w:World) (n:Nat) (e:Ending) (w':World):Prop :=
 ∃ k,e=.returned (.tuple #[.pointer (some ⟨k.p,0,none⟩),.nilIface])/\DiskRep w' k (Dsk.new n)/\k.n=n/\(∀ b,k.foot b->w.heap.size<=b)/\Ext w w'
set_option maxHeartbeats 800000 in
theorem dnew_c (n:Nat) (h1:1<=n) (h2:n<=128) (w:World):Calls Tryz.prog 98 #[.int .i64 n] w (DNewPost w n):=by
 obtain ⟨C,hC,hmk⟩:=make_slices n (by omega) w
 have i1:¬(n:Int) < 1:=by omega
 have i2:¬(128:Int) < (n:Int):=by omega
 have HC:=hid hC
 clear hC
 go_enter Tryz.func98,Tryz.ntmps98
 go_wp2_with fail
 have hs:(w.alloc (.cells C 38)).heap.size=w.heap.size+1:=by simp
 have hp:∀ A:Array Value,((w.alloc (.cells C 38)).alloc (.cells A 243)).heap[w.heap.size+1]?=some (.cells A 243 (0,0)):=fun A=>by
  rw [<- hs]; exact heap_alloc_new _ _
 have hl:∀ A:Array Value,((w.alloc (.cells C 38)).alloc (.cells A 243)).heap[w.heap.size]?=some (.cells C 38 (0,0)):=fun A=>by
  rw [heap_alloc_old _ _ (by simp)]; exact heap_alloc_new _ _
 refine (blank_c (p:=w.heap.size+1) (lb:=w.heap.size) h1 h2 (by omega) (hp _) (hl _) HC.out).mono ?_
 have hx:∀ A:Array Value,Ext w ((w.alloc (.cells C 38)).alloc (.cells A 243)):=fun A=>((Ext.refl w).alloc _).alloc _
 rintro e w1 ⟨rfl,k,hk1,hk2,hk3,hk4,hk5,hk6⟩
 have HK4:=hid hk4; have HK5:=hid hk5; have HK6:=hid hk6; have HK1:=hid hk1; have HK3:=hid hk3
 have HX:=hid (hx #[.slice (some ⟨w.heap.size,0,none⟩) n n,.map none,.map none,.bool false])
 clear hk1 hk2 hk3 hk4 hk5 hk6 hx hp hl hs hmk
 go_wp2
 go_ret2
 refine ⟨k,by rw [HK1.out]; rfl,HK4.out,HK3.out,fun b hb=>?_,Ext.then HX.out HK6.out (fun i hi e=>by omega)⟩
 rcases HK5.out b hb with h | h | h
 ·
  omega
 ·
  omega
 ·
  have:=h; simp at this; omega
theorem infoI:(Tryz.prog.info? 3).map (fun i=>(i.zero,i.size,i.bytes))=some (some (.int .i64 0),1,8):=by kernel_rfl
def vI (x:Nat):Value:=.int .i64 x
def OwnInts (w:World) (B:Nat) (v:Value) (l:List Nat):Prop:=w.ownsRow B 3 1 v l.length (l.map vI)
theorem OwnInts.nil (w:World) (B:Nat):OwnInts w B (.slice none 0 0) []:=World.ownsRow_nil w B _ _
theorem OwnInts.slice {w:World} {B:Nat} {v:Value} {l:List Nat} (h:OwnInts w B v l):∃ a c,v=.slice a l.length c/\((l=[]/\a=none)\/∃ b,a=some ⟨b,0,none⟩/\B<=b/\b < w.heap.size/\l.length<=c/\∀ i,i < l.length->w.cell? ⟨b,i,none⟩=some (vI (l.getD i 0))):=by
 have hc:=h
 rcases h.2 with ⟨h1,h2⟩ | ⟨g,c,cur,h1,h2,h3,h4⟩
 ·
  refine ⟨none,0,by rw [h1,h2],.inl ⟨List.length_eq_zero_iff.1 h2,rfl⟩⟩
 ·
  refine ⟨_,c,h1,.inr ⟨g,rfl,h2,lt_of_block h3,h4.1,fun i hi=>?_⟩⟩
  have:=h.cells (g:=g) (by rw [h1]; rfl) i (vI (l.getD i 0)) (by rw [List.getElem?_map,List.getElem?_eq_getElem hi]; simp [List.getD_eq_getElem?_getD,hi])
  have e:(⟨g,0,none⟩:Addr).add i=⟨g,i,none⟩:=by unfold Addr.add; split<;>simp_all
  rw [e] at this
  exact this
theorem OwnInts.push {w:World} {B:Nat} {v:Value} {l:List Nat} (h:OwnInts w B v l) (x:Nat) (hl:l.length < 1000000) (hB:B<=w.heap.size) :
  ∃ v' w',(Builtin.append_ #[59,59] 59 #[v,.slice (some ⟨w.heap.size,0,none⟩) 1 1]).run Tryz.prog (w.alloc (.cells #[.int .i64 x] 3))=.ok v' w'/\OwnInts w' B v' (l++[x]) ∧
   Only (fun b=>v.ownBlock=some b) w w'/\(∀ w0,w0.heap.size<=B->Ext w0 w->Ext w0 w'):=by
 obtain ⟨i0,hi,hz0,hz1,hz2⟩:=info_parts infoI
 obtain ⟨v',w',h1,h2,h3,_⟩:=run_append_own_at (P:=Tryz.prog) (w:=w.alloc (.cells #[.int .i64 x] 3)) B 59 59 3 i0 (.int .i64 0) 1 8 Tryz.underlying59 hi hz0 hz1 hz2 rfl (by decide)
  v l.length _ (World.ownsRow.alloc h _) ⟨w.heap.size,0,none⟩ 1 1 [vI x] rfl
  (by
   intro j u hu
   have hj:j=0:=by
    rcases j with _ | j
    ·
     rfl
    ·
     simp at hu
   subst hj
   have e:(⟨w.heap.size,0,none⟩:Addr).add 0=⟨w.heap.size,0,none⟩:=rfl
   rw [e,Zaf Zad]
   simpa [vI] using hu)
  (by intro u hu; simp at hu; subst hu; rfl) (by unfold maxLen; omega) (by omega) (by simp; omega)
 have ho:Only (fun b=>v.ownBlock=some b) w w':=(Only.alloc (Only.refl (fun b=>v.ownBlock=some b) w) _).grown h3 (fun k _ e=>e)
 refine ⟨v',w',h1,by unfold OwnInts; rw [List.length_append,List.map_append]; exact h2,ho,fun w0 hw0 hx=>Ext.then hx ho fun i hi e=>?_⟩
 have:=(h.lt i e).1
 omega
namespace Dsk
def bit (bits m:Nat):Bool:=(bits >>> (m % 64)) % 2 == 1
def dnC (D:Dsk) (bits j:Nat) (i:Nat):Bool:=decide (D.waiting.idxOf i < j) && bit bits (D.waiting.idxOf i)
theorem waiting_nodup (D:Dsk):D.waiting.Nodup:=List.Pairwise.filter _ List.nodup_range
theorem mem_waiting (D:Dsk) (i:Nat):i∈D.waiting↔i < D.l.length/\(D.waits i).isSome=true:=by unfold waiting; simp
theorem idx_lt {D:Dsk} {i:Nat} (h:i∈D.waiting):D.waiting.idxOf i < D.waiting.length:=List.idxOf_lt_length_of_mem h
theorem idx_get {D:Dsk} {j:Nat} (h:j < D.waiting.length):D.waiting.idxOf (D.waiting.getD j 0)=j:=by
 have:D.waiting.getD j 0=D.waiting[j]:=by simp [List.getD_eq_getElem?_getD,h]
 rw [this]
 exact D.waiting_nodup.idxOf_getElem j h
theorem get_idx {D:Dsk} {i:Nat} (h:i∈D.waiting):D.waiting.getD (D.waiting.idxOf i) 0=i:=by
 have h1:=idx_lt h
 have:D.waiting.getD (D.waiting.idxOf i) 0=D.waiting[D.waiting.idxOf i]:=by simp [List.getD_eq_getElem?_getD,h1]
 rw [this]
 exact List.getElem_idxOf h1
theorem dnC_step {D:Dsk} {bits j i:Nat} (hj:j < D.waiting.length) (hi:i∈D.waiting) :
  D.dnC bits (j+1) i=(D.dnC bits j i || (bit bits j && (i == D.waiting.getD j 0))):=by
 have h1:=idx_get hj
 have h2:=get_idx hi
 unfold dnC
 by_cases he:i=D.waiting.getD j 0
 ·
  have:D.waiting.idxOf i=j:=by rw [he,h1]
  rw [this]
  have e2:(i == D.waiting.getD j 0)=true:=by rw [he]; simp
  rw [e2]; simp
 ·
  have hne:D.waiting.idxOf i≠j:=fun e=>he (by rw [<- e,h2])
  have e2:(i == D.waiting.getD j 0)=false:=by simpa using he
  rw [e2,Bool.and_false,Bool.or_false]
  congr 1
  rw [decide_eq_decide]
  omega
end Dsk
theorem Zbk (n:Int) (h₀:0<=n) (h₁:n < 2 ^ 64):IntKind.u64.wrap n=n:=by rw [IntKind.wrap_u64]; omega
theorem u64_and_nat (a b:Nat) (ha:a < 2 ^ 64) (hb:b < 2 ^ 64):bits .and .u64 (a:Int) (b:Int)=((a &&& b:Nat):Int) :=
 (bits_nat .u64 64 (by decide) Zbk a b ha hb).1
theorem bit_walk (bits j:Nat) (hb:bits < 18446744073709551616):(Go.bits .and .u64 ((bits:Int) / 2 ^ (j % 64)) 1 == 1)=Dsk.bit bits j:=by
 have e1:((bits:Int) / 2 ^ (j % 64))=((bits / 2 ^ (j % 64):Nat):Int):=by push_cast; rfl
 have h1:bits / 2 ^ (j % 64) < 2 ^ 64:=Nat.lt_of_le_of_lt (Nat.div_le_self _ _) hb
 have e2:=u64_and_nat (bits / 2 ^ (j % 64)) 1 h1 (by decide)
 rw [e1,show (1:Int)=((1:Nat):Int) from rfl,e2,Nat.and_one_is_mod]
 unfold Dsk.bit
 rw [Nat.shiftRight_eq_div_pow]
 have h2:bits / 2 ^ (j % 64) % 2=0\/bits / 2 ^ (j % 64) % 2=1:=by omega
 rcases h2 with h2 | h2<;>rw [h2]<;>rfl
def Dsk.upTo (D:Dsk) (j:Nat):List Nat:=(List.range j).filter fun i=>(D.waits i).isSome
theorem Dsk.upTo_succ (D:Dsk) (j:Nat):D.upTo (j+1)=D.upTo j++if (D.waits j).isSome then [j] else []:=by
 unfold upTo
 rw [List.range_succ,List.filter_append]
 by_cases h:(D.waits j).isSome=true<;>simp [h]
theorem Dsk.upTo_len (D:Dsk) (j:Nat):(D.upTo j).length<=j:=by
 unfold upTo
 have:=List.length_filter_le (fun i=>(D.waits i).isSome) (List.range j)
 simpa using this
def DWaitsPost (w:World) (D:Dsk) (e:Ending) (w':World):Prop:=∃ v,e=.returned v/\OwnInts w' w.heap.size v D.waiting/\Ext w w'
set_option maxHeartbeats 800000 in
theorem dwaits_c {w:World} {k:DSk} {D:Dsk} (h:DiskRep w k D) :
  Calls Tryz.prog 178 #[.pointer (some ⟨k.p,0,none⟩)] w (DWaitsPost w D):=by
 have c0:=h.cell0
 have H:=hid h
 have HW:Hid (D.upTo k.n=D.waiting):=hid (by unfold Dsk.upTo Dsk.waiting; rw [h.len])
 have hsm:=h.small
 clear h
 go_enter Tryz.func178,Tryz.ntmps178
 go_wp2
 clear c0
 go_loopw [3,12] (fun v i wr=>∃ j:Nat,i=.int .i64 j/\j<=k.n/\OwnInts wr w.heap.size v (D.upTo j)/\Ext w wr) (fun _ i _=>k.n - (intOf i).toNat)
 case atStart=>exact ⟨0,rfl,by omega,OwnInts.nil _ _,Ext.refl _⟩
 case round =>
  obtain ⟨j,rfl,hj,hown,hx⟩:=hrel
  by_cases hlt:j < k.n
  ·
   have hr:=H.out.ext hx
   have c1:=hr.cell1
   have hl:=hr.waits_ok j
   have hup:=D.upTo_succ j
   have hlen:=D.upTo_len j
   rcases hw:k.wf j with _ | s
   ·
    rw [DSk.wv_none hw] at hl
    simp only [Option.getD_none,Option.isSome_none] at hl
    rw [H.out.waitN j hw] at hup
    simp only [Option.isSome_none,Bool.false_eq_true,if_false,List.append_nil] at hup
    rw [<- hup] at hown
    have HO:=hid hown; have HX:=hid hx
    clear hw hr hup hown hx
    go_wp2
    go_roundw
    case rel=>exact ⟨j+1,by go_num,by omega,HO.out,HX.out⟩
    case measure=>simp [intOf]; omega
   ·
    rw [DSk.wv_some hw] at hl
    simp only [Option.getD_some,Option.isSome_some,Spot.val] at hl
    obtain ⟨_,l,hlw,_⟩:=H.out.waitS j s hw
    rw [hlw] at hup
    simp only [Option.isSome_some,if_true] at hup
    obtain ⟨v',W2,hap,hown2,_,hx2⟩:=hown.push j (by omega) hx.size
    rw [<- hup] at hown2
    have HO:=hid hown2; have HX:=hid (hx2 w (Nat.le_refl _) hx)
    clear hw hr hup hown hx hlw hown2 hx2
    go_wp2_with (at_builtin; refine wpList_append_run rfl _ _ _ rfl _ _ _ _ rfl rfl hap ?_)
    go_roundw
    case rel=>exact ⟨j+1,by go_num,by omega,HO.out,HX.out⟩
    case measure=>simp [intOf]; omega
  ·
   obtain rfl:k.n=j:=by omega
   rw [HW.out] at hown
   have HO:=hid hown; have HX:=hid hx
   clear hown hx
   go_wp2
   go_ret
   exact ⟨_,rfl,HO.out,HX.out⟩
def CrashRel (w w1:World) (k:DSk) (D:Dsk) (bits j:Nat) (wr:World):Prop:=Mid w wr k D (D.dnC bits j)/\Only (fun b=>b=k.lb\/b=k.rm) w1 wr
theorem CrashRel.step {w w1 wr W:World} {k:DSk} {D:Dsk} {bits j:Nat} (h0:DiskRep w k D) (h:CrashRel w w1 k D bits j wr) (hj:j < D.waiting.length) (hb:Dsk.bit bits j=true)
  (hm:Mid w W k D (fun i=>D.dnC bits j i || i == D.waiting.getD j 0)) (ho:Only (fun b=>b=k.lb\/b=k.rm) wr W):CrashRel w w1 k D bits (j+1) W :=
 ⟨hm.congr h0 fun i hi=>by
  obtain ⟨s,hs⟩:=Option.isSome_iff_exists.1 hi
  obtain ⟨q1,l,q2,_⟩:=h0.waitS i s hs
  rw [Dsk.dnC_step hj ((D.mem_waiting i).2 ⟨by rw [h0.len]; exact q1,by rw [q2]; rfl⟩),hb,Bool.true_and],h.2.trans ho fun _ _ x=>x⟩
theorem CrashRel.skip {w w1 wr:World} {k:DSk} {D:Dsk} {bits j:Nat} (h0:DiskRep w k D) (h:CrashRel w w1 k D bits j wr) (hj:j < D.waiting.length) (hb:Dsk.bit bits j=false):CrashRel w w1 k D bits (j+1) wr :=
 ⟨h.1.congr h0 fun i hi=>by
  obtain ⟨s,hs⟩:=Option.isSome_iff_exists.1 hi
  obtain ⟨q1,l,q2,_⟩:=h0.waitS i s hs
  rw [Dsk.dnC_step hj ((D.mem_waiting i).2 ⟨by rw [h0.len]; exact q1,by rw [q2]; rfl⟩),hb,Bool.false_and,Bool.or_false],h.2⟩
set_option maxHeartbeats 800000 in
theorem dcrash_c {w:World} {k:DSk} {D:Dsk} (h:DiskRep w k D) (bits:Nat) (hbits:bits < 18446744073709551616) :
  Calls Tryz.prog 114 #[.pointer (some ⟨k.p,0,none⟩),.int .u64 bits] w (DVoidPost w k (D.crash bits)):=by
 have H:=hid h
 have hmm:=@run_makeMap Tryz.prog
 clear h
 go_enter Tryz.func114,Tryz.ntmps114
 go_wp2_with fail
 refine (dwaits_c H.out).mono ?_
 rintro e w1 ⟨v,rfl,hown,hx⟩
 obtain ⟨a,c,rfl,hsl⟩:=hown.slice
 have HR:Hid (CrashRel w w1 k D bits 0 w1):=hid ⟨(((Mid.start H.out).ext H.out hx).congr H.out fun i _=>by unfold Dsk.dnC; simp),Only.refl _ _⟩
 have hlen:D.waiting.length<=k.n:=by
  have:=D.upTo_len D.l.length
  rw [H.out.len] at this
  unfold Dsk.upTo at this; unfold Dsk.waiting; rw [H.out.len]; exact this
 have hsm:=H.out.small
 have HSL:=hid hsl; have HX:=hid hx
 clear hown hsl hx
 go_wp2
 go_loopw [9] (fun i wr=>∃ j:Nat,i=.int .i64 j/\j<=D.waiting.length/\CrashRel w w1 k D bits j wr) (fun i _=>D.waiting.length - (intOf i).toNat)
 case atStart=>exact ⟨0,rfl,by omega,HR.out⟩
 case round =>
  clear HR
  obtain ⟨j,rfl,hj,hrel⟩:=hrel
  by_cases hlt:j < D.waiting.length
  ·
   rcases HSL.out with ⟨h1,_⟩ | ⟨b,rfl,hb1,hb2,hb3,hb4⟩
   ·
    rw [h1] at hlt; simp at hlt
   ·
    have i0:(0:Int)<=(j:Int):=by omega
    have i1:(j:Int) < (D.waiting.length:Int):=by omega
    have hcell:wr.cell? ⟨b,j,none⟩=some (.int .i64 (D.waiting.getD j 0)):=hrel.2.cell (hb4 j hlt) (fun e=>by
     have q1:=H.out.lt (b:=k.lb) ⟨.lb,rfl⟩
     have q2:=H.out.lt (b:=k.rm) ⟨.rm,rfl⟩
     have e':b=k.lb\/b=k.rm:=e
     omega)
    have HREL:=hid hrel
    clear hrel hb4
    have hmem:D.waiting.getD j 0∈D.waiting:=by
     have:D.waiting.getD j 0=D.waiting[j]:=by simp [List.getD_eq_getElem?_getD,hlt]
     rw [this]; exact List.getElem_mem hlt
    obtain ⟨p,hp⟩:∃ p,D.waiting.getD j 0=p:=⟨_,rfl⟩
    rw [hp] at hcell hmem
    have HP:=hid hp
    have HMEM:=hid hmem
    clear hp hmem
    have hw:=bit_walk bits j hbits
    rcases hbit:Dsk.bit bits j with _ | _
    ·
     rw [hbit] at hw
     have HF:=hid (HREL.out.skip H.out hlt hbit)
     clear hbit
     go_wp2
     go_roundw
     case rel=>exact ⟨j+1,by go_num,by omega,HF.out⟩
     case measure=>simp [intOf]; omega
    ·
     rw [hbit] at hw
     obtain ⟨q1,q2⟩:=(D.mem_waiting p).1 HMEM.out
     have hpn:p < k.n:=by rw [<- H.out.len]; exact q1
     obtain ⟨s,hs⟩:∃ s,k.wf p=some s:=by
      rcases hq:k.wf p with _ | s
      ·
       rw [H.out.waitN p hq] at q2; cases q2
      ·
       exact ⟨s,rfl⟩
     have HS:=hid hs; have HB:=hid hbit
     clear hbit hs q2
     go_wp2_with (go_at_call 176; refine (dput_c H.out HREL.out.1 p hpn s HS.out).mono ?_; rintro e W3 ⟨rfl,hm3,ho3⟩)
     have HF:=hid (HREL.out.step H.out hlt HB.out (by rw [HP.out]; exact hm3) ho3)
     go_roundw
     case rel=>exact ⟨j+1,by go_num,by omega,HF.out⟩
     case measure=>simp [intOf]; omega
  ·
   obtain rfl:D.waiting.length=j:=by omega
   have hfin:=(hrel.1.congr (dn':=fun i=>Dsk.bit bits (D.waiting.idxOf i)) H.out (fun i hi=>by
    obtain ⟨s,hs⟩:=Option.isSome_iff_exists.1 hi
    obtain ⟨q1,l,q2,_⟩:=H.out.waitS i s hs
    have:=Dsk.idx_lt ((D.mem_waiting i).2 ⟨by rw [H.out.len]; exact q1,by rw [q2]; rfl⟩)
    unfold Dsk.dnC
    simp [this])).finish H.out
   have HF:=hid hfin
   have hown:=(hrel.1.at_ H.out .p _ rfl (by simp) (by simp)).trans H.out.own
   have c1:=hrel.1.cell1 H.out
   have hfa:∀ o,(wr.alloc o).frozen? ⟨k.p,1,none⟩=false:=fun o=>Zax ((heap_alloc_old wr o (lt_of_block hown)).trans hown)
   have hf:wr.frozen? ⟨k.p,1,none⟩=false:=Zax hown
   have hca:∀ o,(wr.alloc o).cell? ⟨k.p,1,none⟩=some (.map (some k.wm)):=fun o=>Ext.cell ((Ext.refl wr).alloc o) c1
   clear hrel hfin hown
   go_wp2
   go_end0
   exact ⟨rfl,_,HF.out⟩
end Go.Proofs.YtgjnnbomnoafcaaGreatDoor
