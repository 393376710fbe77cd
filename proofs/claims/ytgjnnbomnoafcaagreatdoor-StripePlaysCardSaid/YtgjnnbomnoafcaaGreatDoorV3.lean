/- Texts of one proof, joined: InvPure, Zeros, RfInvA, RfInvB, RfDecA, RfDecB. -/
import Derived.Test.YtgjnnbomnoafcaaGreatDoorVY
import Derived.Test.YtgjnnbomnoafcaaGreatDoorVV
import Derived.Test.YtgjnnbomnoafcaaGreatDoorVA
import Derived.Lib.AppendZerosOnto
import Derived.Test.YtgjnnbomnoafcaaGreatDoorVW
import Derived.Test.YtgjnnbomnoafcaaGreatDoorVQ
import Derived.Test.YtgjnnbomnoafcaaGreatDoorV2
import Derived.Test.YtgjnnbomnoafcaaGreatDoorVO
set_option linter.unusedVariables false
set_option linter.unusedSimpArgs false
namespace Go.Proofs.YtgjnnbomnoafcaaGreatDoor
namespace Cd
set_option linter.unusedVariables false
open Gf
theorem eq_of_B {a b:List (List Nat)} (h:a.length=b.length) (e:∀ i,i < a.length->B a i=B b i):a=b:=by
 refine List.ext_getElem h fun i h1 h2=>?_
 have:=e i h1
 unfold B at this
 rwa [List.getD_eq_getElem?_getD,List.getD_eq_getElem?_getD,List.getElem?_eq_getElem h1,List.getElem?_eq_getElem h2] at this
theorem eq_of_nth {a b:List Nat} (h:a.length=b.length) (e:∀ i,i < a.length->nth a i=nth b i):a=b:=by
 refine List.ext_getElem h fun i h1 h2=>?_
 have:=e i h1
 rwa [Za0 h1,Za0 h2] at this
def goes (m o:List (List Nat)) (c:Nat):List (List Nat) × List (List Nat):=(List.range c).foldl step (m,o)
theorem goes_succ (m o:List (List Nat)) (c:Nat):goes m o (c+1)=step (goes m o c) c:=by unfold goes; rw [List.range_succ,List.foldl_append]; rfl
theorem goes_fst (m o o':List (List Nat)) (c:Nat):(goes m o c).1=(goes m o' c).1:=steps_fst _ _ _ _
theorem goes_blocks {k L:Nat} {m out:List (List Nat)} (hm:Blocks k k m) (ho:Blocks k L out):∀ c,c<=k->Blocks k k (goes m out c).1/\Blocks k L (goes m out c).2
 | 0,_=>⟨hm,ho⟩
 | c+1,h=>by
  have ih:=goes_blocks hm ho c (by omega)
  rw [goes_succ]
  exact step_blocks ih.1 ih.2 (by omega)
def aug (m u:List (List Nat)):List (List Nat):=(List.range m.length).map fun i=>B m i++B u i
theorem aug_len (m u:List (List Nat)):(aug m u).length=m.length:=by simp [aug]
theorem B_aug (m u:List (List Nat)) {i:Nat} (h:i < m.length):B (aug m u) i=B m i++B u i:=by
 unfold aug
 rw [B,List.getD_eq_getElem?_getD]
 simp [h]
theorem scale_append (x:Nat) (a b:List Nat):scale x (a++b)=scale x a++scale x b:=by unfold scale; rw [List.map_append]
theorem addB_append (a b c d:List Nat) (x:Nat) (h1:a.length=c.length) (h2:b.length=d.length):addB (a++b) (c++d) x=addB a c x++addB b d x:=by
 refine eq_of_nth (by rw [addB_len,List.length_append,List.length_append,addB_len,addB_len]) fun i hi=>?_
 rw [addB_len,List.length_append] at hi
 rw [addB_nth _ _ _ _ (by rw [List.length_append]; exact hi),if_pos (by rw [List.length_append]; omega),Zbd,Zbd,Zbd,addB_len]
 by_cases q:i < a.length
 ·
  rw [if_pos q,if_pos (by omega),if_pos q,addB_nth _ _ _ _ q,if_pos (by omega)]
 ·
  rw [if_neg q,if_neg (by omega),if_neg q,addB_nth _ _ _ _ (by omega),if_pos (by omega),h1]
theorem pivot_aug {k:Nat} {m u:List (List Nat)} (hm:Blocks k k m) {col:Nat} (hc:col < k):∀ (f p:Nat),pivot (aug m u) col f p=pivot m col f p
 | 0,p=>rfl
 | f+1,p=>by
  show (if p < (aug m u).length - 1/\nth (B (aug m u) p) col=0 then pivot (aug m u) col f (p+1) else p)=if p < m.length - 1/\nth (B m p) col=0 then pivot m col f (p+1) else p
  rw [aug_len,pivot_aug hm hc f (p+1)]
  by_cases q:p < m.length - 1
  ·
   have hp:p < m.length:=by omega
   have e:nth (B (aug m u) p) col=nth (B m p) col:=by rw [B_aug _ _ hp,Zbd,if_pos (by rw [hm.len p (by rw [<- hm.n]; exact hp)]; exact hc)]
   rw [e]
  ·
   rw [if_neg (fun z=>q z.1),if_neg (fun z=>q z.1)]
theorem aug_swap {k L:Nat} {m u:List (List Nat)} (hm:m.length=k) (hu:u.length=k) {i j:Nat} (hi:i < k) (hj:j < k):swap (aug m u) i j=aug (swap m i j) (swap u i j):=by
 have hl:(swap m i j).length=k:=by simp [swap,hm]
 refine eq_of_B (by rw [aug_len,hl]; simp [swap,aug_len,hm]) fun n hn=>?_
 have hnk:n < k:=by simpa [swap,aug_len,hm] using hn
 rw [B_aug (swap m i j) (swap u i j) (by rw [hl]; exact hnk),B_swap (aug m u) (by rw [aug_len,hm]; exact hi) (by rw [aug_len,hm]; exact hj),B_swap _ (by rw [hm]; exact hi) (by rw [hm]; exact hj),B_swap _ (by rw [hu]; exact hi) (by rw [hu]; exact hj),
  B_aug m u (i:=i) (by rw [hm]; exact hi),B_aug m u (i:=j) (by rw [hm]; exact hj),B_aug m u (i:=n) (by rw [hm]; exact hnk)]
 split
 ·
  rfl
 ·
  split<;>rfl
theorem aug_set {k:Nat} {m u:List (List Nat)} (hm:m.length=k) (hu:u.length=k) {i:Nat} (hi:i < k) (a b:List Nat):(aug m u).set i (a++b)=aug (m.set i a) (u.set i b):=by
 refine eq_of_B (by rw [List.length_set,aug_len,aug_len,List.length_set]) fun n hn=>?_
 rw [List.length_set,aug_len] at hn
 rw [B_aug (m.set i a) (u.set i b) (i:=n) (by rw [List.length_set]; exact hn),B_set,B_set,B_set,aug_len,B_aug m u hn,hu,hm]
 by_cases q:i=n/\i < k
 ·
  rw [if_pos q,if_pos q,if_pos q]
 ·
  rw [if_neg q,if_neg q,if_neg q]
theorem aug_clear {k:Nat} {m u:List (List Nat)} (hm:Blocks k k m) (hu:Blocks k k u) {col:Nat} (hc:col < k):clearK (aug m u) (aug m u) col k=aug (clearK m m col k) (clearK m u col k):=by
 refine eq_of_B (by rw [Zbo,aug_len,aug_len,Zbo]) fun n hn=>?_
 rw [Zbo,aug_len,hm.n] at hn
 rw [B_aug (clearK m m col k) (clearK m u col k) (i:=n) (by rw [Zbo,hm.n]; exact hn),clearK_B (aug m u) _ _ _ _ (by rw [aug_len,hm.n]; exact Nat.le_refl _),clearK_B m m _ _ _ (by rw [hm.n]; exact Nat.le_refl _),clearK_B m u _ _ _ (by rw [hu.n]; exact Nat.le_refl _),
  B_aug m u (i:=n) (by rw [hm.n]; exact hn),B_aug m u (i:=col) (by rw [hm.n]; exact hc),show nth (B m n++B u n) col=nth (B m n) col by rw [Zbd,if_pos (by rw [hm.len n hn]; exact hc)]]
 split
 ·
  rw [addB_append _ _ _ _ _ (by rw [hm.len n hn,hm.len col hc]) (by rw [hu.len n hn,hu.len col hc])]
 ·
  rfl
theorem colM_blocks {k:Nat} {m:List (List Nat)} (hm:Blocks k k m) {col:Nat} (hc:col < k):Blocks k k (colM m col):=by
 have hp:=(pivot_lt m col m.length col (by rw [hm.n]; exact hc)).2
 rw [hm.n] at hp
 unfold colM
 simp only [hm.n]
 exact (hm.swap hc hp).set col (by rw [scale_len]; exact (hm.swap hc hp).len col hc) (scale_byte _ _)
theorem colO_blocks {k L:Nat} {m out:List (List Nat)} (hm:Blocks k k m) (ho:Blocks k L out) {col:Nat} (hc:col < k):Blocks k L (colO m out col):=by
 have hp:=(pivot_lt m col m.length col (by rw [hm.n]; exact hc)).2
 rw [hm.n] at hp
 unfold colO
 simp only [hm.n]
 exact (ho.swap hc hp).set col (by rw [scale_len]; exact (ho.swap hc hp).len col hc) (scale_byte _ _)
theorem step_fst {s:List (List Nat)} (o:List (List Nat)) (col:Nat):(step (s,o) col).1=clearK (colM s col) (colM s col) col s.length:=rfl
theorem step_snd {s:List (List Nat)} (o:List (List Nat)) (col:Nat):(step (s,o) col).2=clearK (colM s col) (colO s o col) col s.length:=rfl
theorem aug_colM {k:Nat} {m u:List (List Nat)} (hm:Blocks k k m) (hu:Blocks k k u) {col:Nat} (hc:col < k):colM (aug m u) col=aug (colM m col) (colO m u col):=by
 have hp:=(pivot_lt m col m.length col (by rw [hm.n]; exact hc)).2
 rw [hm.n] at hp
 unfold colM colO
 simp only [aug_len,hm.n]
 rw [pivot_aug hm hc,aug_swap (L:=k) hm.n hu.n hc hp]
 have h1:=hm.swap hc hp
 have h2:=hu.swap hc hp
 rw [B_aug _ _ (by rw [h1.n]; exact hc),Zbd,if_pos (by rw [h1.len col hc]; exact hc),scale_append,aug_set h1.n h2.n hc]
theorem aug_step {k:Nat} {m u:List (List Nat)} (hm:Blocks k k m) (hu:Blocks k k u) {col:Nat} (hc:col < k) (o:List (List Nat)):(step (aug m u,o) col).1=aug (step (m,u) col).1 (step (m,u) col).2:=by
 rw [step_fst,step_fst,step_snd,aug_len,hm.n,aug_colM hm hu hc]
 exact aug_clear (colM_blocks hm hc) (colO_blocks hm hu hc) hc
theorem aug_goes {k:Nat} {m u:List (List Nat)} (hm:Blocks k k m) (hu:Blocks k k u):∀ c,c<=k->(goes (aug m u) [] c).1=aug (goes m u c).1 (goes m u c).2
 | 0,_=>rfl
 | c+1,h=>by
  have hb:=goes_blocks hm hu c (by omega)
  rw [goes_succ,goes_succ,show goes (aug m u) [] c=((goes (aug m u) [] c).1,(goes (aug m u) [] c).2) from rfl,aug_goes hm hu c (by omega)]
  exact aug_step hb.1 hb.2 (by omega) _
theorem Sol.clearD {k L:Nat} {l m out d:List (List Nat)} (h:Sol k L l m out) (hl:∀ j,∀ y∈B l j,y < 256) (hd:∀ i,∀ x∈B d i,x < 256) {col:Nat} (hc:col < k):Sol k L l (clearK d m col k) (clearK d out col k):=by
 refine ⟨h.hm.clear hc hd,h.ho.clear hc hd,fun a ha t ht=>?_⟩
 rw [clearK_B _ _ _ _ _ (by rw [h.ho.n]; exact Nat.le_refl _),clearK_B _ _ _ _ _ (by rw [h.hm.n]; exact Nat.le_refl _)]
 by_cases e:a < k/\a≠col/\nth (B d a) col≠0
 ·
  rw [if_pos e,if_pos e,addB_nth _ _ _ _ (by rw [h.ho.len a ha]; exact ht),if_pos (by rw [h.ho.len col hc]; exact ht),h.eq a ha t ht,h.eq col hc t ht,
   comb_add k _ _ _ _ _ (h.hm.len a ha) (h.hm.len col hc) (h.hm.byte a) (h.hm.byte col) (Zay (hd a) col) hl]
 ·
  rw [if_neg e,if_neg e]; exact h.eq a ha t ht
theorem Sol.stepD {k L:Nat} {l u out m:List (List Nat)} (h:Sol k L l u out) (hm:Blocks k k m) (hl:∀ j,∀ y∈B l j,y < 256) {col:Nat} (hc:col < k):Sol k L l (Cd.step (m,u) col).2 (Cd.step (m,out) col).2:=by
 have hp:=(pivot_lt m col m.length col (by rw [hm.n]; exact hc)).2
 rw [hm.n] at hp
 have h1:=h.swap hc (j:=pivot m col m.length col) (by rw [hm.n]; exact hp)
 have h2:=h1.scale hl hc (inv_bd (nth (B (Cd.swap m col (pivot m col m.length col)) col) col))
 have h3:=h2.clearD hl (colM_blocks hm hc).byte hc
 rw [step_snd,step_snd,hm.n]
 unfold colO
 simp only [hm.n] at h3 ⊢
 exact h3
theorem Sol.goesD {k L:Nat} {l u out m:List (List Nat)} (h:Sol k L l u out) (hm:Blocks k k m) (hl:∀ j,∀ y∈B l j,y < 256):∀ c,c<=k->Sol k L l (goes m u c).2 (goes m out c).2
 | 0,_=>h
 | c+1,hc=>by
  have ih:=Sol.goesD h hm hl c (by omega)
  have hb:=(goes_blocks hm h.hm c (by omega)).1
  rw [goes_succ,goes_succ]
  have e:(goes m out c).1=(goes m u c).1:=goes_fst _ _ _ _
  have:=ih.stepD hb hl (show c < k by omega)
  rw [show goes m u c=((goes m u c).1,(goes m u c).2) from rfl,show goes m out c=((goes m u c).1,(goes m out c).2) from by rw [<- e]]
  exact this
theorem unit_blocks (k:Nat):Blocks k k (unit k):=by
 refine Blocks.mem (by simp [unit]) (fun b hb=>?_) fun b hb x hx=>?_
 ·
  obtain ⟨p,_,rfl⟩:=List.mem_map.1 hb; simp
 ·
  obtain ⟨p,_,rfl⟩:=List.mem_map.1 hb
  obtain ⟨q,_,rfl⟩:=List.mem_map.1 hx
  split<;>omega
theorem invert_mix {k L:Nat} {m D:List (List Nat)} (hm:Blocks k k m) (hD:Blocks k L D) (hk:0 < k) {i:Nat} (hi:i < k):mix ((B (goes (aug m (unit k)) [] k).1 i).drop k) D=B (solve m D).2 i:=by
 have h0:Sol k L D (unit k) D:=⟨unit_blocks k,hD,fun i hi t ht=>(comb_unit D t hi hD.byte).symm⟩
 have h1:=h0.goesD hm hD.byte k (Nat.le_refl _)
 have hb:=goes_blocks hm (unit_blocks k) k (Nat.le_refl _)
 have e1:(B (goes (aug m (unit k)) [] k).1 i).drop k=B (goes m (unit k) k).2 i:=by
  rw [aug_goes hm (unit_blocks k) k (Nat.le_refl _),B_aug _ _ (by rw [hb.1.n]; exact hi),List.drop_left' (hb.1.len i hi)]
 have e2:(solve m D).2=(goes m D k).2:=by unfold solve goes; rw [hm.n]
 rw [e1,e2]
 have hl0:=hD.len 0 hk
 refine eq_of_nth (by unfold mix; rw [mixK_len,hl0,h1.ho.len i hi]) fun t ht=>?_
 rw [show (mix (B (goes m (unit k) k).2 i) D).length=L by unfold mix; rw [mixK_len,hl0]] at ht
 rw [h1.eq i hi t ht]
 unfold mix
 rw [h1.hm.len i hi]
 exact mixK_nth _ _ _ _ (fun j hj=>by rw [hD.len j hj,hl0]) (by rw [hl0]; exact ht)
def pivs (m:List (List Nat)):Bool:=(List.range m.length).all fun c=>nth (B (goes m [] c).1 (pivot (goes m [] c).1 c m.length c)) c != 0
theorem pivs1:(subs 1 (List.range 6)).all (fun ps=>pivs (ps.map (row 1)))=true:=by decide +kernel
theorem pivs2:(subs 2 (List.range 6)).all (fun ps=>pivs (ps.map (row 2)))=true:=by decide +kernel
theorem pivs3:(subs 3 (List.range 6)).all (fun ps=>pivs (ps.map (row 3)))=true:=by decide +kernel
theorem pivs4:(subs 4 (List.range 6)).all (fun ps=>pivs (ps.map (row 4)))=true:=by decide +kernel
theorem pivs5:(subs 5 (List.range 6)).all (fun ps=>pivs (ps.map (row 5)))=true:=by decide +kernel
theorem pivs6:(subs 6 (List.range 6)).all (fun ps=>pivs (ps.map (row 6)))=true:=by decide +kernel
theorem pivs_good {k:Nat} (h1:1<=k) (h4:k<=6) {ps:List Nat} (hp:ps.length=k) (hs:ps.Sublist (List.range 6)):pivs (ps.map (row k))=true:=by
 have hm:=mem_subs hs
 rw [hp] at hm
 obtain rfl | rfl | rfl | rfl | rfl | rfl:k=1\/k=2\/k=3\/k=4\/k=5\/k=6:=by omega
 ·
  exact List.all_eq_true.1 pivs1 _ hm
 ·
  exact List.all_eq_true.1 pivs2 _ hm
 ·
  exact List.all_eq_true.1 pivs3 _ hm
 ·
  exact List.all_eq_true.1 pivs4 _ hm
 ·
  exact List.all_eq_true.1 pivs5 _ hm
 ·
  exact List.all_eq_true.1 pivs6 _ hm
theorem pivs_aug {k:Nat} {m:List (List Nat)} (hm:Blocks k k m) (h:pivs m=true) {c:Nat} (hc:c < k):nth (B (goes (aug m (unit k)) [] c).1 (pivot (goes (aug m (unit k)) [] c).1 c k c)) c≠0:=by
 have hb:=goes_blocks hm (unit_blocks k) c (by omega)
 rw [aug_goes hm (unit_blocks k) c (by omega),pivot_aug hb.1 hc]
 have hp:=(pivot_lt (goes m (unit k) c).1 c k c (by rw [hb.1.n]; exact hc)).2
 rw [hb.1.n] at hp
 rw [B_aug _ _ (by rw [hb.1.n]; exact hp),Zbd,if_pos (by rw [hb.1.len _ hp]; exact hc)]
 have:=List.all_eq_true.1 h c (List.mem_range.2 (by rw [hm.n]; exact hc))
 rw [goes_fst m [] (unit k) c,hm.n] at this
 simpa using this
end Cd
open Go Go.RowKit
theorem zc_bytes (m:Nat):Builtin.zeroCells (Value.int .u8 0).cells m=((List.replicate m 0).map bv).toArray:=by
 unfold Builtin.zeroCells
 apply Array.ext
 ·
  simp [Value.cells]
 ·
  intro i h1 h2
  simp [Value.cells,bv,Nat.mod_one]
theorem append_zeros (w:World) (g n cap m:Nat) (xs:List Nat) (h:w.ownsRow 0 5 1 (.slice (some ⟨g,0,none⟩) n cap) n (xs.map bv)) (hm:0 < m) (hl:n+m<=100000) :
  ∃ b c w',(Builtin.append_ #[38,3] 38 #[.slice (some ⟨g,0,none⟩) n cap,.int .i64 (m:Nat)]).run Tryz.prog w=.ok (.slice (some ⟨b,0,none⟩) (n+m) c) w' ∧
   w'.ownsRow 0 5 1 (.slice (some ⟨b,0,none⟩) (n+m) c) (n+m) ((xs++List.replicate m 0).map bv)/\Only (fun k=>k=g) w w'/\(b=g\/b=w.heap.size):=by
 obtain ⟨i0,hi,hz0,hz1,hz2⟩:=info_parts info8
 have hxl:(xs.map bv).length=n:=by have:=h.1; omega
 have hml:((xs++List.replicate m 0).map bv).length=n+m:=by rw [List.map_append,List.length_append,hxl]; simp
 rcases h.2 with ⟨e,_⟩ | ⟨g',cp,cur,e,_,hg,hnc,hcm,hcs,htake⟩
 ·
  cases e
 cases e
 by_cases hroom:n+m<=cap
 ·
  have hcs':cur.size=cap:=by simpa using hcs
  have hst:=run_storeCells_at (P:=Tryz.prog) g n 5 ((List.replicate m 0).map bv) 0 cur w hg (by simp; omega) (by intro v hv; obtain ⟨x,_,rfl⟩:=List.mem_map.1 hv; rfl)
  have hw:IntKind.i64.wrap (m:Int)=m:=by rw [IntKind.wrap_i64]; omega
  have hneg:¬((m:Int) < 0):=by omega
  have h48i:¬(281474976710656 < (m:Int)):=by omega
  have hm0:m≠0:=by omega
  refine ⟨g,cap,w.setRow g (cur.toList.take n++(List.replicate m 0).map bv++cur.toList.drop (n+m)).toArray,?_,?_,?_,.inl rfl⟩
  ·
   simp only [Nat.add_zero,List.length_map,List.length_replicate] at hst
   simp [Builtin.append_,run_underlying Tryz.underlying38,run_underlying Tryz.underlying3,sizeOf,typeInfo,zeroValue,hi,hz0,hz1,hz2,asInt,asIntOf,hw,hneg,h48i,hm0,hroom,zc_bytes,Addr.add_lit]
   simp [Addr.add_lit] at hst
   rw [hst]
   rfl
  ·
   refine ⟨by rw [hml]; omega,.inr ⟨g,cap,_,rfl,Nat.zero_le _,setRow_heap w g cur _ _ _ hg,hroom,hcm,?_,?_⟩⟩
   ·
    simp only [List.size_toArray,List.length_append,List.length_take,List.length_drop,Array.length_toList,List.length_map,List.length_replicate]
    omega
   ·
    have e1:cur.toList.take n=xs.map bv:=by simpa using htake
    show List.take ((n+m)*1) _=_
    rw [Nat.mul_one,e1,<- List.map_append,<- hml]
    exact List.take_left
  ·
   exact Zah _ _ _
 ·
  have hr:=Lib.run_append_grow_zeros (P:=Tryz.prog) w 38 3 38 5 i0 (.int .u8 0) .i64 .i64 Tryz.underlying38 Tryz.underlying3 hi hz0 (some ⟨g,0,none⟩) n cap (xs.map bv)
   (by
    have:=run_firstCells_some (P:=Tryz.prog) w.drew i0.size n ⟨g,0,none⟩ n cap (xs.map bv) (by rw [hz1]; omega) (fun j u hu=>h.cells (g:=g) rfl j u hu)
    exact this) m hm (by omega) (by omega) (by push_cast; omega) (by rw [hz2]; omega)
   (by have:=growslice_fits (need:=n+m) (old:=cap) (bytes:=i0.bytes) (by omega) (by rw [hz2]; omega); exact this)
  rw [zc_bytes,zc_bytes] at hr
  refine ⟨w.heap.size,_,_,hr,⟨by rw [hml]; omega,.inr ⟨w.heap.size,_,_,rfl,Nat.zero_le _,heap_alloc_new w.drew _,grownCap_ge w (n+m) cap _,grownCap_le_maxLen w (n+m) cap _ (by unfold maxLen; omega),?_,?_⟩⟩,?_,.inr rfl⟩
  ·
   have:=grownCap_ge w (n+m) cap 5
   have hxl':xs.length=n:=by simpa using hxl
   simp only [List.map_replicate,Array.size_append,List.size_toArray,List.length_map,List.length_replicate]
   omega
  ·
   simp only [Array.toList_append,List.toList_toArray]
   rw [Nat.mul_one,<- List.map_append,<- hml]
   exact List.take_left
  ·
   exact Ext.only (((Ext.refl w).drew).alloc _)
open Go Go.RowKit Gf
namespace Cd
def scaleK (l:List Nat) (x k:Nat):List Nat:=(List.range l.length).map fun i=>if i < k then mul (nth l i) x else nth l i
theorem scaleK_len (l:List Nat) (x k:Nat):(scaleK l x k).length=l.length:=by simp [scaleK]
theorem Zch (l:List Nat) (x k i:Nat) (h:i < l.length):nth (scaleK l x k) i=if i < k then mul (nth l i) x else nth l i:=by
 rw [Za0 (by rw [scaleK_len]; exact h)]; simp [scaleK]
theorem scaleK_zero (l:List Nat) (x:Nat):scaleK l x 0=l:=by
 apply eq_of_nth (by simp [scaleK])
 intro i hi
 rw [Zch _ _ _ _ (by simpa [scaleK] using hi),if_neg (by omega)]
theorem scaleK_bv (l:List Nat) (x k:Nat) (h:k < l.length):((scaleK l x k).map bv)[k]?=some (.int .u8 (nth l k)):=by
 rw [List.getElem?_map,List.getElem?_eq_getElem (by rw [scaleK_len]; exact h)]
 rw [<- Za0,Zch _ _ _ _ h,if_neg (by omega)]; rfl
theorem scaleK_step (l:List Nat) (x k:Nat):((scaleK l x k).map bv).set k (.int .u8 (mul (nth l k) x:Nat))=(scaleK l x (k+1)).map bv:=by
 have e:(Value.int .u8 (mul (nth l k) x:Nat))=bv (mul (nth l k) x):=rfl
 rw [e,<- List.map_set]
 congr 1
 apply eq_of_nth (by simp [scaleK_len])
 intro i hi
 have hi':i < l.length:=by simpa [scaleK_len] using hi
 rw [Zch _ _ _ _ hi',Za0 hi,List.getElem_set]
 by_cases h:k=i
 ·
  subst h; rw [if_pos rfl,if_pos (by omega)]
 ·
  rw [if_neg h,<- Za0,Zch _ _ _ _ hi']
  by_cases h2:i < k
  ·
   rw [if_pos h2,if_pos (by omega)]
  ·
   rw [if_neg h2,if_neg (by omega)]
theorem scaleK_end (l:List Nat) (x:Nat):scaleK l x l.length=scale x l:=by
 apply eq_of_nth (by rw [scaleK_len,scale_len])
 intro i hi
 have hi':i < l.length:=by simpa [scaleK_len] using hi
 rw [Zch _ _ _ _ hi',if_pos hi',scale_nth]
end Cd
structure AugSt (w0 wr:World) (g c k L:Nat) (b x:Nat->Nat) (M:List (List Nat)):Prop where
 ext:Ext w0 wr
 mat:Mat wr g c k L b x M
 inj:∀ i j,i < k->j < k->b i=b j->i=j
 lg:w0.heap.size<=g
 lb:∀ i,i < k->w0.heap.size<=b i
namespace AugSt
variable {w0 wr w':World} {g c k L:Nat} {b x:Nat->Nat} {M:List (List Nat)}
theorem more (h:AugSt w0 wr g c k L b x M) (e:Ext wr w'):AugSt w0 w' g c k L b x M:=⟨Ext.trans h.ext e,h.mat.only e (fun x=>x) (fun _ _ x=>x),h.inj,h.lg,h.lb⟩
theorem swapped (h:AugSt w0 wr g c k L b x M) (e:Only (fun y=>y=g) wr w') {i j:Nat} (hi:i < k) (hj:j < k) (h1:w'.ownsRow 0 38 1 (.slice (some ⟨g,0,none⟩) k c) k (hdrs k L (sw b i j) (sw x i j))):AugSt w0 w' g c k L (sw b i j) (sw x i j) (Cd.swap M i j):=by
 refine ⟨Ext.then h.ext e (fun q hq e=>by have:=h.lg; omega),⟨h1,fun n hn=>?_,h.mat.bl.swap hi hj⟩,Two.sw_inj h.inj hi hj,h.lg,fun n hn=>?_⟩
 ·
  obtain ⟨q,hq,hs⟩:=Two.sw_lt hi hj hn
  have hB:Cd.B (Cd.swap M i j) n=Cd.B M q:=by
   rw [Cd.B_swap M (by rw [h.mat.bl.n]; exact hi) (by rw [h.mat.bl.n]; exact hj)]
   have e1:q=sw id i j n:=(hs id).symm
   rw [e1]
   unfold sw
   split
   ·
    rfl
   ·
    split
    ·
     rfl
    ·
     rfl
  rw [hs b,hs x,hB]
  exact Zam (h.mat.row q hq) e (fun p=>h.mat.gne hq p.symm)
 ·
  obtain ⟨q,hq,hs⟩:=Two.sw_lt hi hj hn
  rw [hs b]
  exact h.lb q hq
theorem set1 (h:AugSt w0 wr g c k L b x M) {i:Nat} (hi:i < k) (e:Only (fun y=>y=b i) wr w') {a:List Nat} (ha:a.length=L) (hax:∀ y∈a,y < 256)
  (h1:w'.ownsRow 0 5 1 (.slice (some ⟨b i,0,none⟩) L (x i)) L (a.map bv)):AugSt w0 w' g c k L b x (M.set i a):=by
 have hf1:∀ n,n < k->n≠i->¬(b n=b i):=fun n hn hne q=>hne (h.inj n i hn hi q)
 refine ⟨Ext.then h.ext e (fun q hq e=>by have:=h.lb i hi; omega),⟨Zam h.mat.hdr e (h.mat.gne hi),fun n hn=>?_,h.mat.bl.set i ha hax⟩,h.inj,h.lg,h.lb⟩
 rw [Cd.B_set]
 by_cases q:i=n
 ·
  subst q; rw [if_pos ⟨rfl,by rw [h.mat.bl.n]; exact hi⟩]; exact h1
 ·
  rw [if_neg (fun r=>q r.1)]; exact Zam (h.mat.row n hn) e (hf1 n hn (fun r=>q r.symm))
end AugSt
structure AugB (w0 wr:World) (L:Nat) (ls:List (List Nat)) (j:Nat) (v:Value) (b x:Nat->Nat):Prop where
 ext:Ext w0 wr
 own:OwnVs wr w0.heap.size 38 1 v ((List.range j).map (hdrE L b x))
 row:∀ i,i < j->wr.ownsRow 0 5 1 (.slice (some ⟨b i,0,none⟩) L (x i)) L ((Cd.B ls i).map bv)
 lb:∀ i,i < j->w0.heap.size<=b i
 inj:∀ a c,a < j->c < j->b a=b c->a=c
theorem AugB.nil (w:World) (L:Nat) (ls:List (List Nat)):AugB w w L ls 0 (.slice none 0 0) id id :=
 ⟨Ext.refl _,OwnVs.nil _ _ _ _,fun i h=>absurd h (Nat.not_lt_zero _),fun i h=>absurd h (Nat.not_lt_zero _),fun a b h=>absurd h (Nat.not_lt_zero _)⟩
theorem AugB.add {w0 wr W:World} {L j:Nat} {ls:List (List Nat)} {v:Value} {b x:Nat->Nat} (h:AugB w0 wr L ls j v b x) (hj:j < 1000) (e:Ext wr W) {b1 c1:Nat} (l1:wr.heap.size<=b1)
  (s1:W.ownsRow 0 5 1 (.slice (some ⟨b1,0,none⟩) L c1) L ((Cd.B ls j).map bv)) :
  ∃ v' w',(Builtin.append_ #[159,159] 159 #[v,.slice (some ⟨W.heap.size,0,none⟩) 1 1]).run Tryz.prog (W.alloc (.cells #[Value.slice (some ⟨b1,0,none⟩) L c1] 38))=.ok v' w'/\AugB w0 w' L ls (j+1) v' (at_ b j b1) (at_ x j c1):=by
 have hsz:=h.ext.size
 have hsz2:=e.size
 have ho:=h.own.ext e
 obtain ⟨v',w',e1,e2,e3,e4⟩:=ho.add (tsl:=159) Tryz.underlying159 infoRow rfl (by omega) #[Value.slice (some ⟨b1,0,none⟩) L c1] rfl (by intro u hu; simp at hu; subst hu; rfl) (by simp; omega) (by omega) (by omega)
 have up:∀ {b n c:Nat} {bs:List Value},W.ownsRow 0 5 1 (.slice (some ⟨b,0,none⟩) n c) n bs->w'.ownsRow 0 5 1 (.slice (some ⟨b,0,none⟩) n c) n bs:=fun q=>owns_off q ho e3
 have hlt:∀ i,i < j->b i < wr.heap.size:=fun i hi=>owns_lt' (h.row i hi)
 refine ⟨v',w',e1,e4 w0 (Nat.le_refl _) (Ext.trans h.ext e),by rw [map_at]; exact e2,fun i hi=>?_,fun i hi=>?_,fun a c ha hc=>?_⟩
 ·
  unfold at_
  by_cases q:i=j
  ·
   subst q; rw [if_pos rfl,if_pos rfl]; exact up s1
  ·
   rw [if_neg q,if_neg q]; exact up (Zam (h.row i (by omega)) e (fun x=>x))
 ·
  unfold at_
  by_cases q:i=j
  ·
   rw [if_pos q]; omega
  ·
   rw [if_neg q]; exact h.lb i (by omega)
 ·
  unfold at_
  by_cases q:a=j<;>by_cases r:c=j
  ·
   intro _; omega
  ·
   rw [if_pos q,if_neg r]; intro z; have:=hlt c (by omega); omega
  ·
   rw [if_neg q,if_pos r]; intro z; have:=hlt a (by omega); omega
  ·
   rw [if_neg q,if_neg r]; exact h.inj a c (by omega) (by omega)
theorem AugB.out {w0 wr:World} {L k:Nat} {ls:List (List Nat)} {v:Value} {b x:Nat->Nat} (h:AugB w0 wr L ls k v b x) (k1:1<=k) (hl:Cd.Blocks k L ls):∃ g c,v=.slice (some ⟨g,0,none⟩) k c/\AugSt w0 wr g c k L b x ls:=by
 have hlt:∀ (f:Nat->Array Value),((List.range k).map f).length=k:=fun f=>by simp
 obtain ⟨a5,c5,e5,q5⟩:=h.own.slice
 rcases q5 with ⟨q,_⟩ | ⟨gm,rfl,g5,_,_,_⟩
 ·
  have:=congrArg List.length q; rw [hlt] at this; simp at this; omega
 rw [hlt] at e5
 have h5:=h.own.own
 rw [hlt,flat_hdr,e5] at h5
 exact ⟨gm,c5,e5,h.ext,⟨owns_base' h5,h.row,hl⟩,h.inj,g5,h.lb⟩
theorem aug_row (rows:List (List Nat)) (k i:Nat) (hr:Cd.Blocks k k rows) (hi:i < k):(((Cd.B rows i)++List.replicate k 0).map bv).set (k+i) (.int .u8 1)=(Cd.B (Cd.aug rows (Cd.unit k)) i).map bv:=by
 have e:(Value.int .u8 1)=bv 1:=rfl
 rw [e,<- List.map_set,Cd.B_aug _ _ (by rw [hr.n]; exact hi)]
 congr 1
 have hl:=hr.len i hi
 have hu:Cd.B (Cd.unit k) i=(List.range k).map fun j=>if i=j then 1 else 0:=by unfold Cd.B Cd.unit; simp [List.getD_eq_getElem?_getD,hi]
 rw [hu,List.set_append_right _ _ (by omega)]
 congr 1
 rw [hl,show k+i - k=i by omega]
 refine List.ext_getElem (by simp) fun n h1 h2=>?_
 rw [List.getElem_set]
 by_cases q:i=n
 ·
  simp [q]
 ·
  simp [q]
theorem aug_blocks {rows:List (List Nat)} {k:Nat} (hr:Cd.Blocks k k rows):Cd.Blocks k (k+k) (Cd.aug rows (Cd.unit k)):=by
 have hu:=Cd.unit_blocks k
 refine ⟨by rw [Cd.aug_len]; exact hr.n,fun j hj=>?_,fun j y hy=>?_⟩
 ·
  rw [Cd.B_aug _ _ (by rw [hr.n]; exact hj),List.length_append,hr.len j hj,hu.len j hj]
 ·
  rcases Nat.lt_or_ge j k with q | q
  ·
   rw [Cd.B_aug _ _ (by rw [hr.n]; exact q)] at hy
   rcases List.mem_append.1 hy with z | z
   ·
    exact hr.byte j y z
   ·
    exact hu.byte j y z
  ·
   have:Cd.B (Cd.aug rows (Cd.unit k)) j=[]:=by unfold Cd.B; rw [List.getD_eq_getElem?_getD,List.getElem?_eq_none (by rw [Cd.aug_len,hr.n]; exact q)]; rfl
   rw [this] at hy; simp at hy
end Go.Proofs.YtgjnnbomnoafcaaGreatDoor
namespace Go.Proofs.YtgjnnbomnoafcaaGreatDoor
set_option linter.unusedVariables false
open Go Go.RowKit Gf
def Cd.invs (rows:List (List Nat)) (k:Nat):List (List Nat):=(List.range k).map fun i=>(Cd.B (Cd.goes (Cd.aug rows (Cd.unit k)) [] k).1 i).drop k
def FInvPost (w:World) (rows:List (List Nat)) (k:Nat) (e:Ending) (w':World):Prop:=∃ g c,e=.returned (.slice (some ⟨g,0,none⟩) k c)/\RowsG w' g (Cd.invs rows k)/\Ext w w'
def hdrD (k:Nat) (b x:Nat->Nat) (i:Nat):Array Value:=#[.slice (some ⟨b i,k,none⟩) k (x i - k)]
theorem Cd.set_self (l:List (List Nat)) (i:Nat):l.set i (Cd.B l i)=l:=by
 refine Cd.eq_of_B (by simp) fun n hn=>?_
 rw [Cd.B_set]
 split
 ·
  rename_i q; rw [q.1]
 ·
  rfl
theorem Cd.scaleK_byte (l:List Nat) (x k:Nat) (h:∀ y∈l,y < 256):∀ y∈Cd.scaleK l x k,y < 256:=fun y hy=>by
 unfold Cd.scaleK at hy
 obtain ⟨i,_,rfl⟩:=List.mem_map.1 hy
 split
 ·
  exact mul_bd _ _
 ·
  exact Zay h i
theorem Cd.addK_byte (l f:List Nat) (x k:Nat) (hx:x < 256) (h:∀ y∈l,y < 256):∀ y∈addK l f x k,y < 256:=fun y hy=>by
 unfold addK at hy
 obtain ⟨i,_,rfl⟩:=List.mem_map.1 hy
 split
 ·
  exact xor_bd _ _ (Zay h i) (mul_bd _ _)
 ·
  exact Zay h i
attribute [local irreducible] wpSQ
set_option maxRecDepth 100000 in
set_option maxHeartbeats 8000000 in
theorem finv_c {w:World} {k:Nat} (gr gc:Nat) (rows:List (List Nat)) (hl:RowsG w gr rows) (hr:Cd.Blocks k k rows) (k1:1<=k) (k8:k<=8) (hpv:Cd.pivs rows=true) :
  Calls Tryz.prog 198 #[.slice (some ⟨gr,0,none⟩) k gc] w (FInvPost w rows k):=by
 have HROW:=hid (fun j (hj:j < k)=>hl.row (L:=k) (fun i hi=>hr.len i (by rw [<- hr.n]; exact hi)) (j:=j) (by rw [hr.n]; exact hj))
 have HAR:=hid (fun i (hi:i < k)=>aug_row rows k i hr hi)
 have HAB:=hid (aug_blocks hr)
 have HPV:=hid (fun c (hc:c < k)=>Cd.pivs_aug hr hpv hc)
 have HPO:Hid (FInvPost w rows k=fun e w'=>∃ g c,e=.returned (.slice (some ⟨g,0,none⟩) k c)/\RowsG w' g ((List.range k).map fun i=>(Cd.B (Cd.goes (Cd.aug rows (Cd.unit k)) [] k).1 i).drop k)/\Ext w w'):=hid rfl
 rw [HPO.out]
 clear HPO
 obtain ⟨M0,hM0⟩:∃ M,Cd.aug rows (Cd.unit k)=M:=⟨_,rfl⟩
 rw [hM0] at HAR HAB HPV ⊢
 have HRB:=hid (fun i=>hr.byte i)
 have HRL:=hid (fun i (hi:i < k)=>hr.len i hi)
 clear hM0 hl hr hpv
 have HB0:=hid (AugB.nil w (k+k) M0)
 go_enter Tryz.func198,Tryz.ntmps198
 go_wp2
 go_loopw [5,4] (fun t v wr=>∃ (j:Nat) (v':Value) (b x:Nat->Nat),t=.int .i64 j/\v=v'/\j<=k/\AugB w wr (k+k) M0 j v' b x) (fun t _ _=>k - (intOf t).toNat)
 case atStart=>exact ⟨0,_,_,_,rfl,rfl,by omega,HB0.out⟩
 case round =>
  clear HB0
  obtain ⟨j,v,b,x,rfl,rfl,hj,hb⟩:=hrel
  have HB:=hid hb
  clear hb
  by_cases hjk:j < k
  ·
   have j0:(0:Int)<=(j:Int):=by omega
   have j1:(j:Int) < (k:Int):=by omega
   obtain ⟨bi,oi,ci,zi,hbi⟩:=HROW.out j hjk
   have xa:Ext wr (wr.alloc (.cells #[] 5)):=(Ext.refl wr).alloc _
   have e1:(wr.alloc (.cells #[] 5)).cell? ⟨gr,j,none⟩=some (.slice (some ⟨bi,oi,none⟩) k ci):=xa.cell (HB.out.ext.cell zi)
   obtain ⟨b1,c1,W1,ha1,o1,n1,p1⟩:=append_fresh_at (wr.alloc (.cells #[] 5)) wr.heap.size (heap_alloc_new _ _) (some ⟨bi,oi,none⟩) k ci (Cd.B rows j) (hbi.onlyG (Ext.trans HB.out.ext xa) (fun x=>x))
   have hs1:(wr.alloc (.cells #[] 5)).heap.size=wr.heap.size+1:=by simp
   have x1:Ext wr W1:=Ext.then xa n1 fun i hi q=>by omega
   obtain ⟨b2,c2,W2,ha2,o2,n2,p2⟩:=append_zeros W1 b1 k c1 k (Cd.B rows j) o1 (by omega) (by omega)
   have lb1:wr.heap.size<=b1:=by omega
   have x2:Ext wr W2:=Ext.then x1 n2 fun i hi q=>by omega
   have lb2:wr.heap.size<=b2:=by have:=x1.size; omega
   have hcl:∃ ov,W2.cell? ⟨b2,k+j,none⟩=some ov:=by
    rw [o2.cellAt (k+j) (by omega)]
    exact ⟨_,List.getElem?_eq_getElem (by have:=HRL.out j hjk; simp [this]; omega)⟩
   obtain ⟨ov,hov⟩:=hcl
   have hfz:W2.frozen? ⟨b2,k+j,none⟩=false:=o2.frozenAt _
   have o3:=(o2.stored (k+j) (.int .u8 1)).1
   have n3:Only (fun y=>y=b2) W2 (W2.setCell ⟨b2,k+j,none⟩ (.int .u8 1)):=Zap W2 b2 (k+j) _
   obtain ⟨W3,hW3⟩:∃ W,W2.setCell ⟨b2,k+j,none⟩ (.int .u8 1)=W:=⟨_,rfl⟩
   rw [hW3] at o3 n3
   rw [HAR.out j hjk] at o3
   have x3:Ext wr W3:=Ext.then x2 n3 fun i hi q=>by omega
   obtain ⟨v',w4,ha4,hb4⟩:=HB.out.add (by omega) x3 lb2 o3
   have HB4:=hid hb4
   have HA1:=hid ha1; have HA2:=hid ha2; have HA4:=hid ha4; have HW3:=hid hW3
   have hw1:wrap64 ((k:Int)+(j:Int))=((k+j:Nat):Int):=by unfold wrap64; omega
   have i2:(0:Int)<=((k+j:Nat):Int):=by omega
   have i3:((k+j:Nat):Int) < ((k+k:Nat):Int):=by omega
   clear hb4 ha1 ha2 ha4 hW3 o1 o2 o3 n1 n2 n3 p1 p2 xa x1 x2 x3 zi hbi hs1 lb1 lb2
   go_wp2_with (first
    | (guard_target=wpList _ _ _ (⟨some _,Op.buildSlice _ _ _,_,_,_,none⟩::_) _ _; rw [HW3.out]; refine Zag rfl 159 38 _ rfl #[Value.slice (some ⟨b2,0,none⟩) (k+k) c2] _ _ 1 24 Tryz.underlying159 infoRow (by omega) (by omega) rfl rfl rfl ?_)
    | (at_builtin; refine Lib.wpList_append_run _ rfl _ _ _ _ rfl _ _ rfl rfl _ _ HA1.out ?_)
    | (at_builtin; refine Lib.wpList_append_run _ rfl _ _ _ _ rfl _ _ rfl rfl _ _ HA2.out ?_)
    | (at_builtin; refine Lib.wpList_append_run _ rfl _ _ _ _ rfl _ _ rfl rfl _ _ HA4.out ?_))
   go_roundw
   case rel=>exact ⟨j+1,_,_,_,by go_num,rfl,by omega,HB4.out⟩
   case measure=>simp [intOf]; omega
  ·
   obtain rfl:k=j:=by omega
   obtain ⟨ga,ca,rfl,hst⟩:=HB.out.out k1 HAB.out
   have HS0:=hid hst
   clear hst HB HAR HROW
   go_wp2
   go_loopw [7] (fun t wr=>∃ c:Nat,t=.int .i64 c/\c<=k/\∃ b x,AugSt w wr ga ca k (k+k) b x (Cd.goes M0 [] c).1) (fun t _=>k - (intOf t).toNat)
   case atStart=>exact ⟨0,rfl,by omega,b,x,HS0.out⟩
   case round =>
    clear HS0
    obtain ⟨c,rfl,hc,b,x,hst⟩:=hrel
    have HGS:=hid (show (Cd.goes M0 [] (c+1)).1=Cd.clearK (Cd.colM (Cd.goes M0 [] c).1 c) (Cd.colM (Cd.goes M0 [] c).1 c) c (Cd.goes M0 [] c).1.length from congrArg (fun q=>q.1) (Cd.goes_succ M0 [] c))
    by_cases hlt:c < k
    ·
     have hpz:=HPV.out c hlt
     obtain ⟨m,hm⟩:∃ m,(Cd.goes M0 [] c).1=m:=⟨_,rfl⟩
     rw [hm] at hst hpz HGS
     have HST:=hid hst
     have HML:=hid (show m.length=k from hst.mat.bl.n)
     obtain ⟨P,hP⟩:∃ P,Cd.pivot m c k c=P:=⟨_,rfl⟩
     have hPk:=Cd.pivot_lt m c k c (by rw [HML.out]; exact hlt)
     rw [hP] at hPk hpz
     have HP:=hid hP
     have HPZ:=hid hpz
     have HPK:=hid (show c<=P/\P < k by rw [HML.out] at hPk; exact hPk)
     clear hP hPk hpz hm hst
     go_wp2
     go_loopw [8] (fun t wq=>∃ p:Nat,t=.int .i64 p/\c<=p/\p < k/\Cd.pivot m c (k - (p - c)) p=P/\wq=wr) (fun t _=>k - (intOf t).toNat)
     case atStart=>exact ⟨c,rfl,by omega,hlt,by rw [show k - (c - c)=k by omega]; exact HP.out,rfl⟩
     case round =>
      obtain ⟨p,rfl,hp1,hp2,hpv,rfl⟩:=hrel
      obtain ⟨wB,hwB⟩:∃ W,W=wr:=⟨_,rfl⟩
      subst hwB
      have cm1:=HST.out.mat.cell hp2
      have cb1:=HST.out.mat.byte (j:=c) hp2 (by omega)
      obtain ⟨y,hy⟩:∃ y,nth (Cd.B m p) c=y:=⟨_,rfl⟩
      rw [hy] at cb1
      have p0:(0:Int)<=(p:Int):=by omega
      have p1:(p:Int) < (k:Int):=by omega
      have c0:(0:Int)<=(c:Int):=by omega
      have c1:(c:Int) < ((k+k:Nat):Int):=by omega
      have c2:(c:Int) < (k:Int):=by omega
      by_cases hy0:y=0
      ·
       subst hy0
       have g1:p < k - 1:=by
        rcases Nat.lt_or_ge p (k - 1) with q | q
        ·
         exact q
        ·
         exfalso
         have:p=P:=by
          rw [<- hpv,show k - (p - c)=(k - (p - c) - 1)+1 by omega]
          exact (pivot_here m c _ p (fun z=>by rw [HML.out] at z; omega)).symm
         exact HPZ.out (this▸hy)
       have HN:=hid (show Cd.pivot m c (k - (p+1 - c)) (p+1)=P by
        rw [<- pivot_next m c _ p ⟨by rw [HML.out]; exact g1,hy⟩,show k - (p+1 - c)+1=k - (p - c) by omega]; exact hpv)
       clear hpv hy
       go_wp2
       go_roundw
       case rel=>exact ⟨p+1,by go_num,by omega,by omega,HN.out,by first | rfl | trivial⟩
       case measure=>simp [intOf]; omega
      ·
       have HPP:=hid (show p=P by
        rw [<- hpv,show k - (p - c)=(k - (p - c) - 1)+1 by omega]
        exact (pivot_here m c _ p (fun q=>hy0 (by rw [<- hy]; exact q.2))).symm)
       have y0:((y:Int) == 0)=false:=by rw [beq_eq_false_iff_ne]; omega
       have pk:((p:Int) == (k:Int))=false:=by rw [beq_eq_false_iff_ne]; omega
       have cc1:=HST.out.mat.cell hlt
       clear hpv hy hy0
       go_wp2
       clear cb1 y0
       have xd:Ext wB wB.drew:=(Ext.refl wB).drew
       have e1:∀ z:SW Ext wB.drew,z.w.cell? ⟨ga,p,none⟩=some (.slice (some ⟨b p,0,none⟩) (k+k) (x p)):=fun z=>(Ext.trans xd z.ext).cell (HST.out.mat.cell hp2)
       have e2:∀ z:SW Ext wB.drew,z.w.cell? ⟨ga,c,none⟩=some (.slice (some ⟨b c,0,none⟩) (k+k) (x c)):=fun z=>(Ext.trans xd z.ext).cell (HST.out.mat.cell hlt)
       have HXD:=hid xd
       clear xd
       clear cm1 cc1
       refine Zbp (E:=Ext) (S:=Only fun y=>y=ga) (fun i=>i == 13 || i == 15) [0,1,2,3,4,5,6,8,9,10] [7,11] (.one [12] 13 (.one [14] 15 (.fin []))) (by kernel_rfl) (by kernel_rfl) (fun _ _ d _ _ h=>by cases d<;>exact h) ?_
       simp only [opsAt,opA,opB,opC,opD,opE,opF,opG]
       iterate 10 ((refine Zaa (fun K hK=>?_); go_simp; refine hK _ ?_; clear hK K))
       refine Zac ?_
       iterate 2 ((refine Zaa (fun K hK=>?_); go_simp; refine hK _ ?_; clear hK K))
       refine Zac ?_
       intro V0 hV0
       clear e1 e2
       rw [wpU]
       simp only [opsAt,opA,opB,opC,opD,opE,opF,opG]
       (refine Zaa (fun K hK=>?_); go_simp; refine hK _ ?_; clear hK K)
       refine Zac ?_
       intro U hU
       have HSU:=hid (HST.out.more (Ext.trans HXD.out (Ext.trans hV0 hU)))
       have d1:=HSU.out.mat.cell hlt
       have f1:U.frozen? ⟨ga,c,none⟩=false:=HSU.out.mat.hdr.frozenAt c
       clear hV0 hU HXD HST
       refine Zbt fun K hK=>?_
       go_wp2
       refine hK _ _ (Zap U ga c _) ?_
       clear hK K d1 f1
       have M1:=hid (HSU.out.mat.hdr.stored c (.slice (some ⟨b p,0,none⟩) (k+k) (x p))).1
       have O1:=hid (Zap U ga c (.slice (some ⟨b p,0,none⟩) (k+k) (x p)))
       rw [wpU]
       simp only [opsAt,opA,opB,opC,opD,opE,opF,opG]
       (refine Zaa (fun K hK=>?_); go_simp; refine hK _ ?_; clear hK K)
       refine Zac ?_
       intro V1 hV1
       have A1:=hid (Zam M1.out hV1 (fun x=>x))
       have P1:=hid (Only.ext O1.out hV1)
       obtain ⟨ov,hov⟩:∃ ov,V1.cell? ⟨ga,p,none⟩=some ov:=by
        rw [A1.out.cellAt p (by omega)]
        exact ⟨_,List.getElem?_eq_getElem (by simp [hdrs]; omega)⟩
       have fz:V1.frozen? ⟨ga,p,none⟩=false:=A1.out.frozenAt p
       clear hV1
       refine Zbt fun K hK=>?_
       go_wp2
       refine hK _ _ (Zap V1 ga p _) ?_
       clear hK K hov fz
       have M2:=hid (A1.out.stored p (.slice (some ⟨b c,0,none⟩) (k+k) (x c))).1
       have O2:=hid (Only.trans P1.out (Zap V1 ga p (.slice (some ⟨b c,0,none⟩) (k+k) (x c))) (fun _ _ h=>h))
       rw [wpU]
       simp only [opsAt,opA,opB,opC,opD,opE,opF,opG]
       refine Zac ?_
       intro U2 hU2
       have HS2:=hid ((HSU.out.swapped O2.out hlt hp2 (by
        have:=M2.out
        rw [hdrs_swap b x hlt hp2] at this
        exact this)).more hU2)
       clear hU2 M1 M2 A1 P1 O1 O2 HSU
       obtain ⟨b',hb'⟩:∃ f,sw b c p=f:=⟨_,rfl⟩
       obtain ⟨x',hx'⟩:∃ f,sw x c p=f:=⟨_,rfl⟩
       rw [hb',hx'] at HS2
       obtain ⟨m1,hm1⟩:∃ l,Cd.swap m c p=l:=⟨_,rfl⟩
       rw [hm1] at HS2
       have HM1:=hid hm1
       have d3:=HS2.out.mat.cell hlt
       have d4:=HS2.out.mat.byte (j:=c) hlt (by omega)
       obtain ⟨y1,hy1⟩:∃ y1,nth (Cd.B m1 c) c=y1:=⟨_,rfl⟩
       rw [hy1] at d4
       have hy256:y1 < 256:=hy1▸Zay (HS2.out.mat.bl.byte c) c
       have HY1:=hid hy1
       have HIV:=hid (refInv_c (y1:Int) U2 (by omega))
       clear hb' hx' hm1 hy1
       go_wp2_with fail
       have HI2:=HIV.out
       rw [Int.toNat_natCast] at HI2
       refine HI2.mono ?_
       clear HI2 HIV
       rintro e w7 ⟨rfl,rfl⟩
       obtain ⟨iv,hiv⟩:∃ z,inv y1=z:=⟨_,rfl⟩
       have HIV:=hid hiv
       have hiv256:iv < 256:=hiv▸inv_bd y1
       rw [hiv]
       have HR256:=hid (HS2.out.mat.bl.byte c)
       have HRLN:=hid (HS2.out.mat.bl.len c hlt)
       have HM1N:=hid HS2.out.mat.bl.n
       obtain ⟨R,hR⟩:∃ R,Cd.B m1 c=R:=⟨_,rfl⟩
       rw [hR] at HR256 HRLN
       have HS3:=hid (show AugSt w U2 ga ca k (k+k) b' x' (m1.set c (Cd.scaleK R iv 0)) from by rw [Cd.scaleK_zero,<- hR,Cd.set_self]; exact HS2.out)
       have HRR:=hid hR
       clear hiv hR d4 hy256 HS2
       go_wp2
       clear d3
       go_loopw [91] (fun t wq=>∃ y:Nat,t=.int .i64 y/\y<=k+k/\AugSt w wq ga ca k (k+k) b' x' (m1.set c (Cd.scaleK R iv y))) (fun t _=>k+k - (intOf t).toNat)
       case atStart=>exact ⟨0,rfl,by omega,HS3.out⟩
       case round =>
        clear HS3
        obtain ⟨y,rfl,hy,hst⟩:=hrel
        have HQ:=hid hst
        clear hst
        by_cases hyl:y < k+k
        ·
         have o1:=HQ.out.mat.row c hlt
         rw [Cd.B_set,if_pos ⟨rfl,by rw [HM1N.out]; exact hlt⟩] at o1
         have c1:wr.cell? ⟨b' c,y,none⟩=some (.int .u8 (nth R y)):=by
          rw [o1.cellAt y (by omega)]; exact Cd.scaleK_bv R iv y (by rw [HRLN.out]; exact hyl)
         have f1:wr.frozen? ⟨b' c,y,none⟩=false:=o1.frozenAt y
         have d3:=HQ.out.mat.cell hlt
         have q256:nth R y < 256:=Zay HR256.out y
         have y0:(0:Int)<=(y:Int):=by omega
         have y2:(y:Int) < ((k+k:Nat):Int):=by omega
         obtain ⟨q,hq⟩:∃ q,nth R y=q:=⟨_,rfl⟩
         rw [hq] at c1 q256
         have HQQ:=hid hq.symm
         have HO1:=hid o1
         clear o1 hq
         go_wp2
         refine Zaw 15 (by kernel_rfl) (by kernel_rfl) ?_
         simp only [List.take_succ_cons,List.take_zero,List.drop_succ_cons,List.drop_zero]
         repeat (go_big_quiet_step ((go_at_call 199; refine Calls.quiet_of_same ((refMul_c (q:Int) (iv:Int) _ (by omega) (by omega)).mono fun _ _ z=>⟨z.1,z.2.symm⟩))))
         refine wpQuiet_nil ?_
         intro _ hw'
         obtain ⟨nq,hw''⟩:=hw'
         subst hw''
         go_wp2
         go_roundw
         case rel =>
          have HN:=(HQ.out.more ((Ext.refl wr).drewN nq)).set1 hlt (Zap (wr.drewN nq) (b' c) y (.int .u8 ((mul q iv:Nat):Int))) (a:=Cd.scaleK R iv (y+1)) (by rw [Cd.scaleK_len]; exact HRLN.out) (Cd.scaleK_byte _ _ _ HR256.out) (by
           have ho:(wr.drewN nq).ownsRow 0 5 1 (.slice (some ⟨b' c,0,none⟩) (k+k) (x' c)) (k+k) ((Cd.scaleK R iv y).map bv):=HO1.out
           rw [HQQ.out,<- Cd.scaleK_step]
           exact (ho.stored y _).1)
          rw [List.set_set] at HN
          exact ⟨y+1,by go_num,by omega,HN⟩
         case measure=>simp [intOf]; omega
        ·
         obtain rfl:k+k=y:=by omega
         obtain ⟨M2,hM2⟩:∃ l,Cd.colM m c=l:=⟨_,rfl⟩
         have e2:m1.set c (Cd.scaleK R iv (k+k))=M2:=by
          rw [<- hM2]
          unfold Cd.colM
          simp only [HML.out,HP.out,<- HPP.out,HM1.out]
          rw [HY1.out,HRR.out,HIV.out,<- HRLN.out,Cd.scaleK_end]
         rw [e2] at HQ
         rw [hM2] at HGS
         have HM2N:=hid HQ.out.mat.bl.n
         have HM2B:=hid (fun i=>HQ.out.mat.bl.byte i)
         have HM2L:=hid (fun i (hi:i < k)=>HQ.out.mat.bl.len i hi)
         clear e2 hM2 HM1 HY1 HIV HR256 HRLN HM1N HRR HPP HP HPZ HPK
         go_wp2
         go_loopw [11] (fun t wq=>∃ i:Nat,t=.int .i64 i/\i<=k/\AugSt w wq ga ca k (k+k) b' x' (Cd.clearK M2 M2 c i)) (fun t _=>k - (intOf t).toNat)
         case atStart=>exact ⟨0,rfl,by omega,HQ.out⟩
         case round =>
          clear HQ
          obtain ⟨i,rfl,hi,hst⟩:=hrel
          have HCS:=hid (Cd.clearK_succ M2 M2 c i)
          have hBi:=Cd.clearK_B M2 M2 c i i (by rw [HM2N.out]; exact hi)
          rw [if_neg (by omega)] at hBi
          obtain ⟨ma,hma⟩:∃ l,Cd.clearK M2 M2 c i=l:=⟨_,rfl⟩
          rw [hma] at hst HCS hBi
          have HQ:=hid hst
          have HMA:=hid hma
          clear hst hma
          by_cases hik:i < k
          ·
           obtain ⟨y,hy⟩:∃ y,nth (Cd.B M2 i) c=y:=⟨_,rfl⟩
           have q1:=HQ.out.mat.cell hik
           have q2:=HQ.out.mat.byte (j:=c) hik (by omega)
           have q3:=HQ.out.mat.cell hlt
           rw [hBi,hy] at q2
           have hy256:y < 256:=by
            have:=Zay (HM2B.out i) c
            rw [hy] at this; exact this
           rw [hy] at HCS
           have i0:(0:Int)<=(i:Int):=by omega
           have i1:(i:Int) < (k:Int):=by omega
           clear hBi hy
           by_cases hic:i=c
           ·
            have HR2:=hid (show AugSt w wr ga ca k (k+k) b' x' (Cd.clearK M2 M2 c (i+1)) from by rw [HCS.out,if_neg (fun z=>z.1 hic)]; exact HQ.out)
            clear HCS HQ
            obtain rfl:i=c:=hic
            have b1:((i:Int) == (i:Int))=true:=beq_self_eq_true _
            go_wp2
            go_roundw
            case rel=>exact ⟨i+1,by go_num,by omega,HR2.out⟩
            case measure=>simp [intOf]; omega
           ·
            have b1:((i:Int) == (c:Int))=false:=by rw [beq_eq_false_iff_ne]; omega
            by_cases hy0:y=0
            ·
             have HR2:=hid (show AugSt w wr ga ca k (k+k) b' x' (Cd.clearK M2 M2 c (i+1)) from by rw [HCS.out,if_neg (fun z=>z.2 hy0)]; exact HQ.out)
             subst hy0
             clear HCS HQ
             go_wp2
             go_roundw
             case rel=>exact ⟨i+1,by go_num,by omega,HR2.out⟩
             case measure=>simp [intOf]; omega
            ·
             have b2:((y:Int) == 0)=false:=by rw [beq_eq_false_iff_ne]; omega
             rw [if_pos ⟨hic,hy0⟩] at HCS
             have HRi:=hid (HQ.out.mat.bl.byte i)
             have HRc:=hid (HQ.out.mat.bl.byte c)
             have HLi:=hid (HQ.out.mat.bl.len i hik)
             have HLc:=hid (HQ.out.mat.bl.len c hlt)
             have HMN:=hid HQ.out.mat.bl.n
             obtain ⟨Ri,hRi⟩:∃ R,Cd.B ma i=R:=⟨_,rfl⟩
             obtain ⟨Rc,hRc⟩:∃ R,Cd.B ma c=R:=⟨_,rfl⟩
             rw [hRi] at HRi HLi HCS
             rw [hRc] at HRc HLc HCS
             have HQ3:=hid (show AugSt w wr ga ca k (k+k) b' x' (ma.set i (addK Ri Rc y 0)) from by rw [addK_zero,<- hRi,Cd.set_self]; exact HQ.out)
             have HBc:=hid hRc
             clear HQ hRi hRc
             go_wp2
             clear q1 q2 q3 b1 b2
             go_loopw [134] (fun t wq=>∃ z:Nat,t=.int .i64 z/\z<=k+k/\AugSt w wq ga ca k (k+k) b' x' (ma.set i (addK Ri Rc y z))) (fun t _=>k+k - (intOf t).toNat)
             case atStart=>exact ⟨0,rfl,by omega,HQ3.out⟩
             case round =>
              clear HQ3
              obtain ⟨z,rfl,hz,hst⟩:=hrel
              have HQ:=hid hst
              clear hst
              by_cases hzl:z < k+k
              ·
               have o1:=HQ.out.mat.row i hik
               rw [Cd.B_set,if_pos ⟨rfl,by rw [HMN.out]; exact hik⟩] at o1
               have g1:wr.cell? ⟨b' i,z,none⟩=some (.int .u8 (nth Ri z)):=by
                rw [o1.cellAt z (by omega)]; exact addK_bv Ri Rc y z (by rw [HLi.out]; exact hzl)
               have f1:wr.frozen? ⟨b' i,z,none⟩=false:=o1.frozenAt z
               have g2:=HQ.out.mat.byte (j:=z) hlt hzl
               rw [Cd.B_set,if_neg (fun q=>hic q.1),HBc.out] at g2
               have d3:=HQ.out.mat.cell hik
               have d4:=HQ.out.mat.cell hlt
               have p256:nth Ri z < 256:=Zay HRi.out z
               have q256:nth Rc z < 256:=Zay HRc.out z
               have z0:(0:Int)<=(z:Int):=by omega
               have z2:(z:Int) < ((k+k:Nat):Int):=by omega
               obtain ⟨pv,hpv⟩:∃ q,nth Ri z=q:=⟨_,rfl⟩
               obtain ⟨qv,hqv⟩:∃ q,nth Rc z=q:=⟨_,rfl⟩
               rw [hpv] at g1 p256
               rw [hqv] at g2 q256
               have HPV2:=hid hpv.symm; have HQV:=hid hqv.symm
               have HO1:=hid o1
               have HMB:=hid (Gf.mul_bd y qv)
               clear o1 hpv hqv
               go_wp2
               refine Zaw 23 (by kernel_rfl) (by kernel_rfl) ?_
               simp only [List.take_succ_cons,List.take_zero,List.drop_succ_cons,List.drop_zero]
               repeat (go_big_quiet_step ((go_at_call 199; refine Calls.quiet_of_same ((refMul_c (y:Int) (qv:Int) _ (by omega) (by omega)).mono fun _ _ z=>⟨z.1,z.2.symm⟩))))
               refine wpQuiet_nil ?_
               intro _ hw'
               obtain ⟨nq,hw''⟩:=hw'
               subst hw''
               go_wp2
               go_roundw
               case rel =>
                rw [u8_xor_nat _ _ p256 HMB.out]
                have HN:=(HQ.out.more ((Ext.refl wr).drewN nq)).set1 hik (Zap (wr.drewN nq) (b' i) z (.int .u8 ((pv ^^^ mul y qv:Nat):Int))) (a:=addK Ri Rc y (z+1)) (by rw [Zcr]; exact HLi.out) (Cd.addK_byte _ _ _ _ hy256 HRi.out) (by
                 have ho:(wr.drewN nq).ownsRow 0 5 1 (.slice (some ⟨b' i,0,none⟩) (k+k) (x' i)) (k+k) ((addK Ri Rc y z).map bv):=HO1.out
                 rw [HPV2.out,HQV.out,<- addK_step]
                 exact (ho.stored z _).1)
                rw [List.set_set] at HN
                exact ⟨z+1,by go_num,by omega,HN⟩
               case measure=>simp [intOf]; omega
              ·
               obtain rfl:k+k=z:=by omega
               have he:=addK_end Ri Rc y (k+k) (by rw [HLi.out]; exact Nat.le_refl _) (by rw [HLc.out]; exact Nat.le_refl _) (by rw [HLi.out,HLc.out]; omega)
               rw [he] at HQ
               have HR2:=hid (show AugSt w wr ga ca k (k+k) b' x' (Cd.clearK M2 M2 c (i+1)) from by rw [HCS.out]; exact HQ.out)
               clear he
               go_wp2
               go_roundw
               case rel=>exact ⟨i+1,by go_num,by omega,HR2.out⟩
               case measure=>simp [intOf]; omega
          ·
           obtain rfl:k=i:=by omega
           have HFIN:=hid (show AugSt w wr ga ca k (k+k) b' x' (Cd.goes M0 [] (c+1)).1 from by rw [HGS.out,HML.out,HMA.out]; exact HQ.out)
           clear HQ HMA HCS
           go_wp2
           go_roundw
           case rel=>exact ⟨c+1,by go_num,by omega,b',x',HFIN.out⟩
           case measure=>simp [intOf]; omega
    ·
     obtain rfl:k=c:=by omega
     obtain ⟨m,hm⟩:∃ m,(Cd.goes M0 [] k).1=m:=⟨_,rfl⟩
     rw [hm] at hst
     have HST:=hid hst
     have HMK:=hid hm
     have HO0:=hid (OwnVs.nil wr wr.heap.size 38 1)
     obtain ⟨wB,hwB⟩:∃ W,W=wr:=⟨_,rfl⟩
     subst hwB
     clear hst hm HGS HPV
     go_wp2
     go_loopw [15,14] (fun t v wq=>∃ (j:Nat) (v':Value),t=.int .i64 j/\v=v'/\j<=k/\OwnVs wq wB.heap.size 38 1 v' ((List.range j).map (hdrD k b x))/\Ext wB wq) (fun t _ _=>k - (intOf t).toNat)
     case atStart=>exact ⟨0,_,rfl,rfl,by omega,HO0.out,Ext.refl _⟩
     case round =>
      clear HO0
      obtain ⟨j,v,rfl,rfl,hj,hown,hx⟩:=hrel
      have HO:=hid hown; have HX:=hid hx
      clear hown hx
      by_cases hjk:j < k
      ·
       have j0:(0:Int)<=(j:Int):=by omega
       have j1:(j:Int) < (k:Int):=by omega
       have q1:=HX.out.cell (HST.out.mat.cell hjk)
       have hxc:k+k<=x j:=by
        rcases (HST.out.mat.row j hjk).2 with ⟨z,_⟩ | ⟨g',c',cur,z,_,_,h4,_⟩
        ·
         cases z
        ·
         cases z; exact h4
       have k0:(0:Int)<=(k:Int):=by omega
       have k2:(k:Int)<=((k+k:Nat):Int):=by omega
       have k3:((k+k:Nat):Int)<=(x j:Int):=by omega
       obtain ⟨v',w3,hap,ho,_,hx3⟩:=HO.out.add (tsl:=159) Tryz.underlying159 infoRow rfl (by omega) (hdrD k b x j) rfl (by intro u hu; simp [hdrD] at hu; subst hu; rfl) (by simp; omega) (by omega) HX.out.size
       have HO3:=hid (show OwnVs w3 wB.heap.size 38 1 v' ((List.range (j+1)).map (hdrD k b x)) from by rw [List.range_succ,List.map_append]; exact ho)
       have HX3:=hid (hx3 wB (Nat.le_refl _) HX.out)
       have HAP:=hid hap
       have HSZ:=hid (show k+k - k=k by omega)
       clear ho hx3 hap
       go_wp2_with (first
        | (guard_target=wpList _ _ _ (⟨some _,Op.buildSlice _ _ _,_,_,_,none⟩::_) _ _; refine Zag rfl 159 38 _ rfl (hdrD k b x j) _ _ 1 24 Tryz.underlying159 infoRow (by omega) (by omega) rfl (by unfold hdrD; go_num) rfl ?_)
        | (at_builtin; refine wpList_append_run rfl _ _ _ rfl _ _ _ _ rfl rfl HAP.out ?_))
       go_roundw
       case rel=>exact ⟨j+1,_,by go_num,rfl,by omega,HO3.out,HX3.out⟩
       case measure=>simp [intOf]; omega
      ·
       obtain rfl:k=j:=by omega
       obtain ⟨a5,c5,e5,q5⟩:=HO.out.slice
       have hlen:((List.range k).map (hdrD k b x)).length=k:=by simp
       rw [hlen] at e5
       rcases q5 with ⟨q,_⟩ | ⟨g5,rfl,_,_,_,hv⟩
       ·
        exfalso
        rw [q] at hlen
        simp at hlen
        omega
       have HRG:=hid (show RowsG wr g5 ((List.range k).map fun i=>(Cd.B m i).drop k) from fun i l hi=>by
        have hik:i < k:=by
         rcases Nat.lt_or_ge i k with q | q
         ·
          exact q
         ·
          rw [List.getElem?_eq_none (by simp; exact q)] at hi; cases hi
        have hl:l=(Cd.B m i).drop k:=by rw [List.getElem?_map,List.getElem?_range hik] at hi; simp at hi; exact hi.symm
        have hll:l.length=k:=by rw [hl,List.length_drop,HST.out.mat.bl.len i hik]; omega
        have q0:=hv i (hdrD k b x i) (by rw [List.getElem?_map,List.getElem?_range hik]; rfl) 0 (.slice (some ⟨b i,k,none⟩) k (x i - k)) rfl
        have hb:=(HST.out.mat.bytes (by omega) hik).onlyG HX.out (fun z=>z)
        refine ⟨b i,k,x i - k,?_,?_,?_,?_,.inr ⟨b i,k,rfl,fun j hj=>?_⟩⟩
        ·
         rw [hll]; simpa using q0
        ·
         rfl
        ·
         rw [hll]; omega
        ·
         intro y hy; rw [hl] at hy; exact HST.out.mat.bl.byte i y (List.mem_of_mem_drop hy)
        ·
         rw [hll] at hj
         have:=hb.get (k+j) (by omega)
         rw [Nat.zero_add] at this
         rw [this,hl,Zbw])
       have HXX:=hid (Ext.trans HST.out.ext HX.out)
       subst e5
       clear hv
       go_wp2
       go_ret
       rw [HMK.out]
       exact ⟨g5,c5,rfl,HRG.out,HXX.out⟩
end Go.Proofs.YtgjnnbomnoafcaaGreatDoor
namespace Go.Proofs.YtgjnnbomnoafcaaGreatDoor
set_option linter.unusedVariables false
open Go Go.RowKit Gf
def metB (f:Nat->Bool):Array Value:=((List.range 8).map fun i=>Value.bool (f i)).toArray
theorem zero_metB (w:World):Sem.run Tryz.prog (zeroValue 282) w=.ok (.agg (metB fun _=>false)) w:=by kernel_rfl
theorem metB_get (f:Nat->Bool) {i:Nat} (h:i < 8):(metB f)[i]?=some (.bool (f i)):=by simp [metB,h]
theorem metB_set (f:Nat->Bool) {i:Nat} (h:i < 8):(metB f).setIfInBounds i (.bool true)=metB (fun q=>f q || q == i):=by
 apply Array.ext_getElem?
 intro q
 rw [Array.getElem?_setIfInBounds]
 by_cases e:i=q
 ·
  subst e
  rw [if_pos rfl,metB_get _ h]
  simp [metB,h]
 ·
  rw [if_neg e]
  by_cases hq:q < 8
  ·
   rw [metB_get _ hq,metB_get _ hq]
   have:(q == i)=false:=by simp; omega
   simp [this]
  ·
   rw [Array.getElem?_eq_none (by simp [metB]; omega),Array.getElem?_eq_none (by simp [metB]; omega)]
def datE (w:World) (pb i:Nat):Array Value:=#[(w.cell? ⟨pb,i*2+1,none⟩).getD undef]
structure DSt (w0 wr:World) (mb pb k:Nat) (ps:List (Nat × List Nat)) (m j:Nat) (v8 v9:Value) (rb:Nat->Nat):Prop where
 ext:Ext w0 wr
 met:wr.heap[mb]?=some (.cells (metB (metF ps m)) 282 (0,0))
 new:w0.heap.size<=mb
 o8:OwnVs wr w0.heap.size 38 1 v8 ((List.range j).map (hdrE k rb fun _=>k))
 o9:OwnVs wr w0.heap.size 38 1 v9 ((List.range j).map (datE w0 pb))
 row:∀ i p,i < j->ps[i]?=some p->Blk wr (rb i) (Cd.row k p.1)
 apart:∀ b,v8.ownBlock=some b->v9.ownBlock≠some b
namespace DSt
variable {w0 wr w':World} {mb pb k m j:Nat} {ps:List (Nat × List Nat)} {v8 v9:Value} {rb:Nat->Nat}
theorem more (h:DSt w0 wr mb pb k ps m j v8 v9 rb) (e:Ext wr w'):DSt w0 w' mb pb k ps m j v8 v9 rb :=
 ⟨Ext.trans h.ext e,e.at h.met,h.new,h.o8.ext e,h.o9.ext e,fun i p hi hp=>(h.row i p hi hp).ext e,h.apart⟩
theorem mark (h:DSt w0 wr mb pb k ps m j v8 v9 rb) {p:Nat × List Nat} (hp:ps[m]?=some p) (hp8:p.1 < 8):DSt w0 (wr.setCell ⟨mb,p.1,none⟩ (.bool true)) mb pb k ps (m+1) j v8 v9 rb:=by
 have o:Only (fun q=>q=mb) wr (wr.setCell ⟨mb,p.1,none⟩ (.bool true)):=Zap wr mb p.1 _
 have hm:∀ {sz:Nat} {v:Value} {l:List (Array Value)},OwnVs wr w0.heap.size 38 sz v l->∀ b,v.ownBlock=some b->b≠mb:=fun ho b hb q=>by
  subst q
  exact ho.not_at (by decide) h.met hb
 refine ⟨Ext.then h.ext o (fun i hi q=>by have:=h.new; omega),?_,h.new,h.o8.only o (hm h.o8),h.o9.only o (hm h.o9),fun i q hi hq=>?_,h.apart⟩
 ·
  have:=Zar (i:=p.1) h.met (.bool true)
  rw [metB_set _ hp8] at this
  rw [metF_succ hp]; exact this
 ·
  have hb:=h.row i q hi hq
  unfold Blk at hb ⊢
  exact o.at hb (fun e=>by
   have e:rb i=mb:=e
   rw [e,h.met] at hb
   injection hb with hb
   injection hb with _ z _
   exact absurd z (by decide))
theorem next (h:DSt w0 wr mb pb k ps m j v8 v9 rb) {p:Nat × List Nat} (hp:ps[j]?=some p) {Ua Ub Uc Ud:World} {r1:Nat} {v8' v9':Value} (x1:Ext wr Ua) (hr:Blk Ua r1 (Cd.row k p.1))
  (o8:OwnVs Ub w0.heap.size 38 1 v8' ((List.range j).map (hdrE k rb fun _=>k)++[#[Value.slice (some ⟨r1,0,none⟩) k k]])) (n8:Only (fun q=>v8.ownBlock=some q) Ua Ub) (d8:v8'.ownBlock=v8.ownBlock\/v8'.ownBlock=some Ua.heap.size)
  (x2:Ext Ub Uc) (o9:OwnVs Ud w0.heap.size 38 1 v9' ((List.range j).map (datE w0 pb)++[datE w0 pb j])) (n9:Only (fun q=>v9.ownBlock=some q) Uc Ud) (d9:v9'.ownBlock=v9.ownBlock\/v9'.ownBlock=some Uc.heap.size) :
  DSt w0 Ud mb pb k ps m (j+1) v8' v9' (at_ rb j r1):=by
 have z0:=h.ext.size; have z1:=x1.size; have z2:=n8.size; have z3:=x2.size; have z4:=n9.size
 have lt8:∀ q,v8.ownBlock=some q->w0.heap.size<=q/\q < wr.heap.size:=fun q hq=>h.o8.lt q hq
 have lt9:∀ q,v9.ownBlock=some q->w0.heap.size<=q/\q < wr.heap.size:=fun q hq=>h.o9.lt q hq
 have p8:=h.o8.ext x1
 have p9:OwnVs Uc w0.heap.size 38 1 v9 _:=((h.o9.ext x1).only n8 (fun q hq hq'=>h.apart q hq' hq)).ext x2
 have blk:∀ {b:Nat} {l:List Nat},Blk Ua b l->Blk Ud b l:=fun {b l} hb=>by
  have h1:Blk Ub b l:=by unfold Blk at hb ⊢; exact n8.at hb (fun q=>p8.not_at (by decide) hb q)
  have h2:Blk Uc b l:=h1.ext x2
  unfold Blk at h2 ⊢
  exact n9.at h2 (fun q=>p9.not_at (by decide) h2 q)
 refine ⟨?_,?_,h.new,?_,?_,fun i q hi hq=>?_,fun b hb=>?_⟩
 ·
  exact Ext.then (Ext.trans (Ext.then (Ext.trans h.ext x1) n8 fun i hi q=>by have:=lt8 i q; omega) x2) n9 fun i hi q=>by have:=lt9 i q; omega
 ·
  have h1:=n8.at (x1.at h.met) (fun q=>p8.not_at (by decide) (x1.at h.met) q)
  exact n9.at (x2.at h1) (fun q=>p9.not_at (by decide) (x2.at h1) q)
 ·
  have e:(List.range (j+1)).map (hdrE k (at_ rb j r1) fun _=>k)=(List.range j).map (hdrE k rb fun _=>k)++[#[Value.slice (some ⟨r1,0,none⟩) k k]]:=by
   have:=map_at j k rb (fun _=>k) r1 k
   rw [<- this]
   refine List.map_congr_left fun i hi=>?_
   unfold hdrE at_
   split<;>rfl
  rw [e]
  refine (o8.ext x2).only n9 fun q hq hq'=>?_
  rcases d8 with d | d
  ·
   exact h.apart q (by rw [<- d]; exact hq) hq'
  ·
   rw [d] at hq
   have:=lt9 q hq'
   have hq:Ua.heap.size=q:=by simpa using hq
   omega
 ·
  rw [List.range_succ,List.map_append]; exact o9
 ·
  unfold at_
  by_cases e:i=j
  ·
   subst e
   rw [if_pos rfl]
   rw [hp] at hq
   cases hq
   exact blk hr
  ·
   rw [if_neg e]
   exact blk ((h.row i q (by omega) hq).ext x1)
 ·
  intro hb'
  have hlt:=o8.lt b hb
  rcases d8 with d | d<;>rcases d9 with g | g
  ·
   exact h.apart b (by rw [<- d]; exact hb) (by rw [<- g]; exact hb')
  ·
   rw [g] at hb'
   have hb':Uc.heap.size=b:=by simpa using hb'
   omega
  ·
   rw [d] at hb
   have hb:Ua.heap.size=b:=by simpa using hb
   have:=lt9 b (by rw [<- g]; exact hb')
   omega
  ·
   rw [g] at hb'
   have hb':Uc.heap.size=b:=by simpa using hb'
   omega
end DSt
structure DecSt (w0 wr:World) (L:Nat) (F:Nat->List Nat) (j:Nat) (v:Value):Prop where
 ext:Ext w0 wr
 ex:∃ es,OwnVs wr w0.heap.size 38 1 v es/\es.length=j/\∀ i,i < j->∃ b,es[i]?=some (rowE b L)/\OwnB wr b L (F i)
theorem DecSt.more {w0 wr w':World} {L j:Nat} {F:Nat->List Nat} {v:Value} (h:DecSt w0 wr L F j v) (e:Ext wr w'):DecSt w0 w' L F j v:=by
 obtain ⟨es,h2,h3,h4⟩:=h.ex
 refine ⟨Ext.trans h.ext e,es,h2.ext e,h3,fun i hi=>?_⟩
 obtain ⟨b,e1,e2⟩:=h4 i hi
 exact ⟨b,e1,e2.ext e⟩
theorem DecSt.add {w0 W:World} {L j b:Nat} {F:Nat->List Nat} {a:Option Addr} {c:Nat} (h:DecSt w0 W L F j (.slice a j c)) (hj:j < 1000) (hb:OwnB W b L (F j)) :
  ∃ a' c' w',(Builtin.append_ #[159,159] 159 #[.slice a j c,.slice (some ⟨W.heap.size,0,none⟩) 1 1]).run Tryz.prog (W.alloc (.cells (rowE b L) 38))=.ok (.slice a' (j+1) c') w'/\DecSt w0 w' L F (j+1) (.slice a' (j+1) c'):=by
 obtain ⟨es,h2,h3,h4⟩:=h.ex
 obtain ⟨v',w',e1,e2,e3,e4⟩:=h2.add (tsl:=159) Tryz.underlying159 infoRow rfl (by omega) (rowE b L) rfl (by intro u hu; simp [rowE] at hu; subst hu; rfl) (by omega) (by omega) h.ext.size
 obtain ⟨a',c',ev',_⟩:=e2.slice
 have hlen:(es++[rowE b L]).length=j+1:=by simp [h3]
 rw [hlen] at ev'
 subst ev'
 refine ⟨a',c',w',e1,e4 w0 (Nat.le_refl _) h.ext,_,e2,hlen,fun i hi=>?_⟩
 rcases Nat.lt_or_ge i j with q | q
 ·
  obtain ⟨b',x1,x2⟩:=h4 i q
  exact ⟨b',by rw [List.getElem?_append_left (by omega)]; exact x1,x2.only_vs (j:=0) h2 e3⟩
 ·
  obtain rfl:i=j:=by omega
  exact ⟨b,by rw [List.getElem?_append_right (by omega),h3]; simp,hb.only_vs (j:=0) h2 e3⟩
theorem DecSt.out {w0 wr:World} {L n:Nat} {F:Nat->List Nat} {v:Value} (h:DecSt w0 wr L F n v) (hn:0 < n) (hL:L<=200) (hlen:∀ i,i < n->(F i).length=L) (hb:∀ i,∀ x∈F i,x < 256) :
  ∃ g c,v=.slice (some ⟨g,0,none⟩) n c/\RowsAt wr g ((List.range n).map F):=by
 obtain ⟨es,h2,h3,h4⟩:=h.ex
 obtain ⟨a,c,e,q⟩:=h2.slice
 rcases q with ⟨q,_⟩ | ⟨g,rfl,_,_,_,hv⟩
 ·
  rw [q] at h3; simp at h3; omega
 ·
  rw [h3] at e
  refine ⟨g,c,e,fun i l hi=>?_⟩
  have hin:i < n:=by
   rcases Nat.lt_or_ge i n with q | q
   ·
    exact q
   ·
    rw [List.getElem?_eq_none (by simpa using q)] at hi; cases hi
  have hl:l=F i:=by
   simp [hin] at hi; exact hi.symm
  subst hl
  obtain ⟨b,e1,e2⟩:=h4 i hin
  refine ⟨b,L,?_,e2.bytes (hb i) (by rw [hlen i hin]; omega)⟩
  have:=hv i (rowE b L) e1 0 _ rfl
  rw [hlen i hin]
  simpa using this
end Go.Proofs.YtgjnnbomnoafcaaGreatDoor
namespace Go.Proofs.YtgjnnbomnoafcaaGreatDoor
set_option linter.unusedVariables false
open Go Go.RowKit Gf
def FDecPost (w:World) (k:Nat) (q:List (List Nat)) (e:Ending) (w':World):Prop:=∃ g c,e=.returned (.tuple #[.slice (some ⟨g,0,none⟩) k c,.int .i64 0])/\RowsAt w' g q/\Ext w w'
theorem invs_mix {k L:Nat} {rows D:List (List Nat)} (hr:Cd.Blocks k k rows) (hD:Cd.Blocks k L D) (k1:1<=k):((List.range k).map fun i=>Cd.mix (Cd.B (Cd.invs rows k) i) D)=(Cd.solve rows D).2:=by
 refine Cd.eq_of_B (by simp [(Cd.solve_blocks hr hD).n]) fun i hi=>?_
 have hik:i < k:=by simpa using hi
 rw [<- Cd.invert_mix hr hD k1 hik]
 have e:Cd.B (Cd.invs rows k) i=(Cd.B (Cd.goes (Cd.aug rows (Cd.unit k)) [] k).1 i).drop k:=by unfold Cd.invs; rw [Cd.B,List.getD_eq_getElem?_getD]; simp [hik]
 rw [<- e,Cd.B,List.getD_eq_getElem?_getD]
 simp [hik]
theorem invs_len {k:Nat} {rows:List (List Nat)} (hr:Cd.Blocks k k rows):Cd.Blocks k k (Cd.invs rows k):=by
 have hb:=(Cd.goes_blocks hr (Cd.unit_blocks k) k (Nat.le_refl _))
 have e:∀ i,i < k->Cd.B (Cd.invs rows k) i=Cd.B (Cd.goes rows (Cd.unit k) k).2 i:=fun i hi=>by
  have e:Cd.B (Cd.invs rows k) i=(Cd.B (Cd.goes (Cd.aug rows (Cd.unit k)) [] k).1 i).drop k:=by unfold Cd.invs; rw [Cd.B,List.getD_eq_getElem?_getD]; simp [hi]
  rw [e,Cd.aug_goes hr (Cd.unit_blocks k) k (Nat.le_refl _),Cd.B_aug _ _ (by rw [hb.1.n]; exact hi),List.drop_left' (hb.1.len i hi)]
 refine ⟨by simp [Cd.invs],fun j hj=>by rw [e j hj]; exact hb.2.len j hj,fun j x hx=>?_⟩
 rcases Nat.lt_or_ge j k with q | q
 ·
  rw [e j q] at hx; exact hb.2.byte j x hx
 ·
  have:Cd.B (Cd.invs rows k) j=[]:=by unfold Cd.B; rw [List.getD_eq_getElem?_getD,List.getElem?_eq_none (by simp [Cd.invs]; exact q)]; rfl
  rw [this] at hx; simp at hx
attribute [local irreducible] wpSQ
set_option maxRecDepth 100000 in
set_option maxHeartbeats 8000000 in
theorem fdecode_c {w:World} {k n L:Nat} (pb pc N:Nat) (ps:List (Nat × List Nat)) (hp:PartsAt w pb L ps) (hN:ps.length=N) (hk:k<=N) (k1:1<=k) (kn:k<=n) (hn8:n<=8) (N8:N<=8) (L0:0 < L) (hL:L<=200) (hpn:∀ p∈ps,p.1 < n) (hnd:(ps.map (·.1)).Nodup)
  (hpl:∀ p∈ps,p.2.length=L/\∀ y∈p.2,y < 256) (hpv:Cd.pivs ((ps.take k).map fun p=>Cd.row k p.1)=true) :
  Calls Tryz.prog 155 #[.int .i64 k,.int .i64 n,.slice (some ⟨pb,0,none⟩) N pc] w (FDecPost w k (Cd.solve ((ps.take k).map fun p=>Cd.row k p.1) ((ps.take k).map fun p=>p.2)).2):=by
 have hzm:=zero_metB
 have hzp:=zero_part
 have htk:(ps.take k).length=k:=by rw [List.length_take]; omega
 obtain ⟨rows,hrows⟩:∃ r,((ps.take k).map fun p=>Cd.row k p.1)=r:=⟨_,rfl⟩
 obtain ⟨D,hD⟩:∃ r,((ps.take k).map fun p=>p.2)=r:=⟨_,rfl⟩
 have hrb:Cd.Blocks k k rows:=hrows▸Cd.Blocks.mem (by rw [List.length_map,htk]) (fun b hb=>by obtain ⟨p,_,rfl⟩:=List.mem_map.1 hb; exact Cd.row_len _ _) (fun b hb=>by obtain ⟨p,_,rfl⟩:=List.mem_map.1 hb; exact Cd.row_byte _ _)
 have hdb:Cd.Blocks k L D:=hD▸Cd.Blocks.mem (by rw [List.length_map,htk]) (fun b hb=>by obtain ⟨p,hp,rfl⟩:=List.mem_map.1 hb; exact (hpl p (List.mem_of_mem_take hp)).1) (fun b hb=>by obtain ⟨p,hp,rfl⟩:=List.mem_map.1 hb; exact (hpl p (List.mem_of_mem_take hp)).2)
 have HRI:=hid (show ∀ i p,i < k->ps[i]?=some p->Cd.B rows i=Cd.row k p.1 from fun i p hi hp=>by
  rw [<- hrows,Cd.B,List.getD_eq_getElem?_getD,List.getElem?_map,List.getElem?_take,if_pos hi,hp]; rfl)
 have HDI:=hid (show ∀ i p,i < k->ps[i]?=some p->Cd.B D i=p.2 from fun i p hi hp=>by
  rw [<- hD,Cd.B,List.getD_eq_getElem?_getD,List.getElem?_map,List.getElem?_take,if_pos hi,hp]; rfl)
 rw [hrows] at hpv
 rw [hrows,hD,<- invs_mix hrb hdb k1]
 have HIB:=hid (invs_len hrb)
 have HPO:Hid (FDecPost w k ((List.range k).map fun i=>Cd.mix (Cd.B (Cd.invs rows k) i) D)=fun e w'=>∃ g c,e=.returned (.tuple #[.slice (some ⟨g,0,none⟩) k c,.int .i64 0])/\RowsAt w' g ((List.range k).map fun i=>Cd.mix (Cd.B (Cd.invs rows k) i) D)/\Ext w w'):=hid rfl
 rw [HPO.out]
 have HRB:=hid hrb; have HDB:=hid hdb; have HPV:=hid hpv
 have HPA:=hid hp; have HPS:=hid hN; have HND:=hid hnd; have HPN:=hid hpn; have HPL:=hid hpl
 have HPG:=hid (show ∀ j,j < N->∃ p,ps[j]?=some p from fun j hj=>⟨_,List.getElem?_eq_getElem (by omega)⟩)
 obtain ⟨b0,of0,pc0,y2⟩:∃ b off c,w.cell? ⟨pb,1,none⟩=some (.slice (some ⟨b,off,none⟩) L c):=by
  obtain ⟨p,hp0⟩:=HPG.out 0 (by omega)
  obtain ⟨_,b,off,c,q,_⟩:=hp 0 p hp0
  exact ⟨b,off,c,by simpa using q⟩
 have HY2:=hid y2
 have HR0:=hid (fun a (ha:a < n) (w:World)=>frow_c k n a k1 kn hn8 ha w)
 clear hp hN hnd hpn hpl hrb hdb hpv hrows hD HPO y2 htk
 go_enter Tryz.func155,Tryz.ntmps155
 go_wp2_with fail
 refine (HR0.out 0 (by omega) w).mono ?_
 rintro e w1 ⟨rb0,rfl,_,_,x1⟩
 have HX1:=hid x1
 have hnil:=eql_nil rb0 k w1
 clear x1
 obtain ⟨W0,hW0⟩:∃ W,w1.alloc (.cells (metB fun _=>false) 282)=W:=⟨_,rfl⟩
 obtain ⟨mb,hmb⟩:∃ mb,w1.heap.size=mb:=⟨_,rfl⟩
 have HS0:=hid (show DSt w W0 mb pb k ps (min 0 k) (min 0 k) (.slice none 0 0) (.slice none 0 0) id from by
  rw [Nat.zero_min]
  exact ⟨Ext.trans HX1.out (hW0▸(Ext.refl w1).alloc _),by rw [<- hW0,<- hmb]; exact Zad,by rw [<- hmb]; exact HX1.out.size,OwnVs.nil _ _ _ _,OwnVs.nil _ _ _ _,fun i p hi=>absurd hi (Nat.not_lt_zero _),fun b hb=>by cases hb⟩)
 have HW0:=hid hW0; have HMB:=hid hmb
 clear hW0 hmb
 go_wp2_with fail
 clear hnil hzm
 rw [HW0.out,HMB.out]
 go_loopw [26,8,9] (fun t s8 s9 wr=>∃ (j:Nat) (v8 v9:Value) (rb:Nat->Nat),t=.int .i64 j/\v8=s8/\v9=s9/\j<=N/\DSt w wr mb pb k ps (min j k) (min j k) v8 v9 rb) (fun t _ _ _=>N - (intOf t).toNat)
 case atStart=>exact ⟨0,_,_,_,rfl,rfl,rfl,by omega,HS0.out⟩
 case round =>
  clear HS0 HW0 HMB
  obtain ⟨j,v8,v9,rb,rfl,e8,e9,hj,hst⟩:=hrel
  subst e8
  subst e9
  have HST:=hid hst
  clear hst
  by_cases hjN:j < N
  ·
   obtain ⟨⟨pat,pdat⟩,hpj⟩:=HPG.out j hjN
   obtain ⟨z1,b,off,pcap,z2,_⟩:=HPA.out j (pat,pdat) hpj
   replace z1:w.cell? ⟨pb,j*2,none⟩=some (.int .i64 pat):=z1
   have hat:pat < n:=HPN.out (pat,pdat) (List.mem_of_getElem? hpj)
   have hp8:pat < 8:=by omega
   obtain ⟨A,hA⟩:∃ A:Array Value,#[Value.int .i64 pat,.slice (some ⟨b,off,none⟩) L pcap]=A:=⟨_,rfl⟩
   have HDE:=hid (show datE w pb j=#[Value.slice (some ⟨b,off,none⟩) L pcap] by unfold datE; rw [z2]; rfl)
   obtain ⟨W1,hW1⟩:∃ W,wr.alloc (.cells A 229)=W:=⟨_,rfl⟩
   obtain ⟨pg,hpg⟩:∃ pg,wr.heap.size=pg:=⟨_,rfl⟩
   have X1:=hid (show Ext wr W1 from hW1▸(Ext.refl wr).alloc _)
   have P1:=hid (show W1.heap[pg]?=some (.cells A 229 (0,0)) from by rw [<- hW1,<- hpg]; exact Zad)
   have HLA:=hid (show ∀ i v,A.toList[i]?=some v->wr.cell? ((⟨pb,j*2,none⟩:Addr).add i)=some v from fun i v hv=>by
    rw [<- hA] at hv
    have ea:∀ q,(⟨pb,j*2,none⟩:Addr).add q=⟨pb,j*2+q,none⟩:=fun q=>by unfold Addr.add; split<;>simp_all
    rw [ea]
    rcases i with _ | _ | i
    ·
     simp at hv; subst hv; exact HST.out.ext.cell z1
    ·
     simp at hv; subst hv; exact HST.out.ext.cell z2
    ·
     simp at hv)
   have hbs:(wr.alloc (.cells #[.int .i64 0,.slice none 0 0] 229)).heap[wr.heap.size]?=some (.cells #[.int .i64 0,.slice none 0 0] 229 (0,0)):=Zad
   have HAS:=hid (show A.size=2 by rw [<- hA]; rfl)
   have HA1:=hid (show ∀ u∈A.toList,u.oneCell'=true by rw [<- hA]; intro u hu; simp at hu; rcases hu with rfl | rfl<;>rfl)
   have HAA:=hid hA
   have HW1:=hid hW1; have HPG1:=hid hpg; have HPJ:=hid hpj
   have XW:=hid (Ext.trans HST.out.ext X1.out)
   have xd:Ext W1 W1.drew:=(Ext.refl W1).drew
   have g1:∀ z:SW Ext W1.drew,z.w.cell? ⟨pg,0,none⟩=some (.int .i64 pat):=fun z=>(Ext.trans xd z.ext).cell ((Zaf P1.out).trans (by rw [<- hA]; rfl))
   have g2:∀ z:SW Ext W1.drew,z.w.cell? ⟨pg,1,none⟩=some (.slice (some ⟨b,off,none⟩) L pcap):=fun z=>(Ext.trans xd z.ext).cell ((Zaf P1.out).trans (by rw [<- hA]; rfl))
   have g4:∀ z:SW Ext W1.drew,z.w.cell? ⟨pb,1,none⟩=some (.slice (some ⟨b0,of0,none⟩) L pc0):=fun z=>(Ext.trans xd z.ext).cell (XW.out.cell HY2.out)
   have HXD:=hid xd
   have j0:(0:Int)<=(j:Int):=by omega
   have j1:(j:Int) < (N:Int):=by omega
   have n0:¬(pat:Int) < 0:=by omega
   have n1:¬(pat:Int) ≥ (n:Int):=by omega
   have NN:(0:Int) < (N:Int):=by omega
   have N0:0 < N:=by omega
   have d1:decide (n<=pat)=false:=decide_eq_false (by omega)
   have d0:decide ((pat:Int) < 0)=false:=decide_eq_false n0
   obtain ⟨a8,c8,ev8,_⟩:=HST.out.o8.slice
   rw [List.length_map,List.length_range] at ev8
   have hltm8:=hid (fun q (hq:v8.ownBlock=some q)=>HST.out.o8.lt q hq)
   have hltm9:=hid (fun q (hq:v9.ownBlock=some q)=>HST.out.o9.lt q hq)
   clear hpj z1 z2 hA hW1 hpg xd
   subst ev8
   go_wp2_with (first
    | (guard_target=wpList _ _ _ (⟨some _,Op.load _ _,_,_,_,none⟩::_) _ _; refine Zae rfl 229 _ rfl ⟨pb,j*2,none⟩ rfl A (by rw [HAS.out]; exact aggPart) HLA.out ?_)
    | (guard_target=wpList _ _ _ (⟨none,Op.store _ _ _,_,_,_,none⟩::_) _ _; have hb0:=hbs; clear hbs; refine Zab rfl 229 _ _ rfl wr.heap.size rfl A _ rfl 229 (by rw [HAS.out]; exact aggPart) hb0 (by rw [HAS.out]; rfl) HA1.out ?_; rw [Zao,HW1.out,HPG1.out]))
   refine Zal (S:=Ext) (.fin [0,1,2,3,4,5,6,7,8,9,10,11,12,13,14,15,16,17,18,19]) (by kernel_rfl) (by kernel_rfl) (fun _ _ d _ _ h=>by cases d<;>exact h) ?_
   rw [wpS]
   simp only [opsAt,opA,opB,opC,opD,opE,opF,opG]
   iterate 20 ((refine Zaa (fun K hK=>?_); go_simp; refine hK _ ?_; clear hK K))
   refine Zac ?_
   intro V hV
   have HVX:=hid (Ext.trans X1.out (Ext.trans HXD.out hV))
   have HSV:=hid (HST.out.more HVX.out)
   have PV:=hid (Ext.at (Ext.trans HXD.out hV) P1.out)
   clear hV g1 g2 g4
   have e1:V.cell? ⟨pg,0,none⟩=some (.int .i64 pat):=(Zaf PV.out).trans (by rw [<- HAA.out]; rfl)
   have e2:V.cell? ⟨mb,pat,none⟩=some (.bool false):=(Zaf HSV.out.met).trans (by rw [metB_get _ hp8,metF_new HND.out HPJ.out (Nat.min_le_left _ _)])
   have e3:V.frozen? ⟨mb,pat,none⟩=false:=Zax HSV.out.met
   have p0:(0:Int)<=(pat:Int):=by omega
   have p8:(pat:Int) < 8:=by omega
   by_cases hjk:j < k
   ·
    have hmin:min j k=j:=by omega
    have hmin2:min (j+1) k=j+1:=by omega
    rw [hmin] at HSV ⊢
    have HD:=hid (HSV.out.mark HPJ.out hp8)
    replace HD:Hid (DSt w (V.setCell ⟨mb,pat,none⟩ (.bool true)) mb pb k ps (j+1) j (.slice a8 j c8) v9 rb):=HD
    obtain ⟨V2,hV2⟩:∃ W,V.setCell ⟨mb,pat,none⟩ (.bool true)=W:=⟨_,rfl⟩
    rw [hV2] at HD
    have oV:Only (fun q=>q=mb) V V2:=hV2▸Zap V mb pat _
    have hpn:pg≠mb:=by have:=lt_of_block HST.out.met; have:=HPG1.out; omega
    have P2:=hid (oV.at PV.out (fun q=>hpn q))
    have HV2:=hid hV2
    have HVS:=hid (show pg < V2.heap.size from lt_of_block P2.out)
    rw [hmin] at hltm8
    have hjk1:(j:Int) < (k:Int):=by omega
    clear hV2 oV HSV HVX PV
    go_wp2_with fail
    rw [HV2.out]
    clear e1 e2 e3
    have xd:Ext V2 V2.drew:=(Ext.refl V2).drew
    have hF:¬((Value.slice a8 j c8).ownBlock=some pg\/v9.ownBlock=some pg):=fun q=>by
     have:=HPG1.out
     rcases q with q | q
     ·
      have:=hltm8.out pg q; omega
     ·
      have:=hltm9.out pg q; omega
    have g1:∀ z:SW (Only fun q=>(Value.slice a8 j c8).ownBlock=some q\/v9.ownBlock=some q) V2.drew,z.w.cell? ⟨pg,0,none⟩=some (.int .i64 pat):=fun z=>z.ext.cell (xd.cell ((Zaf P2.out).trans (by rw [<- HAA.out]; rfl))) hF
    have g2:∀ z:SW (Only fun q=>(Value.slice a8 j c8).ownBlock=some q\/v9.ownBlock=some q) V2.drew,z.w.cell? ⟨pg,1,none⟩=some (.slice (some ⟨b,off,none⟩) L pcap):=fun z=>z.ext.cell (xd.cell ((Zaf P2.out).trans (by rw [<- HAA.out]; rfl))) hF
    have HXD2:=hid xd
    clear xd
    refine wp_region_tree_all (E:=Ext) (S:=Only fun q=>(Value.slice a8 j c8).ownBlock=some q\/v9.ownBlock=some q) (.two [0,1,2,3,4,8,9,10] 5 11 (.two [] 6 11 (.two [] 7 11 (.one [] 11 (.one [] 12 (.fin [13,14]))) (.one [] 7 (.one [] 12 (.fin [13,14])))) (.one [] 6 (.one [] 7 (.one [] 12 (.fin [13,14]))))) (.one [] 5 (.one [] 6 (.one [] 7 (.one [] 12 (.fin [13,14])))))) (by kernel_rfl) (by kernel_rfl) (fun _ _ d _ _ h=>by cases d<;>exact h) ?_
    rw [wpT]
    simp only [opsAt,opA,opB,opC,opD,opE,opF,opG]
    (refine Zaa (fun K hK=>?_); go_simp; refine hK _ ?_; clear hK K)
    (refine Zaa (fun K hK=>?_); go_simp; refine hK _ ?_; clear hK K)
    (refine Zaa (fun K hK=>?_); go_simp; refine hK _ ?_; clear hK K)
    (refine Zaa (fun K hK=>?_); go_simp; refine hK _ ?_; clear hK K)
    (refine Zaa (fun K hK=>?_); go_simp; refine hK _ ?_; clear hK K)
    (refine Zaa (fun K hK=>?_); go_simp; refine hK _ ?_; clear hK K)
    (refine Zaa (fun K hK=>?_); go_simp; refine hK _ ?_; clear hK K)
    (refine Zaa (fun K hK=>?_); go_simp; refine hK _ ?_; clear hK K)
    refine Zac ?_
    intro U0 hU0
    have EX0:=hid (show Ext V2 U0 from Ext.trans HXD2.out hU0)
    clear hU0 g1 g2 HXD2
    refine ⟨?_,?_⟩
    ·
     refine Za8 fun K hK=>?_
     go_wp2_with fail
     refine (HR0.out pat hat U0).mono ?_
     rintro e W0 ⟨r1,rfl,_,hb1,x5⟩
     have R1:=hid hb1
     have xw:=x5
     go_wp2
     refine hK _ _ (Ext.only x5) ?_
     clear hK K hb1 x5
     rw [wpT]
     simp only [opsAt,opA,opB,opC,opD,opE,opF,opG]
     refine Zac ?_
     intro U1 hU1
     have XU:=hid (Ext.trans xw hU1)
     replace R1:=hid (R1.out.ext hU1)
     have EX1:=hid (Ext.trans EX0.out XU.out)
     clear xw hU1 XU
     refine ⟨?_,?_⟩
     ·
      refine Za8 fun K hK=>?_
      go_wp2_with (guard_target=wpList _ _ _ (⟨some _,Op.buildSlice _ _ _,_,_,_,none⟩::_) _ _; refine Zag rfl 159 38 _ rfl #[Value.slice (some ⟨r1,0,none⟩) k k] _ _ 1 24 Tryz.underlying159 infoRow (by omega) (by omega) rfl rfl rfl ?_)
      refine hK _ _ (Ext.only ((Ext.refl _).alloc _)) ?_
      clear hK K
      have xw:Ext U1 (U1.alloc (.cells #[Value.slice (some ⟨r1,0,none⟩) k k] 38)):=(Ext.refl _).alloc _
      have C1:=hid (show (U1.alloc (.cells #[Value.slice (some ⟨r1,0,none⟩) k k] 38)).heap[U1.heap.size]?=some (.cells #[Value.slice (some ⟨r1,0,none⟩) k k] 38 (0,0)) from Zad)
      rw [wpT]
      simp only [opsAt,opA,opB,opC,opD,opE,opF,opG]
      refine Zac ?_
      intro U2 hU2
      have XU:=hid (Ext.trans xw hU2)
      have EX2:=hid (Ext.trans EX1.out XU.out)
      replace R1:=hid (R1.out.ext XU.out)
      replace C1:=hid (hU2.at C1.out)
      clear xw hU2 XU
      refine ⟨?_,?_⟩
      ·
       refine Za8 fun K hK=>?_
       obtain ⟨v8',U2b,hap8,ho8,hn8,_,hd8⟩:=(HD.out.o8.ext EX2.out).push (tsl:=159) Tryz.underlying159 infoRow rfl (by omega) #[Value.slice (some ⟨r1,0,none⟩) k k] rfl (by intro u hu; simp at hu; subst hu; rfl) ⟨U1.heap.size,0,none⟩ (Zaj C1.out) 1 (by simp; omega) (by omega) (by have:=HD.out.ext.size; have:=EX2.out.size; omega)
       have HO8:=hid ho8; have HN8:=hid hn8; have HD8:=hid hd8
       clear ho8 hn8 hd8
       go_wp2_with (at_builtin; refine wpList_append_run rfl _ _ _ rfl _ _ _ _ rfl rfl hap8 ?_)
       refine hK _ _ (HN8.out.mono (fun _ _ h=>.inl h)) ?_
       clear hK K hap8
       rw [wpT]
       simp only [opsAt,opA,opB,opC,opD,opE,opF,opG]
       refine Zac ?_
       intro U3 hU3
       have XB:=hid hU3
       clear hU3
       refine Za8 fun K hK=>?_
       go_wp2_with (guard_target=wpList _ _ _ (⟨some _,Op.buildSlice _ _ _,_,_,_,none⟩::_) _ _; refine Zag rfl 159 38 _ rfl (datE w pb j) _ _ 1 24 Tryz.underlying159 infoRow (by omega) (by omega) rfl (by rw [HDE.out]; rfl) rfl ?_)
       refine hK _ _ (Ext.only ((Ext.refl _).alloc _)) ?_
       clear hK K
       have xw:Ext U3 (U3.alloc (.cells (datE w pb j) 38)):=(Ext.refl _).alloc _
       have C2:=hid (show (U3.alloc (.cells (datE w pb j) 38)).heap[U3.heap.size]?=some (.cells (datE w pb j) 38 (0,0)) from Zad)
       have L2:=hid (show V2.heap.size<=U3.heap.size from by have:=EX2.out.size; have:=HN8.out.size; have:=XB.out.size; omega)
       rw [wpT]
       simp only [opsAt,opA,opB,opC,opD,opE,opF,opG]
       refine Zac ?_
       intro U4 hU4
       have XU:=hid (Ext.trans xw hU4)
       replace XB:=hid (Ext.trans XB.out XU.out)
       replace C2:=hid (hU4.at C2.out)
       clear xw hU4 XU
       refine Za8 fun K hK=>?_
       obtain ⟨v9',U4b,hap9,ho9,hn9,_,hd9⟩:=(((HD.out.o9.ext EX2.out).only HN8.out (fun q hq hq'=>HD.out.apart q hq' hq)).ext XB.out).push (tsl:=159) Tryz.underlying159 infoRow rfl (by omega) (datE w pb j) rfl (by intro u hu; rw [HDE.out] at hu; simp at hu; subst hu; rfl) ⟨U3.heap.size,0,none⟩ (Zaj C2.out) 1 (by simp; omega) (by omega) (by have:=HD.out.ext.size; have:=EX2.out.size; have:=HN8.out.size; have:=XB.out.size; omega)
       have HO9:=hid ho9; have HN9:=hid hn9; have HD9:=hid hd9
       clear ho9 hn9 hd9
       go_wp2_with (at_builtin; refine wpList_append_run rfl _ _ _ rfl _ _ _ _ rfl rfl hap9 ?_)
       refine hK _ _ (HN9.out.mono (fun _ _ h=>.inr h)) ?_
       clear hK K hap9
       rw [wpT]
       simp only [opsAt,opA,opB,opC,opD,opE,opF,opG]
       (refine Zaa (fun K hK=>?_); go_simp; refine hK _ ?_; clear hK K)
       (refine Zaa (fun K hK=>?_); go_simp; refine hK _ ?_; clear hK K)
       refine Zac ?_
       intro U5 hU5
       have HNX:=hid ((HD.out.next HPJ.out EX2.out R1.out HO8.out HN8.out HD8.out XB.out HO9.out HN9.out HD9.out).more hU5)
       clear hU5
       go_wp2
       go_roundw
       case rel=>exact ⟨j+1,_,_,_,by go_num,rfl,rfl,by omega,by rw [hmin2]; exact HNX.out⟩
       case measure=>simp [intOf]; omega
      ·
       refine Za8 fun K hK=>?_
       go_wp2_with (guard_target=wpList _ _ _ (⟨some _,Op.buildSlice _ _ _,_,_,_,none⟩::_) _ _; refine Zag rfl 159 38 _ rfl (datE w pb j) _ _ 1 24 Tryz.underlying159 infoRow (by omega) (by omega) rfl (by rw [HDE.out]; rfl) rfl ?_)
       refine hK _ _ (Ext.only ((Ext.refl _).alloc _)) ?_
       clear hK K
       have xw:Ext U2 (U2.alloc (.cells (datE w pb j) 38)):=(Ext.refl _).alloc _
       have C2:=hid (show (U2.alloc (.cells (datE w pb j) 38)).heap[U2.heap.size]?=some (.cells (datE w pb j) 38 (0,0)) from Zad)
       have L2:=hid (show V2.heap.size<=U2.heap.size from by have:=EX2.out.size; omega)
       rw [wpT]
       simp only [opsAt,opA,opB,opC,opD,opE,opF,opG]
       refine Zac ?_
       intro U3 hU3
       have XU:=hid (Ext.trans xw hU3)
       have EX3:=hid (Ext.trans EX2.out XU.out)
       replace R1:=hid (R1.out.ext XU.out)
       replace C1:=hid (XU.out.at C1.out)
       replace C2:=hid (hU3.at C2.out)
       clear xw hU3 XU
       refine Za8 fun K hK=>?_
       obtain ⟨v8',U3b,hap8,ho8,hn8,_,hd8⟩:=(HD.out.o8.ext EX3.out).push (tsl:=159) Tryz.underlying159 infoRow rfl (by omega) #[Value.slice (some ⟨r1,0,none⟩) k k] rfl (by intro u hu; simp at hu; subst hu; rfl) ⟨U1.heap.size,0,none⟩ (Zaj C1.out) 1 (by simp; omega) (by omega) (by have:=HD.out.ext.size; have:=EX3.out.size; omega)
       have HO8:=hid ho8; have HN8:=hid hn8; have HD8:=hid hd8
       clear ho8 hn8 hd8
       go_wp2_with (at_builtin; refine wpList_append_run rfl _ _ _ rfl _ _ _ _ rfl rfl hap8 ?_)
       refine hK _ _ (HN8.out.mono (fun _ _ h=>.inl h)) ?_
       clear hK K hap8
       rw [wpT]
       simp only [opsAt,opA,opB,opC,opD,opE,opF,opG]
       refine Zac ?_
       intro U4 hU4
       have XB:=hid hU4
       replace C2:=hid (hU4.at (HN8.out.at C2.out (fun q=>by have:=HD.out.o8.lt _ q; have:=L2.out; omega)))
       clear hU4
       refine Za8 fun K hK=>?_
       obtain ⟨v9',U4b,hap9,ho9,hn9,_,hd9⟩:=(((HD.out.o9.ext EX3.out).only HN8.out (fun q hq hq'=>HD.out.apart q hq' hq)).ext XB.out).push (tsl:=159) Tryz.underlying159 infoRow rfl (by omega) (datE w pb j) rfl (by intro u hu; rw [HDE.out] at hu; simp at hu; subst hu; rfl) ⟨U2.heap.size,0,none⟩ (Zaj C2.out) 1 (by simp; omega) (by omega) (by have:=HD.out.ext.size; have:=EX3.out.size; have:=HN8.out.size; have:=XB.out.size; omega)
       have HO9:=hid ho9; have HN9:=hid hn9; have HD9:=hid hd9
       clear ho9 hn9 hd9
       go_wp2_with (at_builtin; refine wpList_append_run rfl _ _ _ rfl _ _ _ _ rfl rfl hap9 ?_)
       refine hK _ _ (HN9.out.mono (fun _ _ h=>.inr h)) ?_
       clear hK K hap9
       rw [wpT]
       simp only [opsAt,opA,opB,opC,opD,opE,opF,opG]
       (refine Zaa (fun K hK=>?_); go_simp; refine hK _ ?_; clear hK K)
       (refine Zaa (fun K hK=>?_); go_simp; refine hK _ ?_; clear hK K)
       refine Zac ?_
       intro U5 hU5
       have HNX:=hid ((HD.out.next HPJ.out EX3.out R1.out HO8.out HN8.out HD8.out XB.out HO9.out HN9.out HD9.out).more hU5)
       clear hU5
       go_wp2
       go_roundw
       case rel=>exact ⟨j+1,_,_,_,by go_num,rfl,rfl,by omega,by rw [hmin2]; exact HNX.out⟩
       case measure=>simp [intOf]; omega
     ·
      refine Za8 fun K hK=>?_
      go_wp2_with (guard_target=wpList _ _ _ (⟨some _,Op.buildSlice _ _ _,_,_,_,none⟩::_) _ _; refine Zag rfl 159 38 _ rfl (datE w pb j) _ _ 1 24 Tryz.underlying159 infoRow (by omega) (by omega) rfl (by rw [HDE.out]; rfl) rfl ?_)
      refine hK _ _ (Ext.only ((Ext.refl _).alloc _)) ?_
      clear hK K
      have xw:Ext U1 (U1.alloc (.cells (datE w pb j) 38)):=(Ext.refl _).alloc _
      have C2:=hid (show (U1.alloc (.cells (datE w pb j) 38)).heap[U1.heap.size]?=some (.cells (datE w pb j) 38 (0,0)) from Zad)
      have L2:=hid (show V2.heap.size<=U1.heap.size from by have:=EX1.out.size; omega)
      rw [wpT]
      simp only [opsAt,opA,opB,opC,opD,opE,opF,opG]
      refine Zac ?_
      intro U2 hU2
      have XU:=hid (Ext.trans xw hU2)
      have EX2:=hid (Ext.trans EX1.out XU.out)
      replace R1:=hid (R1.out.ext XU.out)
      replace C2:=hid (hU2.at C2.out)
      clear xw hU2 XU
      refine Za8 fun K hK=>?_
      go_wp2_with (guard_target=wpList _ _ _ (⟨some _,Op.buildSlice _ _ _,_,_,_,none⟩::_) _ _; refine Zag rfl 159 38 _ rfl #[Value.slice (some ⟨r1,0,none⟩) k k] _ _ 1 24 Tryz.underlying159 infoRow (by omega) (by omega) rfl rfl rfl ?_)
      refine hK _ _ (Ext.only ((Ext.refl _).alloc _)) ?_
      clear hK K
      have xw:Ext U2 (U2.alloc (.cells #[Value.slice (some ⟨r1,0,none⟩) k k] 38)):=(Ext.refl _).alloc _
      have C1:=hid (show (U2.alloc (.cells #[Value.slice (some ⟨r1,0,none⟩) k k] 38)).heap[U2.heap.size]?=some (.cells #[Value.slice (some ⟨r1,0,none⟩) k k] 38 (0,0)) from Zad)
      rw [wpT]
      simp only [opsAt,opA,opB,opC,opD,opE,opF,opG]
      refine Zac ?_
      intro U3 hU3
      have XU:=hid (Ext.trans xw hU3)
      have EX3:=hid (Ext.trans EX2.out XU.out)
      replace R1:=hid (R1.out.ext XU.out)
      replace C1:=hid (hU3.at C1.out)
      replace C2:=hid (XU.out.at C2.out)
      clear xw hU3 XU
      refine Za8 fun K hK=>?_
      obtain ⟨v8',U3b,hap8,ho8,hn8,_,hd8⟩:=(HD.out.o8.ext EX3.out).push (tsl:=159) Tryz.underlying159 infoRow rfl (by omega) #[Value.slice (some ⟨r1,0,none⟩) k k] rfl (by intro u hu; simp at hu; subst hu; rfl) ⟨U2.heap.size,0,none⟩ (Zaj C1.out) 1 (by simp; omega) (by omega) (by have:=HD.out.ext.size; have:=EX3.out.size; omega)
      have HO8:=hid ho8; have HN8:=hid hn8; have HD8:=hid hd8
      clear ho8 hn8 hd8
      go_wp2_with (at_builtin; refine wpList_append_run rfl _ _ _ rfl _ _ _ _ rfl rfl hap8 ?_)
      refine hK _ _ (HN8.out.mono (fun _ _ h=>.inl h)) ?_
      clear hK K hap8
      rw [wpT]
      simp only [opsAt,opA,opB,opC,opD,opE,opF,opG]
      refine Zac ?_
      intro U4 hU4
      have XB:=hid hU4
      replace C2:=hid (hU4.at (HN8.out.at C2.out (fun q=>by have:=HD.out.o8.lt _ q; have:=L2.out; omega)))
      clear hU4
      refine Za8 fun K hK=>?_
      obtain ⟨v9',U4b,hap9,ho9,hn9,_,hd9⟩:=(((HD.out.o9.ext EX3.out).only HN8.out (fun q hq hq'=>HD.out.apart q hq' hq)).ext XB.out).push (tsl:=159) Tryz.underlying159 infoRow rfl (by omega) (datE w pb j) rfl (by intro u hu; rw [HDE.out] at hu; simp at hu; subst hu; rfl) ⟨U1.heap.size,0,none⟩ (Zaj C2.out) 1 (by simp; omega) (by omega) (by have:=HD.out.ext.size; have:=EX3.out.size; have:=HN8.out.size; have:=XB.out.size; omega)
      have HO9:=hid ho9; have HN9:=hid hn9; have HD9:=hid hd9
      clear ho9 hn9 hd9
      go_wp2_with (at_builtin; refine wpList_append_run rfl _ _ _ rfl _ _ _ _ rfl rfl hap9 ?_)
      refine hK _ _ (HN9.out.mono (fun _ _ h=>.inr h)) ?_
      clear hK K hap9
      rw [wpT]
      simp only [opsAt,opA,opB,opC,opD,opE,opF,opG]
      (refine Zaa (fun K hK=>?_); go_simp; refine hK _ ?_; clear hK K)
      (refine Zaa (fun K hK=>?_); go_simp; refine hK _ ?_; clear hK K)
      refine Zac ?_
      intro U5 hU5
      have HNX:=hid ((HD.out.next HPJ.out EX3.out R1.out HO8.out HN8.out HD8.out XB.out HO9.out HN9.out HD9.out).more hU5)
      clear hU5
      go_wp2
      go_roundw
      case rel=>exact ⟨j+1,_,_,_,by go_num,rfl,rfl,by omega,by rw [hmin2]; exact HNX.out⟩
      case measure=>simp [intOf]; omega
    ·
     refine Za8 fun K hK=>?_
     go_wp2_with (guard_target=wpList _ _ _ (⟨some _,Op.buildSlice _ _ _,_,_,_,none⟩::_) _ _; refine Zag rfl 159 38 _ rfl (datE w pb j) _ _ 1 24 Tryz.underlying159 infoRow (by omega) (by omega) rfl (by rw [HDE.out]; rfl) rfl ?_)
     refine hK _ _ (Ext.only ((Ext.refl _).alloc _)) ?_
     clear hK K
     have xw:Ext U0 (U0.alloc (.cells (datE w pb j) 38)):=(Ext.refl _).alloc _
     have C2:=hid (show (U0.alloc (.cells (datE w pb j) 38)).heap[U0.heap.size]?=some (.cells (datE w pb j) 38 (0,0)) from Zad)
     have L2:=hid (show V2.heap.size<=U0.heap.size from by have:=EX0.out.size; omega)
     rw [wpT]
     simp only [opsAt,opA,opB,opC,opD,opE,opF,opG]
     refine Zac ?_
     intro U1 hU1
     have XU:=hid (Ext.trans xw hU1)
     have EX1:=hid (Ext.trans EX0.out XU.out)
     replace C2:=hid (hU1.at C2.out)
     clear xw hU1 XU
     refine Za8 fun K hK=>?_
     go_wp2_with fail
     refine (HR0.out pat hat U1).mono ?_
     rintro e W1 ⟨r1,rfl,_,hb1,x5⟩
     have R1:=hid hb1
     have xw:=x5
     go_wp2
     refine hK _ _ (Ext.only x5) ?_
     clear hK K hb1 x5
     rw [wpT]
     simp only [opsAt,opA,opB,opC,opD,opE,opF,opG]
     refine Zac ?_
     intro U2 hU2
     have XU:=hid (Ext.trans xw hU2)
     replace R1:=hid (R1.out.ext hU2)
     have EX2:=hid (Ext.trans EX1.out XU.out)
     replace C2:=hid (XU.out.at C2.out)
     clear xw hU2 XU
     refine Za8 fun K hK=>?_
     go_wp2_with (guard_target=wpList _ _ _ (⟨some _,Op.buildSlice _ _ _,_,_,_,none⟩::_) _ _; refine Zag rfl 159 38 _ rfl #[Value.slice (some ⟨r1,0,none⟩) k k] _ _ 1 24 Tryz.underlying159 infoRow (by omega) (by omega) rfl rfl rfl ?_)
     refine hK _ _ (Ext.only ((Ext.refl _).alloc _)) ?_
     clear hK K
     have xw:Ext U2 (U2.alloc (.cells #[Value.slice (some ⟨r1,0,none⟩) k k] 38)):=(Ext.refl _).alloc _
     have C1:=hid (show (U2.alloc (.cells #[Value.slice (some ⟨r1,0,none⟩) k k] 38)).heap[U2.heap.size]?=some (.cells #[Value.slice (some ⟨r1,0,none⟩) k k] 38 (0,0)) from Zad)
     rw [wpT]
     simp only [opsAt,opA,opB,opC,opD,opE,opF,opG]
     refine Zac ?_
     intro U3 hU3
     have XU:=hid (Ext.trans xw hU3)
     have EX3:=hid (Ext.trans EX2.out XU.out)
     replace R1:=hid (R1.out.ext XU.out)
     replace C1:=hid (hU3.at C1.out)
     replace C2:=hid (XU.out.at C2.out)
     clear xw hU3 XU
     refine Za8 fun K hK=>?_
     obtain ⟨v8',U3b,hap8,ho8,hn8,_,hd8⟩:=(HD.out.o8.ext EX3.out).push (tsl:=159) Tryz.underlying159 infoRow rfl (by omega) #[Value.slice (some ⟨r1,0,none⟩) k k] rfl (by intro u hu; simp at hu; subst hu; rfl) ⟨U2.heap.size,0,none⟩ (Zaj C1.out) 1 (by simp; omega) (by omega) (by have:=HD.out.ext.size; have:=EX3.out.size; omega)
     have HO8:=hid ho8; have HN8:=hid hn8; have HD8:=hid hd8
     clear ho8 hn8 hd8
     go_wp2_with (at_builtin; refine wpList_append_run rfl _ _ _ rfl _ _ _ _ rfl rfl hap8 ?_)
     refine hK _ _ (HN8.out.mono (fun _ _ h=>.inl h)) ?_
     clear hK K hap8
     rw [wpT]
     simp only [opsAt,opA,opB,opC,opD,opE,opF,opG]
     refine Zac ?_
     intro U4 hU4
     have XB:=hid hU4
     replace C2:=hid (hU4.at (HN8.out.at C2.out (fun q=>by have:=HD.out.o8.lt _ q; have:=L2.out; omega)))
     clear hU4
     refine Za8 fun K hK=>?_
     obtain ⟨v9',U4b,hap9,ho9,hn9,_,hd9⟩:=(((HD.out.o9.ext EX3.out).only HN8.out (fun q hq hq'=>HD.out.apart q hq' hq)).ext XB.out).push (tsl:=159) Tryz.underlying159 infoRow rfl (by omega) (datE w pb j) rfl (by intro u hu; rw [HDE.out] at hu; simp at hu; subst hu; rfl) ⟨U0.heap.size,0,none⟩ (Zaj C2.out) 1 (by simp; omega) (by omega) (by have:=HD.out.ext.size; have:=EX3.out.size; have:=HN8.out.size; have:=XB.out.size; omega)
     have HO9:=hid ho9; have HN9:=hid hn9; have HD9:=hid hd9
     clear ho9 hn9 hd9
     go_wp2_with (at_builtin; refine wpList_append_run rfl _ _ _ rfl _ _ _ _ rfl rfl hap9 ?_)
     refine hK _ _ (HN9.out.mono (fun _ _ h=>.inr h)) ?_
     clear hK K hap9
     rw [wpT]
     simp only [opsAt,opA,opB,opC,opD,opE,opF,opG]
     (refine Zaa (fun K hK=>?_); go_simp; refine hK _ ?_; clear hK K)
     (refine Zaa (fun K hK=>?_); go_simp; refine hK _ ?_; clear hK K)
     refine Zac ?_
     intro U5 hU5
     have HNX:=hid ((HD.out.next HPJ.out EX3.out R1.out HO8.out HN8.out HD8.out XB.out HO9.out HN9.out HD9.out).more hU5)
     clear hU5
     go_wp2
     go_roundw
     case rel=>exact ⟨j+1,_,_,_,by go_num,rfl,rfl,by omega,by rw [hmin2]; exact HNX.out⟩
     case measure=>simp [intOf]; omega
   ·
    have hmin:min j k=k:=by omega
    have hmin2:min (j+1) k=k:=by omega
    rw [hmin] at HSV ⊢
    have hjk1:¬(k:Int) < (k:Int):=by omega
    go_wp2
    go_roundw
    case rel=>exact ⟨j+1,_,_,_,by go_num,rfl,rfl,by omega,by rw [hmin2]; exact HSV.out⟩
    case measure=>simp [intOf]; omega
  ·
   obtain rfl:N=j:=by omega
   have hmin:min N k=k:=by omega
   rw [hmin] at HST
   obtain ⟨a8,c8,ev8,q8⟩:=HST.out.o8.slice
   obtain ⟨a9,c9,ev9,q9⟩:=HST.out.o9.slice
   have hl8:((List.range k).map (hdrE k rb fun _=>k)).length=k:=by simp
   have hl9:((List.range k).map (datE w pb)).length=k:=by simp
   rw [hl8] at ev8
   rw [hl9] at ev9
   rcases q8 with ⟨q,_⟩ | ⟨g8,rfl,_,_,_,hv8⟩
   ·
    exfalso; rw [q] at hl8; simp at hl8; omega
   rcases q9 with ⟨q,_⟩ | ⟨g9,rfl,_,_,_,hv9⟩
   ·
    exfalso; rw [q] at hl9; simp at hl9; omega
   have HRW:=hid (show RowsG wr g8 rows from fun i l hi=>by
    have hik:i < k:=by
     rcases Nat.lt_or_ge i k with q | q
     ·
      exact q
     ·
      rw [List.getElem?_eq_none (by rw [HRB.out.n]; exact q)] at hi; cases hi
    obtain ⟨p,hp⟩:=HPG.out i (by omega)
    have hl:l=Cd.row k p.1:=by
     rw [<- HRI.out i p hik hp,Cd.B,List.getD_eq_getElem?_getD,hi]; rfl
    have q0:=hv8 i (hdrE k rb (fun _=>k) i) (by rw [List.getElem?_map,List.getElem?_range hik]; rfl) 0 (.slice (some ⟨rb i,0,none⟩) k k) rfl
    have hb:=HST.out.row i p hik hp
    refine ⟨rb i,0,k,?_,?_⟩
    ·
     rw [hl,Cd.row_len]; simpa using q0
    ·
     rw [hl]
     refine ⟨rfl,by rw [Cd.row_len]; omega,Cd.row_byte _ _,.inr ⟨rb i,0,rfl,fun x hx=>?_⟩⟩
     rw [Nat.zero_add]
     exact hb.cell x hx)
   have HDW:=hid (show ∀ i,i < k->∃ b off c,wr.cell? ⟨g9,i,none⟩=some (.slice (some ⟨b,off,none⟩) L c)/\BytesAt wr (some ⟨b,off,none⟩) L (Cd.B D i) from fun i hik=>by
    obtain ⟨p,hp⟩:=HPG.out i (by omega)
    obtain ⟨_,b,off,c,z2,hb⟩:=HPA.out i p hp
    have q0:=hv9 i (datE w pb i) (by rw [List.getElem?_map,List.getElem?_range hik]; rfl) 0 (.slice (some ⟨b,off,none⟩) L c) (by unfold datE; rw [z2]; rfl)
    exact ⟨b,off,c,by simpa using q0,by rw [HDI.out i p hik hp]; exact hb.onlyG HST.out.ext (fun z=>z)⟩)
   have HXR:=hid HST.out.ext
   subst ev8
   subst ev9
   have kk:¬(k:Int) < (k:Int):=by omega
   clear hv8 hv9 hl8 hl9 HST HPA HPN HPL HPG HRI HDI HND HPS HY2 HR0 hzp
   go_wp2_with fail
   refine (finv_c g8 c8 rows HRW.out HRB.out k1 (by omega) HPV.out).mono ?_
   rintro e wI ⟨gi,cgi,rfl,hri,xi⟩
   have HXI:=hid (Ext.trans HXR.out xi)
   have HIN:=hid hri
   have HDA:=hid (show ∀ i,i < k->∃ b off c,wI.cell? ⟨g9,i,none⟩=some (.slice (some ⟨b,off,none⟩) L c)/\BytesAt wI (some ⟨b,off,none⟩) L (Cd.B D i) from fun i hik=>by
    obtain ⟨b,off,c,e1,e2⟩:=HDW.out i hik
    exact ⟨b,off,c,xi.cell e1,e2.onlyG xi (fun z=>z)⟩)
   clear hri xi HRW HDW HXR
   obtain ⟨IV,hIV⟩:∃ l,Cd.invs rows k=l:=⟨_,rfl⟩
   rw [hIV] at HIN HIB
   have HIVE:=hid hIV
   have HIR:=hid (fun i (hi:i < k)=>HIN.out.row (L:=k) (fun q hq=>HIB.out.len q (by rw [HIB.out.n] at hq; exact hq)) (j:=i) (by rw [HIB.out.n]; exact hi))
   have HML:=hid (show ∀ i,i < k->(Cd.mix (Cd.B IV i) D).length=L from fun i hi=>by unfold Cd.mix; rw [Cd.mixK_len,HDB.out.len 0 (by omega)])
   have HMB:=hid (show ∀ i,∀ x∈Cd.mix (Cd.B IV i) D,x < 256 from fun i=>by unfold Cd.mix; exact Cd.mixK_byte _ D _ (HIB.out.byte i) HDB.out.byte)
   have HE0:=hid (show DecSt wI wI L (fun i=>Cd.mix (Cd.B IV i) D) 0 (.slice none 0 0) from ⟨Ext.refl _,[],OwnVs.nil _ _ _ _,rfl,fun i hi=>by omega⟩)
   obtain ⟨d0,dof0,dc0,zd0,_⟩:=HDA.out 0 (by omega)
   have HZ0:=hid zd0
   clear zd0 hIV HRB HPV
   go_wp2_with fail
   go_loopw [85,13] (fun t v wq=>∃ (j:Nat) (a:Option Addr) (c:Nat),t=.int .i64 j/\v=.slice a j c/\j<=k/\DecSt wI wq L (fun i=>Cd.mix (Cd.B IV i) D) j v) (fun t _ _=>k - (intOf t).toNat)
   case atStart=>exact ⟨0,none,0,rfl,rfl,by omega,HE0.out⟩
   case round =>
    clear HE0
    obtain ⟨j,a,c,rfl,rfl,hj,hst⟩:=hrel
    obtain ⟨wK,hwK⟩:∃ W,W=wr:=⟨_,rfl⟩
    subst hwK
    have HST:=hid hst
    have HX:=hid hst.ext
    clear hst
    by_cases hjn:j < k
    ·
     have j0:(0:Int)<=(j:Int):=by omega
     have j1:(j:Int) < (k:Int):=by omega
     have j2:(0:Int) < (k:Int):=by omega
     have e1:wK.cell? ⟨g9,0,none⟩=some (.slice (some ⟨d0,dof0,none⟩) L dc0):=HX.out.cell HZ0.out
     obtain ⟨ri,ro,rc,zr,hrby⟩:=HIR.out j hjn
     have e2:wK.cell? ⟨gi,j,none⟩=some (.slice (some ⟨ri,ro,none⟩) k rc):=HX.out.cell zr
     have hmk:Sem.run Tryz.prog (Instr.makeSlice 38 (.int .i64 L) (.int .i64 L)) wK=.ok (.slice (some ⟨wK.heap.size,0,none⟩) L L) (wK.alloc (.cells (bA (List.replicate L 0)) 5)):=Zbs (L:Int) (by omega) (by omega) wK
     obtain ⟨W,hW⟩:∃ W,wK.alloc (.cells (bA (List.replicate L 0)) 5)=W:=⟨_,rfl⟩
     obtain ⟨b,hb⟩:∃ b,wK.heap.size=b:=⟨_,rfl⟩
     rw [hW,hb] at hmk
     have XW:=hid (show Ext wK W from hW▸(Ext.refl wK).alloc _)
     have B0:=hid (show Blk W b (List.replicate L 0) from by rw [<- hW,<- hb]; exact Zad)
     have HBB:=hid hb
     have HO0:=hid (show OwnB W b L (Cd.mixK (Cd.B IV j) D 0) from by
      have e:Cd.mixK (Cd.B IV j) D 0=List.replicate L 0:=by show List.replicate (Cd.B D 0).length 0=_; rw [HDB.out.len 0 (by omega)]
      rw [e]
      have:=B0.out.own (by simp; omega)
      simpa using this)
     have HLB:=hid (show b < W.heap.size from (HO0.out).lt)
     have HRY:=hid (hrby.onlyG (Ext.trans HX.out XW.out) (fun z=>z))
     have hril:ri < wI.heap.size:=hrby.bltG (by omega)
     have HRNE:=hid (show ri≠b by have:=HX.out.size; have:=HBB.out; omega)
     clear hW hb hrby zr hril
     go_wp2_with fail
     clear hmk e1 e2
     go_loopw [96] (fun t wq=>∃ i:Nat,t=.int .i64 i/\i<=k/\OwnB wq b L (Cd.mixK (Cd.B IV j) D i)/\Only (fun x=>x=b) W wq) (fun t _=>k - (intOf t).toNat)
     case atStart=>exact ⟨0,rfl,by omega,HO0.out,Only.refl _ _⟩
     case round =>
      clear HO0
      obtain ⟨i,rfl,hi,hown,hon⟩:=hrel
      obtain ⟨wC,hwC⟩:∃ W,W=wr:=⟨_,rfl⟩
      subst hwC
      have HO:=hid hown
      have HON:=hid hon
      clear hown hon
      by_cases hik:i < k
      ·
       have i0:(0:Int)<=(i:Int):=by omega
       have i1:(i:Int) < (k:Int):=by omega
       obtain ⟨bi,oi,ci,zi,hbi⟩:=HDA.out i hik
       have hbl:bi < wI.heap.size:=hbi.bltG L0
       have hne:bi≠b:=by have:=HX.out.size; have:=HBB.out; omega
       have hgl:g9 < wI.heap.size:=World.block_lt_of_cell? wI _ zi
       have hgne:g9≠b:=by have:=HX.out.size; have:=HBB.out; omega
       have cr:=HON.out.cell (HRY.out.get i hik) HRNE.out
       obtain ⟨x,hx⟩:∃ x,nth (Cd.B IV j) i=x:=⟨_,rfl⟩
       have hx256:x < 256:=hx▸Zay (HIB.out.byte j) i
       rw [hx] at cr
       have HMS:=hid (show Cd.mixK (Cd.B IV j) D (i+1)=addB (Cd.mixK (Cd.B IV j) D i) (Cd.B D i) x by rw [Cd.mixK_succ,hx])
       have HOL:=hid (show (Cd.mixK (Cd.B IV j) D i).length=L by rw [Cd.mixK_len,HDB.out.len 0 (by omega)])
       have HOB:=hid (Cd.mixK_byte (Cd.B IV j) D i (HIB.out.byte j) HDB.out.byte)
       have HZI:=hid (HON.out.cell (Ext.cell (Ext.trans HX.out XW.out) zi) hgne)
       have HBI:=hid ((hbi.onlyG (Ext.trans HX.out XW.out) (fun z=>z)).onlyG HON.out hne)
       obtain ⟨O,hO⟩:∃ O,Cd.mixK (Cd.B IV j) D i=O:=⟨_,rfl⟩
       obtain ⟨E,hE⟩:∃ E,Cd.B D i=E:=⟨_,rfl⟩
       rw [hO] at HO HOL HOB
       rw [hO,hE] at HMS
       rw [hE] at HBI
       have HOR:=hid (show wC.ownsRow 0 5 1 (.slice (some ⟨b,0,none⟩) L L) L (O.map bv) from by
        have:=HO.out
        unfold OwnB at this
        rw [HOL.out] at this
        exact this)
       clear hx zi hbi hbl hgl hO hE
       go_wp2_with fail
       clear cr
       go_loopw [103] (fun t wq=>∃ y:Nat,t=.int .i64 y/\y<=L/\wq.ownsRow 0 5 1 (.slice (some ⟨b,0,none⟩) L L) L ((addK O E x y).map bv)/\Only (fun z=>z=b) wC wq) (fun t _=>L - (intOf t).toNat)
       case atStart=>exact ⟨0,rfl,by omega,by rw [addK_zero]; exact HOR.out,Only.refl _ _⟩
       case round =>
        clear HOR
        obtain ⟨y,rfl,hy,hown,hon⟩:=hrel
        by_cases hyl:y < L
        ·
         have c1:wr.cell? ⟨b,y,none⟩=some (.int .u8 (nth O y)):=by
          rw [hown.cellAt y (by omega)]; exact addK_bv O E x y (by rw [HOL.out]; omega)
         have f1:wr.frozen? ⟨b,y,none⟩=false:=hown.frozenAt y
         have c2:wr.cell? ⟨bi,oi+y,none⟩=some (.int .u8 (nth E y)):=hon.cell (HBI.out.get y hyl) hne
         have c3:wr.cell? ⟨g9,i,none⟩=some (.slice (some ⟨bi,oi,none⟩) L ci):=hon.cell HZI.out hgne
         have b1:=Zay HOB.out y
         have b2:=Zay HBI.out.byte y
         have HO2:=hid hown; have HON2:=hid hon
         have y0:(0:Int)<=(y:Int):=by omega
         have y1:(y:Int) < (L:Int):=by omega
         obtain ⟨p,hp⟩:∃ p,nth O y=p:=⟨_,rfl⟩
         obtain ⟨q,hq⟩:∃ q,nth E y=q:=⟨_,rfl⟩
         rw [hp] at c1 b1
         rw [hq] at c2 b2
         have HP:=hid hp.symm; have HQ:=hid hq.symm
         clear hown hon hp hq
         go_wp2
         refine Zaw 17 (by kernel_rfl) (by kernel_rfl) ?_
         simp only [List.take_succ_cons,List.take_zero,List.drop_succ_cons,List.drop_zero]
         repeat (go_big_quiet_step ((go_at_call 199; refine Calls.quiet_of_same ((refMul_c (x:Int) (q:Int) _ (by omega) (by omega)).mono fun _ _ z=>⟨z.1,z.2.symm⟩))))
         refine wpQuiet_nil ?_
         intro _ hw'
         obtain ⟨nq,hw''⟩:=hw'
         subst hw''
         go_wp2
         go_roundw
         case rel =>
          have ho:(wr.drewN nq).ownsRow 0 5 1 (.slice (some ⟨b,0,none⟩) L L) L ((addK O E x y).map bv):=HO2.out
          refine ⟨y+1,by go_num,by omega,?_,(HON2.out.drewN nq).setCell (.inr rfl) _⟩
          have hb:=Gf.mul_bd x q
          rw [u8_xor_nat _ _ b1 hb,HP.out,HQ.out,<- addK_step]
          exact (ho.stored y _).1
         case measure=>simp [intOf]; omega
        ·
         obtain rfl:L=y:=by omega
         have he:=addK_end O E x L (by rw [HOL.out]; exact Nat.le_refl _) (by rw [HBI.out.len]; exact Nat.le_refl _) (by rw [HOL.out,HBI.out.len]; omega)
         rw [he,<- HMS.out] at hown
         have HO2:=hid (show OwnB wr b L (Cd.mixK (Cd.B IV j) D (i+1)) from by
          unfold OwnB
          have h2:(Cd.mixK (Cd.B IV j) D (i+1)).length=L:=by rw [HMS.out,addB_len,HOL.out]
          rw [h2]; exact hown)
         have HON2:=hid (Only.trans HON.out hon (fun _ _ z=>z))
         clear he hown hon
         go_wp2
         go_roundw
         case rel=>exact ⟨i+1,by go_num,by omega,HO2.out,HON2.out⟩
         case measure=>simp [intOf]; omega
      ·
       obtain rfl:k=i:=by omega
       have HFIN:=hid (show Cd.mix (Cd.B IV j) D=Cd.mixK (Cd.B IV j) D k by unfold Cd.mix; rw [HIB.out.len j hjn])
       have HEX:=hid (show Ext wK wC from Ext.then XW.out HON.out (fun i hi q=>by have:=HBB.out; omega))
       obtain ⟨a',c',w3,hap,hst3⟩:=(HST.out.more HEX.out).add (b:=b) (by omega) (by show OwnB wC b L (Cd.mix (Cd.B IV j) D); rw [HFIN.out]; exact HO.out)
       have HS3:=hid hst3
       clear hst3
       go_wp2_with (first
        | (guard_target=wpList _ _ _ (⟨some _,Op.buildSlice _ _ _,_,_,_,none⟩::_) _ _; refine Zag rfl 159 38 _ rfl (rowE b L) _ _ 1 24 Tryz.underlying159 infoRow (by omega) (by omega) rfl rfl rfl ?_)
        | (at_builtin; refine wpList_append_run rfl _ _ _ rfl _ _ _ _ rfl rfl hap ?_))
       go_roundw
       case rel=>exact ⟨j+1,a',c',by go_num,rfl,by omega,HS3.out⟩
       case measure=>simp [intOf]; omega
    ·
     obtain rfl:k=j:=by omega
     obtain ⟨g2,c2,ev,hr⟩:=HST.out.out (by omega) hL (fun i hi=>HML.out i hi) HMB.out
     have HRR:=hid hr
     have HXX:=hid (Ext.trans HXI.out HX.out)
     cases ev
     clear hr
     go_wp2
     go_ret2
     rw [HIVE.out]
     exact ⟨g2,_,rfl,HRR.out,HXX.out⟩
end Go.Proofs.YtgjnnbomnoafcaaGreatDoor
