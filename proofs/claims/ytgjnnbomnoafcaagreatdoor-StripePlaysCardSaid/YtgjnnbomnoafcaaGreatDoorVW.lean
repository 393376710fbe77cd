/- Texts of one proof, joined: GfMake, GfOps, GfAdd, CodeA, CodeB, CodeC, CodeD, CodeJ, Rely4, CodeE, CodeF, GfRef. -/
import Derived.Test.YtgjnnbomnoafcaaGreatDoorProg
import Derived.Test.YtgjnnbomnoafcaaGreatDoorVA
import Derived.Test.YtgjnnbomnoafcaaGreatDoorVV
import Derived.BigQuiet
import Derived.Deep.QuietTactic
import Derived.WalkLawsBesides
import Derived.WalkSpells
import Derived.Test.YtgjnnbomnoafcaaGreatDoorVQ
import Derived.Test.YtgjnnbomnoafcaaGreatDoorVB
import Derived.Test.YtgjnnbomnoafcaaGreatDoorVF
import Derived.Test.YtgjnnbomnoafcaaGreatDoorVO
import Derived.Deep.DeepCutAuto
set_option linter.unusedVariables false
set_option linter.unusedSimpArgs false
namespace Go.Proofs.YtgjnnbomnoafcaaGreatDoor
set_option linter.unusedVariables false
open Go.RowKit Go
namespace Gf
def cellAt (i j:Nat):Value :=
 if j < 510 then .int .u8 (if j % 255 < i then ((xs (j % 255):Nat):Int) else 0)
 else if j=510 then .int .i64 (-1) else .int .i64 (if lgN (j - 510) < i then (lgN (j-510):Int) else 0)
@[irreducible] def tb (i:Nat):Array Value:=(Array.range 766).map (cellAt i)
@[irreducible] def zc:Array Value:=(List.replicate 510 (Value.int .u8 0)++List.replicate 256 (Value.int .i64 0)).toArray
theorem zero (w:World):Sem.run Tryz.prog (zeroValue 308) w=.ok (.agg zc) w:=by kernel_rfl
theorem zc_get (j:Nat):zc[j]?=if j < 510 then some (.int .u8 0) else if j < 766 then some (.int .i64 0) else none:=by
 simp only [zc,List.getElem?_toArray,List.getElem?_append,List.length_replicate,List.getElem?_replicate]
 by_cases h:j < 510
 ·
  simp [h]
 ·
  simp only [h,if_false]
  by_cases h2:j < 766
  ·
   rw [if_pos (by omega),if_pos h2]
  ·
   rw [if_neg (by omega),if_neg h2]
theorem tb_get (i j:Nat) (h:j < 766):(tb i)[j]?=some (cellAt i j):=by
 simp [tb,h]
theorem tb_none (i j:Nat) (h:¬j < 766):(tb i)[j]?=none:=by
 simp [tb]; omega
theorem tb_size (i:Nat):(tb i).size=766:=by simp [tb]
theorem zc_size:zc.size=766:=by simp only [zc,List.size_toArray,List.length_append,List.length_replicate]
theorem zc_tb:zc.setIfInBounds 510 (.int .i64 (-1))=tb 0:=by
 apply Array.ext_getElem?
 intro j
 rw [Array.getElem?_setIfInBounds,zc_get,zc_size]
 by_cases h:j < 766
 ·
  rw [tb_get 0 j h]
  simp only [cellAt]
  by_cases h1:j < 510
  ·
   rw [if_neg (by omega)]; simp [h1]
  ·
   by_cases h2:j=510
   ·
    subst h2; simp
   ·
    rw [if_neg (by omega)]; simp [h,h1,h2]
 ·
  rw [tb_none 0 j h,if_neg (by omega),if_neg (by omega),if_neg h]
theorem tb_step (k:Nat) (hk:k < 255) :
  (((tb k).setIfInBounds k (.int .u8 (xs k))).setIfInBounds (k+255) (.int .u8 (xs k))).setIfInBounds (510+xs k) (.int .i64 k)=tb (k+1):=by
 have hx:=xs_bd k
 apply Array.ext_getElem?
 intro j
 simp only [Array.getElem?_setIfInBounds,Array.size_setIfInBounds,tb_size]
 by_cases h:j < 766
 ·
  rw [tb_get k j h,tb_get (k+1) j h]
  simp only [cellAt]
  by_cases h3:510+xs k=j
  ·
   subst h3
   rw [if_pos rfl,if_pos (by omega),if_neg (by omega),if_neg (by omega),Nat.add_sub_cancel_left,lgN_xs,Nat.mod_eq_of_lt hk,if_pos (by omega)]
  ·
   rw [if_neg h3]
   by_cases h2:k+255=j
   ·
    subst h2
    rw [if_pos rfl,if_pos (by omega),if_pos (by omega),Nat.add_mod_right,Nat.mod_eq_of_lt hk,if_pos (by omega)]
   ·
    rw [if_neg h2]
    by_cases h1:k=j
    ·
     subst h1
     rw [if_pos rfl,if_pos (by omega),if_pos (by omega),Nat.mod_eq_of_lt hk,if_pos (by omega)]
    ·
     rw [if_neg h1]
     by_cases h5:j < 510
     ·
      rw [if_pos h5,if_pos h5]
      by_cases h6:j % 255 < k
      ·
       rw [if_pos h6,if_pos (by omega)]
      ·
       rw [if_neg h6,if_neg (by omega)]
     ·
      rw [if_neg h5,if_neg h5]
      by_cases h7:j=510
      ·
       rw [if_pos h7,if_pos h7]
      ·
       rw [if_neg h7,if_neg h7]
       have hne:lgN (j - 510)≠k:=by
        intro e
        have:=xs_lgN (j - 510) (by omega) (by omega)
        rw [e] at this; omega
       by_cases h6:lgN (j - 510) < k
       ·
        rw [if_pos h6,if_pos (by omega)]
       ·
        rw [if_neg h6,if_neg (by omega)]
 ·
  rw [tb_none k j h,tb_none (k+1) j h,if_neg (by omega),if_neg (by omega),if_neg (by omega)]
theorem Zcg (w:World) (c:Array Value) (E:TypeId) (n off:Nat) (v:Value) :
  ((w.alloc (.cells c E)).drewN n).setCell ⟨w.heap.size,off,none⟩ v=(w.alloc (.cells (c.setIfInBounds off v) E)).drewN n:=by
 rw [<- World.setCell_alloc_new]; rfl
def FieldAt (w:World) (b:Nat):Prop:=w.heap[b]?=some (.cells (tb 255) 308 (0,0))
def MakePost (w:World) (e:Ending) (w':World):Prop:=∃ b,e=.returned (.pointer (some ⟨b,0,none⟩))/\w.heap.size<=b/\FieldAt w' b/\Ext w w'
theorem step_val (k:Nat):xs (k+1)=if 256<=2*xs k then (2*xs k) ^^^ 285 else 2*xs k:=rfl
end Gf
open Gf
set_option maxRecDepth 100000 in
set_option maxHeartbeats 400000 in
theorem make_c (w:World):Calls Tryz.prog 193 #[] w (MakePost w):=by
 have hb:=Gf.zero
 have h510:zc[510]?=some (.int .i64 0):=by rw [zc_get]; rfl
 go_enter Tryz.func193,Tryz.ntmps193
 go_wp2
 go_loopw [2,10] (fun x i wr=>∃ k n:Nat,k<=255/\i=.int .i64 k/\x=.int .i64 (xs k)/\wr=(w.alloc (.cells (tb k) 308)).drewN n) (fun _ i _=>255 - (intOf i).toNat)
 case atStart=>exact ⟨0,0,by omega,rfl,rfl,by rw [zc_tb]; rfl⟩
 case round =>
  obtain ⟨k,n,hk,rfl,rfl,rfl⟩:=hrel
  clear hb h510
  by_cases hlt:k < 255
  ·
   have hx:=xs_bd k
   have hs:=hid (step_val k)
   have ht:=hid (tb_step k hlt)
   have t1:=tb_get k k (by omega)
   have t2:=tb_get k (k+255) (by omega)
   have t3:=tb_get k (510+xs k) (by omega)
   generalize xs k=x at *
   generalize tb k=T at *
   go_wp2
   go_region
   go_wp2
   ·
    go_roundw
    case rel =>
     refine ⟨k+1,n+1,by omega,by go_num,?_,?_⟩
     ·
      rw [hs.out,if_pos (by omega),show ((x:Int)*2)=((2*x:Nat):Int) by omega]
      exact congrArg _ (Zb2 (2*x) 285 (by omega) (by omega))
     ·
      rw [Zcg,Zcg,Zcg,ht.out]
    case measure=>simp [intOf]; omega
   ·
    go_roundw
    case rel =>
     refine ⟨k+1,n+1,by omega,by go_num,?_,?_⟩
     ·
      rw [hs.out,if_neg (by omega)]; go_num
     ·
      rw [Zcg,Zcg,Zcg,ht.out]
    case measure=>simp [intOf]; omega
  ·
   obtain rfl:k=255:=by omega
   go_wp2
   go_ret
   exact ⟨w.heap.size,rfl,Nat.le_refl _,by rw [FieldAt,heap_drewN,Zad],((Only.refl _ w).alloc _).drewN n⟩
open Go.RowKit Gf
theorem Gf.FieldAt.ext {w w':World} {b:Nat} (h:FieldAt w b) (e:Ext w w'):FieldAt w' b:=e.at h
theorem Gf.FieldAt.e {w:World} {b:Nat} (h:FieldAt w b) (j:Nat) (hj:j < 510):w.cell? ⟨b,j,none⟩=some (.int .u8 (xs j)):=by
 rw [Zaf h,tb_get 255 j (by omega)]
 simp only [cellAt]; rw [if_pos hj,if_pos (Nat.mod_lt _ (by omega)),xs_mod]
theorem Gf.FieldAt.l {w:World} {b:Nat} (h:FieldAt w b) (a:Nat) (ha:a < 256):w.cell? ⟨b,510+a,none⟩=some (.int .i64 (lg a)):=by
 rw [Zaf h,tb_get 255 (510+a) (by omega)]
 simp only [cellAt]; rw [if_neg (by omega)]
 unfold lg
 by_cases h0:a=0
 ·
  subst h0; rfl
 ·
  rw [if_neg (by omega),Nat.add_sub_cancel_left,if_pos (lgN_lt a (by omega) ha),if_neg h0]
set_option maxHeartbeats 400000 in
theorem mul_q (b:Nat) (X Y:Int) (w:World) (hf:FieldAt w b) (hx:0<=X/\X < 256) (hy:0<=Y/\Y < 256) :
  Calls Tryz.prog 214 #[.pointer (some ⟨b,0,none⟩),.int .u8 X,.int .u8 Y] w fun e w'=>e=.returned (.int .u8 (Gf.mul X.toNat Y.toNat:Nat))/\∃ m,w'=w.drewN m:=by
 obtain ⟨x,rfl⟩:=Int.eq_ofNat_of_zero_le hx.1
 obtain ⟨y,rfl⟩:=Int.eq_ofNat_of_zero_le hy.1
 have hx:=hx.2
 have hy:=hy.2
 rw [Int.toNat_natCast,Int.toNat_natCast]
 by_cases h0:x=0
 ·
  subst h0
  go_enter Tryz.func214,Tryz.ntmps214
  go_wp2
  go_ret
  exact ⟨by rw [Gf.zero_mul]; rfl,0,rfl⟩
 ·
  have c1:((x:Int) == 0)=false:=by simpa using h0
  by_cases h1:y=0
  ·
   have hm:Gf.mul x y=0:=by simp [Gf.mul,h1]
   rw [hm]
   have c2:((y:Int) == 0)=true:=by simpa using h1
   clear h0 h1 hm
   go_enter Tryz.func214,Tryz.ntmps214
   go_wp2
   go_ret
   exact ⟨rfl,0,rfl⟩
  ·
   have l1:=hf.l x (by omega)
   have l2:=hf.l y (by omega)
   have b1:=lg_bd x (by omega) (by omega)
   have b2:=lg_bd y (by omega) (by omega)
   have e:=hf.e ((lg x+lg y).toNat) (by omega)
   have hm:Gf.mul x y=xs ((lg x+lg y).toNat):=by
    unfold Gf.mul lg; rw [if_neg (by omega),if_neg h0,if_neg h1]; congr 1
   rw [hm]
   have c2:((y:Int) == 0)=false:=by simpa using h1
   clear h0 h1 hf hm
   generalize lg x=p at *
   generalize lg y=q at *
   go_enter Tryz.func214,Tryz.ntmps214
   go_wp2
   go_quiet (fail)
   go_wp2
   go_ret
   exact ⟨rfl,_,rfl⟩
set_option maxHeartbeats 400000 in
theorem inv_c (b:Nat) (X:Int) (w:World) (hf:FieldAt w b) (hx:0<=X/\X < 256) :
  Calls Tryz.prog 194 #[.pointer (some ⟨b,0,none⟩),.int .u8 X] w fun e w'=>e=.returned (.int .u8 (Gf.inv X.toNat:Nat))/\Ext w w':=by
 obtain ⟨x,rfl⟩:=Int.eq_ofNat_of_zero_le hx.1
 have hx:=hx.2
 rw [Int.toNat_natCast]
 by_cases h0:x=0
 ·
  subst h0
  go_enter Tryz.func194,Tryz.ntmps194
  go_wp2
  go_ret
  exact ⟨by rw [Gf.inv_zero]; rfl,Ext.refl _⟩
 ·
  have c1:((x:Int) == 0)=false:=by simpa using h0
  have l1:=hf.l x (by omega)
  have b1:=lg_bd x (by omega) (by omega)
  have e:=hf.e ((255 - lg x).toNat) (by omega)
  have hm:Gf.inv x=xs ((255 - lg x).toNat):=by
   unfold Gf.inv lg; rw [if_neg (by omega),if_neg h0]; congr 1; omega
  rw [hm]
  clear h0 hf hm
  generalize lg x=p at *
  go_enter Tryz.func194,Tryz.ntmps194
  go_wp2
  go_quiet (fail)
  go_wp2
  go_ret
  exact ⟨rfl,(Ext.refl w).drewN _⟩
theorem add_row (fb:Nat) (b n cap:Nat) (b' off' n' c':Nat) (l l':List Nat) (X:Int) (w:World) (hf:FieldAt w fb)
  (hown:w.ownsRow 0 5 1 (.slice (some ⟨b,0,none⟩) n cap) n (l.map bv))
  (hs:n<=140737488355328) (hs':n'<=140737488355328)
  (hc':∀ i,i < n'->w.cell? ⟨b',off'+i,none⟩=some (.int .u8 (nth l' i))) (hb:∀ i,nth l i < 256) (hb':∀ i,nth l' i < 256)
  (hx:0<=X/\X < 256) (h1:fb≠b) (h2:b'≠b) (hl':l'.length=n') :
  Calls Tryz.prog 209 #[.pointer (some ⟨fb,0,none⟩),.slice (some ⟨b,0,none⟩) n cap,.slice (some ⟨b',off',none⟩) n' c',.int .u8 X] w
   fun e w'=>e=.returned (.tuple #[])/\w'.ownsRow 0 5 1 (.slice (some ⟨b,0,none⟩) n cap) n ((addB l l' X.toNat).map bv)/\Only (fun k=>k=b) w w':=by
 have HO:=hid hown; have HC:=hid hc'; have HB:=hid hb; have HB':=hid hb'; have HF:=hid hf; have HL:=hid hl'
 have hl:l.length=n:=by have:=hown.1; simpa using this
 have HLL:=hid hl
 clear hown hc' hb hb' hf hl hl'
 go_enter Tryz.func209,Tryz.ntmps209
 go_wp2
 all_goals
  go_loopw [14] (fun i wr=>∃ k:Nat,k<=n/\k<=n'/\i=.int .i64 k/\wr.ownsRow 0 5 1 (.slice (some ⟨b,0,none⟩) n cap) n ((Gf.addK l l' X.toNat k).map bv)/\Only (fun k=>k=b) w wr) (fun i _=>n - (intOf i).toNat)
  case atStart=>exact ⟨0,by omega,by omega,rfl,by rw [Gf.addK_zero]; exact HO.out,Only.refl _ _⟩
  case round =>
   obtain ⟨k,hk,hk',rfl,hown,hon⟩:=hrel
   by_cases hlt:k < n/\k < n'
   ·
    obtain ⟨hl1,hl2⟩:=hlt
    have c1:wr.cell? ⟨b,k,none⟩=some (.int .u8 (nth l k)):=by
     rw [hown.cellAt k (by omega)]; exact Gf.addK_bv l l' _ k (by rw [HLL.out]; omega)
    have f1:wr.frozen? ⟨b,k,none⟩=false:=hown.frozenAt k
    have c2:wr.cell? ⟨b',off'+k,none⟩=some (.int .u8 (nth l' k)):=hon.cell (HC.out k hl2) h2
    have b1:=HB.out k
    have b2:=HB'.out k
    have hf:FieldAt wr fb:=hon.at HF.out h1
    have HO2:=hid hown; have HON:=hid hon; have HF2:=hid hf
    clear hown hon hf
    obtain ⟨x,hx1⟩:∃ x,nth l k=x:=⟨_,rfl⟩
    obtain ⟨y,hy1⟩:∃ y,nth l' k=y:=⟨_,rfl⟩
    rw [hx1] at c1 b1
    rw [hy1] at c2 b2
    have HX:=hid hx1.symm; have HY:=hid hy1.symm
    clear hx1 hy1
    go_wp2
    refine Zaw 13 (by kernel_rfl) (by kernel_rfl) ?_
    simp only [List.take_succ_cons,List.take_zero,List.drop_succ_cons,List.drop_zero]
    repeat (go_big_quiet_step ((go_at_call 214; refine Calls.quiet_of (mul_q fb X y _ ?_ hx (by omega)); exact HF2.out)))
    refine wpQuiet_nil ?_
    intro _ hw'
    obtain ⟨nq,hw''⟩:=hw'
    subst hw''
    go_wp2
    go_roundw
    case rel =>
     have ho:(wr.drewN nq).ownsRow 0 5 1 (.slice (some ⟨b,0,none⟩) n cap) n ((Gf.addK l l' X.toNat k).map bv):=HO2.out
     refine ⟨k+1,by omega,by omega,by go_num,?_,(HON.out.drewN nq).setCell (.inr rfl) _⟩
     have hb:=Gf.mul_bd X.toNat y
     rw [u8_xor_nat _ _ b1 hb,HX.out,HY.out,<- Gf.addK_step]
     exact (ho.stored k _).1
    case measure=>simp [intOf]; omega
   ·
    have he:=Gf.addK_end l l' X.toNat k (by rw [HLL.out]; exact hk) (by rw [HL.out]; exact hk') (by rw [HLL.out,HL.out]; exact hlt)
    rw [he] at hown
    have HO2:=hid hown; have HON:=hid hon
    clear he hown hon
    go_wp2
    go_end0
    exact ⟨rfl,HO2.out,HON.out⟩
theorem add_c (fb:Nat) (b n cap:Nat) (b' off' n' c':Nat) (l l':List Nat) (X:Int) (w:World) (hf:FieldAt w fb)
  (hown:w.ownsRow 0 5 1 (.slice (some ⟨b,0,none⟩) n cap) n (l.map bv)) (hb:∀ x∈l,x < 256) (hs:n<=140737488355328)
  (h':BytesAt w (some ⟨b',off',none⟩) n' l') (hx:0<=X/\X < 256) (h1:fb≠b) (h2:b'≠b) :
  Calls Tryz.prog 209 #[.pointer (some ⟨fb,0,none⟩),.slice (some ⟨b,0,none⟩) n cap,.slice (some ⟨b',off',none⟩) n' c',.int .u8 X] w
   fun e w'=>e=.returned (.tuple #[])/\w'.ownsRow 0 5 1 (.slice (some ⟨b,0,none⟩) n cap) n ((Gf.addB l l' X.toNat).map bv)/\Only (fun k=>k=b) w w' :=
 add_row fb b n cap b' off' n' c' l l' X w hf hown hs h'.small h'.get (Zay hb) (Zay h'.byte) hx h1 h2 h'.len
open Go Go.RowKit Gf
def RowsAt (w:World) (g:Nat) (ls:List (List Nat)):Prop:=∀ i l,ls[i]?=some l->∃ b c,w.cell? ⟨g,i,none⟩=some (.slice (some ⟨b,0,none⟩) l.length c)/\BytesAt w (some ⟨b,0,none⟩) l.length l
theorem BytesAt.at0 {w w':World} {b:Nat} {l:List Nat} (h:BytesAt w (some ⟨b,0,none⟩) l.length l) {F:Nat->Prop} (e:Only F w w') (hn:¬F b):BytesAt w' (some ⟨b,0,none⟩) l.length l:=by
 refine ⟨h.len,h.small,h.byte,?_⟩
 rcases h.cells with q | ⟨b',off,hb,hc⟩
 ·
  exact .inl q
 ·
  cases hb
  exact .inr ⟨_,_,rfl,fun i hi=>e.cell (hc i hi) hn⟩
theorem RowsAt.ext {w w':World} {g:Nat} {ls:List (List Nat)} (h:RowsAt w g ls) (e:Ext w w'):RowsAt w' g ls:=fun i l hi=>by
 obtain ⟨b,c,h1,h2⟩:=h i l hi
 exact ⟨b,c,e.cell h1,h2.at0 e (fun x=>x)⟩
structure CodeAt (w:World) (cb k n:Nat):Prop where
 ex:∃ fb g c,w.heap[cb]?=some (.cells #[.int .i64 k,.pointer (some ⟨fb,0,none⟩),.slice (some ⟨g,0,none⟩) n c] 277 (0,0))/\FieldAt w fb/\RowsAt w g ((List.range n).map (Cd.row k))
theorem CodeAt.ext {w w':World} {cb k n:Nat} (h:CodeAt w cb k n) (e:Ext w w'):CodeAt w' cb k n:=by
 obtain ⟨fb,g,c,h1,h2,h3⟩:=h.ex
 exact ⟨fb,g,c,e.at h1,h2.ext e,h3.ext e⟩
def rowE (b k:Nat):Array Value:=#[.slice (some ⟨b,0,none⟩) k k]
theorem infoRow:(Tryz.prog.info? 38).map (fun i=>(i.zero,i.size,i.bytes))=some (some (.slice none 0 0),1,24):=by kernel_rfl
theorem OwnVs.not_at {w:World} {B sz:Nat} {ty t:TypeId} {v:Value} {l:List (Array Value)} (h:OwnVs w B ty sz v l) (hn:ty≠t) {b:Nat} {A:Array Value} {fr:Nat × Nat} (hb:w.heap[b]?=some (.cells A t fr)):v.ownBlock≠some b:=by
 intro e
 rcases h.own.2 with ⟨q,_⟩ | ⟨g,c,cur,q1,_,q3,_⟩
 ·
  rw [q] at e; cases e
 ·
  rw [q1] at e
  cases e
  rw [q3] at hb
  injection hb with hb
  injection hb with _ p4 _
  exact hn p4
theorem OwnVs.not_blk {w:World} {B sz:Nat} {ty:TypeId} {v:Value} {l:List (Array Value)} (h:OwnVs w B ty sz v l) (hn:ty≠5) {b:Nat} {L:List Nat} (hb:Blk w b L):v.ownBlock≠some b:=h.not_at hn hb
theorem Zap (w:World) (r i:Nat) (v:Value):Only (fun b=>b=r) w (w.setCell ⟨r,i,none⟩ v):=Only.setCell (Only.refl (fun b=>b=r) w) (.inr rfl) v
structure NewSt (w0 wr:World) (cb fb k j:Nat):Prop where
 ext:Ext w0 wr
 new:w0.heap.size<=cb
 field:FieldAt wr fb
 ne:fb≠cb
 ex:∃ v es,wr.heap[cb]?=some (.cells #[.int .i64 k,.pointer (some ⟨fb,0,none⟩),v] 277 (0,0))/\OwnVs wr (cb+1) 38 1 v es/\es.length=j/\∀ i,i < j->∃ b,es[i]?=some (rowE b k)/\Blk wr b (Cd.row k i)
def rowK (k a j:Nat):List Nat:=(List.range k).map fun i=>if i < j then nth (Cd.row k a) i else 0
theorem rowK_zero (k a:Nat):rowK k a 0=List.replicate k 0:=by
 unfold rowK
 apply List.ext_getElem?
 intro i
 by_cases h:i < k
 ·
  simp [h]
 ·
  simp [h]
theorem Zbx (k a j:Nat):(rowK k a j).length=k:=by simp [rowK]
theorem rowK_all (k a:Nat):rowK k a k=Cd.row k a:=by
 apply Zbq (by simp [rowK,Cd.row_len])
 intro i hi
 rw [Zbx] at hi
 rw [Za0 (by rw [Zbx]; exact hi)]
 simp [rowK,hi]
theorem rowK_set (k a j:Nat) (hj:j < k) (x:Nat) (hx:nth (Cd.row k a) j=x):(rowK k a j).set j x=rowK k a (j+1):=by
 apply Zbq (by simp [rowK])
 intro i hi
 have hi:i < k:=by simpa [rowK] using hi
 rw [nth_set,Zbx,Za0 (l:=rowK k a (j+1)) (by rw [Zbx]; exact hi),Za0 (l:=rowK k a j) (by rw [Zbx]; exact hi)]
 simp only [rowK,List.getElem_map,List.getElem_range]
 by_cases e:j=i
 ·
  subst e; rw [if_pos ⟨rfl,hj⟩,if_pos (by omega),hx]
 ·
  rw [if_neg (fun q=>e q.1)]
  by_cases h2:i < j
  ·
   rw [if_pos h2,if_pos (by omega)]
  ·
   rw [if_neg h2,if_neg (by omega)]
theorem rowK_keep (k a j:Nat) (hj:j < k) (hx:nth (Cd.row k a) j=0):rowK k a j=rowK k a (j+1):=by
 rw [<- rowK_set k a j hj 0 hx]
 apply Zbq (by simp [rowK])
 intro i hi
 have hi:i < k:=by simpa [rowK] using hi
 rw [nth_set,Zbx]
 by_cases e:j=i
 ·
  subst e
  rw [if_pos ⟨rfl,hj⟩,Za0 (by rw [Zbx]; exact hj)]
  simp [rowK]
 ·
  rw [if_neg (fun q=>e q.1)]
theorem row_nth (k a j:Nat) (hj:j < k):nth (Cd.row k a) j=if k<=a then inv (a ^^^ j) else if a=j then 1 else 0:=by
 rw [Za0 (by rw [Cd.row_len]; exact hj)]
 simp [Cd.row]
theorem NewSt.out {w0 wr:World} {cb fb k n:Nat} (h:NewSt w0 wr cb fb k n) (hn:0 < n) (hk:k<=8):CodeAt wr cb k n:=by
 obtain ⟨v,es,h1,h2,h3,h4⟩:=h.ex
 obtain ⟨a,c,e,q⟩:=h2.slice
 rcases q with ⟨q,_⟩ | ⟨g,rfl,_,_,_,hv⟩
 ·
  rw [q] at h3; simp at h3; omega
 ·
  rw [h3] at e
  subst e
  refine ⟨fb,g,c,h1,h.field,fun i l hi=>?_⟩
  have hin:i < n:=by
   rcases Nat.lt_or_ge i n with q | q
   ·
    exact q
   ·
    rw [List.getElem?_eq_none (by simpa using q)] at hi; cases hi
  have hl:l=Cd.row k i:=by
   simp [hin] at hi; exact hi.symm
  subst hl
  obtain ⟨b,e1,e2⟩:=h4 i hin
  refine ⟨b,k,?_,e2.bytes (Cd.row_byte k i) rfl (by rw [Cd.row_len]; omega)⟩
  have:=hv i (rowE b k) e1 0 _ rfl
  rw [Cd.row_len]
  simpa using this
theorem NewSt.more {w0 wr w':World} {cb fb k j:Nat} (h:NewSt w0 wr cb fb k j) (e:Ext wr w'):NewSt w0 w' cb fb k j:=by
 obtain ⟨v,es,h1,h2,h3,h4⟩:=h.ex
 refine ⟨Ext.trans h.ext e,h.new,h.field.ext e,h.ne,v,es,e.at h1,h2.ext e,h3,fun i hi=>?_⟩
 obtain ⟨b,e1,e2⟩:=h4 i hi
 exact ⟨b,e1,e2.ext e⟩
theorem NewSt.lt {w0 wr:World} {cb fb k j:Nat} (h:NewSt w0 wr cb fb k j):cb < wr.heap.size:=by
 obtain ⟨v,es,h1,_⟩:=h.ex
 exact lt_of_block h1
theorem NewSt.add {w0 W:World} {cb fb k j b:Nat} (h:NewSt w0 W cb fb k j) (hj:j < 1000) (hb:Blk W b (Cd.row k j)) :
  ∃ a n c a' n' c' w',W.cell? ⟨cb,2,none⟩=some (.slice a n c)/\(Builtin.append_ #[159,159] 159 #[.slice a n c,.slice (some ⟨W.heap.size,0,none⟩) 1 1]).run Tryz.prog (W.alloc (.cells (rowE b k) 38))=.ok (.slice a' n' c') w' ∧
   w'.cell? ⟨cb,2,none⟩=some (.slice a n c)/\w'.frozen? ⟨cb,2,none⟩=false/\NewSt w0 (w'.setCell ⟨cb,2,none⟩ (.slice a' n' c')) cb fb k (j+1):=by
 obtain ⟨v,es,h1,h2,h3,h4⟩:=h.ex
 have hlt:=lt_of_block h1
 obtain ⟨v',w',e1,e2,e3,e4⟩:=h2.add (tsl:=159) Tryz.underlying159 infoRow rfl (by omega) (rowE b k) rfl (by intro u hu; simp [rowE] at hu; subst hu; rfl) (by omega) (by omega) (by omega)
 obtain ⟨a,c,ev,_⟩:=h2.slice
 obtain ⟨a',c',ev',_⟩:=e2.slice
 have hvb:v.ownBlock≠some cb:=fun q=>by have:=(h2.lt cb q).1; omega
 have hc':=e3.at h1 hvb
 have o2:Only (fun x=>x=cb) w' (w'.setCell ⟨cb,2,none⟩ v'):=Zap w' cb 2 v'
 refine ⟨a,es.length,c,a',(es++[rowE b k]).length,c',w',?_,by rw [<- ev,<- ev']; exact e1,?_,Zax hc',?_⟩
 ·
  rw [<- ev]; exact Zaf h1
 ·
  rw [<- ev]; exact Zaf hc'
 ·
  rw [<- ev']
  have hblk:∀ i b',Blk W b' (Cd.row k i)->b'≠cb->Blk (w'.setCell ⟨cb,2,none⟩ v') b' (Cd.row k i):=fun i b' hb' hne=>by
   have q1:Blk w' b' (Cd.row k i):=e3.at hb' (h2.not_blk (by decide) hb')
   exact o2.at q1 hne
  have hcb:∀ b' L,Blk W b' L->b'≠cb:=fun b' L q e=>by
   subst e
   unfold Blk at q
   rw [h1] at q
   injection q with q
   injection q with _ q _
   exact absurd q (by decide)
  refine ⟨Ext.then (e4 w0 (by have:=h.new; omega) h.ext) o2 (fun i hi q=>by have:=h.new; omega),h.new,o2.at (e3.at h.field (h2.not_at (by decide) h.field)) h.ne,h.ne,v',es++[rowE b k],?_,e2.only o2 (fun x hx q=>by have:=(e2.lt x hx).1; omega),by simp [h3],fun i hi=>?_⟩
  ·
   have:=Zar (i:=2) hc' v'
   exact this
  ·
   by_cases e:i < j
   ·
    obtain ⟨b',q1,q2⟩:=h4 i e
    exact ⟨b',by rw [List.getElem?_append_left (by omega)]; exact q1,hblk i b' q2 (hcb b' _ q2)⟩
   ·
    obtain rfl:i=j:=by omega
    exact ⟨b,by rw [List.getElem?_append_right (by omega),h3]; simp,hblk i b hb (hcb b _ hb)⟩
theorem built_code (k:Int) (p:Option Addr):Tryz.prog.built 277 [(0,.int .i64 k),(1,.pointer p)]=some #[.int .i64 k,.pointer p,.slice none 0 0]:=by kernel_rfl
theorem xor_small (a b:Nat) (ha:a < 8) (hb:b < 8):a ^^^ b < 8:=Nat.xor_lt_two_pow (n:=3) ha hb
set_option maxRecDepth 100000 in
set_option maxHeartbeats 2000000 in
theorem codenew_c (k n:Nat) (hk:1<=k) (hkn:k<=n) (hn:n<=8) (w:World) :
  Calls Tryz.prog 152 #[.int .i64 k,.int .i64 n] w fun e w'=>∃ cb,e=.returned (.tuple #[.pointer (some ⟨cb,0,none⟩),.nilIface])/\CodeAt w' cb k n/\Ext w w':=by
 have k1:¬(k:Int) < 1:=by omega
 have k2:¬(k:Int) > (n:Int):=by omega
 have k3:¬(n:Int) > 8:=by omega
 have HMK:=hid (fun w=>(show Sem.run Tryz.prog (Instr.makeSlice 38 (.int .i64 k) (.int .i64 k)) w=.ok (.slice (some ⟨w.heap.size,0,none⟩) k k) (w.alloc (.cells (bA (List.replicate k 0)) 5)) from Zbs (k:Int) (by omega) (by omega) w))
 have HB:=hid (fun p=>built_code (k:Int) p)
 go_enter Tryz.func152,Tryz.ntmps152
 go_wp2_with fail
 refine (make_c w).mono ?_
 rintro e v1 ⟨fb,rfl,hfb,hf,x1⟩
 have hfl:fb < v1.heap.size:=lt_of_block hf
 obtain ⟨W1,hW1⟩:∃ W,v1.alloc (.cells #[.int .i64 k,.pointer (some ⟨fb,0,none⟩),.slice none 0 0] 277)=W:=⟨_,rfl⟩
 obtain ⟨cb,hcb⟩:∃ cb,v1.heap.size=cb:=⟨_,rfl⟩
 have e1:Ext v1 W1:=hW1▸(Ext.refl v1).alloc _
 have HN0:=hid (show NewSt w W1 cb fb k 0 from ⟨Ext.trans x1 e1,by rw [<- hcb]; exact x1.size,hf.ext e1,by omega,.slice none 0 0,[],by rw [<- hW1,<- hcb]; exact Zad,OwnVs.nil _ _ _ _,rfl,fun i hi=>by omega⟩)
 have HW1:=hid hW1
 have HCB:=hid hcb
 clear x1 hf hfb hfl e1 hW1 hcb
 go_wp2_with (guard_target=wpList _ _ _ (⟨some _,Op.build _ _,_,_,_,none⟩::_) _ _; refine Zav rfl 277 _ rfl #[.int .i64 k,.pointer (some ⟨fb,0,none⟩),.slice none 0 0] ?_ ?_; (simp only [List.map_toArray,List.map_cons,List.map_nil,Act.eval]; simp only [Array.getD_eq_getD_getElem?,List.getElem?_toArray,List.getElem?_cons_succ,List.getElem?_cons_zero,Option.getD_some]; exact HB.out _))
 rw [HW1.out,HCB.out]
 clear k1 k2 k3
 go_loopw [28] (fun t wr=>∃ j:Nat,t=.int .i64 j/\j<=n/\NewSt w wr cb fb k j) (fun t _=>n - (intOf t).toNat)
 case atStart=>exact ⟨0,rfl,by omega,HN0.out⟩
 case round =>
  clear HN0 HW1 HCB
  obtain ⟨j,rfl,hj,hst⟩:=hrel
  have HST:=hid hst
  clear hst
  by_cases hlt:j < n
  ·
   have hmk:=HMK.out wr
   obtain ⟨W,hW⟩:∃ W,wr.alloc (.cells (bA (List.replicate k 0)) 5)=W:=⟨_,rfl⟩
   obtain ⟨b,hb⟩:∃ b,wr.heap.size=b:=⟨_,rfl⟩
   rw [hW,hb] at hmk
   have XW:=hid (show Ext wr W from hW▸(Ext.refl wr).alloc _)
   have B0:=hid (show Blk W b (rowK k j 0) from by rw [rowK_zero,<- hW,<- hb]; exact Zad)
   have HBB:=hid hb
   have HSTW:=hid (HST.out.more XW.out)
   clear hW hb
   go_wp2
   go_loopw [35] (fun t wq=>∃ i:Nat,t=.int .i64 i/\i<=k/\Blk wq b (rowK k j i)/\Only (fun x=>x=b) W wq) (fun t _=>k - (intOf t).toNat)
   case atStart=>exact ⟨0,rfl,by omega,B0.out,Only.refl _ _⟩
   case round =>
    clear B0 hmk
    obtain ⟨i,rfl,hi,hbl,hon⟩:=hrel
    have HBL:=hid hbl
    have HON:=hid hon
    by_cases hik:i < k
    ·
     have c1:=hbl.cell i (by rw [Zbx]; exact hik)
     have f1:=hbl.free i
     have hfw:=HSTW.out.field
     have hcw:W.heap[cb]?.isSome=true:=by
      obtain ⟨v,es,h1,_⟩:=HSTW.out.ex
      rw [h1]; rfl
     have hcbb:cb≠b:=by have:=HST.out.lt; have:=HBB.out; omega
     have hfbb:fb≠b:=by have:=lt_of_block HST.out.field; have:=HBB.out; omega
     have i0:(0:Int)<=(i:Int):=by omega
     have i1:(i:Int) < (k:Int):=by omega
     obtain ⟨x,hx⟩:∃ x,nth (rowK k j i) i=x:=⟨_,rfl⟩
     rw [hx] at c1
     clear hx hbl hon hcw
     by_cases hjk:k<=j
     ·
      have j1:(j:Int) ≥ (k:Int):=by omega
      have hcp:W.cell? ⟨cb,1,none⟩=some (.pointer (some ⟨fb,0,none⟩)):=by
       obtain ⟨v,es,h1,_⟩:=HSTW.out.ex
       exact Zaf h1
      have cp:wr.cell? ⟨cb,1,none⟩=some (.pointer (some ⟨fb,0,none⟩)):=HON.out.cell hcp (fun q=>hcbb q)
      have HF:=hid (show FieldAt wr fb from HON.out.at hfw hfbb)
      have hxr:Go.bits .xor .i64 (j:Int) (i:Int)=((j ^^^ i:Nat):Int):=Zb2 j i (by omega) (by omega)
      have hxs:=xor_small j i (by omega) (by omega)
      have HV:=hid (show nth (Cd.row k j) i=inv (j ^^^ i) by rw [row_nth k j i hik,if_pos hjk])
      obtain ⟨y,hy⟩:∃ y,j ^^^ i=y:=⟨_,rfl⟩
      rw [hy] at hxr hxs HV
      have hym:(y:Int) % 256=(y:Int):=by omega
      have hyk:IntKind.u8.wrap (y:Int)=(y:Int):=by rw [IntKind.wrap_u8]; omega
      clear hy hcp hfw
      go_wp2_with fail
      refine (inv_c fb (y:Int) wr HF.out (by omega)).mono ?_
      rintro e w2 ⟨rfl,x2⟩
      rw [Int.toNat_natCast]
      have c2:=x2.cell c1
      have f2:=(HBL.out.ext x2).free i
      have HB2:=hid (HBL.out.ext x2)
      have HO2:=hid (Only.ext HON.out x2)
      clear x2 c1 f1 cp
      go_wp2
      go_roundw
      case rel=>exact ⟨i+1,by go_num,by omega,by rw [<- rowK_set k j i hik _ HV.out]; exact HB2.out.set i _,Only.trans HO2.out (Zap _ b i _) (fun _ _ h=>h)⟩
      case measure=>simp [intOf]; omega
     ·
      have j1:¬(j:Int) ≥ (k:Int):=by omega
      by_cases hji:j=i
      ·
       have b1:((j:Int) == (i:Int))=true:=by simp [hji]
       have HV:=hid (show nth (Cd.row k j) i=1 by rw [row_nth k j i hik,if_neg hjk,if_pos hji])
       have HR:=hid (rowK_set k j i hik 1 HV.out)
       have HBS:=hid (HBL.out.set i 1)
       have HOS:=hid (Only.trans HON.out (Zap wr b i (.int .u8 (1:Nat))) (fun _ _ h=>h))
       clear hfw HV
       obtain rfl:j=i:=hji
       clear b1
       go_wp2
       go_roundw
       case rel=>exact ⟨j+1,by go_num,by omega,by rw [<- HR.out]; exact HBS.out,HOS.out⟩
       case measure=>simp [intOf]; omega
      ·
       have b1:((j:Int) == (i:Int))=false:=by rw [beq_eq_false_iff_ne]; omega
       have HR:=hid (rowK_keep k j i hik (by rw [row_nth k j i hik,if_neg hjk,if_neg hji]))
       clear hfw c1 f1
       go_wp2
       go_roundw
       case rel=>exact ⟨i+1,by go_num,by omega,by rw [<- HR.out]; exact HBL.out,HON.out⟩
       case measure=>simp [intOf]; omega
    ·
     obtain rfl:k=i:=by omega
     have hst:=HST.out.more (Ext.then XW.out HON.out (fun x hx q=>by have:=HBB.out; omega))
     obtain ⟨a,n',c,a',n2,c',W2,h1,hap,h3,h4,h5⟩:=hst.add (b:=b) (by omega) (by have:=hbl; rw [rowK_all] at this; exact this)
     have HN:=hid h5
     clear hst h5 hbl hon
     go_wp2_with (first
      | (guard_target=wpList _ _ _ (⟨some _,Op.buildSlice _ _ _,_,_,_,none⟩::_) _ _; refine Zag rfl 159 38 _ rfl (rowE b k) _ _ 1 24 Tryz.underlying159 infoRow (by omega) (by omega) rfl rfl rfl ?_)
      | (at_builtin; refine wpList_append_run rfl _ _ _ rfl _ _ _ _ rfl rfl hap ?_))
     go_roundw
     case rel=>exact ⟨j+1,by go_num,by omega,HN.out⟩
     case measure=>simp [intOf]; omega
  ·
   obtain rfl:n=j:=by omega
   go_wp2
   go_ret2
   exact ⟨cb,rfl,HST.out.out (by omega) (by omega),HST.out.ext⟩
def OwnB (w:World) (b c:Nat) (l:List Nat):Prop:=w.ownsRow 0 5 1 (.slice (some ⟨b,0,none⟩) l.length c) l.length (l.map bv)
theorem OwnB.bytes {w:World} {b c:Nat} {l:List Nat} (h:OwnB w b c l) (hb:∀ x∈l,x < 256) (hs:l.length<=140737488355328):BytesAt w (some ⟨b,0,none⟩) l.length l:=owns_bytes h hb hs
theorem OwnB.only {w w':World} {b c:Nat} {l:List Nat} {F:Nat->Prop} (h:OwnB w b c l) (e:Only F w w') (hn:¬F b):OwnB w' b c l:=owns_only h e hn
theorem OwnB.ext {w w':World} {b c:Nat} {l:List Nat} (h:OwnB w b c l) (e:Ext w w'):OwnB w' b c l:=h.only e (fun x=>x)
theorem OwnB.lt {w:World} {b c:Nat} {l:List Nat} (h:OwnB w b c l):b < w.heap.size:=owns_lt h
theorem Blk.own {w:World} {b:Nat} {l:List Nat} (h:Blk w b l) (hs:l.length<=140737488355328):OwnB w b l.length l:=h.owns rfl hs
theorem CodeAt.at1 {w:World} {cb k n:Nat} (h:CodeAt w cb k n):∃ fb,w.cell? ⟨cb,1,none⟩=some (.pointer (some ⟨fb,0,none⟩))/\FieldAt w fb:=by
 obtain ⟨fb,g,c,h1,h2,h3⟩:=h.ex
 exact ⟨fb,Zaf h1,h2⟩
theorem CodeAt.at0 {w:World} {cb k n:Nat} (h:CodeAt w cb k n):w.cell? ⟨cb,0,none⟩=some (.int .i64 k):=by
 obtain ⟨fb,g,c,h1,h2,h3⟩:=h.ex
 exact Zaf h1
theorem CodeAt.at2 {w:World} {cb k n:Nat} (h:CodeAt w cb k n):∃ g c,w.cell? ⟨cb,2,none⟩=some (.slice (some ⟨g,0,none⟩) n c)/\RowsAt w g ((List.range n).map (Cd.row k)):=by
 obtain ⟨fb,g,c,h1,h2,h3⟩:=h.ex
 exact ⟨g,c,Zaf h1,h3⟩
def MixPost (w:World) (l:List Nat) (e:Ending) (w':World):Prop:=∃ b,e=.returned (.slice (some ⟨b,0,none⟩) l.length l.length)/\w.heap.size<=b/\OwnB w' b l.length l/\Ext w w'
theorem RowsAt.row {w:World} {g L:Nat} {ls:List (List Nat)} (h:RowsAt w g ls) (hlen:∀ j,j < ls.length->(Cd.B ls j).length=L) {j:Nat} (hj:j < ls.length):∃ b c,w.cell? ⟨g,j,none⟩=some (.slice (some ⟨b,0,none⟩) L c)/\BytesAt w (some ⟨b,0,none⟩) L (Cd.B ls j):=by
 have e:ls[j]?=some (Cd.B ls j):=by unfold Cd.B; rw [List.getD_eq_getElem?_getD,List.getElem?_eq_getElem hj]; rfl
 obtain ⟨b,c,h1,h2⟩:=h j _ e
 rw [hlen j hj] at h1 h2
 exact ⟨b,c,h1,h2⟩
theorem BytesAt.only0 {w w':World} {b n:Nat} {l:List Nat} (h:BytesAt w (some ⟨b,0,none⟩) n l) {F:Nat->Prop} (e:Only F w w') (hn:¬F b):BytesAt w' (some ⟨b,0,none⟩) n l:=by
 have hl:=h.len
 subst hl
 exact h.at0 e hn
theorem BytesAt.blt {w:World} {b n:Nat} {l:List Nat} (h:BytesAt w (some ⟨b,0,none⟩) n l) (hn:0 < n):b < w.heap.size:=by
 rcases h.cells with q | ⟨b',off,hb,hc⟩
 ·
  omega
 ·
  cases hb
  exact World.block_lt_of_cell? w _ (hc 0 hn)
attribute [local irreducible] wpSQ
set_option maxRecDepth 100000 in
set_option maxHeartbeats 2000000 in
theorem mix_c {w:World} {cb k n:Nat} (h:CodeAt w cb k n) (rb rc:Nat) (row:List Nat) (hr:BytesAt w (some ⟨rb,0,none⟩) row.length row) (g gc L:Nat) (ls:List (List Nat)) (hl:RowsAt w g ls) (hrow:row.length=ls.length) (h0:0 < ls.length) (h8:ls.length<=8) (hL0:0 < L) (hL:L<=200)
  (hlen:∀ j,j < ls.length->(Cd.B ls j).length=L) (hls:∀ j,∀ x∈Cd.B ls j,x < 256) :
  Calls Tryz.prog 207 #[.pointer (some ⟨cb,0,none⟩),.slice (some ⟨rb,0,none⟩) row.length rc,.slice (some ⟨g,0,none⟩) ls.length gc] w (MixPost w (Cd.mix row ls)):=by
 obtain ⟨fb,cp,hf⟩:=h.at1
 have HF:=hid hf
 have HCP:=hid cp
 have HR:=hid (fun j (hj:j < ls.length)=>hl.row hlen hj)
 obtain ⟨b0,c0,z0,_⟩:=HR.out 0 h0
 have HRW:=hid hr
 have HRB:=hid hr.byte
 have HML:=hid (fun j=>Cd.mixK_len row ls j)
 have HMB:=hid (fun j=>Cd.mixK_byte row ls j hr.byte hls)
 have HL0:=hid (hlen 0 h0)
 have HRO:=hid hrow
 have HMK:=hid (fun w=>(show Sem.run Tryz.prog (Instr.makeSlice 38 (.int .i64 L) (.int .i64 L)) w=.ok (.slice (some ⟨w.heap.size,0,none⟩) L L) (w.alloc (.cells (bA (List.replicate L 0)) 5)) from Zbs (L:Int) (by omega) (by omega) w))
 obtain ⟨W,hW⟩:∃ W,w.alloc (.cells (bA (List.replicate L 0)) 5)=W:=⟨_,rfl⟩
 obtain ⟨b,hb⟩:∃ b,w.heap.size=b:=⟨_,rfl⟩
 have hmk:=HMK.out w
 rw [hW,hb] at hmk
 have XW:=hid (show Ext w W from hW▸(Ext.refl w).alloc _)
 have B0:=hid (show OwnB W b L (Cd.mixK row ls 0) from by
  have:Blk W b (List.replicate L 0):=by rw [<- hW,<- hb]; exact Zad
  have e:Cd.mixK row ls 0=List.replicate L 0:=by show List.replicate (Cd.B ls 0).length 0=_; rw [HL0.out]
  rw [e]
  have:=this.own (by simp; omega)
  simpa using this)
 have HBB:=hid hb
 have HFW:=hid (hf.ext XW.out)
 have hfb:fb≠b:=by have:=lt_of_block hf; omega
 have hgb:g≠b:=by have:g < w.heap.size:=World.block_lt_of_cell? w _ z0; omega
 have hcb:cb≠b:=by have:cb < w.heap.size:=World.block_lt_of_cell? w _ cp; omega
 have HRBB:=hid (show rb≠b from by have:=hr.blt (by omega); omega)
 have cpW:=XW.out.cell cp
 have r8:row.length<=8:=by omega
 have hz00:(0:Int) < (ls.length:Int):=by omega
 clear h hf hr hl hlen hls hb hW cp hrow
 generalize hrn:row.length=rn at *
 generalize hln:ls.length=ln at *
 go_enter Tryz.func207,Tryz.ntmps207
 go_wp2
 clear z0 hmk
 go_loopw [17] (fun t wr=>∃ j:Nat,t=.int .i64 j/\j<=rn/\OwnB wr b L (Cd.mixK row ls j)/\Only (fun x=>x=b) W wr) (fun t _=>rn - (intOf t).toNat)
 case atStart=>exact ⟨0,rfl,by omega,B0.out,Only.refl _ _⟩
 case round =>
  clear B0
  obtain ⟨j,rfl,hj,hown,hon⟩:=hrel
  have HO:=hid hown
  have HON:=hid hon
  by_cases hlt:j < rn
  ·
   have hjn:j < ln:=by have:=HRO.out; omega
   obtain ⟨bj,cj,zj,hbj⟩:=HR.out j hjn
   have hbjb:bj≠b:=by have:=hbj.blt hL0; have:=HBB.out; omega
   have HBJ:=hid ((hbj.only0 XW.out (fun x=>x)).only0 hon hbjb)
   have j0:(0:Int)<=(j:Int):=by omega
   have j1:(j:Int) < (rn:Int):=by omega
   have j2:(j:Int) < (ln:Int):=by omega
   obtain ⟨x,hx⟩:∃ x,nth row j=x:=⟨_,rfl⟩
   have hx256:x < 256:=hx▸Zay HRB.out j
   have cr:wr.cell? ⟨rb,j,none⟩=some (.int .u8 x):=by
    have:=HRW.out.get j hlt
    rw [Nat.zero_add] at this
    rw [<- hx]
    exact hon.cell (XW.out.cell this) HRBB.out
   have xd:Ext wr wr.drew:=(Ext.refl wr).drew
   have c1:∀ y:SW (Only fun x=>x=b) wr.drew,y.w.cell? ⟨cb,1,none⟩=some (.pointer (some ⟨fb,0,none⟩)):=fun y=>y.ext.cell (xd.cell (hon.cell cpW (fun q=>hcb q))) hcb
   have c2:∀ y:SW (Only fun x=>x=b) wr.drew,y.w.cell? ⟨g,j,none⟩=some (.slice (some ⟨bj,0,none⟩) L cj):=fun y=>y.ext.cell (xd.cell (hon.cell (XW.out.cell zj) (fun q=>hgb q))) hgb
   have HX:=hid hx
   have HFR:=hid (show FieldAt wr fb from hon.at HFW.out hfb)
   have HMS:=hid (Cd.mixK_succ row ls j)
   clear hown hon hbj hx xd zj
   go_wp2_with fail
   refine Zau (E:=Ext) (S:=Only fun x=>x=b) (.one [0,1,2,3,4,5,6,7,8,9] 10 (.fin [])) (by kernel_rfl) (by kernel_rfl) (fun _ _ d _ _ h=>by cases d<;>exact h) ?_
   rw [wpS]
   simp only [opsAt,opA,opB,opC,opD,opE,opF,opG]
   iterate 10 ((refine Zaa (fun K hK=>?_); go_simp; refine hK _ ?_; clear hK K))
   refine Zac ?_
   intro V hV
   have hwV:Ext wr V:=Ext.trans (Ext.refl wr).drew hV
   have HOV:=hid (show V.ownsRow 0 5 1 (.slice (some ⟨b,0,none⟩) L L) L ((Cd.mixK row ls j).map bv) from by
    have:=HO.out.ext hwV
    unfold OwnB at this
    rw [HML.out j,HL0.out] at this
    exact this)
   have HFV:=hid (HFR.out.ext hwV)
   have HBV:=hid (HBJ.out.only0 hwV (fun x=>x))
   have HWV:=hid (Only.ext HON.out hwV)
   clear c1 c2 hV hwV
   refine Zat fun K hK=>?_
   go_wp2_with fail
   refine (add_c fb b L L bj 0 L cj (Cd.mixK row ls j) (Cd.B ls j) (x:Int) V HFV.out HOV.out (HMB.out j) (by omega) HBV.out (by omega) hfb hbjb).mono ?_
   rintro e w3 ⟨rfl,ho3,x3⟩
   have HO3:=hid (show OwnB w3 b L (Cd.mixK row ls (j+1)) from by
    unfold OwnB
    rw [HML.out (j+1),HL0.out,HMS.out,HX.out]
    rw [Int.toNat_natCast] at ho3
    exact ho3)
   have HW3:=hid (Only.trans HWV.out x3 (fun _ _ h=>h))
   have HX3:=hid x3
   clear ho3 x3
   go_wp2
   refine hK _ _ HX3.out ?_
   clear hK K
   rw [wpS]
   simp only [opsAt,opA,opB,opC,opD,opE,opF,opG]
   refine Zac ?_
   intro V2 hV2
   have HO4:=hid (HO3.out.ext hV2)
   have HW4:=hid (Only.ext HW3.out hV2)
   clear hV2
   go_wp2
   go_roundw
   case rel=>exact ⟨j+1,by go_num,by omega,HO4.out,HW4.out⟩
   case measure=>simp [intOf]; omega
  ·
   obtain rfl:rn=j:=by omega
   have HFIN:=hid (show Cd.mix row ls=Cd.mixK row ls rn by unfold Cd.mix; rw [hrn])
   have HLEN:=hid (show (Cd.mix row ls).length=L by rw [HFIN.out,HML.out,HL0.out])
   have HXX:=hid (Ext.then XW.out hon (fun i hi q=>by have:=HBB.out; omega))
   clear hown hon
   go_wp2
   go_ret
   refine ⟨b,?_,Nat.le_of_eq HBB.out,?_,HXX.out⟩
   ·
    rw [HLEN.out]; rfl
   ·
    rw [HLEN.out,HFIN.out]; exact HO.out
end Go.Proofs.YtgjnnbomnoafcaaGreatDoor
namespace Go.Proofs.YtgjnnbomnoafcaaGreatDoor
set_option linter.unusedVariables false
open Go Go.RowKit Gf
def scaleK (x:Nat) (l:List Nat) (k:Nat):List Nat:=(List.range l.length).map fun i=>if i < k then mul (nth l i) x else nth l i
theorem scaleK_len (x:Nat) (l:List Nat) (k:Nat):(scaleK x l k).length=l.length:=by simp [scaleK]
theorem scaleK_zero (x:Nat) (l:List Nat):scaleK x l 0=l:=by
 apply Zbq (by simp [scaleK])
 intro i hi
 have hi':i < l.length:=by simpa [scaleK] using hi
 rw [Za0 hi]; simp [scaleK]
theorem scaleK_all (x:Nat) (l:List Nat):scaleK x l l.length=Cd.scale x l:=by
 apply Zbq (by simp [scaleK,Cd.scale])
 intro i hi
 have hi':i < l.length:=by simpa [scaleK] using hi
 rw [Za0 hi,Cd.scale_nth]; simp [scaleK,hi']
theorem scaleK_bv (x:Nat) (l:List Nat) (k:Nat) (h:k < l.length):((scaleK x l k).map bv)[k]?=some (.int .u8 (nth l k)):=by
 rw [List.getElem?_map,List.getElem?_eq_getElem (by rw [scaleK_len]; exact h)]
 simp [scaleK,bv]
theorem scaleK_step (x:Nat) (l:List Nat) (k:Nat) (h:k < l.length):((scaleK x l k).map bv).set k (.int .u8 (mul (nth l k) x:Nat))=(scaleK x l (k+1)).map bv:=by
 have e:(Value.int .u8 (mul (nth l k) x:Nat))=bv (mul (nth l k) x):=rfl
 rw [e,<- List.map_set]
 congr 1
 apply Zbq (by simp [scaleK_len])
 intro i hi
 have hi':i < l.length:=by simpa [scaleK_len] using hi
 rw [Za0 hi,Za0 (l:=scaleK x l (k+1)) (by rw [scaleK_len]; exact hi'),List.getElem_set]
 simp only [scaleK,List.getElem_map,List.getElem_range]
 by_cases q:k=i
 ·
  subst q; rw [if_pos rfl,if_pos (by omega)]
 ·
  rw [if_neg q]
  by_cases h2:i < k
  ·
   rw [if_pos h2,if_pos (by omega)]
  ·
   rw [if_neg h2,if_neg (by omega)]
set_option maxRecDepth 100000 in
set_option maxHeartbeats 2000000 in
theorem scale_c {w:World} {cb fb:Nat} (hcp:w.cell? ⟨cb,1,none⟩=some (.pointer (some ⟨fb,0,none⟩))) (hf:FieldAt w fb) (ba ca bb cc:Nat) (la lb:List Nat) (ha:OwnB w ba ca la) (hb:OwnB w bb cc lb) (hn1:cb≠ba/\fb≠ba) (hn2:cb≠bb/\fb≠bb) (hne:ba≠bb)
  (hla:∀ y∈la,y < 256) (hlb:∀ y∈lb,y < 256) (hsa:la.length<=1000) (hsb:lb.length<=1000) (x:Nat) (hx:x < 256) :
  Calls Tryz.prog 208 #[.pointer (some ⟨cb,0,none⟩),.slice (some ⟨ba,0,none⟩) la.length ca,.slice (some ⟨bb,0,none⟩) lb.length cc,.int .u8 x] w
   fun e w'=>e=.returned (.tuple #[])/\OwnB w' ba ca (Cd.scale x la)/\OwnB w' bb cc (Cd.scale x lb)/\Only (fun y=>y=ba\/y=bb) w w':=by
 have HCP:=hid hcp; have HF:=hid hf; have HNla:=hid hn1; have HNlb:=hid hn2
 have HBla:=hid (Zay hla); have HBlb:=hid (Zay hlb)
 obtain ⟨lan,hlan⟩:∃ q,la.length=q:=⟨_,rfl⟩
 obtain ⟨lbn,hlbn⟩:∃ q,lb.length=q:=⟨_,rfl⟩
 have Lla:=hid hlan; have Llb:=hid hlbn
 have Hla:=hid (show w.ownsRow 0 5 1 (.slice (some ⟨ba,0,none⟩) lan ca) lan (la.map bv) from hlan▸ha)
 have Hlb0:=hid (show w.ownsRow 0 5 1 (.slice (some ⟨bb,0,none⟩) lbn cc) lbn (lb.map bv) from hlbn▸hb)
 rw [hlan,hlbn]
 rw [hlan] at hsa
 rw [hlbn] at hsb
 clear hcp hf hn1 hn2 hla hlb hlan hlbn ha hb
 go_enter Tryz.func208,Tryz.ntmps208
 go_wp2
 go_loopw [12] (fun t wr=>∃ j:Nat,t=.int .i64 j/\j<=lan/\wr.ownsRow 0 5 1 (.slice (some ⟨ba,0,none⟩) lan ca) lan ((scaleK x la j).map bv)/\Only (fun y=>y=ba) w wr) (fun t _=>lan - (intOf t).toNat)
 case atStart=>exact ⟨0,rfl,by omega,by rw [scaleK_zero]; exact Hla.out,Only.refl _ _⟩
 case round =>
  obtain ⟨j,rfl,hj,hown,hon⟩:=hrel
  by_cases hlt:j < lan
  ·
   have c1:wr.cell? ⟨ba,j,none⟩=some (.int .u8 (nth la j)):=by
    rw [hown.cellAt j (by omega)]; exact scaleK_bv x la j (by rw [Lla.out]; omega)
   have f1:wr.frozen? ⟨ba,j,none⟩=false:=hown.frozenAt j
   have hfc:wr.cell? ⟨cb,1,none⟩=some (.pointer (some ⟨fb,0,none⟩)):=hon.cell (HCP.out) HNla.out.1
   have hf:FieldAt wr fb:=hon.at HF.out HNla.out.2
   have HO:=hid hown; have HON:=hid hon; have HFR:=hid hf
   have j0:(0:Int)<=(j:Int):=by omega
   have j1:(j:Int) < (lan:Int):=by omega
   have b1:=HBla.out j
   clear hown hon hf
   obtain ⟨y,hy⟩:∃ y,nth la j=y:=⟨_,rfl⟩
   rw [hy] at c1 b1
   have HY:=hid hy.symm
   clear hy
   go_wp2
   refine Zaw 13 (by kernel_rfl) (by kernel_rfl) ?_
   simp only [List.take_succ_cons,List.take_zero,List.drop_succ_cons,List.drop_zero]
   repeat (go_big_quiet_step ((go_at_call 214; refine Calls.quiet_of (mul_q fb (y:Int) (x:Int) _ ?_ (by omega) (by omega)); exact HFR.out)))
   refine wpQuiet_nil ?_
   intro _ hw'
   obtain ⟨nq,hw''⟩:=hw'
   subst hw''
   go_wp2
   go_roundw
   case rel =>
    have ho:(wr.drewN nq).ownsRow 0 5 1 (.slice (some ⟨ba,0,none⟩) lan ca) lan ((scaleK x la j).map bv):=HO.out
    refine ⟨j+1,by go_num,by omega,?_,(HON.out.drewN nq).setCell (.inr rfl) _⟩
    rw [HY.out,<- scaleK_step x la j (by rw [Lla.out]; omega)]
    exact (ho.stored j _).1
   case measure=>simp [intOf]; omega
  ·
   obtain rfl:lan=j:=by omega
   have HA1:=hid (show OwnB wr ba ca (Cd.scale x la) from by
    unfold OwnB
    have:=hown
    rw [show lan=la.length from Lla.out.symm,scaleK_all] at this
    rw [Cd.scale_len]; exact this)
   have HOA:=hid hon
   have HCP2:=hid (hon.cell HCP.out HNla.out.1)
   have HF2:=hid (hon.at HF.out HNla.out.2)
   have Hlb:=hid (show wr.ownsRow 0 5 1 (.slice (some ⟨bb,0,none⟩) lbn cc) lbn (lb.map bv) from owns_only Hlb0.out hon (fun e=>hne e.symm))
   clear hown hon Hla Hlb0
   go_wp2
   obtain ⟨W1,hW1⟩:∃ W,W=wr:=⟨_,rfl⟩
   subst hW1
   go_loopw [31] (fun t wr=>∃ j:Nat,t=.int .i64 j/\j<=lbn/\wr.ownsRow 0 5 1 (.slice (some ⟨bb,0,none⟩) lbn cc) lbn ((scaleK x lb j).map bv)/\Only (fun y=>y=bb) W1 wr) (fun t _=>lbn - (intOf t).toNat)
   case atStart=>exact ⟨0,rfl,by omega,by rw [scaleK_zero]; exact Hlb.out,Only.refl _ _⟩
   case round =>
    obtain ⟨j,rfl,hj,hown,hon⟩:=hrel
    by_cases hlt:j < lbn
    ·
     have c1:wr.cell? ⟨bb,j,none⟩=some (.int .u8 (nth lb j)):=by
      rw [hown.cellAt j (by omega)]; exact scaleK_bv x lb j (by rw [Llb.out]; omega)
     have f1:wr.frozen? ⟨bb,j,none⟩=false:=hown.frozenAt j
     have hfc:wr.cell? ⟨cb,1,none⟩=some (.pointer (some ⟨fb,0,none⟩)):=hon.cell (HCP2.out) HNlb.out.1
     have hf:FieldAt wr fb:=hon.at HF2.out HNlb.out.2
     have HO:=hid hown; have HON:=hid hon; have HFR:=hid hf
     have j0:(0:Int)<=(j:Int):=by omega
     have j1:(j:Int) < (lbn:Int):=by omega
     have b1:=HBlb.out j
     clear hown hon hf
     obtain ⟨y,hy⟩:∃ y,nth lb j=y:=⟨_,rfl⟩
     rw [hy] at c1 b1
     have HY:=hid hy.symm
     clear hy
     go_wp2
     refine Zaw 13 (by kernel_rfl) (by kernel_rfl) ?_
     simp only [List.take_succ_cons,List.take_zero,List.drop_succ_cons,List.drop_zero]
     repeat (go_big_quiet_step ((go_at_call 214; refine Calls.quiet_of (mul_q fb (y:Int) (x:Int) _ ?_ (by omega) (by omega)); exact HFR.out)))
     refine wpQuiet_nil ?_
     intro _ hw'
     obtain ⟨nq,hw''⟩:=hw'
     subst hw''
     go_wp2
     go_roundw
     case rel =>
      have ho:(wr.drewN nq).ownsRow 0 5 1 (.slice (some ⟨bb,0,none⟩) lbn cc) lbn ((scaleK x lb j).map bv):=HO.out
      refine ⟨j+1,by go_num,by omega,?_,(HON.out.drewN nq).setCell (.inr rfl) _⟩
      rw [HY.out,<- scaleK_step x lb j (by rw [Llb.out]; omega)]
      exact (ho.stored j _).1
     case measure=>simp [intOf]; omega
    ·
     obtain rfl:lbn=j:=by omega
     have HA2:=hid (show OwnB wr ba ca (Cd.scale x la) from by
      have:=HA1.out.only hon hne
      exact this)
     have HB2:=hid (show OwnB wr bb cc (Cd.scale x lb) from by
      unfold OwnB
      have e:(Cd.scale x lb).length=lbn:=by rw [Cd.scale_len,Llb.out]
      have:=hown
      rw [show lbn=lb.length from Llb.out.symm,scaleK_all] at this
      rw [Cd.scale_len]; exact this)
     have HO2:=hid (Only.trans (HOA.out.mono (G:=fun y=>y=ba\/y=bb) (fun _ _ e=>.inl e)) (hon.mono (G:=fun y=>y=ba\/y=bb) (fun _ _ e=>.inr e)) (fun _ _ e=>e))
     clear hown hon
     go_wp2
     go_end0
     exact ⟨rfl,HA2.out,HB2.out,HO2.out⟩
def LensAt (w:World) (g n L:Nat):Prop:=∀ i,i < n->∃ b c,w.cell? ⟨g,i,none⟩=some (.slice (some ⟨b,0,none⟩) L c)
theorem LensAt.ext {w w':World} {g n L:Nat} (h:LensAt w g n L) (e:Ext w w'):LensAt w' g n L:=fun i hi=>by
 obtain ⟨b,c,q⟩:=h i hi
 exact ⟨b,c,e.cell q⟩
theorem encfn_c {w:World} {bx g n gc L:Nat} (hb:w.cell? ⟨bx,0,none⟩=some (.slice (some ⟨g,0,none⟩) n gc)) (hn:0 < n) (hl:LensAt w g n L) (a:Option Addr) (c:Nat) :
  Calls Tryz.prog 206 #[.slice a L c,.pointer (some ⟨bx,0,none⟩)] w fun e w'=>e=.returned (.bool false)/\Ext w w':=by
 obtain ⟨b0,c0,h0⟩:=hl 0 hn
 have hn0:(0:Int) < (n:Int):=by omega
 clear hl
 go_enter Tryz.func206,Tryz.ntmps206
 go_wp2
 go_ret
 refine ⟨?_,Ext.refl _⟩
 first | rfl | simp
set_option maxRecDepth 100000 in
theorem indexfn_c {w:World} {bx g n gc L:Nat} (hb:w.cell? ⟨bx,0,none⟩=some (.slice (some ⟨g,0,none⟩) n gc)) (hn:0 < n) (hn8:n<=8) (hl:LensAt w g n L) :
  Calls Tryz.prog 213 #[.slice (some ⟨g,0,none⟩) n gc,.func (.func 206) #[] #[.pointer (some ⟨bx,0,none⟩)]] w fun e w'=>e=.returned (.int .i64 (-1))/\Ext w w':=by
 have HB:=hid hb
 have HL:=hid hl
 clear hb hl
 go_enter Tryz.func213,Tryz.ntmps213
 go_wp2
 go_loopw [8] (fun t wr=>∃ j:Nat,t=.int .i64 j/\j<=n/\Ext w wr) (fun t _=>n - (intOf t).toNat)
 case atStart=>exact ⟨0,rfl,by omega,Ext.refl _⟩
 case round =>
  obtain ⟨j,rfl,hj,hx⟩:=hrel
  have HX:=hid hx
  clear hx
  by_cases hjn:j < n
  ·
   obtain ⟨b,c,z⟩:=(HL.out.ext HX.out) j hjn
   have j0:(0:Int)<=(j:Int):=by omega
   have j1:(j:Int) < (n:Int):=by omega
   go_wp2_with fail
   refine (encfn_c (HX.out.cell HB.out) hn (HL.out.ext HX.out) (some ⟨b,0,none⟩) c).mono ?_
   rintro e w2 ⟨rfl,x2⟩
   have HX2:=hid (Ext.trans HX.out x2)
   clear x2 z
   go_wp2
   go_roundw
   case rel=>exact ⟨j+1,by go_num,by omega,HX2.out⟩
   case measure=>simp [intOf]; omega
  ·
   obtain rfl:n=j:=by omega
   go_wp2
   go_ret
   exact ⟨rfl,HX.out⟩
theorem containsfn_c {w:World} {bx g n gc L:Nat} (hb:w.cell? ⟨bx,0,none⟩=some (.slice (some ⟨g,0,none⟩) n gc)) (hn:0 < n) (hn8:n<=8) (hl:LensAt w g n L) :
  Calls Tryz.prog 205 #[.slice (some ⟨g,0,none⟩) n gc,.func (.func 206) #[] #[.pointer (some ⟨bx,0,none⟩)]] w fun e w'=>e=.returned (.bool false)/\Ext w w':=by
 go_enter Tryz.func205,Tryz.ntmps205
 go_wp2_with fail
 refine (indexfn_c hb hn hn8 hl).mono ?_
 rintro e w2 ⟨rfl,x2⟩
 have HX2:=hid x2
 clear x2
 go_wp2
 go_ret
 exact ⟨rfl,HX2.out⟩
set_option linter.unusedSectionVars false
open Go
section
variable {P:Program} {ops:Array Oper} {Q:Exit->Act->World->Prop} {md:Region.Mode} {E S:World->World->Prop} [hE:Pre E] [hS:Pre S] [hES:Within2 E S] {ld:Nat->Bool}
def relOf (E S:World->World->Prop) (ld:Nat->Bool) (i:Nat) (a b:World):Prop:=if ld i=true then S a b else E a b
theorem relOf_calm {i:Nat} {a b:World} (h:E a b):relOf E S ld i a b:=by
 unfold relOf
 split
 ·
  exact hES.sub h
 ·
  exact h
theorem relOf_sub {i:Nat} {a b:World} (h:relOf E S ld i a b):S a b:=by
 unfold relOf at h
 split at h
 ·
  exact h
 ·
  exact hES.sub h
def rAny (E S:World->World->Prop) (ld:Nat->Bool) (P:Program) (md:Region.Mode) (ops:Array Oper) (Q:Exit->Act->World->Prop) (n:Nat) (L:Array Bool->Act->World->Prop):Nat->Array Bool->Act->World->Prop
 | 0,listed,a,w=>L listed a w
 | f+1,listed,a,w=>Region.ready md ops listed≠[]/\∀ i∈Region.ready md ops listed,i < n ∧
   ∀ w',E w w'->wpOp P ops Q i (fun a'' w''=>relOf E S ld i w' w''/\rAny E S ld P md ops Q n L f (listed.setIfInBounds i true) a'' w'') a w'
theorem rAny_wp {n g:Nat} {L:Array Bool->Act->World->Prop} (hL:∀ listed a w,L listed a w->wpAny P md ops Q g listed a w) :
  ∀ (f:Nat) (listed:Array Bool) (a:Act) (w:World),rAny E S ld P md ops Q n L f listed a w->wpAny P md ops Q (f+g) listed a w
 | 0,listed,a,w,h=>by rw [Nat.zero_add]; exact hL _ _ _ h
 | f+1,listed,a,w,h=>by
  rw [show f+1+g=(f+g)+1 by omega]
  exact ⟨fun h0=>absurd h0 h.1,fun i hi=>wpOp_mono (fun a' w' h'=>rAny_wp hL f _ a' w' h'.2) ((h.2 i hi).2 w (hE.refl w))⟩
theorem rAny_ext {n:Nat} {L:Array Bool->Act->World->Prop} (hL:∀ listed a w w',E w w'->L listed a w->L listed a w') :
  ∀ (f:Nat) (listed:Array Bool) (a:Act) (w w':World),E w w'->rAny E S ld P md ops Q n L f listed a w->rAny E S ld P md ops Q n L f listed a w'
 | 0,listed,a,w,w',e,h=>hL _ _ _ _ e h
 | f+1,listed,a,w,w',e,h=>⟨h.1,fun i hi=>⟨(h.2 i hi).1,fun w2 e2=>(h.2 i hi).2 w2 (hE.trans e e2)⟩⟩
theorem rAny_first {T:World->World->Prop} [hTp:Pre T] [hET:Within2 E T] {n i:Nat} {oi:Oper} {v:Value} {L:Array Bool->Act->World->Prop} (hi:ops[i]?=some oi) (hsel:∀ (j:Nat) (o:Oper) cs b,ops[j]?=some o->o.op≠.select cs b)
  (hQ:∀ c (a:Act) d v w,Q (.panic c) (a.put d v) w->Q (.panic c) a w)
  (hwait:∀ listed,HeadInv md ops n listed->listed.getD i true=false->∀ j∈Region.ready md ops listed,j < n) (hin:i < n)
  (hL:∀ listed a w w',E w w'->L listed a w->L listed a w')
  (hdone:∀ listed a w,L listed a w->∀ j∈Region.ready md ops listed,n<=j)
  (hT:∀ j oj,ops[j]?=some oj->j≠i->(∀ e∈oj.after,Region.binds md e=true->e.on≠i)->∀ a b,relOf E S ld j a b->T a b) :
  ∀ (f:Nat) (listed:Array Bool) (a:Act) (w:World),HeadInv md ops n listed ->
   (∀ j oj,ops[j]?=some oj->j≠i->listed.getD j true=false->(∀ e∈oj.after,Region.binds md e=true->e.on≠i)->oi.apart ops oj=true) ->
   i∈Region.ready md ops listed->YieldsS E T P ops w oi v a ->
   rAny E S ld P md ops Q n L f (listed.setIfInBounds i true) (a.put oi.dst v) w->rAny E S ld P md ops Q n L (f+1) listed a w:=by
 intro f
 induction f with
 | zero =>
  intro listed a w inv _ hr hy H
  have hun:=(mem_ready.1 hr).1
  refine ⟨fun h=>(by rw [h] at hr; cases hr),fun j hj=>⟨hwait _ inv hun j hj,fun w' hw'=>?_⟩⟩
  by_cases hji:j=i
  ·
   subst hji; exact hy.wpOp hi (hET.sub hw') fun w'' e=>⟨relOf_calm e,hL _ _ _ _ (hE.trans hw' e) H⟩
  ·
   have h1:=hdone _ _ _ H j (ready_mono hj hji)
   have h2:=hwait _ inv hun j hj
   omega
 | succ f ih =>
  intro listed a w inv hfree hr hy H
  have hun:=(mem_ready.1 hr).1
  refine ⟨fun h=>(by rw [h] at hr; cases hr),fun j hj=>⟨hwait _ inv hun j hj,fun w' hw'=>?_⟩⟩
  have hjn:=hwait _ inv hun j hj
  by_cases hji:j=i
  ·
   subst hji; exact hy.wpOp hi (hET.sub hw') fun w'' e=>⟨relOf_calm e,rAny_ext hL _ _ _ _ _ (hE.trans hw' e) H⟩
  ·
   have h1:=(H.2 j (ready_mono hj hji)).2 w' hw'
   obtain ⟨hjun,oj,hoj,hall⟩:=mem_ready.1 hj
   have hnot:∀ e∈oj.after,Region.binds md e=true->e.on≠i:=fun e he hb heq=>by
    have h1:=hall e he hb
    rw [heq,getD_both hun] at h1
    cases h1
   have h2:=wpOp_putS (S:=T) hoj (hfree j oj hoj hji hjun hnot) (fun cs b=>hsel i oi cs b hi) (fun cs b=>hsel j oj cs b hoj) (fun c a w h=>hQ c _ _ _ w h) hy h1
   have hfree':∀ k ok,ops[k]?=some ok->k≠i->(listed.setIfInBounds j true).getD k true=false ->
     (∀ e∈ok.after,Region.binds md e=true->e.on≠i)->oi.apart ops ok=true:=fun k ok hk hki hun hno=>by
    refine hfree k ok hk hki ?_ hno
    by_cases hjk:j=k
    ·
     subst hjk; exact hjun
    ·
     rw [getD_set_ne true hjk] at hun; exact hun
   refine wpOp_mono (fun a' w'' h3=>⟨h3.2.1,ih (listed.setIfInBounds j true) a' w'' (inv.set hj hjn) hfree' (ready_mono hr (Ne.symm hji)) (h3.1.mono (hTp.trans (hET.sub hw') (hT j oj hoj hji hnot _ _ h3.2.1))) ?_⟩) h2
   rw [Array.setIfInBounds_comm _ _ hji]
   exact h3.2.2
def strongB (md:Region.Mode) (ops:Array Oper) (ld:Nat->Bool) (i:Nat):Bool:=(List.range ops.size).all fun j=>j == i || !ld j || ((ops[j]?).map fun o=>o.after.any fun e=>e.on == i && Region.binds md e).getD false
theorem strongB_spec {i:Nat} (h:strongB md ops ld i=true):∀ j oj,ops[j]?=some oj->j≠i->(∀ e∈oj.after,Region.binds md e=true->e.on≠i)->∀ a b,relOf E S ld j a b->E a b:=by
 intro j oj hj hne hno a b hr
 unfold strongB at h
 have hlt:j < ops.size:=(Array.getElem?_eq_some_iff.1 hj).1
 have h1:=List.all_eq_true.1 h j (List.mem_range.2 hlt)
 simp only [Bool.or_eq_true,beq_iff_eq,Bool.not_eq_true',hj,Option.map_some,Option.getD_some] at h1
 rcases h1 with (h1 | h1) | h1
 ·
  exact absurd h1 hne
 ·
  unfold relOf at hr
  rw [if_neg (by rw [h1]; simp)] at hr
  exact hr
 ·
  obtain ⟨e,he,h2⟩:=Array.any_eq_true'.1 h1
  simp only [Bool.and_eq_true,beq_iff_eq] at h2
  exact absurd h2.1 (hno e he h2.2)
inductive UTree where
 | fin (ps:List Nat)
 | one (ps:List Nat) (i:Nat) (k:UTree)
def wpU (E S:World->World->Prop) (P:Program) (ops:Array Oper) (Q:Exit->Act->World->Prop) (T:Act->World->Prop):UTree->Act->World->Prop
 | .fin ps,a,w=>wpSQ E S P ops w (fun a'=>∀ w',E w w'->T a' w') (opsAt ops ps) a
 | .one ps i k,a,w=>wpSQ E S P ops w (fun a'=>∀ w',E w w'->wpList P ops (Exit.then (fun a'' w''=>S w' w''/\wpU E S P ops Q T k a'' w'') Q) [ops.getD i default] a' w') (opsAt ops ps) a
theorem Zbt {a:Act} {w':World} {o:Oper} {k:UTree} {T:Act->World->Prop}
  (h:∀ K:Act->World->Prop,(∀ a w,S w' w->wpU E S P ops Q T k a w->K a w)->wpList P ops (Exit.then K Q) [o] a w'):wpList P ops (Exit.then (fun a'' w''=>S w' w''/\wpU E S P ops Q T k a'' w'') Q) [o] a w' :=
 h _ (fun _ _ h1 h2=>⟨h1,h2⟩)
def uB (md:Region.Mode) (ops:Array Oper) (ld:Nat->Bool) (n:Nat) (g:Array Bool->Bool):UTree->Array Bool->Bool
 | .fin ps,listed=>mixPureB md ops g ps listed && ps.all (decide <| · < n)
 | .one ps i k,listed=>mixPureB md ops (fun l=>decide (Region.ready md ops l=[i]) && uB md ops ld n g k (l.setIfInBounds i true)) ps listed && ps.all (decide <| · < n) && decide (i < n) && ld i
def uLen:UTree->Nat
 | .fin ps=>ps.length
 | .one ps _ k=>ps.length+(uLen k+1)
theorem u_pure {n:Nat} {L:Array Bool->Act->World->Prop} (hs:Region.noSelect ops=true) (hQ:∀ c (a:Act) d v w,Q (.panic c) (a.put d v) w->Q (.panic c) a w)
  (hwait:∀ i,i < n->∀ listed,HeadInv md ops n listed->listed.getD i true=false->∀ j∈Region.ready md ops listed,j < n)
  (hL:∀ listed a w w',E w w'->L listed a w->L listed a w') (hdone:∀ listed a w,L listed a w->∀ j∈Region.ready md ops listed,n<=j)
  {k:Array Bool->Bool} {K:Act->Prop} {w:World} {f:Nat} (hK:∀ listed a,HeadInv md ops n listed->k listed=true->K a->rAny E S ld P md ops Q n L f listed a w) :
  ∀ (σ:List Nat) (listed:Array Bool) (a:Act),HeadInv md ops n listed->mixPureB md ops k σ listed=true->σ.all (decide <| · < n)=true->wpSQ E S P ops w K (opsAt ops σ) a->rAny E S ld P md ops Q n L (σ.length+f) listed a w
 | [],listed,a,inv,hB,_,h=>by rw [List.length_nil,Nat.zero_add]; exact hK listed a inv hB h
 | i::σ,listed,a,inv,hB,hn,h=>by
  simp only [mixPureB,Bool.and_eq_true] at hB
  obtain ⟨⟨hr,hf⟩,hB'⟩:=hB
  simp only [List.all_cons,Bool.and_eq_true,decide_eq_true_eq] at hn
  have hr':i∈Region.ready md ops listed:=by simpa using hr
  have hi:=Za7 hr'
  have h:if Region.wanted (ops.getD i default) (yielded ops a.tmps) then ∃ v,(∀ x:SW S w,(ops.getD i default).quietAt P a (E x.w) x.w v)/\wpSQ E S P ops w K (opsAt ops σ) (a.put (ops.getD i default).dst v) else wpSQ E S P ops w K (opsAt ops σ) (a.put (ops.getD i default).dst undef):=h
  rw [show (i::σ).length+f=(σ.length+f)+1 by simp; omega]
  by_cases hw:Region.wanted (ops.getD i default) (yielded ops a.tmps)=true
  ·
   rw [if_pos hw] at h
   obtain ⟨v,hv,h2⟩:=h
   exact rAny_first (T:=S) hi (Region.noSelect_spec hs) hQ (hwait i hn.1) hn.1 hL hdone (fun _ _ _ _ _ _ _ h=>relOf_sub h) _ listed a w inv (Region.free_spec hi hf) hr' (.inl ⟨hw,fun w' hw'=>hv ⟨w',hw'⟩⟩)
    (u_pure hs hQ hwait hL hdone hK σ _ _ (inv.set hr' hn.1) hB' hn.2 h2)
  ·
   rw [if_neg hw] at h
   exact rAny_first (T:=S) hi (Region.noSelect_spec hs) hQ (hwait i hn.1) hn.1 hL hdone (fun _ _ _ _ _ _ _ h=>relOf_sub h) _ listed a w inv (Region.free_spec hi hf) hr' (.inr ⟨by simpa using hw,rfl⟩)
    (u_pure hs hQ hwait hL hdone hK σ _ _ (inv.set hr' hn.1) hB' hn.2 h)
theorem u_strong {n:Nat} {L:Array Bool->Act->World->Prop} (hs:Region.noSelect ops=true) (hQ:∀ c (a:Act) d v w,Q (.panic c) (a.put d v) w->Q (.panic c) a w)
  (hwait:∀ i,i < n->∀ listed,HeadInv md ops n listed->listed.getD i true=false->∀ j∈Region.ready md ops listed,j < n)
  (hL:∀ listed a w w',E w w'->L listed a w->L listed a w') (hdone:∀ listed a w,L listed a w->∀ j∈Region.ready md ops listed,n<=j)
  {k:Array Bool->Bool} {K:Act->Prop} {w:World} {f:Nat} (hK:∀ listed a,HeadInv md ops n listed->k listed=true->K a->rAny E S ld P md ops Q n L f listed a w) :
  ∀ (σ:List Nat) (listed:Array Bool) (a:Act),HeadInv md ops n listed->mixPureB md ops k σ listed=true->σ.all (decide <| · < n)=true->σ.all (strongB md ops ld)=true->wpSQ E E P ops w K (opsAt ops σ) a->rAny E S ld P md ops Q n L (σ.length+f) listed a w
 | [],listed,a,inv,hB,_,_,h=>by rw [List.length_nil,Nat.zero_add]; exact hK listed a inv hB h
 | i::σ,listed,a,inv,hB,hn,hst,h=>by
  simp only [mixPureB,Bool.and_eq_true] at hB
  obtain ⟨⟨hr,hf⟩,hB'⟩:=hB
  simp only [List.all_cons,Bool.and_eq_true,decide_eq_true_eq] at hn
  simp only [List.all_cons,Bool.and_eq_true] at hst
  have hr':i∈Region.ready md ops listed:=by simpa using hr
  have hi:=Za7 hr'
  have h:if Region.wanted (ops.getD i default) (yielded ops a.tmps) then ∃ v,(∀ x:SW E w,(ops.getD i default).quietAt P a (E x.w) x.w v)/\wpSQ E E P ops w K (opsAt ops σ) (a.put (ops.getD i default).dst v) else wpSQ E E P ops w K (opsAt ops σ) (a.put (ops.getD i default).dst undef):=h
  rw [show (i::σ).length+f=(σ.length+f)+1 by simp; omega]
  by_cases hw:Region.wanted (ops.getD i default) (yielded ops a.tmps)=true
  ·
   rw [if_pos hw] at h
   obtain ⟨v,hv,h2⟩:=h
   exact rAny_first (T:=E) hi (Region.noSelect_spec hs) hQ (hwait i hn.1) hn.1 hL hdone (strongB_spec hst.1) _ listed a w inv (Region.free_spec hi hf) hr' (.inl ⟨hw,fun w' hw'=>hv ⟨w',hw'⟩⟩)
    (u_strong hs hQ hwait hL hdone hK σ _ _ (inv.set hr' hn.1) hB' hn.2 hst.2 h2)
  ·
   rw [if_neg hw] at h
   exact rAny_first (T:=E) hi (Region.noSelect_spec hs) hQ (hwait i hn.1) hn.1 hL hdone (strongB_spec hst.1) _ listed a w inv (Region.free_spec hi hf) hr' (.inr ⟨by simpa using hw,rfl⟩)
    (u_strong hs hQ hwait hL hdone hK σ _ _ (inv.set hr' hn.1) hB' hn.2 hst.2 h)
theorem u_any {n:Nat} {g:Array Bool->Bool} {T:Act->World->Prop} (hs:Region.noSelect ops=true) (hQ:∀ c (a:Act) d v w,Q (.panic c) (a.put d v) w->Q (.panic c) a w)
  (hwait:∀ i,i < n->∀ listed,HeadInv md ops n listed->listed.getD i true=false->∀ j∈Region.ready md ops listed,j < n)
  (hdone:∀ listed,g listed=true->∀ j∈Region.ready md ops listed,n<=j):∀ (t:UTree) (listed:Array Bool) (a:Act) (w:World),HeadInv md ops n listed ->
  uB md ops ld n g t listed=true->wpU E S P ops Q T t a w->rAny E S ld P md ops Q n (fun l a w=>g l=true/\∀ w',E w w'->T a w') (uLen t) listed a w
 | .fin ps,listed,a,w,inv,hB,h=>by
  simp only [uB,Bool.and_eq_true] at hB
  exact u_pure (f:=0) (k:=g) (K:=fun a'=>∀ w',E w w'->T a' w') hs hQ hwait (fun _ _ _ _ e h=>⟨h.1,fun w' e'=>h.2 w' (hE.trans e e')⟩) (fun l a w h=>hdone l h.1) (fun l a _ hg hk=>by unfold rAny; exact ⟨hg,hk⟩) ps listed a inv hB.1 hB.2 h
 | .one ps i k,listed,a,w,inv,hB,h=>by
  simp only [uB,Bool.and_eq_true,decide_eq_true_eq] at hB
  refine u_pure (f:=uLen k+1) hs hQ hwait (fun _ _ _ _ e h=>⟨h.1,fun w' e'=>h.2 w' (hE.trans e e')⟩) (fun l a w h=>hdone l h.1) ?_ ps listed a inv hB.1.1.1 hB.1.1.2 h
  intro l a inv hl hk
  simp only [Bool.and_eq_true,decide_eq_true_eq] at hl
  obtain ⟨hr,hB'⟩:=hl
  refine ⟨by rw [hr]; simp,fun j hj=>?_⟩
  rw [hr] at hj
  obtain rfl:j=i:=by simpa using hj
  have hj':j∈Region.ready md ops l:=by rw [hr]; simp
  exact ⟨hB.1.2,fun w' hw'=>loudS hj' (fun a' w'' h'=>⟨by unfold relOf; rw [if_pos hB.2]; exact h'.1,u_any hs hQ hwait hdone k _ a' w'' (inv.set hj' hB.1.2) hB' h'.2⟩) (hk w' hw')⟩
theorem Zbp {id:Nat} {a:Act} {w:World} {l:List Oper} (ld:Nat->Bool) (ps0 ps:List Nat) (t:UTree) (hm:P.follows .mixedOrders=true)
  (hB:(Region.noSelect l.toArray && decide (ps0.length+(ps.length+uLen t)=l.toArray.size) && ps0.all (decide <| · < l.toArray.size) && ps.all (decide <| · < l.toArray.size) && ps.all (strongB .any l.toArray ld) &&
   mixPureB .any l.toArray (fun x=>mixPureB .any l.toArray (fun x=>uB .any l.toArray ld l.toArray.size (fun x=>(Region.ready .any l.toArray x).isEmpty) t x) ps x) ps0 (Array.replicate l.toArray.size false))=true)
  (hQ:∀ c (a:Act) d v w,Q (.panic c) (a.put d v) w->Q (.panic c) a w)
  (h:wpSQ E S P l.toArray w.drew (fun a0=>wpSQ E E P l.toArray w.drew (fun a'=>∀ w',E w.drew w'->wpU E S P l.toArray Q (fun a w=>Q .normal a w) t a' w') (opsAt l.toArray ps) a0) (opsAt l.toArray ps0) a):(Code.region id l.toArray true).wp P Q a w:=by
 simp only [Bool.and_eq_true,decide_eq_true_eq] at hB
 obtain ⟨⟨⟨⟨⟨h1,hN⟩,h0⟩,h2⟩,h3⟩,hB⟩:=hB
 refine wp_region_any hm ?_
 have hw0:∀ i,i < l.toArray.size->∀ listed,HeadInv .any l.toArray l.toArray.size listed->listed.getD i true=false->∀ j∈Region.ready .any l.toArray listed,j < l.toArray.size:=fun i hi listed inv hun j hj=>by
  obtain ⟨_,o,ho,_⟩:=mem_ready.1 hj
  exact (Array.getElem?_eq_some_iff.1 ho).1
 have hdone:∀ listed,(Region.ready .any l.toArray listed).isEmpty=true->∀ j∈Region.ready .any l.toArray listed,l.toArray.size<=j:=fun listed hg j hj=>by
  have:Region.ready .any l.toArray listed=[]:=by simpa using hg
  rw [this] at hj; cases hj
 have H:=u_pure (P:=P) (Q:=Q) (md:=.any) (E:=E) (S:=S) (ld:=ld) (n:=l.toArray.size) (f:=ps.length+uLen t) (L:=fun x a w=>(Region.ready .any l.toArray x).isEmpty=true/\∀ w',E w w'->Q .normal a w')
  (k:=fun x=>mixPureB .any l.toArray (fun x=>uB .any l.toArray ld l.toArray.size (fun x=>(Region.ready .any l.toArray x).isEmpty) t x) ps x)
  (K:=fun a0=>wpSQ E E P l.toArray w.drew (fun a'=>∀ w',E w.drew w'->wpU E S P l.toArray Q (fun a w=>Q .normal a w) t a' w') (opsAt l.toArray ps) a0) h1 hQ hw0 (fun _ _ _ _ e h=>⟨h.1,fun w' e'=>h.2 w' (hE.trans e e')⟩) (fun l a w h=>hdone l h.1)
  (fun listed a inv hg hk=>u_strong (P:=P) (Q:=Q) (md:=.any) (E:=E) (S:=S) (ld:=ld) (n:=l.toArray.size) (f:=uLen t) (L:=fun x a w=>(Region.ready .any l.toArray x).isEmpty=true/\∀ w',E w w'->Q .normal a w')
   (K:=fun a'=>∀ w',E w.drew w'->wpU E S P l.toArray Q (fun a w=>Q .normal a w) t a' w') h1 hQ hw0 (fun _ _ _ _ e h=>⟨h.1,fun w' e'=>h.2 w' (hE.trans e e')⟩) (fun l a w h=>hdone l h.1)
   (fun listed a inv hg hk=>u_any h1 hQ hw0 hdone t listed a w.drew inv hg (hk _ (hE.refl _))) ps listed a inv hg h2 h3 hk) ps0 _ a invS0 hB h0 h
 have:=rAny_wp (g:=0) (fun listed a' w' hL=>(⟨by simpa using hL.1,hL.2 w' (hE.refl w')⟩:wpAny P .any l.toArray Q 0 listed a' w')) _ _ _ _ H
 rw [Nat.add_zero,hN] at this
 exact this
end
end Go.Proofs.YtgjnnbomnoafcaaGreatDoor
namespace Go.Proofs.YtgjnnbomnoafcaaGreatDoor
set_option linter.unusedVariables false
open Go Go.RowKit Gf
def hdrs (k L:Nat) (b x:Nat->Nat):List Value:=(List.range k).map fun i=>Value.slice (some ⟨b i,0,none⟩) L (x i)
theorem hdrs_get {k L:Nat} {b x:Nat->Nat} {i:Nat} (h:i < k):(hdrs k L b x)[i]?=some (.slice (some ⟨b i,0,none⟩) L (x i)):=by simp [hdrs,h]
def sw (f:Nat->Nat) (i j n:Nat):Nat:=if n=j then f i else if n=i then f j else f n
theorem hdrs_swap {k L:Nat} (b x:Nat->Nat) {i j:Nat} (hi:i < k) (hj:j < k):((hdrs k L b x).set i (.slice (some ⟨b j,0,none⟩) L (x j))).set j (.slice (some ⟨b i,0,none⟩) L (x i))=hdrs k L (sw b i j) (sw x i j):=by
 apply List.ext_getElem?
 intro n
 rw [List.getElem?_set,List.getElem?_set,List.length_set]
 unfold hdrs sw
 by_cases h1:j=n
 ·
  subst h1; simp [hj]
 ·
  rw [if_neg h1]
  by_cases h2:i=n
  ·
   subst h2; simp [hi,h1,Ne.symm h1]
  ·
   rw [if_neg h2]
   by_cases hn:n < k
   ·
    simp [hn,Ne.symm h1,Ne.symm h2]
   ·
    simp [hn]
structure Mat (w:World) (g c k L:Nat) (b x:Nat->Nat) (m:List (List Nat)):Prop where
 hdr:w.ownsRow 0 38 1 (.slice (some ⟨g,0,none⟩) k c) k (hdrs k L b x)
 row:∀ i,i < k->w.ownsRow 0 5 1 (.slice (some ⟨b i,0,none⟩) L (x i)) L ((Cd.B m i).map bv)
 bl:Cd.Blocks k L m
theorem owns_blk {w:World} {ty:TypeId} {b n c:Nat} {l:List Value} (h:w.ownsRow 0 ty 1 (.slice (some ⟨b,0,none⟩) n c) n l):∃ cur,w.heap[b]?=some (.cells cur ty (0,0)):=by
 rcases h.2 with ⟨h1,_⟩ | ⟨g,c',cur,h1,_,h3,_⟩
 ·
  cases h1
 ·
  cases h1; exact ⟨cur,h3⟩
theorem owns_ne {w:World} {t1 t2:TypeId} {b1 b2 n1 n2 c1 c2:Nat} {l1 l2:List Value} (h1:w.ownsRow 0 t1 1 (.slice (some ⟨b1,0,none⟩) n1 c1) n1 l1) (h2:w.ownsRow 0 t2 1 (.slice (some ⟨b2,0,none⟩) n2 c2) n2 l2) (h:t1≠t2):b1≠b2:=fun e=>by
 obtain ⟨c1,q1⟩:=owns_blk h1
 obtain ⟨c2,q2⟩:=owns_blk h2
 rw [e,q2] at q1
 injection q1 with q1
 injection q1 with _ q _
 exact h q.symm
theorem Zam {F:Nat->Prop} {w w':World} {ty:TypeId} {b n cap:Nat} {l:List Value} (h:w.ownsRow 0 ty 1 (.slice (some ⟨b,0,none⟩) n cap) n l) (e:Only F w w') (hn:¬F b):w'.ownsRow 0 ty 1 (.slice (some ⟨b,0,none⟩) n cap) n l:=by
 refine ⟨h.1,?_⟩
 rcases h.2 with h' | ⟨g,c,cur,h1,h2,h3,h4⟩
 ·
  exact .inl h'
 ·
  cases h1; exact .inr ⟨b,_,cur,rfl,Nat.zero_le _,e.at h3 hn,h4⟩
theorem owns_lt' {w:World} {ty:TypeId} {b n cap:Nat} {l:List Value} (h:w.ownsRow 0 ty 1 (.slice (some ⟨b,0,none⟩) n cap) n l):b < w.heap.size:=(h.lt b rfl).2
namespace Mat
variable {w w':World} {g c k L:Nat} {b x:Nat->Nat} {m:List (List Nat)}
theorem cell (h:Mat w g c k L b x m) {i:Nat} (hi:i < k):w.cell? ⟨g,i,none⟩=some (.slice (some ⟨b i,0,none⟩) L (x i)):=by rw [h.hdr.cellAt i (by omega)]; exact hdrs_get hi
theorem byte (h:Mat w g c k L b x m) {i j:Nat} (hi:i < k) (hj:j < L):w.cell? ⟨b i,j,none⟩=some (.int .u8 (nth (Cd.B m i) j)):=by
 have hl:=h.bl.len i hi
 rw [(h.row i hi).cellAt j (by omega),List.getElem?_map,List.getElem?_eq_getElem (by omega),Za0 (by omega)]; rfl
theorem bytes (h:Mat w g c k L b x m) (hL:L<=1000) {i:Nat} (hi:i < k):BytesAt w (some ⟨b i,0,none⟩) L (Cd.B m i):=owns_bytes (h.row i hi) (h.bl.byte i) (by omega)
theorem gne (h:Mat w g c k L b x m) {i:Nat} (hi:i < k):g≠b i:=owns_ne h.hdr (h.row i hi) (by decide)
theorem only {F:Nat->Prop} (h:Mat w g c k L b x m) (e:Only F w w') (h1:¬F g) (h2:∀ i,i < k->¬F (b i)):Mat w' g c k L b x m:=⟨Zam h.hdr e h1,fun i hi=>Zam (h.row i hi) e (h2 i hi),h.bl⟩
end Mat
structure Two (w:World) (gm cm go co k L:Nat) (bm xm bo xo:Nat->Nat) (m o:List (List Nat)):Prop where
 mm:Mat w gm cm k k bm xm m
 mo:Mat w go co k L bo xo o
 ne:gm≠go
 im:∀ i j,i < k->j < k->bm i=bm j->i=j
 io:∀ i j,i < k->j < k->bo i=bo j->i=j
 dis:∀ i j,i < k->j < k->bm i≠bo j
namespace Two
variable {w w':World} {gm cm go co k L:Nat} {bm xm bo xo:Nat->Nat} {m o:List (List Nat)}
theorem ext (h:Two w gm cm go co k L bm xm bo xo m o) (e:Ext w w'):Two w' gm cm go co k L bm xm bo xo m o:=⟨h.mm.only e (fun x=>x) (fun _ _ x=>x),h.mo.only e (fun x=>x) (fun _ _ x=>x),h.ne,h.im,h.io,h.dis⟩
theorem ne1 (h:Two w gm cm go co k L bm xm bo xo m o) {i:Nat} (hi:i < k):gm≠bo i:=owns_ne h.mm.hdr (h.mo.row i hi) (by decide)
theorem ne2 (h:Two w gm cm go co k L bm xm bo xo m o) {i:Nat} (hi:i < k):go≠bm i:=owns_ne h.mo.hdr (h.mm.row i hi) (by decide)
theorem sw_lt {i j n k:Nat} (hi:i < k) (hj:j < k) (hn:n < k):∃ q,q < k/\∀ f:Nat->Nat,sw f i j n=f q:=by
 unfold sw
 by_cases h1:n=j
 ·
  exact ⟨i,hi,fun f=>if_pos h1⟩
 ·
  by_cases h2:n=i
  ·
   exact ⟨j,hj,fun f=>by rw [if_neg h1,if_pos h2]⟩
  ·
   exact ⟨n,hn,fun f=>by rw [if_neg h1,if_neg h2]⟩
theorem sw_inj {f:Nat->Nat} {i j k:Nat} (hf:∀ a b,a < k->b < k->f a=f b->a=b) (hi:i < k) (hj:j < k):∀ a b,a < k->b < k->sw f i j a=sw f i j b->a=b:=by
 intro a b ha hb e
 have e1:∀ n,sw f i j n=f (sw (fun y=>y) i j n):=fun n=>by
  unfold sw
  split
  ·
   rfl
  ·
   split
   ·
    rfl
   ·
    rfl
 have lt:∀ n,n < k->sw (fun y=>y) i j n < k:=fun n hn=>by
  unfold sw
  split
  ·
   exact hi
  ·
   split
   ·
    exact hj
   ·
    exact hn
 rw [e1 a,e1 b] at e
 have:=hf _ _ (lt a ha) (lt b hb) e
 unfold sw at this
 simp only at this
 split at this<;>split at this<;>(try split at this)<;>(try split at this)<;>omega
theorem swapped (h:Two w gm cm go co k L bm xm bo xo m o) (e:Only (fun y=>y=gm\/y=go) w w') {i j:Nat} (hi:i < k) (hj:j < k) (h1:w'.ownsRow 0 38 1 (.slice (some ⟨gm,0,none⟩) k cm) k (hdrs k k (sw bm i j) (sw xm i j))) (h2:w'.ownsRow 0 38 1 (.slice (some ⟨go,0,none⟩) k co) k (hdrs k L (sw bo i j) (sw xo i j))) :
  Two w' gm cm go co k L (sw bm i j) (sw xm i j) (sw bo i j) (sw xo i j) (Cd.swap m i j) (Cd.swap o i j):=by
 have hb:∀ (l:List (List Nat)) (L:Nat),Cd.Blocks k L l->∀ n q,n < k->(∀ f:Nat->Nat,sw f i j n=f q)->Cd.B (Cd.swap l i j) n=Cd.B l q:=fun l L hl n q hn hq=>by
  rw [Cd.B_swap l (by rw [hl.n]; exact hi) (by rw [hl.n]; exact hj)]
  have e1:q=sw id i j n:=(hq id).symm
  rw [e1]
  unfold sw
  split
  ·
   rfl
  ·
   split
   ·
    rfl
   ·
    rfl
 refine ⟨⟨h1,fun n hn=>?_,h.mm.bl.swap hi hj⟩,⟨h2,fun n hn=>?_,h.mo.bl.swap hi hj⟩,h.ne,sw_inj h.im hi hj,sw_inj h.io hi hj,fun a b ha hb'=>?_⟩
 ·
  obtain ⟨q,hq,hs⟩:=sw_lt hi hj hn
  rw [hs bm,hs xm,hb m k h.mm.bl n q hn hs]
  exact Zam (h.mm.row q hq) e (fun p=>by rcases p with p | p; exact h.mm.gne hq p.symm; exact h.ne2 hq p.symm)
 ·
  obtain ⟨q,hq,hs⟩:=sw_lt hi hj hn
  rw [hs bo,hs xo,hb o L h.mo.bl n q hn hs]
  exact Zam (h.mo.row q hq) e (fun p=>by rcases p with p | p; exact h.ne1 hq p.symm; exact h.mo.gne hq p.symm)
 ·
  obtain ⟨q,hq,hs⟩:=sw_lt hi hj ha
  obtain ⟨r,hr,ht⟩:=sw_lt hi hj hb'
  rw [hs bm,ht bo]
  exact h.dis q r hq hr
theorem set2 (h:Two w gm cm go co k L bm xm bo xo m o) {i:Nat} (hi:i < k) (e:Only (fun y=>y=bm i\/y=bo i) w w') {a b:List Nat} (ha:a.length=k) (hb:b.length=L) (hax:∀ y∈a,y < 256) (hbx:∀ y∈b,y < 256)
  (h1:w'.ownsRow 0 5 1 (.slice (some ⟨bm i,0,none⟩) k (xm i)) k (a.map bv)) (h2:w'.ownsRow 0 5 1 (.slice (some ⟨bo i,0,none⟩) L (xo i)) L (b.map bv)):Two w' gm cm go co k L bm xm bo xo (m.set i a) (o.set i b):=by
 have hf1:∀ n,n < k->n≠i->¬(bm n=bm i\/bm n=bo i):=fun n hn hne q=>by
  rcases q with q | q
  ·
   exact hne (h.im n i hn hi q)
  ·
   exact h.dis n i hn hi q
 have hf2:∀ n,n < k->n≠i->¬(bo n=bm i\/bo n=bo i):=fun n hn hne q=>by
  rcases q with q | q
  ·
   exact h.dis i n hi hn q.symm
  ·
   exact hne (h.io n i hn hi q)
 refine ⟨⟨Zam h.mm.hdr e (fun q=>by rcases q with q | q; exact h.mm.gne hi q; exact h.ne1 hi q),fun n hn=>?_,h.mm.bl.set i ha hax⟩,⟨Zam h.mo.hdr e (fun q=>by rcases q with q | q; exact h.ne2 hi q; exact h.mo.gne hi q),fun n hn=>?_,h.mo.bl.set i hb hbx⟩,h.ne,h.im,h.io,h.dis⟩
 ·
  rw [Cd.B_set]
  by_cases q:i=n
  ·
   subst q; rw [if_pos ⟨rfl,by rw [h.mm.bl.n]; exact hi⟩]; exact h1
  ·
   rw [if_neg (fun r=>q r.1)]; exact Zam (h.mm.row n hn) e (hf1 n hn (fun r=>q r.symm))
 ·
  rw [Cd.B_set]
  by_cases q:i=n
  ·
   subst q; rw [if_pos ⟨rfl,by rw [h.mo.bl.n]; exact hi⟩]; exact h2
  ·
   rw [if_neg (fun r=>q r.1)]; exact Zam (h.mo.row n hn) e (hf2 n hn (fun r=>q r.symm))
end Two
end Go.Proofs.YtgjnnbomnoafcaaGreatDoor
namespace Go.Proofs.YtgjnnbomnoafcaaGreatDoor
set_option linter.unusedVariables false
open Go Go.RowKit Gf
theorem zero_part (w:World):Sem.run Tryz.prog (zeroValue 229) w=.ok (.agg #[.int .i64 0,.slice none 0 0]) w:=by kernel_rfl
theorem aggPart:AggType Tryz.prog 229 2:=⟨by kernel_rfl,by kernel_rfl⟩
structure SolSt (w0 wr:World) (cb fb gm cm go co k L:Nat) (bm xm bo xo:Nat->Nat) (m o:List (List Nat)):Prop where
 two:Two wr gm cm go co k L bm xm bo xo m o
 code:wr.cell? ⟨cb,1,none⟩=some (.pointer (some ⟨fb,0,none⟩))
 field:FieldAt wr fb
 ext:Ext w0 wr
 lg:w0.heap.size<=gm/\w0.heap.size<=go
 lb:∀ i,i < k->w0.heap.size<=bm i/\w0.heap.size<=bo i
 old:cb < w0.heap.size/\fb < w0.heap.size
namespace SolSt
variable {w0 wr w':World} {cb fb gm cm go co k L:Nat} {bm xm bo xo:Nat->Nat} {m o:List (List Nat)}
theorem more (h:SolSt w0 wr cb fb gm cm go co k L bm xm bo xo m o) (e:Ext wr w'):SolSt w0 w' cb fb gm cm go co k L bm xm bo xo m o :=
 ⟨h.two.ext e,e.cell h.code,h.field.ext e,Ext.trans h.ext e,h.lg,h.lb,h.old⟩
theorem swapped (h:SolSt w0 wr cb fb gm cm go co k L bm xm bo xo m o) (e:Only (fun y=>y=gm\/y=go) wr w') {i j:Nat} (hi:i < k) (hj:j < k) (h1:w'.ownsRow 0 38 1 (.slice (some ⟨gm,0,none⟩) k cm) k (hdrs k k (sw bm i j) (sw xm i j))) (h2:w'.ownsRow 0 38 1 (.slice (some ⟨go,0,none⟩) k co) k (hdrs k L (sw bo i j) (sw xo i j))) :
  SolSt w0 w' cb fb gm cm go co k L (sw bm i j) (sw xm i j) (sw bo i j) (sw xo i j) (Cd.swap m i j) (Cd.swap o i j):=by
 have:=h.lg; have:=h.old
 refine ⟨h.two.swapped e hi hj h1 h2,e.cell h.code (fun q=>by have q:cb=gm\/cb=go:=q; omega),e.at h.field (fun q=>by have q:fb=gm\/fb=go:=q; omega),Ext.then h.ext e (fun y hy q=>by have q:y=gm\/y=go:=q; omega),h.lg,fun n hn=>?_,h.old⟩
 obtain ⟨q,hq,hs⟩:=Two.sw_lt hi hj hn
 rw [hs bm,hs bo]
 exact h.lb q hq
theorem set2 (h:SolSt w0 wr cb fb gm cm go co k L bm xm bo xo m o) {i:Nat} (hi:i < k) (e:Only (fun y=>y=bm i\/y=bo i) wr w') {a b:List Nat} (ha:a.length=k) (hb:b.length=L) (hax:∀ y∈a,y < 256) (hbx:∀ y∈b,y < 256)
  (h1:w'.ownsRow 0 5 1 (.slice (some ⟨bm i,0,none⟩) k (xm i)) k (a.map bv)) (h2:w'.ownsRow 0 5 1 (.slice (some ⟨bo i,0,none⟩) L (xo i)) L (b.map bv)):SolSt w0 w' cb fb gm cm go co k L bm xm bo xo (m.set i a) (o.set i b):=by
 have:=h.lb i hi; have:=h.old
 exact ⟨h.two.set2 hi e ha hb hax hbx h1 h2,e.cell h.code (fun q=>by have q:cb=bm i\/cb=bo i:=q; omega),e.at h.field (fun q=>by have q:fb=bm i\/fb=bo i:=q; omega),Ext.then h.ext e (fun y hy q=>by have q:y=bm i\/y=bo i:=q; omega),h.lg,h.lb,h.old⟩
end SolSt
def hdrE (L:Nat) (b x:Nat->Nat) (i:Nat):Array Value:=#[.slice (some ⟨b i,0,none⟩) L (x i)]
def PartsAt (w:World) (g L:Nat) (ps:List (Nat × List Nat)):Prop:=∀ i p,ps[i]?=some p->w.cell? ⟨g,i*2,none⟩=some (.int .i64 p.1)/\∃ b off c,w.cell? ⟨g,i*2+1,none⟩=some (.slice (some ⟨b,off,none⟩) L c)/\BytesAt w (some ⟨b,off,none⟩) L p.2
structure Bld (w0 wr:World) (cb fb k L:Nat) (ps:List (Nat × List Nat)) (j:Nat) (v5 v6:Value) (bm xm bo xo:Nat->Nat):Prop where
 ext:Ext w0 wr
 o5:OwnVs wr w0.heap.size 38 1 v5 ((List.range j).map (hdrE k bm xm))
 o6:OwnVs wr w0.heap.size 38 1 v6 ((List.range j).map (hdrE L bo xo))
 rm:∀ i p,i < j->ps[i]?=some p->wr.ownsRow 0 5 1 (.slice (some ⟨bm i,0,none⟩) k (xm i)) k ((Cd.row k p.1).map bv)
 ro:∀ i p,i < j->ps[i]?=some p->wr.ownsRow 0 5 1 (.slice (some ⟨bo i,0,none⟩) L (xo i)) L (p.2.map bv)
 lb:∀ i,i < j->w0.heap.size<=bm i/\w0.heap.size<=bo i
 im:∀ a b,a < j->b < j->bm a=bm b->a=b
 io:∀ a b,a < j->b < j->bo a=bo b->a=b
 dis:∀ a b,a < j->b < j->bm a≠bo b
 apart:∀ b,v5.ownBlock=some b->v6.ownBlock≠some b
theorem flat_hdr (k L:Nat) (b x:Nat->Nat):((List.range k).map (hdrE L b x)).flatMap Array.toList=hdrs k L b x:=by
 unfold hdrs hdrE
 rw [List.flatMap_map]
 induction k with
 | zero=>rfl
 | succ k ih=>rw [List.range_succ,List.flatMap_append,List.map_append,ih]; rfl
theorem owns_base' {w:World} {ty:TypeId} {base b n cap:Nat} {l:List Value} (h:w.ownsRow base ty 1 (.slice (some ⟨b,0,none⟩) n cap) n l):w.ownsRow 0 ty 1 (.slice (some ⟨b,0,none⟩) n cap) n l:=by
 refine ⟨h.1,?_⟩
 rcases h.2 with h' | ⟨g,c,cur,h1,h2,h3⟩
 ·
  exact .inl h'
 ·
  exact .inr ⟨g,c,cur,h1,Nat.zero_le _,h3⟩
theorem BytesAt.onlyG {w w':World} {b off n:Nat} {l:List Nat} (h:BytesAt w (some ⟨b,off,none⟩) n l) {F:Nat->Prop} (e:Only F w w') (hn:¬F b):BytesAt w' (some ⟨b,off,none⟩) n l:=by
 refine ⟨h.len,h.small,h.byte,?_⟩
 rcases h.cells with q | ⟨b',off',hb,hc⟩
 ·
  exact .inl q
 ·
  cases hb
  exact .inr ⟨_,_,rfl,fun i hi=>e.cell (hc i hi) hn⟩
theorem BytesAt.bltG {w:World} {b off n:Nat} {l:List Nat} (h:BytesAt w (some ⟨b,off,none⟩) n l) (hn:0 < n):b < w.heap.size:=by
 rcases h.cells with q | ⟨b',off',hb,hc⟩
 ·
  omega
 ·
  cases hb
  exact World.block_lt_of_cell? w _ (hc 0 hn)
def at_ (f:Nat->Nat) (j x n:Nat):Nat:=if n=j then x else f n
theorem map_at (j L:Nat) (b x:Nat->Nat) (b1 c1:Nat):(List.range (j+1)).map (hdrE L (at_ b j b1) (at_ x j c1))=(List.range j).map (hdrE L b x)++[#[Value.slice (some ⟨b1,0,none⟩) L c1]]:=by
 rw [List.range_succ,List.map_append]
 congr 1
 ·
  refine List.map_congr_left fun i hi=>?_
  have:=List.mem_range.1 hi
  unfold hdrE at_
  rw [if_neg (by omega),if_neg (by omega)]
 ·
  unfold hdrE at_
  simp
theorem owns_off {w w':World} {B:Nat} {v:Value} {l:List (Array Value)} {b n c:Nat} {bs:List Value} (h:w.ownsRow 0 5 1 (.slice (some ⟨b,0,none⟩) n c) n bs) (ho:OwnVs w B 38 1 v l) (e:Only (fun q=>v.ownBlock=some q) w w'):w'.ownsRow 0 5 1 (.slice (some ⟨b,0,none⟩) n c) n bs:=by
 obtain ⟨cur,hc⟩:=owns_blk h
 exact Zam h e (fun q=>ho.not_at (by decide) hc q)
theorem Bld.next {w0 wr U2 U3 U6 U7 U8:World} {cb fb k L:Nat} {ps:List (Nat × List Nat)} {j:Nat} {v5 v6 v5' v6':Value} {bm xm bo xo:Nat->Nat} (h:Bld w0 wr cb fb k L ps j v5 v6 bm xm bo xo) {p:Nat × List Nat} (hp:ps[j]?=some p) (E1:Ext wr U2) {b1 c1 b2 c2:Nat}
  (s1:U2.ownsRow 0 5 1 (.slice (some ⟨b1,0,none⟩) k c1) k ((Cd.row k p.1).map bv)) (l1:wr.heap.size<=b1)
  (o5:OwnVs U3 w0.heap.size 38 1 v5' ((List.range j).map (hdrE k bm xm)++[#[Value.slice (some ⟨b1,0,none⟩) k c1]])) (n5:Only (fun q=>v5.ownBlock=some q) U2 U3) (d5:v5'.ownBlock=v5.ownBlock\/v5'.ownBlock=some U2.heap.size) (E2:Ext U3 U6)
  (s2:U6.ownsRow 0 5 1 (.slice (some ⟨b2,0,none⟩) L c2) L (p.2.map bv)) (l2:U3.heap.size<=b2)
  (o6:OwnVs U7 w0.heap.size 38 1 v6' ((List.range j).map (hdrE L bo xo)++[#[Value.slice (some ⟨b2,0,none⟩) L c2]])) (n6:Only (fun q=>v6.ownBlock=some q) U6 U7) (d6:v6'.ownBlock=v6.ownBlock\/v6'.ownBlock=some U6.heap.size) (E3:Ext U7 U8) :
  Bld w0 U8 cb fb k L ps (j+1) v5' v6' (at_ bm j b1) (at_ xm j c1) (at_ bo j b2) (at_ xo j c2):=by
 have z0:=h.ext.size; have z1:=E1.size; have z2:=n5.size; have z3:=E2.size; have z4:=n6.size; have z5:=E3.size
 have lt5:∀ q,v5.ownBlock=some q->w0.heap.size<=q/\q < wr.heap.size:=fun q hq=>h.o5.lt q hq
 have lt6:∀ q,v6.ownBlock=some q->w0.heap.size<=q/\q < wr.heap.size:=fun q hq=>h.o6.lt q hq
 have p5:=h.o5.ext E1
 have p6:OwnVs U6 w0.heap.size 38 1 v6 _:=((h.o6.ext E1).only n5 (fun q hq hq'=>h.apart q hq' hq)).ext E2
 have l1':=owns_lt' s1
 have l2':=owns_lt' s2
 have up1:∀ {b n c:Nat} {bs:List Value},U2.ownsRow 0 5 1 (.slice (some ⟨b,0,none⟩) n c) n bs->U6.ownsRow 0 5 1 (.slice (some ⟨b,0,none⟩) n c) n bs:=fun q=>Zam (owns_off q p5 n5) E2 (fun x=>x)
 have up2:∀ {b n c:Nat} {bs:List Value},U6.ownsRow 0 5 1 (.slice (some ⟨b,0,none⟩) n c) n bs->U8.ownsRow 0 5 1 (.slice (some ⟨b,0,none⟩) n c) n bs:=fun q=>Zam (owns_off q p6 n6) E3 (fun x=>x)
 have ltm:∀ i,i < j->bm i < wr.heap.size/\bo i < wr.heap.size:=fun i hi=>by
  rcases hpi:ps[i]? with _ | q
  ·
   have hjl:j < ps.length:=(List.getElem?_eq_some_iff.1 hp).1
   rw [List.getElem?_eq_none_iff] at hpi; omega
  ·
   exact ⟨owns_lt' (h.rm i q hi hpi),owns_lt' (h.ro i q hi hpi)⟩
 refine ⟨?_,?_,?_,fun i q hi hq=>?_,fun i q hi hq=>?_,fun i hi=>?_,fun a b ha hb e=>?_,fun a b ha hb e=>?_,fun a b ha hb e=>?_,fun b hb hb'=>?_⟩
 ·
  have e1:Ext w0 U3:=Ext.then (Ext.trans h.ext E1) n5 (fun i hi q=>by have:=(lt5 i q).1; omega)
  have e2:Ext w0 U7:=Ext.then (Ext.trans e1 E2) n6 (fun i hi q=>by have:=(lt6 i q).1; omega)
  exact Ext.trans e2 E3
 ·
  rw [map_at]
  refine ((o5.ext E2).only n6 fun q hq hq'=>?_).ext E3
  rcases d5 with d | d
  ·
   exact h.apart q (d▸hq) hq'
  ·
   rw [d] at hq; cases hq; have:=(lt6 _ hq').2; omega
 ·
  rw [map_at]; exact o6.ext E3
 ·
  unfold at_
  by_cases e:i=j
  ·
   subst e
   rw [hp] at hq; cases hq
   rw [if_pos rfl,if_pos rfl]; exact up2 (up1 s1)
  ·
   rw [if_neg e,if_neg e]
   exact up2 (up1 (Zam (h.rm i q (by omega) hq) E1 (fun x=>x)))
 ·
  unfold at_
  by_cases e:i=j
  ·
   subst e
   rw [hp] at hq; cases hq
   rw [if_pos rfl,if_pos rfl]; exact up2 s2
  ·
   rw [if_neg e,if_neg e]
   exact up2 (up1 (Zam (h.ro i q (by omega) hq) E1 (fun x=>x)))
 ·
  unfold at_
  by_cases e:i=j
  ·
   rw [if_pos e,if_pos e]; omega
  ·
   rw [if_neg e,if_neg e]; exact h.lb i (by omega)
 ·
  unfold at_ at e
  by_cases ea:a=j<;>by_cases eb:b=j
  ·
   omega
  ·
   rw [if_pos ea,if_neg eb] at e; have:=(ltm b (by omega)).1; omega
  ·
   rw [if_neg ea,if_pos eb] at e; have:=(ltm a (by omega)).1; omega
  ·
   rw [if_neg ea,if_neg eb] at e; exact h.im a b (by omega) (by omega) e
 ·
  unfold at_ at e
  by_cases ea:a=j<;>by_cases eb:b=j
  ·
   omega
  ·
   rw [if_pos ea,if_neg eb] at e; have:=(ltm b (by omega)).2; omega
  ·
   rw [if_neg ea,if_pos eb] at e; have:=(ltm a (by omega)).2; omega
  ·
   rw [if_neg ea,if_neg eb] at e; exact h.io a b (by omega) (by omega) e
 ·
  unfold at_ at e
  by_cases ea:a=j<;>by_cases eb:b=j
  ·
   rw [if_pos ea,if_pos eb] at e; omega
  ·
   rw [if_pos ea,if_neg eb] at e; have:=(ltm b (by omega)).2; omega
  ·
   rw [if_neg ea,if_pos eb] at e; have:=(ltm a (by omega)).1; omega
  ·
   rw [if_neg ea,if_neg eb] at e; exact h.dis a b (by omega) (by omega) e
 ·
  rcases d5 with d | d<;>rcases d6 with d' | d'
  ·
   exact h.apart b (d▸hb) (d'▸hb')
  ·
   rw [d'] at hb'; cases hb'
   rw [d] at hb
   have:=(lt5 _ hb).2; omega
  ·
   rw [d] at hb; cases hb
   rw [d'] at hb'
   have:=(lt6 _ hb').2; omega
  ·
   have q5:=(o5.lt b hb).2
   rw [d] at hb; cases hb
   rw [d'] at hb'
   have:U6.heap.size=U2.heap.size:=by simpa using hb'
   omega
def SolAt (w0 wr:World) (cb fb gm cm go co k L:Nat) (q:List (List Nat) × List (List Nat)):Prop:=∃ bm xm bo xo,SolSt w0 wr cb fb gm cm go co k L bm xm bo xo q.1 q.2
def steps (m o:List (List Nat)) (c:Nat):List (List Nat) × List (List Nat):=(List.range c).foldl Cd.step (m,o)
theorem steps_succ (m o:List (List Nat)) (c:Nat):steps m o (c+1)=Cd.step (steps m o c) c:=by unfold steps; rw [List.range_succ,List.foldl_append]; rfl
theorem pivot_next (m:List (List Nat)) (col f p:Nat) (h:p < m.length - 1/\nth (Cd.B m p) col=0):Cd.pivot m col (f+1) p=Cd.pivot m col f (p+1):=if_pos h
theorem pivot_here (m:List (List Nat)) (col f p:Nat) (h:¬(p < m.length - 1/\nth (Cd.B m p) col=0)):Cd.pivot m col (f+1) p=p:=if_neg h
theorem Bld.out {w0 wr:World} {cb fb k L:Nat} {ps:List (Nat × List Nat)} {v5 v6:Value} {bm xm bo xo:Nat->Nat} (h:Bld w0 wr cb fb k L ps k v5 v6 bm xm bo xo) (k1:1<=k) (hk:ps.length=k) (hl:∀ p∈ps,p.2.length=L/\∀ y∈p.2,y < 256)
  (hc:w0.cell? ⟨cb,1,none⟩=some (.pointer (some ⟨fb,0,none⟩))) (hf:FieldAt w0 fb) :
  ∃ gm cm go co,v5=.slice (some ⟨gm,0,none⟩) k cm/\v6=.slice (some ⟨go,0,none⟩) k co/\SolAt w0 wr cb fb gm cm go co k L (ps.map fun p=>Cd.row k p.1,ps.map fun p=>p.2):=by
 have hlt:∀ (f:Nat->Array Value),((List.range k).map f).length=k:=fun f=>by simp
 obtain ⟨a5,c5,e5,q5⟩:=h.o5.slice
 obtain ⟨a6,c6,e6,q6⟩:=h.o6.slice
 rcases q5 with ⟨q,_⟩ | ⟨gm,rfl,g5,_,_,_⟩
 ·
  have:=congrArg List.length q; rw [hlt] at this; simp at this; omega
 rcases q6 with ⟨q,_⟩ | ⟨go,rfl,g6,_,_,_⟩
 ·
  have:=congrArg List.length q; rw [hlt] at this; simp at this; omega
 rw [hlt] at e5 e6
 have h5:=h.o5.own
 have h6:=h.o6.own
 rw [hlt,flat_hdr,e5] at h5
 rw [hlt,flat_hdr,e6] at h6
 have hget:∀ i,i < k->∃ p,ps[i]?=some p:=fun i hi=>⟨_,List.getElem?_eq_getElem (by omega)⟩
 have hB1:∀ i p,ps[i]?=some p->Cd.B (ps.map fun p=>Cd.row k p.1) i=Cd.row k p.1:=fun i p hp=>by unfold Cd.B; rw [List.getD_eq_getElem?_getD,List.getElem?_map,hp]; rfl
 have hB2:∀ i p,ps[i]?=some p->Cd.B (ps.map fun p=>p.2) i=p.2:=fun i p hp=>by unfold Cd.B; rw [List.getD_eq_getElem?_getD,List.getElem?_map,hp]; rfl
 refine ⟨gm,c5,go,c6,e5,e6,bm,xm,bo,xo,⟨⟨owns_base' h5,fun i hi=>?_,Cd.Blocks.mem (by simp [hk]) (fun b hb=>?_) (fun b hb=>?_)⟩,⟨owns_base' h6,fun i hi=>?_,Cd.Blocks.mem (by simp [hk]) (fun b hb=>?_) (fun b hb=>?_)⟩,?_,h.im,h.io,h.dis⟩,h.ext.cell hc,hf.ext h.ext,h.ext,⟨g5,g6⟩,h.lb,⟨World.block_lt_of_cell? w0 _ hc,lt_of_block hf⟩⟩
 ·
  obtain ⟨p,hp⟩:=hget i hi
  rw [hB1 i p hp]; exact h.rm i p hi hp
 ·
  obtain ⟨p,_,rfl⟩:=List.mem_map.1 hb; exact Cd.row_len _ _
 ·
  obtain ⟨p,_,rfl⟩:=List.mem_map.1 hb; exact Cd.row_byte _ _
 ·
  obtain ⟨p,hp⟩:=hget i hi
  rw [hB2 i p hp]; exact h.ro i p hi hp
 ·
  obtain ⟨p,hp,rfl⟩:=List.mem_map.1 hb; exact (hl p hp).1
 ·
  obtain ⟨p,hp,rfl⟩:=List.mem_map.1 hb; exact (hl p hp).2
 ·
  intro e
  subst e
  exact h.apart gm (by rw [e5]; rfl) (by rw [e6]; rfl)
def SolvePost (w0:World) (k:Nat) (q:List (List Nat)) (e:Ending) (w':World):Prop:=∃ g c,e=.returned (.slice (some ⟨g,0,none⟩) k c)/\RowsAt w' g q/\Ext w0 w'
theorem SolAt.out {w0 wr:World} {cb fb gm cm go co k L:Nat} {q:List (List Nat) × List (List Nat)} (h:SolAt w0 wr cb fb gm cm go co k L q) (hL:L<=1000):RowsAt wr go q.2/\Ext w0 wr:=by
 obtain ⟨bm,xm,bo,xo,h⟩:=h
 refine ⟨fun i l hi=>?_,h.ext⟩
 have hik:i < k:=by
  rcases Nat.lt_or_ge i k with r | r
  ·
   exact r
  ·
   rw [List.getElem?_eq_none (by rw [h.two.mo.bl.n]; exact r)] at hi; cases hi
 have e:l=Cd.B q.2 i:=by unfold Cd.B; rw [List.getD_eq_getElem?_getD,hi]; rfl
 have hl:=h.two.mo.bl.len i hik
 rw [e,hl]
 exact ⟨bo i,xo i,h.two.mo.cell hik,h.two.mo.bytes hL hik⟩
end Go.Proofs.YtgjnnbomnoafcaaGreatDoor
namespace Go.Proofs.YtgjnnbomnoafcaaGreatDoor
set_option linter.unusedVariables false
open Go.RowKit Gf
set_option maxRecDepth 100000 in
set_option maxHeartbeats 400000 in
theorem refMul_c (A B:Int) (w:World) (ha:0<=A/\A < 256) (hb:0<=B/\B < 256) :
  Calls Tryz.prog 199 #[.int .u8 A,.int .u8 B] w fun e w'=>e=.returned (.int .u8 (Gf.mul A.toNat B.toNat:Nat))/\w=w':=by
 obtain ⟨a,rfl⟩:=Int.eq_ofNat_of_zero_le ha.1
 obtain ⟨b,rfl⟩:=Int.eq_ofNat_of_zero_le hb.1
 have ha:=ha.2
 have hb:=hb.2
 rw [Int.toNat_natCast,Int.toNat_natCast]
 go_enter Tryz.func199,Tryz.ntmps199
 go_wp2
 go_loop [5,6,7] (fun x o y=>∃ i j k:Nat,i < 256/\j < 256/\k < 256/\x=.int .i64 i/\o=.int .i64 j/\y=.int .i64 k/\j ^^^ Gf.mul i k=Gf.mul a b) (fun _ _ y=>(intOf y).toNat)
 case atStart=>exact ⟨a,0,b,by omega,by omega,by omega,rfl,rfl,rfl,by rw [Nat.zero_xor]⟩
 case round =>
  obtain ⟨i,j,k,hi,hj,hk,rfl,rfl,rfl,hq⟩:=hrel
  have HQ:=hid hq
  clear hq
  by_cases h0:0 < k
  ·
   have hand:bits .and .i64 (k:Int) 1=((k % 2:Nat):Int):=by
    rw [show (1:Int)=((1:Nat):Int) by rfl,i64_and_nat k 1 (by omega) (by omega),Nat.and_one_is_mod]
   have hx:=xor_bd j i hj hi
   have hxo:bits .xor .i64 (j:Int) (i:Int)=((j ^^^ i:Nat):Int):=Zb2 j i (by omega) (by omega)
   obtain ⟨z,hz⟩:∃ z:Nat,(2*i) ^^^ 285=z:=⟨_,rfl⟩
   have hzb:z < 512:=by rw [<- hz]; exact Nat.xor_lt_two_pow (n:=9) (by omega) (by omega)
   obtain ⟨y,hy⟩:∃ y:Nat,j ^^^ i=y:=⟨_,rfl⟩
   rw [hy] at hx hxo
   have hst:bits .xor .i64 ((i:Int)*2) 285=(z:Int):=by
    rw [<- hz]
    rw [show ((i:Int)*2)=((2*i:Nat):Int) by omega]; exact Zb2 (2*i) 285 (by omega) (by omega)
   have HH:Hid ((if k % 2=1 then y else j) ^^^ Gf.mul (Gf.step i) (k / 2)=Gf.mul a b):=by
    refine hid ?_
    rw [<- HQ.out,mul_half i k hi hk,<- hy]
    split
    ·
     rw [Nat.xor_assoc]
    ·
     rw [Nat.zero_xor]
   have hsb:Gf.step i < 256:=step_bd i hi
   rcases Nat.mod_two_eq_zero_or_one k with hk2 | hk2
   ·
    rw [hk2] at hand
    have HH2:Hid (j ^^^ Gf.mul (Gf.step i) (k / 2)=Gf.mul a b):=by
     refine hid ?_; have:=HH.out; rwa [if_neg (by omega)] at this
    have HST:Hid (Gf.step i=if 256<=2*i then z else 2*i):=hid (by rw [<- hz]; rfl)
    clear HH HQ hk2 hy hz
    have hand:bits .and .i64 (k:Int) 1=0:=hand
    go_wp2
    ·
     have HI:=HST.out
     rw [if_pos (by omega)] at HI
     refine ⟨⟨Gf.step i,j,k / 2,hsb,by omega,by omega,by rw [HI],rfl,by go_num,HH2.out⟩,by simp [intOf]; omega⟩
    ·
     have HI:=HST.out
     rw [if_neg (by omega)] at HI
     refine ⟨⟨Gf.step i,j,k / 2,hsb,by omega,by omega,by rw [HI]; go_num,rfl,by go_num,HH2.out⟩,by simp [intOf]; omega⟩
   ·
    rw [hk2] at hand
    have HH2:Hid (y ^^^ Gf.mul (Gf.step i) (k / 2)=Gf.mul a b):=by
     refine hid ?_; have:=HH.out; rwa [if_pos (by omega)] at this
    have HST:Hid (Gf.step i=if 256<=2*i then z else 2*i):=hid (by rw [<- hz]; rfl)
    clear HH HQ hk2 hy hz
    have hand:bits .and .i64 (k:Int) 1=1:=hand
    go_wp2
    ·
     have HI:=HST.out
     rw [if_pos (by omega)] at HI
     refine ⟨⟨Gf.step i,y,k / 2,hsb,by omega,by omega,by rw [HI],rfl,by go_num,HH2.out⟩,by simp [intOf]; omega⟩
    ·
     have HI:=HST.out
     rw [if_neg (by omega)] at HI
     refine ⟨⟨Gf.step i,y,k / 2,hsb,by omega,by omega,by rw [HI]; go_num,rfl,by go_num,HH2.out⟩,by simp [intOf]; omega⟩
  ·
   obtain rfl:k=0:=by omega
   have HJ:Hid (j=Gf.mul a b):=by
    refine hid ?_; have:=HQ.out; rwa [Gf.mul_zero,Nat.xor_zero] at this
   clear HQ
   go_wp2
   go_ret
   exact ⟨by rw [<- HJ.out]; rfl,rfl⟩
set_option maxRecDepth 100000 in
set_option maxHeartbeats 400000 in
theorem refInv_c (A:Int) (w:World) (ha:0<=A/\A < 256) :
  Calls Tryz.prog 210 #[.int .u8 A] w fun e w'=>e=.returned (.int .u8 (Gf.inv A.toNat:Nat))/\w=w':=by
 obtain ⟨a,rfl⟩:=Int.eq_ofNat_of_zero_le ha.1
 have ha:=ha.2
 rw [Int.toNat_natCast]
 have hib:=Gf.inv_bd a
 have HU:Hid (∀ k,0 < k->k < 256->Gf.mul a k=1->k=Gf.inv a):=by
  refine hid fun k h0 hk hm=>?_
  by_cases a0:a=0
  ·
   subst a0; rw [Gf.zero_mul] at hm; omega
  ·
   have h1:Gf.mul (Gf.inv a) (Gf.mul a k)=Gf.inv a:=by rw [hm,Gf.mul_one _ hib]
   rw [<- Gf.mul_assoc _ _ _ hib (by omega) hk,Gf.mul_comm (Gf.inv a) a,Gf.mul_inv a (by omega) (by omega),Gf.mul_comm,Gf.mul_one _ hk] at h1
   exact h1
 have HZ:Hid (a=0->Gf.inv a=0):=hid (fun e=>by rw [e,Gf.inv_zero])
 have HP:Hid (a≠0->Gf.mul a (Gf.inv a)=1):=hid (fun e=>Gf.mul_inv a (by omega) (by omega))
 have HI0:Hid (a≠0->Gf.inv a≠0):=hid (fun e h=>by have:=HP.out e; rw [h,Gf.mul_zero] at this; omega)
 go_enter Tryz.func210,Tryz.ntmps210
 go_wp2
 go_loop [3] (fun b=>∃ k:Nat,0 < k/\k<=256/\b=.int .i64 k/\∀ j,0 < j->j < k->Gf.mul a j≠1) (fun b=>256 - (intOf b).toNat)
 case atStart=>exact ⟨1,by omega,by omega,rfl,fun j h1 h2=>by omega⟩
 case round =>
  obtain ⟨k,h0,hk,rfl,hn⟩:=hrel
  have HN:=hid hn
  clear hn
  by_cases hlt:k < 256
  ·
   have hmb:=Gf.mul_bd a k
   by_cases h1:Gf.mul a k=1
   ·
    have HE:=hid (HU.out k h0 hlt h1)
    have h2:((Gf.mul a k:Int) == 1)=true:=by rw [h1]; rfl
    clear h1
    go_wp2_with fail
    refine (refMul_c (a:Int) k _ (by omega) (by omega)).mono ?_
    rintro e w' ⟨rfl,rfl⟩
    simp only [Int.toNat_natCast]
    go_wp2
    go_ret
    exact ⟨by rw [<- HE.out]; rfl,rfl⟩
   ·
    have HS:Hid (∀ j,0 < j->j < k+1->Gf.mul a j≠1):=by
     refine hid fun j g1 g2=>?_
     by_cases e:j=k
     ·
      rw [e]; exact h1
     ·
      exact HN.out j g1 (by omega)
    have h2:((Gf.mul a k:Int) == 1)=false:=beq_eq_false_iff_ne.2 (by omega)
    clear h1
    go_wp2_with fail
    refine (refMul_c (a:Int) k _ (by omega) (by omega)).mono ?_
    rintro e w' ⟨rfl,rfl⟩
    simp only [Int.toNat_natCast]
    go_wp2
    go_round
    case rel=>exact ⟨k+1,by omega,by omega,by go_num,HS.out⟩
    case measure=>simp [intOf]; omega
  ·
   have HE:Hid (Gf.inv a=0):=by
    refine hid ?_
    by_cases a0:a=0
    ·
     exact HZ.out a0
    ·
     exact absurd (HP.out a0) (HN.out _ (by have:=HI0.out a0; omega) (by omega))
   go_wp2
   go_ret
   exact ⟨by rw [HE.out]; rfl,rfl⟩
end Go.Proofs.YtgjnnbomnoafcaaGreatDoor
