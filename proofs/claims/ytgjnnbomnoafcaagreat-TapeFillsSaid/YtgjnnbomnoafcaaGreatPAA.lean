/- Texts of one proof, joined: BSame, StrApart. -/
import Derived.Test.YtgjnnbomnoafcaaGreatPA
import Derived.Test.YtgjnnbomnoafcaaGreatPO
import Derived.Test.YtgjnnbomnoafcaaGreatPP
set_option linter.unusedVariables false
set_option linter.unusedSimpArgs false
namespace Go.Proofs.YtgjnnbomnoafcaaGreat
set_option linter.unusedVariables false
open Go.RowKit Go
set_option maxHeartbeats 400000 in
theorem same_some (b off n c b' off' n' c':Nat) (l l':List Nat) (w:World) (h1:n<=140737488355328) (h2:n'<=140737488355328)
  (hl:l.length=n) (hl':l'.length=n') (hc:∀ i,i < n->w.cell? ⟨b,off+i,none⟩=some (.int .u8 (nth l i)))
  (hc':∀ i,i < n'->w.cell? ⟨b',off'+i,none⟩=some (.int .u8 (nth l' i))) (hb:∀ i,nth l i < 256) (hb':∀ i,nth l' i < 256) (hn:n=n') :
  Calls Tryz.prog 17 #[.slice (some ⟨b,off,none⟩) n c,.slice (some ⟨b',off',none⟩) n' c'] w fun e w'=>e=.returned (.bool (decide (l=l')))/\Ext w w':=by
 subst hn
 have HC:=hid hc; have HC':=hid hc'; have HB:=hid hb; have HB':=hid hb'; have HL:=hid hl; have HL':=hid hl'
 clear hc hc' hb hb' hl hl'
 go_enter Tryz.func17,Tryz.ntmps17
 go_wp2
 go_loopw [5] (fun i wr=>∃ k m:Nat,k<=n/\i=.int .i64 k/\wr=w.drewN m/\∀ j,j < k->nth l j=nth l' j) (fun i _=>n - (intOf i).toNat)
 case atStart=>exact ⟨0,0,by omega,rfl,rfl,fun j h=>by omega⟩
 case round =>
  obtain ⟨k,m,hk,rfl,rfl,he⟩:=hrel
  have HE:=hid he
  clear he
  have hm:∀ j,j < k->nth l j=nth l' j:=HE.out
  by_cases hlt:k < n
  ·
   have HS:Hid (nth l k=nth l' k->∀ j,j < k+1->nth l j=nth l' j):=by
    refine hid fun hq j hj=>?_
    by_cases e:j=k
    ·
     rw [e]; exact hq
    ·
     exact hm j (by omega)
   have HN:Hid (nth l k≠nth l' k->decide (l=l')=false):=hid fun hq=>by
    rw [decide_eq_false_iff_not]; intro e; rw [e] at hq; exact hq rfl
   clear hm HE
   have c1:=HC.out k hlt
   have c2:=HC'.out k hlt
   have b1:=HB.out k
   have b2:=HB'.out k
   by_cases hq:nth l k=nth l' k
   ·
    have hq2:((nth l k:Int) != (nth l' k:Int))=false:=by simp [hq]
    have HQ:=hid hq; clear hq
    generalize nth l k=x at *
    generalize nth l' k=y at *
    go_wp2
    go_quiet (fail)
    go_wp2
    go_roundw
    case rel =>
     exact ⟨k+1,_,by omega,by go_num,rfl,HS.out HQ.out⟩
    case measure=>simp [intOf]; omega
   ·
    have hq2:((nth l k:Int) != (nth l' k:Int))=true:=bne_iff_ne.2 (by omega)
    have HD:=hid (HN.out hq)
    clear hq HN HS
    generalize nth l k=x at *
    generalize nth l' k=y at *
    go_wp2
    go_quiet (fail)
    go_wp2
    go_ret
    exact ⟨Zbo HD.out.symm,((Ext.refl w).drewN _).drewN _⟩
  ·
   have HD:Hid (decide (l=l')=true):=by
    refine hid ?_
    rw [decide_eq_true_iff]
    exact Zbu (by rw [HL.out,HL'.out]) (fun i hi=>hm i (by rw [HL.out] at hi; omega))
   clear hm HE
   go_wp2
   go_ret
   exact ⟨Zbo HD.out.symm,(Ext.refl w).drewN _⟩
theorem same_none (a:Option Addr) (c:Nat) (a':Option Addr) (c':Nat) (w:World) :
  Calls Tryz.prog 17 #[.slice a 0 c,.slice a' 0 c'] w fun e w'=>e=.returned (.bool true)/\Ext w w':=by
 go_enter Tryz.func17,Tryz.ntmps17
 go_wp2
 go_loopw [5] (fun i wr=>i=.int .i64 0/\wr=w) (fun _ _=>0)
 case atStart=>exact ⟨rfl,rfl⟩
 case round =>
  obtain ⟨rfl,rfl⟩:=hrel
  go_wp2
  go_ret
  exact ⟨rfl,Ext.refl _⟩
theorem same_unlike (a:Option Addr) (n c:Nat) (a':Option Addr) (n' c':Nat) (w:World) (hn:n≠n') :
  Calls Tryz.prog 17 #[.slice a n c,.slice a' n' c'] w fun e w'=>e=.returned (.bool false)/\Ext w w':=by
 have hq:((n:Int) != (n':Int))=true:=bne_iff_ne.2 (by omega)
 clear hn
 go_enter Tryz.func17,Tryz.ntmps17
 go_wp2
 go_ret
 exact ⟨rfl,Ext.refl _⟩
theorem same_c {a a':Option Addr} {n n':Nat} {l l':List Nat} (c c':Nat) {w:World} (h:BytesAt w a n l) (h':BytesAt w a' n' l') :
  Calls Tryz.prog 17 #[.slice a n c,.slice a' n' c'] w fun e w'=>e=.returned (.bool (decide (l=l')))/\Ext w w':=by
 by_cases hn:n=n'
 ·
  subst hn
  by_cases h0:n=0
  ·
   subst h0
   have e1:=List.length_eq_zero_iff.1 h.len
   have e2:=List.length_eq_zero_iff.1 h'.len
   subst e1 e2
   exact same_none a c a' c' w
  ·
   rcases h.cells with h1 | ⟨b,off,rfl,hc⟩
   ·
    exact (h0 h1).elim
   ·
    rcases h'.cells with h1 | ⟨b',off',rfl,hc'⟩
    ·
     exact (h0 h1).elim
    ·
     exact same_some b off n c b' off' n c' l l' w h.small h'.small h.len h'.len hc hc' (Za9 h.byte) (Za9 h'.byte) rfl
 ·
  have e:decide (l=l')=false:=by
   rw [decide_eq_false_iff_not]; intro e; exact hn (by rw [<- h.len,<- h'.len,e])
  rw [e]
  exact same_unlike a n c a' n' c' w hn
open Go Go.RowKit
def AP (R:Rck) (c:Cfg) (m:Nat) (f:Strs):Prop:=∃ B,SR R c m f allU B/\∀ d j,B d j=false
namespace AP
variable {R:Rck} {c:Cfg} {m:Nat} {f:Strs}
end AP
def secV (b c:Nat):Array Value:=#[.slice (some ⟨b,0,none⟩) 128 c]
structure HadAt (w:World) (B:Nat) (v:Value) (q:Nat) (h:Nat->List Nat) (bk cp:Nat->Nat):Prop where
 own:OwnVs w B 38 1 v ((List.range q).map fun i=>secV (bk i) (cp i))
 at_:∀ i,i < q->BytesAt w (some ⟨bk i,0,none⟩) 128 (h i)
 lo:∀ i,i < q->B<=bk i
 hi:∀ i,i < q->bk i < w.heap.size
 ne:∀ i,i < q->v.ownBlock≠some (bk i)
namespace HadAt
variable {w w':World} {B:Nat} {v:Value} {q:Nat} {h:Nat->List Nat} {bk cp:Nat->Nat}
end HadAt
end Go.Proofs.YtgjnnbomnoafcaaGreat
