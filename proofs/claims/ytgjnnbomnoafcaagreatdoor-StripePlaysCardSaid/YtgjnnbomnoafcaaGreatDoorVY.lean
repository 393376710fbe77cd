/- Texts of one proof, joined: StripePure, CodeH, CodeI, CodeK, CodeLen, PartsPure. -/
import Derived.Test.YtgjnnbomnoafcaaGreatDoorVQ
import Derived.Test.YtgjnnbomnoafcaaGreatDoorVV
import Derived.Test.YtgjnnbomnoafcaaGreatDoorVW
import Derived.Test.YtgjnnbomnoafcaaGreatDoorVX
set_option linter.unusedVariables false
set_option linter.unusedSimpArgs false
namespace Go.Proofs.YtgjnnbomnoafcaaGreatDoor
set_option linter.unusedVariables false
def sSPut:ByteArray:=⟨#[115,116,114,105,112,101,46,80,117,116]⟩
def sSGet:ByteArray:=⟨#[115,116,114,105,112,101,46,71,101,116]⟩
def sfrm (s gen:Int) (d:Nat) (b:List Nat):Frm:=⟨3,d,s,gen,b⟩
def sfrag (c:Cfg) (l:List (List Nat)) (d:Nat):List Nat:=Cd.mix (Cd.row c.k.toNat d) l
def lookStep (g:Nat->Option Frm) (q:Int × List (Nat × List Nat)) (d:Nat):Int × List (Nat × List Nat) :=
 match g d with
 | none=>q
 | some f=>if f.gen=0\/f.gen < q.1 then q else if q.1 < f.gen then (f.gen,[(d,f.data)]) else (q.1,q.2++[(d,f.data)])
def decoded (c:Cfg) (ps:List (Nat × List Nat)):List (List Nat):=(Cd.solve ((ps.take c.k.toNat).map fun p=>Cd.row c.k.toNat p.1) ((ps.take c.k.toNat).map fun p=>p.2)).2
namespace Rck
def ssec (c:Cfg) (s:Int):Int:=1+c.slots*c.k+s
def sknown (R:Rck) (c:Cfg) (s:Int):Bool:=R.fits c && decide (0<=s) && decide (s < c.stripes)
def srow (c:Cfg) (s gen:Int) (l:List (List Nat)) (R:Rck) (d:Nat):Option Err × Rck:=R.write d (ssec c s) (sfrm s gen d (sfrag c l d)).put
def sputs (R:Rck) (c:Cfg) (s gen:Int) (l:List (List Nat)):Option Err × Rck :=
 match (each (srow c s gen l) R.online R).1 with
 | some e=>(some e,(each (srow c s gen l) R.online R).2)
 | none=>each (fun R d=>R.flush (d:Nat)) (each (srow c s gen l) R.online R).2.online (each (srow c s gen l) R.online R).2
def sputOk (R:Rck) (c:Cfg) (s gen:Int) (l:List (List Nat)):Bool:=R.sknown c s && decide (1<=gen) && decide (gen<=1152921504606846976) && decide ((l.length:Int)=c.k)
def sput (R:Rck) (c:Cfg) (s gen:Int) (l:List (List Nat)):Option Err × Rck :=
 if R.sputOk c s gen l=true then ((R.sputs c s gen l).1.map (.fault sSPut s),(R.sputs c s gen l).2) else (some (.fault sSPut s (.no 1)),R)
def sgood (R:Rck) (c:Cfg) (s:Int) (d:Nat):Option Frm:=R.get d (ssec c s) 3 d s
def slook (R:Rck) (c:Cfg) (s:Int):Int × List (Nat × List Nat):=if R.sknown c s=true then (List.range c.n.toNat).foldl (lookStep (R.sgood c s)) (0,[]) else (0,[])
def sget (R:Rck) (c:Cfg) (s:Int):List (List Nat) × Int × Option Err :=
 if R.sknown c s=true then
  if R.off=true\/(R.online.length:Int) < c.k then ([],0,some (.fault sSGet s (.no 7)))
  else if ((R.slook c s).2.length:Int) < c.k then ([],0,some (.fault sSGet s (.loss s (R.slook c s).2.length c.k)))
  else (decoded c (R.slook c s).2,(R.slook c s).1,none)
 else ([],0,some (.fault sSGet s (.no 1)))
end Rck
def newG (g:Nat->Option Frm):Nat->Int
 | 0=>0
 | n+1=>match g n with
  | some f=>max (newG g n) f.gen
  | none=>newG g n
def partAt (g:Nat->Option Frm) (G:Int) (d:Nat):Option (Nat × List Nat):=(g d).bind fun f=>if f.gen=G/\f.gen≠0 then some (d,f.data) else none
def partsG (g:Nat->Option Frm) (G:Int) (n:Nat):List (Nat × List Nat):=(List.range n).filterMap (partAt g G)
theorem Zbg (g:Nat->Option Frm) (G:Int) (n:Nat):partsG g G (n+1)=partsG g G n++(partAt g G n).toList:=by
 unfold partsG
 rw [List.range_succ,List.filterMap_append]
 congr 1
theorem newG_nonneg (g:Nat->Option Frm):∀ n,0<=newG g n
 | 0=>Int.le_refl _
 | n+1=>by
  have:=newG_nonneg g n
  unfold newG
  split
  ·
   omega
  ·
   exact this
theorem newG_ge (g:Nat->Option Frm):∀ (n d:Nat) (f:Frm),d < n->g d=some f->f.gen<=newG g n
 | n+1,d,f,hd,hf=>by
  unfold newG
  by_cases e:d=n
  ·
   subst e; rw [hf]; exact Int.le_max_right _ _
  ·
   have:=newG_ge g n d f (by omega) hf
   split
   ·
    omega
   ·
    exact this
theorem newG_eq {g:Nat->Option Frm} {G:Int} (hG:0<=G):∀ n,(∀ d f,d < n->g d=some f->f.gen<=G)->newG g n<=G
 | 0,_=>hG
 | n+1,h=>by
  have:=newG_eq hG n fun d f hd=>h d f (by omega)
  unfold newG
  split
  ·
   rename_i f hf
   have:=h n f (by omega) hf
   omega
  ·
   exact this
theorem partsG_none {g:Nat->Option Frm} {G:Int} {n:Nat} (h:newG g n < G):partsG g G n=[]:=by
 unfold partsG
 rw [List.filterMap_eq_nil_iff]
 intro d hd
 have hd:=List.mem_range.1 hd
 unfold partAt
 rcases hg:g d with _ | f
 ·
  rfl
 ·
  have:=newG_ge g n d f hd hg
  simp only [Option.bind_some]
  rw [if_neg (by omega)]
theorem look_fold (g:Nat->Option Frm) (n:Nat):(List.range n).foldl (lookStep g) (0,[])=(newG g n,partsG g (newG g n) n):=by
 induction n with
 | zero=>rfl
 | succ n ih =>
  rw [List.range_succ,List.foldl_append,ih]
  show lookStep g (newG g n,partsG g (newG g n) n) n=_
  have h0:=newG_nonneg g n
  rw [Zbg]
  unfold lookStep
  rcases hg:g n with _ | f
  ·
   have e1:newG g (n+1)=newG g n:=by show (match g n with | some f=>max (newG g n) f.gen | none=>newG g n)=_; rw [hg]
   rw [e1]
   unfold partAt
   simp [hg]
  ·
   have e1:newG g (n+1)=max (newG g n) f.gen:=by show (match g n with | some f=>max (newG g n) f.gen | none=>newG g n)=_; rw [hg]
   have e2:∀ G,partAt g G n=if f.gen=G/\f.gen≠0 then some (n,f.data) else none:=fun G=>by unfold partAt; rw [hg]; rfl
   rw [e1,e2]
   simp only
   by_cases h1:f.gen=0\/f.gen < newG g n
   ·
    rw [if_pos h1,show max (newG g n) f.gen=newG g n by omega,if_neg (by omega)]
    simp
   ·
    rw [if_neg h1]
    by_cases h2:newG g n < f.gen
    ·
     rw [if_pos h2,show max (newG g n) f.gen=f.gen by omega,if_pos ⟨rfl,by omega⟩,partsG_none h2]
     rfl
    ·
     rw [if_neg h2,show max (newG g n) f.gen=newG g n by omega,if_pos ⟨by omega,by omega⟩]
     rfl
open Go Go.RowKit Gf
theorem infoPart:(Tryz.prog.info? 229).map (fun i=>(i.zero,i.size,i.bytes))=some (some (.agg #[.int .i64 0,.slice none 0 0]),2,32):=by kernel_rfl
def metV (f:Nat->Bool):Array Value:=((List.range 8).map fun i=>Value.int .i64 (if f i then 1 else 0)).toArray
theorem zero_met (w:World):Sem.run Tryz.prog (zeroValue 309) w=.ok (.agg (metV fun _=>false)) w:=by kernel_rfl
theorem metV_get (f:Nat->Bool) {i:Nat} (h:i < 8):(metV f)[i]?=some (.int .i64 (if f i then 1 else 0)):=by simp [metV,h]
theorem metV_set (f:Nat->Bool) {i:Nat} (h:i < 8):(metV f).setIfInBounds i (.int .i64 1)=metV (fun q=>f q || q == i):=by
 apply Array.ext_getElem?
 intro q
 rw [Array.getElem?_setIfInBounds]
 by_cases e:i=q
 ·
  subst e
  rw [if_pos rfl,metV_get _ h]
  simp [metV,h]
 ·
  rw [if_neg e]
  by_cases hq:q < 8
  ·
   rw [metV_get _ hq,metV_get _ hq]
   have:(q == i)=false:=by simp; omega
   simp [this]
  ·
   rw [Array.getElem?_eq_none (by simp [metV]; omega),Array.getElem?_eq_none (by simp [metV]; omega)]
def partC (w:World) (pb i:Nat):Array Value:=#[(w.cell? ⟨pb,i*2,none⟩).getD undef,(w.cell? ⟨pb,i*2+1,none⟩).getD undef]
def metF (ps:List (Nat × List Nat)) (n i:Nat):Bool:=(ps.take n).any fun p=>p.1 == i
theorem metF_succ {ps:List (Nat × List Nat)} {n:Nat} {p:Nat × List Nat} (h:ps[n]?=some p):metF ps (n+1)=fun q=>metF ps n q || q == p.1:=by
 funext q
 unfold metF
 rw [List.take_add_one,h,Option.toList_some,List.any_append]
 congr 1
 simp only [List.any_cons,List.any_nil,Bool.or_false]
 rw [Bool.eq_iff_iff]
 simp only [beq_iff_eq]
 exact ⟨fun e=>e.symm,fun e=>e.symm⟩
theorem metF_new {ps:List (Nat × List Nat)} (hn:(ps.map (·.1)).Nodup) {n:Nat} {p:Nat × List Nat} (h:ps[n]?=some p) {m:Nat} (hm:m<=n):metF ps m p.1=false:=by
 unfold metF
 rw [List.any_eq_false]
 intro q hq e
 obtain ⟨i,hi,he⟩:=List.mem_iff_getElem.1 hq
 rw [List.length_take] at hi
 rw [List.getElem_take] at he
 have hnl:n < ps.length:=(List.getElem?_eq_some_iff.1 h).1
 have hp:ps[n]=p:=(List.getElem?_eq_some_iff.1 h).2
 have h1:(ps.map (·.1))[i]'(by simp; omega)=(ps.map (·.1))[n]'(by simp; omega):=by
  rw [List.getElem_map,List.getElem_map,he,hp]
  simpa using e
 have:=(List.getElem_inj hn).1 h1
 omega
structure ChSt (w0 wr:World) (mb pb k:Nat) (ps:List (Nat × List Nat)) (j:Nat) (v:Value):Prop where
 ext:Ext w0 wr
 met:wr.heap[mb]?=some (.cells (metV (metF ps (min j k))) 309 (0,0))
 new:w0.heap.size<=mb
 own:OwnVs wr (mb+1) 229 2 v ((List.range (min j k)).map (partC w0 pb))
def ChPost (w:World) (pb k L:Nat) (ps:List (Nat × List Nat)) (e:Ending) (w':World):Prop:=∃ g c,e=.returned (.slice (some ⟨g,0,none⟩) k c)/\PartsAt w' g L (ps.take k)/\Ext w w'
theorem ChSt.out {w0 wr:World} {mb pb k L:Nat} {ps:List (Nat × List Nat)} {v:Value} {N:Nat} (h:ChSt w0 wr mb pb k ps N v) (hN:ps.length=N) (hk:k<=N) (k1:1<=k) (hp:PartsAt w0 pb L ps) (L0:0 < L):∃ g c,v=.slice (some ⟨g,0,none⟩) k c/\PartsAt wr g L (ps.take k):=by
 have ho:=h.own
 rw [Nat.min_eq_right hk] at ho
 obtain ⟨a,c,e,q⟩:=ho.slice
 rw [List.length_map,List.length_range] at e
 rcases q with ⟨q,_⟩ | ⟨g,rfl,_,_,_,hv⟩
 ·
  have:=congrArg List.length q; simp at this; omega
 ·
  refine ⟨g,c,e,fun i p hi=>?_⟩
  have hik:i < k:=by
   rcases Nat.lt_or_ge i k with r | r
   ·
    exact r
   ·
    rw [List.getElem?_eq_none (by rw [List.length_take]; omega)] at hi; cases hi
  rw [List.getElem?_take,if_pos hik] at hi
  obtain ⟨z1,b,off,c',z2,hb⟩:=hp i p hi
  have hvi:=hv i (partC w0 pb i) (by simp [hik])
  have e0:=hvi 0 _ rfl
  have e1:=hvi 1 _ rfl
  rw [z1] at e0
  rw [z2] at e1
  exact ⟨e0,b,off,c',e1,hb.onlyG h.ext (fun x=>x)⟩
theorem ChSt.more {w0 wr w':World} {mb pb k:Nat} {ps:List (Nat × List Nat)} {j:Nat} {v:Value} (h:ChSt w0 wr mb pb k ps j v) (e:Ext wr w'):ChSt w0 w' mb pb k ps j v:=⟨Ext.trans h.ext e,e.at h.met,h.new,h.own.ext e⟩
set_option maxRecDepth 100000 in
set_option maxHeartbeats 2000000 in
theorem chosen_c {w:World} {cb k n L:Nat} (h:CodeAt w cb k n) (pb pc N:Nat) (ps:List (Nat × List Nat)) (hp:PartsAt w pb L ps) (hN:ps.length=N) (hk:k<=N) (k1:1<=k) (N8:N<=8) (L0:0 < L) (hpn:∀ p∈ps,p.1 < 8) (hnd:(ps.map (·.1)).Nodup) :
  Calls Tryz.prog 195 #[.pointer (some ⟨cb,0,none⟩),.slice (some ⟨pb,0,none⟩) N pc] w (ChPost w pb k L ps):=by
 have hzm:=zero_met
 have hzp:=zero_part
 have HC0:=hid h.at0
 have HPA:=hid hp
 have HPS:=hid hN
 have HND:=hid hnd
 have HPN:=hid hpn
 obtain ⟨W0,hW0⟩:∃ W,w.alloc (.cells (metV fun _=>false) 309)=W:=⟨_,rfl⟩
 obtain ⟨mb,hmb⟩:∃ mb,w.heap.size=mb:=⟨_,rfl⟩
 have HS0:=hid (show ChSt w W0 mb pb k ps 0 (.slice none 0 0) from ⟨hW0▸(Ext.refl w).alloc _,by rw [Nat.zero_min,<- hW0,<- hmb]; exact Zad,by omega,by rw [Nat.zero_min]; exact OwnVs.nil _ _ _ _⟩)
 have HW0:=hid hW0; have HMB:=hid hmb
 clear h hp hN hnd hpn hW0 hmb
 go_enter Tryz.func195,Tryz.ntmps195
 go_wp2
 rw [HW0.out,HMB.out]
 clear hzm
 go_loopw [11,5] (fun t s5 wr=>∃ (j:Nat) (v:Value),t=.int .i64 j/\v=s5/\j<=N/\ChSt w wr mb pb k ps j v) (fun t _ _=>N - (intOf t).toNat)
 case atStart=>exact ⟨0,_,rfl,rfl,by omega,HS0.out⟩
 case round =>
  clear HS0
  obtain ⟨j,v,rfl,e5,hj,hst⟩:=hrel
  subst e5
  have HST:=hid hst
  clear hst
  by_cases hjN:j < N
  ·
   obtain ⟨⟨pat,pdat⟩,hpj⟩:∃ p,ps[j]?=some p:=⟨_,List.getElem?_eq_getElem (by rw [HPS.out]; exact hjN)⟩
   obtain ⟨z1,b,off,pcap,z2,_⟩:=HPA.out j (pat,pdat) hpj
   replace z1:w.cell? ⟨pb,j*2,none⟩=some (.int .i64 pat):=z1
   have hp8:pat < 8:=HPN.out (pat,pdat) (List.mem_of_getElem? hpj)
   obtain ⟨A,hA⟩:∃ A:Array Value,partC w pb j=A:=⟨_,rfl⟩
   have hA2:A=#[.int .i64 pat,.slice (some ⟨b,off,none⟩) L pcap]:=by rw [<- hA]; unfold partC; rw [z1,z2]; rfl
   obtain ⟨W1,hW1⟩:∃ W,wr.alloc (.cells A 229)=W:=⟨_,rfl⟩
   obtain ⟨pg,hpg⟩:∃ pg,wr.heap.size=pg:=⟨_,rfl⟩
   have X1:=hid (show Ext wr W1 from hW1▸(Ext.refl wr).alloc _)
   have P1:=hid (show W1.heap[pg]?=some (.cells A 229 (0,0)) from by rw [<- hW1,<- hpg]; exact Zad)
   have HLA:=hid (show ∀ i v,A.toList[i]?=some v->wr.cell? ((⟨pb,j*2,none⟩:Addr).add i)=some v from fun i v hv=>by
    rw [hA2] at hv
    have ea:∀ q,(⟨pb,j*2,none⟩:Addr).add q=⟨pb,j*2+q,none⟩:=fun q=>by unfold Addr.add; split<;>simp_all
    rw [ea]
    rcases i with _ | _ | i
    ·
     simp at hv; subst hv; exact HST.out.ext.cell z1
    ·
     simp at hv; subst hv; exact HST.out.ext.cell z2
    ·
     simp at hv)
   have hbs:(wr.alloc (.cells #[.int .i64 0,.slice none 0 0] 229)).heap[wr.heap.size]?=some (.cells #[.int .i64 0,.slice none 0 0] 229 (0,0)):=Zad
   have HAS:=hid (show A.size=2 by rw [hA2]; rfl)
   have HA1:=hid (show ∀ u∈A.toList,u.oneCell'=true by rw [hA2]; intro u hu; simp at hu; rcases hu with rfl | rfl<;>rfl)
   have HAA:=hid hA
   have HW1:=hid hW1; have HPG:=hid hpg; have HPJ:=hid hpj
   have HM1:=hid (HST.out.more X1.out)
   have c1:W1.cell? ⟨pg,0,none⟩=some (.int .i64 pat):=(Zaf P1.out).trans (by rw [hA2]; rfl)
   have c2:W1.cell? ⟨mb,pat,none⟩=some (.int .i64 0):=(Zaf HM1.out.met).trans (by rw [metV_get _ hp8,metF_new HND.out hpj (Nat.min_le_left _ _)]; rfl)
   have c3:W1.cell? ⟨cb,0,none⟩=some (.int .i64 k):=HM1.out.ext.cell HC0.out
   have f2:W1.frozen? ⟨mb,pat,none⟩=false:=Zax HM1.out.met
   obtain ⟨a,cc,ev,_⟩:=HST.out.own.slice
   rw [List.length_map,List.length_range] at ev
   have HEV:=hid ev
   subst ev
   have j0:(0:Int)<=(j:Int):=by omega
   have j1:(j:Int) < (N:Int):=by omega
   have n0:(0:Int)<=(pat:Int):=by omega
   have n1:(pat:Int) < 8:=by omega
   clear hpj z1 z2 hA hA2 hW1 hpg
   by_cases hjk:j < k
   ·
    have hmin:min j k=j:=by omega
    have hmin2:min (j+1) k=j+1:=by omega
    rw [hmin] at HM1 HEV ⊢
    have b1:((j:Int) == (k:Int))=false:=by rw [beq_eq_false_iff_ne]; omega
    have o2:Only (fun q=>q=mb) W1 (W1.setCell ⟨mb,pat,none⟩ (.int .i64 1)):=Zap W1 mb pat _
    obtain ⟨W2,hW2⟩:∃ W,W1.setCell ⟨mb,pat,none⟩ (.int .i64 1)=W:=⟨_,rfl⟩
    have hm1:=HM1.out.met
    have ho1:=HM1.out.own
    rw [hmin] at hm1 ho1
    have hme:W2.heap[mb]?=some (.cells (metV (metF ps (j+1))) 309 (0,0)):=by
     have:=Zar (i:=pat) hm1 (.int .i64 1)
     rw [hW2,metV_set _ hp8] at this
     rw [metF_succ HPJ.out]; exact this
    have ho2:OwnVs W2 (mb+1) 229 2 (.slice a j cc) ((List.range j).map (partC w pb)):=by
     have:=ho1.only o2 (fun q hq e=>by have:=(ho1.lt q hq).1; have e:q=mb:=e; omega)
     rw [hW2] at this
     exact this
    rw [hW2] at o2
    have hpn:mb≠pg:=by have:=lt_of_block HST.out.met; have:=HPG.out; omega
    have P2:=hid (o2.at P1.out (fun q=>hpn q.symm))
    obtain ⟨v',W3,hap,ho3,hn3,hx3⟩:=ho2.add (tsl:=121) Tryz.underlying121 infoPart rfl (by omega) A HAS.out HA1.out (by simp; omega) (by omega) (by have:=lt_of_block hme; omega)
    have hvn:∀ q,Value.ownBlock (.slice a j cc)=some q->q≠mb:=fun q hq=>by have:=(ho2.lt q hq).1; omega
    have HN:=hid (show ChSt w W3 mb pb k ps (j+1) v' from by
     refine ⟨?_,?_,HM1.out.new,?_⟩
     ·
      have e1:Ext w W2:=Ext.then HM1.out.ext o2 (fun i hi q=>by have:=HM1.out.new; have q:i=mb:=q; omega)
      exact hx3 w (by have:=HM1.out.new; omega) e1
     ·
      rw [hmin2]; exact hn3.at hme (fun q=>hvn mb q rfl)
     ·
      rw [hmin2,List.range_succ,List.map_append]
      simp only [List.map_cons,List.map_nil]
      rw [HAA.out]; exact ho3)
    have HW2:=hid hW2
    clear hme ho2 o2 ho3 hn3 hx3 hvn hm1 ho1 hW2 hpn
    go_wp2_with (first
     | (guard_target=wpList _ _ _ (⟨some _,Op.load _ _,_,_,_,none⟩::_) _ _; refine Zae rfl 229 _ rfl ⟨pb,j*2,none⟩ rfl A (by rw [HAS.out]; exact aggPart) HLA.out ?_)
     | (guard_target=wpList _ _ _ (⟨none,Op.store _ _ _,_,_,_,none⟩::_) _ _; have hb0:=hbs; clear hbs; refine Zab rfl 229 _ _ rfl wr.heap.size rfl A _ rfl 229 (by rw [HAS.out]; exact aggPart) hb0 (by rw [HAS.out]; rfl) HA1.out ?_; rw [Zao,HW1.out,HPG.out])
     | (guard_target=wpList _ _ _ (⟨some _,Op.load _ _,_,_,_,none⟩::_) _ _; refine Zae rfl 229 _ rfl ⟨pg,0,none⟩ rfl A (by rw [HAS.out]; exact aggPart) (by rw [HW2.out]; exact Zaj P2.out) ?_)
     | (guard_target=wpList _ _ _ (⟨some _,Op.buildSlice _ _ _,_,_,_,none⟩::_) _ _; refine Zag rfl 121 229 _ rfl A _ _ 2 32 Tryz.underlying121 infoPart (by omega) (by omega) rfl rfl HAS.out ?_)
     | (at_builtin; rw [HW2.out]; refine wpList_append_run rfl _ _ _ rfl _ _ _ _ rfl rfl hap ?_))
    go_roundw
    case rel=>exact ⟨j+1,_,by go_num,rfl,by omega,HN.out⟩
    case measure=>simp [intOf]; omega
   ·
    have hmin:min j k=k:=by omega
    have hmin2:min (j+1) k=k:=by omega
    have hm1:=HM1.out.met
    have ho1:=HM1.out.own
    rw [hmin] at hm1 ho1
    have HN:=hid (show ChSt w W1 mb pb k ps (j+1) (.slice a k cc) from ⟨HM1.out.ext,by rw [hmin2]; exact hm1,HM1.out.new,by rw [hmin2]; exact ho1⟩)
    clear hm1 ho1
    rw [hmin]
    have b1:((k:Int) == (k:Int))=true:=by simp
    clear b1
    go_wp2_with (first
     | (guard_target=wpList _ _ _ (⟨some _,Op.load _ _,_,_,_,none⟩::_) _ _; refine Zae rfl 229 _ rfl ⟨pb,j*2,none⟩ rfl A (by rw [HAS.out]; exact aggPart) HLA.out ?_)
     | (guard_target=wpList _ _ _ (⟨none,Op.store _ _ _,_,_,_,none⟩::_) _ _; have hb0:=hbs; clear hbs; refine Zab rfl 229 _ _ rfl wr.heap.size rfl A _ rfl 229 (by rw [HAS.out]; exact aggPart) hb0 (by rw [HAS.out]; rfl) HA1.out ?_; rw [Zao,HW1.out,HPG.out]))
    go_roundw
    case rel=>exact ⟨j+1,_,by go_num,rfl,by omega,HN.out⟩
    case measure=>simp [intOf]; omega
  ·
   obtain rfl:N=j:=by omega
   obtain ⟨g,c,rfl,hpa⟩:=HST.out.out HPS.out hk k1 HPA.out L0
   have HP:=hid hpa
   clear hpa
   go_wp2
   go_ret
   exact ⟨g,c,rfl,HP.out,HST.out.ext⟩
def DecPost (w:World) (k:Nat) (q:List (List Nat)) (e:Ending) (w':World):Prop:=∃ g c,e=.returned (.tuple #[.slice (some ⟨g,0,none⟩) k c,.nilIface])/\RowsAt w' g q/\Ext w w'
attribute [local irreducible] wpSQ
set_option maxRecDepth 100000 in
set_option maxHeartbeats 4000000 in
theorem decode_c {w:World} {cb k n L:Nat} (h:CodeAt w cb k n) (pb pc N:Nat) (ps:List (Nat × List Nat)) (hp:PartsAt w pb L ps) (hN:ps.length=N) (hk:k<=N) (k1:1<=k) (N8:N<=8) (L0:0 < L) (hL:L<=200) (hpn:∀ p∈ps,p.1 < n) (hn8:n<=8) (hnd:(ps.map (·.1)).Nodup) (hpl:∀ p∈ps,p.2.length=L/\∀ y∈p.2,y < 256) :
  Calls Tryz.prog 153 #[.pointer (some ⟨cb,0,none⟩),.slice (some ⟨pb,0,none⟩) N pc] w (DecPost w k (Cd.solve ((ps.take k).map fun p=>Cd.row k p.1) ((ps.take k).map fun p=>p.2)).2):=by
 have hzp:=zero_part
 obtain ⟨rg,rc,z3,_⟩:=h.at2
 have HC:=hid h
 have HPA:=hid hp
 have HPS:=hid hN
 have HND:=hid hnd
 have HPN:=hid hpn
 have HPL:=hid hpl
 have HZ3:=hid z3
 obtain ⟨y1,b0,off0,pc0,y2,_⟩:∃ y1:True,∃ b off c,w.cell? ⟨pb,1,none⟩=some (.slice (some ⟨b,off,none⟩) L c)/\True:=by
  obtain ⟨p,hp0⟩:∃ p,ps[0]?=some p:=⟨_,List.getElem?_eq_getElem (by omega)⟩
  obtain ⟨_,b,off,c,q,_⟩:=hp 0 p hp0
  exact ⟨trivial,b,off,c,by simpa using q,trivial⟩
 have HY2:=hid y2
 clear h hp hN hnd hpn hpl z3 y1 y2
 go_enter Tryz.func153,Tryz.ntmps153
 go_wp2
 go_loopw [11] (fun t wr=>∃ j:Nat,t=.int .i64 j/\j<=N/\Ext w wr) (fun t _=>N - (intOf t).toNat)
 case atStart=>exact ⟨0,rfl,by omega,Ext.refl _⟩
 case round =>
  obtain ⟨j,rfl,hj,hx⟩:=hrel
  have HX:=hid hx
  clear hx
  by_cases hjN:j < N
  ·
   obtain ⟨⟨pat,pdat⟩,hpj⟩:∃ p,ps[j]?=some p:=⟨_,List.getElem?_eq_getElem (by rw [HPS.out]; exact hjN)⟩
   obtain ⟨z1,b,off,pcap,z2,_⟩:=HPA.out j (pat,pdat) hpj
   replace z1:w.cell? ⟨pb,j*2,none⟩=some (.int .i64 pat):=z1
   have hpn':pat < n:=HPN.out (pat,pdat) (List.mem_of_getElem? hpj)
   obtain ⟨A,hA⟩:∃ A:Array Value,#[Value.int .i64 pat,.slice (some ⟨b,off,none⟩) L pcap]=A:=⟨_,rfl⟩
   obtain ⟨W1,hW1⟩:∃ W,wr.alloc (.cells A 229)=W:=⟨_,rfl⟩
   obtain ⟨pg,hpg⟩:∃ pg,wr.heap.size=pg:=⟨_,rfl⟩
   have X1:=hid (show Ext wr W1 from hW1▸(Ext.refl wr).alloc _)
   have P1:=hid (show W1.heap[pg]?=some (.cells A 229 (0,0)) from by rw [<- hW1,<- hpg]; exact Zad)
   have HLA:=hid (show ∀ i v,A.toList[i]?=some v->wr.cell? ((⟨pb,j*2,none⟩:Addr).add i)=some v from fun i v hv=>by
    rw [<- hA] at hv
    have ea:∀ q,(⟨pb,j*2,none⟩:Addr).add q=⟨pb,j*2+q,none⟩:=fun q=>by unfold Addr.add; split<;>simp_all
    rw [ea]
    rcases i with _ | _ | i
    ·
     simp at hv; subst hv; exact HX.out.cell z1
    ·
     simp at hv; subst hv; exact HX.out.cell z2
    ·
     simp at hv)
   have hbs:(wr.alloc (.cells #[.int .i64 0,.slice none 0 0] 229)).heap[wr.heap.size]?=some (.cells #[.int .i64 0,.slice none 0 0] 229 (0,0)):=Zad
   have HAS:=hid (show A.size=2 by rw [<- hA]; rfl)
   have HA1:=hid (show ∀ u∈A.toList,u.oneCell'=true by rw [<- hA]; intro u hu; simp at hu; rcases hu with rfl | rfl<;>rfl)
   have HW1:=hid hW1; have HPG:=hid hpg
   have XW:=hid (Ext.trans HX.out X1.out)
   have xd:Ext W1 W1.drew:=(Ext.refl W1).drew
   have g1:∀ z:SW Ext W1.drew,z.w.cell? ⟨pg,0,none⟩=some (.int .i64 pat):=fun z=>(Ext.trans xd z.ext).cell ((Zaf P1.out).trans (by rw [<- hA]; rfl))
   have g2:∀ z:SW Ext W1.drew,z.w.cell? ⟨pg,1,none⟩=some (.slice (some ⟨b,off,none⟩) L pcap):=fun z=>(Ext.trans xd z.ext).cell ((Zaf P1.out).trans (by rw [<- hA]; rfl))
   have g3:∀ z:SW Ext W1.drew,z.w.cell? ⟨cb,2,none⟩=some (.slice (some ⟨rg,0,none⟩) n rc):=fun z=>(Ext.trans xd z.ext).cell (XW.out.cell HZ3.out)
   have g4:∀ z:SW Ext W1.drew,z.w.cell? ⟨pb,1,none⟩=some (.slice (some ⟨b0,off0,none⟩) L pc0):=fun z=>(Ext.trans xd z.ext).cell (XW.out.cell HY2.out)
   have HXD:=hid xd
   have j0:(0:Int)<=(j:Int):=by omega
   have j1:(j:Int) < (N:Int):=by omega
   have n0:¬(pat:Int) < 0:=by omega
   have n1:¬(pat:Int) ≥ (n:Int):=by omega
   have NN:(0:Int) < (N:Int):=by omega
   have N0:0 < N:=by omega
   have d1:decide (n<=pat)=false:=decide_eq_false (by omega)
   have d0:decide ((pat:Int) < 0)=false:=decide_eq_false n0
   clear hpj z1 z2 hA hW1 hpg xd
   go_wp2_with (first
    | (guard_target=wpList _ _ _ (⟨some _,Op.load _ _,_,_,_,none⟩::_) _ _; refine Zae rfl 229 _ rfl ⟨pb,j*2,none⟩ rfl A (by rw [HAS.out]; exact aggPart) HLA.out ?_)
    | (guard_target=wpList _ _ _ (⟨none,Op.store _ _ _,_,_,_,none⟩::_) _ _; have hb0:=hbs; clear hbs; refine Zab rfl 229 _ _ rfl wr.heap.size rfl A _ rfl 229 (by rw [HAS.out]; exact aggPart) hb0 (by rw [HAS.out]; rfl) HA1.out ?_; rw [Zao,HW1.out,HPG.out]))
   refine Zal (S:=Ext) (.fin [0,1,2,3,4,5,6,7,8,9,10,11,12,13,14,15,16,17,18,19,20,21,22,23]) (by kernel_rfl) (by kernel_rfl) (fun _ _ d _ _ h=>by cases d<;>exact h) ?_
   rw [wpS]
   simp only [opsAt,opA,opB,opC,opD,opE,opF,opG]
   iterate 24 ((refine Zaa (fun K hK=>?_); go_simp; refine hK _ ?_; clear hK K))
   refine Zac ?_
   intro V hV
   have HV:=hid (Ext.trans XW.out (Ext.trans HXD.out hV))
   clear hV g1 g2 g3 g4
   go_wp2
   go_roundw
   case rel=>exact ⟨j+1,by go_num,by omega,HV.out⟩
   case measure=>simp [intOf]; omega
  ·
   obtain rfl:N=j:=by omega
   have HCR:=hid (HC.out.ext HX.out)
   have HPR:=hid (show PartsAt wr pb L ps from fun i p hi=>by
    obtain ⟨q1,b,off,c,q2,q3⟩:=HPA.out i p hi
    exact ⟨HX.out.cell q1,b,off,c,HX.out.cell q2,q3.onlyG HX.out (fun x=>x)⟩)
   go_wp2_with fail
   refine (chosen_c HCR.out pb pc N ps HPR.out HPS.out hk k1 N8 L0 (fun p hp=>by have:=HPN.out p hp; omega) HND.out).mono ?_
   rintro e w2 ⟨g,c,rfl,hpa,x2⟩
   have HP2:=hid hpa
   have HX2:=hid (Ext.trans HX.out x2)
   have HC2:=hid (HCR.out.ext x2)
   have c0:w2.cell? ⟨cb,0,none⟩=some (.int .i64 k):=HC2.out.at0
   have kk:¬(k:Int) < (k:Int):=by omega
   clear hpa x2
   go_wp2_with fail
   refine (solve_c HC2.out g c (ps.take k) HP2.out (by rw [List.length_take,HPS.out]; omega) (fun p hp=>HPN.out p (List.mem_of_mem_take hp)) (fun p hp=>HPL.out p (List.mem_of_mem_take hp)) k1 (by omega) L0 hL).mono ?_
   rintro e w3 ⟨g3,c3,rfl,hr3,x3⟩
   have HR3:=hid hr3
   have HX3:=hid (Ext.trans HX2.out x3)
   clear hr3 x3 c0
   go_wp2
   go_ret2
   exact ⟨g3,c3,rfl,HR3.out,HX3.out⟩
end Go.Proofs.YtgjnnbomnoafcaaGreatDoor
namespace Go.Proofs.YtgjnnbomnoafcaaGreatDoor
set_option linter.unusedVariables false
open Go Go.RowKit Gf
theorem OwnB.only_vs {w w':World} {B L j:Nat} {v:Value} {es:List (Array Value)} {l:List Nat} {b:Nat} (h:OwnB w b L l) (hv:OwnVs w B 38 1 v es) (e:Only (fun x=>v.ownBlock=some x) w w'):OwnB w' b L l:=by
 refine h.only e ?_
 unfold OwnB at h
 rcases h.2 with ⟨q,_⟩ | ⟨g,c,cur,q1,_,q3,_⟩
 ·
  cases q
 ·
  cases q1
  exact hv.not_at (by decide) q3
structure EncSt (w0 wr:World) (L k:Nat) (ls:List (List Nat)) (j:Nat) (v:Value):Prop where
 ext:Ext w0 wr
 ex:∃ es,OwnVs wr w0.heap.size 38 1 v es/\es.length=j/\∀ i,i < j->∃ b,es[i]?=some (rowE b L)/\OwnB wr b L (Cd.mix (Cd.row k i) ls)
theorem EncSt.more {w0 wr w':World} {L k j:Nat} {ls:List (List Nat)} {v:Value} (h:EncSt w0 wr L k ls j v) (e:Ext wr w'):EncSt w0 w' L k ls j v:=by
 obtain ⟨es,h2,h3,h4⟩:=h.ex
 refine ⟨Ext.trans h.ext e,es,h2.ext e,h3,fun i hi=>?_⟩
 obtain ⟨b,e1,e2⟩:=h4 i hi
 exact ⟨b,e1,e2.ext e⟩
theorem EncSt.add {w0 W:World} {L k j b:Nat} {ls:List (List Nat)} {a:Option Addr} {c:Nat} (h:EncSt w0 W L k ls j (.slice a j c)) (hj:j < 1000) (hb:OwnB W b L (Cd.mix (Cd.row k j) ls)) :
  ∃ a' c' w',(Builtin.append_ #[159,159] 159 #[.slice a j c,.slice (some ⟨W.heap.size,0,none⟩) 1 1]).run Tryz.prog (W.alloc (.cells (rowE b L) 38))=.ok (.slice a' (j+1) c') w'/\EncSt w0 w' L k ls (j+1) (.slice a' (j+1) c'):=by
 obtain ⟨es,h2,h3,h4⟩:=h.ex
 obtain ⟨v',w',e1,e2,e3,e4⟩:=h2.add (tsl:=159) Tryz.underlying159 infoRow rfl (by omega) (rowE b L) rfl (by intro u hu; simp [rowE] at hu; subst hu; rfl) (by omega) (by omega) h.ext.size
 obtain ⟨a',c',ev',_⟩:=e2.slice
 have hlen:(es++[rowE b L]).length=j+1:=by simp [h3]
 rw [hlen] at ev'
 subst ev'
 refine ⟨a',c',w',e1,e4 w0 (Nat.le_refl _) h.ext,_,e2,hlen,fun i hi=>?_⟩
 rcases Nat.lt_or_ge i j with q | q
 ·
  obtain ⟨b',x1,x2⟩:=h4 i q
  exact ⟨b',by rw [List.getElem?_append_left (by omega)]; exact x1,x2.only_vs (j:=0) h2 e3⟩
 ·
  obtain rfl:i=j:=by omega
  exact ⟨b,by rw [List.getElem?_append_right (by omega),h3]; simp,hb.only_vs (j:=0) h2 e3⟩
theorem EncSt.out {w0 wr:World} {L k n:Nat} {ls:List (List Nat)} {v:Value} (h:EncSt w0 wr L k ls n v) (hn:0 < n) (hL:L<=200) (hlen:∀ i,(Cd.mix (Cd.row k i) ls).length=L) (hb:∀ i,∀ x∈Cd.mix (Cd.row k i) ls,x < 256) :
  ∃ g c,v=.slice (some ⟨g,0,none⟩) n c/\RowsAt wr g ((List.range n).map fun i=>Cd.mix (Cd.row k i) ls):=by
 obtain ⟨es,h2,h3,h4⟩:=h.ex
 obtain ⟨a,c,e,q⟩:=h2.slice
 rcases q with ⟨q,_⟩ | ⟨g,rfl,_,_,_,hv⟩
 ·
  rw [q] at h3; simp at h3; omega
 ·
  rw [h3] at e
  refine ⟨g,c,e,fun i l hi=>?_⟩
  have hin:i < n:=by
   rcases Nat.lt_or_ge i n with q | q
   ·
    exact q
   ·
    rw [List.getElem?_eq_none (by simpa using q)] at hi; cases hi
  have hl:l=Cd.mix (Cd.row k i) ls:=by
   simp [hin] at hi; exact hi.symm
  subst hl
  obtain ⟨b,e1,e2⟩:=h4 i hin
  refine ⟨b,L,?_,e2.bytes (hb i) (by rw [hlen]; omega)⟩
  have:=hv i (rowE b L) e1 0 _ rfl
  rw [hlen]
  simpa using this
def EncPost (w:World) (n k:Nat) (ls:List (List Nat)) (e:Ending) (w':World):Prop:=∃ g c,e=.returned (.tuple #[.slice (some ⟨g,0,none⟩) n c,.nilIface])/\RowsAt w' g ((List.range n).map fun i=>Cd.mix (Cd.row k i) ls)/\Ext w w'
attribute [local irreducible] wpSQ
set_option maxRecDepth 100000 in
set_option maxHeartbeats 4000000 in
theorem encode_c {w:World} {cb k n L:Nat} (h:CodeAt w cb k n) (g gc:Nat) (ls:List (List Nat)) (hl:RowsAt w g ls) (hlk:ls.length=k) (k1:1<=k) (k8:k<=8) (n1:1<=n) (hn8:n<=8) (L0:0 < L) (hL:L<=200)
  (hlen:∀ j,j < ls.length->(Cd.B ls j).length=L) (hls:∀ j,∀ x∈Cd.B ls j,x < 256) :
  Calls Tryz.prog 191 #[.pointer (some ⟨cb,0,none⟩),.slice (some ⟨g,0,none⟩) k gc] w (EncPost w n k ls):=by
 obtain ⟨rg,rc,z3,hrg⟩:=h.at2
 have z1:=h.at0
 have HC:=hid h
 have HL:=hid hl
 have HLK:=hid hlk
 have HLEN:=hid hlen
 have HLS:=hid hls
 have HRG:=hid hrg
 have HZ3:=hid z3
 have HML:=hid (show ∀ i,(Cd.mix (Cd.row k i) ls).length=L from fun i=>by unfold Cd.mix; rw [Cd.mixK_len,hlen 0 (by omega)])
 have HMB:=hid (show ∀ i,∀ x∈Cd.mix (Cd.row k i) ls,x < 256 from fun i=>by unfold Cd.mix; exact Cd.mixK_byte _ ls _ (Cd.row_byte k i) hls)
 have HLA:=hid (show LensAt w g k L from fun i hi=>by
  obtain ⟨b,c,q1,_⟩:=hl.row hlen (j:=i) (by omega)
  exact ⟨b,c,q1⟩)
 have HZ1:=hid z1
 clear h hl hlk hlen hls hrg z3 z1
 obtain ⟨W1,hW1⟩:∃ W,w.alloc (.cells #[.slice (some ⟨g,0,none⟩) k gc] 159)=W:=⟨_,rfl⟩
 obtain ⟨bx,hbx⟩:∃ b,w.heap.size=b:=⟨_,rfl⟩
 have X1:=hid (show Ext w W1 from hW1▸(Ext.refl w).alloc _)
 have P1:=hid (show W1.heap[bx]?=some (.cells #[.slice (some ⟨g,0,none⟩) k gc] 159 (0,0)) from by rw [<- hW1,<- hbx]; exact Zad)
 have hmf:∀ (fn:Fn) (first cap:Array Value) (w:World),(Instr.makeFunc fn first cap).run Tryz.prog w=.ok (.func fn first cap) w:=fun _ _ _ _=>rfl
 go_enter Tryz.func191,Tryz.ntmps191
 go_wp2_with fail
 have g1:∀ z:SW Ext W1.drew,z.w.cell? ⟨bx,0,none⟩=some (.slice (some ⟨g,0,none⟩) k gc):=fun z=>(Ext.trans ((Ext.refl W1).drew) z.ext).cell (Zaf P1.out)
 have g2:∀ z:SW Ext W1.drew,z.w.cell? ⟨cb,0,none⟩=some (.int .i64 k):=fun z=>(Ext.trans ((Ext.refl W1).drew) z.ext).cell (X1.out.cell HZ1.out)
 have g3:∀ z:SW Ext W1.drew,LensAt z.w g k L:=fun z=>HLA.out.ext (Ext.trans X1.out (Ext.trans ((Ext.refl W1).drew) z.ext))
 have G3:=hid g3
 clear g3
 refine Zal (S:=Ext) (.fin [0,1,2,3,4,5,6,7,8,9,10,11]) (by kernel_rfl) (by kernel_rfl) (fun _ _ d _ _ h=>by cases d<;>exact h) ?_
 rw [wpS]
 simp only [opsAt,opA,opB,opC,opD,opE,opF,opG]
 iterate 10 ((refine Zaa (fun K hK=>?_); go_simp; refine hK _ ?_; clear hK K))
 (refine Zaa (fun K hK=>?_); go_simp; (apply Exists.intro; refine ⟨fun x=>?_,hK _ ?_⟩; (exact containsfn_c (g1 x) (by omega) k8 (G3.out x)); clear hK K))
 (refine Zaa (fun K hK=>?_); go_simp; refine hK _ ?_; clear hK K)
 refine Zac ?_
 intro V hV
 have HV:=hid (Ext.trans (Ext.refl W1).drew hV)
 clear hV g1 g2 G3
 have z3:V.cell? ⟨cb,2,none⟩=some (.slice (some ⟨rg,0,none⟩) n rc):=(Ext.trans X1.out HV.out).cell HZ3.out
 have HWV:=hid (Ext.trans X1.out HV.out)
 have HE0:=hid (show EncSt V V L k ls 0 (.slice none 0 0) from ⟨Ext.refl _,[],OwnVs.nil _ _ _ _,rfl,fun i hi=>by omega⟩)
 have HXV:=hid (show V.cell? ⟨bx,0,none⟩=some (.slice (some ⟨g,0,none⟩) k gc) from HV.out.cell (Zaf P1.out))
 go_wp2
 clear z3
 go_loopw [28,6] (fun t v wr=>∃ (j:Nat) (a:Option Addr) (c:Nat),t=.int .i64 j/\v=.slice a j c/\j<=n/\EncSt V wr L k ls j v) (fun t _ _=>n - (intOf t).toNat)
 case atStart=>exact ⟨0,none,0,rfl,rfl,by omega,HE0.out⟩
 case round =>
  clear HE0
  obtain ⟨j,a,c,rfl,rfl,hj,hst⟩:=hrel
  have HST:=hid hst
  have HX:=hid (Ext.trans HWV.out hst.ext)
  clear hst
  by_cases hjn:j < n
  ·
   have j0:(0:Int)<=(j:Int):=by omega
   have j1:(j:Int) < (n:Int):=by omega
   obtain ⟨rb,rcap,q1,q2⟩:=HRG.out j (Cd.row k j) (by simp [hjn])
   rw [Cd.row_len] at q1
   have z4:=HX.out.cell q1
   have z5:=HST.out.ext.cell HXV.out
   have HQ2:=hid (q2.at0 HX.out (fun x=>x))
   clear q1 q2
   go_wp2_with fail
   have hm:=mix_c (HC.out.ext HX.out) rb rcap (Cd.row k j) HQ2.out g gc L ls (HL.out.ext HX.out) (by rw [Cd.row_len,HLK.out]) (by rw [HLK.out]; omega) (by rw [HLK.out]; omega) L0 hL HLEN.out HLS.out
   rw [Cd.row_len,HLK.out] at hm
   refine hm.mono ?_
   clear hm
   rintro e w2 ⟨b,he,hb,ho,x2⟩
   rw [HML.out] at he ho
   subst he
   obtain ⟨a',c',w3,hap,hst3⟩:=(HST.out.more x2).add (b:=b) (by omega) ho
   have HS3:=hid hst3
   clear hst3 ho x2 z4 z5 hb
   go_wp2_with (first
    | (guard_target=wpList _ _ _ (⟨some _,Op.buildSlice _ _ _,_,_,_,none⟩::_) _ _; refine Zag rfl 159 38 _ rfl (rowE b L) _ _ 1 24 Tryz.underlying159 infoRow (by omega) (by omega) rfl rfl rfl ?_)
    | (at_builtin; refine wpList_append_run rfl _ _ _ rfl _ _ _ _ rfl rfl hap ?_))
   go_roundw
   case rel=>exact ⟨j+1,a',c',by go_num,rfl,by omega,HS3.out⟩
   case measure=>simp [intOf]; omega
  ·
   obtain rfl:n=j:=by omega
   obtain ⟨g',c',ev,hr⟩:=HST.out.out (by omega) hL HML.out HMB.out
   cases ev
   have HR:=hid hr
   clear hr
   go_wp2
   go_ret2
   exact ⟨g',_,rfl,HR.out,HX.out⟩
end Go.Proofs.YtgjnnbomnoafcaaGreatDoor
namespace Go.Proofs.YtgjnnbomnoafcaaGreatDoor
namespace Cd
set_option linter.unusedVariables false
open Gf
theorem Blocks.clear {k L:Nat} {m l:List (List Nat)} (h:Blocks k L l) {col:Nat} (hc:col < k) (hm:∀ i,∀ x∈B m i,x < 256):Blocks k L (clearK m l col k):=by
 refine ⟨by rw [Zbo]; exact h.n,fun j hj=>?_,fun j=>?_⟩
 ·
  rw [clearK_B _ _ _ _ _ (by rw [h.n]; exact Nat.le_refl _)]
  split
  ·
   rw [addB_len]; exact h.len j hj
  ·
   exact h.len j hj
 ·
  rw [clearK_B _ _ _ _ _ (by rw [h.n]; exact Nat.le_refl _)]
  split
  ·
   exact Gf.addB_byte _ _ _ (Zay (hm j) col) (h.byte j)
  ·
   exact h.byte j
theorem step_blocks {k L:Nat} {m out:List (List Nat)} (hm:Blocks k k m) (ho:Blocks k L out) {col:Nat} (hc:col < k):Blocks k k (step (m,out) col).1/\Blocks k L (step (m,out) col).2:=by
 have hp:=(pivot_lt m col m.length col (by rw [hm.n]; exact hc)).2
 rw [hm.n] at hp
 have a1:Blocks k k (colM m col):=by
  unfold colM
  simp only [hm.n]
  exact (hm.swap hc hp).set col (by rw [scale_len]; exact (hm.swap hc hp).len col hc) (scale_byte _ _)
 have a2:Blocks k L (colO m out col):=by
  unfold colO
  simp only [hm.n]
  exact (ho.swap hc hp).set col (by rw [scale_len]; exact (ho.swap hc hp).len col hc) (scale_byte _ _)
 have e:m.length=k:=hm.n
 show Blocks k k (clearK (colM m col) (colM m col) col m.length)/\Blocks k L (clearK (colM m col) (colO m out col) col m.length)
 rw [e]
 exact ⟨a1.clear hc a1.byte,a2.clear hc a1.byte⟩
theorem steps_blocks {k L:Nat}:∀ (cs:List Nat) (m out:List (List Nat)),Blocks k k m->Blocks k L out->(∀ c∈cs,c < k)->Blocks k L (cs.foldl step (m,out)).2
 | [],m,out,hm,ho,hc=>ho
 | c::cs,m,out,hm,ho,hc=>by
  rw [List.foldl_cons]
  have:=step_blocks hm ho (hc c List.mem_cons_self)
  exact steps_blocks cs _ _ this.1 this.2 fun d hd=>hc d (List.mem_cons_of_mem _ hd)
theorem solve_blocks {k L:Nat} {m out:List (List Nat)} (hm:Blocks k k m) (ho:Blocks k L out):Blocks k L (solve m out).2:=by
 unfold solve
 exact steps_blocks _ _ _ hm ho fun c hc=>by rw [<- hm.n]; exact List.mem_range.1 hc
end Cd
theorem partAt_some {g:Nat->Option Frm} {G:Int} {d:Nat} {p:Nat × List Nat} (h:partAt g G d=some p):p.1=d/\∃ f,g d=some f/\p.2=f.data:=by
 unfold partAt at h
 rcases hg:g d with _ | f
 ·
  rw [hg] at h; cases h
 ·
  rw [hg] at h
  simp only [Option.bind_some] at h
  split at h
  ·
   cases h; exact ⟨rfl,f,rfl,rfl⟩
  ·
   cases h
theorem Zby {g:Nat->Option Frm} {G:Int} {n:Nat} {p:Nat × List Nat} (h:p∈partsG g G n):p.1 < n/\∃ f,g p.1=some f/\p.2=f.data:=by
 unfold partsG at h
 obtain ⟨d,hd,hp⟩:=List.mem_filterMap.1 h
 obtain ⟨rfl,f,h1,h2⟩:=partAt_some hp
 exact ⟨List.mem_range.1 hd,f,h1,h2⟩
theorem Zb8 (g:Nat->Option Frm) (G:Int):∀ n,((partsG g G n).map (·.1)).Nodup
 | 0=>by simp [partsG]
 | n+1=>by
  rw [Zbg,List.map_append]
  rcases hp:partAt g G n with _ | p
  ·
   simpa using Zb8 g G n
  ·
   rw [List.nodup_append]
   refine ⟨Zb8 g G n,by simp,?_⟩
   intro a ha b hb
   obtain ⟨q,hq,rfl⟩:=List.mem_map.1 ha
   simp only [Option.toList_some,List.map_cons,List.map_nil,List.mem_singleton] at hb
   have h1:=(Zby hq).1
   have h2:=(partAt_some hp).1
   omega
theorem partsG_len (g:Nat->Option Frm) (G:Int):∀ n,(partsG g G n).length<=n
 | 0=>by simp [partsG]
 | n+1=>by
  have:=partsG_len g G n
  rw [Zbg]
  rcases hp:partAt g G n with _ | p<;>simp<;>omega
theorem Rck.slook_eq {R:Rck} {c:Cfg} {s:Int} (h:R.sknown c s=true):R.slook c s=(newG (R.sgood c s) c.n.toNat,partsG (R.sgood c s) (newG (R.sgood c s) c.n.toNat) c.n.toNat):=by
 unfold Rck.slook
 rw [if_pos h,look_fold]
end Go.Proofs.YtgjnnbomnoafcaaGreatDoor
