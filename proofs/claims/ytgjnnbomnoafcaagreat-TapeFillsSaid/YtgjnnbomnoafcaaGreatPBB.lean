/- Texts of one proof, joined: EntOwn, TapeC, TapeD, TapeE. -/
import Derived.Test.YtgjnnbomnoafcaaGreatPBA
import Derived.Test.YtgjnnbomnoafcaaGreatPI
import Derived.Test.YtgjnnbomnoafcaaGreatPAA
import Derived.Lib.SliceRun
import Derived.Test.YtgjnnbomnoafcaaGreatPR
import Derived.Test.YtgjnnbomnoafcaaGreatPT
import Derived.Test.YtgjnnbomnoafcaaGreatPV
import Derived.Test.YtgjnnbomnoafcaaGreatPJ
set_option linter.unusedVariables false
set_option linter.unusedSimpArgs false
namespace Go.Proofs.YtgjnnbomnoafcaaGreat
set_option linter.unusedVariables false
open Go Go.RowKit
def EntsIn (S:Nat->Prop) (w:World) (a:Option Addr) (l:List (List Nat)):Prop:=∀ i x,l[i]?=some x->∃ g off p cp,a=some ⟨g,off,none⟩/\S g/\w.cell? ⟨g,off+i,none⟩=some (.slice p x.length cp)/\BytesAt w p x.length x/\∀ q,p=some q->S q.block
namespace EntsIn
variable {S T:Nat->Prop} {w w':World} {a:Option Addr} {l:List (List Nat)}
theorem ents (h:EntsIn S w a l):EntsAt w a l:=fun i x hx=>by
 obtain ⟨g,off,p,cp,h1,_,h2,h3,_⟩:=h i x hx
 exact ⟨g,off,p,cp,h1,h2,h3⟩
theorem only {F:Nat->Prop} (h:EntsIn S w a l) (e:Only F w w') (hF:∀ b,S b->¬F b):EntsIn S w' a l:=fun i x hx=>by
 obtain ⟨g,off,p,cp,h1,h2,h3,h4,h5⟩:=h i x hx
 refine ⟨g,off,p,cp,h1,h2,e.cell h3 (hF g h2),h4.only e fun k _ hk=>?_,h5⟩
 obtain ⟨q,hq,rfl⟩:=hk
 exact hF _ (h5 q hq)
theorem ext (h:EntsIn S w a l) (e:Ext w w'):EntsIn S w' a l:=h.only e fun _ _ x=>x
theorem mono (h:EntsIn S w a l) (hT:∀ b,S b->T b):EntsIn T w a l:=fun i x hx=>by
 obtain ⟨g,off,p,cp,h1,h2,h3,h4,h5⟩:=h i x hx
 exact ⟨g,off,p,cp,h1,hT g h2,h3,h4,fun q hq=>hT _ (h5 q hq)⟩
theorem nil (S:Nat->Prop) (w:World) (a:Option Addr):EntsIn S w a []:=fun i x hx=>by simp at hx
end EntsIn
def entV (b n c:Nat):Array Value:=#[.slice (some ⟨b,0,none⟩) n c]
structure EOwn (w:World) (B:Nat) (v:Value) (es:List (List Nat)) (bk cp:Nat->Nat):Prop where
 own:OwnVs w B 38 1 v ((List.range es.length).map fun i=>entV (bk i) (es.getD i []).length (cp i))
 at_:∀ i,i < es.length->BytesAt w (some ⟨bk i,0,none⟩) (es.getD i []).length (es.getD i [])
 lo:∀ i,i < es.length->B<=bk i
 hi:∀ i,i < es.length->bk i < w.heap.size
 ne:∀ i,i < es.length->v.ownBlock≠some (bk i)
namespace EOwn
variable {w w':World} {B:Nat} {v:Value} {es:List (List Nat)} {bk cp:Nat->Nat}
theorem nil (w:World) (B:Nat):EOwn w B (.slice none 0 0) [] (fun _=>0) fun _=>0:=⟨OwnVs.nil _ _ _ _,fun i hi=>by simp at hi,fun i hi=>by simp at hi,fun i hi=>by simp at hi,fun i hi=>by simp at hi⟩
theorem ext (H:EOwn w B v es bk cp) (e:Ext w w'):EOwn w' B v es bk cp:=⟨H.own.ext e,fun i hi=>(H.at_ i hi).ext e,H.lo,fun i hi=>Nat.lt_of_lt_of_le (H.hi i hi) e.size,H.ne⟩
theorem push2 (H:EOwn w B v es bk cp) {W:World} (e:Ext w W) {b c:Nat} {x:List Nat} (hb:BytesAt W (some ⟨b,0,none⟩) x.length x) (hbW:b < W.heap.size) (hbl:w.heap.size<=b) (hq:es.length < 900) (hB:B<=w.heap.size) {bs:Nat} (hs:W.heap[bs]?=some (.cells (entV b x.length c) 38 (0,0))) :
  ∃ v' w' bk' cp',(Builtin.append_ #[22,22] 22 #[v,.slice (some ⟨bs,0,none⟩) 1 1]).run Tryz.prog W=.ok v' w'/\EOwn w' B v' (es++[x]) bk' cp'/\(∀ w0,w0.heap.size<=B->Ext w0 W->Ext w0 w')/\Only (fun b=>v.ownBlock=some b) W w':=by
 obtain ⟨v',w',e1,e2,e3,e4,e5⟩:=(H.own.ext e).push (tsl:=22) Tryz.underlying22 infoRow rfl (by omega) (entV b x.length c) rfl (by intro u hu; simp [entV] at hu; subst hu; rfl) ⟨bs,0,none⟩ (Zai hs) 1 (by simp; omega) (by omega) (by have:=e.size; omega)
 have ho:Only (fun b=>v.ownBlock=some b) W w':=e3
 have hl1:(es++[x]).length=es.length+1:=by simp
 have g1:∀ i,i < es.length->(es++[x]).getD i []=es.getD i []:=fun i hi=>by
  rw [List.getD_eq_getElem?_getD,List.getD_eq_getElem?_getD,List.getElem?_append_left hi]
 have g2:(es++[x]).getD es.length []=x:=by
  rw [List.getD_eq_getElem?_getD,List.getElem?_append_right (Nat.le_refl _),Nat.sub_self]; rfl
 refine ⟨v',w',fun i=>if i < es.length then bk i else b,fun i=>if i < es.length then cp i else c,e1,⟨?_,fun i hi=>?_,fun i hi=>?_,fun i hi=>?_,fun i hi=>?_⟩,fun w0 hw0 hx0=>e4 w0 hw0 hx0,ho⟩
 ·
  have el:((List.range (es++[x]).length).map fun i=>entV (if i < es.length then bk i else b) ((es++[x]).getD i []).length (if i < es.length then cp i else c))=((List.range es.length).map fun i=>entV (bk i) (es.getD i []).length (cp i))++[entV b x.length c]:=by
   rw [hl1,List.range_succ,List.map_append]
   have e1:((List.range es.length).map fun i=>entV (if i < es.length then bk i else b) ((es++[x]).getD i []).length (if i < es.length then cp i else c))=(List.range es.length).map fun i=>entV (bk i) (es.getD i []).length (cp i):=List.map_congr_left fun i hi=>by
    have:=List.mem_range.1 hi
    rw [if_pos this,if_pos this,g1 i this]
   rw [e1,List.map_cons,List.map_nil,if_neg (Nat.lt_irrefl _),if_neg (Nat.lt_irrefl _),g2]
  rw [el]; exact e2
 ·
  rw [hl1] at hi
  by_cases hiq:i < es.length
  ·
   rw [if_pos hiq,g1 i hiq]
   refine ((H.at_ i hiq).ext e).only ho fun k _ hk=>?_
   obtain ⟨p,hp,rfl⟩:=hk
   cases hp
   exact H.ne i hiq
  ·
   rw [if_neg hiq]
   have:i=es.length:=by omega
   subst this
   rw [g2]
   refine hb.only ho fun k _ hk hv=>?_
   obtain ⟨p,hp,rfl⟩:=hk
   cases hp
   have:=(H.own.lt _ hv).2
   have h2:(⟨b,0,none⟩:Addr).block=b:=rfl
   omega
 ·
  rw [hl1] at hi
  by_cases hiq:i < es.length
  ·
   rw [if_pos hiq]; exact H.lo i hiq
  ·
   rw [if_neg hiq]; omega
 ·
  rw [hl1] at hi
  have:=ho.size
  have:=e.size
  by_cases hiq:i < es.length
  ·
   rw [if_pos hiq]; have:=H.hi i hiq; omega
  ·
   rw [if_neg hiq]; omega
 ·
  rw [hl1] at hi
  by_cases hiq:i < es.length
  ·
   rw [if_pos hiq]
   rcases e5 with q5 | q5
   ·
    rw [q5]; exact H.ne i hiq
   ·
    rw [q5]; intro hv
    have hv:W.heap.size=bk i:=by simpa using hv
    have:=H.hi i hiq; have:=e.size
    omega
  ·
   rw [if_neg hiq]
   rcases e5 with q5 | q5
   ·
    rw [q5]; intro hv
    have:=(H.own.lt b hv).2
    omega
   ·
    rw [q5]; intro hv
    have hv:W.heap.size=b:=by simpa using hv
    omega
theorem push (H:EOwn w B v es bk cp) {W:World} (e:Ext w W) {b c:Nat} {x:List Nat} (hb:BytesAt W (some ⟨b,0,none⟩) x.length x) (hbW:b < W.heap.size) (hbl:w.heap.size<=b) (hq:es.length < 900) (hB:B<=w.heap.size) :
  ∃ v' w' bk' cp',(Builtin.append_ #[22,22] 22 #[v,.slice (some ⟨W.heap.size,0,none⟩) 1 1]).run Tryz.prog (W.alloc (.cells (entV b x.length c) 38))=.ok v' w'/\EOwn w' B v' (es++[x]) bk' cp'/\(∀ w0,w0.heap.size<=B->Ext w0 W->Ext w0 w')/\Only (fun b=>v.ownBlock=some b) W w':=by
 have hx:Ext W (W.alloc (.cells (entV b x.length c) 38)):=(Ext.refl W).alloc _
 obtain ⟨v',w',bk',cp',e1,e2,e3,e4⟩:=H.push2 (Ext.trans e hx) (hb.ext hx) (by simp; omega) hbl hq hB Zad
 exact ⟨v',w',bk',cp',e1,e2,fun w0 h0 h1=>e3 w0 h0 (h1.alloc _),Only.trans (Ext.only hx) e4 fun _ _ h=>h⟩
theorem down (H:EOwn w B v es bk cp) {B':Nat} (hb:B'<=B):EOwn w B' v es bk cp:=⟨H.own.down hb,H.at_,fun i hi=>Nat.le_trans hb (H.lo i hi),H.hi,H.ne⟩
theorem slice (H:EOwn w B v es bk cp):∃ a c,v=.slice a es.length c/\EntsIn (fun b=>B<=b/\b < w.heap.size) w a es/\es.length<=c:=by
 obtain ⟨a,c,e,z⟩:=H.own.slice
 rw [List.length_map,List.length_range] at e
 rcases z with ⟨z,rfl⟩ | ⟨g,rfl,hg1,hg2,hc,hv⟩
 ·
  have h0:=congrArg List.length z
  rw [List.length_map,List.length_range] at h0
  have h1:es=[]:=List.length_eq_zero_iff.1 (by simpa using h0)
  subst h1
  exact ⟨none,c,e,EntsIn.nil _ _ _,Nat.zero_le _⟩
 ·
  refine ⟨_,c,e,fun i x hx=>?_,by rw [List.length_map,List.length_range] at hc; exact hc⟩
  have hi:i < es.length:=(List.getElem?_eq_some_iff.1 hx).1
  have hg:es.getD i []=x:=by rw [List.getD_eq_getElem?_getD,hx]; rfl
  have h1:=hv i (entV (bk i) x.length (cp i)) (by rw [List.getElem?_map,List.getElem?_range hi]; show some (entV (bk i) (es.getD i []).length (cp i))=_; rw [hg]) 0 _ rfl
  have h2:=H.at_ i hi
  rw [hg] at h2
  refine ⟨g,0,some ⟨bk i,0,none⟩,cp i,rfl,⟨hg1,hg2⟩,?_,h2,fun q hq=>?_⟩
  ·
   rw [Nat.zero_add]; simpa using h1
  ·
   cases hq; exact ⟨H.lo i hi,H.hi i hi⟩
end EOwn
end Go.Proofs.YtgjnnbomnoafcaaGreat
namespace Go.Proofs.YtgjnnbomnoafcaaGreat
set_option linter.unusedVariables false
open Go Go.RowKit
set_option maxRecDepth 100000 in
set_option maxHeartbeats 1000000 in
theorem bclone_c {w:World} {b off n c:Nat} {l:List Nat} (h:BytesAt w (some ⟨b,off,none⟩) n l):Calls Tryz.prog 18 #[.slice (some ⟨b,off,none⟩) n c] w fun e w' =>
  ∃ g cp,e=.returned (.slice (some ⟨g,0,none⟩) n cp)/\BytesAt w' (some ⟨g,0,none⟩) n l/\Ext w w'/\w.heap.size<=g:=by
 obtain ⟨W1,hW1⟩:∃ W,w.alloc (.cells #[] 5)=W:=⟨_,rfl⟩
 have x1:Ext w W1:=hW1▸(Ext.refl w).alloc _
 have hg:W1.heap[w.heap.size]?=some (.cells #[] 5 (0,0)):=hW1▸heap_alloc_new _ _
 obtain ⟨g,cp,w2,hap,hown,hon,hge⟩:=Zbn W1 w.heap.size hg (some ⟨b,off,none⟩) n c l (h.ext x1)
 have HB:=hid (Zbs hown h.byte h.small)
 have HX:=hid (Ext.then x1 hon fun i hi e=>by have e:i=w.heap.size:=e; omega)
 have HA:=hid hap; have HW:=hid hW1
 clear hap hown hon hg x1 hW1 h
 have hnl:=fun w=>Go.Lib.run_eql_slice_nil (P:=Tryz.prog) w 38 5 (some ⟨b,off,none⟩) n c 0 0 Tryz.underlying38
 go_enter Tryz.func18,Tryz.ntmps18
 go_wp2_with (at_builtin; (first | rw [HW.out] | skip); refine Zah rfl _ _ _ rfl _ _ _ _ rfl rfl HA.out ?_)
 go_ret
 exact ⟨g,cp,rfl,HB.out,HX.out,hge⟩
theorem flat_succ {l:List (List Nat)} {i:Nat} {b:List Nat} (h:l[i]?=some b):(l.take (i+1)).flatten=(l.take i).flatten++b:=by
 rw [List.take_add_one,h,List.flatten_append]; simp
theorem Zci {l:List (List Nat)} (h:∀ b∈l,b.length=108) (i:Nat):(l.take i).flatten.length<=108*i:=by
 induction i with
 | zero=>simp
 | succ i ih =>
  rcases e:l[i]? with _ | b
  ·
   have e2:l.take (i+1)=l.take i:=by rw [List.take_add_one,e]; simp
   rw [e2]; omega
  ·
   rw [flat_succ e,List.length_append,h b (List.mem_of_getElem? e)]; omega
def slLen:Value->Nat
 | .slice _ n _=>n
 | _=>0
def TEmptyPost (w:World) (es:List (List Nat)) (e:Ending) (w':World):Prop:=∃ v bk cp,e=.returned v/\EOwn w' w.heap.size v es bk cp/\Ext w w'
set_option maxRecDepth 100000 in
set_option maxHeartbeats 2000000 in
theorem tempty_c (l:List (List Nat)) (hl8:∀ b∈l,b.length=108) (hlb:∀ b∈l,∀ x∈b,x < 256) (h0:l≠[]) (hn:l.length<=8) (a:Option Addr) (c:Nat) (w:World) (h:BlksAt w a l) :
  Calls Tryz.prog 13 #[.slice a l.length c] w (TEmptyPost w (Tp.empty l)):=by
 have hzb:=zero_block
 have HH:=hid h; have HL8:=hid hl8; have HLB:=hid hlb
 have HFB:=hid (show ∀ i,∀ y∈(l.take i).flatten,y < 256 from fun i y hy=>by
  obtain ⟨b,hb,hy⟩:=List.mem_flatten.1 hy
  exact hlb b (List.mem_of_mem_take hb) y hy)
 have HFL:=hid (Zci hl8)
 clear h hl8 hlb
 go_enter Tryz.func13,Tryz.ntmps13
 go_wp2_with fail
 go_loopw [10,3] (fun t v wr=>∃ i:Nat,t=.int .i64 i/\i<=l.length/\OwnBy wr w.heap.size v (l.take i).flatten/\Ext w wr) (fun t _ _=>l.length - (intOf t).toNat)
 case atStart=>exact ⟨0,rfl,by omega,OwnBy.nil _ _,Ext.refl _⟩
 case round =>
  obtain ⟨i,rfl,hi,hown,hx⟩:=hrel
  have hfl:=HFL.out i
  have HO:=hid hown; have HX:=hid hx
  clear hown hx
  by_cases hlt:i < l.length
  ·
   obtain ⟨b,hbi⟩:∃ b,l[i]?=some b:=⟨_,List.getElem?_eq_getElem hlt⟩
   obtain ⟨g,rfl,hbc⟩:=(HH.out.ext HX.out) i b hbi
   have hbl:b.length=108:=HL8.out b (List.mem_of_getElem? hbi)
   have HBC:Hid (∀ j v,(bA b).toList[j]?=some v->wr.cell? ((⟨g,i*108,none⟩:Addr).add j)=some v):=hid fun j v hv=>by
    have hj:j < 108:=by
     rcases Nat.lt_or_ge j 108 with q | q
     ·
      exact q
     ·
      rw [List.getElem?_eq_none (by rw [Array.length_toList,Zaz]; omega)] at hv; cases hv
    have e:(⟨g,i*108,none⟩:Addr).add j=⟨g,i*108+j,none⟩:=by unfold Addr.add; split<;>simp_all
    rw [e,hbc j hj]
    have:=Zbf b j (by omega)
    rw [<- Array.getElem?_toList] at this
    rw [<- hv,<- this]
   have HSB:Hid ((bA b).size=108):=hid (by rw [Zaz,hbl])
   have hbs:(wr.alloc (.cells (bA z108) 24)).heap[wr.heap.size]?=some (.cells (bA z108) 24 (0,0)):=Zad
   obtain ⟨W,hW⟩:∃ W,wr.alloc (.cells (bA b) 24)=W:=⟨_,rfl⟩
   obtain ⟨nb,hnb⟩:∃ nb,wr.heap.size=nb:=⟨_,rfl⟩
   have hab:W.heap[nb]?=some (.cells (bA b) 24 (0,0)):=by rw [<- hW,<- hnb]; exact Zad
   have XW:Ext wr W:=hW▸(Ext.refl wr).alloc _
   have hby:BytesAt W (some ⟨nb,0,none⟩) 108 b:=⟨hbl,by omega,HLB.out b (List.mem_of_getElem? hbi),.inr ⟨nb,0,rfl,fun j hj=>by rw [Zaf hab,Nat.zero_add,Zbf b j (by omega)]⟩⟩
   obtain ⟨v',w',hap,ho',_,hx'⟩:=(HO.out.ext XW).push (c:=108) hby (by omega) (by omega) (Nat.le_trans HX.out.size XW.size)
   have HO':=hid (show OwnBy w' w.heap.size v' (l.take (i+1)).flatten from by rw [flat_succ hbi]; exact ho')
   have HX':=hid (hx' w (Nat.le_refl _) (Ext.trans HX.out XW))
   have HW:=hid hW; have HNB:=hid hnb; have HAP:=hid hap
   have HZB:Hid ((bA z108).size=108):=hid (by rw [Zaz]; simp [z108])
   have j0:(0:Int)<=(i:Int):=by omega
   have j1:(i:Int) < (l.length:Int):=by omega
   clear hbi hbc hbl hW hnb hab XW hby hap ho' hx' hfl HO HX
   go_wp2_with (first
    | (guard_target=wpList _ _ _ (⟨some _,Op.load _ _,_,_,_,none⟩::_) _ _; refine Zac rfl 24 _ rfl ⟨g,i*108,none⟩ rfl (bA b) (by rw [HSB.out]; exact aggBlock) HBC.out ?_)
    | (guard_target=wpList _ _ _ (⟨none,Op.store _ _ _,_,_,_,none⟩::_) _ _; have hb0:=hbs; clear hbs; refine Zaa rfl 24 _ _ rfl wr.heap.size rfl (bA b) _ rfl 24 (by rw [HSB.out]; exact aggBlock) hb0 (by rw [HSB.out,HZB.out]) (bA_one _) ?_; rw [Zaj,HW.out,HNB.out])
    | (at_builtin; refine Zah rfl _ _ _ rfl _ _ _ _ rfl rfl HAP.out ?_))
   go_roundw
   case rel=>exact ⟨i+1,by go_num,by omega,HO'.out,HX'.out⟩
   case measure=>simp [intOf]; omega
  ·
   have j1:¬(i:Int) < (l.length:Int):=by omega
   obtain rfl:i=l.length:=by omega
   rw [List.take_length] at HO hfl
   have hfb:=HFB.out l.length
   rw [List.take_length] at hfb
   obtain ⟨a5,c5,rfl,hb5,hc5,ho5⟩:=HO.out.slice hfb (by omega)
   have HP:=hid (show Tp.empty l=Tp.unpack l.flatten from rfl)
   rw [HP.out]
   have hpl:1<=l.flatten.length:=by
    obtain ⟨x,y,rfl⟩:=List.exists_cons_of_ne_nil h0
    have:=HL8.out x List.mem_cons_self
    rw [List.flatten_cons,List.length_append]; omega
   generalize l.flatten=P at *
   obtain ⟨pb,po,rfl⟩:∃ pb po,a5=some ⟨pb,po,none⟩:=by
    rcases hb5.cells with q | ⟨b,o,q,_⟩
    ·
     omega
    ·
     exact ⟨b,o,q⟩
   obtain ⟨rfl,_,_⟩:=ho5 pb po rfl
   have HB5:=hid hb5
   have HPS:=hid (show pb < wr.heap.size from hb5.lt pb (by omega) ⟨_,rfl,rfl⟩)
   clear hb5 HO HFB HFL hfb
   obtain ⟨W3,hW3⟩:∃ W,W=wr:=⟨_,rfl⟩
   subst hW3
   go_wp2_with fail
   go_loopw [3,6] (fun v u wr=>∃ (o n cc:Nat) (done:List (List Nat)) (Q:List Nat) (bk cp:Nat->Nat),v=.slice (some ⟨pb,o,none⟩) n cc/\n<=cc/\done.length+n<=P.length/\BytesAt W3 (some ⟨pb,o,none⟩) n Q/\EOwn wr W3.heap.size u done bk cp/\done++Tp.unpack Q=Tp.unpack P/\Ext W3 wr) (fun v _ _=>slLen v)
   case atStart=>exact ⟨0,P.length,c5,[],P,_,_,rfl,hc5,by simp,HB5.out,EOwn.nil _ _,rfl,Ext.refl _⟩
   case round =>
    obtain ⟨o,n,cc,done,Q,bk,cp,rfl,hcc,hdn,hbq,heo,hun,hx⟩:=hrel
    have hql:=hbq.len
    have HBQ:=hid hbq; have HEO:=hid heo; have HUN:=hid hun; have HX3:=hid hx
    clear hbq heo hun hx
    by_cases h2:2<=n
    ·
     have t2:(2:Int)<=(n:Int):=by omega
     have n0:0 < n:=by omega
     have n1:(1:Int) < (n:Int):=by omega
     have xd:Ext wr wr.drew:=(Ext.refl wr).drew
     have HXD:=hid xd
     have HQB:=hid (fun i=>Za9 HBQ.out.byte i)
     have cb0:∀ y:SW Ext wr.drew,y.w.cell? ⟨pb,o,none⟩=some (.int .u8 (nth Q 0)):=fun y=>Ext.cell (Ext.trans HX3.out (Ext.trans HXD.out y.ext)) (HBQ.out.get 0 (by omega))
     have cb1:∀ y:SW Ext wr.drew,y.w.cell? ⟨pb,o+1,none⟩=some (.int .u8 (nth Q 1)):=fun y=>Ext.cell (Ext.trans HX3.out (Ext.trans HXD.out y.ext)) (HBQ.out.get 1 (by omega))
     have q0:=HQB.out 0
     have q1:=HQB.out 1
     clear xd
     go_wp2_with fail
     refine Zal (S:=Ext) (.fin [0,1,2,3,4,5,6,7,8,9,10]) (by kernel_rfl) (by kernel_rfl) (fun _ _ d _ _ h=>by cases d<;>exact h) ?_
     rw [wpS]
     simp only [opsAt,opA,opB,opC,opD,opE,opF,opG]
     iterate 11 ((refine Zab (fun K hK=>?_); go_simp; refine hK _ ?_; clear hK K))
     refine Zae ?_
     intro V hV
     have hor:bits .or .i64 (IntKind.i64.wrap ((nth Q 0:Nat):Int)) (IntKind.i64.wrap (IntKind.i64.wrap ((nth Q 1:Nat):Int)*256))=((Tp.head Q:Nat):Int):=by
      have e0:IntKind.i64.wrap ((nth Q 0:Nat):Int)=(nth Q 0:Nat):=by rw [IntKind.wrap_i64]; omega
      have e1:IntKind.i64.wrap ((nth Q 1:Nat):Int)=(nth Q 1:Nat):=by rw [IntKind.wrap_i64]; omega
      have e2:IntKind.i64.wrap (((nth Q 1:Nat):Int)*256)=((nth Q 1*256:Nat):Int):=by rw [IntKind.wrap_i64]; omega
      rw [e1,e0,e2,i64_or_nat _ _ (by omega) (by omega)]
      have ho:=Nat.two_pow_add_eq_or_of_lt (i:=8) q0 (nth Q 1)
      have e3:nth Q 1*256=2 ^ 8*nth Q 1:=by omega
      rw [Nat.or_comm,e3,<- ho]
      unfold Tp.head
      omega
     rw [hor]
     have hhd:Tp.head Q < 65536:=by unfold Tp.head; omega
     have HXV:=hid (Ext.trans HX3.out (Ext.trans HXD.out hV))
     have HEV:=hid (HEO.out.ext (Ext.trans HXD.out hV))
     obtain ⟨hd,hhq⟩:∃ hd,Tp.head Q=hd:=⟨_,rfl⟩
     rw [hhq] at hhd ⊢
     have HHQ:=hid hhq
     have HQL:=hid hql
     clear hor cb0 cb1 q0 q1 hV HXD HEO HX3 HQB hhq hql n0 n1
     by_cases hst:hd=0\/n - 2 < hd
     ·
      have HST:=hid hst
      have hu0:Tp.unpack Q=[]:=Tp.unpack_stop (.inr (by rw [HHQ.out,List.length_drop,HQL.out]; exact hst))
      have hun:=HUN.out
      rw [hu0,List.append_nil] at hun
      have HRT:=hid (show EOwn V w.heap.size u6 (Tp.empty l) bk cp by rw [HP.out,<- hun]; exact HEV.out.down HX.out.size)
      clear hun hu0 hst
      have hlow:(2:Int)<=(n:Int):=t2
      rcases HST.out with h3 | h3
      ·
       have t3:((hd:Int) == 0)=true:=by simp [h3]
       go_wp2_with fail
       all_goals go_ret
       all_goals exact ⟨_,bk,cp,rfl,HRT.out,Ext.trans HX.out HXV.out⟩
      ·
       have t3:((hd:Int) == 0)=false:=beq_eq_false_iff_ne.2 (by omega)
       have t4:((n - 2:Nat):Int) < (hd:Int):=by omega
       go_wp2_with fail
       all_goals go_ret
       all_goals exact ⟨_,bk,cp,rfl,HRT.out,Ext.trans HX.out HXV.out⟩
     ·
      have t3:((hd:Int) == 0)=false:=beq_eq_false_iff_ne.2 (by omega)
      have t4:¬((n - 2:Nat):Int) < (hd:Int):=by omega
      have t5:hd<=cc - 2:=by omega
      have hc2:¬cc=2:=by omega
      obtain ⟨X,hX⟩:∃ X,(Q.drop 2).take hd=X:=⟨_,rfl⟩
      obtain ⟨Q',hQ'⟩:∃ Q',(Q.drop 2).drop hd=Q':=⟨_,rfl⟩
      have hql:=HQL.out
      have hXl:X.length=hd:=by rw [<- hX,List.length_take,List.length_drop]; omega
      have hQl:Q'.length=n - 2 - hd:=by rw [<- hQ',List.length_drop,List.length_drop]; omega
      have hbV:BytesAt V (some ⟨pb,o+2,none⟩) hd X:=by
       have h5:=HBQ.out.ext HXV.out
       refine ⟨hXl,by omega,fun y hy=>h5.byte y (List.mem_of_mem_drop (List.mem_of_mem_take (hX▸hy))),.inr ⟨pb,o+2,rfl,fun j hj=>?_⟩⟩
       rw [show o+2+j=o+(2+j) by omega,h5.get (2+j) (by omega),<- hX,Zb6,if_pos hj,Zbe]
      have HBN:=hid (show ∀ o',n - 2 - hd=0\/o'=o+2+hd->BytesAt W3 (some ⟨pb,o',none⟩) (n - 2 - hd) Q' from fun o' ho'=>by
       have h5:=HBQ.out
       refine ⟨hQl,by omega,fun y hy=>h5.byte y (List.mem_of_mem_drop (List.mem_of_mem_drop (hQ'▸hy))),?_⟩
       rcases ho' with q | q
       ·
        exact .inl q
       refine .inr ⟨pb,o',rfl,fun j hj=>?_⟩
       rw [q,show o+2+hd+j=o+(2+hd+j) by omega,h5.get (2+hd+j) (by omega),<- hQ',Zbe,Zbe,Nat.add_assoc])
      have HUS:=hid (show (done++[X])++Tp.unpack Q'=Tp.unpack P from by
       have h5:=HUN.out
       rw [Tp.unpack_step (by omega) (by rw [HHQ.out]; omega) (by rw [HHQ.out,List.length_drop]; omega),HHQ.out,hX,hQ'] at h5
       rw [List.append_assoc]; exact h5)
      have HXL:=hid hXl; have HBV:=hid hbV
      clear hX hQ' hXl hQl hbV hql
      go_wp2_with fail
      refine (bclone_c HBV.out).mono ?_
      rintro e w7 ⟨g7,cp7,rfl,hb7,x7,hg7⟩
      obtain ⟨v8,w8,bk8,cp8,hap,heo8,hx8,_⟩:=HEV.out.push x7 (b:=g7) (c:=cp7) (x:=X) (by rw [HXL.out]; exact hb7) (hb7.lt g7 (by omega) ⟨_,rfl,rfl⟩) hg7 (by omega) HXV.out.size
      rw [HXL.out] at hap
      have HAP:=hid hap; have HE8:=hid heo8
      have HX8:=hid (hx8 W3 (Nat.le_refl _) (Ext.trans HXV.out x7))
      have HSV:=hid (show (entV g7 hd cp7).size=1 from rfl)
      clear hap heo8 hx8 hb7 x7 hg7 HEV HXV
      go_wp2_with (first
       | (guard_target=wpList _ _ _ (⟨some _,Op.buildSlice _ _ _,_,_,_,none⟩::_) _ _; refine Zak rfl 22 38 _ rfl (entV g7 hd cp7) _ _ 1 24 Tryz.underlying22 infoRow (by omega) (by omega) rfl rfl HSV.out ?_)
       | (at_builtin; refine Zah rfl _ _ _ rfl _ _ _ _ rfl rfl HAP.out ?_))
      go_roundw
      case rel =>
       by_cases hq:cc - 2=hd
       ·
        rw [if_pos hq]
        exact ⟨_,_,_,done++[X],Q',bk8,cp8,rfl,by omega,by rw [List.length_append]; simp; omega,HBN.out _ (.inl (by omega)),HE8.out,HUS.out,HX8.out⟩
       ·
        rw [if_neg hq]
        exact ⟨_,_,_,done++[X],Q',bk8,cp8,rfl,by omega,by rw [List.length_append]; simp; omega,HBN.out _ (.inr rfl),HE8.out,HUS.out,HX8.out⟩
      case measure=>simp [slLen]; omega
    ·
     have t2:¬(2:Int)<=(n:Int):=by omega
     go_wp2_with fail
     go_ret
     have hu0:Tp.unpack Q=[]:=Tp.unpack_stop (.inl (by omega))
     have hun:=HUN.out
     rw [hu0,List.append_nil] at hun
     exact ⟨_,bk,cp,rfl,by have h9:=HEO.out.down HX.out.size; rw [HP.out,<- hun]; rw [hun] at h9 ⊢; exact h9,Ext.trans HX.out HX3.out⟩
attribute [local irreducible] wpSQ
def TapeAt (w:World) (t g:Nat) (u:Nat):Prop:=w.heap[t]?=some (.cells #[.pointer (some ⟨g,0,none⟩),.int .i64 u] 74 (0,0))
theorem TapeAt.c0 {w:World} {t g u:Nat} (h:TapeAt w t g u):w.cell? ⟨t,0,none⟩=some (.pointer (some ⟨g,0,none⟩)):=(Zaf h).trans rfl
theorem TapeAt.c1 {w:World} {t g u:Nat} (h:TapeAt w t g u):w.cell? ⟨t,1,none⟩=some (.int .i64 u):=(Zaf h).trans rfl
theorem tused_c {w:World} {t g u:Nat} (h:TapeAt w t g u):Calls Tryz.prog 23 #[.pointer (some ⟨t,0,none⟩)] w fun e w'=>e=.returned (.int .i64 u)/\w=w':=by
 have c1:=h.c1
 clear h
 go_enter Tryz.func23,Tryz.ntmps23
 go_wp2
 go_ret
 exact ⟨rfl,rfl⟩
def TapesAt (w:World) (a:Option Addr) (L:List (List (List Nat))):Prop:=∀ i es,L[i]?=some es->∃ g off p cp,a=some ⟨g,off,none⟩/\w.cell? ⟨g,off+i,none⟩=some (.slice p es.length cp)/\es.length<=140737488355328/\EntsAt w p es
theorem TapesAt.ext {w w':World} {a:Option Addr} {L:List (List (List Nat))} (h:TapesAt w a L) (e:Ext w w'):TapesAt w' a L:=fun i x hx=>by
 obtain ⟨g,off,p,cp,h1,h2,h4,h3⟩:=h i x hx
 exact ⟨g,off,p,cp,h1,e.cell h2,h4,h3.ext e⟩
theorem take_eq_succ {α:Type} {l m:List α} {i:Nat} {x y:α} (h:l.take i=m.take i) (hx:l[i]?=some x) (hy:m[i]?=some y) (e:x=y):l.take (i+1)=m.take (i+1):=by
 rw [List.take_add_one,List.take_add_one,h,hx,hy,e]
set_option maxRecDepth 100000 in
set_option maxHeartbeats 1000000 in
theorem trows_c {a b:Option Addr} {l m:List (List Nat)} (c c':Nat) {w:World} (hl:EntsAt w a l) (hm:EntsAt w b m) (hll:l.length<=140737488355328) :
  Calls Tryz.prog 12 #[.slice a l.length c,.slice b m.length c'] w fun e w'=>e=.returned (.bool (decide (l=m)))/\Ext w w':=by
 have HL:=hid hl; have HM:=hid hm
 clear hl hm
 go_enter Tryz.func12,Tryz.ntmps12
 by_cases hlen:l.length=m.length
 ·
  have t1:¬(l.length:Int)≠(m.length:Int):=by omega
  have t2:((l.length:Int) != (m.length:Int))=false:=by simp [hlen]
  have HLE:=hid hlen
  clear hlen
  go_wp2_with fail
  go_loopw [13] (fun t wr=>∃ i:Nat,t=.int .i64 i/\i<=l.length/\l.take i=m.take i/\Ext w wr) (fun t _=>l.length - (intOf t).toNat)
  case atStart=>exact ⟨0,rfl,by omega,by simp,Ext.refl _⟩
  case round =>
   obtain ⟨i,rfl,hi,heq,hx⟩:=hrel
   have HEQ:=hid heq; have HX:=hid hx
   clear heq hx
   by_cases hlt:i < l.length
   ·
    have hlt2:i < m.length:=by rw [<- HLE.out]; exact hlt
    obtain ⟨x,hxi⟩:∃ x,l[i]?=some x:=⟨_,List.getElem?_eq_getElem hlt⟩
    obtain ⟨y,hyi⟩:∃ y,m[i]?=some y:=⟨_,List.getElem?_eq_getElem hlt2⟩
    have HXI:=hid hxi; have HYI:=hid hyi
    have xd:Ext wr wr.drew:=(Ext.refl wr).drew
    have HXD:=hid (Ext.trans HX.out xd)
    obtain ⟨g,off,p,cp,rfl,hcl,hbl⟩:=(HL.out.ext HXD.out) i x hxi
    obtain ⟨g',off',p',cp',rfl,hcm,hbm⟩:=(HM.out.ext HXD.out) i y hyi
    have cl:∀ z:SW Ext wr.drew,z.w.cell? ⟨g,off+i,none⟩=some (.slice p x.length cp):=fun z=>Ext.cell z.ext hcl
    have cm:∀ z:SW Ext wr.drew,z.w.cell? ⟨g',off'+i,none⟩=some (.slice p' y.length cp'):=fun z=>Ext.cell z.ext hcm
    have HBL:=hid hbl; have HBM:=hid hbm
    have sc:Hid (∀ z:SW Ext wr.drew,Calls Tryz.prog 17 #[.slice p x.length cp,.slice p' y.length cp'] z.w fun e w''=>e=.returned (.bool (decide (x=y)))/\Ext z.w w''):=hid fun z=>same_c cp cp' (HBL.out.ext z.ext) (HBM.out.ext z.ext)
    have i0:(0:Int)<=(i:Int):=by omega
    have i1:(i:Int) < (l.length:Int):=by omega
    have i2:(i:Int) < (m.length:Int):=by omega
    clear hxi hyi xd hcl hcm hbl hbm
    by_cases hxy:x=y
    ·
     have HXY:=hid hxy
     have hd:decide (x=y)=true:=decide_eq_true hxy
     rw [hd] at sc
     clear hxy hd
     go_wp2_with fail
     refine Zal (S:=Ext) (.fin [0,1,2,3,4,5,6,7,8,9]) (by kernel_rfl) (by kernel_rfl) (fun _ _ d _ _ h=>by cases d<;>exact h) ?_
     rw [wpS]
     simp only [opsAt,opA,opB,opC,opD,opE,opF,opG]
     iterate 8 ((refine Zab (fun K hK=>?_); go_simp; refine hK _ ?_; clear hK K))
     (refine Zab (fun K hK=>?_); go_simp; (apply Exists.intro; refine ⟨fun x=>?_,hK _ ?_⟩; (exact sc.out x); clear hK K))
     (refine Zab (fun K hK=>?_); go_simp; refine hK _ ?_; clear hK K)
     refine Zae ?_
     intro V hV
     have HXV:=hid (Ext.trans HXD.out hV)
     have HEN:=hid (take_eq_succ HEQ.out HXI.out HYI.out HXY.out)
     clear hV sc cl cm
     go_wp2_with fail
     go_roundw
     case rel=>exact ⟨i+1,by go_num,by omega,HEN.out,HXV.out⟩
     case measure=>simp [intOf]; omega
    ·
     have HXY:=hid hxy
     have hd:decide (x=y)=false:=decide_eq_false hxy
     rw [hd] at sc
     clear hxy hd
     go_wp2_with fail
     refine Zal (S:=Ext) (.fin [0,1,2,3,4,5,6,7,8,9]) (by kernel_rfl) (by kernel_rfl) (fun _ _ d _ _ h=>by cases d<;>exact h) ?_
     rw [wpS]
     simp only [opsAt,opA,opB,opC,opD,opE,opF,opG]
     iterate 8 ((refine Zab (fun K hK=>?_); go_simp; refine hK _ ?_; clear hK K))
     (refine Zab (fun K hK=>?_); go_simp; (apply Exists.intro; refine ⟨fun x=>?_,hK _ ?_⟩; (exact sc.out x); clear hK K))
     (refine Zab (fun K hK=>?_); go_simp; refine hK _ ?_; clear hK K)
     refine Zae ?_
     intro V hV
     have HXV:=hid (Ext.trans HXD.out hV)
     have HNE:=hid (show l≠m from fun q=>by
      have h1:=HXI.out
      rw [q,HYI.out] at h1
      exact HXY.out (Option.some.inj h1).symm)
     clear hV sc cl cm
     go_wp2_with fail
     go_ret
     exact ⟨by rw [decide_eq_false HNE.out]; rfl,HXV.out⟩
   ·
    have i1:¬(i:Int) < (l.length:Int):=by omega
    have HEE:=hid (show l=m from by
     have h1:=HEQ.out
     have h2:i=l.length:=by omega
     rw [h2,List.take_length,HLE.out,List.take_length] at h1
     exact h1)
    go_wp2_with fail
    go_ret
    exact ⟨by rw [decide_eq_true HEE.out]; rfl,HX.out⟩
 ·
  have t1:(l.length:Int)≠(m.length:Int):=by omega
  have t2:((l.length:Int) != (m.length:Int))=true:=by simp; omega
  have HLE:=hid hlen
  clear hlen
  go_wp2_with fail
  go_ret
  exact ⟨by rw [decide_eq_false fun q=>HLE.out (by rw [q])]; rfl,Ext.refl _⟩
set_option maxRecDepth 100000 in
set_option maxHeartbeats 1000000 in
theorem tall_c {a b:Option Addr} {l m:List (List (List Nat))} (c c':Nat) {w:World} (hl:TapesAt w a l) (hm:TapesAt w b m) (hll:l.length<=140737488355328) :
  Calls Tryz.prog 24 #[.slice a l.length c,.slice b m.length c'] w fun e w'=>e=.returned (.bool (decide (l=m)))/\Ext w w':=by
 have HL:=hid hl; have HM:=hid hm
 clear hl hm
 go_enter Tryz.func24,Tryz.ntmps24
 by_cases hlen:l.length=m.length
 ·
  have t1:¬(l.length:Int)≠(m.length:Int):=by omega
  have t2:((l.length:Int) != (m.length:Int))=false:=by simp [hlen]
  have HLE:=hid hlen
  clear hlen
  go_wp2_with fail
  go_loopw [13] (fun t wr=>∃ i:Nat,t=.int .i64 i/\i<=l.length/\l.take i=m.take i/\Ext w wr) (fun t _=>l.length - (intOf t).toNat)
  case atStart=>exact ⟨0,rfl,by omega,by simp,Ext.refl _⟩
  case round =>
   obtain ⟨i,rfl,hi,heq,hx⟩:=hrel
   have HEQ:=hid heq; have HX:=hid hx
   clear heq hx
   by_cases hlt:i < l.length
   ·
    have hlt2:i < m.length:=by rw [<- HLE.out]; exact hlt
    obtain ⟨x,hxi⟩:∃ x,l[i]?=some x:=⟨_,List.getElem?_eq_getElem hlt⟩
    obtain ⟨y,hyi⟩:∃ y,m[i]?=some y:=⟨_,List.getElem?_eq_getElem hlt2⟩
    have HXI:=hid hxi; have HYI:=hid hyi
    have xd:Ext wr wr.drew:=(Ext.refl wr).drew
    have HXD:=hid (Ext.trans HX.out xd)
    obtain ⟨g,off,p,cp,rfl,hcl,hsl,hbl⟩:=(HL.out.ext HXD.out) i x hxi
    obtain ⟨g',off',p',cp',rfl,hcm,_,hbm⟩:=(HM.out.ext HXD.out) i y hyi
    have cl:∀ z:SW Ext wr.drew,z.w.cell? ⟨g,off+i,none⟩=some (.slice p x.length cp):=fun z=>Ext.cell z.ext hcl
    have cm:∀ z:SW Ext wr.drew,z.w.cell? ⟨g',off'+i,none⟩=some (.slice p' y.length cp'):=fun z=>Ext.cell z.ext hcm
    have HBL:=hid hbl; have HBM:=hid hbm
    have sc:Hid (∀ z:SW Ext wr.drew,Calls Tryz.prog 12 #[.slice p x.length cp,.slice p' y.length cp'] z.w fun e w''=>e=.returned (.bool (decide (x=y)))/\Ext z.w w''):=hid fun z=>trows_c cp cp' (HBL.out.ext z.ext) (HBM.out.ext z.ext) hsl
    have i0:(0:Int)<=(i:Int):=by omega
    have i1:(i:Int) < (l.length:Int):=by omega
    have i2:(i:Int) < (m.length:Int):=by omega
    clear hxi hyi xd hcl hcm hbl hbm
    by_cases hxy:x=y
    ·
     have HXY:=hid hxy
     have hd:decide (x=y)=true:=decide_eq_true hxy
     rw [hd] at sc
     clear hxy hd
     go_wp2_with fail
     refine Zal (S:=Ext) (.fin [0,1,2,3,4,5,6,7,8,9]) (by kernel_rfl) (by kernel_rfl) (fun _ _ d _ _ h=>by cases d<;>exact h) ?_
     rw [wpS]
     simp only [opsAt,opA,opB,opC,opD,opE,opF,opG]
     iterate 8 ((refine Zab (fun K hK=>?_); go_simp; refine hK _ ?_; clear hK K))
     (refine Zab (fun K hK=>?_); go_simp; (apply Exists.intro; refine ⟨fun x=>?_,hK _ ?_⟩; (exact sc.out x); clear hK K))
     (refine Zab (fun K hK=>?_); go_simp; refine hK _ ?_; clear hK K)
     refine Zae ?_
     intro V hV
     have HXV:=hid (Ext.trans HXD.out hV)
     have HEN:=hid (take_eq_succ HEQ.out HXI.out HYI.out HXY.out)
     clear hV sc cl cm
     go_wp2_with fail
     go_roundw
     case rel=>exact ⟨i+1,by go_num,by omega,HEN.out,HXV.out⟩
     case measure=>simp [intOf]; omega
    ·
     have HXY:=hid hxy
     have hd:decide (x=y)=false:=decide_eq_false hxy
     rw [hd] at sc
     clear hxy hd
     go_wp2_with fail
     refine Zal (S:=Ext) (.fin [0,1,2,3,4,5,6,7,8,9]) (by kernel_rfl) (by kernel_rfl) (fun _ _ d _ _ h=>by cases d<;>exact h) ?_
     rw [wpS]
     simp only [opsAt,opA,opB,opC,opD,opE,opF,opG]
     iterate 8 ((refine Zab (fun K hK=>?_); go_simp; refine hK _ ?_; clear hK K))
     (refine Zab (fun K hK=>?_); go_simp; (apply Exists.intro; refine ⟨fun x=>?_,hK _ ?_⟩; (exact sc.out x); clear hK K))
     (refine Zab (fun K hK=>?_); go_simp; refine hK _ ?_; clear hK K)
     refine Zae ?_
     intro V hV
     have HXV:=hid (Ext.trans HXD.out hV)
     have HNE:=hid (show l≠m from fun q=>by
      have h1:=HXI.out
      rw [q,HYI.out] at h1
      exact HXY.out (Option.some.inj h1).symm)
     clear hV sc cl cm
     go_wp2_with fail
     go_ret
     exact ⟨by rw [decide_eq_false HNE.out]; rfl,HXV.out⟩
   ·
    have i1:¬(i:Int) < (l.length:Int):=by omega
    have HEE:=hid (show l=m from by
     have h1:=HEQ.out
     have h2:i=l.length:=by omega
     rw [h2,List.take_length,HLE.out,List.take_length] at h1
     exact h1)
    go_wp2_with fail
    go_ret
    exact ⟨by rw [decide_eq_true HEE.out]; rfl,HX.out⟩
 ·
  have t1:(l.length:Int)≠(m.length:Int):=by omega
  have t2:((l.length:Int) != (m.length:Int))=true:=by simp; omega
  have HLE:=hid hlen
  clear hlen
  go_wp2_with fail
  go_ret
  exact ⟨by rw [decide_eq_false fun q=>HLE.out (by rw [q])]; rfl,Ext.refl _⟩
end Go.Proofs.YtgjnnbomnoafcaaGreat
namespace Go.Proofs.YtgjnnbomnoafcaaGreat
set_option linter.unusedVariables false
open Go Go.RowKit
attribute [local irreducible] wpSQ
def sTAppend:ByteArray:=⟨#[116,97,112,101,46,65,112,112,101,110,100]⟩
def sTOpen:ByteArray:=⟨#[116,97,112,101,46,79,112,101,110]⟩
structure TApp where
 err:Option Err
 R:Rck
 v:Vol
 used:Nat
def Vol.tappend (v:Vol) (R:Rck) (used:Nat) (l:List (List Nat)):TApp :=
 if Tp.fits v.c.k.toNat l then
  if v.c.stripes<=used then ⟨some (.fault sTAppend used (.no 8)),R,v,used⟩
  else match v.commit R used (Tp.chunks v.c.k.toNat (Tp.pack l)) with
   | (some e,R',v')=>⟨some (.fault sTAppend used e),R',v',used⟩
   | (none,R',v')=>⟨none,R',v',used+1⟩
 else ⟨some (.fault sTAppend used (.no 11)),R,v,used⟩
theorem cfg_field3 (c:Cfg) (w:World):Sem.run Tryz.prog (Instr.field 26 (.agg (Cfg.A c)) 3) w=.ok (.int .i64 c.stripes) w:=by
 rw [Cfg.A_def]; kernel_rfl
structure TAppPost (S:Nat->Prop) (w:World) (r g t used:Nat) (q:TApp) (e:Ending) (w':World):Prop where
 ret:e=.returned (.tuple #[.int .i64 (if q.err=none then (used:Int) else 0),oErr q.err])
 rack:RackAt S w' r q.R
 vol:VolAt w' g r q.v
 tape:TapeAt w' t g q.used
 only:Only (fun b=>¬S b\/b=g\/b=t) w w'
theorem TapeAt.ext {w w':World} {t g u:Nat} (h:TapeAt w t g u) (e:Ext w w'):TapeAt w' t g u:=e.at h
set_option maxRecDepth 100000 in
set_option maxHeartbeats 2000000 in
theorem tappend_c {S:Nat->Prop} {w:World} {r g t used:Nat} {R:Rck} {v:Vol} (h:RackAt S w r R) (hv:VolAt w g r v) (ht:TapeAt w t g used) (hg:S g) (hst:S t) (htg:t≠g) (hs0:0<=v.seq) (hc:v.c.Good) (hus:used<=1000) (l:List (List Nat)) (hl:l.length<=100) (a:Option Addr) (cp:Nat) (he:EntsAt w a l) :
  Calls Tryz.prog 22 #[.pointer (some ⟨t,0,none⟩),.slice a l.length cp] w (TAppPost S w r g t used (v.tappend R used l)):=by
 have H:=hid h; have HV:=hid hv; have HT:=hid ht; have HG:=hid hg; have HST:=hid hst; have HTG:=hid htg; have HE:=hid he; have HGC:=hid hc
 have HS0:=hid hs0
 have c1:=ht.c1
 have c0:=ht.c0
 have HWB:=hid (Zap sTAppend used (.no 11))
 have HWF:=hid (Zap sTAppend used (.no 8))
 simp only [Err.val] at HWB HWF
 obtain ⟨kk,hk⟩:∃ kk,v.c.k.toNat=kk:=⟨_,rfl⟩
 have HK:=hid hk
 have hnl:=fun (a:Option Addr) (n c:Nat) (w:World)=>Go.Lib.run_eql_slice_nil (P:=Tryz.prog) w 29 24 a n c 0 0 Tryz.underlying29
 have HNL:=hid hnl
 clear h hv ht hg hst htg he hc hk hs0 hnl
 go_enter Tryz.func22,Tryz.ntmps22
 go_wp2_with fail
 refine (vconfig_c HV.out).mono ?_
 rintro e w1 ⟨rfl,x1⟩
 have HX1:=hid x1
 clear x1 c0 c1
 go_wp2_with fail
 refine (tfill_c v.c HGC.out l hl a cp w1 (HE.out.ext HX1.out)).mono ?_
 rintro e w2 ⟨x2,hf⟩
 have HX2:=hid (Ext.trans HX1.out x2)
 rw [HK.out] at hf
 clear x2
 rcases hf with ⟨hnf,rfl⟩ | ⟨hft,gb,rfl,hgb,hbk⟩
 ·
  have HQ:=hid (show v.tappend R used l=⟨some (.fault sTAppend used (.no 11)),R,v,used⟩ by unfold Vol.tappend; rw [HK.out,if_neg hnf])
  have c1:=(HT.out.ext HX2.out).c1
  have hn1:=HNL.out none 0 0
  clear hnf
  go_wp2_with fail
  refine (HWB.out w2).mono ?_
  rintro e w4 ⟨rfl,rfl⟩
  go_wp2
  go_ret2
  rw [HQ.out]
  exact ⟨rfl,H.out.ext HX2.out,HV.out.ext HX2.out,HT.out.ext HX2.out,Ext.only HX2.out⟩
 ·
  have HBK:=hid hbk; have HGB:=hid hgb; have HFT:=hid hft
  have hn1:=HNL.out (some ⟨gb,0,none⟩) kk kk
  simp only [Option.isNone_some] at hn1
  clear hbk hgb hft
  have xd:Ext w2 w2.drew:=(Ext.refl w2).drew
  have HXD:=hid (Ext.trans HX2.out xd)
  have c0:∀ y:SW Ext w2.drew,y.w.cell? ⟨t,0,none⟩=some (.pointer (some ⟨g,0,none⟩)):=fun y=>(HT.out.ext (Ext.trans HXD.out y.ext)).c0
  have c1:∀ y:SW Ext w2.drew,y.w.cell? ⟨t,1,none⟩=some (.int .i64 used):=fun y=>(HT.out.ext (Ext.trans HXD.out y.ext)).c1
  have cf:Hid (∀ y:SW Ext w2.drew,Calls Tryz.prog 33 #[.pointer (some ⟨g,0,none⟩)] y.w fun e w''=>e=.returned (.agg (Cfg.A v.c))/\Ext y.w w''):=hid fun y=>vconfig_c (HV.out.ext (Ext.trans HXD.out y.ext))
  have a3:=cfg_field3 v.c
  have HXD2:=hid xd
  clear xd
  go_wp2_with fail
  clear hn1
  refine Zal (S:=Ext) (.fin [0,1,2,3,4,5,6,7,8,9,10]) (by kernel_rfl) (by kernel_rfl) (fun _ _ d _ _ h=>by cases d<;>exact h) ?_
  rw [wpS]
  simp only [opsAt,opA,opB,opC,opD,opE,opF,opG]
  iterate 8 ((refine Zab (fun K hK=>?_); go_simp; refine hK _ ?_; clear hK K))
  (refine Zab (fun K hK=>?_); go_simp; (apply Exists.intro; refine ⟨fun x=>?_,hK _ ?_⟩; (exact cf.out x); clear hK K))
  iterate 2 ((refine Zab (fun K hK=>?_); go_simp; refine hK _ ?_; clear hK K))
  refine Zae ?_
  intro V3 hV3
  have HX3:=hid (Ext.trans HXD.out hV3)
  have HB3:=hid (HBK.out.ext (Ext.trans HXD2.out hV3))
  clear c0 c1 cf hV3 HXD HXD2 HBK
  have c0:=(HT.out.ext HX3.out).c0
  have c1:=(HT.out.ext HX3.out).c1
  by_cases hus2:v.c.stripes<=(used:Int)
  ·
   have HQ:=hid (show v.tappend R used l=⟨some (.fault sTAppend used (.no 8)),R,v,used⟩ by unfold Vol.tappend; rw [HK.out,if_pos HFT.out,if_pos hus2])
   go_wp2_with fail
   refine (HWF.out V3).mono ?_
   rintro e w4 ⟨rfl,rfl⟩
   go_wp2
   go_ret2
   rw [HQ.out]
   exact ⟨rfl,H.out.ext HX3.out,HV.out.ext HX3.out,HT.out.ext HX3.out,Ext.only HX3.out⟩
  ·
   have HQ:=hid (show v.tappend R used l=match v.commit R used (Tp.chunks kk (Tp.pack l)) with
    | (some e,R',v')=>⟨some (.fault sTAppend used e),R',v',used⟩
    | (none,R',v')=>⟨none,R',v',used+1⟩ by unfold Vol.tappend; rw [HK.out,if_pos HFT.out,if_neg hus2])
   obtain ⟨bs,hbs⟩:∃ bs,Tp.chunks kk (Tp.pack l)=bs:=⟨_,rfl⟩
   have BS8:=hid (show ∀ b∈bs,b.length=108 from hbs▸Tp.chunks_108 kk _)
   have BSB:=hid (show ∀ b∈bs,∀ x∈b,x < 256 from hbs▸Tp.chunks_byte (Tp.pack_byte HE.out.byte))
   have BSL:=hid (show bs.length=kk from hbs▸Tp.chunks_len kk _)
   rw [hbs] at HB3 HQ
   clear hbs
   have HBN:=hid (show bs≠[] from fun q=>by
    have h1:=BSL.out
    have h2:=HGC.out.k0
    have h3:=HK.out
    rw [q] at h1; simp at h1; omega)
   obtain ⟨S3,hS3⟩:∃ S',wideS S w V3=S':=⟨_,rfl⟩
   have H3:=hid (show RackAt S3 V3 r R from hS3▸H.out.pokes HX3.out fun b hb=>hb.elim)
   have HS3:=hid (show ∀ b,S b->S3 b from fun b hb=>hS3▸.inl hb)
   have HGB3:=hid (show S3 gb from hS3▸.inr ⟨Nat.le_trans HX1.out.size HGB.out,HB3.out.lt HBN.out gb rfl⟩)
   have HNG:=hid (show gb≠g from by have:=lt_of_block HV.out; have:=HX1.out.size; have:=HGB.out; omega)
   have HT3:=hid (HT.out.ext HX3.out)
   have HV3:=hid (HV.out.ext HX3.out)
   have xd:Ext V3 V3.drew:=(Ext.refl V3).drew
   have HXD:=hid xd
   clear c0 c1 hS3 xd
   have c0:∀ y:SW (Only fun b=>¬S3 b\/b=g) V3.drew,y.w.cell? ⟨t,0,none⟩=some (.pointer (some ⟨g,0,none⟩)):=fun y=>Only.cell y.ext ((HT3.out.ext HXD.out).c0) (fun q=>q.elim (fun z=>z (HS3.out t HST.out)) HTG.out)
   have c1:∀ y:SW (Only fun b=>¬S3 b\/b=g) V3.drew,y.w.cell? ⟨t,1,none⟩=some (.int .i64 used):=fun y=>Only.cell y.ext ((HT3.out.ext HXD.out).c1) (fun q=>q.elim (fun z=>z (HS3.out t HST.out)) HTG.out)
   have d0:=HT3.out.c0
   have d1:=HT3.out.c1
   go_wp2_with fail
   clear d0 d1
   refine Zau (E:=Ext) (S:=Only fun b=>¬S3 b\/b=g) (.one [0,1,2,3,4,5,6,7,8] 9 (.fin [10])) (by kernel_rfl) (by kernel_rfl) (fun _ _ d _ _ h=>by cases d<;>exact h) ?_
   rw [wpS]
   simp only [opsAt,opA,opB,opC,opD,opE,opF,opG]
   iterate 9 ((refine Zab (fun K hK=>?_); go_simp; refine hK _ ?_; clear hK K))
   refine Zae ?_
   intro V4 hV4
   have HX4:=hid (Ext.trans HXD.out hV4)
   have VC:=hid (vcommit_c (H3.out.ext HX4.out) (HV3.out.ext HX4.out) (HS3.out g HG.out) HS0.out used bs BS8.out BSB.out (some ⟨gb,0,none⟩) kk (HB3.out.ext HX4.out) (fun b q=>by cases q; exact ⟨HGB3.out,HNG.out⟩))
   rw [BSL.out] at VC
   have HT4:=hid (HT3.out.ext HX4.out)
   have HO4:=hid (show Only (fun b=>¬S b\/b=g\/b=t) w V4 from Ext.only (Ext.trans HX3.out HX4.out))
   clear c0 c1 hV4 HXD HX4 HB3
   refine Zav fun Q2 hQ2=>?_
   go_wp2_with fail
   refine VC.out.mono ?_
   rintro e w8 h8
   clear VC
   rcases hcm:v.commit R used bs with ⟨o,R',v'⟩
   rw [hcm] at h8
   rw [hcm] at HQ
   have HO8:=hid (show Only (fun b=>¬S b\/b=g\/b=t) w w8 from Only.trans HO4.out h8.only (fun b _ q=>q.elim (fun z=>.inl fun q=>z (HS3.out b q)) (fun z=>.inr (.inl z))))
   have HT8:=hid (show TapeAt w8 t g used from h8.only.at HT4.out (fun q=>q.elim (fun z=>z (HS3.out t HST.out)) HTG.out))
   have HR8:=hid (show RackAt S3 w8 r R' from h8.rack)
   have HV8:=hid (show VolAt w8 g r v' from h8.vol)
   have HY8:=hid h8.only
   rcases o with _ | er
   ·
    obtain rfl:=h8.ret
    simp only [oErr]
    clear h8 hcm
    go_wp2
    refine hQ2 _ _ HY8.out ?_
    clear hQ2 Q2 HY8
    rw [wpS]
    simp only [opsAt,opA,opB,opC,opD,opE,opF,opG]
    (refine Zab (fun K hK=>?_); go_simp; refine hK _ ?_; clear hK K)
    refine Zae ?_
    intro V6 hV6
    have HT6:=hid (HT8.out.ext hV6)
    have HO6:=hid (Only.ext HO8.out hV6)
    have HR6:=hid (HR8.out.ext hV6)
    have HV6:=hid (HV8.out.ext hV6)
    have c1:=HT6.out.c1
    have f1:V6.frozen? ⟨t,1,none⟩=false:=Za7 HT6.out
    have hw1:wrap64 ((used:Int)+1)=(used:Int)+1:=by unfold wrap64; omega
    clear hV6 HT8 HO8 HR8 HV8
    go_wp2
    go_ret2
    rw [HQ.out]
    refine ⟨?_,?_,?_,?_,?_⟩
    ·
     rfl
    ·
     exact ((HR6.out.only (Zbd V6 t 1 (.int .i64 ((used:Int)+1))) fun b e=>by have e:b=t:=e; rw [e]; exact HS3.out t HST.out).less HS3.out)
    ·
     exact (Zbd V6 t 1 (.int .i64 ((used:Int)+1))).at HV6.out (fun e=>HTG.out e.symm)
    ·
     exact Zay HT6.out (i:=1) (.int .i64 ((used:Int)+1))
    ·
     exact Only.trans HO6.out (Zbd V6 t 1 (.int .i64 ((used:Int)+1))) (fun b _ e=>.inr (.inr e))
   ·
    obtain ⟨et,ev,hev⟩:=er.iface
    have HWE:=hid (Zap sTAppend used er)
    rw [hev] at HWE
    obtain rfl:=h8.ret
    simp only [oErr]
    rw [hev]
    clear h8 hcm hev
    go_wp2
    refine hQ2 _ _ HY8.out ?_
    clear hQ2 Q2 HY8
    rw [wpS]
    simp only [opsAt,opA,opB,opC,opD,opE,opF,opG]
    (refine Zab (fun K hK=>?_); go_simp; refine hK _ ?_; clear hK K)
    refine Zae ?_
    intro V6 hV6
    have c1:=(HT8.out.ext hV6).c1
    go_wp2_with fail
    refine (HWE.out V6).mono ?_
    rintro e w9 ⟨rfl,rfl⟩
    go_wp2
    go_ret2
    rw [HQ.out]
    exact ⟨rfl,(HR8.out.ext hV6).less HS3.out,HV8.out.ext hV6,HT8.out.ext hV6,Only.ext HO8.out hV6⟩
end Go.Proofs.YtgjnnbomnoafcaaGreat
