/- Texts of one proof, joined: SameBlk2, BlkApp, BlkSet, BlockArg. -/
import Derived.Test.YtgjnnbomnoafcaaGreatPJ
import Derived.Test.YtgjnnbomnoafcaaGreatPI
import Derived.Test.YtgjnnbomnoafcaaGreatPA
import Derived.Test.YtgjnnbomnoafcaaGreatPV
import Derived.WalkKit
import Derived.ProofKit
import Derived.OpenShut
import Derived.RowKit
set_option linter.unusedVariables false
set_option linter.unusedSimpArgs false
namespace Go.Proofs.YtgjnnbomnoafcaaGreat
set_option linter.unusedVariables false
open Go Go.RowKit
theorem block_neq2 (l m:List Nat) (hl:l.length=108) (hm:m.length=108) (w:World):(binOp .neq 24 (.agg (bA l)) (.agg (bA m))).run Tryz.prog w=.ok (.bool (!(l == m))) w:=by
 rw [run_neq_struct]
 have h:=run_bytes_eq 9998 24 l m hl hm Tryz.underlying24 w
 rw [show (Op.equalIn 10000 24 (.agg (bA l)) (.agg (bA m))).run Tryz.prog w=.ok (l == m) w from h]; rfl
attribute [local irreducible] wpSQ
set_option maxRecDepth 100000 in
set_option maxHeartbeats 1000000 in
theorem sameblk2_c (l m:List (List Nat)) (hl:∀ b∈l,b.length=108) (hm:∀ b∈m,b.length=108) (hlm:m.length=l.length) (hn:l.length<=8) (a1 a2:Option Addr) (c1 c2:Nat) (w:World) (h1:BlksAt w a1 l) (h2:BlksAt w a2 m) :
  Calls Tryz.prog 10 #[.slice a1 l.length c1,.slice a2 m.length c2] w fun e w'=>e=.returned (.bool (decide (l=m)))/\Ext w w':=by
 rw [hlm]
 have HM:=hid hm
 have HLM:=hid hlm
 clear hm hlm
 have H1:=hid h1
 have H2:=hid h2
 have HL:=hid hl
 have hn8:(l.length:Int)<=8:=by omega
 have hne:((l.length:Int) != (l.length:Int))=false:=by simp
 clear h1 h2 hl
 go_enter Tryz.func10,Tryz.ntmps10
 go_wp2
 clear hne
 go_loopw [5] (fun t wr=>∃ j:Nat,t=.int .i64 j/\j<=l.length/\(∀ i,i < j->l[i]?=m[i]?)/\Ext w wr) (fun t _=>l.length - (intOf t).toNat)
 case atStart=>exact ⟨0,rfl,by omega,fun i hi=>by omega,Ext.refl _⟩
 case round =>
  obtain ⟨j,rfl,hj,heq,hx⟩:=hrel
  have HEQ:=hid heq
  clear heq
  by_cases hlt:j < l.length
  ·
   have j0:(0:Int)<=(j:Int):=by omega
   have j1:(j:Int) < (l.length:Int):=by omega
   obtain ⟨b,hb⟩:∃ b,l[j]?=some b:=⟨l[j],List.getElem?_eq_getElem hlt⟩
   have hbl:=HL.out b (List.mem_of_getElem? hb)
   obtain ⟨b',hb'⟩:∃ b',m[j]?=some b':=⟨m[j]'(by rw [HLM.out]; exact hlt),List.getElem?_eq_getElem _⟩
   have hbl':=HM.out b' (List.mem_of_getElem? hb')
   obtain ⟨g1,rfl,k1⟩:=H1.out j b hb
   obtain ⟨g2,rfl,k2⟩:=H2.out j b' hb'
   have xd:Ext wr wr.drew:=(Ext.refl wr).drew
   have cells:∀ (b:List Nat) (hbl:b.length=108) (g:Nat),(∀ q,q < 108->w.cell? ⟨g,j*108+q,none⟩=some (.int .u8 (nth b q)))->∀ x:SW Ext wr.drew,∀ q v,(bA b).toList[q]?=some v->x.w.cell? ((⟨g,j*108,none⟩:Addr).add q)=some v:=fun b hbl g hk x q v hv=>by
    have hq:q < 108:=by
     rcases Nat.lt_or_ge q 108 with h | h
     ·
      exact h
     ·
      rw [List.getElem?_eq_none (by rw [Array.length_toList,Zaz,hbl]; exact h)] at hv; cases hv
    have e:(⟨g,j*108,none⟩:Addr).add q=⟨g,j*108+q,none⟩:=by unfold Addr.add; split<;>simp_all
    have h:=Zbf b q (by rw [hbl]; exact hq)
    rw [Array.getElem?_toList,h] at hv
    rw [e,<- hv]
    exact Ext.cell (Ext.trans hx (Ext.trans xd x.ext)) (hk q hq)
   have L1:=hid (cells b hbl g1 k1)
   have L2:=hid (cells b' hbl' g2 k2)
   have HSZ:=hid (show (bA b).size=108 by rw [Zaz]; exact hbl)
   have HSY:=hid (show (bA b').size=108 by rw [Zaz]; exact hbl')
   have HNE:=hid (block_neq2 b b' hbl hbl')
   have HB:=hid hb; have HB':=hid hb'
   have HX:=hid hx
   clear cells k1 k2 hb hbl hx hb' hbl'
   go_wp2_with fail
   refine Zal (S:=Ext) (.fin [0,1,2,3,4,5,6,7,8]) (by kernel_rfl) (by kernel_rfl) (fun _ _ d _ _ h=>by cases d<;>exact h) ?_
   rw [wpS]
   simp only [opsAt,opA,opB,opC,opD,opE,opF,opG]
   iterate 3 ((refine Zab (fun K hK=>?_); go_simp; refine hK _ ?_; clear hK K))
   refine Zam 24 _ rfl ⟨g1,j*108,none⟩ rfl (bA b) rfl (by rw [HSZ.out]; exact aggBlock) L1.out ?_
   iterate 3 ((refine Zab (fun K hK=>?_); go_simp; refine hK _ ?_; clear hK K))
   refine Zam 24 _ rfl ⟨g2,j*108,none⟩ rfl (bA b') rfl (by rw [HSY.out]; exact aggBlock) L2.out ?_
   refine wpSQ_eql .neq 24 _ _ _ rfl (bA b) (bA b') rfl rfl (.bool (!(b == b'))) rfl (fun w=>block_guard _ _ _ _ _ w) HNE.out ?_
   refine Zae ?_
   intro W hW
   have HXW:=hid (Ext.trans HX.out (Ext.trans xd hW))
   clear hW L1 L2
   by_cases hbb:b=b'
   ·
    have hq:(!(b == b'))=false:=by rw [hbb]; simp
    rw [hq]
    have HQ:=hid hbb
    clear hbb hq
    go_wp2
    go_roundw
    case rel=>exact ⟨j+1,by go_num,by omega,fun i hi=>by
     by_cases e:i=j
     ·
      rw [e,HB.out,HB'.out,HQ.out]
     ·
      exact HEQ.out i (by omega),HXW.out⟩
    case measure=>simp [intOf]; omega
   ·
    have hq:(!(b == b'))=true:=by simpa using hbb
    rw [hq]
    have HQ:=hid (show l≠m from fun q=>hbb (by have:=HB.out; rw [q,HB'.out] at this; cases this; rfl))
    clear hbb hq
    go_wp2
    go_ret
    exact ⟨by rw [decide_eq_false HQ.out]; rfl,HXW.out⟩
  ·
   obtain rfl:l.length=j:=by omega
   have HX:=hid hx
   have HQ:=hid (show l=m from List.ext_getElem? fun i=>by
    by_cases e:i < l.length
    ·
     exact HEQ.out i e
    ·
     rw [List.getElem?_eq_none (by omega),List.getElem?_eq_none (by rw [HLM.out]; omega)])
   clear hx
   go_wp2
   go_ret
   exact ⟨by rw [decide_eq_true HQ.out]; rfl,HX.out⟩
end Go.Proofs.YtgjnnbomnoafcaaGreat
namespace Go.Proofs.YtgjnnbomnoafcaaGreat
set_option linter.unusedVariables false
open Go Go.RowKit
theorem OwnVs.many {w:World} {B sz:Nat} {ty:TypeId} {v:Value} {l:List (Array Value)} (h:OwnVs w B ty sz v l) {tsl:TypeId} {z:Value} {by_:Nat} (hu:Tryz.prog.underlying tsl=some (.slice ty)) (hi:(Tryz.prog.info? ty).map (fun i=>(i.zero,i.size,i.bytes))=some (some z,sz,by_)) (hz:z.cells.size=sz) (h0:0 < sz)
  (news:List (Array Value)) (hx:∀ x∈news,x.size=sz) (h1:∀ u∈news.flatMap Array.toList,u.oneCell'=true) (ad:Addr) (hc:∀ j u,(news.flatMap Array.toList)[j]?=some u->w.cell? (ad.add j)=some u) (cp:Nat) (hl:l.length+news.length < 1000) (hby:by_<=1000000) (hB:B<=w.heap.size) :
  ∃ v' w',(Builtin.append_ #[tsl,tsl] tsl #[v,.slice (some ad) news.length cp]).run Tryz.prog w=.ok v' w'/\OwnVs w' B ty sz v' (l++news)/\Only (fun b=>v.ownBlock=some b) w w':=by
 obtain ⟨i0,hi,hz0,hz1,hz2⟩:=info_parts hi
 have hb1:(l.length+news.length)*by_<=140737488355328:=by
  have:=Nat.mul_le_mul (show l.length+news.length<=1000 by omega) hby
  omega
 obtain ⟨v',w',e1,e2,e3,_,e5⟩:=run_append_own_at (P:=Tryz.prog) (w:=w) B tsl tsl ty i0 z sz by_ hu hi hz0 hz1 hz2 hz h0 v l.length _ h.1 ad news.length cp (news.flatMap Array.toList) (by rw [flat_len news hx]) hc h1 (by unfold maxLen; omega) hb1 hB
 have ho:Only (fun b=>v.ownBlock=some b) w w':=(Only.refl (fun b=>v.ownBlock=some b) w).grown e3 (fun k _ e=>e)
 refine ⟨v',w',e1,⟨?_,?_⟩,ho⟩
 ·
  rw [List.length_append,List.flatMap_append]
  exact e2
 ·
  intro y hy
  rcases List.mem_append.1 hy with hy | hy
  ·
   exact h.2 y hy
  ·
   exact hx y hy
theorem infoBk:(Tryz.prog.info? 24).map (fun i=>(i.zero,i.size,i.bytes))=some (some (.agg (bA z108)),108,108):=infoBlk
theorem app_blocks (W:World) (g:Nat) (hg:W.heap[g]?=some (.cells #[] 24 (0,0))) (a:Option Addr) (c:Nat) (l:List (List Nat)) (h:BlksAt W a l) (h8:∀ b∈l,b.length=108) (hn:l.length<=8) :
  ∃ v W',(Builtin.append_ #[29,29] 29 #[.slice (some ⟨g,0,none⟩) 0 0,.slice a l.length c]).run Tryz.prog W=.ok v W'/\OwnVs W' g 24 108 v (l.map bA)/\Only (fun b=>b=g) W W':=by
 have hlt:=lt_of_block hg
 have hown:OwnVs W g 24 108 (.slice (some ⟨g,0,none⟩) 0 0) []:=⟨⟨rfl,.inr ⟨g,0,#[],rfl,Nat.le_refl _,hg,Nat.le_refl _,Nat.zero_le _,rfl,rfl⟩⟩,by simp⟩
 by_cases h0:l=[]
 ·
  subst h0
  obtain ⟨i0,hi,hz0,hz1,hz2⟩:=info_parts infoBk
  refine ⟨_,W,?_,hown,Only.refl _ _⟩
  cases a<;>simp [loadCells,loadCellsFrom,Builtin.append_,run_underlying Tryz.underlying29,sizeOf,typeInfo,hi,Builtin.lenOf,Builtin.firstCells,storeCells]
 ·
  obtain ⟨b0,l0,rfl⟩:=List.exists_cons_of_ne_nil h0
  obtain ⟨gb,rfl,_⟩:=h 0 b0 rfl
  have hsz:∀ x∈(b0::l0).map bA,x.size=108:=fun x hx=>by
   obtain ⟨b,hb,rfl⟩:=List.mem_map.1 hx
   rw [Zaz,h8 b hb]
  obtain ⟨v',w',e1,e2,e3⟩:=hown.many (tsl:=29) Tryz.underlying29 infoBk (by show (Value.agg (bA z108)).cells.size=108; simp [Value.cells,Zaz,z108]) (by omega) ((b0::l0).map bA) hsz (fun u hu=>by
   obtain ⟨x,hx,hu⟩:=List.mem_flatMap.1 hu
   obtain ⟨b,hb,rfl⟩:=List.mem_map.1 hx
   exact bA_one b u hu) ⟨gb,0,none⟩ (fun j u hj=>by
   have hjl:j < (b0::l0).length*108:=by
    rcases Nat.lt_or_ge j ((b0::l0).length*108) with q | q
    ·
     exact q
    ·
     rw [List.getElem?_eq_none (by rw [flat_len _ hsz,List.length_map]; exact q)] at hj; cases hj
   obtain ⟨b,hb⟩:∃ b,(b0::l0)[j / 108]?=some b:=⟨_,List.getElem?_eq_getElem (by omega)⟩
   have hq:j / 108*108+j % 108=j:=by omega
   have h2:=flat_get _ hsz (j / 108) (bA b) (by rw [List.getElem?_map,hb]; rfl) (j % 108) (by omega)
   rw [hq,hj] at h2
   obtain ⟨g',hg',hcell⟩:=h (j / 108) b hb
   cases hg'
   have h3:=hcell (j % 108) (by omega)
   rw [hq] at h3
   have e:(⟨gb,0,none⟩:Addr).add j=⟨gb,j,none⟩:=by unfold Addr.add; split<;>simp_all
   rw [e,h3,h2,<- Array.getElem?_toList.symm,Zbf b (j % 108) (by rw [h8 b (List.mem_of_getElem? hb)]; omega)]) c (by simp at hn ⊢; omega) (by decide) (Nat.le_of_lt hlt)
  rw [List.length_map] at e1
  exact ⟨v',w',e1,by simpa using e2,e3.mono fun b _ q=>by simpa [Value.ownBlock] using q.symm⟩
theorem blk_store {w:World} {g:Nat} {cur:Array Value} {t:TypeId} (hg:w.heap[g]?=some (.cells cur t (0,0))) {l:List (List Nat)} (hb:BlksAt w (some ⟨g,0,none⟩) l) (h8:∀ b∈l,b.length=108) {q:Nat} (hq:q < l.length) {x:List Nat} (hx:x.length=108) (hfit:q*108+(bA x).size<=cur.size) :
  BlksAt (w.setRow g (cur.toList.take (q*108)++(bA x).toList++cur.toList.drop (q*108+(bA x).size)).toArray) (some ⟨g,0,none⟩) (l.set q x):=by
 intro i b hi
 refine ⟨g,rfl,fun j hj=>?_⟩
 have hnew:=setRow_heap _ _ cur (cur.toList.take (q*108)++(bA x).toList++cur.toList.drop (q*108+(bA x).size)).toArray _ _ hg
 have hs:(bA x).size=108:=by rw [Zaz,hx]
 refine (Zaf hnew).trans ?_
 rw [hs] at hfit ⊢
 have h1:(cur.toList.take (q*108)).length=q*108:=by rw [List.length_take,Array.length_toList]; omega
 have h2:(bA x).toList.length=108:=by rw [Array.length_toList,hs]
 rw [List.getElem?_toArray,List.append_assoc]
 by_cases e:i=q
 ·
  subst e
  have hbx:b=x:=by
   rw [List.getElem?_set_self hq] at hi
   exact (Option.some.inj hi).symm
  subst hbx
  rw [List.getElem?_append_right (by omega),h1,List.getElem?_append_left (by omega),show i*108+j - i*108=j by omega,Array.getElem?_toList,Zbf b j (by omega)]
 ·
  rw [List.getElem?_set_ne (fun z=>e z.symm)] at hi
  obtain ⟨g',hg',hc⟩:=hb i b hi
  cases hg'
  have h3:=hc j hj
  rw [Zaf hg] at h3
  rcases Nat.lt_or_gt_of_ne e with z | z
  ·
   rw [List.getElem?_append_left (by omega),List.getElem?_take,if_pos (by omega),Array.getElem?_toList]
   exact h3
  ·
   rw [List.getElem?_append_right (by omega),h1,List.getElem?_append_right (by omega),h2,List.getElem?_drop,show q*108+108+(i*108+j - q*108 - 108)=i*108+j by omega,Array.getElem?_toList]
   exact h3
open Go Go.ChangeShapes Go.WideShapes Go.ChangeAt Go.RowKit
def numOf:Value->Nat
 | .int _ n=>n.toNat
 | _=>0
set_option maxRecDepth 100000 in
theorem open_block {H:Type} {enc:TypeId × Value->H} {W:World} {b0 base:Nat} {sp:Nat->Bool} {held:Bool} {r:Reach} {v:Value} {d:DataW H} {p:List MemPlace} (hv:Value.okWide Tryz.prog W r b0 24 v)
  (h:DataW.Trod enc Tryz.prog W base sp held 24 v d p):∃ l:List Nat,v=.agg (bA l)/\l.length=108/\∀ x∈l,x < 256:=by
 simp only [Value.okWide,Tryz.underlying24] at hv
 obtain ⟨cs,rfl,_⟩:=hv
 obtain ⟨fuel,hf⟩:=h
 obtain ⟨xs,m,_,_,hl,hlen,hfd⟩:=DataW.trod_array Tryz.underlying24 hf
 have c1:Tryz.prog.cellsOf 5=1:=by kernel_rfl
 have c2:Tryz.prog.cellsOf 24=108:=by kernel_rfl
 have hcl:(Value.agg cs).cells.toList.length=108:=by rw [<- c2]; exact hl
 have hsz:cs.toList.length=108:=by simpa [Value.cells] using hcl
 have hone:∀ i,i < 108->∃ n:Int,cs.toList[i]?=some (.int .u8 n)/\0<=n/\n < 256:=fun i hi=>by
  have h1:=hfd i hi
  rw [c1,Nat.mul_one] at h1
  obtain ⟨y,hy⟩:∃ y,xs[i]?=some y:=⟨_,List.getElem?_eq_getElem (by omega)⟩
  rw [hy] at h1
  obtain ⟨n,e1,_,hw⟩:=DataW.trod_int Tryz.underlying5 h1
  have e2:cs.toList[i]?=some (.int .u8 n):=by
   have e3:((cs.toList.drop i).take 1)[0]?=some (Value.int .u8 n):=by
    have:(Value.agg cs).cells.toList=cs.toList:=by simp [Value.cells]
    rw [this] at e1
    rw [e1]; rfl
   rw [List.getElem?_take,if_pos (by omega),List.getElem?_drop,Nat.add_zero] at e3
   exact e3
  refine ⟨n,e2,?_⟩
  simp only [Lit.wf,Bool.and_eq_true,decide_eq_true_eq] at hw
  simp only [IntKind.min,IntKind.max,IntKind.signed,IntKind.bits,Bool.false_eq_true,if_false] at hw
  omega
 refine ⟨cs.toList.map numOf,?_,by rw [List.length_map,hsz],fun x hx=>?_⟩
 ·
  congr 1
  apply Array.ext'
  apply List.ext_getElem?
  intro i
  rcases Nat.lt_or_ge i 108 with hi | hi
  ·
   obtain ⟨n,e,n0,n1⟩:=hone i hi
   have e2:(cs.toList.map numOf)[i]?=some n.toNat:=by rw [List.getElem?_map,e]; rfl
   have hb:=Zbf (cs.toList.map numOf) i (by rw [List.length_map,hsz]; exact hi)
   rw [<- Array.getElem?_toList] at hb
   rw [hb,e]
   congr 1
   unfold nth
   rw [List.getD_eq_getElem?_getD,e2]
   simp
   omega
  ·
   rw [List.getElem?_eq_none (by omega),List.getElem?_eq_none (by rw [Array.length_toList,Zaz,List.length_map,hsz]; exact hi)]
 ·
  obtain ⟨v,hv,rfl⟩:=List.mem_map.1 hx
  obtain ⟨i,hi,e⟩:=List.getElem_of_mem hv
  obtain ⟨n,e2,n0,n1⟩:=hone i (by omega)
  rw [List.getElem?_eq_getElem hi,e] at e2
  cases e2
  show n.toNat < 256
  omega
end Go.Proofs.YtgjnnbomnoafcaaGreat
