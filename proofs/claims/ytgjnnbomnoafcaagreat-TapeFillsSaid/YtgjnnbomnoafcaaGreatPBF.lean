/- Texts of one proof, joined: TapeSome, NestRow. -/
import Derived.Test.YtgjnnbomnoafcaaGreatPBB
import Derived.Test.YtgjnnbomnoafcaaGreatPJ
import Derived.Test.YtgjnnbomnoafcaaGreatPO
import Derived.Test.YtgjnnbomnoafcaaGreatPA
import Derived.Deep.Matrix
set_option linter.unusedVariables false
set_option linter.unusedSimpArgs false
namespace Go.Proofs.YtgjnnbomnoafcaaGreat
set_option linter.unusedVariables false
open Go Go.RowKit
attribute [local irreducible] wpSQ
def NestAt (w:World) (a:Option Addr) (len:Nat) (Z:Nat->List Nat):Prop:=∀ r,r < len->∃ g off p C,a=some ⟨g,off,none⟩/\w.cell? ⟨g,off+r,none⟩=some (.slice p (Z r).length C)/\(Z r).length<=C/\C<=9223372036854775807/\(p=none->C=0)/\∀ n,n<=(Z r).length->n<=140737488355328->BytesAt w p n ((Z r).take n)
theorem NestAt.ext {w w':World} {a:Option Addr} {len:Nat} {Z:Nat->List Nat} (h:NestAt w a len Z) (e:Ext w w'):NestAt w' a len Z:=fun r hr=>by
 obtain ⟨g,off,p,C,h1,h2,h3,h4,h5,h6⟩:=h r hr
 exact ⟨g,off,p,C,h1,e.cell h2,h3,h4,h5,fun n hn hs=>(h6 n hn hs).ext e⟩
theorem cell_lt {w:World} {b o:Nat} {v:Value} (h:w.cell? ⟨b,o,none⟩=some v):b < w.heap.size:=by
 unfold World.cell? at h
 rcases Nat.lt_or_ge b w.heap.size with q | q
 ·
  exact q
 ·
  rw [Array.getElem?_eq_none q] at h; cases h
def someL (Z:Nat->List Nat) (most n:Nat):List (List Nat):=(List.range n).map fun r=>(Z r).take most
theorem someL_succ (Z:Nat->List Nat) (most n:Nat):someL Z most n++[(Z n).take most]=someL Z most (n+1):=by unfold someL; rw [List.range_succ,List.map_append]; rfl
theorem someL_len (Z:Nat->List Nat) (most n:Nat):(someL Z most n).length=n:=by simp [someL]
def SomePost (w:World) (es:List (List Nat)) (e:Ending) (w':World):Prop:=∃ v bk cp,e=.returned v/\EOwn w' w.heap.size v es bk cp/\Ext w w'
theorem take_min {l:List Nat} {m n:Nat} (h:n=min l.length m):l.take n=l.take m:=by
 rcases Nat.le_total l.length m with q | q
 ·
  rw [h,Nat.min_eq_left q,List.take_length,List.take_of_length_le q]
 ·
  rw [h,Nat.min_eq_right q]
set_option maxRecDepth 100000 in
set_option maxHeartbeats 1500000 in
theorem some_c {a:Option Addr} {len:Nat} (cap:Nat) {Z:Nat->List Nat} (most:Nat) (hm:most<=1000) (w:World) (h:NestAt w a len Z) :
  Calls Tryz.prog 5 #[.slice a len cap,.int .i64 most] w (SomePost w (someL Z most (min len 6))):=by
 have H:=hid h
 clear h
 go_enter Tryz.func5,Tryz.ntmps5
 go_wp2_with fail
 go_loopw [6,5] (fun t v wr=>∃ (i:Nat) (bk cp:Nat->Nat),t=.int .i64 i/\i<=len/\i<=6/\EOwn wr w.heap.size v (someL Z most i) bk cp/\Ext w wr) (fun t _ _=>6 - (intOf t).toNat)
 case atStart=>exact ⟨0,_,_,rfl,by omega,by omega,EOwn.nil _ _,Ext.refl _⟩
 case round =>
  obtain ⟨i,bk,cp,rfl,hi,hi6,hown,hx⟩:=hrel
  have HO:=hid hown; have HX:=hid hx
  clear hown hx
  by_cases hlt:i < len
  ·
   have i1:(i:Int) < (len:Int):=by omega
   by_cases hl6:i < 6
   ·
    have i2:(i:Int) < 6:=by omega
    have i0:(0:Int)<=(i:Int):=by omega
    obtain ⟨g,off,p,C,rfl,hc,hzc,hc63,hpn,hbz⟩:=H.out i hlt
    have hgl:=cell_lt hc
    have xd:Ext wr wr.drew:=(Ext.refl wr).drew
    have HXD:=hid xd
    have cl:∀ y:SW (Only fun b=>w.heap.size<=b) wr.drew,y.w.cell? ⟨g,off+i,none⟩=some (.slice p (Z i).length C):=fun y=>Only.cell y.ext (Ext.cell (Ext.trans HX.out HXD.out) hc) (by show ¬w.heap.size<=g; omega)
    clear xd hc
    by_cases hml:most < (Z i).length
    ·
     have tm:(most:Int) < ((Z i).length:Int):=by omega
     have HMM:=hid (show most=min (Z i).length most by omega)
     have HBP:=hid (hbz most (by omega) (by omega))
     have hmc:most<=C:=by omega
     clear hbz
     go_wp2_with fail
     refine Zau (E:=Ext) (S:=Only fun b=>w.heap.size<=b) (.one [0,2,3,4,5,6,7,8,9,10,11,12,13] 1 (.one [] 14 (.one [] 15 (.one [] 16 (.fin [17]))))) (by kernel_rfl) (by kernel_rfl) (fun _ _ d _ _ h=>by cases d<;>exact h) ?_
     rw [wpS]
     simp only [opsAt,opA,opB,opC,opD,opE,opF,opG]
     iterate 13 ((refine Zab (fun K hK=>?_); go_simp; refine hK _ ?_; clear hK K))
     refine Zae ?_
     intro V1 hV1
     have HX1:=hid (Ext.trans HXD.out hV1)
     clear hV1 cl HXD
     refine Zav fun Q1 hQ1=>?_
     go_wp2_with fail
     refine hQ1 _ _ (Ext.only ((Ext.refl V1).alloc _)) ?_
     clear hQ1 Q1
     rw [wpS]
     simp only [opsAt,opA,opB,opC,opD,opE,opF,opG]
     refine Zae ?_
     intro V2 hV2
     have hb2:V2.heap[V1.heap.size]?=some (.cells #[] 5 (0,0)):=Ext.at hV2 Zad
     have hx12:Ext V1 V2:=Ext.trans ((Ext.refl V1).alloc _) hV2
     have hs1:w.heap.size<=V1.heap.size:=Nat.le_trans HX.out.size HX1.out.size
     have hs1':wr.heap.size<=V1.heap.size:=HX1.out.size
     generalize V1.heap.size=b1 at *
     obtain ⟨b2,cp2,W2,hap,hown,hon,hge⟩:=Zbn V2 b1 hb2 p most C ((Z i).take most) ((HBP.out.ext HX.out).ext (Ext.trans HX1.out hx12))
     have HAP:=hid hap
     have HB2:=hid (Zbs hown (HBP.out.byte) (by omega))
     have HW2:=hid (show Ext wr W2 from Ext.then (Ext.trans HX1.out hx12) hon fun q hq e=>by have e:q=b1:=e; omega)
     have HLT:=hid (show b2 < W2.heap.size from owns_lt hown)
     have HBN:=hid (show wr.heap.size<=b2 by omega)
     clear hap hown hV2 hx12 hb2 HX1
     refine Zav fun Q2 hQ2=>?_
     go_wp2_with (at_builtin; refine Zah rfl _ _ _ rfl _ _ _ _ rfl rfl HAP.out ?_)
     go_wp2
     refine hQ2 _ _ (Only.trans (Only.refl _ V2) hon fun b _ e=>by have e:b=b1:=e; show w.heap.size<=b; omega) ?_
     clear hQ2 Q2 hon HAP
     rw [wpS]
     simp only [opsAt,opA,opB,opC,opD,opE,opF,opG]
     refine Zae ?_
     intro V3 hV3
     have HV3:=hid (Ext.trans HW2.out hV3)
     have HB3:=hid (HB2.out.ext hV3)
     have HLT3:=hid (show b2 < V3.heap.size from Nat.lt_of_lt_of_le HLT.out hV3.size)
     clear hV3 HW2 HB2 HLT
     refine Zav fun Q3 hQ3=>?_
     go_wp2_with fail
     refine hQ3 _ _ (Ext.only ((Ext.refl V3).alloc _)) ?_
     clear hQ3 Q3
     rw [wpS]
     simp only [opsAt,opA,opB,opC,opD,opE,opF,opG]
     refine Zae ?_
     intro V4 hV4
     have hb4:V4.heap[V3.heap.size]?=some (.cells (entV b2 most cp2) 38 (0,0)):=Ext.at hV4 Zad
     have hx34:Ext V3 V4:=Ext.trans ((Ext.refl V3).alloc _) hV4
     have hl4:((Z i).take most).length=most:=by rw [List.length_take]; omega
     obtain ⟨v5,w5,bk5,cp5,hap5,heo5,hx5,hon5⟩:=HO.out.push2 (Ext.trans HV3.out hx34) (b:=b2) (c:=cp2) (x:=(Z i).take most) (by rw [hl4]; exact HB3.out.ext hx34) (Nat.lt_of_lt_of_le HLT3.out hx34.size) HBN.out (by rw [someL_len]; omega) HX.out.size (bs:=V3.heap.size) (by rw [hl4]; exact hb4)
     have HAP5:=hid hap5
     have HEO5:=hid (show EOwn w5 w.heap.size v5 (someL Z most (i+1)) bk5 cp5 from by
      rw [<- someL_succ,<- take_min HMM.out]; exact heo5)
     have HX5:=hid (hx5 w (Nat.le_refl _) (Ext.trans HX.out (Ext.trans HV3.out hx34)))
     generalize V3.heap.size=b3 at *
     clear hap5 heo5 hx5 hV4 hb4 hx34 hl4
     refine Zav fun Q4 hQ4=>?_
     go_wp2_with (at_builtin; refine Zah rfl _ _ _ rfl _ _ _ _ rfl rfl HAP5.out ?_)
     go_wp2
     refine hQ4 _ _ (Only.trans (Only.refl _ V4) hon5 fun b _ e=>(HO.out.own.lt b e).1) ?_
     clear hQ4 Q4 hon5 HAP5
     rw [wpS]
     simp only [opsAt,opA,opB,opC,opD,opE,opF,opG]
     (refine Zab (fun K hK=>?_); go_simp; refine hK _ ?_; clear hK K)
     refine Zae ?_
     intro V5 hV5
     have HE6:=hid (HEO5.out.ext hV5)
     have HX6:=hid (Ext.trans HX5.out hV5)
     clear hV5 HEO5 HX5
     go_wp2_with fail
     go_roundw
     case rel=>exact ⟨i+1,bk5,cp5,by go_num,by omega,by omega,HE6.out,HX6.out⟩
     case measure=>simp [intOf]; omega
    ·
     have tm:¬(most:Int) < ((Z i).length:Int):=by omega
     have HMM:=hid (show (Z i).length=min (Z i).length most by omega)
     have HBP:=hid (hbz (Z i).length (by omega) (by omega))
     have hmc:(Z i).length<=C:=by omega
     clear hbz
     go_wp2_with fail
     refine Zau (E:=Ext) (S:=Only fun b=>w.heap.size<=b) (.one [0,2,3,4,5,6,7,8,9,10,11,12,13] 1 (.one [] 14 (.one [] 15 (.one [] 16 (.fin [17]))))) (by kernel_rfl) (by kernel_rfl) (fun _ _ d _ _ h=>by cases d<;>exact h) ?_
     rw [wpS]
     simp only [opsAt,opA,opB,opC,opD,opE,opF,opG]
     iterate 13 ((refine Zab (fun K hK=>?_); go_simp; refine hK _ ?_; clear hK K))
     refine Zae ?_
     intro V1 hV1
     have HX1:=hid (Ext.trans HXD.out hV1)
     clear hV1 cl HXD
     refine Zav fun Q1 hQ1=>?_
     go_wp2_with fail
     refine hQ1 _ _ (Ext.only ((Ext.refl V1).alloc _)) ?_
     clear hQ1 Q1
     rw [wpS]
     simp only [opsAt,opA,opB,opC,opD,opE,opF,opG]
     refine Zae ?_
     intro V2 hV2
     have hb2:V2.heap[V1.heap.size]?=some (.cells #[] 5 (0,0)):=Ext.at hV2 Zad
     have hx12:Ext V1 V2:=Ext.trans ((Ext.refl V1).alloc _) hV2
     have hs1:w.heap.size<=V1.heap.size:=Nat.le_trans HX.out.size HX1.out.size
     have hs1':wr.heap.size<=V1.heap.size:=HX1.out.size
     generalize V1.heap.size=b1 at *
     obtain ⟨b2,cp2,W2,hap,hown,hon,hge⟩:=Zbn V2 b1 hb2 p (Z i).length C ((Z i).take (Z i).length) ((HBP.out.ext HX.out).ext (Ext.trans HX1.out hx12))
     have HAP:=hid hap
     have HB2:=hid (Zbs hown (HBP.out.byte) (by omega))
     have HW2:=hid (show Ext wr W2 from Ext.then (Ext.trans HX1.out hx12) hon fun q hq e=>by have e:q=b1:=e; omega)
     have HLT:=hid (show b2 < W2.heap.size from owns_lt hown)
     have HBN:=hid (show wr.heap.size<=b2 by omega)
     clear hap hown hV2 hx12 hb2 HX1
     refine Zav fun Q2 hQ2=>?_
     go_wp2_with (at_builtin; refine Zah rfl _ _ _ rfl _ _ _ _ rfl rfl HAP.out ?_)
     go_wp2
     refine hQ2 _ _ (Only.trans (Only.refl _ V2) hon fun b _ e=>by have e:b=b1:=e; show w.heap.size<=b; omega) ?_
     clear hQ2 Q2 hon HAP
     rw [wpS]
     simp only [opsAt,opA,opB,opC,opD,opE,opF,opG]
     refine Zae ?_
     intro V3 hV3
     have HV3:=hid (Ext.trans HW2.out hV3)
     have HB3:=hid (HB2.out.ext hV3)
     have HLT3:=hid (show b2 < V3.heap.size from Nat.lt_of_lt_of_le HLT.out hV3.size)
     clear hV3 HW2 HB2 HLT
     refine Zav fun Q3 hQ3=>?_
     go_wp2_with fail
     refine hQ3 _ _ (Ext.only ((Ext.refl V3).alloc _)) ?_
     clear hQ3 Q3
     rw [wpS]
     simp only [opsAt,opA,opB,opC,opD,opE,opF,opG]
     refine Zae ?_
     intro V4 hV4
     have hb4:V4.heap[V3.heap.size]?=some (.cells (entV b2 (Z i).length cp2) 38 (0,0)):=Ext.at hV4 Zad
     have hx34:Ext V3 V4:=Ext.trans ((Ext.refl V3).alloc _) hV4
     have hl4:((Z i).take (Z i).length).length=(Z i).length:=by rw [List.length_take]; omega
     obtain ⟨v5,w5,bk5,cp5,hap5,heo5,hx5,hon5⟩:=HO.out.push2 (Ext.trans HV3.out hx34) (b:=b2) (c:=cp2) (x:=(Z i).take (Z i).length) (by rw [hl4]; exact HB3.out.ext hx34) (Nat.lt_of_lt_of_le HLT3.out hx34.size) HBN.out (by rw [someL_len]; omega) HX.out.size (bs:=V3.heap.size) (by rw [hl4]; exact hb4)
     have HAP5:=hid hap5
     have HEO5:=hid (show EOwn w5 w.heap.size v5 (someL Z most (i+1)) bk5 cp5 from by
      rw [<- someL_succ,<- take_min HMM.out]; exact heo5)
     have HX5:=hid (hx5 w (Nat.le_refl _) (Ext.trans HX.out (Ext.trans HV3.out hx34)))
     generalize V3.heap.size=b3 at *
     clear hap5 heo5 hx5 hV4 hb4 hx34 hl4
     refine Zav fun Q4 hQ4=>?_
     go_wp2_with (at_builtin; refine Zah rfl _ _ _ rfl _ _ _ _ rfl rfl HAP5.out ?_)
     go_wp2
     refine hQ4 _ _ (Only.trans (Only.refl _ V4) hon5 fun b _ e=>(HO.out.own.lt b e).1) ?_
     clear hQ4 Q4 hon5 HAP5
     rw [wpS]
     simp only [opsAt,opA,opB,opC,opD,opE,opF,opG]
     (refine Zab (fun K hK=>?_); go_simp; refine hK _ ?_; clear hK K)
     refine Zae ?_
     intro V5 hV5
     have HE6:=hid (HEO5.out.ext hV5)
     have HX6:=hid (Ext.trans HX5.out hV5)
     clear hV5 HEO5 HX5
     go_wp2_with fail
     go_roundw
     case rel=>exact ⟨i+1,bk5,cp5,by go_num,by omega,by omega,HE6.out,HX6.out⟩
     case measure=>simp [intOf]; omega
   ·
    have i2:¬(i:Int) < 6:=by omega
    have hmn:min len 6=i:=by omega
    have HMN:=hid hmn
    clear hmn
    go_wp2_with fail
    go_ret
    rw [HMN.out]
    exact ⟨_,bk,cp,rfl,HO.out,HX.out⟩
  ·
   have i1:¬(i:Int) < (len:Int):=by omega
   have hmn:min len 6=i:=by omega
   have HMN:=hid hmn
   clear hmn
   go_wp2_with fail
   go_ret
   rw [HMN.out]
   exact ⟨_,bk,cp,rfl,HO.out,HX.out⟩
end Go.Proofs.YtgjnnbomnoafcaaGreat
namespace Go.Proofs.YtgjnnbomnoafcaaGreat
set_option linter.unusedVariables false
open Go Go.RowKit
theorem rowB_len {z:List Int} {n:Nat} (h:n<=z.length):(rowB z n).length=n:=by simp [rowB]; omega
theorem rowB_take (z:List Int) {n m:Nat} (h:n<=m):(rowB z m).take n=rowB z n:=by
 unfold rowB
 rw [<- List.map_take,List.take_take,Nat.min_eq_left h]
theorem nest_of {w:World} {base:Nat} {a:Addr} {len cap:Nat} {A:Nat->Option Addr} {L C:Nat->Nat} {Z:Nat->List Int} (hl:len<=cap)
  (h:∀ r,r < cap->w.cell? (a.add r)=some (.slice (A r) (L r) (C r))/\L r<=C r/\C r<=maxLen/\(Z r).length=C r/\(∀ n∈Z r,(Lit.int .u8 n).wf=true)/\(A r=none->C r=0)/\∀ a',A r=some a'->base<=a'.block/\∀ c,c < C r->w.cell? (a'.add c)=some (.int .u8 ((Z r).getD c 0))) :
  NestAt w (some a) len fun r=>rowB (Z r) (L r):=fun r hr=>by
 obtain ⟨h1,h2,h3,h4,h5,h6,h7⟩:=h r (by omega)
 have hrl:(rowB (Z r) (L r)).length=L r:=rowB_len (by omega)
 have hrow:IsRow .u8 w (A r) (L r) (C r) (Z r):=by
  rcases e:A r with _ | x
  ·
   have h0:=h6 e
   exact .inl ⟨rfl,by omega,h0,List.length_eq_zero_iff.1 (by omega)⟩
  ·
   exact .inr ⟨x,rfl,h2,h3,h4,fun i hi=>(h7 x e).2 i (by omega),h5⟩
 obtain ⟨b,off,sp⟩:=a
 rcases sp with _ | sp
 ·
  have e:(⟨b,off,none⟩:Addr).add r=⟨b,off+r,none⟩:=by unfold Addr.add; split<;>simp_all
  rw [e] at h1
  refine ⟨b,off,A r,C r,rfl,by rw [hrl]; exact h1,by rw [hrl]; exact h2,by unfold maxLen at h3; omega,h6,fun n hn hs=>?_⟩
  rw [hrl] at hn
  rw [rowB_take _ hn]
  exact hrow.bytes n hn hs
 ·
  exfalso
  have h0:=(h 0 (by omega)).1
  unfold World.cell? Addr.add at h0
  split at h0<;>simp_all
theorem NestAt.nil (w:World) (a:Option Addr) (Z:Nat->List Nat):NestAt w a 0 Z:=fun r hr=>by omega
end Go.Proofs.YtgjnnbomnoafcaaGreat
