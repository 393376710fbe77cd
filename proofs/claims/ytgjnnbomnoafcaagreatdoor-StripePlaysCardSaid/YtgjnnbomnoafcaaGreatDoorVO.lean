/- Texts of one proof, joined: WearOne, KSect, OkindC, TwoA, TwoB, TwoC, Rely3. -/
import Derived.Test.YtgjnnbomnoafcaaGreatDoorProg
import Derived.Test.YtgjnnbomnoafcaaGreatDoorVA
import Derived.Test.YtgjnnbomnoafcaaGreatDoorVH
import Derived.Test.YtgjnnbomnoafcaaGreatDoorVC
import Derived.Test.YtgjnnbomnoafcaaGreatDoorVJ
import Derived.Test.YtgjnnbomnoafcaaGreatDoorVM
import Derived.Test.YtgjnnbomnoafcaaGreatDoorVI
import Derived.Test.YtgjnnbomnoafcaaGreatDoorVN
import Derived.Test.YtgjnnbomnoafcaaGreatDoorVF
import Derived.Test.YtgjnnbomnoafcaaGreatDoorVB
set_option linter.unusedVariables false
set_option linter.unusedSimpArgs false
namespace Go.Proofs.YtgjnnbomnoafcaaGreatDoor
set_option linter.unusedVariables false
open Go Go.RowKit
def WrA (k d s q x:Int) (ba:Option Addr) (bl bc:Nat):Array Value:=#[.int .i64 k,.int .i64 d,.int .i64 s,.int .i64 q,.int .u32 x,.slice ba bl bc]
theorem WrA_size (k d s q x:Int) (ba:Option Addr) (bl bc:Nat):(WrA k d s q x ba bl bc).size=6:=rfl
theorem aggWr:AggType Tryz.prog 79 6:=⟨by kernel_rfl,by kernel_rfl⟩
set_option maxRecDepth 100000 in
theorem ksectors_c (c:Cfg) (hc:c.Good) (w:World):Calls Tryz.prog 129 #[.agg (Cfg.A c)] w fun e w'=>e=.returned (.int .i64 c.sectors)/\Ext w w':=by
 have a1:=Cfg.A1 c
 have a3:=Cfg.A3 c
 have a4:=Cfg.A4 c
 have HR:Hid (c.sectors=1+c.slots*c.k+c.stripes):=hid rfl
 rw [HR.out]
 have b0:0<=c.slots*c.k:=Int.mul_nonneg (by have:=hc.sl0; omega) (by have:=hc.k0; omega)
 have b1:c.slots*c.k<=4*8:=Int.mul_le_mul hc.sl1 (by have:=hc.k1; have:=hc.n1; omega) (by have:=hc.k0; omega) (by omega)
 have s0:=hc.st0
 have s1:=hc.st1
 clear HR hc
 obtain ⟨id,k,n,st,sl⟩:=c
 simp only at a1 a3 a4 b0 b1 s0 s1 ⊢
 generalize Cfg.A _=A at *
 obtain ⟨p,hp⟩:∃ p,sl*k=p:=⟨_,rfl⟩
 rw [hp] at b0 b1 ⊢
 have hw:wrap64 (sl*k)=p:=by rw [hp]; unfold wrap64; omega
 have w2:wrap64 (1+p)=1+p:=by unfold wrap64; omega
 have w3:wrap64 (1+p+st)=1+p+st:=by unfold wrap64; omega
 clear hp b0 b1 s0 s1
 go_enter Tryz.func129,Tryz.ntmps129
 go_wp2
 go_ret
 exact ⟨ret_int (by simp only [hw,w2,w3]),(Ext.refl w).alloc _⟩
theorem okind_c (o:Option Err) (w:World) (hg:EtLaid w):Calls Tryz.prog 11 #[oErr o] w fun e w'=>e=.returned (.int .i64 (okind o))/\Ext w w':=by
 rcases o with _ | er
 ·
  exact kind_nil w
 ·
  exact kind_err er w hg
attribute [local irreducible] wpSQ
def twoA (r q:Nat):Array Value:=#[.pointer (some ⟨r,0,none⟩),.pointer (some ⟨q,0,none⟩)]
structure TwoIn (S:Nat->Prop) (w:World) (t r q:Nat) (R:Rck):Prop where
 two:TwoAt S w r q R R
 here:w.heap[t]?=some (.cells (twoA r q) 84 (0,0))
 safe:S t
namespace TwoIn
variable {S:Nat->Prop} {w w':World} {t r q:Nat} {R:Rck}
theorem ext (h:TwoIn S w t r q R) (e:Ext w w'):TwoIn S w' t r q R:=⟨h.two.ext e,e.at h.here,h.safe⟩
theorem more {T:Nat->Prop} (h:TwoIn S w t r q R) (e:Ext w w') (hT:∀ b,T b->b < w'.heap.size/\(S b\/w.heap.size<=b)) (ht:T t):TwoIn T w' t r q R:=⟨h.two.more e hT,e.at h.here,ht⟩
theorem less {T:Nat->Prop} (h:TwoIn S w t r q R) (hT:∀ b,T b->S b) (ht:T t):TwoIn T w t r q R:=by
 obtain ⟨⟨h0,K,K',e1,e2,h1,h2,h3,h4⟩,k1,k2⟩:=h
 exact ⟨⟨fun b hb=>h0 b (hT b hb),K,K',e1,e2,h1,h2,fun b hb=>⟨fun q=>(h3 b hb).1 (hT b q),(h3 b hb).2⟩,fun b hb q=>h4 b hb (hT b q)⟩,k1,ht⟩
theorem cell0 (h:TwoIn S w t r q R):w.cell? ⟨t,0,none⟩=some (.pointer (some ⟨r,0,none⟩)):=(Zaf h.here).trans rfl
theorem cell1 (h:TwoIn S w t r q R):w.cell? ⟨t,1,none⟩=some (.pointer (some ⟨q,0,none⟩)):=(Zaf h.here).trans rfl
end TwoIn
theorem built_two (r q:Nat):Tryz.prog.built 84 [(0,.pointer (some ⟨r,0,none⟩)),(1,.pointer (some ⟨q,0,none⟩))]=some (twoA r q):=by kernel_rfl
def TNewPost (w:World) (n m:Nat) (e:Ending) (w':World):Prop:=∃ t r q,e=.returned (.pointer (some ⟨t,0,none⟩))/\TwoIn (fun b=>b < w.heap.size\/b=t) w' t r q (Rck.new n m)/\w.heap.size<=t/\Ext w w'
set_option maxRecDepth 100000 in
set_option maxHeartbeats 4000000 in
theorem tnew_c (c:Cfg) (hc:c.Good) (n m:Nat) (hn:c.n=n) (hm:c.sectors=m) (n1:1<=n) (n8:n<=8) (m1:1<=m) (m128:m<=128) (w:World) :
  Calls Tryz.prog 44 #[.agg (Cfg.A c)] w (TNewPost w n m):=by
 have HGD:=hid hc
 have HM:=hid hm; have HN:=hid hn
 obtain ⟨W1,hW1⟩:∃ W,w.alloc (.cells (Cfg.A c) 74)=W:=⟨_,rfl⟩
 have X1:=hid (show Ext w W1 from hW1▸(Ext.refl w).alloc _)
 have HC:=hid (show W1.heap[w.heap.size]?=some (.cells (Cfg.A c) 74 (0,0)) from hW1▸heap_alloc_new _ _)
 have HAG:=hid (Za6 c)
 have HB:=hid built_two
 clear hc hm hn
 obtain ⟨g,hgq⟩:∃ g,w.heap.size=g:=⟨_,rfl⟩
 rw [hgq] at HC
 have HGQ:=hid hgq
 go_enter Tryz.func44,Tryz.ntmps44
 go_wp2_with fail
 clear hW1 hgq
 have xd:Ext W1 W1.drew:=(Ext.refl W1).drew
 have lc:Hid (∀ x:SW Ext W1.drew,∀ j v,(Cfg.A c).toList[j]?=some v->x.w.cell? ((⟨g,0,none⟩:Addr).add j)=some v):=hid fun x=>Zaj ((Ext.trans xd x.ext).at HC.out)
 have c2:∀ x:SW Ext W1.drew,x.w.cell? ⟨g,2,none⟩=some (.int .i64 n):=fun x=>(Zaf ((Ext.trans xd x.ext).at HC.out)).trans (by rw [Cfg.A2,HN.out])
 have sc:Hid (∀ x:SW Ext W1.drew,Calls Tryz.prog 129 #[.agg (Cfg.A c)] x.w fun e w''=>e=.returned (.int .i64 m)/\Ext x.w w''):=hid fun x=>by
  have:=ksectors_c c HGD.out x.w
  rw [HM.out] at this
  exact this
 refine Zal (S:=Ext) (.one [0,1,2,3] 4 (.fin [5,6,7,8,9])) (by kernel_rfl) (by kernel_rfl) (fun _ _ d _ _ h=>by cases d<;>exact h) ?_
 rw [wpS]
 simp only [opsAt,opA,opB,opC,opD,opE,opF,opG]
 iterate 2 ((refine Zaa (fun K hK=>?_); go_simp; refine hK _ ?_; clear hK K))
 refine Zaz 74 _ rfl ⟨g,0,none⟩ rfl (Cfg.A c) rfl HAG.out lc.out ?_
 (refine Zaa (fun K hK=>?_); go_simp; (apply Exists.intro; refine ⟨fun x=>?_,hK _ ?_⟩; (exact sc.out x); clear hK K))
 refine Zac ?_
 intro V1 hV1
 refine Zat fun K hK=>?_
 go_wp2_with fail
 refine (at_new n m n1 n8 m1 m128 V1).mono ?_
 rintro e w2 ⟨r,rfl,h2,x2⟩
 go_wp2
 refine hK _ _ x2 ?_
 clear hK K
 rw [wpS]
 simp only [opsAt,opA,opB,opC,opD,opE,opF,opG]
 iterate 5 ((refine Zaa (fun K hK=>?_); go_simp; refine hK _ ?_; clear hK K))
 refine Zac ?_
 intro V2 hV2
 have HR2:=hid (h2.ext hV2)
 have HE0:=hid (Ext.trans xd hV1)
 have HE2:=hid (Ext.trans HE0.out (Ext.trans x2 hV2))
 have HV1:=hid (Nat.le_trans x2.size hV2.size)
 clear h2 x2 hV1 hV2 lc c2 sc xd
 have xd:Ext V2 V2.drew:=(Ext.refl V2).drew
 have lc:Hid (∀ x:SW Ext V2.drew,∀ j v,(Cfg.A c).toList[j]?=some v->x.w.cell? ((⟨g,0,none⟩:Addr).add j)=some v):=hid fun x=>Zaj ((Ext.trans HE2.out (Ext.trans xd x.ext)).at HC.out)
 have c2:∀ x:SW Ext V2.drew,x.w.cell? ⟨g,2,none⟩=some (.int .i64 n):=fun x=>(Zaf ((Ext.trans HE2.out (Ext.trans xd x.ext)).at HC.out)).trans (by rw [Cfg.A2,HN.out])
 have sc:Hid (∀ x:SW Ext V2.drew,Calls Tryz.prog 129 #[.agg (Cfg.A c)] x.w fun e w''=>e=.returned (.int .i64 m)/\Ext x.w w''):=hid fun x=>by
  have:=ksectors_c c HGD.out x.w
  rw [HM.out] at this
  exact this
 go_wp2_with fail
 refine Zal (S:=Ext) (.one [0,1,2,3] 4 (.fin [5,6,7,8,9])) (by kernel_rfl) (by kernel_rfl) (fun _ _ d _ _ h=>by cases d<;>exact h) ?_
 rw [wpS]
 simp only [opsAt,opA,opB,opC,opD,opE,opF,opG]
 iterate 2 ((refine Zaa (fun K hK=>?_); go_simp; refine hK _ ?_; clear hK K))
 refine Zaz 74 _ rfl ⟨g,0,none⟩ rfl (Cfg.A c) rfl HAG.out lc.out ?_
 (refine Zaa (fun K hK=>?_); go_simp; (apply Exists.intro; refine ⟨fun x=>?_,hK _ ?_⟩; (exact sc.out x); clear hK K))
 refine Zac ?_
 intro V3 hV3
 refine Zat fun K hK=>?_
 go_wp2_with fail
 refine (frnew_c n m n1 n8 m1 m128 V3).mono ?_
 rintro e w4 ⟨q,rfl,h4,x4⟩
 go_wp2
 refine hK _ _ x4 ?_
 clear hK K
 rw [wpS]
 simp only [opsAt,opA,opB,opC,opD,opE,opF,opG]
 iterate 5 ((refine Zaa (fun K hK=>?_); go_simp; refine hK _ ?_; clear hK K))
 refine Zac ?_
 intro V5 hV5
 have x5:=Ext.trans xd (Ext.trans hV3 (Ext.trans x4 hV5))
 have x3:=Ext.trans xd hV3
 have HTW:=hid (TwoAt.made (HR2.out.ext x3) (h4.ext hV5) (Ext.trans x4 hV5) (fun b hb=>hb) (fun b hb=>Nat.lt_of_lt_of_le hb (Nat.le_trans HV1.out x3.size)))
 have HE5:=hid (Ext.trans HE2.out x5)
 have HLW:=hid (show w.heap.size<=V1.heap.size from Nat.le_trans X1.out.size HE0.out.size)
 clear h4 x4 hV3 hV5 x3 x5 lc c2 sc xd HR2
 obtain ⟨A2,hA2⟩:∃ A,twoA r q=A:=⟨_,rfl⟩
 have HA2:=hid hA2
 have hb2:Tryz.prog.built 84 [(0,.pointer (some ⟨r,0,none⟩)),(1,.pointer (some ⟨q,0,none⟩))]=some A2:=by rw [<- hA2]; exact HB.out r q
 clear hA2
 go_wp2_with (refine Zav rfl 84 _ rfl A2 ?_ ?_; (simp only [List.map_toArray,List.map_cons,List.map_nil,Act.eval]; simp only [Array.getD_eq_getD_getElem?,List.getElem?_toArray,List.getElem?_cons_succ,List.getElem?_cons_zero,Option.getD_some]; exact hb2))
 go_ret
 have hx:=(Ext.refl V5).alloc (.cells A2 84)
 have hn:(V5.alloc (.cells A2 84)).heap[V5.heap.size]?=some (.cells A2 84 (0,0)):=heap_alloc_new _ _
 have hE:=Ext.trans X1.out HE5.out
 exact ⟨V5.heap.size,r,q,rfl,⟨HTW.out.more hx (fun b hb=>by
  rcases hb with hb | rfl
  ·
   exact ⟨by have:=hE.size; have:=lt_of_block hn; omega,.inl (by have:=HLW.out; show b < V1.heap.size; omega)⟩
  ·
   exact ⟨lt_of_block hn,.inr (Nat.le_refl _)⟩),HA2.out▸hn,.inr rfl⟩,hE.size,Ext.trans hE hx⟩
end Go.Proofs.YtgjnnbomnoafcaaGreatDoor
namespace Go.Proofs.YtgjnnbomnoafcaaGreatDoor
set_option linter.unusedVariables false
open Go Go.RowKit
attribute [local irreducible] wpSQ
theorem rot_set {R:Rck} {n m:Nat} (hd:R.Dim n m) {j:Nat} (hj:j < n) (i a:Int) (x:Nat):R.setD (j:Int) (if (R.dsk (j:Int)).rotOk i a x then (R.dsk (j:Int)).rotted i.toNat a.toNat x else R.dsk (j:Int))=R.rot j i a x:=by
 have hh:R.has j=true:=by unfold Rck.has; rw [hd.len]; simp; omega
 unfold Rck.rot Rck.rotOk
 rw [hh,Bool.true_and]
 rcases (R.dsk (j:Int)).rotOk i a x with _ | _
 ·
  show R.setD (j:Int) (R.dsk (j:Int))=R
  unfold Rck.setD Rck.dsk
  rw [Int.toNat_natCast]
  have hl:j < R.l.length:=by rw [hd.len]; exact hj
  have:R.l.set j (R.l.getD j default)=R.l:=by
   apply List.ext_getElem
   ·
    simp
   ·
    intro k h1 h2
    rw [List.getElem_set]
    split
    ·
     rename_i e; subst e; simp [List.getD_eq_getElem?_getD,hl]
    ·
     rfl
  rw [this]
 ·
  rfl
structure FDk (S:Nat->Prop) (w:World) (q:Nat) (R:Rck) (n m j g c p sb sc:Nat) (F:Nat->Prop):Prop where
 row:w.cell? ⟨q,0,none⟩=some (.slice (some ⟨g,0,none⟩) n c)
 ptr:w.cell? ⟨g,j,none⟩=some (.pointer (some ⟨p,0,none⟩))
 sec:w.cell? ⟨p,0,none⟩=some (.slice (some ⟨sb,0,none⟩) m sc)
 far:∀ b,F b->b≠q/\b≠g/\¬S b
 die:∀ w2,Ext w w2->Calls Tryz.prog 24 #[.pointer (some ⟨p,0,none⟩)] w2 fun e w3=>e=.returned (.tuple #[])/\Only F w2 w3/\FRackAt S w3 q (R.die j)/\Keeps S w2 w3
 replace:∀ w2,Ext w w2->Calls Tryz.prog 26 #[.pointer (some ⟨p,0,none⟩)] w2 fun e w3=>e=.returned (.tuple #[])/\Only F w2 w3/\FRackAt S w3 q (R.replace j)/\Keeps S w2 w3
 rot:∀ (i a:Int) (x:Nat),x < 4294967296->∀ w2,Ext w w2->Calls Tryz.prog 28 #[.pointer (some ⟨p,0,none⟩),.int .i64 i,.int .i64 a,.int .u32 x] w2 fun e w3=>(∃ b,e=.returned (.bool b))/\Only F w2 w3/\FRackAt S w3 q (R.rot j i a x)/\Keeps S w2 w3
theorem FRackAt.dk {S:Nat->Prop} {w:World} {q:Nat} {R:Rck} (h:FRackAt S w q R) {n m:Nat} (hd:R.Dim n m) {j:Nat} (hj:j < n):∃ g c p sb sc F,FDk S w q R n m j g c p sb sc F:=by
 have hjl:j < R.l.length:=by rw [hd.len]; exact hj
 have hh:R.has j=true:=by unfold Rck.has; rw [hd.len]; simp; omega
 obtain ⟨g,n',c,p,k,g0,g1,g2,g3,g4,g6,g5⟩:=fat_disk h hjl
 rw [hd.len] at g1
 subst g1 g3
 have hm:k.n=m:=by rw [<- g4.len]; exact hd.dsk hj
 refine ⟨g,c,k.p,k.lb,k.c,k.foot,g0,g2,hm▸g4.cell0,g6,fun w2 x=>?_,fun w2 x=>?_,fun i a z hz w2 x=>?_⟩
 ·
  refine (fdie_c (g4.ext x)).mono ?_
  rintro e w3 ⟨rfl,k',ht⟩
  obtain ⟨h4,k4⟩:=g5 _ _ _ ((FTo.ext g4 x).then ht)
  refine ⟨rfl,ht.only,?_,ht.only.mono fun b _ hb hs=>(g6 b hb).2.2 hs⟩
  have e:R.die j=R.setD (j:Int) (R.dsk (j:Int)).die:=by unfold Rck.die; rw [hh]; rfl
  rw [e]; exact h4
 ·
  refine (freplace_c (g4.ext x)).mono ?_
  rintro e w3 ⟨rfl,k',ht⟩
  obtain ⟨h4,k4⟩:=g5 _ _ _ ((FTo.ext g4 x).then ht)
  refine ⟨rfl,ht.only,?_,ht.only.mono fun b _ hb hs=>(g6 b hb).2.2 hs⟩
  have e:R.replace j=R.setD (j:Int) (R.dsk (j:Int)).replace:=by unfold Rck.replace; rw [hh]; rfl
  rw [e]; exact h4
 ·
  refine (frot_c (g4.ext x) i a z hz).mono ?_
  rintro e w3 ⟨rfl,k',ht⟩
  obtain ⟨h4,k4⟩:=g5 _ _ _ ((FTo.ext g4 x).then ht)
  exact ⟨⟨_,rfl⟩,ht.only,rot_set hd hj i a z▸h4,ht.only.mono fun b _ hb hs=>(g6 b hb).2.2 hs⟩
def TWearPost (S:Nat->Prop) (w:World) (t r q n m:Nat) (e:Ending) (w':World):Prop:=e=.returned (.tuple #[])/\∃ R',TwoIn S w' t r q R'/\R'.Dim n m/\Keeps S w w'
theorem Zcd {S T:Nat->Prop} {w W0 w':World} {t r q n m:Nat} {R1:Rck} (x:Ext w W0) (hTS:∀ b,S b->T b) (h:TwoAt T w' r q R1 R1) (d:R1.Dim n m) (k:Keeps T W0 w') (hh:W0.heap[t]?=some (.cells (twoA r q) 84 (0,0))) (hs:S t):TWearPost S w t r q n m (.returned (.tuple #[])) w':=by
 obtain ⟨h0,K,K',e1,e2,h1,h2,h3,h4⟩:=h
 exact ⟨rfl,R1,⟨⟨fun b hb=>h0 b (hTS b hb),K,K',e1,e2,h1,h2,fun b hb=>⟨fun q=>(h3 b hb).1 (hTS b q),(h3 b hb).2⟩,fun b hb q=>h4 b hb (hTS b q)⟩,k.at hh (fun hn=>hn (hTS t hs)),hs⟩,d,(Ext.only x).trans k fun c _ hc hs=>hc (hTS c hs)⟩
set_option maxRecDepth 100000 in
set_option maxHeartbeats 8000000 in
theorem twear_c {S:Nat->Prop} {w:World} {t r q:Nat} {R:Rck} (h:TwoIn S w t r q R) {n m:Nat} (hd:R.Dim n m) (n1:1<=n) (n8:n<=8) (m1:1<=m) (m128:m<=128) (k d s a:Int) (x:Nat) (hx:x < 4294967296) (ba:Option Addr) (bl bc:Nat) (bits:List Nat) (hb:BitsAt w ba bl bits) (hbs:∀ p,ba=some p->0 < bl->S p.block) :
  Calls Tryz.prog 47 #[.pointer (some ⟨t,0,none⟩),.agg (WrA k d s a x ba bl bc)] w (TWearPost S w t r q n m):=by
 have HH:=hid h; have HDM:=hid hd; have HXX:=hid hx; have HBI:=hid hb; have HBS:=hid hbs
 have HN:=hid (And.intro n1 (And.intro n8 (And.intro m1 m128)))
 obtain ⟨W0,hW0⟩:∃ W,w.alloc (.cells (WrA k d s a x ba bl bc) 79)=W:=⟨_,rfl⟩
 have X0:=hid (show Ext w W0 from hW0▸(Ext.refl w).alloc _)
 have HC:=hid (show W0.heap[w.heap.size]?=some (.cells (WrA k d s a x ba bl bc) 79 (0,0)) from hW0▸heap_alloc_new _ _)
 obtain ⟨g,hgq⟩:∃ g,w.heap.size=g:=⟨_,rfl⟩
 rw [hgq] at HC
 obtain ⟨T,hT⟩:∃ T:Nat->Prop,(fun b=>S b\/b=g)=T:=⟨_,rfl⟩
 have HTS:=hid (show ∀ b,S b->T b from fun b hb=>hT▸Or.inl hb)
 have HTG:=hid (show T g from hT▸Or.inr rfl)
 have H0:=hid (show TwoAt T W0 r q R R from hT▸h.two.more X0.out (fun b hb=>by
  rcases hb with hb | rfl
  ·
   exact ⟨Nat.lt_of_lt_of_le (h.two.there b hb) X0.out.size,.inl hb⟩
  ·
   exact ⟨lt_of_block HC.out,.inr (by rw [hgq]; exact Nat.le_refl _)⟩))
 have HT0:=hid (X0.out.at h.here)
 have HTT:=hid (HTS.out t h.safe)
 have HST:=hid h.safe
 have HB0:=hid (show BitsAt W0 ba bl bits from hb.only X0.out fun p _ _ z=>z)
 have HBT:=hid (show ∀ p,ba=some p->0 < bl->T p.block from fun p h1 h2=>HTS.out _ (hbs p h1 h2))
 have b0:W0.cell? ⟨g,0,none⟩=some (.int .i64 k):=(Zaf HC.out).trans rfl
 have b1:W0.cell? ⟨g,1,none⟩=some (.int .i64 d):=(Zaf HC.out).trans rfl
 have b2:W0.cell? ⟨g,2,none⟩=some (.int .i64 s):=(Zaf HC.out).trans rfl
 have t0:W0.cell? ⟨t,0,none⟩=some (.pointer (some ⟨r,0,none⟩)):=(Zaf HT0.out).trans rfl
 have t1:W0.cell? ⟨t,1,none⟩=some (.pointer (some ⟨q,0,none⟩)):=(Zaf HT0.out).trans rfl
 obtain ⟨gn,cn,hnn⟩:=fat_n H0.out.fact
 rw [hd.len] at hnn
 have wn:wrap64 ((n:Int) - 1)=(n:Int) - 1:=by unfold wrap64; omega
 have wn2:IntKind.i64.wrap ((n:Int) - 1)=(n:Int) - 1:=by rw [IntKind.wrap_i64]; omega
 have wm:wrap64 ((m:Int) - 1)=(m:Int) - 1:=by unfold wrap64; omega
 have wm2:IntKind.i64.wrap ((m:Int) - 1)=(m:Int) - 1:=by rw [IntKind.wrap_i64]; omega
 clear h hd hx hb hbs hT n1 n8 m1 m128
 go_enter Tryz.func47,Tryz.ntmps47
 go_wp2_with fail
 refine (Zb7 d 0 ((n:Int) - 1) W0 (by omega) (by have:=HN.out.1; omega) (by have:=HN.out.2.1; omega)).mono ?_
 rintro e _ ⟨rfl,rfl⟩
 obtain ⟨z0,z1⟩:=Zbl d 0 ((n:Int) - 1) (by have:=HN.out.1; omega)
 obtain ⟨j,hj⟩:=Int.eq_ofNat_of_zero_le z0
 rw [hj] at z1 ⊢
 have j0:(0:Int)<=(j:Int):=by omega
 have j1:(j:Int) < (n:Int):=by omega
 have HJ:=hid (show j < n by omega)
 clear z0 z1 hj hnn b1
 rcases hk1:(k == (1:Int)) with _ | _
 ·
  rcases hk2:(k == (2:Int)) with _ | _
  ·
   rcases hk3:(k == (3:Int)) with _ | _
   ·
    rcases hk4:(k == (4:Int)) with _ | _
    ·
     rcases hk5:(k == (5:Int)) with _ | _
     ·
      clear t0 t1 b2
      go_wp2
      go_end0
      exact Zcd X0.out HTS.out H0.out (HDM.out) (Ext.refl W0).only HT0.out HST.out
     ·
      clear t0 t1 b2
      have HXD:=hid (show Ext W0 W0.drew from (Ext.refl W0).drew)
      have d5:∀ y:SW (Only fun b=>¬T b) W0.drew,y.w.cell? ⟨g,5,none⟩=some (.slice ba bl bc):=fun y=>(Zaf (y.ext.at (HXD.out.at HC.out) (fun hn=>hn HTG.out))).trans rfl
      have e0:∀ y:SW (Only fun b=>¬T b) W0.drew,y.w.cell? ⟨t,0,none⟩=some (.pointer (some ⟨r,0,none⟩)):=fun y=>(Zaf (y.ext.at (HXD.out.at HT0.out) (fun hn=>hn HTT.out))).trans rfl
      go_wp2_with fail
      refine Zau (E:=Ext) (S:=Only fun b=>¬T b) (.one [0,1,2,3,4,5] 6 (.fin [])) (by kernel_rfl) (by kernel_rfl) (fun _ _ d _ _ h=>by cases d<;>exact h) ?_
      rw [wpS]
      simp only [opsAt,opA,opB,opC,opD,opE,opF,opG]
      iterate 6 ((refine Zaa (fun K hK=>?_); go_simp; refine hK _ ?_; clear hK K))
      refine Zac ?_
      intro A1 hV1
      have HEA:=hid (Ext.trans HXD.out hV1)
      clear hV1 d5 e0 HXD
      refine Zat fun Q1 hQ1=>?_
      go_wp2_with fail
      obtain ⟨TL,hsub,hR,back⟩:=(H0.out.ext HEA.out).left
      refine (at_boot hR ba bl bc bits (HB0.out.only HEA.out fun p _ _ z=>z) (fun p hp h0=>hsub _ (HBT.out p hp h0))).mono ?_
      rintro e A2 ⟨rfl,h',k'⟩
      obtain ⟨h3,k3⟩:=back _ _ h' k'
      have HHA:=hid h3
      have HKA:=hid (k3:Keeps T A1 A2)
      clear hR back h' k' h3 hsub
      go_wp2
      refine hQ1 _ _ k3 ?_
      clear hQ1 Q1 k3
      rw [wpS]
      simp only [opsAt,opA,opB,opC,opD,opE,opF,opG]
      refine Zac ?_
      intro A3 hV4
      have HA3:=hid (HHA.out.ext hV4)
      have HKA3:=hid (show Keeps T W0 A3 from ((Ext.refl W0).only).trans ((Ext.only HEA.out).trans (Only.ext HKA.out hV4) fun c _ hc=>hc) fun c _ hc=>hc)
      have HTA3:=hid (HKA3.out.at HT0.out (fun hn=>hn HTT.out))
      have HCA3:=hid (HKA3.out.at HC.out (fun hn=>hn HTG.out))
      clear hV4
      have HBA3:=hid (HB0.out.only HKA3.out fun p hp h0 hn=>hn (HBT.out p hp h0))
      have HXD:=hid (show Ext A3 A3.drew from (Ext.refl A3).drew)
      have d5:∀ y:SW (Only fun b=>¬T b) A3.drew,y.w.cell? ⟨g,5,none⟩=some (.slice ba bl bc):=fun y=>(Zaf (y.ext.at (HXD.out.at HCA3.out) (fun hn=>hn HTG.out))).trans rfl
      have e0:∀ y:SW (Only fun b=>¬T b) A3.drew,y.w.cell? ⟨t,1,none⟩=some (.pointer (some ⟨q,0,none⟩)):=fun y=>(Zaf (y.ext.at (HXD.out.at HTA3.out) (fun hn=>hn HTT.out))).trans rfl
      go_wp2_with fail
      refine Zau (E:=Ext) (S:=Only fun b=>¬T b) (.one [0,1,2,3,4,5] 6 (.fin [])) (by kernel_rfl) (by kernel_rfl) (fun _ _ d _ _ h=>by cases d<;>exact h) ?_
      rw [wpS]
      simp only [opsAt,opA,opB,opC,opD,opE,opF,opG]
      iterate 6 ((refine Zaa (fun K hK=>?_); go_simp; refine hK _ ?_; clear hK K))
      refine Zac ?_
      intro B1 hV1
      have HEB:=hid (Ext.trans HXD.out hV1)
      clear hV1 d5 e0 HXD
      refine Zat fun Q1 hQ1=>?_
      go_wp2_with fail
      obtain ⟨TL,hsub,hR,back⟩:=(HA3.out.ext HEB.out).right
      refine (fat_boot hR ba bl bc bits (HBA3.out.only HEB.out fun p _ _ z=>z) (fun p hp h0=>hsub _ (HBT.out p hp h0))).mono ?_
      rintro e B2 ⟨rfl,h',k'⟩
      obtain ⟨h3,k3⟩:=back _ _ h' k'
      have HHB:=hid h3
      have HKB:=hid (k3:Keeps T B1 B2)
      clear hR back h' k' h3 hsub
      go_wp2
      refine hQ1 _ _ k3 ?_
      clear hQ1 Q1 k3
      rw [wpS]
      simp only [opsAt,opA,opB,opC,opD,opE,opF,opG]
      refine Zac ?_
      intro B3 hV4
      have HB3:=hid (HHB.out.ext hV4)
      have HKB3:=hid (show Keeps T W0 B3 from (HKA3.out).trans ((Ext.only HEB.out).trans (Only.ext HKB.out hV4) fun c _ hc=>hc) fun c _ hc=>hc)
      have HTB3:=hid (HKB3.out.at HT0.out (fun hn=>hn HTT.out))
      have HCB3:=hid (HKB3.out.at HC.out (fun hn=>hn HTG.out))
      clear hV4
      go_wp2
      go_end0
      exact Zcd X0.out HTS.out HB3.out (HDM.out.boot bits) HKB3.out HT0.out HST.out
    ·
     clear t1
     go_wp2_with fail
     refine (Zb7 s 0 60 W0 (by omega) (by omega) (by omega)).mono ?_
     rintro e _ ⟨rfl,rfl⟩
     obtain ⟨y0,y1⟩:=Zbl s 0 60 (by omega)
     obtain ⟨ax,hax⟩:∃ z,within s 0 60=z:=⟨_,rfl⟩
     rw [hax] at y0 y1 ⊢
     have HAX:=hid (show ax<=9223372036854775807 by omega)
     clear y0 y1 hax b2
     go_wp2_with fail
     obtain ⟨TL,hsub,hR,back⟩:=H0.out.left
     have HSB:=hid hsub
     refine (at_arm hR ax HAX.out).mono ?_
     rintro e w1 ⟨rfl,h',k'⟩
     obtain ⟨h3,k3⟩:=back _ _ h' k'
     have H1:=hid h3
     have HK1:=hid k3
     have HT1:=hid (k3.at HT0.out (fun hn=>hn HTT.out))
     have HC1:=hid (k3.at HC.out (fun hn=>hn HTG.out))
     clear hR back h' k' h3 k3 hsub HSB
     have u1:w1.cell? ⟨t,1,none⟩=some (.pointer (some ⟨q,0,none⟩)):=(Zaf HT1.out).trans rfl
     clear t0
     go_wp2_with fail
     obtain ⟨TR,hsub,hR,back⟩:=H1.out.right
     refine (fat_arm hR ax HAX.out).mono ?_
     rintro e w3 ⟨rfl,h',k'⟩
     obtain ⟨h5,k5⟩:=back _ _ h' k'
     have H5:=hid h5
     have HK5:=hid (HK1.out.trans k5 fun c _ hc=>hc)
     clear hR hsub back h' k' h5 k5
     clear u1
     go_wp2
     go_end0
     exact Zcd X0.out HTS.out H5.out (HDM.out.arm ax) HK5.out HT0.out HST.out
   ·
    clear t0 t1 b2
    obtain ⟨s0,s1⟩:=Zbl s 0 ((m:Int) - 1) (by have:=HN.out.2.2.1; omega)
    obtain ⟨ss,hss⟩:=Int.eq_ofNat_of_zero_le s0
    obtain ⟨y0,y1⟩:=Zbl a 0 124 (by omega)
    obtain ⟨ax,hax⟩:=Int.eq_ofNat_of_zero_le y0
    have HSS:=hid hss; have HAX:=hid hax
    have HT1:=HT0
    clear s0 s1 y0 y1 hss hax
    obtain ⟨TR,hsub,hR,back⟩:=H0.out.right
    have HBK0:=hid back
    obtain ⟨fg,fc,fp,sb,sc,F,fk⟩:=hR.dk HDM.out HJ.out
    have HFK0:=hid fk
    have f0:=fk.row
    have f1:=fk.ptr
    have f2:=fk.sec
    have u1:W0.cell? ⟨t,1,none⟩=some (.pointer (some ⟨q,0,none⟩)):=(Zaf HT1.out).trans rfl
    have HFT:=hid (show ¬F t from fun z=>(fk.far t z).2.2 (hsub t HTT.out))
    have HFG:=hid (show ¬F g from fun z=>(fk.far g z).2.2 (hsub g HTG.out))
    clear fk hR hsub back
    have HXD:=hid (show Ext W0 W0.drew from (Ext.refl W0).drew)
    have d2:∀ x:SW Ext W0.drew,x.w.cell? ⟨g,2,none⟩=some (.int .i64 s):=fun x=>Ext.cell (Ext.trans HXD.out x.ext) ((Zaf HC.out).trans rfl)
    have d3:∀ x:SW Ext W0.drew,x.w.cell? ⟨g,3,none⟩=some (.int .i64 a):=fun x=>Ext.cell (Ext.trans HXD.out x.ext) ((Zaf HC.out).trans rfl)
    have e1:∀ x:SW Ext W0.drew,x.w.cell? ⟨t,1,none⟩=some (.pointer (some ⟨q,0,none⟩)):=fun x=>Ext.cell (Ext.trans HXD.out x.ext) u1
    have e2:∀ x:SW Ext W0.drew,x.w.cell? ⟨q,0,none⟩=some (.slice (some ⟨fg,0,none⟩) n fc):=fun x=>Ext.cell (Ext.trans HXD.out x.ext) f0
    have e3:∀ x:SW Ext W0.drew,x.w.cell? ⟨fg,j,none⟩=some (.pointer (some ⟨fp,0,none⟩)):=fun x=>Ext.cell (Ext.trans HXD.out x.ext) f1
    have e4:∀ x:SW Ext W0.drew,x.w.cell? ⟨fp,0,none⟩=some (.slice (some ⟨sb,0,none⟩) m sc):=fun x=>Ext.cell (Ext.trans HXD.out x.ext) f2
    have wi:Hid (∀ y:SW Ext W0.drew,Calls Tryz.prog 12 #[.int .i64 s,.int .i64 0,.int .i64 ((m:Int) - 1)] y.w fun e w''=>e=.returned (.int .i64 (ss:Int))/\Ext y.w w''):=hid fun y=>(Zb7 s 0 ((m:Int) - 1) y.w (by omega) (by have:=HN.out.2.2.1; omega) (by have:=HN.out.2.2.2; omega)).mono fun e w'' q=>⟨by rw [q.1,HSS.out],q.2▸Ext.refl _⟩
    have wa:Hid (∀ y:SW Ext W0.drew,Calls Tryz.prog 12 #[.int .i64 a,.int .i64 0,.int .i64 124] y.w fun e w''=>e=.returned (.int .i64 (ax:Int))/\Ext y.w w''):=hid fun y=>(Zb7 a 0 124 y.w (by omega) (by omega) (by omega)).mono fun e w'' q=>⟨by rw [q.1,HAX.out],q.2▸Ext.refl _⟩
    clear f0 f1 f2 u1
    go_wp2_with fail
    refine Zal (S:=Ext) (.fin [0,1,2,3,4,5,6,7,8,9,10,11,12,13,14,15,16,17,18,19,20,21,22]) (by kernel_rfl) (by kernel_rfl) (fun _ _ d _ _ h=>by cases d<;>exact h) ?_
    rw [wpS]
    simp only [opsAt,opA,opB,opC,opD,opE,opF,opG]
    iterate 17 ((refine Zaa (fun K hK=>?_); go_simp; refine hK _ ?_; clear hK K))
    (refine Zaa (fun K hK=>?_); go_simp; (apply Exists.intro; refine ⟨fun x=>?_,hK _ ?_⟩; (exact wi.out x); clear hK K))
    iterate 2 ((refine Zaa (fun K hK=>?_); go_simp; refine hK _ ?_; clear hK K))
    (refine Zaa (fun K hK=>?_); go_simp; (apply Exists.intro; refine ⟨fun x=>?_,hK _ ?_⟩; (exact wa.out x); clear hK K))
    iterate 2 ((refine Zaa (fun K hK=>?_); go_simp; refine hK _ ?_; clear hK K))
    refine Zac ?_
    intro V1 hV1
    have hv1:=Ext.trans HXD.out hV1
    have HE1:=hid hv1
    have H9:=hid (H0.out.ext hv1)
    have HC9:=hid (hv1.at HC.out)
    have HT9:=hid (hv1.at HT0.out)
    clear hV1 hv1 d2 d3 e1 e2 e3 e4 wi wa HXD HFT HFG HBK0 HFK0 HT1
    obtain ⟨TL,hsub,hR,back⟩:=H9.out.left
    have HR:=hid hR; have HBA:=hid back
    clear hsub hR back
    have HXD:=hid (show Ext V1 V1.drew from (Ext.refl V1).drew)
    have d4:∀ y:SW (Only fun b=>¬T b) V1.drew,y.w.cell? ⟨g,4,none⟩=some (.int .u32 x):=fun y=>(Zaf (y.ext.at (HXD.out.at HC9.out) (fun hn=>hn HTG.out))).trans rfl
    have e0:∀ x:SW (Only fun b=>¬T b) V1.drew,x.w.cell? ⟨t,0,none⟩=some (.pointer (some ⟨r,0,none⟩)):=fun x=>(Zaf (x.ext.at (HXD.out.at HT9.out) (fun hn=>hn HTT.out))).trans rfl
    go_wp2_with fail
    refine Zau (E:=Ext) (S:=Only fun b=>¬T b) (.one [0,1,2,3,4,5,6,7,8] 9 (.fin [])) (by kernel_rfl) (by kernel_rfl) (fun _ _ d _ _ h=>by cases d<;>exact h) ?_
    rw [wpS]
    simp only [opsAt,opA,opB,opC,opD,opE,opF,opG]
    iterate 9 ((refine Zaa (fun K hK=>?_); go_simp; refine hK _ ?_; clear hK K))
    refine Zac ?_
    intro V2 hV2
    have HE2:=hid (Ext.trans HXD.out hV2)
    clear hV2 d4 e0 HXD
    refine Zat fun Q1 hQ1=>?_
    go_wp2_with fail
    obtain ⟨TL,hsub,hR,back⟩:=(H9.out.ext HE2.out).left
    refine (at_rot hR j ss ax x HXX.out).mono ?_
    rintro e V3 ⟨rfl,h',k'⟩
    obtain ⟨h3,k3⟩:=back _ _ h' k'
    have HH3:=hid h3
    have HK3:=hid (k3:Keeps T V2 V3)
    clear hR back h' k' h3 hsub
    go_wp2
    refine hQ1 _ _ k3 ?_
    clear hQ1 Q1 k3
    rw [wpS]
    simp only [opsAt,opA,opB,opC,opD,opE,opF,opG]
    refine Zac ?_
    intro V4 hV4
    have H1:=hid (HH3.out.ext hV4)
    have HK4:=hid (show Keeps T W0 V4 from (Ext.only (Ext.trans HE1.out HE2.out)).trans (Only.ext HK3.out hV4) fun c _ hc=>hc)
    have HT1:=hid (HK4.out.at HT0.out (fun hn=>hn HTT.out))
    have HC1:=hid (HK4.out.at HC.out (fun hn=>hn HTG.out))
    clear hV4
    obtain ⟨TR,hsub,hR,back⟩:=H1.out.right
    have HBK:=hid back
    obtain ⟨fg,fc,fp,sb,sc,F,fk⟩:=hR.dk HDM.out HJ.out
    have HFK:=hid fk
    have f0:=fk.row
    have f1:=fk.ptr
    have f2:=fk.sec
    have u1:V4.cell? ⟨t,1,none⟩=some (.pointer (some ⟨q,0,none⟩)):=(Zaf HT1.out).trans rfl
    have HFT:=hid (show ¬F t from fun z=>(fk.far t z).2.2 (hsub t HTT.out))
    have HFG:=hid (show ¬F g from fun z=>(fk.far g z).2.2 (hsub g HTG.out))
    clear fk hR hsub back
    have HXD:=hid (show Ext V4 V4.drew from (Ext.refl V4).drew)
    have HFQ:=hid (show ¬F q from fun z=>(HFK.out.far q z).1 rfl)
    have HFF:=hid (show ¬F fg from fun z=>(HFK.out.far fg z).2.1 rfl)
    have d4:∀ y:SW (Only F) V4.drew,y.w.cell? ⟨g,4,none⟩=some (.int .u32 x):=fun y=>(Zaf (y.ext.at (HXD.out.at HC1.out) HFG.out)).trans rfl
    have e1:∀ y:SW (Only F) V4.drew,y.w.cell? ⟨t,1,none⟩=some (.pointer (some ⟨q,0,none⟩)):=fun y=>(Zaf (y.ext.at (HXD.out.at HT1.out) HFT.out)).trans rfl
    have e2:∀ y:SW (Only F) V4.drew,y.w.cell? ⟨q,0,none⟩=some (.slice (some ⟨fg,0,none⟩) n fc):=fun y=>y.ext.cell (Ext.cell HXD.out f0) HFQ.out
    have e3:∀ y:SW (Only F) V4.drew,y.w.cell? ⟨fg,j,none⟩=some (.pointer (some ⟨fp,0,none⟩)):=fun y=>y.ext.cell (Ext.cell HXD.out f1) HFF.out
    clear f0 f1 f2 u1
    go_wp2_with fail
    refine Zau (E:=Ext) (S:=Only F) (.one [0,1,2,3,4,5,6,7,8,9,10,11,12,13] 14 (.fin [])) (by kernel_rfl) (by kernel_rfl) (fun _ _ d _ _ h=>by cases d<;>exact h) ?_
    rw [wpS]
    simp only [opsAt,opA,opB,opC,opD,opE,opF,opG]
    iterate 14 ((refine Zaa (fun K hK=>?_); go_simp; refine hK _ ?_; clear hK K))
    refine Zac ?_
    intro V5 hV5
    have HE5:=hid (Ext.trans HXD.out hV5)
    clear hV5 d4 e1 e2 e3 HXD
    refine Zat fun Q1 hQ1=>?_
    go_wp2_with fail
    refine (HFK.out.rot ss ax x HXX.out V5 HE5.out).mono ?_
    rintro e V6 ⟨⟨bq,rfl⟩,o6,h6,k6⟩
    obtain ⟨h7,k7⟩:=HBK.out _ _ h6 ((Ext.only HE5.out).trans k6 fun c _ hc=>hc)
    have H7:=hid h7
    have HK7:=hid (HK4.out.trans k7 fun c _ hc=>hc)
    clear h6 k6 h7 k7
    go_wp2
    refine hQ1 _ _ o6 ?_
    clear hQ1 Q1 o6
    rw [wpS]
    simp only [opsAt,opA,opB,opC,opD,opE,opF,opG]
    refine Zac ?_
    intro V8 hV8
    have H8:=hid (H7.out.ext hV8)
    have HK8:=hid (show Keeps T W0 V8 from Only.ext HK7.out hV8)
    clear hV8
    go_wp2
    go_end0
    exact Zcd X0.out HTS.out H8.out (HDM.out.rot j ss ax x) HK8.out HT0.out HST.out
  ·
   clear b2 t1
   go_wp2_with fail
   obtain ⟨TL,hsub,hR,back⟩:=H0.out.left
   have HSB:=hid hsub
   refine (at_replace hR j).mono ?_
   rintro e w1 ⟨rfl,h',k'⟩
   obtain ⟨h3,k3⟩:=back _ _ h' k'
   have H1:=hid h3
   have HK1:=hid k3
   have HT1:=hid (k3.at HT0.out (fun hn=>hn HTT.out))
   have HC1:=hid (k3.at HC.out (fun hn=>hn HTG.out))
   clear hR back h' k' h3 k3 hsub HSB
   rcases hhs:R.has (j:Int) with _ | _
   ·
    exfalso
    unfold Rck.has at hhs
    rw [HDM.out.len] at hhs
    simp at hhs
    omega
   clear hhs t0 b0
   obtain ⟨TR,hsub,hR,back⟩:=H1.out.right
   have HBK:=hid back
   obtain ⟨fg,fc,fp,sb,sc,F,fk⟩:=hR.dk HDM.out HJ.out
   have HFK:=hid fk
   have f0:=fk.row
   have f1:=fk.ptr
   have f2:=fk.sec
   have u1:w1.cell? ⟨t,1,none⟩=some (.pointer (some ⟨q,0,none⟩)):=(Zaf HT1.out).trans rfl
   have HFT:=hid (show ¬F t from fun z=>(fk.far t z).2.2 (hsub t HTT.out))
   have HFG:=hid (show ¬F g from fun z=>(fk.far g z).2.2 (hsub g HTG.out))
   clear fk hR hsub back
   go_wp2_with fail
   refine (HFK.out.replace w1 (Ext.refl w1)).mono ?_
   rintro e w2 ⟨rfl,_,h4,k4⟩
   obtain ⟨h5,k5⟩:=HBK.out _ _ h4 k4
   have H5:=hid h5
   have HK5:=hid (HK1.out.trans k5 fun c _ hc=>hc)
   clear h4 k4 h5 k5 f0 f1 f2 u1
   go_wp2
   go_end0
   exact Zcd X0.out HTS.out H5.out (HDM.out.replace j) HK5.out HT0.out HST.out
 ·
  clear b2 t1
  go_wp2_with fail
  obtain ⟨TL,hsub,hR,back⟩:=H0.out.left
  have HSB:=hid hsub
  refine (at_die hR j).mono ?_
  rintro e w1 ⟨rfl,h',k'⟩
  obtain ⟨h3,k3⟩:=back _ _ h' k'
  have H1:=hid h3
  have HK1:=hid k3
  have HT1:=hid (k3.at HT0.out (fun hn=>hn HTT.out))
  have HC1:=hid (k3.at HC.out (fun hn=>hn HTG.out))
  clear hR back h' k' h3 k3 hsub HSB
  rcases hhs:R.has (j:Int) with _ | _
  ·
   exfalso
   unfold Rck.has at hhs
   rw [HDM.out.len] at hhs
   simp at hhs
   omega
  clear hhs t0 b0
  obtain ⟨TR,hsub,hR,back⟩:=H1.out.right
  have HBK:=hid back
  obtain ⟨fg,fc,fp,sb,sc,F,fk⟩:=hR.dk HDM.out HJ.out
  have HFK:=hid fk
  have f0:=fk.row
  have f1:=fk.ptr
  have f2:=fk.sec
  have u1:w1.cell? ⟨t,1,none⟩=some (.pointer (some ⟨q,0,none⟩)):=(Zaf HT1.out).trans rfl
  have HFT:=hid (show ¬F t from fun z=>(fk.far t z).2.2 (hsub t HTT.out))
  have HFG:=hid (show ¬F g from fun z=>(fk.far g z).2.2 (hsub g HTG.out))
  clear fk hR hsub back
  go_wp2_with fail
  refine (HFK.out.die w1 (Ext.refl w1)).mono ?_
  rintro e w2 ⟨rfl,_,h4,k4⟩
  obtain ⟨h5,k5⟩:=HBK.out _ _ h4 k4
  have H5:=hid h5
  have HK5:=hid (HK1.out.trans k5 fun c _ hc=>hc)
  clear h4 k4 h5 k5 f0 f1 f2 u1
  go_wp2
  go_end0
  exact Zcd X0.out HTS.out H5.out (HDM.out.die j) HK5.out HT0.out HST.out
end Go.Proofs.YtgjnnbomnoafcaaGreatDoor
namespace Go.Proofs.YtgjnnbomnoafcaaGreatDoor
set_option linter.unusedVariables false
open Go Go.RowKit
attribute [local irreducible] wpSQ
set_option maxRecDepth 100000 in
set_option maxHeartbeats 8000000 in
theorem tsame_c {S:Nat->Prop} {w:World} {t r q:Nat} {R:Rck} (h:TwoIn S w t r q R) {n m:Nat} (hd:R.Dim n m) (n8:n<=8) (m128:m<=128) (hg:EtLaid w) :
  Calls Tryz.prog 52 #[.pointer (some ⟨t,0,none⟩)] w fun e w'=>e=.returned (.bool true)/\Ext w w':=by
 have H:=hid h; have HD:=hid hd; have HG:=hid hg
 have HN:=hid (And.intro n8 m128)
 have HXD:=hid (show Ext w w.drew from (Ext.refl w).drew)
 obtain ⟨po,hpo⟩:∃ o,R.off=o:=⟨_,rfl⟩
 have HPO:=hid hpo
 have d0:∀ x:SW Ext w.drew,x.w.cell? ⟨t,0,none⟩=some (.pointer (some ⟨r,0,none⟩)):=fun x=>Ext.cell (Ext.trans HXD.out x.ext) H.out.cell0
 have d1:∀ x:SW Ext w.drew,x.w.cell? ⟨t,1,none⟩=some (.pointer (some ⟨q,0,none⟩)):=fun x=>Ext.cell (Ext.trans HXD.out x.ext) H.out.cell1
 have d2:∀ x:SW Ext w.drew,x.w.cell? ⟨q,2,none⟩=some (.bool po):=fun x=>by
  rw [<- HPO.out]; exact Ext.cell (Ext.trans HXD.out x.ext) (fat_off H.out.two.fact)
 have cO:Hid (∀ y:SW Ext w.drew,Calls Tryz.prog 37 #[.pointer (some ⟨r,0,none⟩)] y.w fun e w''=>e=.returned (.bool po)/\Ext y.w w''):=hid fun y=>(at_off (H.out.ext (Ext.trans HXD.out y.ext)).two.ract).mono fun e w'' z=>⟨by rw [z.1,HPO.out],z.2▸Ext.refl _⟩
 clear h hd hg hpo
 go_enter Tryz.func52,Tryz.ntmps52
 go_wp2_with fail
 refine Zal (S:=Ext) (.fin [0,1,2,3,4,5,6,7,8,9,10,11,12]) (by kernel_rfl) (by kernel_rfl) (fun _ _ d _ _ h=>by cases d<;>exact h) ?_
 rw [wpS]
 simp only [opsAt,opA,opB,opC,opD,opE,opF,opG]
 iterate 4 ((refine Zaa (fun K hK=>?_); go_simp; refine hK _ ?_; clear hK K))
 (refine Zaa (fun K hK=>?_); go_simp; (apply Exists.intro; refine ⟨fun x=>?_,hK _ ?_⟩; (exact cO.out x); clear hK K))
 iterate 8 ((refine Zaa (fun K hK=>?_); go_simp; refine hK _ ?_; clear hK K))
 refine Zac ?_
 intro V1 hV1
 have HX1:=hid (Ext.trans HXD.out hV1)
 have H1:=hid (H.out.ext HX1.out)
 clear hV1 d0 d1 d2 cO HXD
 have t1:V1.cell? ⟨t,1,none⟩=some (.pointer (some ⟨q,0,none⟩)):=H1.out.cell1
 obtain ⟨gl,cl,hnl⟩:=fat_n H1.out.two.fact
 rw [HD.out.len] at hnl
 go_wp2_with fail
 clear t1 hnl
 go_loopw [30] (fun t wr=>∃ i:Nat,t=.int .i64 i/\i<=n/\Ext V1 wr) (fun t _=>n - (intOf t).toNat)
 case atStart=>exact ⟨0,rfl,by omega,Ext.refl _⟩
 case round =>
  obtain ⟨i,rfl,hi,hx⟩:=hrel
  have HXI:=hid hx
  clear hx
  by_cases hlt:i < n
  ·
   have i0:(0:Int)<=(i:Int):=by omega
   have i1:(i:Int) < (n:Int):=by omega
   have HI:=hid hlt
   have H2:=hid (H1.out.ext HXI.out)
   have HXD:=hid (show Ext wr wr.drew from (Ext.refl wr).drew)
   obtain ⟨u,hu⟩:∃ u,R.up (i:Int)=u:=⟨_,rfl⟩
   have HU:=hid hu
   have d0:∀ x:SW Ext wr.drew,x.w.cell? ⟨t,0,none⟩=some (.pointer (some ⟨r,0,none⟩)):=fun x=>Ext.cell (Ext.trans HXD.out x.ext) H2.out.cell0
   have d1:∀ x:SW Ext wr.drew,x.w.cell? ⟨t,1,none⟩=some (.pointer (some ⟨q,0,none⟩)):=fun x=>Ext.cell (Ext.trans HXD.out x.ext) H2.out.cell1
   have cA:Hid (∀ y:SW Ext wr.drew,Calls Tryz.prog 31 #[.pointer (some ⟨r,0,none⟩),.int .i64 i] y.w fun e w''=>e=.returned (.bool u)/\Ext y.w w''):=hid fun y=>(at_up (H2.out.ext (Ext.trans HXD.out y.ext)).two.ract i).mono fun e w'' z=>⟨by rw [z.1,HU.out],z.2▸Ext.refl _⟩
   have cB:Hid (∀ y:SW Ext wr.drew,Calls Tryz.prog 30 #[.pointer (some ⟨q,0,none⟩),.int .i64 i] y.w fun e w''=>e=.returned (.bool u)/\Ext y.w w''):=hid fun y=>(fat_up (H2.out.ext (Ext.trans HXD.out y.ext)).two.fact i).mono fun e w'' z=>⟨by rw [z.1,HU.out],z.2▸Ext.refl _⟩
   clear hu
   go_wp2_with fail
   refine Zal (S:=Ext) (.fin [0,1,2,3,4,5,6,7,8,9,10,11,12]) (by kernel_rfl) (by kernel_rfl) (fun _ _ d _ _ h=>by cases d<;>exact h) ?_
   rw [wpS]
   simp only [opsAt,opA,opB,opC,opD,opE,opF,opG]
   iterate 5 ((refine Zaa (fun K hK=>?_); go_simp; refine hK _ ?_; clear hK K))
   (refine Zaa (fun K hK=>?_); go_simp; (apply Exists.intro; refine ⟨fun x=>?_,hK _ ?_⟩; (exact cA.out x); clear hK K))
   iterate 5 ((refine Zaa (fun K hK=>?_); go_simp; refine hK _ ?_; clear hK K))
   (refine Zaa (fun K hK=>?_); go_simp; (apply Exists.intro; refine ⟨fun x=>?_,hK _ ?_⟩; (exact cB.out x); clear hK K))
   (refine Zaa (fun K hK=>?_); go_simp; refine hK _ ?_; clear hK K)
   refine Zac ?_
   intro V2 hV2
   have HX3:=hid (Ext.trans HXD.out hV2)
   have H3:=hid (H2.out.ext HX3.out)
   clear hV2 d0 d1 cA cB HXD
   obtain ⟨fg,fc,fp,sb,sc,FF,fk⟩:=H3.out.two.fact.dk HD.out HI.out
   have f0:=fk.row
   have f1:=fk.ptr
   have f2:=fk.sec
   have t1:V2.cell? ⟨t,1,none⟩=some (.pointer (some ⟨q,0,none⟩)):=H3.out.cell1
   clear fk
   go_wp2_with fail
   clear f0 f1 f2 t1
   go_loopw [60] (fun t wq=>∃ s:Nat,t=.int .i64 s/\s<=m/\Ext V2 wq) (fun t _=>m - (intOf t).toNat)
   case atStart=>exact ⟨0,rfl,by omega,Ext.refl _⟩
   case round =>
    obtain ⟨s,rfl,hs,hx⟩:=hrel
    have HXS:=hid hx
    clear hx
    by_cases hsl:s < m
    ·
     have s0:(0:Int)<=(s:Int):=by omega
     have s1:(s:Int) < (m:Int):=by omega
     have H4:=hid (H3.out.ext HXS.out)
     have HG4:=hid (HG.out.only (Ext.trans HX1.out (Ext.trans HXI.out (Ext.trans HX3.out HXS.out))) (fun z=>z))
     have u0:=H4.out.cell0
     go_wp2_with fail
     refine (at_read H4.out.two.ract i s).mono ?_
     rintro e w5 (⟨er,h1,rfl,x5⟩ | ⟨h1,p5,rfl,hp5,hs5,x5⟩)
     ·
      have H5:=hid (H4.out.ext x5)
      have H1':=hid h1
      have X5:=hid x5
      clear h1 x5 u0
      have u1:w5.cell? ⟨t,1,none⟩=some (.pointer (some ⟨q,0,none⟩)):=H5.out.cell1
      go_wp2_with fail
      refine (fat_read H5.out.two.fact i s).mono ?_
      rintro e w6 (⟨h2,rfl,x6⟩ | ⟨h2,p6,rfl,hp6,hs6,x6⟩)
      ·
       rw [H1'.out]
       have X6:=hid (Ext.trans X5.out x6)
       obtain ⟨ek,hek⟩:∃ z,okind (some er)=z:=⟨_,rfl⟩
       rw [hek]
       have HEK:=hid (show er.kind=ek from hek)
       clear h2 x6 hek u1
       go_wp2_with fail
       refine (same_none none 0 none 0 w6).mono ?_
       rintro e w7 ⟨rfl,x7⟩
       have X7:=hid (Ext.trans X6.out x7)
       clear x7
       go_wp2_with fail
       refine (kind_err er w7 (HG4.out.only X7.out (fun z=>z))).mono ?_
       rintro e w8 ⟨rfl,x8⟩
       rw [HEK.out]
       have X8:=hid (Ext.trans HXS.out (Ext.trans X7.out x8))
       clear x8
       go_wp2
       go_roundw
       case rel=>exact ⟨s+1,by go_num,by omega,X8.out⟩
       case measure=>simp [intOf]; omega
      ·
       exact absurd (h2.symm.trans H1'.out) (by simp)
     ·
      have H5:=hid (H4.out.ext x5)
      have H1':=hid h1
      have X5:=hid x5
      have HS5:=hid hs5
      clear h1 x5 u0 hs5 hp5
      have u1:w5.cell? ⟨t,1,none⟩=some (.pointer (some ⟨q,0,none⟩)):=H5.out.cell1
      go_wp2_with fail
      refine (fat_read H5.out.two.fact i s).mono ?_
      rintro e w6 (⟨h2,rfl,x6⟩ | ⟨h2,p6,rfl,hp6,hs6,x6⟩)
      ·
       exact absurd H1'.out h2
      ·
       have X6:=hid (Ext.trans X5.out x6)
       have HS6:=hid hs6
       have HS56:=hid (HS5.out.bytes.ext x6)
       clear h2 x6 hs6 hp6 u1
       go_wp2_with fail
       refine (same_c _ _ HS56.out HS6.out.bytes).mono ?_
       rintro e w7 ⟨rfl,x7⟩
       rw [decide_eq_true rfl]
       have X7:=hid (Ext.trans X6.out x7)
       clear x7
       go_wp2_with fail
       refine (kind_nil w7).mono ?_
       rintro e w8 ⟨rfl,x8⟩
       have X8:=hid (Ext.trans HXS.out (Ext.trans X7.out x8))
       clear x8
       go_wp2
       go_roundw
       case rel=>exact ⟨s+1,by go_num,by omega,X8.out⟩
       case measure=>simp [intOf]; omega
    ·
     obtain rfl:m=s:=by omega
     go_wp2
     go_roundw
     case rel=>exact ⟨i+1,by go_num,by omega,Ext.trans HXI.out (Ext.trans HX3.out HXS.out)⟩
     case measure=>simp [intOf]; omega
  ·
   obtain rfl:n=i:=by omega
   go_wp2
   go_ret
   exact ⟨rfl,Ext.trans HX1.out HXI.out⟩
end Go.Proofs.YtgjnnbomnoafcaaGreatDoor
namespace Go.Proofs.YtgjnnbomnoafcaaGreatDoor
set_option linter.unusedVariables false
set_option linter.unusedSectionVars false
open Go
section
variable {P:Program} {ops:Array Oper} {Q:Exit->Act->World->Prop} {md:Region.Mode} {E S:World->World->Prop} [hE:Pre E] [hS:Pre S] [hES:Within2 E S]
inductive TTree where
 | fin (ps:List Nat)
 | one (ps:List Nat) (i:Nat) (k:TTree)
 | two (ps:List Nat) (i j:Nat) (k l:TTree)
 | three (ps:List Nat) (i j h:Nat) (k l m:TTree)
def wpT (E S:World->World->Prop) (P:Program) (ops:Array Oper) (Q:Exit->Act->World->Prop) (T:Act->World->Prop):TTree->Act->World->Prop
 | .fin ps,a,w=>wpSQ E S P ops w (fun a'=>∀ w',E w w'->T a' w') (opsAt ops ps) a
 | .one ps i k,a,w=>wpSQ E S P ops w (fun a'=>∀ w',E w w'->wpList P ops (Exit.then (fun a'' w''=>S w' w''/\wpT E S P ops Q T k a'' w'') Q) [ops.getD i default] a' w') (opsAt ops ps) a
 | .two ps i j k l,a,w=>wpSQ E S P ops w (fun a'=>∀ w',E w w'->wpList P ops (Exit.then (fun a'' w''=>S w' w''/\wpT E S P ops Q T k a'' w'') Q) [ops.getD i default] a' w'/\wpList P ops (Exit.then (fun a'' w''=>S w' w''/\wpT E S P ops Q T l a'' w'') Q) [ops.getD j default] a' w') (opsAt ops ps) a
 | .three ps i j h k l m,a,w=>wpSQ E S P ops w (fun a'=>∀ w',E w w'->wpList P ops (Exit.then (fun a'' w''=>S w' w''/\wpT E S P ops Q T k a'' w'') Q) [ops.getD i default] a' w'/\wpList P ops (Exit.then (fun a'' w''=>S w' w''/\wpT E S P ops Q T l a'' w'') Q) [ops.getD j default] a' w'/\wpList P ops (Exit.then (fun a'' w''=>S w' w''/\wpT E S P ops Q T m a'' w'') Q) [ops.getD h default] a' w') (opsAt ops ps) a
theorem Za8 {a:Act} {w':World} {o:Oper} {k:TTree} {T:Act->World->Prop}
  (h:∀ K:Act->World->Prop,(∀ a w,S w' w->wpT E S P ops Q T k a w->K a w)->wpList P ops (Exit.then K Q) [o] a w'):wpList P ops (Exit.then (fun a'' w''=>S w' w''/\wpT E S P ops Q T k a'' w'') Q) [o] a w' :=
 h _ (fun _ _ h1 h2=>⟨h1,h2⟩)
def tB (md:Region.Mode) (ops:Array Oper) (n:Nat) (g:Array Bool->Bool):TTree->Array Bool->Bool
 | .fin ps,listed=>mixPureB md ops g ps listed && ps.all (decide <| · < n)
 | .one ps i k,listed=>mixPureB md ops (fun l=>decide (Region.ready md ops l=[i]) && tB md ops n g k (l.setIfInBounds i true)) ps listed && ps.all (decide <| · < n) && decide (i < n)
 | .two ps i j k m,listed=>mixPureB md ops (fun l=>decide (Region.ready md ops l=[i,j]) && tB md ops n g k (l.setIfInBounds i true) && tB md ops n g m (l.setIfInBounds j true)) ps listed && ps.all (decide <| · < n) && decide (i < n) && decide (j < n)
 | .three ps i j h k m t,listed=>mixPureB md ops (fun l=>decide (Region.ready md ops l=[i,j,h]) && tB md ops n g k (l.setIfInBounds i true) && tB md ops n g m (l.setIfInBounds j true) && tB md ops n g t (l.setIfInBounds h true)) ps listed && ps.all (decide <| · < n) && decide (i < n) && decide (j < n) && decide (h < n)
def tLen:TTree->Option Nat
 | .fin ps=>some ps.length
 | .one ps _ k=>(tLen k).map fun n=>ps.length+(n+1)
 | .two ps _ _ k l=>match tLen k,tLen l with
  | some n,some m=>if n=m then some (ps.length+(n+1)) else none
  | _,_=>none
 | .three ps _ _ _ k l t=>match tLen k,tLen l,tLen t with
  | some n,some m,some q=>if n=m/\n=q then some (ps.length+(n+1)) else none
  | _,_,_=>none
theorem t_any {n:Nat} {g:Array Bool->Bool} {T:Act->World->Prop} (hs:Region.noSelect ops=true) (hQ:∀ c (a:Act) d v w,Q (.panic c) (a.put d v) w->Q (.panic c) a w)
  (hwait:∀ i,i < n->∀ listed,HeadInv md ops n listed->listed.getD i true=false->∀ j∈Region.ready md ops listed,j < n)
  (hdone:∀ listed,g listed=true->∀ j∈Region.ready md ops listed,n<=j):∀ (t:TTree) (N:Nat) (listed:Array Bool) (a:Act) (w:World),HeadInv md ops n listed ->
  tLen t=some N->tB md ops n g t listed=true->wpT E S P ops Q T t a w->sAny E S P md ops Q n (fun l a w=>g l=true/\∀ w',E w w'->T a w') N listed a w
 | .fin ps,N,listed,a,w,inv,hN,hB,h=>by
  obtain rfl:ps.length=N:=by simpa [tLen] using hN
  simp only [tB,Bool.and_eq_true] at hB
  exact s_pure (f:=0) (k:=g) (K:=fun a'=>∀ w',E w w'->T a' w') hs hQ hwait (fun _ _ _ _ e h=>⟨h.1,fun w' e'=>h.2 w' (hE.trans e e')⟩) (fun l a w h=>hdone l h.1) (fun l a _ hg hk=>by unfold sAny; exact ⟨hg,hk⟩) ps listed a inv hB.1 hB.2 h
 | .one ps i k,N,listed,a,w,inv,hN,hB,h=>by
  simp only [tLen,Option.map_eq_some_iff] at hN
  obtain ⟨m,hm,rfl⟩:=hN
  simp only [tB,Bool.and_eq_true,decide_eq_true_eq] at hB
  refine s_pure (f:=m+1) hs hQ hwait (fun _ _ _ _ e h=>⟨h.1,fun w' e'=>h.2 w' (hE.trans e e')⟩) (fun l a w h=>hdone l h.1) ?_ ps listed a inv hB.1.1 hB.1.2 h
  intro l a inv hl hk
  simp only [Bool.and_eq_true,decide_eq_true_eq] at hl
  obtain ⟨hr,hB'⟩:=hl
  refine ⟨by rw [hr]; simp,fun j hj=>?_⟩
  rw [hr] at hj
  obtain rfl:j=i:=by simpa using hj
  have hj':j∈Region.ready md ops l:=by rw [hr]; simp
  exact ⟨hB.2,fun w' hw'=>loudS hj' (fun a' w'' h'=>⟨h'.1,t_any hs hQ hwait hdone k m _ a' w'' (inv.set hj' hB.2) hm hB' h'.2⟩) (hk w' hw')⟩
 | .two ps i j k m,N,listed,a,w,inv,hN,hB,h=>by
  simp only [tLen] at hN
  split at hN
  ·
   rename_i n1 n2 hn hn'
   split at hN
   ·
    rename_i e
    subst e
    cases hN
    simp only [tB,Bool.and_eq_true,decide_eq_true_eq] at hB
    refine s_pure (f:=n1+1) hs hQ hwait (fun _ _ _ _ e h=>⟨h.1,fun w' e'=>h.2 w' (hE.trans e e')⟩) (fun l a w h=>hdone l h.1) ?_ ps listed a inv hB.1.1.1 hB.1.1.2 h
    intro l a inv hl hk
    simp only [Bool.and_eq_true,decide_eq_true_eq] at hl
    obtain ⟨⟨hr,hB1⟩,hB2⟩:=hl
    refine ⟨by rw [hr]; simp,fun q hq=>?_⟩
    have hq':=hq
    rw [hr] at hq
    have hq:q=i\/q=j:=by simpa using hq
    rcases hq with rfl | rfl
    ·
     exact ⟨hB.1.2,fun w' hw'=>loudS hq' (fun a' w'' h'=>⟨h'.1,t_any hs hQ hwait hdone k _ _ a' w'' (inv.set hq' hB.1.2) hn hB1 h'.2⟩) (hk w' hw').1⟩
    ·
     exact ⟨hB.2,fun w' hw'=>loudS hq' (fun a' w'' h'=>⟨h'.1,t_any hs hQ hwait hdone m _ _ a' w'' (inv.set hq' hB.2) hn' hB2 h'.2⟩) (hk w' hw').2⟩
   ·
    cases hN
  ·
   cases hN
 | .three ps i j h k m t,N,listed,a,w,inv,hN,hB,hh=>by
  simp only [tLen] at hN
  split at hN
  ·
   rename_i n1 n2 n3 hn hn' hn''
   split at hN
   ·
    rename_i e
    obtain ⟨e,e'⟩:=e
    subst e; subst e'
    cases hN
    simp only [tB,Bool.and_eq_true,decide_eq_true_eq] at hB
    refine s_pure (f:=n1+1) hs hQ hwait (fun _ _ _ _ e h=>⟨h.1,fun w' e'=>h.2 w' (hE.trans e e')⟩) (fun l a w h=>hdone l h.1) ?_ ps listed a inv hB.1.1.1.1 hB.1.1.1.2 hh
    intro l a inv hl hk
    simp only [Bool.and_eq_true,decide_eq_true_eq] at hl
    obtain ⟨⟨⟨hr,hB1⟩,hB2⟩,hB3⟩:=hl
    refine ⟨by rw [hr]; simp,fun q hq=>?_⟩
    have hq':=hq
    rw [hr] at hq
    have hq:q=i\/q=j\/q=h:=by simpa using hq
    rcases hq with rfl | rfl | rfl
    ·
     exact ⟨hB.1.1.2,fun w' hw'=>loudS hq' (fun a' w'' h'=>⟨h'.1,t_any hs hQ hwait hdone k _ _ a' w'' (inv.set hq' hB.1.1.2) hn hB1 h'.2⟩) (hk w' hw').1⟩
    ·
     exact ⟨hB.1.2,fun w' hw'=>loudS hq' (fun a' w'' h'=>⟨h'.1,t_any hs hQ hwait hdone m _ _ a' w'' (inv.set hq' hB.1.2) hn' hB2 h'.2⟩) (hk w' hw').2.1⟩
    ·
     exact ⟨hB.2,fun w' hw'=>loudS hq' (fun a' w'' h'=>⟨h'.1,t_any hs hQ hwait hdone t _ _ a' w'' (inv.set hq' hB.2) hn'' hB3 h'.2⟩) (hk w' hw').2.2⟩
   ·
    cases hN
  ·
   cases hN
theorem wp_region_tree_all {id:Nat} {a:Act} {w:World} {l:List Oper} (t:TTree) (hm:P.follows .mixedOrders=true)
  (hB:(Region.noSelect l.toArray && decide (tLen t=some l.toArray.size) &&
   tB .any l.toArray l.toArray.size (fun x=>(Region.ready .any l.toArray x).isEmpty) t (Array.replicate l.toArray.size false))=true)
  (hQ:∀ c (a:Act) d v w,Q (.panic c) (a.put d v) w->Q (.panic c) a w)
  (h:wpT E S P l.toArray Q (fun a w=>Q .normal a w) t a w.drew):(Code.region id l.toArray true).wp P Q a w:=by
 simp only [Bool.and_eq_true,decide_eq_true_eq] at hB
 obtain ⟨⟨h1,hN⟩,hB⟩:=hB
 refine wp_region_any hm ?_
 have H:=t_any (P:=P) (Q:=Q) (md:=.any) (n:=l.toArray.size) (T:=fun a w=>Q .normal a w) h1 hQ
  (fun i hi listed inv hun j hj=>by
   obtain ⟨_,o,ho,_⟩:=mem_ready.1 hj
   exact (Array.getElem?_eq_some_iff.1 ho).1)
  (fun listed hg j hj=>by
   have:Region.ready .any l.toArray listed=[]:=by simpa using hg
   rw [this] at hj; cases hj) t _ _ a w.drew invS0 hN hB h
 have:=sAny_wp (g:=0) (fun listed a' w' hL=>(⟨by simpa using hL.1,hL.2 w' (hE.refl w')⟩:wpAny P .any l.toArray Q 0 listed a' w')) _ _ _ _ H
 exact this
end
end Go.Proofs.YtgjnnbomnoafcaaGreatDoor
