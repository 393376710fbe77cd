/- Texts of one proof, joined: SuperPure, SupA, SupB. -/
import Derived.Test.YtgjnnbomnoafcaaGreatDoorVD
import Derived.Test.YtgjnnbomnoafcaaGreatDoorVG
import Derived.Test.YtgjnnbomnoafcaaGreatDoorVA
import Derived.Test.YtgjnnbomnoafcaaGreatDoorVB
set_option linter.unusedVariables false
set_option linter.unusedSimpArgs false
namespace Go.Proofs.YtgjnnbomnoafcaaGreatDoor
set_option linter.unusedVariables false
instance:DecidableEq Frm:=fun f g=>decidable_of_iff (f.kind=g.kind/\f.slot=g.slot/\f.stripe=g.stripe/\f.gen=g.gen/\f.data=g.data) (by cases f; cases g; simp)
structure Cfg where
 id:Int
 k:Int
 n:Int
 stripes:Int
 slots:Int
namespace Cfg
def zero:Cfg:=⟨0,0,0,0,0⟩
theorem ext_iff' (a b:Cfg):a=b↔a.id=b.id/\a.k=b.k/\a.n=b.n/\a.stripes=b.stripes/\a.slots=b.slots:=by
 cases a; cases b; simp
instance:DecidableEq Cfg:=fun a b=>decidable_of_iff _ (ext_iff' a b).symm
def right (c:Cfg):Bool:=Frm.isIn c.id 1 2147483647 && Frm.isIn c.n 1 8 && Frm.isIn c.k 1 c.n && Frm.isIn c.stripes 1 64 && Frm.isIn c.slots 1 4
def sectors (c:Cfg):Int:=1+c.slots*c.k+c.stripes
structure Good (c:Cfg):Prop where
 id0:1<=c.id
 id1:c.id<=2147483647
 n1:c.n<=8
 k0:1<=c.k
 k1:c.k<=c.n
 st0:1<=c.stripes
 st1:c.stripes<=64
 sl0:1<=c.slots
 sl1:c.slots<=4
theorem right_iff (c:Cfg):c.right=true↔c.Good:=by
 unfold right Frm.isIn
 simp only [Bool.and_eq_true,decide_eq_true_eq]
 exact ⟨fun ⟨⟨⟨⟨⟨h1,h2⟩,h3,h4⟩,h5,h6⟩,h7,h8⟩,h9,h10⟩=>⟨h1,h2,h4,h5,h6,h7,h8,h9,h10⟩,fun h=>⟨⟨⟨⟨⟨h.id0,h.id1⟩,Int.le_trans h.k0 h.k1,h.n1⟩,h.k0,h.k1⟩,h.st0,h.st1⟩,h.sl0,h.sl1⟩⟩
def bytes (c:Cfg):List Nat:=Frm.low 4 c.id.toNat++[c.k.toNat,c.n.toNat,c.stripes.toNat,c.slots.toNat]
def block (c:Cfg) (i:Int):Frm:=⟨1,i,0,1,c.bytes++List.replicate 100 0⟩
def parse (l:List Nat):Cfg:=⟨(Frm.num (l.take 4):Nat),(nth l 4:Nat),(nth l 5:Nat),(nth l 6:Nat),(nth l 7:Nat)⟩
end Cfg
namespace Rck
def fits (r:Rck) (c:Cfg):Bool:=c.right && decide (c.n=(r.l.length:Int)) && decide (c.sectors<=(r.sectors:Int))
end Rck
structure Super (R:Rck) (c:Cfg) (m:Nat):Prop where
 live:Live R c.n.toNat m
 good:c.Good
 fit:c.sectors<=(m:Int)
namespace Super
variable {R:Rck} {c:Cfg} {m:Nat}
theorem fits (h:Super R c m):R.fits c=true:=by
 unfold Rck.fits
 have hg:=h.good
 rw [(Cfg.right_iff c).2 hg,h.live.len,h.live.sectors,decide_eq_true h.fit,decide_eq_true (by have:=hg.k0; have:=hg.k1; omega)]; rfl
def disk (D:Dsk) (b:List Nat):Dsk:=(D.write 0 b).flush
end Super
end Go.Proofs.YtgjnnbomnoafcaaGreatDoor
namespace Go.Proofs.YtgjnnbomnoafcaaGreatDoor
set_option linter.unusedVariables false
open Go Go.RowKit
namespace Cfg
def cl (c:Cfg):List Value:=[.int .i64 c.id,.int .i64 c.k,.int .i64 c.n,.int .i64 c.stripes,.int .i64 c.slots]
@[irreducible] def A (c:Cfg):Array Value:=(cl c).toArray
theorem A_def (c:Cfg):A c=(cl c).toArray:=by unfold A; rfl
theorem A_size (c:Cfg):(A c).size=5:=by rw [A_def]; rfl
theorem A0 (c:Cfg):(A c)[0]?=some (.int .i64 c.id):=by rw [A_def]; rfl
theorem A1 (c:Cfg):(A c)[1]?=some (.int .i64 c.k):=by rw [A_def]; rfl
theorem A2 (c:Cfg):(A c)[2]?=some (.int .i64 c.n):=by rw [A_def]; rfl
theorem A3 (c:Cfg):(A c)[3]?=some (.int .i64 c.stripes):=by rw [A_def]; rfl
theorem A4 (c:Cfg):(A c)[4]?=some (.int .i64 c.slots):=by rw [A_def]; rfl
theorem A_one (c:Cfg):∀ v∈(A c).toList,v.oneCell'=true:=by
 intro v hv
 rw [A_def] at hv
 simp only [cl,List.mem_cons,List.not_mem_nil,or_false] at hv
 rcases hv with rfl | rfl | rfl | rfl | rfl<;>rfl
end Cfg
theorem aggCfg:AggType Tryz.prog 74 5:=⟨by kernel_rfl,by kernel_rfl⟩
theorem zero_cfg (w:World):Sem.run Tryz.prog (zeroValue 74) w=.ok (.agg (Cfg.A Cfg.zero)) w:=by kernel_rfl
theorem built_cfg (c:Cfg):Tryz.prog.built 74 [(0,.int .i64 c.id),(1,.int .i64 c.k),(2,.int .i64 c.n),(3,.int .i64 c.stripes),(4,.int .i64 c.slots)]=some (Cfg.A c):=by kernel_rfl
theorem Zcf (n lo hi:Int) (w:World) :
  Calls Tryz.prog 185 #[.int .i64 n,.int .i64 lo,.int .i64 hi] w fun e w'=>e=.returned (.bool (Frm.isIn n lo hi))/\w=w':=by
 by_cases h:lo<=n
 ·
  have h1:decide (lo<=n)=true:=by simp [h]
  have HI:Hid (Frm.isIn n lo hi=decide (n<=hi)):=hid (by simp [Frm.isIn,h])
  rw [HI.out]
  go_enter Tryz.func185,Tryz.ntmps185
  go_wp2
  go_ret
  exact ⟨rfl,rfl⟩
 ·
  have h1:decide (lo<=n)=false:=by simp [h]
  have HI:Hid (Frm.isIn n lo hi=false):=hid (by simp [Frm.isIn,h])
  rw [HI.out]
  go_enter Tryz.func185,Tryz.ntmps185
  go_wp2
  go_ret
  exact ⟨rfl,rfl⟩
set_option maxRecDepth 100000 in
set_option maxHeartbeats 2000000 in
theorem sright_c (c:Cfg) (w:World) :
  Calls Tryz.prog 135 #[.agg (Cfg.A c)] w fun e w'=>e=.returned (.bool c.right)/\Ext w w':=by
 have a0:=Cfg.A0 c
 have a1:=Cfg.A1 c
 have a2:=Cfg.A2 c
 have a3:=Cfg.A3 c
 have a4:=Cfg.A4 c
 have HR:Hid (c.right=(Frm.isIn c.id 1 2147483647 && Frm.isIn c.n 1 8 && Frm.isIn c.k 1 c.n && Frm.isIn c.stripes 1 64 && Frm.isIn c.slots 1 4)):=hid rfl
 rw [HR.out]
 clear HR
 obtain ⟨id,k,n,st,sl⟩:=c
 simp only at a0 a1 a2 a3 a4 ⊢
 generalize Cfg.A _=A at *
 rcases h0:Frm.isIn id 1 2147483647 with _ | _
 ·
  rw [Bool.false_and,Bool.false_and,Bool.false_and,Bool.false_and]
  go_enter Tryz.func135,Tryz.ntmps135
  go_wp2_with (go_at_call 185; refine (Zcf _ _ _ _).mono ?_; rintro e w' ⟨rfl,rfl⟩)
  go_ret
  exact ⟨rfl,(Ext.refl w).alloc _⟩
 ·
  rcases h1:Frm.isIn n 1 8 with _ | _
  ·
   rw [Bool.true_and,Bool.false_and,Bool.false_and,Bool.false_and]
   go_enter Tryz.func135,Tryz.ntmps135
   go_wp2_with (go_at_call 185; refine (Zcf _ _ _ _).mono ?_; rintro e w' ⟨rfl,rfl⟩)
   go_ret
   exact ⟨rfl,(Ext.refl w).alloc _⟩
  ·
   rcases h2:Frm.isIn k 1 n with _ | _
   ·
    rw [Bool.true_and,Bool.true_and,Bool.false_and,Bool.false_and]
    go_enter Tryz.func135,Tryz.ntmps135
    go_wp2_with (go_at_call 185; refine (Zcf _ _ _ _).mono ?_; rintro e w' ⟨rfl,rfl⟩)
    go_ret
    exact ⟨rfl,(Ext.refl w).alloc _⟩
   ·
    rcases h3:Frm.isIn st 1 64 with _ | _
    ·
     rw [Bool.true_and,Bool.true_and,Bool.true_and,Bool.false_and]
     go_enter Tryz.func135,Tryz.ntmps135
     go_wp2_with (go_at_call 185; refine (Zcf _ _ _ _).mono ?_; rintro e w' ⟨rfl,rfl⟩)
     go_ret
     exact ⟨rfl,(Ext.refl w).alloc _⟩
    ·
     rcases h4:Frm.isIn sl 1 4 with _ | _
     ·
      rw [Bool.true_and,Bool.true_and,Bool.true_and,Bool.true_and]
      go_enter Tryz.func135,Tryz.ntmps135
      go_wp2_with (go_at_call 185; refine (Zcf _ _ _ _).mono ?_; rintro e w' ⟨rfl,rfl⟩)
      go_ret
      exact ⟨rfl,(Ext.refl w).alloc _⟩
     ·
      rw [Bool.true_and,Bool.true_and,Bool.true_and,Bool.true_and]
      go_enter Tryz.func135,Tryz.ntmps135
      go_wp2_with (go_at_call 185; refine (Zcf _ _ _ _).mono ?_; rintro e w' ⟨rfl,rfl⟩)
      go_ret
      exact ⟨rfl,(Ext.refl w).alloc _⟩
theorem sectors_bd (c:Cfg) (h:c.Good):0<=c.slots*c.k/\c.slots*c.k<=32:=by
 obtain ⟨h1,h2,h3,h4,h5,h6,h7,h8,h9⟩:=h
 have e1:0<=c.slots*c.k:=Int.mul_nonneg (by omega) (by omega)
 have e2:c.slots*c.k<=4*c.k:=Int.mul_le_mul_of_nonneg_right h9 (by omega)
 omega
set_option maxRecDepth 100000 in
theorem ssectors_c (c:Cfg) (h:c.Good) (w:World) :
  Calls Tryz.prog 138 #[.agg (Cfg.A c)] w fun e w'=>e=.returned (.int .i64 c.sectors)/\Ext w w':=by
 have a1:=Cfg.A1 c
 have a3:=Cfg.A3 c
 have a4:=Cfg.A4 c
 obtain ⟨b0,b1⟩:=sectors_bd c h
 have b2:=h.st0
 have b3:=h.st1
 have HR:Hid (c.sectors=1+c.slots*c.k+c.stripes):=hid rfl
 rw [HR.out]
 clear HR h
 obtain ⟨id,k,n,st,sl⟩:=c
 simp only at a1 a3 a4 b0 b1 b2 b3 ⊢
 generalize Cfg.A _=A at *
 obtain ⟨p,hp⟩:∃ p,sl*k=p:=⟨_,rfl⟩
 rw [hp] at b0 b1 ⊢
 have hw:wrap64 (sl*k)=p:=by rw [hp]; unfold wrap64; omega
 have w2:wrap64 (1+p)=1+p:=by unfold wrap64; omega
 have w3:wrap64 (1+p+st)=1+p+st:=by unfold wrap64; omega
 clear hp b0 b1 b2 b3
 go_enter Tryz.func138,Tryz.ntmps138
 go_wp2
 go_ret
 exact ⟨ret_int (by simp only [hw,w2,w3]),(Ext.refl w).alloc _⟩
theorem part_step (l:List Nat) (n j:Nat) (h:j < n) (hl:j < l.length):(l.take j++List.replicate (n - j) 0).set j (nth l j)=l.take (j+1)++List.replicate (n - (j+1)) 0:=by
 have e:n - j=(n - (j+1))+1:=by omega
 have ht:(l.take j).length=j:=by simp; omega
 rw [e,List.replicate_succ,List.set_append_right _ _ (by omega),ht,Nat.sub_self,List.set_cons_zero]
 have e2:l.take (j+1)=l.take j++[nth l j]:=by
  rw [List.take_add_one,List.getElem?_eq_getElem hl]
  unfold nth
  simp [List.getD_eq_getElem?_getD,hl]
 rw [e2,List.append_assoc]; rfl
theorem Frm.A_put (f:Frm) (j x:Nat):(Frm.A f).setIfInBounds (4+j) (.int .u8 x)=Frm.A { f with data:=f.data.set j x }:=by
 rw [Frm.A_def,Frm.A_def]
 unfold Frm.cl
 rw [List.setIfInBounds_toArray,List.set_append_right _ _ (by simp)]
 simp [bv,List.map_set]
def FBlk (w:World) (g:Nat) (f:Frm):Prop:=w.heap[g]?=some (.cells (Frm.A f) 42 (0,0))
theorem FBlk.set {w:World} {g:Nat} {f:Frm} (h:FBlk w g f) (j x:Nat):FBlk (w.setCell ⟨g,4+j,none⟩ (.int .u8 x)) g { f with data:=f.data.set j x }:=by
 have:=Zar h (i:=4+j) (.int .u8 (x:Int))
 rw [Frm.A_put] at this
 exact this
namespace Cfg
end Cfg
end Go.Proofs.YtgjnnbomnoafcaaGreatDoor
