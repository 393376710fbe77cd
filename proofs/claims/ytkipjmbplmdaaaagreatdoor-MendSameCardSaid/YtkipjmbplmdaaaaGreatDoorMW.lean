/- Texts of one proof, joined: KFix, VolX, VolNum. -/
import Derived.Test.YtkipjmbplmdaaaaGreatDoorMH
import Derived.Test.YtkipjmbplmdaaaaGreatDoorMA
import Derived.Test.YtkipjmbplmdaaaaGreatDoorMV
import Derived.Test.YtkipjmbplmdaaaaGreatDoorMU
import Derived.Test.YtkipjmbplmdaaaaGreatDoorMT
set_option linter.unusedVariables false
set_option linter.unusedSimpArgs false
namespace Go.Proofs.YtkipjmbplmdaaaaGreatDoor
set_option linter.unusedVariables false
open Go Go.RowKit
theorem built_cfg3 (i k s t:Int):Tryz.prog.built 23 [(0,.int .i64 i),(1,.int .i64 k),(3,.int .i64 s),(4,.int .i64 t)]=some (Cfg.A ⟨i,k,0,s,t⟩):=by kernel_rfl
theorem Cfg.A_n (c:Cfg) (x:Int):(Cfg.A c).setIfInBounds 2 (.int .i64 x)=Cfg.A { c with n:=x }:=by
 rw [Cfg.A_def,Cfg.A_def]; rfl
def KCfgPost (w:World) (c:Cfg) (e:Ending) (w':World):Prop:=e=.returned (.agg (Cfg.A c))/\Ext w w'
theorem sectors_nat (c:Cfg) (h:c.Good):∃ m:Nat,c.sectors=(m:Int)/\1<=m/\m<=128:=by
 have b0:0<=c.slots*c.k:=Int.mul_nonneg (by have:=h.sl0; omega) (by have:=h.k0; omega)
 have b1:c.slots*c.k<=4*8:=Int.mul_le_mul h.sl1 (by have:=h.k1; have:=h.n1; omega) (by have:=h.k0; omega) (by omega)
 have b2:=h.st0
 have b3:=h.st1
 have e:c.sectors=1+c.slots*c.k+c.stripes:=rfl
 refine ⟨c.sectors.toNat,?_,?_,?_⟩<;>omega
structure VX (w0 w:World) (S:Nat->Prop) (r:Nat) (R:Rck) (gc:Nat) (c:Cfg) (g:Nat) (v:Vol):Prop where
 ve:VE w0 w S r R
 cfg:CBlkAt w gc c
 cfgS:S gc
 vol:VolAt w g r v
 gS:S g
 gw:w0.heap.size<=g
 ne:gc≠g
namespace VX
variable {w0 w w':World} {S T:Nat->Prop} {r g gc:Nat} {R R':Rck} {c:Cfg} {v v':Vol}
theorem rack (h:VX w0 w S r R gc c g v):RackAt S w r R:=h.ve.rack
theorem ext (h:VX w0 w S r R gc c g v):Ext w0 w:=h.ve.ext
theorem more (h:VX w0 w S r R gc c g v) (e:Ext w w'):VX w0 w' S r R gc c g v:=⟨h.ve.more e,e.at h.cfg,h.cfgS,h.vol.ext e,h.gS,h.gw,h.ne⟩
theorem wide (h:VX w0 w S r R gc c g v) (e:Ext w w'):VX w0 w' (wideS S w w') r R gc c g v:=⟨h.ve.wide e,e.at h.cfg,.inl h.cfgS,h.vol.ext e,.inl h.gS,h.gw,h.ne⟩
theorem keep (h:VX w0 w S r R gc c g v) (hr:RackAt S w' r R') (k:Keeps S w w'):VX w0 w' S r R' gc c g v:=⟨h.ve.keep hr k,k.at h.cfg fun q=>q h.cfgS,h.cfgS,h.vol.keep k h.gS,h.gS,h.gw,h.ne⟩
theorem commit {q:Option Err × Rck × Vol} {e:Ending} (h:VX w0 w S r R gc c g v) (hc:VCommitPost S w r g q e w'):VX w0 w' S r q.2.1 gc c g q.2.2 :=
 ⟨h.ve.commit h.gw hc,hc.only.at h.cfg fun q=>q.elim (fun z=>z h.cfgS) h.ne,h.cfgS,hc.vol,h.gS,h.gw,h.ne⟩
theorem c1 (h:VX w0 w S r R gc c g v):w.cell? ⟨gc,1,none⟩=some (.int .i64 c.k):=(Zag h.cfg).trans (by rw [Cfg.A1])
theorem c2 (h:VX w0 w S r R gc c g v):w.cell? ⟨gc,2,none⟩=some (.int .i64 c.n):=(Zag h.cfg).trans (by rw [Cfg.A2])
end VX
def GAt (w:World) (b:Nat) (G:Nat->Int):Prop:=∃ C:Array Value,w.heap[b]?=some (.cells C 3 (0,0))/\C.size=4/\∀ x,x < 4->C[x]?=some (.int .i64 (G x))
namespace GAt
variable {w w':World} {b:Nat} {G:Nat->Int}
end GAt
end Go.Proofs.YtkipjmbplmdaaaaGreatDoor
namespace Go.Proofs.YtkipjmbplmdaaaaGreatDoor
set_option linter.unusedVariables false
theorem VH.start {c:Cfg} (hc:c.Good) (k4:c.k<=4) (n6:c.n<=6) {m:Nat} (hm:c.sectors<=(m:Int)):∃ R1 R2,(Rck.new c.n.toNat m).vmake c=(none,R1)/\R1.vopen=(none,R2,c,1)/\VH R2 c m true (VH.jNew c) (VH.fNew c)/\VV c 1 (VH.jNew c) (VH.fNew c):=by
 obtain ⟨R1,e1,h1⟩:=(VH.new hc hm).make
 obtain ⟨R2,cur1,e2,h2,v2,hle⟩:=h1.opened k4 n6 (VH.vv_new hc)
 have hc1:cur1=1:=by have:=v2.cur; omega
 subst hc1
 exact ⟨R1,R2,e1,e2,h2,v2⟩
theorem VV.sfit {c:Cfg} {cur:Int} {j:Nat->Option Rcd} {f:Strs} (h:VV c cur j f) {s:Nat} {g:Int} {l:List (List Nat)} (e:f s=some (g,l)) (hs:s < c.stripes.toNat):SFit c s g l:=by
 obtain ⟨g',l',h1,h2,_⟩:=h.str s hs
 rw [e] at h1; cases h1; exact h2
structure Nums (R:Rck) (c:Cfg) (m:Nat) (i:Nat) (G:Nat->Int):Prop where
 ex:∃ j f,VH R c m true j f/\VV c (1+(i:Int)) j f/\∀ x,x < c.stripes.toNat->∃ l,f x=some (G x,l)
namespace Nums
variable {R:Rck} {c:Cfg} {m i:Nat} {G:Nat->Int}
end Nums
structure Fewer (R0 R:Rck) (c:Cfg) (m:Nat) (t:Nat):Prop where
 live:Live R c.n.toNat m
 same:∀ d:Nat,d < c.n.toNat->(d < c.k.toNat - 1\/t<=d)->R.dsk (d:Nat)=R0.dsk (d:Nat)
 dead:∀ d:Nat,d < c.n.toNat->c.k.toNat - 1<=d->d < t->(R.dsk (d:Nat)).dead=true
namespace Fewer
variable {R0 R:Rck} {c:Cfg} {m t:Nat}
end Fewer
end Go.Proofs.YtkipjmbplmdaaaaGreatDoor
