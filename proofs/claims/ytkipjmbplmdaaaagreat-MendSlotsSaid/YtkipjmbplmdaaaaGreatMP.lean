/- Texts of one proof, joined: DiskI, RackH, DiskG, DiskH, RackBoot, IntsMore, RowInts. -/
import Derived.Test.YtkipjmbplmdaaaaGreatMD
import Derived.Test.YtkipjmbplmdaaaaGreatMG
import Derived.Test.YtkipjmbplmdaaaaGreatMB
import Derived.Test.YtkipjmbplmdaaaaGreatMF
import Derived.Test.YtkipjmbplmdaaaaGreatMO
import Derived.Test.YtkipjmbplmdaaaaGreatRows
import Derived.Test.YtkipjmbplmdaaaaGreatMA
import Derived.RowKit
set_option linter.unusedVariables false
set_option linter.unusedSimpArgs false
namespace Go.Proofs.YtkipjmbplmdaaaaGreat
set_option linter.unusedVariables false
open Go Go.RowKit
theorem RackAt.pokes {S F:Nat->Prop} {w w':World} {r:Nat} {R:Rck} (h:RackAt S w r R) (e:Only F w w') (hF:∀ b,F b->S b):RackAt (wideS S w w') w' r R:=by
 obtain ⟨h0,K,h1,h2,h3⟩:=h
 refine ⟨fun b hb=>?_,K,h1,h2.only e fun b hb hf=>h3 b hb (hF b hf),fun b hb ht=>?_⟩
 ·
  rcases hb with hb | hb
  ·
   exact Nat.lt_of_lt_of_le (h0 b hb) e.size
  ·
   exact hb.2
 ·
  rcases ht with h4 | h4
  ·
   exact h3 b hb h4
  ·
   have:=h2.lt hb; omega
namespace SE
variable {w0 w w':World} {S:Nat->Prop} {r:Nat} {R R':Rck} {gc:Nat} {c:Cfg} {L:List (Option Addr × List (List Nat))}
end SE
end Go.Proofs.YtkipjmbplmdaaaaGreat
namespace Go.Proofs.YtkipjmbplmdaaaaGreat
set_option linter.unusedVariables false
open Go Go.RowKit
theorem IsRow.ints {w:World} {a:Option Addr} {len cap:Nat} {z:List Int} (h:IsRow .i64 w a len cap z):∀ i,i < len->∃ b off v,a=some ⟨b,off,none⟩/\w.cell? ⟨b,off+i,none⟩=some (.int .i64 v):=by
 intro i hi
 rcases h with ⟨rfl,rfl,rfl,rfl⟩ | ⟨x,rfl,hlc,hm,hz,hc,hw⟩
 ·
  omega
 ·
  have h1:=hc i (by omega)
  obtain ⟨b,off,sp⟩:=x
  rcases sp with _ | sp
  ·
   have e:(⟨b,off,none⟩:Addr).add i=⟨b,off+i,none⟩:=by unfold Addr.add; split<;>simp_all
   rw [e] at h1
   exact ⟨b,off,_,rfl,h1⟩
  ·
   exfalso
   have h0:=hc 0 (by omega)
   unfold World.cell? Addr.add at h0
   split at h0<;>simp_all
theorem IsRow.low {w:World} {ik:IntKind} {a:Option Addr} {len cap:Nat} {z:List Int} (h:IsRow ik w a len cap z):∀ p,a=some p->0 < len->p.block < w.heap.size:=fun p hp hn=>by
 rcases h with ⟨rfl,rfl,rfl,rfl⟩ | ⟨x,rfl,hlc,hm,hz,hc,hw⟩
 ·
  cases hp
 ·
  cases hp
  have h0:=hc 0 (by omega)
  have:=World.block_lt_of_cell? w _ h0
  unfold Addr.add at this
  split at this<;>simp_all
end Go.Proofs.YtkipjmbplmdaaaaGreat
