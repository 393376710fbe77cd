/- Texts of one proof, joined: DiskG, DiskH, RackBoot, IntsMore. -/
import Derived.Test.YtgjnnbomnoafcaaGreatPD
import Derived.Test.YtgjnnbomnoafcaaGreatPF
import Derived.Test.YtgjnnbomnoafcaaGreatPO
set_option linter.unusedVariables false
set_option linter.unusedSimpArgs false
namespace Go.Proofs.YtgjnnbomnoafcaaGreat
set_option linter.unusedVariables false
open Go Go.RowKit
theorem RackAt.pokes {S F:Nat->Prop} {w w':World} {r:Nat} {R:Rck} (h:RackAt S w r R) (e:Only F w w') (hF:∀ b,F b->S b):RackAt (wideS S w w') w' r R:=by
 obtain ⟨h0,K,h1,h2,h3⟩:=h
 refine ⟨fun b hb=>?_,K,h1,h2.only e fun b hb hf=>h3 b hb (hF b hf),fun b hb ht=>?_⟩
 ·
  rcases hb with hb | hb
  ·
   exact Nat.lt_of_lt_of_le (h0 b hb) e.size
  ·
   exact hb.2
 ·
  rcases ht with h4 | h4
  ·
   exact h3 b hb h4
  ·
   have:=h2.lt hb; omega
namespace SE
variable {w0 w w':World} {S:Nat->Prop} {r:Nat} {R R':Rck} {gc:Nat} {c:Cfg} {L:List (Option Addr × List (List Nat))}
end SE
end Go.Proofs.YtgjnnbomnoafcaaGreat
