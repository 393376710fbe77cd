/- Texts of one proof, joined: Err, Wrap. -/
import Derived.Test.YtgjnnbomnoafcaaGreatPA
import Derived.LaidEql
import Derived.RowKitTokens
import Derived.Test.YtgjnnbomnoafcaaGreatProg
set_option linter.unusedVariables false
set_option linter.unusedSimpArgs false
namespace Go.Proofs.YtgjnnbomnoafcaaGreat
set_option linter.unusedVariables false
open Go.RowKit Go.Extern.Stop Go.Stop Go.Extern Go
inductive Err where
 | no (n:Int)
 | loss (g h n:Int)
 | fault (op:ByteArray) (at_:Int) (e:Err)
namespace Err
def val:Err->Value
 | no n=>.iface 59 (.int .i64 n)
 | loss g h n=>.iface 79 (.agg #[.int .i64 g,.int .i64 h,.int .i64 n])
 | fault op a e=>.iface 82 (.agg #[.string op,.int .i64 a,e.val])
def kind:Err->Int
 | no n=>n
 | loss _ _ _=>6
 | fault _ _ e=>e.kind
def lost:Err->Bool
 | no _=>false
 | loss _ _ _=>true
 | fault _ _ e=>e.lost
def depth:Err->Nat
 | no _=>0
 | loss _ _ _=>0
 | fault _ _ e=>e.depth+1
theorem iface (e:Err):∃ t v,e.val=.iface t v:=by cases e<;>exact ⟨_,_,rfl⟩
end Err
open Go.RowKit Go
theorem Zb7 (op:ByteArray) (n:Int) (w:World):Calls Tryz.prog 25 #[.string op,.int .i64 n,.nilIface] w fun e w'=>e=.returned .nilIface/\w=w':=by
 go_enter Tryz.func25,Tryz.ntmps25
 go_wp2
 go_ret
 exact ⟨rfl,rfl⟩
theorem Zap (op:ByteArray) (n:Int) (er:Err) (w:World):Calls Tryz.prog 25 #[.string op,.int .i64 n,er.val] w fun e w'=>e=.returned (Err.fault op n er).val/\w=w':=by
 obtain ⟨t2,v2,hq⟩:∃ t v,er.val=.iface t v:=by cases er<;>exact ⟨_,_,rfl⟩
 have hv:(Err.fault op n er).val=.iface 82 (.agg #[.string op,.int .i64 n,.iface t2 v2]):=by rw [<- hq]; rfl
 rw [hq,hv]
 clear hq hv
 go_enter Tryz.func25,Tryz.ntmps25
 go_wp2
 go_ret
 exact ⟨rfl,rfl⟩
end Go.Proofs.YtgjnnbomnoafcaaGreat
