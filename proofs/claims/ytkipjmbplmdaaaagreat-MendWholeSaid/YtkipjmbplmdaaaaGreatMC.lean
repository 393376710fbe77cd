/- Texts of one proof, joined: Err, Wrap. -/
import Derived.Test.YtkipjmbplmdaaaaGreatMA
import Derived.LaidEql
import Derived.RowKitTokens
import Derived.Test.YtkipjmbplmdaaaaGreatProg
set_option linter.unusedVariables false
set_option linter.unusedSimpArgs false
namespace Go.Proofs.YtkipjmbplmdaaaaGreat
set_option linter.unusedVariables false
open Go.RowKit Go.Extern.Stop Go.Stop Go.Extern Go
inductive Err where
 | no (n:Int)
 | loss (g h n:Int)
 | fault (op:ByteArray) (at_:Int) (e:Err)
namespace Err
def val:Err->Value
 | no n=>.iface 87 (.int .i64 n)
 | loss g h n=>.iface 121 (.agg #[.int .i64 g,.int .i64 h,.int .i64 n])
 | fault op a e=>.iface 123 (.agg #[.string op,.int .i64 a,e.val])
def kind:Err->Int
 | no n=>n
 | loss _ _ _=>6
 | fault _ _ e=>e.kind
def lost:Err->Bool
 | no _=>false
 | loss _ _ _=>true
 | fault _ _ e=>e.lost
def depth:Err->Nat
 | no _=>0
 | loss _ _ _=>0
 | fault _ _ e=>e.depth+1
theorem kind_lost:∀ {e:Err},e.lost=true->e.kind=6
 | .no _,h=>by cases h
 | .loss _ _ _,_=>rfl
 | .fault _ _ e,h=>kind_lost (e:=e) h
noncomputable def vdepth (v:Value):Nat:=open Classical in if h:∃ e:Err,e.val=v then (Classical.choose h).depth else 0
theorem val_inj:∀ {a b:Err},a.val=b.val->a=b
 | .no n,.no m,h=>by simp [val] at h; rw [h]
 | .no n,.loss _ _ _,h=>by simp [val] at h
 | .no n,.fault _ _ _,h=>by simp [val] at h
 | .loss _ _ _,.no _,h=>by simp [val] at h
 | .loss _ _ _,.loss _ _ _,h=>by simp [val] at h; obtain ⟨h1,h2,h3⟩:=h; rw [h1,h2,h3]
 | .loss _ _ _,.fault _ _ _,h=>by simp [val] at h
 | .fault _ _ _,.no n,h=>by simp [val] at h
 | .fault _ _ _,.loss _ _ _,h=>by simp [val] at h
 | .fault o i e,.fault o' i' e',h=>by
  simp [val] at h
  obtain ⟨h1,h2,h3⟩:=h
  rw [h1,h2,val_inj h3]
theorem vdepth_val (e:Err):vdepth e.val=e.depth:=by
 have h:∃ e':Err,e'.val=e.val:=⟨e,rfl⟩
 unfold vdepth
 rw [dif_pos h,val_inj (Classical.choose_spec h)]
theorem iface (e:Err):∃ t v,e.val=.iface t v:=by cases e<;>exact ⟨_,_,rfl⟩
end Err
open Go.RowKit Go
theorem Zb2 (op:ByteArray) (n:Int) (w:World):Calls Tryz.prog 46 #[.string op,.int .i64 n,.nilIface] w fun e w'=>e=.returned .nilIface/\w=w':=by
 go_enter Tryz.func46,Tryz.ntmps46
 go_wp2
 go_ret
 exact ⟨rfl,rfl⟩
theorem Zar (op:ByteArray) (n:Int) (er:Err) (w:World):Calls Tryz.prog 46 #[.string op,.int .i64 n,er.val] w fun e w'=>e=.returned (Err.fault op n er).val/\w=w':=by
 obtain ⟨t2,v2,hq⟩:∃ t v,er.val=.iface t v:=by cases er<;>exact ⟨_,_,rfl⟩
 have hv:(Err.fault op n er).val=.iface 123 (.agg #[.string op,.int .i64 n,.iface t2 v2]):=by rw [<- hq]; rfl
 rw [hq,hv]
 clear hq hv
 go_enter Tryz.func46,Tryz.ntmps46
 go_wp2
 go_ret
 exact ⟨rfl,rfl⟩
end Go.Proofs.YtkipjmbplmdaaaaGreat
