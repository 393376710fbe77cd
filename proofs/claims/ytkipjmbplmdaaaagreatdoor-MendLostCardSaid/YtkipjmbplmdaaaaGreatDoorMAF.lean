/- Texts of one proof, joined: ErrLoss, LossAs, LostC, LossEq. -/
import Derived.Test.YtkipjmbplmdaaaaGreatDoorMC
import Derived.Test.YtkipjmbplmdaaaaGreatDoorMA
import Derived.LaidEql
import Derived.Stop.Asserts
import Derived.RowKitTokens
import Derived.Handy
import Derived.Test.YtkipjmbplmdaaaaGreatDoorMB
set_option linter.unusedVariables false
set_option linter.unusedSimpArgs false
namespace Go.Proofs.YtkipjmbplmdaaaaGreatDoor
set_option linter.unusedVariables false
open Go.RowKit Go.Extern.Stop Go.Stop Go.Extern Go
namespace LossFacts
theorem valueOfP (t:Addr) (w:World):(ReflectliteValue.unpack (.iface 89 (.pointer (some t)))).run Tryz.prog w
  = .ok (.agg #[.pointer (some ⟨1,89,none⟩),.pointer (some ⟨w.heap.size,0,none⟩),.int .u64 150]) (w.alloc (.cells #[.pointer (some t)] 89)):=by kernel_rfl
theorem typeP (a:Addr) (w:World):(ReflectliteValue.methodAny (ReflectliteValue.valueError "reflectlite.Value.Type" 0) (fun t _ _ _=>ReflectliteType.toType t) #[.agg #[.pointer (some ⟨1,89,none⟩),.pointer (some a),.int .u64 150]]).run Tryz.prog w
  = .ok (.iface 180 (.agg #[.pointer (some ⟨1,89,none⟩)])) w:=by kernel_rfl
theorem kindP (w:World):((ReflectliteType.abiMethod fun t=>(fun a:Nat=>Value.int IntKind.u8 (a:Int)) <$> Rtype.kind t) #[.pointer (some ⟨1,89,none⟩)]).run Tryz.prog w=.ok (.int .u8 22) w:=by kernel_rfl
theorem kindF (w:World):((ReflectliteType.abiMethod fun t=>(fun a:Nat=>Value.int IntKind.u8 (a:Int)) <$> Rtype.kind t) #[.pointer (some ⟨1,41,none⟩)]).run Tryz.prog w=.ok (.int .u8 25) w:=by kernel_rfl
theorem elemP (w:World):(ReflectliteType.method ReflectliteType.elem #[.agg #[.pointer (some ⟨1,89,none⟩)]]).run Tryz.prog w=.ok (.iface 180 (.agg #[.pointer (some ⟨1,41,none⟩)])) w:=by kernel_rfl
theorem implF (w:World):(ReflectliteType.relation "Implements" ReflectliteType.implements_ #[.agg #[.pointer (some ⟨1,41,none⟩)],.iface 180 (.agg #[.pointer (some ⟨1,37,none⟩)])]).run Tryz.prog w=.ok (.bool true) w:=by kernel_rfl
theorem assF (w:World):(ReflectliteType.relation "AssignableTo" ReflectliteType.assignableTo #[.agg #[.pointer (some ⟨1,41,none⟩)],.iface 180 (.agg #[.pointer (some ⟨1,41,none⟩)])]).run Tryz.prog w=.ok (.bool true) w:=by kernel_rfl
theorem typeOfF (v:Value) (w:World):(ReflectliteType.typeOf #[.iface 122 v]).run Tryz.prog w=.ok (.iface 180 (.agg #[.pointer (some ⟨1,122,none⟩)])) w:=by kernel_rfl
theorem typeOfL (v:Value) (w:World):(ReflectliteType.typeOf #[.iface 41 v]).run Tryz.prog w=.ok (.iface 180 (.agg #[.pointer (some ⟨1,41,none⟩)])) w:=by kernel_rfl
theorem assX (w:World):(ReflectliteType.relation "AssignableTo" ReflectliteType.assignableTo #[.agg #[.pointer (some ⟨1,122,none⟩)],.iface 180 (.agg #[.pointer (some ⟨1,41,none⟩)])]).run Tryz.prog w=.ok (.bool false) w:=by kernel_rfl
theorem valueOfF (x y z:Value) (w:World):(ReflectliteValue.unpack (.iface 41 (.agg #[x,y,z]))).run Tryz.prog w
  = .ok (.agg #[.pointer (some ⟨1,41,none⟩),.pointer (some ⟨w.heap.size,0,none⟩),.int .u64 153]) (w.alloc (.cells #[x,y,z] 41)):=by kernel_rfl
theorem elemOfP (w:World):(Rtype.elem? 89).run Tryz.prog w=.ok (some 41) w:=by kernel_rfl
theorem mkF (p:Addr) (w:World):(ReflectliteValue.mk 41 p ReflectliteValue.flagAddr).run Tryz.prog w=.ok (.agg #[.pointer (some ⟨1,41,none⟩),.pointer (some p),.int .u64 409]) w:=by kernel_rfl
theorem partsP (a:Addr) (w:World):(ReflectliteValue.parts (.agg #[.pointer (some ⟨1,89,none⟩),.pointer (some a),.int .u64 150])).run Tryz.prog w=.ok (some (89,a,150)) w:=by kernel_rfl
theorem partsFa (a:Addr) (w:World):(ReflectliteValue.parts (.agg #[.pointer (some ⟨1,41,none⟩),.pointer (some a),.int .u64 409])).run Tryz.prog w=.ok (some (41,a,409)) w:=by kernel_rfl
theorem partsF (a:Addr) (w:World):(ReflectliteValue.parts (.agg #[.pointer (some ⟨1,41,none⟩),.pointer (some a),.int .u64 153])).run Tryz.prog w=.ok (some (41,a,153)) w:=by kernel_rfl
theorem directF (w:World):(Rtype.directlyAssignable 41 41).run Tryz.prog w=.ok true w:=by kernel_rfl
theorem rlm (z:Sem Value) (f:TypeId->Addr->Nat->Nat->Sem Value) (v:Value) :
  ReflectliteValue.method z f #[v]=(do match <- ReflectliteValue.parts v with | none=>z | some (t,a,fl)=>f t a fl (fl % 32)):=rfl
theorem rls (v x:Value):ReflectliteValue.set #[v,x]=(do
  let (some (dst,a,fl),some (src,b,_)):=(<- ReflectliteValue.parts v,<- ReflectliteValue.parts x)
   | unsupported (.noEntry "extern/(internal/reflectlite.Value).Set.zeroValue")
  if fl / ReflectliteValue.flagAddr % 2 == 0 then unsupported (.noEntry "extern/(internal/reflectlite.Value).Set.unaddressable")
  let val <- loadVar src b
  if <- Rtype.directlyAssignable dst src then storeVar dst a val
  else if <- Rtype.implements dst src then
   if (<- Rtype.kind src) == 20 then
    match val with
    | .nilIface=>unsupported (.noEntry "extern/reflectlite: a nil value of one interface type handed on as a value of another")
    | _=>storeVar dst a val
   else storeVar dst a (.iface src val)
  else panicString ("reflectlite.Set: value of type "++(<- Rtype.spelt src)++" is not assignable to type "++(<- Rtype.spelt dst))
  pure (.tuple #[])):=rfl
theorem isNilP (a p:Addr) (W:World) (ha:W.cell? a=some (.pointer (some p))) :
  (ReflectliteValue.method (ReflectliteValue.valueError "reflectlite.Value.IsNil" 0) ReflectliteValue.isNil #[.agg #[.pointer (some ⟨1,89,none⟩),.pointer (some a),.int .u64 150]]).run Tryz.prog W=.ok (.bool false) W:=by
 rw [rlm]
 simp only [Sem.run_bind,partsP,Result.andThen]
 simp [ReflectliteValue.isNil,loadVar,isAgg,underlying,Tryz.underlying89,ha,Result.andThen]
theorem elemV (a p:Addr) (W:World) (ha:W.cell? a=some (.pointer (some p))) :
  (ReflectliteValue.method (ReflectliteValue.valueError "reflectlite.Value.Elem" 0) ReflectliteValue.elem #[.agg #[.pointer (some ⟨1,89,none⟩),.pointer (some a),.int .u64 150]]).run Tryz.prog W
   = .ok (.agg #[.pointer (some ⟨1,41,none⟩),.pointer (some p),.int .u64 409]) W:=by
 rw [rlm]
 simp only [Sem.run_bind,partsP,Result.andThen]
 simp [ReflectliteValue.elem,loadVar,isAgg,underlying,Tryz.underlying89,ha,Result.andThen,elemOfP,mkF]
theorem aggF:AggType Tryz.prog 41 3:=⟨by kernel_rfl,by kernel_rfl⟩
theorem setF (tb b:Nat) (x y z:Value) (cur:Array Value) (W:World) (hb:W.heap[b]?=some (.cells #[x,y,z] 41 (0,0))) (ht:W.heap[tb]?=some (.cells cur 41 (0,0))) (hc:cur.size=3) (h1:∀ v∈(#[x,y,z]:Array Value).toList,v.oneCell'=true) :
  (ReflectliteValue.set #[.agg #[.pointer (some ⟨1,41,none⟩),.pointer (some ⟨tb,0,none⟩),.int .u64 409],.agg #[.pointer (some ⟨1,41,none⟩),.pointer (some ⟨b,0,none⟩),.int .u64 153]]).run Tryz.prog W
   = .ok (.tuple #[]) (W.setRow tb #[x,y,z]):=by
 have hl:=Zbc (P:=Tryz.prog) W 41 ⟨b,0,none⟩ #[x,y,z] aggF (agg_cells' hb)
 have hs:=run_storeVar_agg (P:=Tryz.prog) W 41 tb 0 #[x,y,z] cur 41 aggF ht (by rw [hc]; simp) h1
 have e:(cur.toList.take 0++(#[x,y,z]:Array Value).toList++cur.toList.drop (0+(#[x,y,z]:Array Value).size)).toArray=#[x,y,z]:=by
  have:cur.toList.length=3:=by rw [Array.length_toList,hc]
  rw [List.drop_of_length_le (by rw [this]; simp)]
  simp
 rw [e] at hs
 rw [rls]
 simp only [Sem.run_bind,partsFa,partsF,Result.andThen]
 simp [ReflectliteValue.flagAddr,hl,directF,hs,Result.andThen]
theorem noAs (v:Value) (w:World):Sem.run Tryz.prog (Instr.typeAssert (.iface 122 v) 37 191 true) w=.ok (.tuple #[.nilIface,.bool false]) w :=
 run_typeAssert_lacksB Tryz.underlying191 (by kernel_rfl) (by kernel_rfl) v _ w
theorem hasUnwrap (v:Value) (w:World):Sem.run Tryz.prog (Instr.typeAssert (.iface 122 v) 37 185 true) w=.ok (.tuple #[.iface 122 v,.bool true]) w:=by kernel_rfl
end LossFacts
namespace Err
def lossOf:Err->Int × Int × Int
 | no _=>(0,0,0)
 | loss g h n=>(g,h,n)
 | fault _ _ e=>e.lossOf
end Err
def lcells (l:Int × Int × Int):Array Value:=#[.int .i64 l.1,.int .i64 l.2.1,.int .i64 l.2.2]
theorem lcells_one (l:Int × Int × Int):∀ v∈(lcells l).toList,v.oneCell'=true:=by
 intro v hv
 unfold lcells at hv
 simp only [List.mem_cons,List.not_mem_nil,or_false] at hv
 rcases hv with rfl | rfl | rfl<;>rfl
set_option maxRecDepth 100000 in
set_option maxHeartbeats 2000000 in
theorem asl_c (er:Err) (hl:er.lost=true) (tb:Nat) (a:Addr) (cur:Array Value) (w:World) (ht:w.heap[tb]?=some (.cells cur 41 (0,0))) (hc:cur.size=3) (ha:w.cell? a=some (.pointer (some ⟨tb,0,none⟩))) :
  Calls Tryz.prog 83 #[er.val,.iface 89 (.pointer (some ⟨tb,0,none⟩)),.agg #[.pointer (some ⟨1,89,none⟩),.pointer (some a),.int .u64 150],.iface 180 (.agg #[.pointer (some ⟨1,41,none⟩)])] w
   fun e w'=>e=.returned (.bool true)/\w'.heap[tb]?=some (.cells (lcells er.lossOf) 41 (0,0))/\Only (fun k=>k=tb) w w':=by
 have x106:=@run_callFunc_extern Tryz.prog 78 _ ReflectliteType.typeOf Tryz.func78 (by kernel_rfl) (by kernel_rfl) (by kernel_rfl) (by kernel_rfl)
 have x111:=@run_callFunc_extern Tryz.prog 106 _ (ReflectliteValue.method (ReflectliteValue.valueError "reflectlite.Value.Elem" 0) ReflectliteValue.elem) Tryz.func106 (by kernel_rfl) (by kernel_rfl) (by kernel_rfl) (by kernel_rfl)
 have x112:=@run_callFunc_extern Tryz.prog 107 _ ReflectliteValue.set Tryz.func107 (by kernel_rfl) (by kernel_rfl) (by kernel_rfl) (by kernel_rfl)
 have x102:=@run_callFunc_extern Tryz.prog 80 _ (fun args=>ReflectliteValue.unpack (args.getD 0 (.tuple #[]))) Tryz.func80 (by kernel_rfl) (by kernel_rfl) (by kernel_rfl) (by kernel_rfl)
 have x141:=@run_callFunc_extern Tryz.prog 178 _ (ReflectliteType.relation "AssignableTo" ReflectliteType.assignableTo) Tryz.func178 (by kernel_rfl) (by kernel_rfl) (by kernel_rfl) (by kernel_rfl)
 have tF:=LossFacts.typeOfF
 have aF:=LossFacts.assX
 have tL:=LossFacts.typeOfL
 have aL:=LossFacts.assF
 have vL:=LossFacts.valueOfF
 have HT:=hid ht; have HA:=hid ha; have HL:=hid hl
 have htl:=lt_of_block ht
 clear ht ha hl
 go_enter Tryz.func83,Tryz.ntmps83
 go_wp2
 have hbox:(w.alloc (.cells #[.pointer (some ⟨1,89,none⟩),.pointer (some a),.int .u64 150] 149)).heap[w.heap.size]?=some (.cells #[.pointer (some ⟨1,89,none⟩),.pointer (some a),.int .u64 150] 149 (0,0)):=Zad
 have hX0:Ext w (w.alloc (.cells #[.pointer (some ⟨1,89,none⟩),.pointer (some a),.int .u64 150] 149)):=(Ext.refl w).alloc _
 generalize (w.alloc (.cells #[.pointer (some ⟨1,89,none⟩),.pointer (some a),.int .u64 150] 149))=W at *
 go_loopw [0] (fun v wr=>∃ e':Err,v=e'.val/\(e'.lossOf=er.lossOf/\e'.lost=true)/\Ext W wr) (fun v _=>Err.vdepth v)
 case atStart=>exact ⟨er,rfl,⟨rfl,HL.out⟩,Ext.refl _⟩
 case round =>
  obtain ⟨e',rfl,hk,hXr⟩:=hrel
  have hX1:Ext w wr:=Ext.trans hX0 hXr
  have hbox:=hXr.at hbox
  have tb1:=hX1.at HT.out
  have aa1:=hX1.cell HA.out
  have htl1:=lt_of_block tb1
  rcases e' with n | ⟨lg,lh,ln⟩ | ⟨op,at_,e2⟩
  ·
   cases hk.2
  ·
   have hv:(Err.loss lg lh ln).val=.iface 41 (.agg #[.int .i64 lg,.int .i64 lh,.int .i64 ln]):=rfl
   have hk':Hid ((lg,lh,ln)=er.lossOf):=hid hk.1
   have el:=LossFacts.elemV a ⟨tb,0,none⟩ wr aa1
   have st:=LossFacts.setF tb wr.heap.size (.int .i64 lg) (.int .i64 lh) (.int .i64 ln) cur (wr.alloc (.cells #[.int .i64 lg,.int .i64 lh,.int .i64 ln] 41)) Zad
    (by rw [heap_alloc_old _ _ htl1]; exact tb1) hc (lcells_one (lg,lh,ln))
   have HTT:Hid ((wr.alloc (.cells #[.int .i64 lg,.int .i64 lh,.int .i64 ln] 41)).heap[tb]?=some (.cells cur 41 (0,0))):=hid (by rw [heap_alloc_old _ _ htl1]; exact tb1)
   have HBX:=hid hbox
   have HX1:=hid hX1
   clear hk aa1 tF aF hbox tb1 hX1 hX0 hXr
   go_wp2_with (refine Zac rfl 149 _ rfl ⟨w.heap.size,0,none⟩ rfl _ ⟨by kernel_rfl,by kernel_rfl⟩ (agg_cells' HBX.out) ?_)
   go_ret
   refine ⟨rfl,?_,Only.trans (Ext.only (HX1.out.alloc _)) (Zae _ _ _) (fun i _ h=>h)⟩
   rw [<- hk'.out]
   exact setRow_heap _ _ _ _ _ _ HTT.out
  ·
   have hv:(Err.fault op at_ e2).val=.iface 122 (.agg #[.string op,.int .i64 at_,e2.val]):=rfl
   have hk':Hid (e2.lossOf=er.lossOf/\e2.lost=true):=hid hk
   obtain ⟨t2,v2,hq⟩:∃ t v,e2.val=.iface t v:=by cases e2<;>exact ⟨_,_,rfl⟩
   rw [hq] at hv
   have HQ:=hid hq
   have nA:=LossFacts.noAs
   have hU:=LossFacts.hasUnwrap
   clear hk aa1 tL aL vL hq tb1
   go_wp2
   go_roundw
   case rel=>exact ⟨e2,HQ.out.symm,hk'.out,Ext.trans hXr ((Ext.refl wr).alloc _)⟩
   case measure =>
    show Err.vdepth (.iface t2 v2) < Err.vdepth (Err.fault op at_ e2).val
    rw [<- HQ.out,Err.vdepth_val,Err.vdepth_val]; exact Nat.lt_succ_self _
set_option maxRecDepth 100000 in
set_option maxHeartbeats 2000000 in
theorem Asl_c (er:Err) (hl:er.lost=true) (tb:Nat) (cur:Array Value) (w:World) (hg:EtLaid w) (ht:w.heap[tb]?=some (.cells cur 41 (0,0))) (hc:cur.size=3) :
  Calls Tryz.prog 46 #[er.val,.iface 89 (.pointer (some ⟨tb,0,none⟩))] w
   fun e w'=>e=.returned (.bool true)/\w'.heap[tb]?=some (.cells (lcells er.lossOf) 41 (0,0))/\Only (fun k=>k=tb) w w':=by
 obtain ⟨t2,v2,hq⟩:=er.iface
 have HQ:=hid hq
 rw [hq]
 have hgl:=World.block_lt_of_cell? w _ hg
 have x103:=@run_callFunc_extern Tryz.prog 81 _ (ReflectliteValue.methodAny (ReflectliteValue.valueError "reflectlite.Value.Type" 0) (fun t _ _ _=>ReflectliteType.toType t)) Tryz.func81 (by kernel_rfl) (by kernel_rfl) (by kernel_rfl) (by kernel_rfl)
 have x104:=@run_callFunc_extern Tryz.prog 82 _ (ReflectliteValue.method (ReflectliteValue.valueError "reflectlite.Value.IsNil" 0) ReflectliteValue.isNil) Tryz.func82 (by kernel_rfl) (by kernel_rfl) (by kernel_rfl) (by kernel_rfl)
 have x102:=@run_callFunc_extern Tryz.prog 80 _ (fun args=>ReflectliteValue.unpack (args.getD 0 (.tuple #[]))) Tryz.func80 (by kernel_rfl) (by kernel_rfl) (by kernel_rfl) (by kernel_rfl)
 have x127:=@run_callFunc_extern Tryz.prog 166 _ (ReflectliteType.abiMethod fun t=>do pure (.int .u8 (<- Rtype.kind t))) Tryz.func166 (by kernel_rfl) (by kernel_rfl) (by kernel_rfl) (by kernel_rfl)
 have x143:=@run_callFunc_extern Tryz.prog 180 _ (ReflectliteType.method ReflectliteType.elem) Tryz.func180 (by kernel_rfl) (by kernel_rfl) (by kernel_rfl) (by kernel_rfl)
 have x144:=@run_callFunc_extern Tryz.prog 181 _ (ReflectliteType.relation "Implements" ReflectliteType.implements_) Tryz.func181 (by kernel_rfl) (by kernel_rfl) (by kernel_rfl) (by kernel_rfl)
 have vP:=LossFacts.valueOfP
 have tP:=LossFacts.typeP
 have kP:=LossFacts.kindP
 have kE:=LossFacts.kindF
 have eP:=LossFacts.elemP
 have iE:=LossFacts.implF
 have hg1:((w.alloc (.cells #[.pointer (some ⟨tb,0,none⟩)] 89)).alloc (.cells #[.pointer (some ⟨1,89,none⟩),.pointer (some ⟨w.heap.size,0,none⟩),.int .u64 150] 149)).cell? ⟨0,0,none⟩=some (.iface 180 (.agg #[.pointer (some ⟨1,37,none⟩)])):=by
  rw [World.cell?_alloc_lt _ _ ⟨0,0,none⟩ (by simp),World.cell?_alloc_lt _ _ ⟨0,0,none⟩ hgl]; exact hg
 have n8:=LossFacts.isNilP ⟨w.heap.size,0,none⟩ ⟨tb,0,none⟩ ((w.alloc (.cells #[.pointer (some ⟨tb,0,none⟩)] 89)).alloc (.cells #[.pointer (some ⟨1,89,none⟩),.pointer (some ⟨w.heap.size,0,none⟩),.int .u64 150] 149)) (by simp)
 have HT:=hid ht
 clear hq ht
 go_enter Tryz.func46,Tryz.ntmps46
 go_wp2_with (go_at_call 83; fail)
 have hX:=((Ext.refl w).alloc (.cells #[.pointer (some ⟨tb,0,none⟩)] 89)).alloc (.cells #[.pointer (some ⟨1,89,none⟩),.pointer (some ⟨w.heap.size,0,none⟩),.int .u64 150] 149)
 refine Calls.mono (by rw [<- HQ.out]; exact asl_c er hl tb ⟨w.heap.size,0,none⟩ cur _ (Ext.at hX HT.out) hc (by simp)) ?_
 rintro e w' ⟨rfl,hcl,ho⟩
 have HC:=hid hcl; have HO:=hid ho
 clear hcl ho hg1 n8
 go_wp2
 go_ret
 exact ⟨rfl,HC.out,Only.trans (Ext.only hX) HO.out (fun i _ h=>h)⟩
set_option maxRecDepth 100000 in
theorem As_nil (t:Value) (w:World):Calls Tryz.prog 46 #[.nilIface,t] w fun e w'=>e=.returned (.bool false)/\w=w':=by
 go_enter Tryz.func46,Tryz.ntmps46
 go_wp2
 go_ret
 exact ⟨rfl,rfl⟩
open Go Go.RowKit
theorem zero_loss (w:World):Sem.run Tryz.prog (zeroValue 41) w=.ok (.agg (lcells (0,0,0))) w:=by kernel_rfl
theorem built_loss0:Tryz.prog.built 41 []=some (lcells (0,0,0)):=by kernel_rfl
theorem agg_loss (l:Int × Int × Int):AggType Tryz.prog 41 (lcells l).size:=⟨by kernel_rfl,by kernel_rfl⟩
def lostV (l:Int × Int × Int) (b:Bool):Value:=.tuple #[.agg (lcells l),.bool b]
set_option maxRecDepth 100000 in
set_option maxHeartbeats 1000000 in
theorem lost_yes (er:Err) (hl:er.lost=true) (w:World) (hg:EtLaid w):Calls Tryz.prog 15 #[er.val] w fun e w'=>e=.returned (lostV er.lossOf true)/\Ext w w':=by
 have hz:=zero_loss
 obtain ⟨t2,v2,hq⟩:=er.iface
 have HQ:=hid hq
 rw [hq]
 obtain ⟨W0,hW0⟩:∃ W,w.alloc (.cells (lcells (0,0,0)) 41)=W:=⟨_,rfl⟩
 have x0:Ext w W0:=hW0▸(Ext.refl w).alloc _
 have hr0:W0.heap[w.heap.size]?=some (.cells (lcells (0,0,0)) 41 (0,0)):=hW0▸heap_alloc_new _ _
 have hsz0:W0.heap.size=w.heap.size+1:=by rw [<- hW0]; simp
 obtain ⟨W1,hW1⟩:∃ W,W0.alloc (.cells (lcells (0,0,0)) 41)=W:=⟨_,rfl⟩
 have x1:Ext W0 W1:=hW1▸(Ext.refl W0).alloc _
 have hr1:W1.heap[w.heap.size+1]?=some (.cells (lcells (0,0,0)) 41 (0,0)):=by rw [<- hsz0]; exact hW1▸heap_alloc_new _ _
 have HX1:=hid (Ext.trans x0 x1)
 have HR1:=hid (x1.at hr0)
 have HAS:=hid (Asl_c er hl (w.heap.size+1) (lcells (0,0,0)) W1 (hg.only HX1.out (fun x=>x)) hr1 rfl)
 clear hq x0 x1 hr0 hr1 hg hl
 go_enter Tryz.func15,Tryz.ntmps15
 go_wp2_with (go_at_call 46; fail)
 refine Calls.mono (by rw [<- HQ.out]; exact HAS.out) ?_
 rintro e w' ⟨rfl,hcl,ho⟩
 have HC:=hid hcl
 have HO:=hid ho
 have HR:=hid (ho.at HR1.out (by omega))
 clear hcl ho
 go_wp2_with (first
  | (guard_target=wpList _ _ _ (⟨some _,Op.load _ _,_,_,_,none⟩::_) _ _; refine Zac rfl 41 _ rfl ⟨w.heap.size+1,0,none⟩ rfl (lcells er.lossOf) (agg_loss _) (Zaf HC.out) ?_)
  | (guard_target=wpList _ _ _ (⟨none,Op.store _ _ _,_,_,_,none⟩::_) _ _; refine Zaa rfl 41 _ _ rfl w.heap.size rfl (lcells er.lossOf) _ rfl 41 (agg_loss _) HR.out rfl (lcells_one _) ?_))
 refine bodyPost_ret (Zak Tryz.results15 rfl (agg_loss _) (setRow_heap _ _ _ _ _ _ HR.out)) rfl ?_
 exact ⟨rfl,Ext.then (Ext.then HX1.out HO.out (fun i hi e=>by omega)) (Zae _ _ _) (fun i hi=>by omega)⟩
set_option maxRecDepth 100000 in
set_option maxHeartbeats 1000000 in
theorem lost_nil (w:World):Calls Tryz.prog 15 #[.nilIface] w fun e w'=>e=.returned (lostV (0,0,0) false)/\Ext w w':=by
 have hz:=zero_loss
 have hb0:=built_loss0
 obtain ⟨W0,hW0⟩:∃ W,w.alloc (.cells (lcells (0,0,0)) 41)=W:=⟨_,rfl⟩
 have x0:Ext w W0:=hW0▸(Ext.refl w).alloc _
 have hr0:W0.heap[w.heap.size]?=some (.cells (lcells (0,0,0)) 41 (0,0)):=hW0▸heap_alloc_new _ _
 have hsz0:W0.heap.size=w.heap.size+1:=by rw [<- hW0]; simp
 obtain ⟨W1,hW1⟩:∃ W,W0.alloc (.cells (lcells (0,0,0)) 41)=W:=⟨_,rfl⟩
 have x1:Ext W0 W1:=hW1▸(Ext.refl W0).alloc _
 have HX1:=hid (Ext.trans x0 x1)
 have HR:=hid (x1.at hr0)
 clear x0 x1 hr0
 go_enter Tryz.func15,Tryz.ntmps15
 go_wp2_with (first
  | (go_at_call 46; refine (As_nil _ _).mono ?_; rintro e w' ⟨rfl,rfl⟩)
  | (guard_target=wpList _ _ _ (⟨some _,Op.build _ _,_,_,_,none⟩::_) _ _; refine Zaq rfl 41 _ rfl (lcells (0,0,0)) ?_ ?_; exact hb0)
  | (guard_target=wpList _ _ _ (⟨none,Op.store _ _ _,_,_,_,none⟩::_) _ _; refine Zaa rfl 41 _ _ rfl w.heap.size rfl (lcells (0,0,0)) _ rfl 41 (agg_loss _) HR.out rfl (lcells_one _) ?_))
 refine bodyPost_ret (Zak Tryz.results15 rfl (agg_loss _) (setRow_heap _ _ _ _ _ _ HR.out)) rfl ?_
 exact ⟨rfl,Ext.then HX1.out (Zae _ _ _) (fun i hi=>by omega)⟩
theorem loss_stood:Tryz.prog.stoodInHeld 41=false:=by kernel_rfl
theorem loss_list:(Tryz.prog.fieldsOf 41).toList=[fld "Group" 3 0 0,fld "Have" 3 1 8,fld "Need" 3 2 16]:=by unfold Program.fieldsOf; rw [Tryz.underlying41]; rfl
theorem loss_fields:Tryz.prog.underlying 41=some (.struct (Tryz.prog.fieldsOf 41)):=by unfold Program.fieldsOf; rw [Tryz.underlying41]
theorem loss_eqIn (d:Nat) (l:Int × Int × Int) (w:World):(Op.equalIn (d+2) 41 (.agg (lcells l)) (.agg (lcells l))).run Tryz.prog w=.ok true w:=by
 rw [run_equalIn_struct w (d+1) 41 (lcells l) (lcells l) loss_fields loss_stood]
 rw [loss_list]
 have q0:=run_part_plain (P:=Tryz.prog) w plainI (show (lcells l)[0]?=some (.int .i64 l.1) from rfl)
 have q1:=run_part_plain (P:=Tryz.prog) w plainI (show (lcells l)[1]?=some (.int .i64 l.2.1) from rfl)
 have q2:=run_part_plain (P:=Tryz.prog) w plainI (show (lcells l)[2]?=some (.int .i64 l.2.2) from rfl)
 have e:∀ a:Int,(Op.equalIn (d+1) 3 (.int .i64 a) (.int .i64 a)).run Tryz.prog w=.ok true w:=fun a=>by
  rw [run_equalIn_int (P:=Tryz.prog) w d 3 .i64 .i64 a a Tryz.underlying3]; simp
 refine (Za0 (by decide) q0 q0 (e _)).trans ?_
 rw [if_pos rfl]
 refine (Za0 (by decide) q1 q1 (e _)).trans ?_
 rw [if_pos rfl]
 refine (Za0 (by decide) q2 q2 (e _)).trans ?_
 rfl
theorem loss_eqAt (D:Nat) (hD:∃ d,D=d+2) (l:Int × Int × Int) (w:World):(Op.equalIn D 41 (.agg (lcells l)) (.agg (lcells l))).run Tryz.prog w=.ok true w:=by
 obtain ⟨d,rfl⟩:=hD
 exact loss_eqIn d l w
theorem loss_neq (l:Int × Int × Int) (w:World):(binOp .neq 41 (.agg (lcells l)) (.agg (lcells l))).run Tryz.prog w=.ok (.bool false) w:=by
 rw [run_neq_struct]
 rw [loss_eqAt 10000 ⟨9998,by omega⟩ l w]; rfl
theorem loss_guardB:Tryz.prog.eqGuardType Tryz.prog.depth 41=false:=by kernel_rfl
theorem loss_guard (op:BinOp) (x y:Operand) (xs ys:Array Value) (w:World):(eqGuard op 41 x y (.agg xs) (.agg ys)).run Tryz.prog w=.ok () w:=run_eqGuard_agg w op 41 x y xs ys loss_guardB
theorem built_loss3 (a b c:Int):Tryz.prog.built 41 [(0,.int .i64 a),(1,.int .i64 b),(2,.int .i64 c)]=some (lcells (a,b,c)):=by kernel_rfl
end Go.Proofs.YtkipjmbplmdaaaaGreatDoor
