/- Texts of one proof, joined: ErrLoss, LossAs, LostC, JourRack, JourDisk, JourCutPure, JourBad, JourUnionPure, JourRecs, KBlks, SameBlk, JourL, LossEq. -/
import Derived.Test.YtgjnnbomnoafcaaGreatDoorVC
import Derived.Test.YtgjnnbomnoafcaaGreatDoorVA
import Derived.LaidEql
import Derived.Stop.Asserts
import Derived.RowKitTokens
import Derived.Handy
import Derived.Test.YtgjnnbomnoafcaaGreatDoorVB
import Derived.Test.YtgjnnbomnoafcaaGreatDoorVR
import Derived.Test.YtgjnnbomnoafcaaGreatDoorVG
import Derived.Test.YtgjnnbomnoafcaaGreatDoorVQ
import Derived.Test.YtgjnnbomnoafcaaGreatDoorVH
import Derived.Test.YtgjnnbomnoafcaaGreatDoorVO
import Derived.Test.YtgjnnbomnoafcaaGreatDoorVF
set_option linter.unusedVariables false
set_option linter.unusedSimpArgs false
namespace Go.Proofs.YtgjnnbomnoafcaaGreatDoor
set_option linter.unusedVariables false
open Go.RowKit Go.Extern.Stop Go.Stop Go.Extern Go
namespace LossFacts
theorem valueOfP (t:Addr) (w:World):(ReflectliteValue.unpack (.iface 230 (.pointer (some t)))).run Tryz.prog w
  = .ok (.agg #[.pointer (some ⟨1,230,none⟩),.pointer (some ⟨w.heap.size,0,none⟩),.int .u64 150]) (w.alloc (.cells #[.pointer (some t)] 230)):=by kernel_rfl
theorem typeP (a:Addr) (w:World):(ReflectliteValue.methodAny (ReflectliteValue.valueError "reflectlite.Value.Type" 0) (fun t _ _ _=>ReflectliteType.toType t) #[.agg #[.pointer (some ⟨1,230,none⟩),.pointer (some a),.int .u64 150]]).run Tryz.prog w
  = .ok (.iface 288 (.agg #[.pointer (some ⟨1,230,none⟩)])) w:=by kernel_rfl
theorem kindP (w:World):((ReflectliteType.abiMethod fun t=>(fun a:Nat=>Value.int IntKind.u8 (a:Int)) <$> Rtype.kind t) #[.pointer (some ⟨1,230,none⟩)]).run Tryz.prog w=.ok (.int .u8 22) w:=by kernel_rfl
theorem kindF (w:World):((ReflectliteType.abiMethod fun t=>(fun a:Nat=>Value.int IntKind.u8 (a:Int)) <$> Rtype.kind t) #[.pointer (some ⟨1,127,none⟩)]).run Tryz.prog w=.ok (.int .u8 25) w:=by kernel_rfl
theorem elemP (w:World):(ReflectliteType.method ReflectliteType.elem #[.agg #[.pointer (some ⟨1,230,none⟩)]]).run Tryz.prog w=.ok (.iface 288 (.agg #[.pointer (some ⟨1,127,none⟩)])) w:=by kernel_rfl
theorem implF (w:World):(ReflectliteType.relation "Implements" ReflectliteType.implements_ #[.agg #[.pointer (some ⟨1,127,none⟩)],.iface 288 (.agg #[.pointer (some ⟨1,25,none⟩)])]).run Tryz.prog w=.ok (.bool true) w:=by kernel_rfl
theorem assF (w:World):(ReflectliteType.relation "AssignableTo" ReflectliteType.assignableTo #[.agg #[.pointer (some ⟨1,127,none⟩)],.iface 288 (.agg #[.pointer (some ⟨1,127,none⟩)])]).run Tryz.prog w=.ok (.bool true) w:=by kernel_rfl
theorem typeOfF (v:Value) (w:World):(ReflectliteType.typeOf #[.iface 241 v]).run Tryz.prog w=.ok (.iface 288 (.agg #[.pointer (some ⟨1,241,none⟩)])) w:=by kernel_rfl
theorem typeOfL (v:Value) (w:World):(ReflectliteType.typeOf #[.iface 127 v]).run Tryz.prog w=.ok (.iface 288 (.agg #[.pointer (some ⟨1,127,none⟩)])) w:=by kernel_rfl
theorem assX (w:World):(ReflectliteType.relation "AssignableTo" ReflectliteType.assignableTo #[.agg #[.pointer (some ⟨1,241,none⟩)],.iface 288 (.agg #[.pointer (some ⟨1,127,none⟩)])]).run Tryz.prog w=.ok (.bool false) w:=by kernel_rfl
theorem valueOfF (x y z:Value) (w:World):(ReflectliteValue.unpack (.iface 127 (.agg #[x,y,z]))).run Tryz.prog w
  = .ok (.agg #[.pointer (some ⟨1,127,none⟩),.pointer (some ⟨w.heap.size,0,none⟩),.int .u64 153]) (w.alloc (.cells #[x,y,z] 127)):=by kernel_rfl
theorem elemOfP (w:World):(Rtype.elem? 230).run Tryz.prog w=.ok (some 127) w:=by kernel_rfl
theorem mkF (p:Addr) (w:World):(ReflectliteValue.mk 127 p ReflectliteValue.flagAddr).run Tryz.prog w=.ok (.agg #[.pointer (some ⟨1,127,none⟩),.pointer (some p),.int .u64 409]) w:=by kernel_rfl
theorem partsP (a:Addr) (w:World):(ReflectliteValue.parts (.agg #[.pointer (some ⟨1,230,none⟩),.pointer (some a),.int .u64 150])).run Tryz.prog w=.ok (some (230,a,150)) w:=by kernel_rfl
theorem partsFa (a:Addr) (w:World):(ReflectliteValue.parts (.agg #[.pointer (some ⟨1,127,none⟩),.pointer (some a),.int .u64 409])).run Tryz.prog w=.ok (some (127,a,409)) w:=by kernel_rfl
theorem partsF (a:Addr) (w:World):(ReflectliteValue.parts (.agg #[.pointer (some ⟨1,127,none⟩),.pointer (some a),.int .u64 153])).run Tryz.prog w=.ok (some (127,a,153)) w:=by kernel_rfl
theorem directF (w:World):(Rtype.directlyAssignable 127 127).run Tryz.prog w=.ok true w:=by kernel_rfl
theorem rlm (z:Sem Value) (f:TypeId->Addr->Nat->Nat->Sem Value) (v:Value) :
  ReflectliteValue.method z f #[v]=(do match <- ReflectliteValue.parts v with | none=>z | some (t,a,fl)=>f t a fl (fl % 32)):=rfl
theorem rls (v x:Value):ReflectliteValue.set #[v,x]=(do
  let (some (dst,a,fl),some (src,b,_)):=(<- ReflectliteValue.parts v,<- ReflectliteValue.parts x)
   | unsupported (.noEntry "extern/(internal/reflectlite.Value).Set.zeroValue")
  if fl / ReflectliteValue.flagAddr % 2 == 0 then unsupported (.noEntry "extern/(internal/reflectlite.Value).Set.unaddressable")
  let val <- loadVar src b
  if <- Rtype.directlyAssignable dst src then storeVar dst a val
  else if <- Rtype.implements dst src then
   if (<- Rtype.kind src) == 20 then
    match val with
    | .nilIface=>unsupported (.noEntry "extern/reflectlite: a nil value of one interface type handed on as a value of another")
    | _=>storeVar dst a val
   else storeVar dst a (.iface src val)
  else panicString ("reflectlite.Set: value of type "++(<- Rtype.spelt src)++" is not assignable to type "++(<- Rtype.spelt dst))
  pure (.tuple #[])):=rfl
theorem isNilP (a p:Addr) (W:World) (ha:W.cell? a=some (.pointer (some p))) :
  (ReflectliteValue.method (ReflectliteValue.valueError "reflectlite.Value.IsNil" 0) ReflectliteValue.isNil #[.agg #[.pointer (some ⟨1,230,none⟩),.pointer (some a),.int .u64 150]]).run Tryz.prog W=.ok (.bool false) W:=by
 rw [rlm]
 simp only [Sem.run_bind,partsP,Result.andThen]
 simp [ReflectliteValue.isNil,loadVar,isAgg,underlying,Tryz.underlying230,ha,Result.andThen]
theorem elemV (a p:Addr) (W:World) (ha:W.cell? a=some (.pointer (some p))) :
  (ReflectliteValue.method (ReflectliteValue.valueError "reflectlite.Value.Elem" 0) ReflectliteValue.elem #[.agg #[.pointer (some ⟨1,230,none⟩),.pointer (some a),.int .u64 150]]).run Tryz.prog W
   = .ok (.agg #[.pointer (some ⟨1,127,none⟩),.pointer (some p),.int .u64 409]) W:=by
 rw [rlm]
 simp only [Sem.run_bind,partsP,Result.andThen]
 simp [ReflectliteValue.elem,loadVar,isAgg,underlying,Tryz.underlying230,ha,Result.andThen,elemOfP,mkF]
theorem aggF:AggType Tryz.prog 127 3:=⟨by kernel_rfl,by kernel_rfl⟩
theorem setF (tb b:Nat) (x y z:Value) (cur:Array Value) (W:World) (hb:W.heap[b]?=some (.cells #[x,y,z] 127 (0,0))) (ht:W.heap[tb]?=some (.cells cur 127 (0,0))) (hc:cur.size=3) (h1:∀ v∈(#[x,y,z]:Array Value).toList,v.oneCell'=true) :
  (ReflectliteValue.set #[.agg #[.pointer (some ⟨1,127,none⟩),.pointer (some ⟨tb,0,none⟩),.int .u64 409],.agg #[.pointer (some ⟨1,127,none⟩),.pointer (some ⟨b,0,none⟩),.int .u64 153]]).run Tryz.prog W
   = .ok (.tuple #[]) (W.setRow tb #[x,y,z]):=by
 have hl:=Zbc (P:=Tryz.prog) W 127 ⟨b,0,none⟩ #[x,y,z] aggF (agg_cells' hb)
 have hs:=run_storeVar_agg (P:=Tryz.prog) W 127 tb 0 #[x,y,z] cur 127 aggF ht (by rw [hc]; simp) h1
 have e:(cur.toList.take 0++(#[x,y,z]:Array Value).toList++cur.toList.drop (0+(#[x,y,z]:Array Value).size)).toArray=#[x,y,z]:=by
  have:cur.toList.length=3:=by rw [Array.length_toList,hc]
  rw [List.drop_of_length_le (by rw [this]; simp)]
  simp
 rw [e] at hs
 rw [rls]
 simp only [Sem.run_bind,partsFa,partsF,Result.andThen]
 simp [ReflectliteValue.flagAddr,hl,directF,hs,Result.andThen]
theorem noAs (v:Value) (w:World):Sem.run Tryz.prog (Instr.typeAssert (.iface 241 v) 25 292 true) w=.ok (.tuple #[.nilIface,.bool false]) w :=
 run_typeAssert_lacksB Tryz.underlying292 (by kernel_rfl) (by kernel_rfl) v _ w
theorem hasUnwrap (v:Value) (w:World):Sem.run Tryz.prog (Instr.typeAssert (.iface 241 v) 25 295 true) w=.ok (.tuple #[.iface 241 v,.bool true]) w:=by kernel_rfl
end LossFacts
namespace Err
def lossOf:Err->Int × Int × Int
 | no _=>(0,0,0)
 | loss g h n=>(g,h,n)
 | fault _ _ e=>e.lossOf
end Err
def lcells (l:Int × Int × Int):Array Value:=#[.int .i64 l.1,.int .i64 l.2.1,.int .i64 l.2.2]
theorem lcells_one (l:Int × Int × Int):∀ v∈(lcells l).toList,v.oneCell'=true:=by
 intro v hv
 unfold lcells at hv
 simp only [List.mem_cons,List.not_mem_nil,or_false] at hv
 rcases hv with rfl | rfl | rfl<;>rfl
set_option maxRecDepth 100000 in
set_option maxHeartbeats 2000000 in
theorem asl_c (er:Err) (hl:er.lost=true) (tb:Nat) (a:Addr) (cur:Array Value) (w:World) (ht:w.heap[tb]?=some (.cells cur 127 (0,0))) (hc:cur.size=3) (ha:w.cell? a=some (.pointer (some ⟨tb,0,none⟩))) :
  Calls Tryz.prog 169 #[er.val,.iface 230 (.pointer (some ⟨tb,0,none⟩)),.agg #[.pointer (some ⟨1,230,none⟩),.pointer (some a),.int .u64 150],.iface 288 (.agg #[.pointer (some ⟨1,127,none⟩)])] w
   fun e w'=>e=.returned (.bool true)/\w'.heap[tb]?=some (.cells (lcells er.lossOf) 127 (0,0))/\Only (fun k=>k=tb) w w':=by
 have x106:=@run_callFunc_extern Tryz.prog 170 _ ReflectliteType.typeOf Tryz.func170 (by kernel_rfl) (by kernel_rfl) (by kernel_rfl) (by kernel_rfl)
 have x111:=@run_callFunc_extern Tryz.prog 203 _ (ReflectliteValue.method (ReflectliteValue.valueError "reflectlite.Value.Elem" 0) ReflectliteValue.elem) Tryz.func203 (by kernel_rfl) (by kernel_rfl) (by kernel_rfl) (by kernel_rfl)
 have x112:=@run_callFunc_extern Tryz.prog 204 _ ReflectliteValue.set Tryz.func204 (by kernel_rfl) (by kernel_rfl) (by kernel_rfl) (by kernel_rfl)
 have x102:=@run_callFunc_extern Tryz.prog 166 _ (fun args=>ReflectliteValue.unpack (args.getD 0 (.tuple #[]))) Tryz.func166 (by kernel_rfl) (by kernel_rfl) (by kernel_rfl) (by kernel_rfl)
 have x141:=@run_callFunc_extern Tryz.prog 261 _ (ReflectliteType.relation "AssignableTo" ReflectliteType.assignableTo) Tryz.func261 (by kernel_rfl) (by kernel_rfl) (by kernel_rfl) (by kernel_rfl)
 have tF:=LossFacts.typeOfF
 have aF:=LossFacts.assX
 have tL:=LossFacts.typeOfL
 have aL:=LossFacts.assF
 have vL:=LossFacts.valueOfF
 have HT:=hid ht; have HA:=hid ha; have HL:=hid hl
 have htl:=lt_of_block ht
 clear ht ha hl
 go_enter Tryz.func169,Tryz.ntmps169
 go_wp2
 have hbox:(w.alloc (.cells #[.pointer (some ⟨1,230,none⟩),.pointer (some a),.int .u64 150] 247)).heap[w.heap.size]?=some (.cells #[.pointer (some ⟨1,230,none⟩),.pointer (some a),.int .u64 150] 247 (0,0)):=Zad
 have hX0:Ext w (w.alloc (.cells #[.pointer (some ⟨1,230,none⟩),.pointer (some a),.int .u64 150] 247)):=(Ext.refl w).alloc _
 generalize (w.alloc (.cells #[.pointer (some ⟨1,230,none⟩),.pointer (some a),.int .u64 150] 247))=W at *
 go_loopw [0] (fun v wr=>∃ e':Err,v=e'.val/\(e'.lossOf=er.lossOf/\e'.lost=true)/\Ext W wr) (fun v _=>Err.vdepth v)
 case atStart=>exact ⟨er,rfl,⟨rfl,HL.out⟩,Ext.refl _⟩
 case round =>
  obtain ⟨e',rfl,hk,hXr⟩:=hrel
  have hX1:Ext w wr:=Ext.trans hX0 hXr
  have hbox:=hXr.at hbox
  have tb1:=hX1.at HT.out
  have aa1:=hX1.cell HA.out
  have htl1:=lt_of_block tb1
  rcases e' with n | ⟨lg,lh,ln⟩ | ⟨op,at_,e2⟩
  ·
   cases hk.2
  ·
   have hv:(Err.loss lg lh ln).val=.iface 127 (.agg #[.int .i64 lg,.int .i64 lh,.int .i64 ln]):=rfl
   have hk':Hid ((lg,lh,ln)=er.lossOf):=hid hk.1
   have el:=LossFacts.elemV a ⟨tb,0,none⟩ wr aa1
   have st:=LossFacts.setF tb wr.heap.size (.int .i64 lg) (.int .i64 lh) (.int .i64 ln) cur (wr.alloc (.cells #[.int .i64 lg,.int .i64 lh,.int .i64 ln] 127)) Zad
    (by rw [heap_alloc_old _ _ htl1]; exact tb1) hc (lcells_one (lg,lh,ln))
   have HTT:Hid ((wr.alloc (.cells #[.int .i64 lg,.int .i64 lh,.int .i64 ln] 127)).heap[tb]?=some (.cells cur 127 (0,0))):=hid (by rw [heap_alloc_old _ _ htl1]; exact tb1)
   have HBX:=hid hbox
   have HX1:=hid hX1
   clear hk aa1 tF aF hbox tb1 hX1 hX0 hXr
   go_wp2_with (refine Zae rfl 247 _ rfl ⟨w.heap.size,0,none⟩ rfl _ ⟨by kernel_rfl,by kernel_rfl⟩ (agg_cells' HBX.out) ?_)
   go_ret
   refine ⟨rfl,?_,Only.trans (Ext.only (HX1.out.alloc _)) (Zah _ _ _) (fun i _ h=>h)⟩
   rw [<- hk'.out]
   exact setRow_heap _ _ _ _ _ _ HTT.out
  ·
   have hv:(Err.fault op at_ e2).val=.iface 241 (.agg #[.string op,.int .i64 at_,e2.val]):=rfl
   have hk':Hid (e2.lossOf=er.lossOf/\e2.lost=true):=hid hk
   obtain ⟨t2,v2,hq⟩:∃ t v,e2.val=.iface t v:=by cases e2<;>exact ⟨_,_,rfl⟩
   rw [hq] at hv
   have HQ:=hid hq
   have nA:=LossFacts.noAs
   have hU:=LossFacts.hasUnwrap
   clear hk aa1 tL aL vL hq tb1
   go_wp2
   go_roundw
   case rel=>exact ⟨e2,HQ.out.symm,hk'.out,Ext.trans hXr ((Ext.refl wr).alloc _)⟩
   case measure =>
    show Err.vdepth (.iface t2 v2) < Err.vdepth (Err.fault op at_ e2).val
    rw [<- HQ.out,Err.vdepth_val,Err.vdepth_val]; exact Nat.lt_succ_self _
set_option maxRecDepth 100000 in
set_option maxHeartbeats 2000000 in
theorem Asl_c (er:Err) (hl:er.lost=true) (tb:Nat) (cur:Array Value) (w:World) (hg:EtLaid w) (ht:w.heap[tb]?=some (.cells cur 127 (0,0))) (hc:cur.size=3) :
  Calls Tryz.prog 100 #[er.val,.iface 230 (.pointer (some ⟨tb,0,none⟩))] w
   fun e w'=>e=.returned (.bool true)/\w'.heap[tb]?=some (.cells (lcells er.lossOf) 127 (0,0))/\Only (fun k=>k=tb) w w':=by
 obtain ⟨t2,v2,hq⟩:=er.iface
 have HQ:=hid hq
 rw [hq]
 have hgl:=World.block_lt_of_cell? w _ hg
 have x103:=@run_callFunc_extern Tryz.prog 167 _ (ReflectliteValue.methodAny (ReflectliteValue.valueError "reflectlite.Value.Type" 0) (fun t _ _ _=>ReflectliteType.toType t)) Tryz.func167 (by kernel_rfl) (by kernel_rfl) (by kernel_rfl) (by kernel_rfl)
 have x104:=@run_callFunc_extern Tryz.prog 168 _ (ReflectliteValue.method (ReflectliteValue.valueError "reflectlite.Value.IsNil" 0) ReflectliteValue.isNil) Tryz.func168 (by kernel_rfl) (by kernel_rfl) (by kernel_rfl) (by kernel_rfl)
 have x102:=@run_callFunc_extern Tryz.prog 166 _ (fun args=>ReflectliteValue.unpack (args.getD 0 (.tuple #[]))) Tryz.func166 (by kernel_rfl) (by kernel_rfl) (by kernel_rfl) (by kernel_rfl)
 have x127:=@run_callFunc_extern Tryz.prog 247 _ (ReflectliteType.abiMethod fun t=>do pure (.int .u8 (<- Rtype.kind t))) Tryz.func247 (by kernel_rfl) (by kernel_rfl) (by kernel_rfl) (by kernel_rfl)
 have x143:=@run_callFunc_extern Tryz.prog 263 _ (ReflectliteType.method ReflectliteType.elem) Tryz.func263 (by kernel_rfl) (by kernel_rfl) (by kernel_rfl) (by kernel_rfl)
 have x144:=@run_callFunc_extern Tryz.prog 264 _ (ReflectliteType.relation "Implements" ReflectliteType.implements_) Tryz.func264 (by kernel_rfl) (by kernel_rfl) (by kernel_rfl) (by kernel_rfl)
 have vP:=LossFacts.valueOfP
 have tP:=LossFacts.typeP
 have kP:=LossFacts.kindP
 have kE:=LossFacts.kindF
 have eP:=LossFacts.elemP
 have iE:=LossFacts.implF
 have hg1:((w.alloc (.cells #[.pointer (some ⟨tb,0,none⟩)] 230)).alloc (.cells #[.pointer (some ⟨1,230,none⟩),.pointer (some ⟨w.heap.size,0,none⟩),.int .u64 150] 247)).cell? ⟨0,0,none⟩=some (.iface 288 (.agg #[.pointer (some ⟨1,25,none⟩)])):=by
  rw [World.cell?_alloc_lt _ _ ⟨0,0,none⟩ (by simp),World.cell?_alloc_lt _ _ ⟨0,0,none⟩ hgl]; exact hg
 have n8:=LossFacts.isNilP ⟨w.heap.size,0,none⟩ ⟨tb,0,none⟩ ((w.alloc (.cells #[.pointer (some ⟨tb,0,none⟩)] 230)).alloc (.cells #[.pointer (some ⟨1,230,none⟩),.pointer (some ⟨w.heap.size,0,none⟩),.int .u64 150] 247)) (by simp)
 have HT:=hid ht
 clear hq ht
 go_enter Tryz.func100,Tryz.ntmps100
 go_wp2_with (go_at_call 169; fail)
 have hX:=((Ext.refl w).alloc (.cells #[.pointer (some ⟨tb,0,none⟩)] 230)).alloc (.cells #[.pointer (some ⟨1,230,none⟩),.pointer (some ⟨w.heap.size,0,none⟩),.int .u64 150] 247)
 refine Calls.mono (by rw [<- HQ.out]; exact asl_c er hl tb ⟨w.heap.size,0,none⟩ cur _ (Ext.at hX HT.out) hc (by simp)) ?_
 rintro e w' ⟨rfl,hcl,ho⟩
 have HC:=hid hcl; have HO:=hid ho
 clear hcl ho hg1 n8
 go_wp2
 go_ret
 exact ⟨rfl,HC.out,Only.trans (Ext.only hX) HO.out (fun i _ h=>h)⟩
set_option maxRecDepth 100000 in
theorem As_nil (t:Value) (w:World):Calls Tryz.prog 100 #[.nilIface,t] w fun e w'=>e=.returned (.bool false)/\w=w':=by
 go_enter Tryz.func100,Tryz.ntmps100
 go_wp2
 go_ret
 exact ⟨rfl,rfl⟩
open Go Go.RowKit
theorem zero_loss (w:World):Sem.run Tryz.prog (zeroValue 127) w=.ok (.agg (lcells (0,0,0))) w:=by kernel_rfl
theorem built_loss0:Tryz.prog.built 127 []=some (lcells (0,0,0)):=by kernel_rfl
theorem Zcq (l:Int × Int × Int):AggType Tryz.prog 127 (lcells l).size:=⟨by kernel_rfl,by kernel_rfl⟩
def lostV (l:Int × Int × Int) (b:Bool):Value:=.tuple #[.agg (lcells l),.bool b]
set_option maxRecDepth 100000 in
set_option maxHeartbeats 1000000 in
theorem lost_yes (er:Err) (hl:er.lost=true) (w:World) (hg:EtLaid w):Calls Tryz.prog 71 #[er.val] w fun e w'=>e=.returned (lostV er.lossOf true)/\Ext w w':=by
 have hz:=zero_loss
 obtain ⟨t2,v2,hq⟩:=er.iface
 have HQ:=hid hq
 rw [hq]
 obtain ⟨W0,hW0⟩:∃ W,w.alloc (.cells (lcells (0,0,0)) 127)=W:=⟨_,rfl⟩
 have x0:Ext w W0:=hW0▸(Ext.refl w).alloc _
 have hr0:W0.heap[w.heap.size]?=some (.cells (lcells (0,0,0)) 127 (0,0)):=hW0▸heap_alloc_new _ _
 have hsz0:W0.heap.size=w.heap.size+1:=by rw [<- hW0]; simp
 obtain ⟨W1,hW1⟩:∃ W,W0.alloc (.cells (lcells (0,0,0)) 127)=W:=⟨_,rfl⟩
 have x1:Ext W0 W1:=hW1▸(Ext.refl W0).alloc _
 have hr1:W1.heap[w.heap.size+1]?=some (.cells (lcells (0,0,0)) 127 (0,0)):=by rw [<- hsz0]; exact hW1▸heap_alloc_new _ _
 have HX1:=hid (Ext.trans x0 x1)
 have HR1:=hid (x1.at hr0)
 have HAS:=hid (Asl_c er hl (w.heap.size+1) (lcells (0,0,0)) W1 (hg.only HX1.out (fun x=>x)) hr1 rfl)
 clear hq x0 x1 hr0 hr1 hg hl
 go_enter Tryz.func71,Tryz.ntmps71
 go_wp2_with (go_at_call 100; fail)
 refine Calls.mono (by rw [<- HQ.out]; exact HAS.out) ?_
 rintro e w' ⟨rfl,hcl,ho⟩
 have HC:=hid hcl
 have HO:=hid ho
 have HR:=hid (ho.at HR1.out (by omega))
 clear hcl ho
 go_wp2_with (first
  | (guard_target=wpList _ _ _ (⟨some _,Op.load _ _,_,_,_,none⟩::_) _ _; refine Zae rfl 127 _ rfl ⟨w.heap.size+1,0,none⟩ rfl (lcells er.lossOf) (Zcq _) (Zaj HC.out) ?_)
  | (guard_target=wpList _ _ _ (⟨none,Op.store _ _ _,_,_,_,none⟩::_) _ _; refine Zab rfl 127 _ _ rfl w.heap.size rfl (lcells er.lossOf) _ rfl 127 (Zcq _) HR.out rfl (lcells_one _) ?_))
 refine bodyPost_ret (Zak Tryz.results71 rfl (Zcq _) (setRow_heap _ _ _ _ _ _ HR.out)) rfl ?_
 exact ⟨rfl,Ext.then (Ext.then HX1.out HO.out (fun i hi e=>by omega)) (Zah _ _ _) (fun i hi=>by omega)⟩
set_option maxRecDepth 100000 in
set_option maxHeartbeats 1000000 in
theorem lost_nil (w:World):Calls Tryz.prog 71 #[.nilIface] w fun e w'=>e=.returned (lostV (0,0,0) false)/\Ext w w':=by
 have hz:=zero_loss
 have hb0:=built_loss0
 obtain ⟨W0,hW0⟩:∃ W,w.alloc (.cells (lcells (0,0,0)) 127)=W:=⟨_,rfl⟩
 have x0:Ext w W0:=hW0▸(Ext.refl w).alloc _
 have hr0:W0.heap[w.heap.size]?=some (.cells (lcells (0,0,0)) 127 (0,0)):=hW0▸heap_alloc_new _ _
 have hsz0:W0.heap.size=w.heap.size+1:=by rw [<- hW0]; simp
 obtain ⟨W1,hW1⟩:∃ W,W0.alloc (.cells (lcells (0,0,0)) 127)=W:=⟨_,rfl⟩
 have x1:Ext W0 W1:=hW1▸(Ext.refl W0).alloc _
 have HX1:=hid (Ext.trans x0 x1)
 have HR:=hid (x1.at hr0)
 clear x0 x1 hr0
 go_enter Tryz.func71,Tryz.ntmps71
 go_wp2_with (first
  | (go_at_call 100; refine (As_nil _ _).mono ?_; rintro e w' ⟨rfl,rfl⟩)
  | (guard_target=wpList _ _ _ (⟨some _,Op.build _ _,_,_,_,none⟩::_) _ _; refine Zav rfl 127 _ rfl (lcells (0,0,0)) ?_ ?_; exact hb0)
  | (guard_target=wpList _ _ _ (⟨none,Op.store _ _ _,_,_,_,none⟩::_) _ _; refine Zab rfl 127 _ _ rfl w.heap.size rfl (lcells (0,0,0)) _ rfl 127 (Zcq _) HR.out rfl (lcells_one _) ?_))
 refine bodyPost_ret (Zak Tryz.results71 rfl (Zcq _) (setRow_heap _ _ _ _ _ _ HR.out)) rfl ?_
 exact ⟨rfl,Ext.then HX1.out (Zah _ _ _) (fun i hi=>by omega)⟩
structure Rcd.Fit (x:Rcd) (c:Cfg) (slot:Nat):Prop where
 ok:x.Ok
 st0:0<=x.stripe
 st1:x.stripe < c.stripes
 seq0:0<=x.seq
 seq1:x.seq<=1152921504606846976
 ring:x.seq=0\/(2<=x.seq/\x.seq % c.slots=slot)
namespace Rcd.Fit
variable {x:Rcd} {c:Cfg} {slot:Nat}
end Rcd.Fit
def jsecN (c:Cfg) (slot i:Nat):Nat:=1+slot*c.k.toNat+i
namespace Dsk
def jg (D:Dsk) (c:Cfg) (slot i:Nat):Option Frm :=
 if D.dead then none else (Frm.get (D.read (jsecN c slot i))).bind fun f=>if f.kind=2/\f.slot=i/\¬(c.stripes<=f.stripe\/f.gen=1\/(1 < f.gen/\f.gen % c.slots≠slot)) then some f else none
end Dsk
structure Pow (R:Rck) (n m:Nat) (F:Int):Prop where
 len:R.l.length=n
 secs:∀ j:Nat,j < n->(R.dsk j).l.length=m
 alive:∀ j:Nat,j < n->(R.dsk j).dead=false
 off:R.off=false
 fuse:R.fuse=F
 pos:1<=n
def burn (F:Int) (c:Nat):Int:=if 0<=F then F - c else F
theorem burn_zero (F:Int):burn F 0=F:=by unfold burn; split<;>simp
theorem burn_add (F:Int) (a b:Nat) (h:F < 0\/(a:Int)<=F):burn (burn F a) b=burn F (a+b):=by
 unfold burn
 rcases h with h | h
 ·
  rw [if_neg (by omega),if_neg (by omega),if_neg (by omega)]
 ·
  rw [if_pos (by omega),if_pos (by omega),if_pos (by omega)]; omega
theorem Pow.live {R:Rck} {n m:Nat} (h:Pow R n m (-1)):Live R n m:=⟨h.len,h.secs,h.off,h.fuse,h.pos⟩
theorem Pow.of {R:Rck} {n m:Nat} (h:Live R n m) (ha:∀ j:Nat,j < n->(R.dsk j).dead=false):Pow R n m (-1):=⟨h.len,h.secs,ha,h.off,h.fuse,h.pos⟩
theorem Rck.dsk_setD (R:Rck) {n:Nat} (hn:R.l.length=n) {i:Nat} (hi:i < n) (D:Dsk) (j:Nat):(R.setD i D).dsk j=if j=i then D else R.dsk j:=by
 unfold Rck.setD Rck.dsk
 by_cases e:j=i
 ·
  subst e; simp [List.getD_eq_getElem?_getD,hn,hi]
 ·
  simp [List.getD_eq_getElem?_getD,List.getElem?_set_ne (Ne.symm e),e]
def Does (n m:Nat) (f:Rck->Option Err × Rck) (c:Nat) (g:Nat->Dsk->Dsk):Prop :=
 ∀ R F,Pow R n m F->((F < 0\/(c:Int)<=F)->∃ R',f R=(none,R')/\Pow R' n m (burn F c)/\∀ d:Nat,d < n->R'.dsk d=g d (R.dsk d))/\(0<=F->F < c->∃ e R',f R=(some e,R'))
theorem Does.congr {n m c c':Nat} {f:Rck->Option Err × Rck} {g g':Nat->Dsk->Dsk} (h:Does n m f c g) (hc:c=c') (hg:∀ d D,d < n->g d D=g' d D):Does n m f c' g':=by
 subst hc
 intro R F hR
 refine ⟨fun hF=>?_,(h R F hR).2⟩
 obtain ⟨R',h1,h2,h3⟩:=(h R F hR).1 hF
 exact ⟨R',h1,h2,fun d hd=>by rw [h3 d hd,hg d _ hd]⟩
theorem Does.each {α:Type} {n m c:Nat} {f:Rck->α->Option Err × Rck} {g:α->Nat->Dsk->Dsk}:∀ (l:List α),(∀ i∈l,Does n m (fun R=>f R i) c (g i))->Does n m (each f l) (c*l.length) fun d D=>l.foldl (fun D i=>g i d D) D
 | [],_=>fun R F hR=>⟨fun _=>⟨R,rfl,by simpa [burn_zero] using hR,fun _ _=>rfl⟩,fun h0 h1=>by simp at h1; omega⟩
 | i::l,h=>fun R F hR=>by
  have hi:=h i List.mem_cons_self R F hR
  have hl:=Does.each l fun j hj=>h j (List.mem_cons_of_mem _ hj)
  have ec:c*(i::l).length=c+c*l.length:=by rw [List.length_cons,Nat.mul_succ,Nat.add_comm]
  rw [ec]
  refine ⟨fun hF=>?_,fun h0 h1=>?_⟩
  ·
   obtain ⟨R1,a1,a2,a3⟩:=hi.1 (by omega)
   obtain ⟨R2,b1,b2,b3⟩:=(hl R1 _ a2).1 (by unfold burn; split<;>omega)
   refine ⟨R2,by rw [each_ok a1,b1],by rw [burn_add F _ _ (by omega)] at b2; exact b2,fun d hd=>?_⟩
   rw [b3 d hd,a3 d hd]; rfl
  ·
   by_cases hc:(c:Int)<=F
   ·
    obtain ⟨R1,a1,a2,a3⟩:=hi.1 (.inr hc)
    obtain ⟨e,R2,b1⟩:=(hl R1 _ a2).2 (by unfold burn; rw [if_pos h0]; omega) (by unfold burn; rw [if_pos h0]; omega)
    exact ⟨e,R2,by rw [each_ok a1,b1]⟩
   ·
    obtain ⟨e,R1,a1⟩:=hi.2 h0 (by omega)
    exact ⟨e,R1,each_err a1⟩
theorem Pow.up {R:Rck} {n m:Nat} {F:Int} (h:Pow R n m F) {i:Nat} (hi:i < n):R.up (i:Int)=true/\R.has (i:Int)=true:=by
 have:R.has (i:Int)=true:=by unfold Rck.has; rw [h.len]; simp; omega
 refine ⟨?_,this⟩
 unfold Rck.up; rw [this,h.alive i hi]; rfl
theorem Pow.online {R:Rck} {n m:Nat} {F:Int} (h:Pow R n m F):R.online=List.range n:=by
 unfold Rck.online
 rw [h.len,List.filter_eq_self]
 intro i hi
 exact (h.up (List.mem_range.1 hi)).1
theorem Pow.may {R:Rck} {n m:Nat} {F:Int} (h:Pow R n m F) {i:Nat} (hi:i < n):((F < 0\/1<=F)->R.may i false=0/\R.asked i false={ R with fuse:=burn F 1 })/\(F=0->R.may i false=5/\R.asked i false={ R with off:=true }):=by
 obtain ⟨h1,h2⟩:=h.up hi
 unfold Rck.may Rck.asked
 rw [h1,h2,h.off]
 simp only [Bool.false_or,Bool.not_true,Bool.true_eq_false,if_false,Bool.false_eq_true,h.fuse]
 refine ⟨fun hF=>?_,fun hF=>?_⟩
 ·
  rw [if_neg (by omega),if_neg (by omega)]
  refine ⟨rfl,?_⟩
  unfold burn
  by_cases h0:0 < F
  ·
   rw [if_pos h0,if_pos (by omega)]; rfl
  ·
   rw [if_neg h0,if_neg (by omega)]
   rw [<- h.fuse,<- h.off]
 ·
  rw [if_pos hF,if_pos hF]; exact ⟨rfl,rfl⟩
theorem Pow.set {R:Rck} {n m:Nat} {F G:Int} (h:Pow R n m F) {i:Nat} (hi:i < n) (D:Dsk) (h1:D.l.length=m) (h2:D.dead=false) :
  Pow (({ R with fuse:=G }:Rck).setD i D) n m G/\∀ j:Nat,(({ R with fuse:=G }:Rck).setD i D).dsk j=if j=i then D else R.dsk j:=by
 have hd:∀ j:Nat,(({ R with fuse:=G }:Rck).setD i D).dsk j=if j=i then D else R.dsk j:=fun j=>Rck.dsk_setD ({ R with fuse:=G }:Rck) (n:=n) h.len hi D j
 refine ⟨⟨by simp [Rck.setD,h.len],fun j hj=>?_,fun j hj=>?_,h.off,rfl,h.pos⟩,hd⟩
 ·
  rw [hd j]; split
  ·
   exact h1
  ·
   exact h.secs j hj
 ·
  rw [hd j]; split
  ·
   exact h2
  ·
   exact h.alive j hj
theorem Does.write {n m i s:Nat} {b:List Nat} (hi:i < n) (hs:s < m) (hb:b.length=128):Does n m (fun R=>R.write i s b) 1 fun d D=>if d=i then D.write s b else D:=by
 intro R F h
 have hsec:(R.dsk 0).l.length=m:=h.secs 0 h.pos
 have hw:R.badW s b=false:=by unfold Rck.badW Rck.sectors; rw [hsec,hb]; simp; omega
 obtain ⟨m1,m2⟩:=h.may hi
 refine ⟨fun hF=>?_,fun h0 h1=>?_⟩
 ·
  obtain ⟨e1,e2⟩:=m1 (by omega)
  obtain ⟨p1,p2⟩:=h.set (G:=burn F 1) hi ((R.dsk i).write s b) (h.secs i hi) (h.alive i hi)
  refine ⟨_,?_,p1,fun d _=>?_⟩
  ·
   show R.write i s b=_
   unfold Rck.write
   rw [hw,if_pos e1,e2]; rfl
  ·
   rw [p2 d]
   by_cases e:d=i
   ·
    subst e; simp
   ·
    simp [e]
 ·
  obtain ⟨e1,e2⟩:=m2 (by omega)
  refine ⟨.fault sRackWrite i (.no 5),{ R with off:=true },?_⟩
  ·
   show R.write i s b=_
   unfold Rck.write
   rw [hw,e1,e2,if_neg (by decide)]
theorem Does.flush {n m i:Nat} (hi:i < n):Does n m (fun R=>R.flush i) 1 fun d D=>if d=i then D.flush else D:=by
 intro R F h
 obtain ⟨m1,m2⟩:=h.may hi
 refine ⟨fun hF=>?_,fun h0 h1=>?_⟩
 ·
  obtain ⟨e1,e2⟩:=m1 (by omega)
  obtain ⟨p1,p2⟩:=h.set (G:=burn F 1) hi (R.dsk i).flush (by rw [Dsk.flush_len]; exact h.secs i hi) (h.alive i hi)
  refine ⟨_,?_,p1,fun d _=>?_⟩
  ·
   show R.flush i=_
   unfold Rck.flush
   rw [if_pos e1,e2]
  ·
   rw [p2 d]
   by_cases e:d=i
   ·
    subst e; simp
   ·
    simp [e]
 ·
  obtain ⟨e1,e2⟩:=m2 (by omega)
  refine ⟨.fault sRackFlush i (.no 5),{ R with off:=true },?_⟩
  show R.flush i=_
  unfold Rck.flush
  rw [e1,e2,if_neg (by decide)]
namespace Dsk
end Dsk
theorem foldl_pick (f:Dsk->Dsk) (d:Nat):∀ (n:Nat) (D:Dsk),(List.range n).foldl (fun D i=>if d=i then f D else D) D=if d < n then f D else D
 | 0,D=>by simp
 | n+1,D=>by
  rw [List.range_succ,List.foldl_append,foldl_pick f d n D]
  simp only [List.foldl_cons,List.foldl_nil]
  by_cases h:d < n
  ·
   rw [if_pos h,if_neg (by omega),if_pos (by omega)]
  ·
   by_cases e:d=n
   ·
    rw [if_neg h,if_pos e,if_pos (by omega)]
   ·
    rw [if_neg h,if_neg e,if_neg (by omega)]
section
variable {c:Cfg} {m slot:Nat} {x:Rcd}
end
namespace Dsk
variable {c:Cfg} {slot:Nat} {x:Rcd}
end Dsk
end Go.Proofs.YtgjnnbomnoafcaaGreatDoor
namespace Go.Proofs.YtgjnnbomnoafcaaGreatDoor
set_option linter.unusedVariables false
structure DW (D:Dsk) (c:Cfg) (m:Nat) (f:Nat->Option Rcd) (B:Nat->Bool):Prop where
 len:D.l.length=m
 alive:D.dead=false
 waits:∀ i,D.waits i=none
 rot:∀ i,B i=false->D.rot i=false
 has:∀ s x i,s < c.slots.toNat->f s=some x->i < c.k.toNat->B (jsecN c s i)=false->D.read (jsecN c s i)=(x.frm i).bytes
 bad:∀ j,B j=true->Frm.get (D.read j)=none
def upd (f:Nat->Option Rcd) (s:Nat) (x:Rcd) (t:Nat):Option Rcd:=if t=s then some x else f t
def noB:Nat->Bool:=fun _=>false
namespace DW
variable {D:Dsk} {c:Cfg} {m:Nat} {f:Nat->Option Rcd} {B:Nat->Bool}
end DW
structure RJ (R:Rck) (c:Cfg) (m:Nat) (f:Nat->Option Rcd):Prop where
 pow:Pow R c.n.toNat m (-1)
 good:c.Good
 fit:c.sectors<=(m:Int)
 dsk:∀ d:Nat,d < c.n.toNat->DW (R.dsk d) c m f noB
 fits:∀ s x,f s=some x->x.Fit c s
namespace RJ
variable {R:Rck} {c:Cfg} {m:Nat} {f:Nat->Option Rcd}
end RJ
end Go.Proofs.YtgjnnbomnoafcaaGreatDoor
namespace Go.Proofs.YtgjnnbomnoafcaaGreatDoor
set_option linter.unusedVariables false
structure CutD (c:Cfg) (m:Nat) (X Y:Rcd) (D:Dsk):Prop where
 len:D.l.length=m
 alive:D.dead=false
 base:∀ i,i < c.k.toNat->D.l.getD (jsecN c 0 i) []=(X.frm i).bytes\/D.l.getD (jsecN c 0 i) []=(Y.frm i).bytes
 wait:∀ i,i < c.k.toNat->D.waits (jsecN c 0 i)=none\/D.waits (jsecN c 0 i)=some (Y.frm i).bytes
namespace CutD
variable {c:Cfg} {m:Nat} {X Y:Rcd} {D:Dsk}
end CutD
structure CutR (c:Cfg) (m:Nat) (X Y:Rcd) (R:Rck):Prop where
 len:R.l.length=c.n.toNat
 dsk:∀ d:Nat,d < c.n.toNat->CutD c m X Y (R.dsk d)
namespace CutR
variable {c:Cfg} {m:Nat} {X Y:Rcd} {R:Rck}
end CutR
namespace Cut
variable {c:Cfg} {m:Nat} {f:Nat->Option Rcd} {X Y:Rcd} {R:Rck}
end Cut
end Go.Proofs.YtgjnnbomnoafcaaGreatDoor
namespace Go.Proofs.YtgjnnbomnoafcaaGreatDoor
set_option linter.unusedVariables false
structure RB (R:Rck) (c:Cfg) (m:Nat) (f:Nat->Option Rcd) (B:Nat->Nat->Bool):Prop where
 live:Live R c.n.toNat m
 good:c.Good
 fit:c.sectors<=(m:Int)
 dsk:∀ d:Nat,d < c.n.toNat->DW (R.dsk d) c m f (B d)
 fits:∀ s x,f s=some x->x.Fit c s
namespace RB
variable {R:Rck} {c:Cfg} {m:Nat} {f:Nat->Option Rcd} {B B':Nat->Nat->Bool}
end RB
structure One (R:Rck) (c:Cfg) (m:Nat) (f:Nat->Option Rcd) (x:Rcd) (left d:Nat):Prop where
 live:Live R c.n.toNat m
 good:c.Good
 fit:c.sectors<=(m:Int)
 has:f 0=some x
 fits:x.Fit c 0
 left:left < c.n.toNat/\∀ i,i < c.k.toNat->(R.dsk left).jg c 0 i=some (x.frm i)
 past:∀ e:Nat,e < c.n.toNat->e < d->∀ i,i < c.k.toNat->(R.dsk e).jg c 0 i=some (x.frm i)\/(R.dsk e).jg c 0 i=none
 rest:∀ e:Nat,e < c.n.toNat->d<=e->DW (R.dsk e) c m f noB
namespace One
variable {R:Rck} {c:Cfg} {m:Nat} {f:Nat->Option Rcd} {x:Rcd} {left d:Nat}
end One
end Go.Proofs.YtgjnnbomnoafcaaGreatDoor
namespace Go.Proofs.YtgjnnbomnoafcaaGreatDoor
set_option linter.unusedVariables false
section
variable {R:Rck} {c:Cfg} {m:Nat} {f:Nat->Option Rcd} {i keep d:Nat} {x:Rcd}
end
end Go.Proofs.YtgjnnbomnoafcaaGreatDoor
namespace Go.Proofs.YtgjnnbomnoafcaaGreatDoor
set_option linter.unusedVariables false
open Go Go.RowKit
def blocksOf (k:Nat) (n:Int):List (List Nat):=(List.range k).map fun i:Nat=>blockOf (wrap64 (n+31*(i:Int)))
theorem Zb6 (k:Nat) (n:Int):(blocksOf k n).length=k:=by simp [blocksOf]
theorem Zb3 {k:Nat} {n:Int} {b:List Nat} (h:b∈blocksOf k n):∃ x,b=blockOf x:=by
 unfold blocksOf at h
 obtain ⟨i,_,rfl⟩:=List.mem_map.1 h
 exact ⟨_,rfl⟩
theorem blocksOf_succ (k:Nat) (n:Int):blocksOf (k+1) n=blocksOf k n++[blockOf (wrap64 (n+31*(k:Int)))]:=by
 unfold blocksOf
 rw [List.range_succ,List.map_append]; rfl
def recOf (c:Cfg) (seq stripe n:Int):Rcd:=⟨seq,stripe,blocksOf c.k.toNat n⟩
namespace Runs10
def c:Cfg:=⟨9,1,2,1,2⟩
def x:Rcd:=recOf c 3 0 5
structure All (R1 R2 R3:Rck):Prop where
 b0:(Rck.new 2 4).jblank c 0=(none,R1)
 b1:R1.jblank c 1=(none,R2)
 lg:R2.jlog c x=(none,R3)
 s1:R3.jslot c 1=(x,true,3,none)
 s0:R3.jslot c 0=(⟨0,0,[List.replicate 108 0]⟩,true,0,none)
 r0:R3.rotOk 0 2 0 1=true
 r1:(R3.rot 0 2 0 1).rotOk 1 2 0 1=true
 s2:((R3.rot 0 2 0 1).rot 1 2 0 1).jslot c 1=(Rcd.none_,false,0,some (.fault sJSlot 1 (.loss 1 0 1)))
end Runs10
def KBlocksPost (w:World) (l:List (List Nat)) (e:Ending) (w':World):Prop:=∃ v,e=.returned v/\OwnVs w' w.heap.size 120 108 v (l.map bA)/\Ext w w'
set_option maxRecDepth 100000 in
set_option maxHeartbeats 1000000 in
theorem kblocks_c (k:Nat) (hk:k<=8) (n:Int) (w:World):Calls Tryz.prog 56 #[.int .i64 k,.int .i64 n] w (KBlocksPost w (blocksOf k n)):=by
 have hbc:=block_c
 have HS:=hid (fun j=>blocksOf_succ j n)
 go_enter Tryz.func56,Tryz.ntmps56
 go_wp2
 go_loopw [6,5] (fun t v wr=>∃ j:Nat,t=.int .i64 j/\j<=k/\OwnVs wr w.heap.size 120 108 v ((blocksOf j n).map bA)/\Ext w wr) (fun t _ _=>k - (intOf t).toNat)
 case atStart=>exact ⟨0,rfl,by omega,OwnVs.nil _ _ _ _,Ext.refl _⟩
 case round =>
  obtain ⟨j,rfl,hj,hown,hx⟩:=hrel
  by_cases hlt:j < k
  ·
   have HO:=hid hown
   have HX:=hid hx
   clear hown hx
   go_wp2_with (go_at_call 106; fail)
   refine (hbc _ _).mono ?_
   rintro e w1 ⟨rfl,x1⟩
   have hx1:=Ext.trans HX.out x1
   have hsz:(bA (blockOf (wrap64 (n+31*(j:Int))))).size=108:=by rw [Za3]; exact Za1 _
   obtain ⟨v',W2,hap,hown2,_,hx2⟩:=(HO.out.ext x1).add (tsl:=98) Tryz.underlying98 infoBlk (by show (bA z108).size=108; rw [Za3]; simp [z108]) (by omega) (bA (blockOf (wrap64 (n+31*(j:Int))))) hsz (bA_one _) (by rw [List.length_map,Zb6]; omega) (by omega) hx1.size
   have HO2:Hid (OwnVs W2 w.heap.size 120 108 v' ((blocksOf (j+1) n).map bA)):=hid (by rw [HS.out]; simpa using hown2)
   have HX2:=hid (hx2 w (Nat.le_refl _) hx1)
   have HSZ:=hid hsz
   clear hown2 hx2 hx1 x1 hsz
   go_wp2_with (first
    | (guard_target=wpList _ _ _ (⟨some _,Op.buildSlice _ _ _,_,_,_,none⟩::_) _ _; refine Zag rfl 98 120 _ rfl (bA (blockOf (wrap64 (n+31*(j:Int))))) _ _ 108 108 Tryz.underlying98 infoBlk (by omega) (by omega) rfl rfl HSZ.out ?_)
    | (at_builtin; refine wpList_append_run rfl _ _ _ rfl _ _ _ _ rfl rfl hap ?_))
   go_roundw
   case rel=>exact ⟨j+1,by go_num,by omega,HO2.out,HX2.out⟩
   case measure=>simp [intOf]; omega
  ·
   obtain rfl:k=j:=by omega
   have HO:=hid hown
   have HX:=hid hx
   clear hown hx
   go_wp2
   go_ret
   exact ⟨_,rfl,HO.out,HX.out⟩
theorem kblocks_at {w:World} {B:Nat} {v:Value} {l:List (List Nat)} (hl:∀ b∈l,b.length=108) (h:OwnVs w B 120 108 v (l.map bA)):∃ a c,v=.slice a l.length c/\BlksAt w a l/\∀ g,a=some ⟨g,0,none⟩->B<=g:=by
 obtain ⟨a,c,e,q⟩:=h.slice
 rw [List.length_map] at e
 refine ⟨a,c,e,?_,?_⟩
 ·
  rcases q with ⟨q,_⟩ | ⟨g,rfl,_,_,_,hv⟩
  ·
   have:l=[]:=by simpa using q
   subst this
   intro i b hb; simp at hb
  ·
   exact BlksAt.of_vs hl hv
 ·
  intro g hg
  rcases q with ⟨_,q⟩ | ⟨g2,q,hb,_⟩
  ·
   rw [q] at hg; cases hg
  ·
   rw [q] at hg; cases hg; exact hb
theorem block_eqAt (D:Nat) (hD:∃ d,D=d+2) (l:List Nat) (hl:l.length=108) (w:World):(Op.equalIn D 120 (.agg (bA l)) (.agg (bA l))).run Tryz.prog w=.ok true w:=by
 obtain ⟨d,rfl⟩:=hD
 have h:=run_bytes_eq d 120 l l hl hl Tryz.underlying120 w
 rw [beq_self_eq_true] at h
 exact h
theorem block_neq (l:List Nat) (hl:l.length=108) (w:World):(binOp .neq 120 (.agg (bA l)) (.agg (bA l))).run Tryz.prog w=.ok (.bool false) w:=by
 rw [run_neq_struct]
 rw [block_eqAt 10000 ⟨9998,by omega⟩ l hl w]; rfl
theorem block_guardB:Tryz.prog.eqGuardType Tryz.prog.depth 120=false:=by kernel_rfl
theorem block_guard (op:BinOp) (x y:Operand) (xs ys:Array Value) (w:World):(eqGuard op 120 x y (.agg xs) (.agg ys)).run Tryz.prog w=.ok () w:=run_eqGuard_agg w op 120 x y xs ys block_guardB
attribute [local irreducible] wpSQ
set_option maxRecDepth 100000 in
set_option maxHeartbeats 1000000 in
theorem sameblk_c (l:List (List Nat)) (hl:∀ b∈l,b.length=108) (hn:l.length<=8) (a1 a2:Option Addr) (c1 c2:Nat) (w:World) (h1:BlksAt w a1 l) (h2:BlksAt w a2 l) :
  Calls Tryz.prog 67 #[.slice a1 l.length c1,.slice a2 l.length c2] w fun e w'=>e=.returned (.bool true)/\Ext w w':=by
 have H1:=hid h1
 have H2:=hid h2
 have HL:=hid hl
 have hn8:(l.length:Int)<=8:=by omega
 have hne:((l.length:Int) != (l.length:Int))=false:=by simp
 clear h1 h2 hl
 go_enter Tryz.func67,Tryz.ntmps67
 go_wp2
 clear hne
 go_loopw [5] (fun t wr=>∃ j:Nat,t=.int .i64 j/\j<=l.length/\Ext w wr) (fun t _=>l.length - (intOf t).toNat)
 case atStart=>exact ⟨0,rfl,by omega,Ext.refl _⟩
 case round =>
  obtain ⟨j,rfl,hj,hx⟩:=hrel
  by_cases hlt:j < l.length
  ·
   have j0:(0:Int)<=(j:Int):=by omega
   have j1:(j:Int) < (l.length:Int):=by omega
   obtain ⟨b,hb⟩:∃ b,l[j]?=some b:=⟨l[j],List.getElem?_eq_getElem hlt⟩
   have hbl:=HL.out b (List.mem_of_getElem? hb)
   obtain ⟨g1,rfl,k1⟩:=H1.out j b hb
   obtain ⟨g2,rfl,k2⟩:=H2.out j b hb
   have xd:Ext wr wr.drew:=(Ext.refl wr).drew
   have cells:∀ (g:Nat),(∀ q,q < 108->w.cell? ⟨g,j*108+q,none⟩=some (.int .u8 (nth b q)))->∀ x:SW Ext wr.drew,∀ q v,(bA b).toList[q]?=some v->x.w.cell? ((⟨g,j*108,none⟩:Addr).add q)=some v:=fun g hk x q v hv=>by
    have hq:q < 108:=by
     rcases Nat.lt_or_ge q 108 with h | h
     ·
      exact h
     ·
      rw [List.getElem?_eq_none (by rw [Array.length_toList,Za3,hbl]; exact h)] at hv; cases hv
    have e:(⟨g,j*108,none⟩:Addr).add q=⟨g,j*108+q,none⟩:=by unfold Addr.add; split<;>simp_all
    have h:=Zb5 b q (by rw [hbl]; exact hq)
    rw [Array.getElem?_toList,h] at hv
    rw [e,<- hv]
    exact Ext.cell (Ext.trans hx (Ext.trans xd x.ext)) (hk q hq)
   have L1:=hid (cells g1 k1)
   have L2:=hid (cells g2 k2)
   have HSZ:=hid (show (bA b).size=108 by rw [Za3]; exact hbl)
   have HNE:=hid (block_neq b hbl)
   have HX:=hid hx
   clear cells k1 k2 hb hbl hx
   go_wp2_with fail
   refine Zal (S:=Ext) (.fin [0,1,2,3,4,5,6,7,8]) (by kernel_rfl) (by kernel_rfl) (fun _ _ d _ _ h=>by cases d<;>exact h) ?_
   rw [wpS]
   simp only [opsAt,opA,opB,opC,opD,opE,opF,opG]
   iterate 3 ((refine Zaa (fun K hK=>?_); go_simp; refine hK _ ?_; clear hK K))
   refine Zaz 120 _ rfl ⟨g1,j*108,none⟩ rfl (bA b) rfl (by rw [HSZ.out]; exact aggBlock) L1.out ?_
   iterate 3 ((refine Zaa (fun K hK=>?_); go_simp; refine hK _ ?_; clear hK K))
   refine Zaz 120 _ rfl ⟨g2,j*108,none⟩ rfl (bA b) rfl (by rw [HSZ.out]; exact aggBlock) L2.out ?_
   refine wpSQ_eql .neq 120 _ _ _ rfl (bA b) (bA b) rfl rfl (.bool false) rfl (fun w=>block_guard _ _ _ _ _ w) HNE.out ?_
   refine Zac ?_
   intro W hW
   have HXW:=hid (Ext.trans HX.out (Ext.trans xd hW))
   clear hW L1 L2
   go_wp2
   go_roundw
   case rel=>exact ⟨j+1,by go_num,by omega,HXW.out⟩
   case measure=>simp [intOf]; omega
  ·
   obtain rfl:l.length=j:=by omega
   have HX:=hid hx
   clear hx
   go_wp2
   go_ret
   exact ⟨rfl,HX.out⟩
end Go.Proofs.YtgjnnbomnoafcaaGreatDoor
namespace Go.Proofs.YtgjnnbomnoafcaaGreatDoor
set_option linter.unusedVariables false
open Go Go.RowKit
theorem loss_stood:Tryz.prog.stoodInHeld 127=false:=by kernel_rfl
theorem loss_list:(Tryz.prog.fieldsOf 127).toList=[fld "Group" 3 0 0,fld "Have" 3 1 8,fld "Need" 3 2 16]:=by unfold Program.fieldsOf; rw [Tryz.underlying127]; rfl
theorem loss_fields:Tryz.prog.underlying 127=some (.struct (Tryz.prog.fieldsOf 127)):=by unfold Program.fieldsOf; rw [Tryz.underlying127]
theorem loss_eqIn (d:Nat) (l:Int × Int × Int) (w:World):(Op.equalIn (d+2) 127 (.agg (lcells l)) (.agg (lcells l))).run Tryz.prog w=.ok true w:=by
 rw [run_equalIn_struct w (d+1) 127 (lcells l) (lcells l) loss_fields loss_stood]
 rw [loss_list]
 have q0:=run_part_plain (P:=Tryz.prog) w plainI (show (lcells l)[0]?=some (.int .i64 l.1) from rfl)
 have q1:=run_part_plain (P:=Tryz.prog) w plainI (show (lcells l)[1]?=some (.int .i64 l.2.1) from rfl)
 have q2:=run_part_plain (P:=Tryz.prog) w plainI (show (lcells l)[2]?=some (.int .i64 l.2.2) from rfl)
 have e:∀ a:Int,(Op.equalIn (d+1) 3 (.int .i64 a) (.int .i64 a)).run Tryz.prog w=.ok true w:=fun a=>by
  rw [run_equalIn_int (P:=Tryz.prog) w d 3 .i64 .i64 a a Tryz.underlying3]; simp
 refine (Zcp (by decide) q0 q0 (e _)).trans ?_
 rw [if_pos rfl]
 refine (Zcp (by decide) q1 q1 (e _)).trans ?_
 rw [if_pos rfl]
 refine (Zcp (by decide) q2 q2 (e _)).trans ?_
 rfl
theorem loss_eqAt (D:Nat) (hD:∃ d,D=d+2) (l:Int × Int × Int) (w:World):(Op.equalIn D 127 (.agg (lcells l)) (.agg (lcells l))).run Tryz.prog w=.ok true w:=by
 obtain ⟨d,rfl⟩:=hD
 exact loss_eqIn d l w
theorem loss_neq (l:Int × Int × Int) (w:World):(binOp .neq 127 (.agg (lcells l)) (.agg (lcells l))).run Tryz.prog w=.ok (.bool false) w:=by
 rw [run_neq_struct]
 rw [loss_eqAt 10000 ⟨9998,by omega⟩ l w]; rfl
theorem loss_guardB:Tryz.prog.eqGuardType Tryz.prog.depth 127=false:=by kernel_rfl
theorem loss_guard (op:BinOp) (x y:Operand) (xs ys:Array Value) (w:World):(eqGuard op 127 x y (.agg xs) (.agg ys)).run Tryz.prog w=.ok () w:=run_eqGuard_agg w op 127 x y xs ys loss_guardB
theorem built_loss3 (a b c:Int):Tryz.prog.built 127 [(0,.int .i64 a),(1,.int .i64 b),(2,.int .i64 c)]=some (lcells (a,b,c)):=by kernel_rfl
end Go.Proofs.YtgjnnbomnoafcaaGreatDoor
