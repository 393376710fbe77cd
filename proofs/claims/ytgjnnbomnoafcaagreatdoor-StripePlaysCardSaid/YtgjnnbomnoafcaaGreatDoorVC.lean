/- Texts of one proof, joined: Err, Wrap, Handle, ErrFacts, ErrAs, ErrAsTop, KindAny, KindNil, WrapI. -/
import Derived.Test.YtgjnnbomnoafcaaGreatDoorVA
import Derived.LaidEql
import Derived.RowKitTokens
import Derived.Test.YtgjnnbomnoafcaaGreatDoorProg
import Derived.Test.YtgjnnbomnoafcaaGreatDoorRows
import Derived.ChangeSame
import Derived.ChangeVars
import Derived.JoinedOf
import Derived.RowKit
import Derived.LaidLaws
import Derived.LaidHandle
import Derived.Stop.Joined
import Derived.Stop.Asserts
import Derived.Handy
set_option linter.unusedVariables false
set_option linter.unusedSimpArgs false
namespace Go.Proofs.YtgjnnbomnoafcaaGreatDoor
set_option linter.unusedVariables false
open Go.RowKit Go.Extern.Stop Go.Stop Go.Extern Go
theorem agg_cells' {w:World} {g:Nat} {A:Array Value} {t:TypeId} {fr:Nat × Nat} (h:w.heap[g]?=some (.cells A t fr)):∀ j v,A.toList[j]?=some v->w.cell? ((⟨g,0,none⟩:Addr).add j)=some v:=by
 intro j v hv
 have e:(⟨g,0,none⟩:Addr).add j=⟨g,j,none⟩:=by unfold Addr.add; split<;>simp_all
 rw [e,Zaf h]
 simpa using hv
theorem frozen_ext {w w':World} (h:Ext w w') {p:Addr} (hp:p.block < w.heap.size):w'.frozen? p=w.frozen? p:=by
 unfold World.frozen?
 rw [h.block p.block hp (fun x=>x)]
inductive Err where
 | no (n:Int)
 | loss (g h n:Int)
 | fault (op:ByteArray) (at_:Int) (e:Err)
namespace Err
def val:Err->Value
 | no n=>.iface 31 (.int .i64 n)
 | loss g h n=>.iface 127 (.agg #[.int .i64 g,.int .i64 h,.int .i64 n])
 | fault op a e=>.iface 241 (.agg #[.string op,.int .i64 a,e.val])
def kind:Err->Int
 | no n=>n
 | loss _ _ _=>6
 | fault _ _ e=>e.kind
def lost:Err->Bool
 | no _=>false
 | loss _ _ _=>true
 | fault _ _ e=>e.lost
def depth:Err->Nat
 | no _=>0
 | loss _ _ _=>0
 | fault _ _ e=>e.depth+1
theorem kind_lost:∀ {e:Err},e.lost=true->e.kind=6
 | .no _,h=>by cases h
 | .loss _ _ _,_=>rfl
 | .fault _ _ e,h=>kind_lost (e:=e) h
noncomputable def vdepth (v:Value):Nat:=open Classical in if h:∃ e:Err,e.val=v then (Classical.choose h).depth else 0
theorem val_inj:∀ {a b:Err},a.val=b.val->a=b
 | .no n,.no m,h=>by simp [val] at h; rw [h]
 | .no n,.loss _ _ _,h=>by simp [val] at h
 | .no n,.fault _ _ _,h=>by simp [val] at h
 | .loss _ _ _,.no _,h=>by simp [val] at h
 | .loss _ _ _,.loss _ _ _,h=>by simp [val] at h; obtain ⟨h1,h2,h3⟩:=h; rw [h1,h2,h3]
 | .loss _ _ _,.fault _ _ _,h=>by simp [val] at h
 | .fault _ _ _,.no n,h=>by simp [val] at h
 | .fault _ _ _,.loss _ _ _,h=>by simp [val] at h
 | .fault o i e,.fault o' i' e',h=>by
  simp [val] at h
  obtain ⟨h1,h2,h3⟩:=h
  rw [h1,h2,val_inj h3]
theorem vdepth_val (e:Err):vdepth e.val=e.depth:=by
 have h:∃ e':Err,e'.val=e.val:=⟨e,rfl⟩
 unfold vdepth
 rw [dif_pos h,val_inj (Classical.choose_spec h)]
theorem iface (e:Err):∃ t v,e.val=.iface t v:=by cases e<;>exact ⟨_,_,rfl⟩
end Err
def EtLaid (w:World):Prop:=w.cell? ⟨0,0,none⟩=some (.iface 288 (.agg #[.pointer (some ⟨1,25,none⟩)]))
theorem EtLaid.only {F:Nat->Prop} {w w':World} (h:EtLaid w) (e:Only F w w') (hn:¬F 0):EtLaid w':=e.cell h hn
open Go.RowKit Go
theorem wrap_nil (op:ByteArray) (n:Int) (w:World):Calls Tryz.prog 97 #[.string op,.int .i64 n,.nilIface] w fun e w'=>e=.returned .nilIface/\w=w':=by
 go_enter Tryz.func97,Tryz.ntmps97
 go_wp2
 go_ret
 exact ⟨rfl,rfl⟩
theorem Za2 (op:ByteArray) (n:Int) (er:Err) (w:World):Calls Tryz.prog 97 #[.string op,.int .i64 n,er.val] w fun e w'=>e=.returned (Err.fault op n er).val/\w=w':=by
 obtain ⟨t2,v2,hq⟩:∃ t v,er.val=.iface t v:=by cases er<;>exact ⟨_,_,rfl⟩
 have hv:(Err.fault op n er).val=.iface 241 (.agg #[.string op,.int .i64 n,.iface t2 v2]):=by rw [<- hq]; rfl
 rw [hq,hv]
 clear hq hv
 go_enter Tryz.func97,Tryz.ntmps97
 go_wp2
 go_ret
 exact ⟨rfl,rfl⟩
open Go.ChangeShapes Go.WideShapes Go.RowKit
def theLaid:List (String × DataW Unit):=[("errors.errorType",Rows.laid_errors_errorType)]
theorem hOwn:ownKnob Tryz.prog.godebug=none:=by kernel_rfl
theorem hEt:Tryz.prog.globalNamed "errors.errorType"=some 0:=by kernel_rfl
theorem hRt:(Tryz.prog.cutTypes.find? (·.1 == "internal/reflectlite.rtype")).map (·.2)=some 288:=by kernel_rfl
theorem hSize:Tryz.prog.types.size=363:=by kernel_rfl
theorem hOneRow:((List.range 363).filter fun t=>Tryz.prog.rowNamed t [101,114,114,111,114])=[25]:=by kernel_rfl
theorem etLaid_of {W:World} (h:laidMetH Tryz.prog theLaid W):EtLaid W:=by
 have h':laidMet Tryz.prog [] W/\handlesMet Tryz.prog theLaid W:=h
 obtain ⟨name,u,ty,e1,e2,e3,e4,e5⟩:=h'.2 _ (List.mem_singleton.2 rfl)
 have en:name=[101,114,114,111,114]:=(Option.some.inj e1).symm
 subst en
 obtain rfl:=Option.some.inj (hRt.symm.trans e2)
 have hm:ty∈(List.range 363).filter fun t=>Tryz.prog.rowNamed t [101,114,114,111,114]:=List.mem_filter.2 ⟨List.mem_range.2 (by rw [<- hSize]; exact e3),e4⟩
 rw [hOneRow] at hm
 obtain rfl:=List.mem_singleton.1 hm
 have hh:typeHandle Tryz.prog 25=.pointer (some ⟨1,25,none⟩):=by kernel_rfl
 rw [hh] at e5
 unfold EtLaid
 simpa using World.var?_cell hEt e5 0
noncomputable def laidWorld (os:Os):World :=
 let w0:=World.holding Tryz.prog os ⟨#[],#[],[]⟩
 { w0 with heap:=w0.heap.modify 0 fun
   | .cells _ t frozen=>.cells #[.iface 288 (.agg #[.pointer (some ⟨1,25,none⟩)])] t frozen
   | o=>o }
theorem laidWorld_met (os:Os) (args:Array Value):laidMetH Tryz.prog theLaid ((laidWorld os).forCall (fun _ _=>0) ⟨#[],args,[]⟩).memory :=
 laidMetH_of_parts (laidMet_nil _ _) (by kernel_rfl)
namespace ErrFacts
theorem valueOfP (t:Addr) (w:World):(ReflectliteValue.unpack (.iface 182 (.pointer (some t)))).run Tryz.prog w
  = .ok (.agg #[.pointer (some ⟨1,182,none⟩),.pointer (some ⟨w.heap.size,0,none⟩),.int .u64 150]) (w.alloc (.cells #[.pointer (some t)] 182)):=by kernel_rfl
theorem typeP (a:Addr) (w:World):(ReflectliteValue.methodAny (ReflectliteValue.valueError "reflectlite.Value.Type" 0) (fun t _ _ _=>ReflectliteType.toType t) #[.agg #[.pointer (some ⟨1,182,none⟩),.pointer (some a),.int .u64 150]]).run Tryz.prog w
  = .ok (.iface 288 (.agg #[.pointer (some ⟨1,182,none⟩)])) w:=by kernel_rfl
theorem kindP (w:World):((ReflectliteType.abiMethod fun t=>(fun a:Nat=>Value.int IntKind.u8 (a:Int)) <$> Rtype.kind t) #[.pointer (some ⟨1,182,none⟩)]).run Tryz.prog w=.ok (.int .u8 22) w:=by kernel_rfl
theorem kindE (w:World):((ReflectliteType.abiMethod fun t=>(fun a:Nat=>Value.int IntKind.u8 (a:Int)) <$> Rtype.kind t) #[.pointer (some ⟨1,31,none⟩)]).run Tryz.prog w=.ok (.int .u8 2) w:=by kernel_rfl
theorem elemP (w:World):(ReflectliteType.method ReflectliteType.elem #[.agg #[.pointer (some ⟨1,182,none⟩)]]).run Tryz.prog w=.ok (.iface 288 (.agg #[.pointer (some ⟨1,31,none⟩)])) w:=by kernel_rfl
theorem implE (w:World):(ReflectliteType.relation "Implements" ReflectliteType.implements_ #[.agg #[.pointer (some ⟨1,31,none⟩)],.iface 288 (.agg #[.pointer (some ⟨1,25,none⟩)])]).run Tryz.prog w=.ok (.bool true) w:=by kernel_rfl
theorem typeOfE (v:Value) (w:World):(ReflectliteType.typeOf #[.iface 31 v]).run Tryz.prog w=.ok (.iface 288 (.agg #[.pointer (some ⟨1,31,none⟩)])) w:=by kernel_rfl
theorem typeOfF (v:Value) (w:World):(ReflectliteType.typeOf #[.iface 241 v]).run Tryz.prog w=.ok (.iface 288 (.agg #[.pointer (some ⟨1,241,none⟩)])) w:=by kernel_rfl
theorem assE (w:World):(ReflectliteType.relation "AssignableTo" ReflectliteType.assignableTo #[.agg #[.pointer (some ⟨1,31,none⟩)],.iface 288 (.agg #[.pointer (some ⟨1,31,none⟩)])]).run Tryz.prog w=.ok (.bool true) w:=by kernel_rfl
theorem assF (w:World):(ReflectliteType.relation "AssignableTo" ReflectliteType.assignableTo #[.agg #[.pointer (some ⟨1,241,none⟩)],.iface 288 (.agg #[.pointer (some ⟨1,31,none⟩)])]).run Tryz.prog w=.ok (.bool false) w:=by kernel_rfl
theorem assL (w:World):(ReflectliteType.relation "AssignableTo" ReflectliteType.assignableTo #[.agg #[.pointer (some ⟨1,127,none⟩)],.iface 288 (.agg #[.pointer (some ⟨1,31,none⟩)])]).run Tryz.prog w=.ok (.bool false) w:=by kernel_rfl
theorem valueOfE (n:Int) (w:World):(ReflectliteValue.unpack (.iface 31 (.int .i64 n))).run Tryz.prog w
  = .ok (.agg #[.pointer (some ⟨1,31,none⟩),.pointer (some ⟨w.heap.size,0,none⟩),.int .u64 130]) (w.alloc (.cells #[.int .i64 n] 31)):=by kernel_rfl
theorem elemOfP (w:World):(Rtype.elem? 182).run Tryz.prog w=.ok (some 31) w:=by kernel_rfl
theorem mkE (p:Addr) (w:World):(ReflectliteValue.mk 31 p ReflectliteValue.flagAddr).run Tryz.prog w=.ok (.agg #[.pointer (some ⟨1,31,none⟩),.pointer (some p),.int .u64 386]) w:=by kernel_rfl
theorem partsP (a:Addr) (w:World):(ReflectliteValue.parts (.agg #[.pointer (some ⟨1,182,none⟩),.pointer (some a),.int .u64 150])).run Tryz.prog w=.ok (some (182,a,150)) w:=by kernel_rfl
theorem partsEa (a:Addr) (w:World):(ReflectliteValue.parts (.agg #[.pointer (some ⟨1,31,none⟩),.pointer (some a),.int .u64 386])).run Tryz.prog w=.ok (some (31,a,386)) w:=by kernel_rfl
theorem partsE (a:Addr) (w:World):(ReflectliteValue.parts (.agg #[.pointer (some ⟨1,31,none⟩),.pointer (some a),.int .u64 130])).run Tryz.prog w=.ok (some (31,a,130)) w:=by kernel_rfl
theorem directE (w:World):(Rtype.directlyAssignable 31 31).run Tryz.prog w=.ok true w:=by kernel_rfl
theorem typeOfL (v:Value) (w:World):(ReflectliteType.typeOf #[.iface 127 v]).run Tryz.prog w=.ok (.iface 288 (.agg #[.pointer (some ⟨1,127,none⟩)])) w:=by kernel_rfl
theorem noAsL (v:Value) (w:World):Sem.run Tryz.prog (Instr.typeAssert (.iface 127 v) 25 292 true) w=.ok (.tuple #[.nilIface,.bool false]) w :=
 run_typeAssert_lacksB Tryz.underlying292 (by kernel_rfl) (by kernel_rfl) v _ w
theorem noUnwrapL (v:Value) (w:World):Sem.run Tryz.prog (Instr.typeAssert (.iface 127 v) 25 295 true) w=.ok (.tuple #[.nilIface,.bool false]) w :=
 run_typeAssert_lacksB Tryz.underlying295 (by kernel_rfl) (by kernel_rfl) v _ w
theorem noUnwrapsL (v:Value) (w:World):Sem.run Tryz.prog (Instr.typeAssert (.iface 127 v) 25 296 true) w=.ok (.tuple #[.nilIface,.bool false]) w :=
 run_typeAssert_lacksB Tryz.underlying296 (by kernel_rfl) (by kernel_rfl) v _ w
theorem noIsF (v:Value) (w:World):Sem.run Tryz.prog (Instr.typeAssert (.iface 241 v) 25 299 true) w=.ok (.tuple #[.nilIface,.bool false]) w :=
 run_typeAssert_lacksB Tryz.underlying299 (by kernel_rfl) (by kernel_rfl) v _ w
theorem hasIsL (v:Value) (w:World):Sem.run Tryz.prog (Instr.typeAssert (.iface 127 v) 25 299 true) w=.ok (.tuple #[.iface 127 v,.bool true]) w:=by kernel_rfl
end ErrFacts
namespace ErrFacts
theorem rlm (z:Sem Value) (f:TypeId->Addr->Nat->Nat->Sem Value) (v:Value) :
  ReflectliteValue.method z f #[v]=(do match <- ReflectliteValue.parts v with | none=>z | some (t,a,fl)=>f t a fl (fl % 32)):=rfl
theorem isNilP (a p:Addr) (W:World) (ha:W.cell? a=some (.pointer (some p))) :
  (ReflectliteValue.method (ReflectliteValue.valueError "reflectlite.Value.IsNil" 0) ReflectliteValue.isNil #[.agg #[.pointer (some ⟨1,182,none⟩),.pointer (some a),.int .u64 150]]).run Tryz.prog W=.ok (.bool false) W:=by
 rw [rlm]
 simp only [Sem.run_bind,partsP,Result.andThen]
 simp [ReflectliteValue.isNil,loadVar,isAgg,underlying,Tryz.underlying182,ha,Result.andThen]
theorem elemV (a p:Addr) (W:World) (ha:W.cell? a=some (.pointer (some p))) :
  (ReflectliteValue.method (ReflectliteValue.valueError "reflectlite.Value.Elem" 0) ReflectliteValue.elem #[.agg #[.pointer (some ⟨1,182,none⟩),.pointer (some a),.int .u64 150]]).run Tryz.prog W
   = .ok (.agg #[.pointer (some ⟨1,31,none⟩),.pointer (some p),.int .u64 386]) W:=by
 rw [rlm]
 simp only [Sem.run_bind,partsP,Result.andThen]
 simp [ReflectliteValue.elem,loadVar,isAgg,underlying,Tryz.underlying182,ha,Result.andThen,elemOfP,mkE]
theorem rls (v x:Value):ReflectliteValue.set #[v,x]=(do
  let (some (dst,a,fl),some (src,b,_)):=(<- ReflectliteValue.parts v,<- ReflectliteValue.parts x)
   | unsupported (.noEntry "extern/(internal/reflectlite.Value).Set.zeroValue")
  if fl / ReflectliteValue.flagAddr % 2 == 0 then unsupported (.noEntry "extern/(internal/reflectlite.Value).Set.unaddressable")
  let val <- loadVar src b
  if <- Rtype.directlyAssignable dst src then storeVar dst a val
  else if <- Rtype.implements dst src then
   if (<- Rtype.kind src) == 20 then
    match val with
    | .nilIface=>unsupported (.noEntry "extern/reflectlite: a nil value of one interface type handed on as a value of another")
    | _=>storeVar dst a val
   else storeVar dst a (.iface src val)
  else panicString ("reflectlite.Set: value of type "++(<- Rtype.spelt src)++" is not assignable to type "++(<- Rtype.spelt dst))
  pure (.tuple #[])):=rfl
theorem setE (ta b:Addr) (n:Int) (old:Value) (W:World) (hb:W.cell? b=some (.int .i64 n)) (ht:W.cell? ta=some old) (hf:W.frozen? ta=false) :
  (ReflectliteValue.set #[.agg #[.pointer (some ⟨1,31,none⟩),.pointer (some ta),.int .u64 386],.agg #[.pointer (some ⟨1,31,none⟩),.pointer (some b),.int .u64 130]]).run Tryz.prog W
   = .ok (.tuple #[]) (W.setCell ta (.int .i64 n)):=by
 rw [rls]
 simp only [Sem.run_bind,partsEa,partsE,Result.andThen]
 simp [ReflectliteValue.flagAddr,loadVar,isAgg,underlying,Tryz.underlying31,hb,Result.andThen,directE,storeVar,Value.cells,storeCells,Addr.add]
 rw [run_store Tryz.prog W ta _ _ (by rfl)]
 simp [ht,hf]
theorem noAs (v:Value) (w:World):Sem.run Tryz.prog (Instr.typeAssert (.iface 241 v) 25 292 true) w=.ok (.tuple #[.nilIface,.bool false]) w :=
 run_typeAssert_lacksB Tryz.underlying292 (by kernel_rfl) (by kernel_rfl) v _ w
theorem hasUnwrap (v:Value) (w:World):Sem.run Tryz.prog (Instr.typeAssert (.iface 241 v) 25 295 true) w=.ok (.tuple #[.iface 241 v,.bool true]) w:=by kernel_rfl
end ErrFacts
set_option maxRecDepth 100000 in
set_option maxHeartbeats 2000000 in
theorem as_c (er:Err) (ta a:Addr) (old:Value) (w:World) (hf:w.frozen? ta=false) (ht:w.cell? ta=some old) (ha:w.cell? a=some (.pointer (some ta))) :
  Calls Tryz.prog 169 #[er.val,.iface 182 (.pointer (some ta)),.agg #[.pointer (some ⟨1,182,none⟩),.pointer (some a),.int .u64 150],.iface 288 (.agg #[.pointer (some ⟨1,31,none⟩)])] w
   fun e w'=>(er.lost=false/\e=.returned (.bool true)/\w'.cell? ta=some (.int .i64 er.kind)/\Only (fun k=>k=ta.block) w w')\/(er.lost=true/\e=.returned (.bool false)/\Ext w w'):=by
 have x106:=@run_callFunc_extern Tryz.prog 170 _ ReflectliteType.typeOf Tryz.func170 (by kernel_rfl) (by kernel_rfl) (by kernel_rfl) (by kernel_rfl)
 have x111:=@run_callFunc_extern Tryz.prog 203 _ (ReflectliteValue.method (ReflectliteValue.valueError "reflectlite.Value.Elem" 0) ReflectliteValue.elem) Tryz.func203 (by kernel_rfl) (by kernel_rfl) (by kernel_rfl) (by kernel_rfl)
 have x112:=@run_callFunc_extern Tryz.prog 204 _ ReflectliteValue.set Tryz.func204 (by kernel_rfl) (by kernel_rfl) (by kernel_rfl) (by kernel_rfl)
 have x102:=@run_callFunc_extern Tryz.prog 166 _ (fun args=>ReflectliteValue.unpack (args.getD 0 (.tuple #[]))) Tryz.func166 (by kernel_rfl) (by kernel_rfl) (by kernel_rfl) (by kernel_rfl)
 have x141:=@run_callFunc_extern Tryz.prog 261 _ (ReflectliteType.relation "AssignableTo" ReflectliteType.assignableTo) Tryz.func261 (by kernel_rfl) (by kernel_rfl) (by kernel_rfl) (by kernel_rfl)
 have tO:=ErrFacts.typeOfE
 have aE:=ErrFacts.assE
 have vE:=ErrFacts.valueOfE
 have tF:=ErrFacts.typeOfF
 have aF:=ErrFacts.assF
 have tL:=ErrFacts.typeOfL
 have aL:=ErrFacts.assL
 have htl:=World.block_lt_of_cell? w _ ht
 have hal:=World.block_lt_of_cell? w _ ha
 have HT:=hid ht; have HF:=hid hf; have HA:=hid ha
 clear ht hf ha
 go_enter Tryz.func169,Tryz.ntmps169
 go_wp2
 have hbox:(w.alloc (.cells #[.pointer (some ⟨1,182,none⟩),.pointer (some a),.int .u64 150] 247)).heap[w.heap.size]?=some (.cells #[.pointer (some ⟨1,182,none⟩),.pointer (some a),.int .u64 150] 247 (0,0)):=Zad
 have hX0:Ext w (w.alloc (.cells #[.pointer (some ⟨1,182,none⟩),.pointer (some a),.int .u64 150] 247)):=(Ext.refl w).alloc _
 generalize (w.alloc (.cells #[.pointer (some ⟨1,182,none⟩),.pointer (some a),.int .u64 150] 247))=W at *
 go_loopw [0] (fun v wr=>∃ e':Err,v=e'.val/\(e'.kind=er.kind/\e'.lost=er.lost)/\Ext W wr) (fun v _=>Err.vdepth v)
 case atStart=>exact ⟨er,rfl,⟨rfl,rfl⟩,Ext.refl _⟩
 case round =>
  obtain ⟨e',rfl,hk,hXr⟩:=hrel
  have hX1:Ext w wr:=Ext.trans hX0 hXr
  have hbox:=hXr.at hbox
  have ta1:=hX1.cell HT.out
  have aa1:=hX1.cell HA.out
  have fa1:wr.frozen? ta=false:=by rw [frozen_ext hX1 htl]; exact HF.out
  have htl1:=World.block_lt_of_cell? wr _ ta1
  rcases e' with n | ⟨lg,lh,ln⟩ | ⟨op,at_,e2⟩
  ·
   have hv:(Err.no n).val=.iface 31 (.int .i64 n):=rfl
   have hk':Hid (n=er.kind/\false=er.lost):=hid hk
   have el:=ErrFacts.elemV a ta wr aa1
   have st:=ErrFacts.setE ta ⟨wr.heap.size,0,none⟩ n old (wr.alloc (.cells #[.int .i64 n] 31))
    (by rw [World.cell?_alloc_at _ _ _ _ rfl]; rfl)
    (by rw [World.cell?_alloc_lt _ _ ta htl1]; exact ta1)
    (by rw [World.frozen?_alloc_old _ _ ta (Nat.ne_of_lt htl1)]; exact fa1)
   have HTA:=hid ta1
   have HBX:=hid hbox
   clear hk ta1 fa1 aa1 tF aF tL aL hbox
   go_wp2_with (refine Zae rfl 247 _ rfl ⟨w.heap.size,0,none⟩ rfl _ ⟨by kernel_rfl,by kernel_rfl⟩ (agg_cells' HBX.out) ?_)
   go_ret
   refine .inl ⟨hk'.out.2.symm,rfl,?_,Only.setCell (F:=fun k=>k=ta.block) (Ext.only (hX1.alloc _)) (p:=ta) (.inr rfl) _⟩
   rw [<- hk'.out.1]
   exact World.cell?_setCell_same _ _ _ (by rw [World.cell?_alloc_lt _ _ ta htl1]; exact HTA.out)
  ·
   have hv:(Err.loss lg lh ln).val=.iface 127 (.agg #[.int .i64 lg,.int .i64 lh,.int .i64 ln]):=rfl
   have hk':Hid (6=er.kind/\true=er.lost):=hid hk
   have nA:=ErrFacts.noAsL
   have nU:=ErrFacts.noUnwrapL
   have nV:=ErrFacts.noUnwrapsL
   have HX1:=hid hX1
   clear hk ta1 fa1 aa1 tO aE vE tF aF hbox hX1 hX0 hXr
   go_wp2
   go_ret
   exact .inr ⟨hk'.out.2.symm,rfl,HX1.out⟩
  ·
   have hv:(Err.fault op at_ e2).val=.iface 241 (.agg #[.string op,.int .i64 at_,e2.val]):=rfl
   have hk':Hid (e2.kind=er.kind/\e2.lost=er.lost):=hid hk
   obtain ⟨t2,v2,hq⟩:∃ t v,e2.val=.iface t v:=by cases e2<;>exact ⟨_,_,rfl⟩
   rw [hq] at hv
   have HQ:=hid hq
   have nA:=ErrFacts.noAs
   have hU:=ErrFacts.hasUnwrap
   clear hk ta1 fa1 aa1 tO aE vE tL aL hq
   go_wp2
   go_roundw
   case rel=>exact ⟨e2,HQ.out.symm,hk'.out,Ext.trans hXr ((Ext.refl wr).alloc _)⟩
   case measure =>
    show Err.vdepth (.iface t2 v2) < Err.vdepth (Err.fault op at_ e2).val
    rw [<- HQ.out,Err.vdepth_val,Err.vdepth_val]; exact Nat.lt_succ_self _
set_option maxRecDepth 100000 in
set_option maxHeartbeats 2000000 in
theorem As_c (er:Err) (ta:Addr) (old:Value) (w:World) (hg:EtLaid w) (hf:w.frozen? ta=false) (ht:w.cell? ta=some old) :
  Calls Tryz.prog 100 #[er.val,.iface 182 (.pointer (some ta))] w
   fun e w'=>(er.lost=false/\e=.returned (.bool true)/\w'.cell? ta=some (.int .i64 er.kind)/\Only (fun k=>k=ta.block) w w')\/(er.lost=true/\e=.returned (.bool false)/\Ext w w'):=by
 obtain ⟨t2,v2,hq⟩:∃ t v,er.val=.iface t v:=by cases er<;>exact ⟨_,_,rfl⟩
 have HQ:=hid hq
 rw [hq]
 have htl:=World.block_lt_of_cell? w _ ht
 have hgl:=World.block_lt_of_cell? w _ hg
 have x103:=@run_callFunc_extern Tryz.prog 167 _ (ReflectliteValue.methodAny (ReflectliteValue.valueError "reflectlite.Value.Type" 0) (fun t _ _ _=>ReflectliteType.toType t)) Tryz.func167 (by kernel_rfl) (by kernel_rfl) (by kernel_rfl) (by kernel_rfl)
 have x104:=@run_callFunc_extern Tryz.prog 168 _ (ReflectliteValue.method (ReflectliteValue.valueError "reflectlite.Value.IsNil" 0) ReflectliteValue.isNil) Tryz.func168 (by kernel_rfl) (by kernel_rfl) (by kernel_rfl) (by kernel_rfl)
 have x102:=@run_callFunc_extern Tryz.prog 166 _ (fun args=>ReflectliteValue.unpack (args.getD 0 (.tuple #[]))) Tryz.func166 (by kernel_rfl) (by kernel_rfl) (by kernel_rfl) (by kernel_rfl)
 have x127:=@run_callFunc_extern Tryz.prog 247 _ (ReflectliteType.abiMethod fun t=>do pure (.int .u8 (<- Rtype.kind t))) Tryz.func247 (by kernel_rfl) (by kernel_rfl) (by kernel_rfl) (by kernel_rfl)
 have x143:=@run_callFunc_extern Tryz.prog 263 _ (ReflectliteType.method ReflectliteType.elem) Tryz.func263 (by kernel_rfl) (by kernel_rfl) (by kernel_rfl) (by kernel_rfl)
 have x144:=@run_callFunc_extern Tryz.prog 264 _ (ReflectliteType.relation "Implements" ReflectliteType.implements_) Tryz.func264 (by kernel_rfl) (by kernel_rfl) (by kernel_rfl) (by kernel_rfl)
 have vP:=ErrFacts.valueOfP
 have tP:=ErrFacts.typeP
 have kP:=ErrFacts.kindP
 have kE:=ErrFacts.kindE
 have eP:=ErrFacts.elemP
 have iE:=ErrFacts.implE
 have hg1:((w.alloc (.cells #[.pointer (some ta)] 182)).alloc (.cells #[.pointer (some ⟨1,182,none⟩),.pointer (some ⟨w.heap.size,0,none⟩),.int .u64 150] 247)).cell? ⟨0,0,none⟩=some (.iface 288 (.agg #[.pointer (some ⟨1,25,none⟩)])):=by
  rw [World.cell?_alloc_lt _ _ ⟨0,0,none⟩ (by simp),World.cell?_alloc_lt _ _ ⟨0,0,none⟩ hgl]; exact hg
 have n8:=ErrFacts.isNilP ⟨w.heap.size,0,none⟩ ta ((w.alloc (.cells #[.pointer (some ta)] 182)).alloc (.cells #[.pointer (some ⟨1,182,none⟩),.pointer (some ⟨w.heap.size,0,none⟩),.int .u64 150] 247)) (by simp)
 clear hq
 go_enter Tryz.func100,Tryz.ntmps100
 go_wp2_with (go_at_call 169; fail)
 have ht1:((w.alloc (.cells #[.pointer (some ta)] 182)).alloc (.cells #[.pointer (some ⟨1,182,none⟩),.pointer (some ⟨w.heap.size,0,none⟩),.int .u64 150] 247)).cell? ta=some old:=by
  rw [World.cell?_alloc_lt _ _ ta (by simp; omega),World.cell?_alloc_lt _ _ ta htl]; exact ht
 have hf1:((w.alloc (.cells #[.pointer (some ta)] 182)).alloc (.cells #[.pointer (some ⟨1,182,none⟩),.pointer (some ⟨w.heap.size,0,none⟩),.int .u64 150] 247)).frozen? ta=false:=by
  rw [World.frozen?_alloc_old _ _ ta (by simp; omega),World.frozen?_alloc_old _ _ ta (Nat.ne_of_lt htl)]; exact hf
 have hX:=((Ext.refl w).alloc (.cells #[.pointer (some ta)] 182)).alloc (.cells #[.pointer (some ⟨1,182,none⟩),.pointer (some ⟨w.heap.size,0,none⟩),.int .u64 150] 247)
 refine Calls.mono (by rw [<- HQ.out]; exact as_c er ta ⟨w.heap.size,0,none⟩ old _ hf1 ht1 (by simp)) ?_
 rintro e w' (⟨hl,rfl,hc,ho⟩ | ⟨hl,rfl,ho⟩)
 ·
  have HC:=hid hc; have HO:=hid ho; have HL:=hid hl
  clear hc ho ht1 hf1 hg1 n8 hl
  go_wp2
  go_ret
  exact .inl ⟨HL.out,rfl,HC.out,Only.trans (Ext.only hX) HO.out (fun i _ h=>h)⟩
 ·
  have HO:=hid ho; have HL:=hid hl
  clear ho ht1 hf1 hg1 n8 hl
  go_wp2
  go_ret
  exact .inr ⟨HL.out,rfl,Ext.trans hX HO.out⟩
theorem eql_types (t t':TypeId) (v v':Value) (h:t≠t') (w:World):(binOp .eql 25 (.iface t v) (.iface t' v')).run Tryz.prog w=.ok (.bool false) w:=by
 have h0:∀ d:Nat,(Op.equalIn (d+1) 25 (.iface t v) (.iface t' v')).run Tryz.prog w=.ok false w:=fun d=>by simp [Op.equalIn,run_underlying Tryz.underlying25,h]
 simp only [binOp]
 simp [Op.equal,Op.maxDepth,h0 9999]
theorem compE2 (w:World):Sem.run Tryz.prog (ReflectliteType.method (fun t=>do Rtype.noPackHeld "Comparable" t; (fun a=>Value.bool a.comparable) <$> typeInfo t) #[.agg #[.pointer (some ⟨1,31,none⟩)]]) w=.ok (.bool true) w:=by kernel_rfl
theorem eql_errno (w:World):Sem.run Tryz.prog (binOp .eql 25 (.iface 31 (.int .i64 6)) (.iface 31 (.int .i64 6))) w=.ok (.bool true) w:=by kernel_rfl
set_option maxRecDepth 100000 in
set_option maxHeartbeats 2000000 in
theorem is_lost (er:Err) (hl:er.lost=true) (w:World) :
  Calls Tryz.prog 171 #[er.val,.iface 31 (.int .i64 6),.bool true] w fun e w'=>e=.returned (.bool true)/\Ext w w':=by
 have hF:=fun v=>eql_types 241 31 v (.int .i64 6) (by decide)
 have hL:=fun v=>eql_types 127 31 v (.int .i64 6) (by decide)
 have hE6:=eql_errno
 have nI:=ErrFacts.noIsF
 have hI:=ErrFacts.hasIsL
 have hU:=ErrFacts.hasUnwrap
 have HL:=hid hl
 clear hl
 go_enter Tryz.func171,Tryz.ntmps171
 go_wp2
 go_loopw [0] (fun v wr=>∃ e':Err,v=e'.val/\e'.lost=true/\Ext w wr) (fun v _=>Err.vdepth v)
 case atStart=>exact ⟨er,rfl,HL.out,Ext.refl _⟩
 case round =>
  obtain ⟨e',rfl,hk,hx⟩:=hrel
  rcases e' with n | ⟨lg,lh,ln⟩ | ⟨op,at_,e2⟩
  ·
   cases hk
  ·
   have hv:(Err.loss lg lh ln).val=.iface 127 (.agg #[.int .i64 lg,.int .i64 lh,.int .i64 ln]):=rfl
   have HX:=hid hx
   clear hk hx
   go_wp2
   --M1
   go_ret
   exact ⟨rfl,HX.out.alloc _⟩
  ·
   have hv:(Err.fault op at_ e2).val=.iface 241 (.agg #[.string op,.int .i64 at_,e2.val]):=rfl
   have hk':Hid (e2.lost=true):=hid hk
   obtain ⟨t2,v2,hq⟩:=e2.iface
   rw [hq] at hv
   have HQ:=hid hq
   have HX:=hid hx
   clear hk hx hq
   go_wp2
   --M2
   go_roundw
   case rel=>exact ⟨e2,HQ.out.symm,hk'.out,HX.out.alloc _⟩
   case measure =>
    show Err.vdepth (.iface t2 v2) < Err.vdepth (Err.fault op at_ e2).val
    rw [<- HQ.out,Err.vdepth_val,Err.vdepth_val]; exact Nat.lt_succ_self _
set_option maxRecDepth 100000 in
set_option maxHeartbeats 2000000 in
theorem Is_lost (er:Err) (hl:er.lost=true) (w:World) :
  Calls Tryz.prog 101 #[er.val,.iface 31 (.int .i64 6)] w fun e w'=>e=.returned (.bool true)/\Ext w w':=by
 have x106:=@run_callFunc_extern Tryz.prog 170 _ ReflectliteType.typeOf Tryz.func170 (by kernel_rfl) (by kernel_rfl) (by kernel_rfl) (by kernel_rfl)
 have xC:=@run_callFunc_extern Tryz.prog 262 _ (ReflectliteType.method (fun t=>do Rtype.noPackHeld "Comparable" t; pure (.bool (<- typeInfo t).comparable))) Tryz.func262 (by kernel_rfl) (by kernel_rfl) (by kernel_rfl) (by kernel_rfl)
 have tE:=ErrFacts.typeOfE
 have cE:=compE2
 have HL:=hid (is_lost er hl)
 obtain ⟨t2,v2,hq⟩:=er.iface
 rw [hq] at HL ⊢
 clear hl hq
 go_enter Tryz.func101,Tryz.ntmps101
 go_wp2_with (go_at_call 171; refine (HL.out _).mono ?_; rintro e w' ⟨rfl,hx⟩)
 --M3
 go_ret
 exact ⟨rfl,hx⟩
set_option maxRecDepth 100000 in
set_option maxHeartbeats 2000000 in
theorem kind_err (er:Err) (w:World) (hg:EtLaid w):Calls Tryz.prog 11 #[er.val] w fun e w'=>e=.returned (.int .i64 er.kind)/\Ext w w':=by
 obtain ⟨t2,v2,hq⟩:=er.iface
 have HQ:=hid hq
 have HI:=hid (Is_lost er)
 have HK:=hid (@Err.kind_lost er)
 rw [hq]
 rw [hq] at HI
 have HG:=hid hg
 clear hq hg
 go_enter Tryz.func11,Tryz.ntmps11
 go_wp2_with (go_at_call 100; fail)
 have hg1:=HG.out.only ((Ext.refl w).alloc (.cells #[.int .i64 0] 31)) (fun x=>x)
 have hX:=(Ext.refl w).alloc (.cells #[.int .i64 0] 31)
 refine Calls.mono (by rw [<- HQ.out]; exact As_c er ⟨w.heap.size,0,none⟩ (.int .i64 0) _ hg1 (by simp) (by simp)) ?_
 rintro e w' (⟨hl,rfl,hc,ho⟩ | ⟨hl,rfl,ho⟩)
 ·
  have HO:=hid ho
  clear ho hg1 hl
  go_wp2
  go_ret
  exact ⟨rfl,Ext.then hX HO.out (fun i hi e=>by have:i=w.heap.size:=e; omega)⟩
 ·
  have HO:=hid (Ext.trans hX ho)
  have HL:=hid hl
  clear ho hg1 hl hX
  go_wp2_with (go_at_call 101; refine (HI.out HL.out _).mono ?_; rintro e w2 ⟨rfl,hx⟩; have HX2:=hid hx; clear hx)
  go_ret
  exact ⟨ret_int (HK.out HL.out).symm,Ext.trans HO.out HX2.out⟩
set_option maxRecDepth 100000 in
theorem As_nilE (t:Value) (w:World):Calls Tryz.prog 100 #[.nilIface,t] w fun e w'=>e=.returned (.bool false)/\w=w':=by
 go_enter Tryz.func100,Tryz.ntmps100
 go_wp2
 go_ret
 exact ⟨rfl,rfl⟩
theorem eql_nil_iface (t:TypeId) (v:Value) (w:World):(binOp .eql 25 .nilIface (.iface t v)).run Tryz.prog w=.ok (.bool false) w:=by
 have h:∀ d:Nat,(Op.equalIn (d+1) 25 .nilIface (.iface t v)).run Tryz.prog w=.ok false w:=fun d=>by simp [Op.equalIn,run_underlying Tryz.underlying25]
 simp only [binOp]
 simp [Op.equal,Op.maxDepth,h 9999]
set_option maxRecDepth 100000 in
theorem Is_nil (t:TypeId) (v:Value) (w:World):Calls Tryz.prog 101 #[.nilIface,.iface t v] w fun e w'=>e=.returned (.bool false)/\w=w':=by
 have hE:=eql_nil_iface t v
 go_enter Tryz.func101,Tryz.ntmps101
 go_wp2
 go_ret
 exact ⟨rfl,rfl⟩
set_option maxRecDepth 100000 in
set_option maxHeartbeats 2000000 in
theorem kind_nil (w:World):Calls Tryz.prog 11 #[.nilIface] w fun e w'=>e=.returned (.int .i64 0)/\Ext w w':=by
 go_enter Tryz.func11,Tryz.ntmps11
 go_wp2_with (first
  | (go_at_call 100; refine (As_nilE _ _).mono ?_; rintro e w' ⟨rfl,rfl⟩)
  | (go_at_call 101; refine (Is_nil _ _ _).mono ?_; rintro e w' ⟨rfl,rfl⟩))
 go_ret
 exact ⟨rfl,(Ext.refl w).alloc _⟩
open Go Go.RowKit
end Go.Proofs.YtgjnnbomnoafcaaGreatDoor
