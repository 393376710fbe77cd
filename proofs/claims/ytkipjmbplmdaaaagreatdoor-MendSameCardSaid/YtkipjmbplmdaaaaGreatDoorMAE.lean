/- Texts of one proof, joined: IsDown, MendE, MendX, MendOpened, WMendRuns. -/
import Derived.Test.YtkipjmbplmdaaaaGreatDoorMAB
import Derived.Test.YtkipjmbplmdaaaaGreatDoorMC
import Derived.Test.YtkipjmbplmdaaaaGreatDoorMA
import Derived.LaidEql
import Derived.Handy
import Derived.Stop.Asserts
import Derived.RowKitTokens
import Derived.Test.YtkipjmbplmdaaaaGreatDoorMAD
import Derived.Test.YtkipjmbplmdaaaaGreatDoorMU
import Derived.Test.YtkipjmbplmdaaaaGreatDoorMF
import Derived.Test.YtkipjmbplmdaaaaGreatDoorMW
import Derived.Test.YtkipjmbplmdaaaaGreatDoorMV
import Derived.Test.YtkipjmbplmdaaaaGreatDoorMJ
set_option linter.unusedVariables false
set_option linter.unusedSimpArgs false
namespace Go.Proofs.YtkipjmbplmdaaaaGreatDoor
set_option linter.unusedVariables false
open Go.RowKit Go.Extern.Stop Go.Stop Go.Extern Go
namespace IsD
theorem noIsF (v:Value) (w:World):Sem.run Tryz.prog (Instr.typeAssert (.iface 122 v) 37 182 true) w=.ok (.tuple #[.nilIface,.bool false]) w :=
 run_typeAssert_lacksB Tryz.underlying182 (by kernel_rfl) (by kernel_rfl) v _ w
theorem hasIsL (v:Value) (w:World):Sem.run Tryz.prog (Instr.typeAssert (.iface 41 v) 37 182 true) w=.ok (.tuple #[.iface 41 v,.bool true]) w:=by kernel_rfl
theorem noUnwrapL (v:Value) (w:World):Sem.run Tryz.prog (Instr.typeAssert (.iface 41 v) 37 185 true) w=.ok (.tuple #[.nilIface,.bool false]) w :=
 run_typeAssert_lacksB Tryz.underlying185 (by kernel_rfl) (by kernel_rfl) v _ w
theorem noUnwrapsL (v:Value) (w:World):Sem.run Tryz.prog (Instr.typeAssert (.iface 41 v) 37 186 true) w=.ok (.tuple #[.nilIface,.bool false]) w :=
 run_typeAssert_lacksB Tryz.underlying186 (by kernel_rfl) (by kernel_rfl) v _ w
theorem typeOfE (v:Value) (w:World):(ReflectliteType.typeOf #[.iface 59 v]).run Tryz.prog w=.ok (.iface 180 (.agg #[.pointer (some ⟨Tryz.prog.globals.size,59,none⟩)])) w:=by kernel_rfl
theorem hasUnwrap (v:Value) (w:World):Sem.run Tryz.prog (Instr.typeAssert (.iface 122 v) 37 185 true) w=.ok (.tuple #[.iface 122 v,.bool true]) w:=by kernel_rfl
theorem eql_types (t t':TypeId) (v v':Value) (h:t≠t') (w:World):(binOp .eql 37 (.iface t v) (.iface t' v')).run Tryz.prog w=.ok (.bool false) w:=by
 have h0:∀ d:Nat,(Op.equalIn (d+1) 37 (.iface t v) (.iface t' v')).run Tryz.prog w=.ok false w:=fun d=>by simp [Op.equalIn,run_underlying Tryz.underlying37,h]
 simp only [binOp]
 simp [Op.equal,Op.maxDepth,h0 9999]
theorem compE2 (w:World):Sem.run Tryz.prog (ReflectliteType.method (fun t=>do Rtype.noPackHeld "Comparable" t; (fun a=>Value.bool a.comparable) <$> typeInfo t) #[.agg #[.pointer (some ⟨Tryz.prog.globals.size,59,none⟩)]]) w=.ok (.bool true) w:=by kernel_rfl
theorem Zcz (t:TypeId) (v:Value) (w:World):(binOp .eql 37 .nilIface (.iface t v)).run Tryz.prog w=.ok (.bool false) w:=by
 have h:∀ d:Nat,(Op.equalIn (d+1) 37 .nilIface (.iface t v)).run Tryz.prog w=.ok false w:=fun d=>by simp [Op.equalIn,run_underlying Tryz.underlying37]
 simp only [binOp]
 simp [Op.equal,Op.maxDepth,h 9999]
set_option maxRecDepth 100000 in
theorem Is_nil (t:TypeId) (v:Value) (w:World):Calls Tryz.prog 45 #[.nilIface,.iface t v] w fun e w'=>e=.returned (.bool false)/\w=w':=by
 have hE:=Zcz t v
 go_enter Tryz.func45,Tryz.ntmps45
 go_wp2
 go_ret
 exact ⟨rfl,rfl⟩
theorem noIsE (v:Value) (w:World):Sem.run Tryz.prog (Instr.typeAssert (.iface 59 v) 37 182 true) w=.ok (.tuple #[.nilIface,.bool false]) w :=
 run_typeAssert_lacksB Tryz.underlying182 (by kernel_rfl) (by kernel_rfl) v _ w
theorem noUnwrapE (v:Value) (w:World):Sem.run Tryz.prog (Instr.typeAssert (.iface 59 v) 37 185 true) w=.ok (.tuple #[.nilIface,.bool false]) w :=
 run_typeAssert_lacksB Tryz.underlying185 (by kernel_rfl) (by kernel_rfl) v _ w
theorem noUnwrapsE (v:Value) (w:World):Sem.run Tryz.prog (Instr.typeAssert (.iface 59 v) 37 186 true) w=.ok (.tuple #[.nilIface,.bool false]) w :=
 run_typeAssert_lacksB Tryz.underlying186 (by kernel_rfl) (by kernel_rfl) v _ w
theorem eql_errnos (n k:Int) (w:World):Sem.run Tryz.prog (binOp .eql 37 (.iface 59 (.int .i64 n)) (.iface 59 (.int .i64 k))) w=.ok (.bool (n == k)) w:=by
 have hcm:Tryz.t59.comparable=true:=by kernel_rfl
 have h0:∀ d:Nat,(Op.equalIn (d+2) 37 (.iface 59 (.int .i64 n)) (.iface 59 (.int .i64 k))).run Tryz.prog w=.ok (n == k) w:=fun d=>by
  simp [Op.equalIn,run_underlying Tryz.underlying37,run_underlying Tryz.underlying59,hcm]
 simp only [binOp]
 simp [Op.equal,Op.maxDepth,h0 9998]
set_option maxRecDepth 100000 in
set_option maxHeartbeats 2000000 in
theorem is_down (er:Err) (w:World) :
  Calls Tryz.prog 79 #[er.val,.iface 59 (.int .i64 5),.bool true] w fun e w'=>e=.returned (.bool er.isDown)/\Ext w w':=by
 have hF:=fun v=>eql_types 122 59 v (.int .i64 5) (by decide)
 have hL:=fun v=>eql_types 41 59 v (.int .i64 5) (by decide)
 have hE56:∀ w,Sem.run Tryz.prog (binOp .eql 37 (.iface 59 (.int .i64 5)) (.iface 59 (.int .i64 6))) w=.ok (.bool false) w:=fun w=>eql_errnos 5 6 w
 have nI:=noIsF
 have hI:=hasIsL
 have hU:=hasUnwrap
 go_enter Tryz.func79,Tryz.ntmps79
 go_wp2
 go_loopw [0] (fun v wr=>∃ e':Err,v=e'.val/\e'.isDown=er.isDown/\Ext w wr) (fun v _=>Err.vdepth v)
 case atStart=>exact ⟨er,rfl,rfl,Ext.refl _⟩
 case round =>
  obtain ⟨e',rfl,hk,hx⟩:=hrel
  rcases e' with n | ⟨lg,lh,ln⟩ | ⟨op,at_,e2⟩
  ·
   have hv:(Err.no n).val=.iface 59 (.int .i64 n):=rfl
   have hk':Hid ((n == 5)=er.isDown):=hid hk
   have hE:=eql_errnos n 5
   have HX:=hid hx
   clear hk hx
   rcases hn:(n == 5) with _ | _
   ·
    rw [hn] at hk'
    have nIE:=noIsE
    have nUE:=noUnwrapE
    have nVE:=noUnwrapsE
    go_wp2
    go_ret
    exact ⟨Za5 hk'.out,HX.out⟩
   ·
    rw [hn] at hk'
    go_wp2
    go_ret
    exact ⟨Za5 hk'.out,HX.out⟩
  ·
   have hv:(Err.loss lg lh ln).val=.iface 41 (.agg #[.int .i64 lg,.int .i64 lh,.int .i64 ln]):=rfl
   have hk':Hid (false=er.isDown):=hid hk
   have nU:=noUnwrapL
   have nV:=noUnwrapsL
   have HX:=hid hx
   clear hk hx
   go_wp2
   go_ret
   exact ⟨Za5 hk'.out,HX.out.alloc _⟩
  ·
   have hv:(Err.fault op at_ e2).val=.iface 122 (.agg #[.string op,.int .i64 at_,e2.val]):=rfl
   have hk':Hid (e2.isDown=er.isDown):=hid hk
   obtain ⟨t2,v2,hq⟩:=e2.iface
   rw [hq] at hv
   have HQ:=hid hq
   have HX:=hid hx
   clear hk hx hq
   go_wp2
   go_roundw
   case rel=>exact ⟨e2,HQ.out.symm,hk'.out,HX.out.alloc _⟩
   case measure =>
    show Err.vdepth (.iface t2 v2) < Err.vdepth (Err.fault op at_ e2).val
    rw [<- HQ.out,Err.vdepth_val,Err.vdepth_val]; exact Nat.lt_succ_self _
set_option maxRecDepth 100000 in
set_option maxHeartbeats 2000000 in
theorem Is_down (er:Err) (w:World) :
  Calls Tryz.prog 45 #[er.val,.iface 59 (.int .i64 5)] w fun e w'=>e=.returned (.bool er.isDown)/\Ext w w':=by
 have x106:=@run_callFunc_extern Tryz.prog 78 _ ReflectliteType.typeOf Tryz.func78 (by kernel_rfl) (by kernel_rfl) (by kernel_rfl) (by kernel_rfl)
 have xC:=@run_callFunc_extern Tryz.prog 179 _ (ReflectliteType.method (fun t=>do Rtype.noPackHeld "Comparable" t; pure (.bool (<- typeInfo t).comparable))) Tryz.func179 (by kernel_rfl) (by kernel_rfl) (by kernel_rfl) (by kernel_rfl)
 have tE:=typeOfE
 have cE:=compE2
 generalize Tryz.prog.globals.size=GL at tE cE
 have HL:=hid (is_down er)
 obtain ⟨t2,v2,hq⟩:=er.iface
 rw [hq] at HL ⊢
 clear hq
 go_enter Tryz.func45,Tryz.ntmps45
 go_wp2_with (go_at_call 79; refine (HL.out _).mono ?_; rintro e w' ⟨rfl,hx⟩)
 go_ret
 exact ⟨rfl,hx⟩
end IsD
open Go Go.RowKit
attribute [local irreducible] wpSQ
structure MTickPost (S:Nat->Prop) (w:World) (r g p:Nat) (q:MTick) (e:Ending) (w':World):Prop where
 ret:e=.returned (.tuple #[.int .i64 q.n,oErr q.err])
 rack:RackAt S w' r q.R
 vol:VolAt w' g r q.v
 mend:MendAt w' p g q.at_
 only:Only (fun b=>¬S b\/b=g\/b=p) w w'
theorem MendAt.keep {S:Nat->Prop} {w w':World} {p g:Nat} {a:Int} (h:MendAt w p g a) (k:Keeps S w w') (hp:S p):MendAt w' p g a:=k.at h fun q=>q hp
set_option maxRecDepth 100000 in
set_option maxHeartbeats 4000000 in
theorem mtick_c {S:Nat->Prop} {w:World} {r g p:Nat} {R:Rck} {v:Vol} {a:Int} (h:RackAt S w r R) (hv:VolAt w g r v) (hm:MendAt w p g a) (hg:S g) (hp:S p) (hpg:p≠g) (hgd:v.c.Good) (ha0:0<=a) (ha1:a < v.c.groups) :
  Calls Tryz.prog 14 #[.pointer (some ⟨p,0,none⟩)] w (MTickPost S w r g p (v.tick R a)):=by
 have hzc:=Zbz
 have HCS:=hid Cfg.A_size
 have H:=hid h; have HV:=hid hv; have HM:=hid hm; have HSG:=hid hg; have HSP:=hid hp; have HPG:=hid hpg; have HGD:=hid hgd
 obtain ⟨c,hc⟩:∃ c,v.c=c:=⟨_,rfl⟩
 have HC:=hid hc
 have hsl:c.slots<=4:=hc▸hgd.sl1
 have hsl0:1<=c.slots:=hc▸hgd.sl0
 have hst:c.stripes<=64:=hc▸hgd.st1
 have hst0:1<=c.stripes:=hc▸hgd.st0
 rw [hc] at ha1
 have ha2:a < 1+c.slots+c.stripes:=ha1
 have w1:wrap64 (a+1)=a+1:=by unfold wrap64; omega
 have w2:wrap64 (a - 1)=a - 1:=by unfold wrap64; omega
 have w3:IntKind.i64.wrap (a - 1 - c.slots)=a - 1 - c.slots:=by rw [IntKind.wrap_i64]; omega
 have w4:(a+1).tmod c.groups=(a+1) % c.groups:=Int.tmod_eq_emod_of_nonneg (by omega)
 have w5:¬c.groups=0:=by unfold Cfg.groups; omega
 have W1:=hid w1; have W2:=hid w2; have W3:=hid w3; have W4:=hid w4; have W5:=hid w5
 have PW:=hid (lt_of_block hm)
 have GW:=hid (lt_of_block hv)
 have HTK:Hid (v.down=false->R.off=false->v.tick R a=⟨(Vol.group c R a).2.1,(Vol.group c R a).1.map (.fault sMTick a),(Vol.group c R a).2.2,if ((Vol.group c R a).1.map Err.isDown).getD false=true then ⟨c,v.seq,true⟩ else v,(a+1) % c.groups⟩):=hid fun h1 h2=>by
  unfold Vol.tick
  rw [if_neg (by rw [h1,h2]; simp),hc]
 have HTD:Hid (v.down=true\/R.off=true->v.tick R a=⟨0,some (.fault sMTick a (.no 5)),R,v,a⟩):=hid fun q=>by unfold Vol.tick; rw [if_pos q]
 have xd:Ext w w.drew:=(Ext.refl w).drew
 have HXD:=hid xd
 have m0:∀ x:SW (Only fun b=>w.heap.size<=b) w.drew,x.w.cell? ⟨p,0,none⟩=some (.pointer (some ⟨g,0,none⟩)):=fun x=>x.ext.cell (HXD.out.cell HM.out.c0) (fun q=>by have:=PW.out; have q:w.heap.size<=p:=q; omega)
 have m1:∀ x:SW (Only fun b=>w.heap.size<=b) w.drew,x.w.cell? ⟨p,1,none⟩=some (.int .i64 a):=fun x=>x.ext.cell (HXD.out.cell HM.out.c1) (fun q=>by have:=PW.out; have q:w.heap.size<=p:=q; omega)
 have C1:Hid (∀ x:SW (Only fun b=>w.heap.size<=b) w.drew,Calls Tryz.prog 39 #[.pointer (some ⟨g,0,none⟩)] x.w fun e w''=>e=.returned (.agg (Cfg.A c))/\Ext x.w w''):=hid fun x=>by
  have:=vconfig_c (w:=x.w) (g:=g) (r:=r) (v:=v) (x.ext.at (HV.out.ext HXD.out) (fun q=>by have:=GW.out; have q:w.heap.size<=g:=q; omega))
  rw [HC.out] at this; exact this
 clear h hv hm hg hp hpg hgd hc w1 w2 w3 w4 w5 xd
 go_enter Tryz.func14,Tryz.ntmps14
 go_wp2_with fail
 refine Zav (E:=Ext) (S:=Only fun b=>w.heap.size<=b) (.one [0,1,2,3,4,5,6,7,8] 9 (.one [] 10 (.fin [11]))) (by kernel_rfl) (by kernel_rfl) (fun _ _ d _ _ h=>by cases d<;>exact h) ?_
 rw [wpS]
 simp only [opsAt,opA,opB,opC,opD,opE,opF,opG]
 iterate 4 ((refine Zab (fun K hK=>?_); go_simp; refine hK _ ?_; clear hK K))
 (refine Zab (fun K hK=>?_); go_simp; (apply Exists.intro; refine ⟨fun x=>?_,hK _ ?_⟩; (exact C1.out x); clear hK K))
 iterate 4 ((refine Zab (fun K hK=>?_); go_simp; refine hK _ ?_; clear hK K))
 refine Zah ?_
 intro V1 hV1
 have X1:=hid (Ext.trans HXD.out hV1)
 clear m0 m1 C1 HXD hV1
 refine Zax fun Q hQ=>?_
 go_wp2
 refine hQ _ _ (Ext.only ((Ext.refl V1).alloc _)) ?_
 clear hQ Q
 have hz1:(V1.alloc (.cells (Cfg.A Cfg.zero) 23)).heap[V1.heap.size]?=some (.cells (Cfg.A Cfg.zero) 23 (0,0)):=Zad
 have hg1:w.heap.size<=V1.heap.size:=X1.out.size
 have hx1:Ext w (V1.alloc (.cells (Cfg.A Cfg.zero) 23)):=X1.out.alloc _
 rw [wpS]
 simp only [opsAt,opA,opB,opC,opD,opE,opF,opG]
 refine Zah ?_
 intro V2 hV2
 have hz2:=hV2.at hz1
 have hx2:=Ext.trans hx1 hV2
 generalize V1.heap.size=gc at *
 have HGC:=hid hg1; have HZ2:=hid hz2
 obtain ⟨V3,hW3⟩:∃ W,V2.setRow gc (Cfg.A c)=W:=⟨_,rfl⟩
 have hx3:=(show Ext w V3 from hW3▸Ext.then hx2 (Zaf V2 gc (Cfg.A c)) (fun i hi=>by have:=HGC.out; omega))
 have hg3:=(show V3.heap[gc]?=some (.cells (Cfg.A c) 23 (0,0)) from hW3▸setRow_heap V2 gc _ _ _ _ hz2)
 have HO3:=hid (show Only (fun b=>w.heap.size<=b) V2 V3 from hW3▸(Zaf V2 gc (Cfg.A c)).mono fun i _ e=>by have:=HGC.out; have e:i=gc:=e; omega)
 have HW3:=hid hW3; have HX3:=hid hx3; have HG3:=hid hg3
 clear hz1 hg1 hx1 hV2 hz2 hx2 hW3 X1 hx3 hg3
 refine Zax fun Q hQ=>?_
 go_wp2_with (guard_target=wpList _ _ _ (⟨none,Op.store _ _ _,_,_,_,none⟩::_) _ _; refine Zaa rfl 23 _ _ rfl gc rfl (Cfg.A c) _ rfl 23 ?_ HZ2.out ?_ ?_ ?_; (rw [HCS.out]; exact aggCfg); (rw [HCS.out,HCS.out]); exact Cfg.A_one _)
 rw [HW3.out]
 refine hQ _ _ HO3.out ?_
 clear hQ Q HW3 HO3 HZ2
 rw [wpS]
 simp only [opsAt,opA,opB,opC,opD,opE,opF,opG]
 (refine Zab (fun K hK=>?_); go_simp; refine hK _ ?_; clear hK K)
 refine Zah ?_
 intro V4 hV4
 have X4:=hid (Ext.trans HX3.out hV4)
 have HG4:=hid (hV4.at HG3.out)
 have HM4:=hid (HM.out.ext X4.out)
 have HV4:=hid (HV.out.ext X4.out)
 have H4:=hid (H.out.ext X4.out)
 clear hV4 HX3 HG3
 have m0:=HM4.out.c0
 obtain ⟨dn,hdn⟩:∃ dn,v.down=dn:=⟨_,rfl⟩
 have HDN:=hid hdn
 have HWD:=hid (Zar sMTick a (.no 5))
 simp only [Err.val] at HWD
 go_wp2_with fail
 refine (vdown_c HV4.out).mono ?_
 rintro e V5 ⟨rfl,rfl⟩
 rw [HDN.out]
 rcases dn with _ | _
 case true =>
  have HT:=hid (HTD.out (.inl HDN.out))
  go_wp2_with fail
  refine (HWD.out V4).mono ?_
  rintro e V5 ⟨rfl,rfl⟩
  go_wp2
  go_ret2
  rw [HT.out]
  exact ⟨rfl,H4.out,HV4.out,HM4.out,Ext.only X4.out⟩
 go_wp2_with fail
 refine (vrack_c HV4.out).mono ?_
 rintro e V5 ⟨rfl,rfl⟩
 obtain ⟨off,hoff⟩:∃ off,R.off=off:=⟨_,rfl⟩
 have HOF:=hid hoff
 clear hoff hdn
 go_wp2_with fail
 refine (at_off H4.out).mono ?_
 rintro e V5 ⟨rfl,rfl⟩
 rw [HOF.out]
 rcases off with _ | _
 case true =>
  have HT:=hid (HTD.out (.inr HOF.out))
  clear m0
  go_wp2_with fail
  refine (HWD.out V4).mono ?_
  rintro e V5 ⟨rfl,rfl⟩
  go_wp2
  go_ret2
  rw [HT.out]
  exact ⟨rfl,H4.out,HV4.out,HM4.out,Ext.only X4.out⟩
 have HT:=hid (HTK.out HDN.out HOF.out)
 clear HTD HTK HWD m0
 have w1:=W1.out
 go_wp2_with (guard_target=wpList _ _ _ (⟨some _,Op.load _ _,_,_,_,none⟩::_) _ _; refine Zac rfl 23 _ rfl ⟨gc,0,none⟩ rfl (Cfg.A c) (Zap c) (Zae HG4.out) ?_)
 refine (mgroups_c c (by rw [<- HC.out]; exact HGD.out) V4).mono ?_
 rintro e V5 ⟨rfl,x5⟩
 have X5:=hid (Ext.trans X4.out x5)
 have HG5:=hid (x5.at HG4.out)
 have HM5:=hid (HM4.out.ext x5)
 have HV5:=hid (HV4.out.ext x5)
 have H5:=hid (H4.out.ext x5)
 have HGL:=hid (show gc < V5.heap.size from lt_of_block (x5.at HG4.out))
 clear x5 w1 HG4 X4 HM4 HV4 H4
 obtain ⟨GN,hGN⟩:∃ GN,c.groups=GN:=⟨_,rfl⟩
 obtain ⟨A2,hA2⟩:∃ A2,(a+1) % GN=A2:=⟨_,rfl⟩
 have w4:=W4.out; have w5:=W5.out
 rw [hGN] at w4 w5
 rw [hA2] at w4
 have HGN:=hid hGN; have HA2:=hid hA2
 rw [hGN]
 clear hGN hA2
 have m1:=HM5.out.c1
 have f1:V5.frozen? ⟨p,1,none⟩=false:=Zba HM5.out
 obtain ⟨V6,hV6⟩:∃ W,V5.setCell ⟨p,1,none⟩ (.int .i64 A2)=W:=⟨_,rfl⟩
 have HO6:=hid (show Only (fun b=>b=p) V5 V6 from hV6▸Zbq V5 p 1 (.int .i64 A2))
 have HM6:=hid (show MendAt V6 p g A2 from hV6▸HM5.out.set A2)
 have HV6:=hid (show VolAt V6 g r v from HO6.out.at HV5.out (fun e=>HPG.out (by have e:g=p:=e; exact e.symm)))
 have H6:=hid (show RackAt S V6 r R from H5.out.only HO6.out fun b e=>by have e:b=p:=e; rw [e]; exact HSP.out)
 have HG6:=hid (show V6.heap[gc]?=some (.cells (Cfg.A c) 23 (0,0)) from HO6.out.at HG5.out (fun e=>by have:=HGC.out; have:=PW.out; have e:gc=p:=e; omega))
 have HY6:=hid (show Only (fun b=>¬S b\/b=g\/b=p) w V6 from Only.trans (Ext.only X5.out) HO6.out (fun b _ e=>.inr (.inr e)))
 have HEV:=hid hV6
 clear hV6 HM5 HV5 H5 HG5 X5
 have w1:=W1.out
 go_upto_region 5 with (fail)
 rw [HEV.out]
 clear w1 w4 w5 m1 f1
 have HQ:Hid (v.tick R a=⟨(Vol.group c R a).2.1,(Vol.group c R a).1.map (.fault sMTick a),(Vol.group c R a).2.2,if ((Vol.group c R a).1.map Err.isDown).getD false=true then ⟨c,v.seq,true⟩ else v,A2⟩):=hid (by rw [HT.out,HGN.out,HA2.out])
 have c4:V6.cell? ⟨gc,4,none⟩=some (.int .i64 c.slots):=(Zag HG6.out).trans (Cfg.A4 c)
 clear HT HG6 HGC HGL
 by_cases h0:a=0
 ·
  subst h0
  have HGR:=hid (show Vol.group c R 0=R.msupers c from by unfold Vol.group; exact if_pos rfl)
  have w2:=W2.out; have w3:=W3.out
  go_wp2_with fail
  have HCT:=msupers_c H6.out HV6.out HM6.out
  rw [HC.out,<- HGR.out] at HCT
  refine HCT.mono ?_
  clear HCT w2 w3 c4
  rcases hq:Vol.group c R 0 with ⟨o,n,R'⟩
  rw [hq] at HQ
  have HQ2:=hid (show v.tick R 0=⟨n,o.map (.fault sMTick 0),R',if (o.map Err.isDown).getD false=true then ⟨c,v.seq,true⟩ else v,A2⟩ from HQ.out)
  clear HQ HGR hq
  rintro e V7 ⟨rfl,h7,k7⟩
  simp only at h7 ⊢
  have H7:=hid h7
  have HV7:=hid (HV6.out.keep k7 HSG.out)
  have HM7:=hid (HM6.out.keep k7 HSP.out)
  have HY7:=hid (show Only (fun b=>¬S b\/b=g\/b=p) w V7 from Only.trans HY6.out k7 fun b _ q=>.inl q)
  clear h7 k7 HV6 HM6 H6 HY6
  rcases o with _ | er
  ·
   have HWN:=hid (Zbx sMTick 0)
   simp only [oErr]
   go_wp2_with fail
   refine (IsD.Is_nil _ _ V7).mono ?_
   rintro e V8 ⟨rfl,rfl⟩
   go_wp2_with fail
   refine (HWN.out V7).mono ?_
   rintro e V8 ⟨rfl,rfl⟩
   go_wp2
   go_ret2
   rw [HQ2.out]
   exact ⟨rfl,H7.out,HV7.out,HM7.out,HY7.out⟩
  ·
   obtain ⟨et,ev,hev⟩:=er.iface
   have HID:=hid (IsD.Is_down er)
   have HWE:=hid (Zar sMTick 0 er)
   simp only [oErr]
   rw [hev] at HID HWE ⊢
   have HEE:=hid hev
   clear hev
   go_wp2_with fail
   refine (HID.out V7).mono ?_
   rintro e V8 ⟨rfl,x8⟩
   have H8:=hid (H7.out.ext x8)
   have HV8:=hid (HV7.out.ext x8)
   have HM8:=hid (HM7.out.ext x8)
   have HY8:=hid (Only.ext HY7.out x8)
   clear x8 H7 HV7 HM7 HY7 HID
   have m0:=HM8.out.c0
   rcases hd:er.isDown with _ | _
   ·
    have HD:=hid hd
    clear hd m0
    go_wp2_with fail
    refine (HWE.out V8).mono ?_
    rintro e V9 ⟨rfl,rfl⟩
    go_wp2
    go_ret2
    rw [HQ2.out]
    exact ⟨rfl,H8.out,by show VolAt V8 g r (if er.isDown=true then _ else v); rw [HD.out]; exact HV8.out,HM8.out,HY8.out⟩
   ·
    have HD:=hid hd
    clear hd
    go_wp2_with fail
    refine (vfail_c HV8.out).mono ?_
    rintro e V9 ⟨rfl,h9,k9⟩
    have HV9:=hid h9
    have H9:=hid (show RackAt S V9 r R' from H8.out.only k9 fun b e=>by have e:b=g:=e; rw [e]; exact HSG.out)
    have HM9:=hid (show MendAt V9 p g A2 from k9.at HM8.out (fun e=>HPG.out e))
    have HY9:=hid (show Only (fun b=>¬S b\/b=g\/b=p) w V9 from Only.trans HY8.out k9 fun b _ q=>.inr (.inl q))
    clear h9 k9 m0
    go_wp2_with fail
    refine (HWE.out V9).mono ?_
    rintro e V10 ⟨rfl,rfl⟩
    go_wp2
    go_ret2
    rw [HQ2.out]
    exact ⟨rfl,H9.out,by show VolAt V9 g r (if er.isDown=true then ⟨c,v.seq,true⟩ else v); rw [HD.out,<- HC.out]; exact HV9.out,HM9.out,HY9.out⟩
 have e0:(a == 0)=false:=by simpa using h0
 by_cases h1:a<=c.slots
 ·
  skip
  have HGR:=hid (show Vol.group c R a=R.mslot c (a - 1) from by unfold Vol.group; first | exact if_pos rfl | rw [if_neg h0,if_pos h1] | rw [if_neg h0,if_neg h1])
  have w2:=W2.out; have w3:=W3.out
  go_wp2_with fail
  have HCT:=mslot_c H6.out HV6.out HM6.out (a - 1)
  rw [HC.out,<- HGR.out] at HCT
  refine HCT.mono ?_
  clear HCT w2 w3 c4
  rcases hq:Vol.group c R a with ⟨o,n,R'⟩
  rw [hq] at HQ
  have HQ2:=hid (show v.tick R a=⟨n,o.map (.fault sMTick a),R',if (o.map Err.isDown).getD false=true then ⟨c,v.seq,true⟩ else v,A2⟩ from HQ.out)
  clear HQ HGR hq
  rintro e V7 ⟨rfl,h7,k7⟩
  simp only at h7 ⊢
  have H7:=hid h7
  have HV7:=hid (HV6.out.keep k7 HSG.out)
  have HM7:=hid (HM6.out.keep k7 HSP.out)
  have HY7:=hid (show Only (fun b=>¬S b\/b=g\/b=p) w V7 from Only.trans HY6.out k7 fun b _ q=>.inl q)
  clear h7 k7 HV6 HM6 H6 HY6
  rcases o with _ | er
  ·
   have HWN:=hid (Zbx sMTick a)
   simp only [oErr]
   go_wp2_with fail
   refine (IsD.Is_nil _ _ V7).mono ?_
   rintro e V8 ⟨rfl,rfl⟩
   go_wp2_with fail
   refine (HWN.out V7).mono ?_
   rintro e V8 ⟨rfl,rfl⟩
   go_wp2
   go_ret2
   rw [HQ2.out]
   exact ⟨rfl,H7.out,HV7.out,HM7.out,HY7.out⟩
  ·
   obtain ⟨et,ev,hev⟩:=er.iface
   have HID:=hid (IsD.Is_down er)
   have HWE:=hid (Zar sMTick a er)
   simp only [oErr]
   rw [hev] at HID HWE ⊢
   have HEE:=hid hev
   clear hev
   go_wp2_with fail
   refine (HID.out V7).mono ?_
   rintro e V8 ⟨rfl,x8⟩
   have H8:=hid (H7.out.ext x8)
   have HV8:=hid (HV7.out.ext x8)
   have HM8:=hid (HM7.out.ext x8)
   have HY8:=hid (Only.ext HY7.out x8)
   clear x8 H7 HV7 HM7 HY7 HID
   have m0:=HM8.out.c0
   rcases hd:er.isDown with _ | _
   ·
    have HD:=hid hd
    clear hd m0
    go_wp2_with fail
    refine (HWE.out V8).mono ?_
    rintro e V9 ⟨rfl,rfl⟩
    go_wp2
    go_ret2
    rw [HQ2.out]
    exact ⟨rfl,H8.out,by show VolAt V8 g r (if er.isDown=true then _ else v); rw [HD.out]; exact HV8.out,HM8.out,HY8.out⟩
   ·
    have HD:=hid hd
    clear hd
    go_wp2_with fail
    refine (vfail_c HV8.out).mono ?_
    rintro e V9 ⟨rfl,h9,k9⟩
    have HV9:=hid h9
    have H9:=hid (show RackAt S V9 r R' from H8.out.only k9 fun b e=>by have e:b=g:=e; rw [e]; exact HSG.out)
    have HM9:=hid (show MendAt V9 p g A2 from k9.at HM8.out (fun e=>HPG.out e))
    have HY9:=hid (show Only (fun b=>¬S b\/b=g\/b=p) w V9 from Only.trans HY8.out k9 fun b _ q=>.inr (.inl q))
    clear h9 k9 m0
    go_wp2_with fail
    refine (HWE.out V9).mono ?_
    rintro e V10 ⟨rfl,rfl⟩
    go_wp2
    go_ret2
    rw [HQ2.out]
    exact ⟨rfl,H9.out,by show VolAt V9 g r (if er.isDown=true then ⟨c,v.seq,true⟩ else v); rw [HD.out,<- HC.out]; exact HV9.out,HM9.out,HY9.out⟩
 ·
  skip
  have HGR:=hid (show Vol.group c R a=R.mstripe c (a - 1 - c.slots) from by unfold Vol.group; first | exact if_pos rfl | rw [if_neg h0,if_pos h1] | rw [if_neg h0,if_neg h1])
  have w2:=W2.out; have w3:=W3.out
  go_wp2_with fail
  have HCT:=mstripe_c H6.out HV6.out HM6.out (a - 1 - c.slots)
  rw [HC.out,<- HGR.out] at HCT
  refine HCT.mono ?_
  clear HCT w2 w3 c4
  rcases hq:Vol.group c R a with ⟨o,n,R'⟩
  rw [hq] at HQ
  have HQ2:=hid (show v.tick R a=⟨n,o.map (.fault sMTick a),R',if (o.map Err.isDown).getD false=true then ⟨c,v.seq,true⟩ else v,A2⟩ from HQ.out)
  clear HQ HGR hq
  rintro e V7 ⟨rfl,h7,k7⟩
  simp only at h7 ⊢
  have H7:=hid h7
  have HV7:=hid (HV6.out.keep k7 HSG.out)
  have HM7:=hid (HM6.out.keep k7 HSP.out)
  have HY7:=hid (show Only (fun b=>¬S b\/b=g\/b=p) w V7 from Only.trans HY6.out k7 fun b _ q=>.inl q)
  clear h7 k7 HV6 HM6 H6 HY6
  rcases o with _ | er
  ·
   have HWN:=hid (Zbx sMTick a)
   simp only [oErr]
   go_wp2_with fail
   refine (IsD.Is_nil _ _ V7).mono ?_
   rintro e V8 ⟨rfl,rfl⟩
   go_wp2_with fail
   refine (HWN.out V7).mono ?_
   rintro e V8 ⟨rfl,rfl⟩
   go_wp2
   go_ret2
   rw [HQ2.out]
   exact ⟨rfl,H7.out,HV7.out,HM7.out,HY7.out⟩
  ·
   obtain ⟨et,ev,hev⟩:=er.iface
   have HID:=hid (IsD.Is_down er)
   have HWE:=hid (Zar sMTick a er)
   simp only [oErr]
   rw [hev] at HID HWE ⊢
   have HEE:=hid hev
   clear hev
   go_wp2_with fail
   refine (HID.out V7).mono ?_
   rintro e V8 ⟨rfl,x8⟩
   have H8:=hid (H7.out.ext x8)
   have HV8:=hid (HV7.out.ext x8)
   have HM8:=hid (HM7.out.ext x8)
   have HY8:=hid (Only.ext HY7.out x8)
   clear x8 H7 HV7 HM7 HY7 HID
   have m0:=HM8.out.c0
   rcases hd:er.isDown with _ | _
   ·
    have HD:=hid hd
    clear hd m0
    go_wp2_with fail
    refine (HWE.out V8).mono ?_
    rintro e V9 ⟨rfl,rfl⟩
    go_wp2
    go_ret2
    rw [HQ2.out]
    exact ⟨rfl,H8.out,by show VolAt V8 g r (if er.isDown=true then _ else v); rw [HD.out]; exact HV8.out,HM8.out,HY8.out⟩
   ·
    have HD:=hid hd
    clear hd
    go_wp2_with fail
    refine (vfail_c HV8.out).mono ?_
    rintro e V9 ⟨rfl,h9,k9⟩
    have HV9:=hid h9
    have H9:=hid (show RackAt S V9 r R' from H8.out.only k9 fun b e=>by have e:b=g:=e; rw [e]; exact HSG.out)
    have HM9:=hid (show MendAt V9 p g A2 from k9.at HM8.out (fun e=>HPG.out e))
    have HY9:=hid (show Only (fun b=>¬S b\/b=g\/b=p) w V9 from Only.trans HY8.out k9 fun b _ q=>.inr (.inl q))
    clear h9 k9 m0
    go_wp2_with fail
    refine (HWE.out V9).mono ?_
    rintro e V10 ⟨rfl,rfl⟩
    go_wp2
    go_ret2
    rw [HQ2.out]
    exact ⟨rfl,H9.out,by show VolAt V9 g r (if er.isDown=true then ⟨c,v.seq,true⟩ else v); rw [HD.out,<- HC.out]; exact HV9.out,HM9.out,HY9.out⟩
end Go.Proofs.YtkipjmbplmdaaaaGreatDoor
namespace Go.Proofs.YtkipjmbplmdaaaaGreatDoor
set_option linter.unusedVariables false
open Go Go.RowKit
theorem mw64 {z:Int} (h0:-100000<=z) (h1:z<=100000):wrap64 z=z:=by unfold wrap64; omega
theorem mi64w {z:Int} (h0:-100000<=z) (h1:z<=100000):IntKind.i64.wrap z=z:=by rw [IntKind.wrap_i64]; omega
structure MX (w0 w:World) (S:Nat->Prop) (r:Nat) (R:Rck) (gc:Nat) (c:Cfg) (g:Nat) (v:Vol) (p:Nat) (a:Int):Prop where
 vx:VX w0 w S r R gc c g v
 mend:MendAt w p g a
 pS:S p
 pw:w0.heap.size<=p
 pg:p≠g
 pc:p≠gc
namespace MX
variable {w0 w w':World} {S T:Nat->Prop} {r g gc p:Nat} {R R':Rck} {c:Cfg} {v v':Vol} {a:Int}
theorem ext (h:MX w0 w S r R gc c g v p a):Ext w0 w:=h.vx.ext
theorem rack (h:MX w0 w S r R gc c g v p a):RackAt S w r R:=h.vx.rack
theorem vol (h:MX w0 w S r R gc c g v p a):VolAt w g r v:=h.vx.vol
theorem more (h:MX w0 w S r R gc c g v p a) (e:Ext w w'):MX w0 w' S r R gc c g v p a:=⟨h.vx.more e,h.mend.ext e,h.pS,h.pw,h.pg,h.pc⟩
theorem wide (h:MX w0 w S r R gc c g v p a) (e:Ext w w'):MX w0 w' (wideS S w w') r R gc c g v p a:=⟨h.vx.wide e,h.mend.ext e,.inl h.pS,h.pw,h.pg,h.pc⟩
theorem keep (h:MX w0 w S r R gc c g v p a) (hr:RackAt S w' r R') (k:Keeps S w w'):MX w0 w' S r R' gc c g v p a:=⟨h.vx.keep hr k,h.mend.keep k h.pS,h.pS,h.pw,h.pg,h.pc⟩
theorem tick {q:MTick} {e:Ending} (h:MX w0 w S r R gc c g v p a) (ht:MTickPost S w r g p q e w'):MX w0 w' S r q.R gc c g q.v p q.at_ :=
 ⟨⟨⟨ht.rack,Ext.then h.ext ht.only fun i hi hf=>by
   rcases hf with hf | hf | hf
   ·
    exact hf (h.vx.ve.low i hi)
   ·
    have:=h.vx.gw; have hf:i=g:=hf; omega
   ·
    have:=h.pw; have hf:i=p:=hf; omega,h.vx.ve.low⟩,
  ht.only.at h.vx.cfg fun q=>by
   rcases q with q | q | q
   ·
    exact q h.vx.cfgS
   ·
    exact h.vx.ne q
   ·
    exact h.pc q.symm,h.vx.cfgS,ht.vol,h.vx.gS,h.vx.gw,h.vx.ne⟩,ht.mend,h.pS,h.pw,h.pg,h.pc⟩
theorem start (h:VX w0 w S r R gc c g v) (e:Ext w w') (hm:MendAt w' p g a) (hp:w.heap.size<=p):MX w0 w' (wideS S w w') r R gc c g v p a:=by
 refine ⟨h.wide e,hm,.inr ⟨hp,lt_of_block hm⟩,Nat.le_trans h.ext.size hp,fun q=>?_,fun q=>?_⟩
 ·
  have:=lt_of_block h.vol; omega
 ·
  have:=lt_of_block h.cfg; omega
theorem callTick (h:MX w0 w S r R gc c g v p a) (hc:v.c.Good) (h0:0<=a) (h1:a < v.c.groups):Calls Tryz.prog 14 #[.pointer (some ⟨p,0,none⟩)] w (MTickPost S w r g p (v.tick R a)) :=
 mtick_c h.rack h.vol h.mend h.vx.gS h.pS h.pg hc h0 h1
end MX
end Go.Proofs.YtkipjmbplmdaaaaGreatDoor
namespace Go.Proofs.YtkipjmbplmdaaaaGreatDoor
set_option linter.unusedVariables false
open Go Go.RowKit
attribute [local irreducible] wpSQ
structure MOpenedPost (w:World) (C:Cfg) (R:Rck) (e:Ending) (w':World) (r g:Nat) (T:Nat->Prop):Prop where
 ret:e=.returned (.tuple #[.pointer (some ⟨r,0,none⟩),.pointer (some ⟨g,0,none⟩)])
 ve:VE w w' T r R
 vol:VolAt w' g r ⟨C,1,false⟩
 gT:T g
 new:w.heap.size<=g
set_option maxRecDepth 100000 in
set_option maxHeartbeats 2000000 in
theorem mopened_c (C:Cfg) (hc:C.Good) {R1 R2:Rck} (n m:Nat) (hn:C.n=(n:Int)) (hm:C.sectors=(m:Int)) (hm1:1<=m) (hm2:m<=128) (e1:(Rck.new n m).vmake C=(none,R1)) (e2:R1.vopen=(none,R2,C,1)) (w:World) :
  Calls Tryz.prog 8 #[.agg (Cfg.A C)] w fun e w'=>∃ r g T,MOpenedPost w C R2 e w' r g T:=by
 have hzc:=Zbz
 have HCS:=hid Cfg.A_size
 have HGD:=hid hc
 have HN:=hid hn; have HM:=hid hm
 have HE1:=hid e1; have HE2:=hid e2
 have n1:1<=n:=by have:=hc.k0; have:=hc.k1; omega
 have n8:n<=8:=by have:=hc.n1; omega
 obtain ⟨W1,hW1⟩:∃ W,w.alloc (.cells (Cfg.A C) 23)=W:=⟨_,rfl⟩
 have X1:=hid (show Ext w W1 from hW1▸(Ext.refl w).alloc _)
 have HC1:=hid (show W1.heap[w.heap.size]?=some (.cells (Cfg.A C) 23 (0,0)) from hW1▸heap_alloc_new _ _)
 have xd:Ext W1 W1.drew:=(Ext.refl W1).drew
 have HXD:=hid xd
 have c2y:∀ y:SW Ext W1.drew,y.w.cell? ⟨w.heap.size,2,none⟩=some (.int .i64 n):=fun y=>(Zag ((Ext.trans xd y.ext).at HC1.out)).trans ((Cfg.A2 C).trans (by rw [HN.out]))
 have lc:Hid (∀ y:SW Ext W1.drew,∀ j u,(Cfg.A C).toList[j]?=some u->y.w.cell? ((⟨w.heap.size,0,none⟩:Addr).add j)=some u):=hid fun y=>Zae ((Ext.trans xd y.ext).at HC1.out)
 have HW1:=hid hW1
 clear hc hn hm e1 e2 xd hW1
 go_enter Tryz.func8,Tryz.ntmps8
 go_wp2_with fail
 first | rw [HW1.out] | skip
 refine Zan (S:=Ext) (.one [0,1,2] 3 (.one [] 4 (.fin [5,6,7,8,9]))) (by kernel_rfl) (by kernel_rfl) (fun _ _ d _ _ h=>by cases d<;>exact h) ?_
 rw [wpS]
 simp only [opsAt,opA,opB,opC,opD,opE,opF,opG]
 iterate 2 ((refine Zab (fun K hK=>?_); go_simp; refine hK _ ?_; clear hK K))
 refine Zaj 23 _ rfl ⟨w.heap.size,0,none⟩ rfl (Cfg.A C) rfl (Zap C) lc.out ?_
 refine Zah ?_
 intro V2 hV2
 have X2:=hid (Ext.trans HXD.out hV2)
 clear c2y lc hV2 HXD
 refine Zax fun Q hQ=>?_
 go_wp2_with fail
 refine (ksectors_c C HGD.out V2).mono ?_
 rintro e V3 ⟨rfl,x3⟩
 rw [HM.out]
 have X3:=hid x3
 clear x3
 go_wp2
 refine hQ _ _ X3.out ?_
 clear hQ Q
 rw [wpS]
 simp only [opsAt,opA,opB,opC,opD,opE,opF,opG]
 refine Zah ?_
 intro V4 hV4
 have X4:=hid (Ext.trans X2.out (Ext.trans X3.out hV4))
 clear hV4
 refine Zax fun Q hQ=>?_
 go_wp2_with fail
 refine (at_new n m n1 n8 hm1 hm2 V4).mono ?_
 rintro e V5 ⟨r,rfl,h5,x5⟩
 have H5:=hid h5; have X5:=hid x5
 clear h5 x5
 go_wp2
 refine hQ _ _ X5.out ?_
 clear hQ Q
 rw [wpS]
 simp only [opsAt,opA,opB,opC,opD,opE,opF,opG]
 iterate 5 ((refine Zab (fun K hK=>?_); go_simp; refine hK _ ?_; clear hK K))
 refine Zah ?_
 intro V6 hV6
 have XA:=hid (Ext.trans X1.out X4.out)
 have HV6:=hid (show VE w V6 (fun b=>b < V4.heap.size) r (Rck.new n m) from ⟨H5.out.ext hV6,Ext.trans XA.out (Ext.trans X5.out hV6),fun b hb=>Nat.lt_of_lt_of_le hb XA.out.size⟩)
 have HC6:=hid ((Ext.trans X4.out (Ext.trans X5.out hV6)).at HC1.out)
 clear hV6
 go_wp2_with (guard_target=wpList _ _ _ (⟨some _,Op.load _ _,_,_,_,some _⟩::_) _ _; refine Zau 23 _ rfl ⟨w.heap.size,0,none⟩ rfl (Cfg.A C) rfl (Zap C) (Zae HC6.out) ?_)
 refine (vmake_c HV6.out.rack C).mono ?_
 rintro e w7 ⟨rfl,h7,k7⟩
 rw [HE1.out] at h7 ⊢
 simp only [oErr]
 have HV7:=hid (HV6.out.keep h7 k7)
 clear h7 k7 HV6 HC6
 go_wp2_with fail
 refine (vopen_c HV7.out.rack).mono ?_
 rintro e w8 h8
 rw [HE2.out] at h8
 rcases h8 with ⟨_,q,_⟩ | ⟨_,g,T,hok⟩
 ·
  cases q
 obtain rfl:=hok.ret
 have HP:=hid (show MOpenedPost w C R2 (.returned (.tuple #[.pointer (some ⟨r,0,none⟩),.pointer (some ⟨g,0,none⟩)])) w8 r g T from ⟨rfl,HV7.out.opened hok,hok.vol,hok.gT,Nat.le_trans HV7.out.ext.size hok.new⟩)
 clear hok HV7
 go_wp2
 go_ret2
 exact ⟨_,_,_,HP.out⟩
end Go.Proofs.YtkipjmbplmdaaaaGreatDoor
namespace Go.Proofs.YtkipjmbplmdaaaaGreatDoor
set_option linter.unusedVariables false
open Go Go.RowKit
set_option maxRecDepth 100000 in
set_option maxHeartbeats 4000000 in
theorem mendRuns_c (w:World):Calls Tryz.prog 17 #[] w fun e w'=>e=.returned (.bool true)/\Ext w w':=by
 have hzc:=Zbz
 have HCS:=hid Cfg.A_size
 have HB:Hid (Tryz.prog.built 23 [(0,.int .i64 9),(1,.int .i64 1),(2,.int .i64 2),(3,.int .i64 2),(4,.int .i64 1)]=some (Cfg.A Runs13.c)):=hid (built_cfg Runs13.c)
 obtain ⟨R1,R2,R3,e1,e2,e3,h3⟩:=Runs13.start
 have HAT:=hid (fun (R:Rck) (i:Nat) (h:Runs13.A R i) (hi:i < 4)=>h.tick hi)
 have HAD:=hid (fun (R:Rck) (h:Runs13.A R 4)=>h.die)
 have HBR:=hid (fun (R:Rck) (h:Runs13.B R)=>h.read)
 have HBT:=hid (fun (R:Rck) (i:Nat) (h:Runs13.B R) (hi:i < 4)=>h.tick hi)
 have HGD:=hid Runs13.good
 have HGR:=hid (show Runs13.c.groups=4 from rfl)
 have hcn:Runs13.c.n=((2:Nat):Int):=rfl
 have hcm:Runs13.c.sectors=((4:Nat):Int):=by decide
 have HCN:=hid hcn; have HCMM:=hid hcm
 clear hcn hcm
 generalize Runs13.c=C at *
 obtain ⟨la,hla⟩:∃ l,Runs13.a=l:=⟨_,rfl⟩
 have LA8:=hid (show ∀ b∈la,b.length=108 from hla▸blocksOf_108 1 4)
 have LAB:=hid (show ∀ b∈la,∀ x∈b,x < 256 from hla▸blocksOf_bytes 1 4)
 have LAN:=hid (show la.length<=8 from hla▸(by show (blocksOf 1 4).length<=8; rw [Zch]; omega))
 have LA0:=hid (show la≠[] from hla▸(by show blocksOf 1 4≠[]; intro q; have:=congrArg List.length q; rw [Zch] at this; simp at this))
 have HLA:=hid (show blocksOf 1 4=la from hla)
 rw [hla] at e3 HBR
 have HE1:=hid e1; have HE2:=hid e2; have HE3:=hid e3; have HA0:=hid h3
 clear e1 e2 e3 h3 hla
 obtain ⟨W1,hW1⟩:∃ W,w.alloc (.cells (Cfg.A C) 23)=W:=⟨_,rfl⟩
 have X1:=hid (show Ext w W1 from hW1▸(Ext.refl w).alloc _)
 have HC:=hid (show W1.heap[w.heap.size]?=some (.cells (Cfg.A C) 23 (0,0)) from hW1▸heap_alloc_new _ _)
 have hbs:(w.alloc (.cells (Cfg.A Cfg.zero) 23)).heap[w.heap.size]?=some (.cells (Cfg.A Cfg.zero) 23 (0,0)):=Zad
 have HW1:=hid hW1
 clear hW1
 go_enter Tryz.func17,Tryz.ntmps17
 go_wp2_with (first
  | (guard_target=wpList _ _ _ (⟨some _,Op.build _ _,_,_,_,none⟩::_) _ _; refine Zat rfl 23 _ rfl (Cfg.A C) ?_ ?_; (simp only [List.map_toArray,List.map_cons,List.map_nil,Act.eval]; exact HB.out))
  | (guard_target=wpList _ _ _ (⟨none,Op.store _ _ _,_,_,_,none⟩::_) _ _; have hb0:=hbs; clear hbs; refine Zaa rfl 23 _ _ rfl w.heap.size rfl (Cfg.A C) _ rfl 23 ?_ hb0 ?_ ?_ ?_; (rw [HCS.out]; exact aggCfg); (rw [HCS.out,HCS.out]); exact Cfg.A_one _; rw [Zai,HW1.out])
  | (guard_target=wpList _ _ _ (⟨some _,Op.load _ _,_,_,_,none⟩::_) _ _; refine Zac rfl 23 _ rfl ⟨w.heap.size,0,none⟩ rfl (Cfg.A C) (Zap C) (Zae HC.out) ?_))
 have HLT:=hid (show w.heap.size < W1.heap.size from lt_of_block HC.out)
 have GLO:=hid (Nat.le_refl w.heap.size)
 obtain ⟨gc,hgc⟩:∃ gc,w.heap.size=gc:=⟨_,rfl⟩
 rw [hgc] at HC HLT
 rw [hgc]
 have GLO:=hid (show w.heap.size<=gc by omega)
 clear hgc
 refine (mopened_c C HGD.out 2 4 HCN.out HCMM.out (by omega) (by omega) HE1.out HE2.out W1).mono ?_
 rintro e w2 ⟨r,g,T,ho⟩
 obtain rfl:=ho.ret
 have HX2:=hid (show VX w w2 T r R2 gc C g ⟨C,1,false⟩ from ⟨⟨ho.ve.rack,Ext.trans X1.out ho.ve.ext,fun b hb=>ho.ve.low b (Nat.lt_of_lt_of_le hb X1.out.size)⟩,ho.ve.ext.at HC.out,ho.ve.low gc HLT.out,ho.vol,ho.gT,Nat.le_trans X1.out.size ho.new,fun q=>by have:=ho.new; have:=HLT.out; omega⟩)
 clear ho HE1 HE2 HC X1 HLT HW1
 go_wp2_with fail
 refine (kblocks_c 1 (by omega) 4 w2).mono ?_
 rintro e w3 ⟨v,rfl,hown,x3⟩
 rw [HLA.out] at hown
 obtain ⟨a3,c3,rfl,hbk,hab⟩:=kblocks_at LA8.out hown
 obtain ⟨S3,hS⟩:∃ S',wideS T w2 w3=S':=⟨_,rfl⟩
 have HX3:=hid (hS▸HX2.out.wide x3)
 have HB3:=hid hbk
 have HP3:=hid (show ∀ b,a3=some ⟨b,0,none⟩->S3 b/\b≠g from fun b q=>⟨hS▸HX2.out.ve.blk x3 hbk LA0.out hab b q,by have:=hab b q; have:=lt_of_block HX2.out.vol; omega⟩)
 clear hown x3 hbk hab hS HX2
 go_wp2_with fail
 refine (vcommit_c HX3.out.rack HX3.out.vol HX3.out.gS (show (0:Int)<=1 by omega) 1 la LA8.out LAB.out a3 c3 HB3.out HP3.out).mono ?_
 rintro e w4 h4
 rw [HE3.out] at h4
 obtain rfl:=h4.ret
 have HX4:=hid (show VX w w4 S3 r R3 gc C g ⟨C,2,false⟩ from HX3.out.commit h4)
 simp only [oErr]
 clear h4 HX3 HB3 HP3 HE3
 go_wp2_with fail
 refine (at_replace HX4.out.rack 0).mono ?_
 rintro e w5 ⟨rfl,h5,k5⟩
 have HX5:=hid (HX4.out.keep h5 k5)
 clear h5 k5 HX4
 generalize R3.replace 0=P0 at *
 go_wp2_with fail
 refine (mnew_c g w5).mono ?_
 rintro e w6 ⟨p,rfl,hp,hm,x6⟩
 obtain ⟨S6,hS⟩:∃ S',wideS S3 w5 w6=S':=⟨_,rfl⟩
 have HX6:=hid (hS▸MX.start HX5.out x6 hm hp)
 clear hp hm x6 hS HX5
 go_wp2_with (guard_target=wpList _ _ _ (⟨some _,Op.load _ _,_,_,_,some _⟩::_) _ _; refine Zau 23 _ rfl ⟨gc,0,none⟩ rfl (Cfg.A C) rfl (Zap C) (Zae HX6.out.vx.cfg) ?_)
 refine (mgroups_c C HGD.out w6).mono ?_
 rintro e w7 ⟨rfl,x7⟩
 rw [HGR.out]
 have HX7:=hid (HX6.out.more x7)
 clear x7 HX6
 go_wp2
 go_loopw [5] (fun t wr=>∃ i:Nat,t=.int .i64 i/\i<=4/\∃ R,Runs13.A R i/\MX w wr S6 r R gc C g ⟨C,2,false⟩ p ((i:Int) % C.groups)) (fun t _=>4 - (intOf t).toNat)
 case atStart=>exact ⟨0,rfl,by omega,P0,HA0.out,HX7.out⟩
 case round =>
  clear HX7 HA0
  obtain ⟨i,rfl,hi,R,ha,hx⟩:=hrel
  have HA:=hid ha; have HX:=hid hx
  clear ha hx
  by_cases hlt:i < 4
  ·
   have i0:(0:Int)<=(i:Int):=by omega
   have i1:(i:Int) < 4:=by omega
   obtain ⟨R',htk,ha⟩:=HAT.out R i HA.out hlt
   have HTK:=hid htk; have HA':=hid ha
   have HX':=hid (show MX w wr S6 r R gc C g ⟨C,2,false⟩ p (i:Int) from by
    have e:(i:Int) % C.groups=(i:Int):=by rw [HGR.out]; omega
    rw [<- e]; exact HX.out)
   have hac:=HX'.out.callTick HGD.out (by omega) (by show (i:Int) < C.groups; rw [HGR.out]; omega)
   have HAC:=hid hac
   clear htk ha hac HX HA
   go_wp2_with fail
   refine HAC.out.mono ?_
   rintro e w8 h8
   rw [HTK.out] at h8
   obtain rfl:=h8.ret
   have HX8:=hid (HX'.out.tick h8)
   simp only [oErr]
   clear h8 HX' HAC HTK
   go_wp2
   go_roundw
   case rel=>exact ⟨i+1,by go_num,by omega,R',HA'.out,HX8.out⟩
   case measure=>simp [intOf]; omega
  ·
   obtain rfl:i=4:=by omega
   have HB0:=hid (HAD.out R HA.out)
   clear HA HAT HAD
   go_wp2_with fail
   refine (at_die HX.out.rack 1).mono ?_
   rintro e w9 ⟨rfl,h9,k9⟩
   have HX9:=hid (HX.out.keep h9 k9)
   clear h9 k9 HX
   generalize R.die 1=Q0 at *
   have HRD:=hid (HBR.out Q0 HB0.out)
   go_wp2_with fail
   refine (vread_c HX9.out.rack HX9.out.vol 1).mono ?_
   rintro e w10 ⟨v,rfl,hown,x10⟩
   rw [HRD.out] at hown ⊢
   simp only at hown ⊢
   obtain ⟨a10,c10,rfl,hbk,hab⟩:=kblocks_at LA8.out hown
   obtain ⟨S10,hS⟩:∃ S',wideS S6 w9 w10=S':=⟨_,rfl⟩
   have HX10:=hid (hS▸HX9.out.wide x10)
   have HB10:=hid hbk
   have HP10:=hid (show ∀ b,a10=some ⟨b,0,none⟩->S10 b/\b≠g/\b≠p from fun b q=>⟨hS▸HX9.out.vx.ve.blk x10 hbk LA0.out hab b q,by have:=hab b q; have:=lt_of_block HX9.out.vol; omega,by have:=hab b q; have:=lt_of_block HX9.out.mend; omega⟩)
   simp only [oErr]
   clear hown x10 hbk hab hS HX9 HRD HBR
   go_wp2
   go_loopw [11] (fun t wr=>∃ i:Nat,t=.int .i64 i/\i<=4/\∃ R,Runs13.B R/\BlksAt wr a10 la/\MX w wr S10 r R gc C g ⟨C,2,false⟩ p ((i:Int) % C.groups)) (fun t _=>4 - (intOf t).toNat)
   case atStart=>exact ⟨0,rfl,by omega,Q0,HB0.out,HB10.out,by
    have e:((4:Nat):Int) % C.groups=((0:Nat):Int) % C.groups:=by rw [HGR.out]; rfl
    rw [<- e]; exact HX10.out⟩
   case round =>
    clear HX10 HB10 HB0
    obtain ⟨i,rfl,hi,R,ha,hbk,hx⟩:=hrel
    have HA:=hid ha; have HX:=hid hx; have HBK:=hid hbk
    clear ha hx hbk
    by_cases hlt:i < 4
    ·
     have i0:(0:Int)<=(i:Int):=by omega
     have i1:(i:Int) < 4:=by omega
     obtain ⟨R',htk,ha⟩:=HBT.out R i HA.out hlt
     have HTK:=hid htk; have HA':=hid ha
     have HX':=hid (show MX w wr S10 r R gc C g ⟨C,2,false⟩ p (i:Int) from by
      have e:(i:Int) % C.groups=(i:Int):=by rw [HGR.out]; omega
      rw [<- e]; exact HX.out)
     have hac:=HX'.out.callTick HGD.out (by omega) (by show (i:Int) < C.groups; rw [HGR.out]; omega)
     have HAC:=hid hac
     clear htk ha hac HX HA
     go_wp2_with fail
     refine HAC.out.mono ?_
     rintro e w8 h8
     rw [HTK.out] at h8
     obtain rfl:=h8.ret
     have HX8:=hid (HX'.out.tick h8)
     have HBK8:=hid (HBK.out.only h8.only fun b hb q=>by
      rcases q with q | q | q
      ·
       exact q (HP10.out b hb).1
      ·
       exact (HP10.out b hb).2.1 q
      ·
       exact (HP10.out b hb).2.2 q)
     simp only [oErr]
     clear h8 HX' HAC HTK HBK
     go_wp2
     go_roundw
     case rel=>exact ⟨i+1,by go_num,by omega,R',HA'.out,HBK8.out,HX8.out⟩
     case measure=>simp [intOf]; omega
    ·
     obtain rfl:i=4:=by omega
     have HX':=hid (show MX w wr S10 r R gc C g ⟨C,2,false⟩ p 0 from by
      have e:((4:Nat):Int) % C.groups=0:=by rw [HGR.out]; rfl
      rw [<- e]; exact HX.out)
     clear HX HA
     go_wp2_with fail
     refine (kblocks_c 1 (by omega) 4 wr).mono ?_
     rintro e w14 ⟨v,rfl,hown,x14⟩
     rw [HLA.out] at hown
     obtain ⟨a14,c14,rfl,hbk,hab⟩:=kblocks_at LA8.out hown
     have HX14:=hid (HX'.out.more x14)
     have HB14:=hid (HBK.out.ext x14)
     have HC14:=hid hbk
     clear hown x14 hbk hab HX' HBK
     go_wp2_with fail
     refine (sameblk_c la LA8.out LAN.out a10 a14 c10 c14 _ HB14.out HC14.out).mono ?_
     rintro e w15 ⟨rfl,x15⟩
     have HX15:=hid (HX14.out.more x15)
     clear x15 HX14 HB14 HC14
     go_wp2_with fail
     refine (mat_c HX15.out.mend).mono ?_
     rintro e _ ⟨rfl,rfl⟩
     go_wp2
     go_ret
     exact ⟨rfl,HX15.out.ext⟩
end Go.Proofs.YtkipjmbplmdaaaaGreatDoor
