/- Texts of one proof, joined: WJournalRuns, RowInts, RowBits, JourLeaf, AskRow10. -/
import Derived.Test.YtgjnnbomnoafcaaGreatDoorUS
import Derived.Test.YtgjnnbomnoafcaaGreatDoorRows
import Derived.Test.YtgjnnbomnoafcaaGreatDoorUA
import Derived.RowKit
import Derived.Test.YtgjnnbomnoafcaaGreatDoorUF
import Derived.Test.YtgjnnbomnoafcaaGreatDoorUO
set_option linter.unusedVariables false
set_option linter.unusedSimpArgs false
namespace Go.Proofs.YtgjnnbomnoafcaaGreatDoor
set_option linter.unusedVariables false
open Go Go.RowKit
theorem wpListG_build_eq {P:Program} {ops:Array Oper} {rest:List Oper} {o:Oper} {a:Act} {w:World} {Q:Exit->Act->World->Prop} (t:TypeId) (parts:Array (Nat × Operand)) (ho:o.op=.build t parts) (A:Array Value) (hw:Region.wanted o (yielded ops a.tmps)=true)
  (hb:P.built t (parts.map fun (i,x)=>(i,a.eval x)).toList=some A) (h:wpList P ops Q rest (a.put o.dst (.agg A)) w):wpList P ops Q (o::rest) a w:=by
 refine wpList_run (.agg A) hw ?_ h
 unfold execOp
 simp only [ho,Sem.run_bind,run_build w t _ A hb,Result.andThen_ok]
 rfl
open Runs10 in
set_option maxRecDepth 100000 in
set_option maxHeartbeats 4000000 in
theorem journalRuns_c (w:World) (hg:EtLaid w):Calls Tryz.prog 62 #[] w fun e w'=>e=.returned (.bool true)/\Ext w w':=by
 have HG:=hid hg
 have hzc:=zero_cfg
 have hzr:=zero_rec
 have hzl:=zero_loss
 have HCS:=hid Cfg.A_size
 have HB:Hid (Tryz.prog.built 74 [(0,.int .i64 9),(1,.int .i64 1),(2,.int .i64 2),(3,.int .i64 1),(4,.int .i64 2)]=some (Cfg.A Runs10.c)):=hid (built_cfg Runs10.c)
 obtain ⟨R1,R2,R3,hall⟩:=Runs10.all
 have HALL:=hid hall
 clear hg hall
 obtain ⟨C,hC⟩:∃ C,Runs10.c=C:=⟨_,rfl⟩
 have HCC:=hid hC
 have HK:Hid (C.k.toNat=1):=hid (by rw [<- hC]; rfl)
 obtain ⟨X,hX⟩:∃ X,Runs10.x=X:=⟨_,rfl⟩
 have HXX:=hid hX
 have HXE:Hid (X=recOf C 3 0 5):=hid (by rw [<- hX,<- hC]; rfl)
 rw [hC] at HB
 obtain ⟨W1,hW1⟩:∃ W,w.alloc (.cells (Cfg.A C) 74)=W:=⟨_,rfl⟩
 have X1:=hid (show Ext w W1 from hW1▸(Ext.refl w).alloc _)
 have HC:=hid (show W1.heap[w.heap.size]?=some (.cells (Cfg.A C) 74 (0,0)) from hW1▸heap_alloc_new _ _)
 have hbs:(w.alloc (.cells (Cfg.A Cfg.zero) 74)).heap[w.heap.size]?=some (.cells (Cfg.A Cfg.zero) 74 (0,0)):=Zaf
 clear hC hX
 go_enter Tryz.func62,Tryz.ntmps62
 go_wp2_with (first
  | (guard_target=wpList _ _ _ (⟨some _,Op.build _ _,_,_,_,none⟩::_) _ _; refine Zal rfl 74 _ rfl (Cfg.A C) ?_ ?_; (simp only [List.map_toArray,List.map_cons,List.map_nil,Act.eval]; exact HB.out))
  | (guard_target=wpList _ _ _ (⟨none,Op.store _ _ _,_,_,_,none⟩::_) _ _; refine Zaa rfl 74 _ _ rfl w.heap.size rfl (Cfg.A C) _ rfl 74 ?_ hbs ?_ ?_ ?_; (rw [HCS.out]; exact aggCfg); (rw [HCS.out,HCS.out]); exact Cfg.A_one _))
 rw [Zag,hW1]
 refine (at_new 2 4 (by omega) (by omega) (by omega) (by omega) W1).mono ?_
 rintro e w2 ⟨r,rfl,h2,x2⟩
 have J2:JE w w2 (fun b=>b < W1.heap.size) r (Rck.new 2 4) w.heap.size C []:=⟨h2,Ext.trans X1.out x2,fun b hb=>Nat.lt_of_lt_of_le hb X1.out.size,x2.at HC.out,lt_of_block HC.out,fun p hp=>by simp at hp⟩
 have HJ2:=hid J2
 clear h2 x2 hbs J2 HC X1
 go_wp2_with fail
 refine (kblocks_c 1 (by omega) 5 w2).mono ?_
 rintro e w3 ⟨v,rfl,hown,x3⟩
 obtain ⟨a,cp,rfl,hbk,hab⟩:=kblocks_at (fun b hb=>by obtain ⟨n,rfl⟩:=blocksOf_mem hb; exact Za4 n) hown
 have hxb:X.blocks=blocksOf 1 5:=by rw [HXE.out]; show blocksOf C.k.toNat 5=_; rw [HK.out]
 have J4:=HJ2.out.put x3 X a cp (by rw [hxb]; exact hbk) (fun p hp=>by
  obtain ⟨_,c2,q,h⟩:=hown.slice
  rw [List.length_map] at q
  cases q
  rcases h with ⟨_,q⟩ | ⟨g,q,hg,_⟩
  ·
   rw [q] at hp; cases hp
  ·
   rw [q] at hp; cases hp; exact hg)
 have HBX:Hid (Tryz.prog.built 101 [(0,.int .i64 3),(2,.slice a (blocksOf 1 5).length cp)]=some (X.V a cp)):=hid (by
  have:=built_recOfB C 3 5 a cp
  rw [HK.out] at this
  rw [this,HXE.out])
 obtain ⟨W4,hW4⟩:∃ W,w3.alloc (.cells (X.V a cp) 101)=W:=⟨_,rfl⟩
 rw [hW4] at J4
 obtain ⟨S4,hS4⟩:∃ S,wideS (fun b=>b < W1.heap.size) w2 W4=S:=⟨_,rfl⟩
 rw [hS4] at J4
 have HJ4:=hid J4
 have HA4:=hid (show ∀ g,a=some ⟨g,0,none⟩->S4 g from fun g hg=>((J4.recs _ List.mem_cons_self).own (by show X.blocks≠[]; rw [hxb]; simp [blocksOf]) g hg))
 have hbs:(w3.alloc (.cells (Rcd.none_.V none 0) 101)).heap[w3.heap.size]?=some (.cells (Rcd.none_.V none 0) 101 (0,0)):=Zaf
 have HW4:=hid hW4
 clear hown x3 hbk hab J4 hW4 hS4 HJ2 hxb
 generalize (blocksOf 1 5).length=n1 at *
 go_wp2_with (first
  | (guard_target=wpList _ _ _ (⟨some _,Op.build _ _,_,_,_,none⟩::_) _ _; refine Zal rfl 101 _ rfl (X.V a cp) ?_ ?_; (simp only [List.map_toArray,List.map_cons,List.map_nil,Act.eval]; simp only [Array.getD_eq_getD_getElem?,List.getElem?_toArray,List.getElem?_cons_succ,List.getElem?_cons_zero,Option.getD_some]; exact HBX.out))
  | (guard_target=wpList _ _ _ (⟨none,Op.store _ _ _,_,_,_,none⟩::_) _ _; have hb0:=hbs; clear hbs; refine Zaa rfl 101 _ _ rfl w3.heap.size rfl (X.V a cp) _ rfl 101 (Za0 _ _ _) hb0 rfl (V_one _ _ _) ?_; rw [Zag,HW4.out])
  | (guard_target=wpList _ _ _ (⟨some _,Op.load _ _,_,_,_,some _⟩::_) _ _; refine Zan 74 _ rfl ⟨w.heap.size,0,none⟩ rfl (Cfg.A C) rfl (Zas C) (Zai HJ4.out.cfg) ?_))
 refine (jblank_c HJ4.out.rack C 0).mono ?_
 rintro e w5 ⟨rfl,h5,k5⟩
 rw [show (Rck.new 2 4).jblank C 0=(none,R1) from by rw [<- HCC.out]; exact HALL.out.b0] at h5 ⊢
 simp only [oErr]
 have HJ5:=hid (HJ4.out.keep h5 k5)
 clear h5 k5 HJ4
 go_wp2_with (guard_target=wpList _ _ _ (⟨some _,Op.load _ _,_,_,_,some _⟩::_) _ _; refine Zan 74 _ rfl ⟨w.heap.size,0,none⟩ rfl (Cfg.A C) rfl (Zas C) (Zai HJ5.out.cfg) ?_)
 refine (jblank_c HJ5.out.rack C 1).mono ?_
 rintro e w6 ⟨rfl,h6,k6⟩
 rw [show R1.jblank C 1=(none,R2) from by rw [<- HCC.out]; exact HALL.out.b1] at h6 ⊢
 simp only [oErr]
 have HJ6:=hid (HJ5.out.keep h6 k6)
 clear h6 k6 HJ5
 go_wp2_with (first
  | (guard_target=wpList _ _ _ (⟨some _,Op.load _ _,_,_,_,some _⟩::_) _ _; refine Zan 74 _ rfl ⟨w.heap.size,0,none⟩ rfl (Cfg.A C) rfl (Zas C) (Zai HJ6.out.cfg) ?_)
  | (guard_target=wpList _ _ _ (⟨some _,Op.load _ _,_,_,_,some _⟩::_) _ _; refine Zan 101 _ rfl ⟨w3.heap.size,0,none⟩ rfl (X.V a cp) rfl (Za0 _ _ _) (Zai (HJ6.out.recs _ List.mem_cons_self).blk) ?_))
 refine (jlog_c HJ6.out.rack C X (by rw [HXE.out]; exact recOf_ok _ _ _ _) a cp (HJ6.out.recs _ List.mem_cons_self).bks HA4.out).mono ?_
 rintro e w7 ⟨rfl,h7,k7⟩
 rw [show R2.jlog C X=(none,R3) from by rw [<- HCC.out,<- HXX.out]; exact HALL.out.lg] at h7 ⊢
 simp only [oErr]
 have HJ7:=hid (HJ6.out.keep h7 k7)
 clear h7 k7 HJ6
 go_wp2_with (guard_target=wpList _ _ _ (⟨some _,Op.load _ _,_,_,_,none⟩::_) _ _; refine Zab rfl 74 _ rfl ⟨w.heap.size,0,none⟩ rfl (Cfg.A C) (Zas C) (Zai HJ7.out.cfg) ?_)
 refine (jslot_c HJ7.out.rack C 1).mono ?_
 rintro e w8 ⟨a8,c8,rfl,x8,b8,l8⟩
 rw [show R3.jslot C 1=(X,true,3,none) from by rw [<- HCC.out,<- HXX.out]; exact HALL.out.s1] at b8 ⊢
 simp only [oErr]
 have J8:=HJ7.out.put x8 X a8 c8 b8 l8
 obtain ⟨W8,hW8⟩:∃ W,w8.alloc (.cells (X.V a8 c8) 101)=W:=⟨_,rfl⟩
 rw [hW8] at J8
 obtain ⟨S8,hS8⟩:∃ S,wideS S4 w7 W8=S:=⟨_,rfl⟩
 rw [hS8] at J8
 have HJ8:=hid J8
 have HW8:=hid hW8
 have hbs:(w8.alloc (.cells (Rcd.none_.V none 0) 101)).heap[w8.heap.size]?=some (.cells (Rcd.none_.V none 0) 101 (0,0)):=Zaf
 clear x8 b8 l8 J8 hW8 hS8 HJ7 HA4 HBX
 go_wp2_with (first
  | (guard_target=wpList _ _ _ (⟨none,Op.store _ _ _,_,_,_,none⟩::_) _ _; have hb0:=hbs; clear hbs; refine Zaa rfl 101 _ _ rfl w8.heap.size rfl (X.V a8 c8) _ rfl 101 (Za0 _ _ _) hb0 rfl (V_one _ _ _) ?_; rw [Zag,HW8.out])
  | (guard_target=wpList _ _ _ (⟨some _,Op.load _ _,_,_,_,none⟩::_) _ _; refine Zab rfl 74 _ rfl ⟨w.heap.size,0,none⟩ rfl (Cfg.A C) (Zas C) (Zai HJ8.out.cfg) ?_))
 refine (jslot_c HJ8.out.rack C 0).mono ?_
 rintro e w9 ⟨a9,c9,rfl,x9,b9,l9⟩
 rw [show R3.jslot C 0=(⟨0,0,[List.replicate 108 0]⟩,true,0,none) from by rw [<- HCC.out]; exact HALL.out.s0] at b9 ⊢
 simp only [oErr]
 have J9:=HJ8.out.put x9 ⟨0,0,[List.replicate 108 0]⟩ a9 c9 b9 l9
 obtain ⟨Z,hZ⟩:∃ Z:Rcd,⟨0,0,[List.replicate 108 0]⟩=Z:=⟨_,rfl⟩
 have HZS:Hid (Z.seq=0):=hid (by rw [<- hZ])
 rw [hZ] at J9 ⊢
 obtain ⟨W9,hW9⟩:∃ W,w9.alloc (.cells (Z.V a9 c9) 101)=W:=⟨_,rfl⟩
 rw [hW9] at J9
 obtain ⟨S9,hS9⟩:∃ S,wideS S8 W8 W9=S:=⟨_,rfl⟩
 rw [hS9] at J9
 have HJ9:=hid J9
 have HW9:=hid hW9
 have hbs:(w9.alloc (.cells (Rcd.none_.V none 0) 101)).heap[w9.heap.size]?=some (.cells (Rcd.none_.V none 0) 101 (0,0)):=Zaf
 clear x9 b9 l9 J9 hW9 hS9 HJ8 HW8 hZ
 go_wp2_with (guard_target=wpList _ _ _ (⟨none,Op.store _ _ _,_,_,_,none⟩::_) _ _; have hb0:=hbs; clear hbs; refine Zaa rfl 101 _ _ rfl w9.heap.size rfl (Z.V a9 c9) _ rfl 101 (Za0 _ _ _) hb0 rfl (V_one _ _ _) ?_; rw [Zag,HW9.out])
 refine (at_rot HJ9.out.rack 0 2 0 1 (by omega)).mono ?_
 rintro e w10 ⟨rfl,h10,k10⟩
 rw [HALL.out.r0]
 have HJ10:=hid (HJ9.out.keep h10 k10)
 clear h10 k10 HJ9
 go_wp2_with fail
 refine (at_rot HJ10.out.rack 1 2 0 1 (by omega)).mono ?_
 rintro e w11 ⟨rfl,h11,k11⟩
 rw [HALL.out.r1]
 have HJ11:=hid (HJ10.out.keep h11 k11)
 clear h11 k11 HJ10
 go_wp2_with (guard_target=wpList _ _ _ (⟨some _,Op.load _ _,_,_,_,none⟩::_) _ _; refine Zab rfl 74 _ rfl ⟨w.heap.size,0,none⟩ rfl (Cfg.A C) (Zas C) (Zai HJ11.out.cfg) ?_)
 refine (jslot_c HJ11.out.rack C 1).mono ?_
 rintro e w12 ⟨a12,c12,rfl,x12,b12,l12⟩
 rw [show ((R3.rot 0 2 0 1).rot 1 2 0 1).jslot C 1=(Rcd.none_,false,0,some (.fault sJSlot 1 (.loss 1 0 1))) from by rw [<- HCC.out]; exact HALL.out.s2] at b12 ⊢
 obtain ⟨er,her⟩:∃ er,Err.fault sJSlot 1 (.loss 1 0 1)=er:=⟨_,rfl⟩
 have HLO:Hid (er.lost=true/\er.lossOf=(1,0,1)):=hid (by rw [<- her]; exact ⟨rfl,rfl⟩)
 rw [her]
 simp only [oErr]
 have HJ12:=hid (HJ11.out.more (x12.alloc (.cells (Rcd.none_.V a12 c12) 101)))
 obtain ⟨W12,hW12⟩:∃ W,w12.alloc (.cells (Rcd.none_.V a12 c12) 101)=W:=⟨_,rfl⟩
 rw [hW12] at HJ12
 have HW12:=hid hW12
 have hbs:(w12.alloc (.cells (Rcd.none_.V none 0) 101)).heap[w12.heap.size]?=some (.cells (Rcd.none_.V none 0) 101 (0,0)):=Zaf
 obtain ⟨et,ev,hev⟩:=er.iface
 have HEV:=hid hev
 rw [hev]
 clear x12 b12 l12 hW12 HJ11 her hev
 go_wp2_with (first
  | (guard_target=wpList _ _ _ (⟨none,Op.store _ _ _,_,_,_,none⟩::_) _ _; have hb0:=hbs; clear hbs; refine Zaa rfl 101 _ _ rfl w12.heap.size rfl (Rcd.none_.V a12 c12) _ rfl 101 (Za0 _ _ _) hb0 rfl (V_one _ _ _) ?_; rw [Zag,HW12.out])
  | (go_at_call 71; fail))
 refine Calls.mono (by rw [<- HEV.out]; exact lost_yes er HLO.out.1 _ (HG.out.only HJ12.out.ext (fun x=>x))) ?_
 rintro e w13 ⟨rfl,x13⟩
 rw [HLO.out.2]
 simp only [lostV]
 have HJ13:=hid (HJ12.out.more (x13.alloc (.cells (lcells (1,0,1)) 127)))
 obtain ⟨W13,hW13⟩:∃ W,w13.alloc (.cells (lcells (1,0,1)) 127)=W:=⟨_,rfl⟩
 have HN13:=hid (show W13.heap[w13.heap.size]?=some (.cells (lcells (1,0,1)) 127 (0,0)) from hW13▸heap_alloc_new _ _)
 rw [hW13] at HJ13
 have HW13:=hid hW13
 have hbs:(w13.alloc (.cells (lcells (0,0,0)) 127)).heap[w13.heap.size]?=some (.cells (lcells (0,0,0)) 127 (0,0)):=Zaf
 clear x13 hW13 HJ12 HW12 HEV
 go_wp2_with (first
  | (guard_target=wpList _ _ _ (⟨none,Op.store _ _ _,_,_,_,none⟩::_) _ _; have hb0:=hbs; clear hbs; refine Zaa rfl 127 _ _ rfl w13.heap.size rfl (lcells (1,0,1)) _ rfl 127 (agg_loss _) hb0 rfl (lcells_one _) ?_; rw [Zag,HW13.out])
  | (guard_target=wpList _ _ _ (⟨some _,Op.load _ _,_,_,_,none⟩::_) _ _; refine Zab rfl 101 _ rfl ⟨w8.heap.size,0,none⟩ rfl (X.V a8 c8) (Za0 _ _ _) (Zai (HJ13.out.recs ⟨w8.heap.size,X,a8,c8⟩ (by simp)).blk) ?_)
  | (guard_target=wpList _ _ _ (⟨some _,Op.load _ _,_,_,_,none⟩::_) _ _; refine Zab rfl 101 _ rfl ⟨w3.heap.size,0,none⟩ rfl (X.V a cp) (Za0 _ _ _) (Zai (HJ13.out.recs ⟨w3.heap.size,X,a,cp⟩ (by simp)).blk) ?_))
 refine (record_c X (by rw [HXE.out]; exact recOf_ok _ _ _ _) (by rw [HXE.out]; show (blocksOf C.k.toNat 5).length<=8; rw [HK.out,blocksOf_len]; omega) a8 a c8 cp W13 (HJ13.out.recs ⟨w8.heap.size,X,a8,c8⟩ (by simp)).bks (HJ13.out.recs ⟨w3.heap.size,X,a,cp⟩ (by simp)).bks).mono ?_
 rintro e w14 ⟨rfl,x14⟩
 have hz14:w14.cell? ⟨w9.heap.size,0,none⟩=some (.int .i64 0):=(Zae ((HJ13.out.recs ⟨w9.heap.size,Z,a9,c9⟩ (by simp)).ext x14).blk).trans (by rw [<- HZS.out]; rfl)
 have HL14:=hid (x14.at HN13.out)
 have HX14:=hid (Ext.trans HJ13.out.ext x14)
 have HBL:=hid (built_lossL 1)
 clear x14
 go_wp2_with (first
  | (guard_target=wpList _ _ _ (⟨some _,Op.load _ _,_,_,_,some _⟩::_) _ _; refine Zan 127 _ rfl ⟨w13.heap.size,0,none⟩ rfl (lcells (1,0,1)) rfl (agg_loss _) (Zai HL14.out) ?_)
  | (guard_target=wpList _ _ _ (⟨some _,Op.build _ _,_,_,_,some _⟩::_) _ _; refine wpListG_build_eq 127 _ rfl (lcells (1,0,1)) rfl ?_ ?_; (simp only [List.map_toArray,List.map_cons,List.map_nil,Act.eval]; exact HBL.out))
  | (guard_target=wpList _ _ _ (⟨some _,Op.binOp _ _ _ _ _,_,_,_,some _⟩::_) _ _; refine Zbr .eql 127 _ _ _ rfl (lcells (1,0,1)) (lcells (1,0,1)) rfl rfl (.bool true) rfl (loss_guard _ _ _ _ _ _) (loss_eql _ _) ?_))
 go_ret
 exact ⟨rfl,HX14.out⟩
structure RecN (B:Nat) (w:World) (p:RecP):Prop where
 blk:w.heap[p.g]?=some (.cells (p.x.V p.a p.cp) 101 (0,0))
 at_:B<=p.g
 bks:BlksAt w p.a p.x.blocks
 own:∀ g,p.a=some ⟨g,0,none⟩->B<=g
def Ak10A (o0:Int) (o1:Int) (o2:Int) (o3:Int) (o4:Bool) (k d s q x:Int) (ba:Option Addr) (bl bc:Nat):Array Value:=#[.int .i64 o0,.int .i64 o1,.int .i64 o2,.int .i64 o3,.bool o4,.int .i64 k,.int .i64 d,.int .i64 s,.int .i64 q,.int .u32 x,.slice ba bl bc]
theorem Ak10A_size (o0:Int) (o1:Int) (o2:Int) (o3:Int) (o4:Bool) (k d s q x:Int) (ba:Option Addr) (bl bc:Nat):(Ak10A o0 o1 o2 o3 o4 k d s q x ba bl bc).size=11:=rfl
theorem aggAk10:AggType Tryz.prog 97 11:=⟨by kernel_rfl,by kernel_rfl⟩
theorem zero_Ak10 (w:World):Sem.run Tryz.prog (zeroValue 97) w=.ok (.agg (Ak10A 0 0 0 0 false 0 0 0 0 0 none 0 0)) w:=by kernel_rfl
theorem Ak10A_one (o0:Int) (o1:Int) (o2:Int) (o3:Int) (o4:Bool) (k d s q x:Int) (ba:Option Addr) (bl bc:Nat):∀ v∈(Ak10A o0 o1 o2 o3 o4 k d s q x ba bl bc).toList,v.oneCell'=true:=by
 intro v hv
 simp only [Ak10A,List.mem_cons,List.not_mem_nil,or_false] at hv
 rcases hv with rfl | rfl | rfl | rfl | rfl | rfl | rfl | rfl | rfl | rfl | rfl<;>rfl
theorem Ak10A_wear (o0:Int) (o1:Int) (o2:Int) (o3:Int) (o4:Bool) (k d s q x:Int) (ba:Option Addr) (bl bc:Nat) (y:Nat):(Ak10A o0 o1 o2 o3 o4 k d s q x ba bl bc)[5+y]?=(WrA k d s q x ba bl bc)[y]?:=by
 rcases Nat.lt_or_ge y 6 with h | h
 ·
  rcases y with _ | _ | _ | _ | _ | _ | y
  all_goals first | rfl | omega
 ·
  rw [Array.getElem?_eq_none (by rw [Ak10A_size]; omega),Array.getElem?_eq_none (by rw [WrA_size]; omega)]
def I64 (z:Int):Prop:=-9223372036854775808<=z/\z<=9223372036854775807
def Ak10sAt (w:World) (a:Option Addr) (len:Nat):Prop:=∀ i,i < len->∃ b off o0 o1 o2 o3 o4 k d s q x ba bl bc bits,a=some ⟨b,off,none⟩/\b < w.heap.size/\(I64 o0/\I64 o1/\I64 o2/\I64 o3)/\0<=x/\x < 4294967296/\BitsIn w ba bl bits/\∀ y v,(Ak10A o0 o1 o2 o3 o4 k d s q x ba bl bc).toList[y]?=some v->w.cell? ⟨b,off+i*11+y,none⟩=some v
set_option maxRecDepth 100000 in
theorem open_Ak10s {H:Type} {enc:TypeId × Value->H} {w:World} {base:Nat} {spare:Nat->Bool} {held:Bool} {fuel:Nat} {a:Option Addr} {len cap:Nat} {x:DataW H × List MemPlace} (h:DataW.trod enc Tryz.prog w base spare held fuel 95 [.slice a len cap]=some x):Ak10sAt w a len:=by
 intro i hi
 rcases Go.Deep.open_slice Tryz.underlying95 h with ⟨hcs,_⟩ | ⟨ad,len',cap',m,n,D,Pl,hcs,hb,hl,hm,hmm,_,hx⟩
 ·
  simp at hcs; omega
 ·
  simp only [List.cons.injEq,Value.slice.injEq,and_true] at hcs
  obtain ⟨rfl,rfl,rfl⟩:=hcs
  have him:i < m:=by
   rw [hmm]; split<;>omega
  obtain ⟨cs',h1,h2⟩:=hx i him
  have ce:Tryz.prog.cellsOf 97=11:=by kernel_rfl
  have c3:Tryz.prog.cellsOf 3=1:=by kernel_rfl
  have c5:Tryz.prog.cellsOf 34=1:=by kernel_rfl
  have c4:Tryz.prog.cellsOf 33=1:=by kernel_rfl
  have c6:Tryz.prog.cellsOf 4=1:=by kernel_rfl
  have c7:Tryz.prog.cellsOf 79=6:=by kernel_rfl
  rw [ce] at h1
  obtain ⟨_,hlen,hcell⟩:=World.cells?_some h1
  obtain ⟨xs,k,hk,hxy,_,hxl,hf⟩:=DataW.trod_struct Tryz.underlying97 h2
  match xs,hxl,cs',hlen with
  | [y0,y1,y2,y3,y4,y5],_,[v0,v1,v2,v3,v4,v5,v6,v7,v8,v9,v10],_ =>
   have g0:=hf 0 _ rfl
   have g1:=hf 1 _ rfl
   have g2:=hf 2 _ rfl
   have g3:=hf 3 _ rfl
   have g4:=hf 4 _ rfl
   have g5:=hf 5 _ rfl
   simp [c3,c4,c5,c6,c7] at g0 g1 g2 g3 g4 g5
   obtain ⟨us,k2,hk2,hxy2,_,hul,hu⟩:=DataW.trod_struct Tryz.underlying79 g5
   match us,hul with
   | [u0,u1,u2,u3,u4,u5],_ =>
    have j0:=hu 0 _ rfl
    have j1:=hu 1 _ rfl
    have j2:=hu 2 _ rfl
    have j3:=hu 3 _ rfl
    have j4:=hu 4 _ rfl
    have j5:=hu 5 _ rfl
    simp [c3,c4,c5,c6] at j0 j1 j2 j3 j4 j5
    obtain ⟨z0,e0,_,hw0⟩:=DataW.trod_int Tryz.underlying3 g0
    obtain ⟨z1,e1,_,hw1⟩:=DataW.trod_int Tryz.underlying3 g1
    obtain ⟨z2,e2,_,hw2⟩:=DataW.trod_int Tryz.underlying3 g2
    obtain ⟨z3,e3,_,hw3⟩:=DataW.trod_int Tryz.underlying3 g3
    obtain ⟨z4,e4,_⟩:=DataW.trod_bool Tryz.underlying4 g4
    obtain ⟨a0,f0,_,_⟩:=DataW.trod_int Tryz.underlying3 j0
    obtain ⟨a1,f1,_,_⟩:=DataW.trod_int Tryz.underlying3 j1
    obtain ⟨a2,f2,_,_⟩:=DataW.trod_int Tryz.underlying3 j2
    obtain ⟨a3,f3,_,_⟩:=DataW.trod_int Tryz.underlying3 j3
    obtain ⟨a4,f4,_,hw⟩:=DataW.trod_int Tryz.underlying33 j4
    obtain ⟨ba,bl,bc,bits,f5,hbits⟩:=open_bits j5
    simp only [List.cons.injEq,and_true] at e0 e1 e2 e3 e4 f0 f1 f2 f3 f4
    subst e0 e1 e2 e3 e4 f0 f1 f2 f3 f4 f5
    have hxw:0<=a4/\a4 < 4294967296:=by
     have:=hw
     simp only [Lit.wf,Bool.and_eq_true,decide_eq_true_eq] at this
     simp only [IntKind.min,IntKind.max,IntKind.signed,IntKind.bits,Bool.false_eq_true,if_false] at this
     omega
    have hz0:∃ v,w.cell? (ad.add 0)=some v:=by
     obtain ⟨cs0,k1,_⟩:=hx 0 (by omega)
     rw [ce] at k1
     obtain ⟨_,k2,k3⟩:=World.cells?_some k1
     have k4:=k3 0 (by omega)
     rw [Go.Deep.add_add] at k4
     match cs0,k2 with
     | v::_,_=>exact ⟨v,k4⟩
    obtain ⟨v,hv0⟩:=hz0
    obtain ⟨b,off,rfl,hbl⟩:=cell_plain hv0
    refine ⟨b,off,z0,z1,z2,z3,z4,a0,a1,a2,a3,a4,ba,bl,bc,bits,rfl,hbl,⟨bounds_i64 hw0,bounds_i64 hw1,bounds_i64 hw2,bounds_i64 hw3⟩,hxw.1,hxw.2,hbits,fun y v hv=>?_⟩
    have hy:y < 11:=by
     rcases Nat.lt_or_ge y 11 with q | q
     ·
      exact q
     ·
      rw [List.getElem?_eq_none (by simpa [Ak10A] using q)] at hv; cases hv
    have:=hcell y hy
    rw [Go.Deep.add_add,addr_plain,<- Nat.add_assoc] at this
    rw [this]
    exact hv
end Go.Proofs.YtgjnnbomnoafcaaGreatDoor
