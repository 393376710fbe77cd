/- Texts of one proof, joined: StripeRecs, StripeLaws, StrEnv, WStripeRuns. -/
import Derived.Test.YtgjnnbomnoafcaaGreatDoorVZ
import Derived.Test.YtgjnnbomnoafcaaGreatDoorVS
import Derived.Test.YtgjnnbomnoafcaaGreatDoorVF
set_option linter.unusedVariables false
set_option linter.unusedSimpArgs false
namespace Go.Proofs.YtgjnnbomnoafcaaGreatDoor
set_option linter.unusedVariables false
open Go Go.RowKit
theorem blocksOf_Blocks (k:Nat) (n:Int):Cd.Blocks k 108 (blocksOf k n):=Cd.Blocks.mem (Zb6 k n) (fun b hb=>by
 obtain ⟨x,rfl⟩:=Zb3 hb; exact Za1 x) (fun b hb=>by
 obtain ⟨x,rfl⟩:=Zb3 hb; exact blockOf_byte x)
theorem SFit.of {c:Cfg} {s:Nat} {gen n:Int} (hs:s < c.stripes.toNat) (h0:1<=gen) (h1:gen<=1152921504606846976):SFit c s gen (blocksOf c.k.toNat n):=⟨hs,h0,h1,blocksOf_Blocks _ _⟩
namespace Runs11
def c:Cfg:=⟨9,2,3,1,1⟩
def a:List (List Nat):=blocksOf 2 5
def b:List (List Nat):=blocksOf 2 8
theorem good:c.Good:=⟨by decide,by decide,by decide,by decide,by decide,by decide,by decide,by decide,by decide⟩
structure All (R1 R4:Rck):Prop where
 p1:(Rck.new 3 4).sput c 0 5 a=(none,R1)
 g1:(R1.die 1).sget c 0=(a,5,none)
 p2:((R1.die 1).replace 1).sput c 0 6 b=(none,R4)
 r1:R4.rotOk 2 3 0 1=true
 g2:(R4.rot 2 3 0 1).sget c 0=(b,6,none)
theorem all:∃ R1 R4,All R1 R4:=by
 have hm:c.sectors<=((4:Nat):Int):=by decide
 have h0:SR (Rck.new 3 4) c 4 (fun _=>none) allU fun _=>noB:=SR.new good hm
 obtain ⟨R1,e1,h1⟩:=h0.put (fun d _=>rfl) (SFit.of (c:=c) (s:=0) (gen:=5) (n:=5) (by decide) (by decide) (by decide))
 have h2:=h1.die (i:=1) (by decide)
 have g1:=h2.get (s:=0) (by decide) (by decide) (updS_at _ _ _) (by decide)
 have h3:=h2.replace (i:=1) (by decide)
 obtain ⟨R4,e4,h4⟩:=h3.put (fun d _=>by
  show (if d=1 then true else if d=1 then false else allU d)=true
  split
  ·
   rfl
  ·
   rfl) (SFit.of (c:=c) (s:=0) (gen:=6) (n:=8) (by decide) (by decide) (by decide))
 have es:ssecN c 0=3:=by decide
 obtain ⟨r1,h5⟩:=h4.rot (i:=2) (s:=0) (by decide) (by decide) (updS_at _ _ _) (by decide) (a:=0) (y:=1) (by omega) (by omega) (by omega)
 have g2:=h5.get (s:=0) (by decide) (by decide) (updS_at _ _ _) (by decide)
 rw [es] at r1 g2
 exact ⟨R1,R4,e1,g1,e4,r1,g2⟩
end Runs11
def cntP (P:Nat->Bool) (n:Nat):Nat:=((List.range n).filter P).length
section
variable {R:Rck} {c:Cfg} {m:Nat} {f:Strs} {l:List (List Nat)}
def LookI (R:Rck) (c:Cfg) (m:Nat) (f:Strs) (bit:Nat->Bool) (i:Nat):Prop :=
 ∃ U B,SR R c m f U B/\(∀ d,d < c.n.toNat->U d=true)/\∀ d,d < c.n.toNat->B d (ssecN c 0)=(decide (d < i) && bit d)
namespace LookI
variable {bit:Nat->Bool} {i:Nat}
end LookI
end
end Go.Proofs.YtgjnnbomnoafcaaGreatDoor
namespace Go.Proofs.YtgjnnbomnoafcaaGreatDoor
set_option linter.unusedVariables false
section
variable {R:Rck} {c:Cfg} {m:Nat} {f:Strs} {gen:Int} {l:List (List Nat)} {U:Nat->Bool} {B:Nat->Nat->Bool}
structure Budg (R:Rck) (c:Cfg) (m:Nat) (f:Strs) (s:Nat) (L:List Nat) (on:Nat):Prop where
 ex:∃ U B,SR R c m f U B/\(∀ d,d < c.n.toNat->d∈L->SR.isG c U B s d=true)/\cntP (SR.isG c U B s) c.n.toNat=L.length/\cntP U c.n.toNat=on
 nodup:L.Nodup
 lt:∀ d∈L,d < c.n.toNat
namespace Budg
variable {s on:Nat} {L:List Nat}
end Budg
structure CutS (c:Cfg) (m:Nat) (F G:Nat->Frm) (d:Nat) (D:Dsk):Prop where
 len:D.l.length=m
 alive:D.dead=false
 base:D.l.getD (ssecN c 0) []=(F d).bytes\/D.l.getD (ssecN c 0) []=(G d).bytes
 wait:D.waits (ssecN c 0)=none\/D.waits (ssecN c 0)=some (G d).bytes
namespace CutS
variable {F G:Nat->Frm} {d:Nat} {D:Dsk}
end CutS
structure CutSR (c:Cfg) (m:Nat) (F G:Nat->Frm) (R:Rck):Prop where
 len:R.l.length=c.n.toNat
 dsk:∀ d:Nat,d < c.n.toNat->CutS c m F G d (R.dsk d)
namespace CutSR
variable {F G:Nat->Frm}
end CutSR
namespace CutAll
variable {X Y:List (List Nat)}
end CutAll
end
end Go.Proofs.YtgjnnbomnoafcaaGreatDoor
namespace Go.Proofs.YtgjnnbomnoafcaaGreatDoor
set_option linter.unusedVariables false
open Go Go.RowKit
def CBlkAt (w:World) (g:Nat) (c:Cfg):Prop:=w.heap[g]?=some (.cells (Cfg.A c) 74 (0,0))
structure BksOk (S:Nat->Prop) (w:World) (p:Option Addr × List (List Nat)):Prop where
 bks:BlksAt w p.1 p.2
 own:p.2≠[]->∀ g,p.1=some ⟨g,0,none⟩->S g
theorem BksOk.keep {S:Nat->Prop} {w w':World} {p:Option Addr × List (List Nat)} (h:BksOk S w p) (k:Keeps S w w'):BksOk S w' p:=by
 refine ⟨?_,h.own⟩
 by_cases e:p.2=[]
 ·
  rw [e]; intro i b hb; simp at hb
 ·
  exact h.bks.only k fun g hg q=>q (h.own e g hg)
theorem BksOk.ext {S:Nat->Prop} {w w':World} {p:Option Addr × List (List Nat)} (h:BksOk S w p) (e:Ext w w'):BksOk S w' p:=⟨h.bks.ext e,h.own⟩
theorem BksOk.sub {S T:Nat->Prop} {w:World} {p:Option Addr × List (List Nat)} (h:BksOk S w p) (hT:∀ b,S b->T b):BksOk T w p:=⟨h.bks,fun q g hg=>hT _ (h.own q g hg)⟩
structure SE (w0 w:World) (S:Nat->Prop) (r:Nat) (R:Rck) (gc:Nat) (c:Cfg) (L:List (Option Addr × List (List Nat))):Prop where
 rack:RackAt S w r R
 ext:Ext w0 w
 low:∀ b,b < w0.heap.size->S b
 cfg:CBlkAt w gc c
 cfgS:S gc
 recs:∀ p∈L,BksOk S w p
def wideS (S:Nat->Prop) (w w':World) (b:Nat):Prop:=S b\/(w.heap.size<=b/\b < w'.heap.size)
namespace SE
variable {w0 w w':World} {S:Nat->Prop} {r:Nat} {R R':Rck} {gc:Nat} {c:Cfg} {L:List (Option Addr × List (List Nat))}
theorem keep (h:SE w0 w S r R gc c L) (hr:RackAt S w' r R') (k:Keeps S w w'):SE w0 w' S r R' gc c L :=
 ⟨hr,Keeps.ext h.ext k h.low,h.low,k.at h.cfg fun q=>q h.cfgS,h.cfgS,fun p hp=>(h.recs p hp).keep k⟩
theorem more (h:SE w0 w S r R gc c L) (e:Ext w w'):SE w0 w' S r R gc c L :=
 ⟨h.rack.ext e,Ext.trans h.ext e,h.low,e.at h.cfg,h.cfgS,fun p hp=>(h.recs p hp).ext e⟩
theorem wide (h:SE w0 w S r R gc c L) (e:Ext w w'):SE w0 w' (wideS S w w') r R gc c L :=
 ⟨h.rack.more e fun b hb=>by
  rcases hb with hb | hb
  ·
   exact ⟨Nat.lt_of_lt_of_le (h.rack.there b hb) e.size,.inl hb⟩
  ·
   exact ⟨hb.2,.inr hb.1⟩,Ext.trans h.ext e,fun b hb=>.inl (h.low b hb),e.at h.cfg,.inl h.cfgS,fun p hp=>((h.recs p hp).ext e).sub fun b hb=>.inl hb⟩
theorem put (h:SE w0 w S r R gc c L) (e:Ext w w') (l:List (List Nat)) (a:Option Addr) (hb:BlksAt w' a l) (ha:∀ g,a=some ⟨g,0,none⟩->w.heap.size<=g) :
  SE w0 w' (wideS S w w') r R gc c ((a,l)::L):=by
 have hw:=h.wide e
 refine ⟨hw.rack,hw.ext,hw.low,hw.cfg,hw.cfgS,fun p hp=>?_⟩
 rcases List.mem_cons.1 hp with rfl | hp
 ·
  exact ⟨hb,fun hl g hg=>.inr ⟨ha g hg,hb.lt hl g hg⟩⟩
 ·
  exact hw.recs p hp
end SE
theorem blocksOf_108 (k:Nat) (n:Int):∀ b∈blocksOf k n,b.length=108:=fun b hb=>by obtain ⟨n,rfl⟩:=Zb3 hb; exact Za1 n
theorem blocksOf_bytes (k:Nat) (n:Int):∀ b∈blocksOf k n,∀ x∈b,x < 256:=fun b hb=>by obtain ⟨n,rfl⟩:=Zb3 hb; exact blockOf_byte n
theorem wpListG_build_eq {P:Program} {ops:Array Oper} {rest:List Oper} {o:Oper} {a:Act} {w:World} {Q:Exit->Act->World->Prop} (t:TypeId) (parts:Array (Nat × Operand)) (ho:o.op=.build t parts) (A:Array Value) (hw:Region.wanted o (yielded ops a.tmps)=true)
  (hb:P.built t (parts.map fun (i,x)=>(i,a.eval x)).toList=some A) (h:wpList P ops Q rest (a.put o.dst (.agg A)) w):wpList P ops Q (o::rest) a w:=by
 refine wpList_run (.agg A) hw ?_ h
 unfold execOp
 simp only [ho,Sem.run_bind,run_build w t _ A hb,Result.andThen_ok]
 rfl
end Go.Proofs.YtgjnnbomnoafcaaGreatDoor
namespace Go.Proofs.YtgjnnbomnoafcaaGreatDoor
set_option linter.unusedVariables false
open Go Go.RowKit
set_option maxRecDepth 100000 in
set_option maxHeartbeats 1000000 in
theorem stripeRuns_c (w:World):Calls Tryz.prog 72 #[] w fun e w'=>e=.returned (.bool true)/\Ext w w':=by
 have hzc:=zero_cfg
 have HCS:=hid Cfg.A_size
 have HB:Hid (Tryz.prog.built 74 [(0,.int .i64 9),(1,.int .i64 2),(2,.int .i64 3),(3,.int .i64 1),(4,.int .i64 1)]=some (Cfg.A Runs11.c)):=hid (built_cfg Runs11.c)
 obtain ⟨R1,R4,hall⟩:=Runs11.all
 have HALL:=hid hall
 clear hall
 obtain ⟨C,hC⟩:∃ C,Runs11.c=C:=⟨_,rfl⟩
 have HCC:=hid hC
 rw [hC] at HB
 obtain ⟨la,hla⟩:∃ l,blocksOf 2 5=l:=⟨_,rfl⟩
 obtain ⟨lb,hlb⟩:∃ l,blocksOf 2 8=l:=⟨_,rfl⟩
 have LA8:=hid (hla▸blocksOf_108 2 5)
 have LAB:=hid (hla▸blocksOf_bytes 2 5)
 have LB8:=hid (hlb▸blocksOf_108 2 8)
 have LBB:=hid (hlb▸blocksOf_bytes 2 8)
 have LAN:=hid (show la.length<=8 by rw [<- hla,Zb6]; omega)
 have LBN:=hid (show lb.length<=8 by rw [<- hlb,Zb6]; omega)
 have HLA:=hid hla
 have HLB:=hid hlb
 obtain ⟨W1,hW1⟩:∃ W,w.alloc (.cells (Cfg.A C) 74)=W:=⟨_,rfl⟩
 have X1:=hid (show Ext w W1 from hW1▸(Ext.refl w).alloc _)
 have HC:=hid (show W1.heap[w.heap.size]?=some (.cells (Cfg.A C) 74 (0,0)) from hW1▸heap_alloc_new _ _)
 have hbs:(w.alloc (.cells (Cfg.A Cfg.zero) 74)).heap[w.heap.size]?=some (.cells (Cfg.A Cfg.zero) 74 (0,0)):=Zad
 clear hC hla hlb
 go_enter Tryz.func72,Tryz.ntmps72
 go_wp2_with (first
  | (guard_target=wpList _ _ _ (⟨some _,Op.build _ _,_,_,_,none⟩::_) _ _; refine Zav rfl 74 _ rfl (Cfg.A C) ?_ ?_; (simp only [List.map_toArray,List.map_cons,List.map_nil,Act.eval]; exact HB.out))
  | (guard_target=wpList _ _ _ (⟨none,Op.store _ _ _,_,_,_,none⟩::_) _ _; refine Zab rfl 74 _ _ rfl w.heap.size rfl (Cfg.A C) _ rfl 74 ?_ hbs ?_ ?_ ?_; (rw [HCS.out]; exact aggCfg); (rw [HCS.out,HCS.out]); exact Cfg.A_one _))
 rw [Zao,hW1]
 refine (at_new 3 4 (by omega) (by omega) (by omega) (by omega) W1).mono ?_
 rintro e w2 ⟨r,rfl,h2,x2⟩
 have J2:SE w w2 (fun b=>b < W1.heap.size) r (Rck.new 3 4) w.heap.size C []:=⟨h2,Ext.trans X1.out x2,fun b hb=>Nat.lt_of_lt_of_le hb X1.out.size,x2.at HC.out,lt_of_block HC.out,fun p hp=>by simp at hp⟩
 have HJ2:=hid J2
 clear h2 x2 hbs J2 HC X1
 go_wp2_with fail
 refine (kblocks_c 2 (by omega) 5 w2).mono ?_
 rintro e w3 ⟨v,rfl,hown,x3⟩
 rw [HLA.out] at hown
 obtain ⟨a,ca,rfl,hbk,hab⟩:=kblocks_at LA8.out hown
 obtain ⟨S3,hS3⟩:∃ S,wideS (fun b=>b < W1.heap.size) w2 w3=S:=⟨_,rfl⟩
 have HJ3:=hid (hS3▸HJ2.out.put x3 la a hbk hab)
 clear hown x3 hbk hab hS3 HJ2
 go_wp2_with fail
 refine (kblocks_c 2 (by omega) 8 w3).mono ?_
 rintro e w4 ⟨v,rfl,hown,x4⟩
 rw [HLB.out] at hown
 obtain ⟨b,cb,rfl,hbk,hab⟩:=kblocks_at LB8.out hown
 obtain ⟨S4,hS4⟩:∃ S,wideS S3 w3 w4=S:=⟨_,rfl⟩
 have HJ4:=hid (hS4▸HJ3.out.put x4 lb b hbk hab)
 clear hown x4 hbk hab hS4 HJ3
 go_wp2_with (guard_target=wpList _ _ _ (⟨some _,Op.load _ _,_,_,_,some _⟩::_) _ _; refine wpListG_load_agg 74 _ rfl ⟨w.heap.size,0,none⟩ rfl (Cfg.A C) rfl (Za6 C) (Zaj HJ4.out.cfg) ?_)
 refine (strput_c HJ4.out.rack C 0 5 la LA8.out LAB.out a ca (HJ4.out.recs (a,la) (by simp)).bks).mono ?_
 rintro e w5 ⟨rfl,h5,k5⟩
 rw [show (Rck.new 3 4).sput C 0 5 la=(none,R1) from by rw [<- HCC.out,<- HLA.out]; exact HALL.out.p1] at h5 ⊢
 simp only [oErr]
 have HJ5:=hid (HJ4.out.keep h5 k5)
 clear h5 k5 HJ4
 go_wp2_with fail
 refine (at_die HJ5.out.rack 1).mono ?_
 rintro e w6 ⟨rfl,h6,k6⟩
 have HJ6:=hid (HJ5.out.keep h6 k6)
 clear h6 k6 HJ5
 go_wp2_with (guard_target=wpList _ _ _ (⟨some _,Op.load _ _,_,_,_,none⟩::_) _ _; refine Zae rfl 74 _ rfl ⟨w.heap.size,0,none⟩ rfl (Cfg.A C) (Za6 C) (Zaj HJ6.out.cfg) ?_)
 refine (sget_c HJ6.out.rack C 0).mono ?_
 rintro e w7 ⟨v,rfl,hown,x7⟩
 rw [show (R1.die 1).sget C 0=(la,5,none) from by rw [<- HCC.out,<- HLA.out]; exact HALL.out.g1] at hown ⊢
 obtain ⟨a7,c7,rfl,hbk,hab⟩:=kblocks_at LA8.out hown
 obtain ⟨S7,hS7⟩:∃ S,wideS S4 w6 w7=S:=⟨_,rfl⟩
 have HJ7:=hid (hS7▸HJ6.out.put x7 la a7 hbk hab)
 simp only [oErr]
 clear hown x7 hbk hab hS7 HJ6
 go_wp2_with fail
 refine (at_replace HJ7.out.rack 1).mono ?_
 rintro e w8 ⟨rfl,h8,k8⟩
 have HJ8:=hid (HJ7.out.keep h8 k8)
 clear h8 k8 HJ7
 go_wp2_with (guard_target=wpList _ _ _ (⟨some _,Op.load _ _,_,_,_,none⟩::_) _ _; refine Zae rfl 74 _ rfl ⟨w.heap.size,0,none⟩ rfl (Cfg.A C) (Za6 C) (Zaj HJ8.out.cfg) ?_)
 refine (strput_c HJ8.out.rack C 0 6 lb LB8.out LBB.out b cb (HJ8.out.recs (b,lb) (by simp)).bks).mono ?_
 rintro e w9 ⟨rfl,h9,k9⟩
 rw [show ((R1.die 1).replace 1).sput C 0 6 lb=(none,R4) from by rw [<- HCC.out,<- HLB.out]; exact HALL.out.p2] at h9 ⊢
 simp only [oErr]
 have HJ9:=hid (HJ8.out.keep h9 k9)
 clear h9 k9 HJ8
 go_wp2_with fail
 refine (at_rot HJ9.out.rack 2 3 0 1 (by omega)).mono ?_
 rintro e w10 ⟨rfl,h10,k10⟩
 rw [HALL.out.r1]
 have HJ10:=hid (HJ9.out.keep h10 k10)
 clear h10 k10 HJ9
 go_wp2_with (guard_target=wpList _ _ _ (⟨some _,Op.load _ _,_,_,_,none⟩::_) _ _; refine Zae rfl 74 _ rfl ⟨w.heap.size,0,none⟩ rfl (Cfg.A C) (Za6 C) (Zaj HJ10.out.cfg) ?_)
 refine (sget_c HJ10.out.rack C 0).mono ?_
 rintro e w11 ⟨v,rfl,hown,x11⟩
 rw [show (R4.rot 2 3 0 1).sget C 0=(lb,6,none) from by rw [<- HCC.out,<- HLB.out]; exact HALL.out.g2] at hown ⊢
 obtain ⟨a11,c11,rfl,hbk,hab⟩:=kblocks_at LB8.out hown
 obtain ⟨S11,hS11⟩:∃ S,wideS S7 w10 w11=S:=⟨_,rfl⟩
 have HJ11:=hid (hS11▸HJ10.out.put x11 lb a11 hbk hab)
 simp only [oErr]
 clear hown x11 hbk hab hS11 HJ10
 go_wp2_with fail
 refine (sameblk_c la LA8.out LAN.out a7 a c7 ca _ (HJ11.out.recs (a7,la) (by simp)).bks (HJ11.out.recs (a,la) (by simp)).bks).mono ?_
 rintro e w12 ⟨rfl,x12⟩
 have HJ12:=hid (HJ11.out.more x12)
 clear x12 HJ11
 go_wp2_with fail
 refine (sameblk_c lb LB8.out LBN.out a11 b c11 cb _ (HJ12.out.recs (a11,lb) (by simp)).bks (HJ12.out.recs (b,lb) (by simp)).bks).mono ?_
 rintro e w13 ⟨rfl,x13⟩
 have HX13:=hid (Ext.trans HJ12.out.ext x13)
 clear x13 HJ12
 go_wp2
 go_ret
 exact ⟨rfl,HX13.out⟩
end Go.Proofs.YtgjnnbomnoafcaaGreatDoor
