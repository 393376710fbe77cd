/- Texts of one proof, joined: RunsTape, WTapeRuns. -/
import Derived.Test.YtgjnnbomnoafcaaGreatPBC
set_option linter.unusedVariables false
set_option linter.unusedSimpArgs false
namespace Go.Proofs.YtgjnnbomnoafcaaGreat
set_option linter.unusedVariables false
namespace Runs14
def c:Cfg:=⟨9,1,1,2,1⟩
def l:List (List Nat):=[[97],[98,99]]
theorem c_good:c.Good:=⟨by decide,by decide,by decide,by decide,by decide,by decide,by decide,by decide,by decide⟩
theorem fits1:Tp.fits 1 l:=by decide
theorem fits2:Tp.fits 1 (l.take 1):=by decide
structure All (R1 R2 R3 R4 R5:Rck) (cur:Int):Prop where
 m1:(Rck.new 1 4).vmake c=(none,R1)
 o1:R1.topen=(none,R2,⟨c,1,false⟩,[])
 k1:ReadsOk R1
 a1:Vol.tappend ⟨c,1,false⟩ R2 0 l=⟨none,R3,⟨c,2,false⟩,1⟩
 a2:Vol.tappend ⟨c,2,false⟩ R3 1 (l.take 1)=⟨none,R4,⟨c,3,false⟩,2⟩
 o2:R4.topen=(none,R5,⟨c,cur,false⟩,[l,l.take 1])
 k2:ReadsOk R4
theorem all:∃ R1 R2 R3 R4 R5 cur,All R1 R2 R3 R4 R5 cur:=by
 have k4:c.k<=4:=by decide
 have n6:c.n<=6:=by decide
 have hm:((4:Nat):Int)=c.sectors:=by decide
 obtain ⟨R1,R2,e1,e2,e3,h2,t2⟩:=TI.start c_good k4 n6 (m:=4) (by rw [hm]; exact Int.le_refl _)
 obtain ⟨R3,j3,f3,e4,h3,t3⟩:=t2.append h2 hm k4 n6 (by decide) (by decide) (es:=l) fits1 (by decide)
 obtain ⟨R4,j4,f4,e5,h4,t4⟩:=t3.append h3 hm k4 n6 (by decide) (by decide) (es:=l.take 1) fits2 (by decide)
 obtain ⟨R5,cur,e6,e7,_⟩:=t4.again h4 k4 n6
 exact ⟨R1,R2,R3,R4,R5,cur,e1,e2,e3,e4,e5,e6,e7⟩
theorem head7:∀ i,i < 7->nth (Tp.chunk (Tp.pack l)) i=nth [1,0,97,2,0,98,99] i:=by decide
theorem emp:Tp.empty (Tp.chunks 1 (Tp.pack l))=l:=Tp.empty_fill (by decide) fits1
end Runs14
open Go Go.RowKit
set_option maxRecDepth 100000 in
theorem conv_row {W:World} {b:Nat} {C:Array Value} (n c:Nat) (h:W.heap[b]?=some (.cells C 5 (0,0))) :
  ∃ W',Sem.run Tryz.prog (convert 38 38 (.slice (some ⟨b,0,none⟩) n c)) W=.ok (.slice (some ⟨b,0,none⟩) n c) W'/\W'.heap[b]?=some (.cells C 5 (C.size,C.size+1))/\Only (fun k=>k=b) W W':=by
 refine ⟨W.freeze ⟨b,C.size,none⟩ 1,?_,?_,?_⟩
 ·
  simp [convert,run_underlying Tryz.underlying38,run_underlying Tryz.underlying5,markStringish,World.shape?,h]
 ·
  unfold World.freeze
  rw [if_neg (by decide)]
  simp [Array.getElem?_modify,h]
 ·
  unfold World.freeze
  rw [if_neg (by decide)]
  refine ⟨rfl,rfl,rfl,by simp,fun k hk hn=>?_⟩
  have hn:¬k=b:=hn
  simp [Array.getElem?_modify,Ne.symm hn]
set_option maxRecDepth 100000 in
set_option maxHeartbeats 4000000 in
theorem tapeRuns_c (w:World):Calls Tryz.prog 15 #[] w fun e w'=>e=.returned (.bool true)/\Ext w w':=by
 have hzc:=zero_cfg
 have HCS:=hid Cfg.A_size
 have HB:Hid (Tryz.prog.built 26 [(0,.int .i64 9),(1,.int .i64 1),(2,.int .i64 1),(3,.int .i64 2),(4,.int .i64 1)]=some (Cfg.A Runs14.c)):=hid (built_cfg Runs14.c)
 obtain ⟨R1,R2,R3,R4,R5,cur,hall⟩:=Runs14.all
 obtain ⟨C,hC⟩:∃ C,Runs14.c=C:=⟨_,rfl⟩
 have HGD:=hid (hC▸Runs14.c_good)
 have HCK:=hid (show C.k.toNat=1 from hC▸rfl)
 have HC0:=hid hC
 have HM1:=hid (show (Rck.new 1 4).vmake C=(none,R1) from hC▸hall.m1)
 have HO1:=hid (show R1.topen=(none,R2,⟨C,1,false⟩,[]) from hC▸hall.o1)
 have HKK1:=hid (show ReadsOk R1 from hall.k1)
 have HA1:=hid (show Vol.tappend ⟨C,1,false⟩ R2 0 Runs14.l=⟨none,R3,⟨C,2,false⟩,1⟩ from hC▸hall.a1)
 have HA2:=hid (show Vol.tappend ⟨C,2,false⟩ R3 1 (Runs14.l.take 1)=⟨none,R4,⟨C,3,false⟩,2⟩ from hC▸hall.a2)
 have HO2:=hid (show R4.topen=(none,R5,⟨C,cur,false⟩,[Runs14.l,Runs14.l.take 1]) from hC▸hall.o2)
 have HKK2:=hid (show ReadsOk R4 from hall.k2)
 rw [hC] at HB
 obtain ⟨W1,hW1⟩:∃ W,w.alloc (.cells (Cfg.A C) 26)=W:=⟨_,rfl⟩
 have X1:=hid (show Ext w W1 from hW1▸(Ext.refl w).alloc _)
 have HC:=hid (show W1.heap[w.heap.size]?=some (.cells (Cfg.A C) 26 (0,0)) from hW1▸heap_alloc_new _ _)
 have hbs:(w.alloc (.cells (Cfg.A Cfg.zero) 26)).heap[w.heap.size]?=some (.cells (Cfg.A Cfg.zero) 26 (0,0)):=Zad
 have HW1:=hid hW1
 clear hC hall hW1
 obtain ⟨g1,hg1⟩:∃ g1,W1.heap.size=g1:=⟨_,rfl⟩
 obtain ⟨w3,hcv1,hb1,ho1⟩:=conv_row (W:=W1.alloc (.cells #[.int .u8 97] 5)) 1 1 Zad
 have X3:=hid (show Ext w w3 from Ext.then (X1.out.alloc _) ho1 fun i hi e=>by have e:i=W1.heap.size:=e; have:=X1.out.size; omega)
 obtain ⟨w5,hcv2,hb2,ho2⟩:=conv_row (W:=w3.alloc (.cells #[.int .u8 98,.int .u8 99] 5)) 2 2 Zad
 have X5:=hid (show Ext w w5 from Ext.then (X3.out.alloc _) ho2 fun i hi e=>by have e:i=w3.heap.size:=e; have:=X3.out.size; omega)
 have hs3:W1.heap.size < w3.heap.size:=lt_of_block hb1
 have hs5:w3.heap.size < w5.heap.size:=lt_of_block hb2
 obtain ⟨W6,hW6⟩:∃ W,w5.alloc (.cells #[.slice (some ⟨W1.heap.size,0,none⟩) 1 1,.slice (some ⟨w3.heap.size,0,none⟩) 2 2] 38)=W:=⟨_,rfl⟩
 have x6:Ext w5 W6:=hW6▸(Ext.refl w5).alloc _
 have hb6:W6.heap[w5.heap.size]?=some (.cells #[.slice (some ⟨W1.heap.size,0,none⟩) 1 1,.slice (some ⟨w3.heap.size,0,none⟩) 2 2] 38 (0,0)):=hW6▸heap_alloc_new _ _
 have e35:Only (fun k=>k=w3.heap.size) w3 w5:=Only.trans (Ext.only ((Ext.refl w3).alloc _)) ho2 fun _ _ e=>e
 have hb16:=x6.at (e35.at hb1 (by omega))
 have hb26:=x6.at hb2
 have HC6:=hid (show W6.heap[w.heap.size]?=some (.cells (Cfg.A C) 26 (0,0)) from x6.at (e35.at (ho1.at (Ext.at ((Ext.refl W1).alloc _) HC.out) (by have:=lt_of_block HC.out; omega)) (by have:=lt_of_block HC.out; omega)))
 obtain ⟨le,hle⟩:∃ l,Runs14.l=l:=⟨_,rfl⟩
 have HSZ:=hid (show W1.heap.size < W6.heap.size/\w3.heap.size < W6.heap.size/\w5.heap.size < W6.heap.size from ⟨lt_of_block hb16,lt_of_block hb26,lt_of_block hb6⟩)
 have HEI:=hid (show EntsIn (fun b=>b < W6.heap.size) W6 (some ⟨w5.heap.size,0,none⟩) le from hle▸fun i x hx=>by
  rcases i with _ | _ | i
  ·
   cases hx
   exact ⟨_,0,_,1,rfl,HSZ.out.2.2,(Zaf hb6).trans rfl,bytes_at (l:=[97]) (by rw [Zb0]; exact hb16) (by decide) (by decide),fun q hq=>by cases hq; exact HSZ.out.1⟩
  ·
   cases hx
   exact ⟨_,0,_,2,rfl,HSZ.out.2.2,(Zaf hb6).trans rfl,bytes_at (l:=[98,99]) (by rw [Zb0]; exact hb26) (by decide) (by decide),fun q hq=>by cases hq; exact HSZ.out.2.1⟩
  ·
   simp [Runs14.l] at hx)
 have X6:=hid (Ext.trans X5.out x6)
 have HLL:=hid (show le.length=2 from hle▸rfl)
 have HL1:=hid (show (le.take 1).length=1 from hle▸rfl)
 have HFT:=hid (show Tp.fits 1 le from hle▸Runs14.fits1)
 have HEM:=hid (show Tp.empty (Tp.chunks 1 (Tp.pack le))=le from hle▸Runs14.emp)
 have HH7:=hid (show ∀ i,i < 7->nth (Tp.chunk (Tp.pack le)) i=nth [1,0,97,2,0,98,99] i from hle▸Runs14.head7)
 have HLB:=hid (show ∀ x∈le,∀ y∈x,y < 256 from hle▸(by decide))
 rw [hle] at HA1 HA2 HO2
 have HW6:=hid hW6
 clear hb1 ho1 hb2 ho2 hs3 hs5 x6 hb6 e35 hb16 hb26 hle hW6 HC hg1
 go_enter Tryz.func15,Tryz.ntmps15
 go_wp2_with (first
  | (guard_target=wpList _ _ _ (⟨some _,Op.build _ _,_,_,_,none⟩::_) _ _; refine Zao rfl 26 _ rfl (Cfg.A C) ?_ ?_; (simp only [List.map_toArray,List.map_cons,List.map_nil,Act.eval]; exact HB.out))
  | (guard_target=wpList _ _ _ (⟨none,Op.store _ _ _,_,_,_,none⟩::_) _ _; have hb0:=hbs; clear hbs; refine Zaa rfl 26 _ _ rfl w.heap.size rfl (Cfg.A C) _ rfl 26 ?_ hb0 ?_ ?_ ?_; (rw [HCS.out]; exact aggCfg); (rw [HCS.out,HCS.out]); exact Cfg.A_one _; rw [Zaj,HW1.out])
  | (guard_target=wpList _ _ _ (⟨some _,Op.load _ _,_,_,_,none⟩::_) _ _; rw [HW6.out]; refine Zac rfl 26 _ rfl ⟨w.heap.size,0,none⟩ rfl (Cfg.A C) (Zat C) (Zai HC6.out) ?_))
 generalize w5.heap.size=g6 at *
 have tf:=hid (tfill_c C HGD.out le (by rw [HLL.out]; omega) (some ⟨g6,0,none⟩) 2 W6 HEI.out.ents)
 rw [HLL.out,HCK.out] at tf
 refine tf.out.mono ?_
 rintro e w7 ⟨x7,hf⟩
 rcases hf with ⟨q,_⟩ | ⟨_,gb,rfl,hgb,hbk⟩
 ·
  exact absurd HFT.out q
 have X7:=hid (Ext.trans X6.out x7)
 have HB7:=hid hbk
 have HC7:=hid (x7.at HC6.out)
 have HE7:=hid (HEI.out.ext x7)
 have HGB:=hid (show gb < w7.heap.size/\W6.heap.size<=gb from ⟨hbk.lt (fun q=>by have:=congrArg List.length q; rw [Tp.chunks_len] at this; simp at this) gb rfl,hgb⟩)
 have HS7:=hid x7.size
 clear tf x7 hbk hgb HC6 HEI
 go_wp2_with fail
 refine (at_new 1 4 (by omega) (by omega) (by omega) (by omega) w7).mono ?_
 rintro e w8 ⟨r,rfl,h8,x8⟩
 obtain ⟨S,hS⟩:∃ S:Nat->Prop,(fun b=>b < w7.heap.size)=S:=⟨_,rfl⟩
 have HV8:=hid (show VE w w8 S r (Rck.new 1 4) from ⟨hS▸h8,Ext.trans X7.out x8,fun b hb=>hS▸Nat.lt_of_lt_of_le hb X7.out.size⟩)
 have HC8:=hid (show CBlkAt w8 w.heap.size C from x8.at HC7.out)
 have HSC:=hid (show S w.heap.size from hS▸(lt_of_block HC7.out))
 have HE8:=hid (show EntsIn (fun b=>S b/\b < w7.heap.size) w8 (some ⟨g6,0,none⟩) le from (HE7.out.ext x8).mono fun b hb=>⟨hS▸(by have:=HS7.out; show b < w7.heap.size; omega),by have:=HS7.out; omega⟩)
 have HB8:=hid (HB7.out.ext x8)
 have HSB:=hid (show S gb/\gb < w7.heap.size from ⟨hS▸HGB.out.1,HGB.out.1⟩)
 have HS8:=hid x8.size
 clear h8 x8 hS HB7 HC7 HE7
 go_wp2_with (guard_target=wpList _ _ _ (⟨some _,Op.load _ _,_,_,_,some _⟩::_) _ _; refine Zaw 26 _ rfl ⟨w.heap.size,0,none⟩ rfl (Cfg.A C) rfl (Zat C) (Zai HC8.out) ?_)
 refine (vmake_c HV8.out.rack C).mono ?_
 rintro e w9 ⟨rfl,h9,k9⟩
 rw [HM1.out] at h9 ⊢
 simp only [oErr]
 have HV9:=hid (HV8.out.keep h9 k9)
 have HC9:=hid (show CBlkAt w9 w.heap.size C from k9.at HC8.out fun q=>q HSC.out)
 have HE9:=hid (HE8.out.only k9 fun b hb q=>q hb.1)
 have HB9:=hid (HB8.out.only k9 fun b hb q=>q (by cases hb; exact HSB.out.1))
 have HS9:=hid k9.size
 clear h9 k9 HV8 HC8 HE8 HB8
 go_wp2_with fail
 refine (topen_c HV9.out.rack HKK1.out).mono ?_
 rintro e w10 h10
 rw [HO1.out] at h10
 rcases h10 with ⟨_,q,_⟩ | ⟨_,g,t,T,ao,co,hok⟩
 ·
  cases q
 obtain rfl:=hok.ret
 have HX10:=hid (show TX w w10 T r R2 w.heap.size C g ⟨C,1,false⟩ t 0 from TX.start HV9.out HC9.out HSC.out hok)
 have HGT:=hid (show w7.heap.size<=g/\w7.heap.size<=t from ⟨by have:=hok.newg; have:=HS8.out; have:=HS9.out; omega,by have:=hok.newt; have:=HS8.out; have:=HS9.out; omega⟩)
 have HE10:=hid (show EntsIn (fun b=>T b/\b≠g/\b≠t) w10 (some ⟨g6,0,none⟩) le from (HE9.out.only hok.keep fun b hb q=>q hb.1).mono fun b hb=>⟨hok.low b hb.1,by have:=HGT.out; omega,by have:=HGT.out; omega⟩)
 have HB10:=hid (HB9.out.only hok.keep fun b hb q=>q (by cases hb; exact HSB.out.1))
 have HTB:=hid (show T gb/\gb≠g/\gb≠t from ⟨hok.low gb HSB.out.1,by have:=HGT.out; have:=HSB.out; omega,by have:=HGT.out; have:=HSB.out; omega⟩)
 clear hok HV9 HC9 HE9 HB9
 go_wp2_with fail
 have ta:=hid (tappend_c HX10.out.rack HX10.out.vx.vol HX10.out.tape HX10.out.vx.gS HX10.out.tS HX10.out.tg (show (0:Int)<=1 by omega) HGD.out (by omega) le (by rw [HLL.out]; omega) (some ⟨g6,0,none⟩) 2 HE10.out.ents)
 rw [HLL.out,HA1.out] at ta
 refine ta.out.mono ?_
 rintro e w11 h11
 obtain rfl:=h11.ret
 have HX11:=hid (show TX w w11 T r R3 w.heap.size C g ⟨C,2,false⟩ t 1 from HX10.out.app h11)
 have HE11:=hid (HE10.out.only h11.only fun b hb=>TX.app_keep h11 b hb)
 have HB11:=hid (HB10.out.only h11.only fun b hb=>TX.app_keep h11 b (by cases hb; exact HTB.out))
 clear ta h11 HX10 HE10 HB10
 simp only [oErr]
 go_wp2_with fail
 have ta:=hid (tappend_c HX11.out.rack HX11.out.vx.vol HX11.out.tape HX11.out.vx.gS HX11.out.tS HX11.out.tg (show (0:Int)<=2 by omega) HGD.out (by omega) (le.take 1) (by rw [HL1.out]; omega) (some ⟨g6,0,none⟩) 2 (HE11.out.take 1).ents)
 rw [HL1.out,HA2.out] at ta
 refine ta.out.mono ?_
 rintro e w12 h12
 obtain rfl:=h12.ret
 have HX12:=hid (show TX w w12 T r R4 w.heap.size C g ⟨C,3,false⟩ t 2 from HX11.out.app h12)
 have HE12:=hid (HE11.out.only h12.only fun b hb=>TX.app_keep h12 b hb)
 have HB12:=hid (HB11.out.only h12.only fun b hb=>TX.app_keep h12 b (by cases hb; exact HTB.out))
 clear ta h12 HX11 HE11 HB11
 simp only [oErr]
 go_wp2_with fail
 refine (topen_c HX12.out.rack HKK2.out).mono ?_
 rintro e w13 h13
 rw [HO2.out] at h13
 rcases h13 with ⟨_,q,_⟩ | ⟨_,g2,t2,T2,ao2,co2,hok⟩
 ·
  cases q
 obtain rfl:=hok.ret
 have HX13:=hid (show TX w w13 T2 r R5 w.heap.size C g2 ⟨C,cur,false⟩ t2 2 from HX12.out.opened hok)
 have HE13:=hid (show EntsAt w13 (some ⟨g6,0,none⟩) le from (HE12.out.only hok.keep fun b hb q=>q hb.1).ents)
 have HB13:=hid (HB12.out.only hok.keep fun b hb q=>q (by cases hb; exact HTB.out.1))
 have HR13:=hid hok.rows
 clear hok HX12 HE12 HB12
 have HCK2:=hid (show (Tp.chunks 1 (Tp.pack le))=[Tp.chunk (Tp.pack le)] from rfl)
 have hb7:=HB13.out
 rw [HCK2.out] at hb7
 have HC7:=hid (hb7 0 _ rfl)
 have HS7:=hid (show ∀ W,Ext w13 W->BytesAt W (some ⟨gb,0,none⟩) 7 [1,0,97,2,0,98,99] from fun W e=>by
  obtain ⟨q,hq,hc⟩:=HC7.out
  cases hq
  refine ⟨rfl,by omega,by decide,.inr ⟨gb,0,rfl,fun i hi=>?_⟩⟩
  have:=hc i (by omega)
  rw [Nat.zero_mul,HH7.out i hi] at this
  exact Ext.cell e this)
 clear hb7 HC7 HCK2
 have hbs7:(w13.alloc (.cells #[.int .u8 1,.int .u8 0,.int .u8 97,.int .u8 2,.int .u8 0,.int .u8 98,.int .u8 99] 5)).heap[w13.heap.size]?=some (.cells #[.int .u8 1,.int .u8 0,.int .u8 97,.int .u8 2,.int .u8 0,.int .u8 98,.int .u8 99] 5 (0,0)):=Zad
 have x14:Ext w13 (w13.alloc (.cells #[.int .u8 1,.int .u8 0,.int .u8 97,.int .u8 2,.int .u8 0,.int .u8 98,.int .u8 99] 5)):=(Ext.refl w13).alloc _
 have sm:=hid (same_c 108 7 (HS7.out _ x14) (bytes_at (l:=[1,0,97,2,0,98,99]) (by rw [Zb0]; exact hbs7) (by decide) (by decide)))
 have HX14:=hid (HX13.out.more x14)
 have HE14:=hid (HE13.out.ext x14)
 have HB14:=hid (HB13.out.ext x14)
 have HR14:=hid (HR13.out.ext x14)
 rw [decide_eq_true rfl] at sm
 clear hbs7 x14 HS7 HX13 HE13 HB13 HR13
 go_wp2_with fail
 generalize w13.alloc (.cells #[.int .u8 1,.int .u8 0,.int .u8 97,.int .u8 2,.int .u8 0,.int .u8 98,.int .u8 99] 5)=W14 at *
 refine sm.out.mono ?_
 rintro e w15 ⟨rfl,x15⟩
 have HX15:=hid (HX14.out.more x15)
 have HE15:=hid (HE14.out.ext x15)
 have HB15:=hid (HB14.out.ext x15)
 have HR15:=hid (HR14.out.ext x15)
 clear x15 sm HX14 HE14 HB14 HR14
 go_wp2_with fail
 have te:=hid (tempty_c (Tp.chunks 1 (Tp.pack le)) (Tp.chunks_108 1 _) (Tp.chunks_byte (Tp.pack_byte HLB.out)) (fun q=>by have:=congrArg List.length q; rw [Tp.chunks_len] at this; simp at this) (by rw [Tp.chunks_len]; omega) (some ⟨gb,0,none⟩) 1 w15 HB15.out)
 rw [Tp.chunks_len,HEM.out] at te
 refine te.out.mono ?_
 rintro e w16 ⟨u,bk,cp,rfl,heo,x16⟩
 obtain ⟨ae,ce,rfl,hin,_⟩:=heo.slice
 have HX16:=hid (HX15.out.more x16)
 have HE16:=hid (HE15.out.ext x16)
 have HR16:=hid (HR15.out.ext x16)
 have HI16:=hid hin.ents
 rw [HLL.out]
 clear te heo hin x16 HX15 HE15 HB15 HR15
 have tr:=hid (trows_c ce 2 HI16.out HE16.out (by rw [HLL.out]; omega))
 rw [HLL.out,decide_eq_true rfl] at tr
 go_wp2_with fail
 refine tr.out.mono ?_
 rintro e w17 ⟨rfl,x17⟩
 have HX17:=hid (HX16.out.more x17)
 have HE17:=hid (HE16.out.ext x17)
 have HR17:=hid (HR16.out.ext x17)
 clear tr x17 HX16 HE16 HR16 HI16
 go_wp2_with fail
 refine (tused_c HX17.out.tape).mono ?_
 rintro e _ ⟨rfl,rfl⟩
 obtain ⟨W18,hW18⟩:∃ W,w17.alloc (.cells #[.slice (some ⟨g6,0,none⟩) 2 2,.slice (some ⟨g6,0,none⟩) 1 2] 22)=W:=⟨_,rfl⟩
 have x18:Ext w17 W18:=hW18▸(Ext.refl w17).alloc _
 have hb18:W18.heap[w17.heap.size]?=some (.cells #[.slice (some ⟨g6,0,none⟩) 2 2,.slice (some ⟨g6,0,none⟩) 1 2] 22 (0,0)):=hW18▸heap_alloc_new _ _
 have HT18:=hid (show TapesAt W18 (some ⟨w17.heap.size,0,none⟩) [le,le.take 1] from TapesAt.of2 (p:=some ⟨g6,0,none⟩) (q:=some ⟨g6,0,none⟩) (cp:=2) (cq:=2) (by rw [HLL.out]; exact (Zaf hb18).trans rfl) (by rw [HL1.out]; exact (Zaf hb18).trans rfl) (HE17.out.ext x18) ((HE17.out.ext x18).take 1) (by rw [HLL.out]; omega) (by rw [HL1.out]; omega))
 have tl:=hid (tall_c co2 2 (HR17.out.ext x18) HT18.out (by simp))
 rw [decide_eq_true rfl] at tl
 have HX18:=hid (HX17.out.more x18)
 have HW18:=hid hW18
 clear hb18 x18 hW18 HE17 HR17 HX17
 go_wp2_with fail
 rw [HW18.out]
 refine tl.out.mono ?_
 rintro e w19 ⟨rfl,x19⟩
 have HX19:=hid (HX18.out.more x19)
 clear x19
 go_wp2
 go_ret
 exact ⟨rfl,HX19.out.ext⟩
end Go.Proofs.YtgjnnbomnoafcaaGreat
