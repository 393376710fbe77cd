/- Texts of one proof, joined: CodeG, CodeH, CodeI, CodeJ, CodeK. -/
import Derived.Test.YtgjnnbomnoafcaaGreatPM
set_option linter.unusedVariables false
set_option linter.unusedSimpArgs false
namespace Go.Proofs.YtgjnnbomnoafcaaGreat
set_option linter.unusedVariables false
open Go Go.RowKit Gf
attribute [local irreducible] wpSQ
set_option maxRecDepth 100000 in
set_option maxHeartbeats 8000000 in
theorem solve_c {w:World} {cb k n L:Nat} (h:CodeAt w cb k n) (pb pc:Nat) (ps:List (Nat × List Nat)) (hp:PartsAt w pb L ps) (hps:ps.length=k) (hpn:∀ p∈ps,p.1 < n) (hpl:∀ p∈ps,p.2.length=L/\∀ y∈p.2,y < 256) (k1:1<=k) (k8:k<=8) (L0:0 < L) (hL:L<=200) :
  Calls Tryz.prog 87 #[.pointer (some ⟨cb,0,none⟩),.slice (some ⟨pb,0,none⟩) k pc] w (SolvePost w k (Cd.solve (ps.map fun p=>Cd.row k p.1) (ps.map fun p=>p.2)).2):=by
 obtain ⟨fb,hcode,hfield⟩:=h.at1
 have HOUT:=hid (fun (wr:World) (v5 v6:Value) bm xm bo xo (hb:Bld w wr cb fb k L ps k v5 v6 bm xm bo xo)=>hb.out k1 hps hpl hcode hfield)
 have HPS:=hid hps
 have HPL:=hid hpl
 obtain ⟨m0,hm0⟩:∃ m0,(ps.map fun p=>Cd.row k p.1)=m0:=⟨_,rfl⟩
 obtain ⟨o0,ho0⟩:∃ o0,(ps.map fun p=>p.2)=o0:=⟨_,rfl⟩
 rw [hm0,ho0] at HOUT ⊢
 have HMK:=hid (show m0.length=k by rw [<- hm0]; simp [hps])
 have HC:=hid h
 have HPA:=hid hp
 clear hm0 ho0 h hp hps hpl hcode hfield
 go_enter Tryz.func87,Tryz.ntmps87
 go_wp2
 go_loopw [15,5,6] (fun t s5 s6 wr=>∃ (j:Nat) (v5 v6:Value),t=.int .i64 j/\v5=s5/\v6=s6/\j<=k/\∃ bm xm bo xo,Bld w wr cb fb k L ps j v5 v6 bm xm bo xo) (fun t _ _ _=>k - (intOf t).toNat)
 case atStart=>exact ⟨0,_,_,rfl,rfl,rfl,by omega,id,id,id,id,⟨Ext.refl _,OwnVs.nil _ _ _ _,OwnVs.nil _ _ _ _,fun i p h=>absurd h (Nat.not_lt_zero _),fun i p h=>absurd h (Nat.not_lt_zero _),fun i h=>absurd h (Nat.not_lt_zero _),fun a b h=>absurd h (Nat.not_lt_zero _),fun a b h=>absurd h (Nat.not_lt_zero _),fun a b h=>absurd h (Nat.not_lt_zero _),fun b h=>by cases h⟩⟩
 case round =>
  obtain ⟨j,v5,v6,rfl,e5,e6,hj,bm,xm,bo,xo,hb⟩:=hrel
  subst e5
  subst e6
  by_cases hjk:j < k
  ·
   have HBD:=hid hb
   obtain ⟨⟨pat,pdat⟩,hp⟩:∃ p,ps[j]?=some p:=⟨_,List.getElem?_eq_getElem (by rw [HPS.out]; exact hjk)⟩
   obtain ⟨z1,b,off,pcap,z2,hby⟩:=HPA.out j (pat,pdat) hp
   replace z1:w.cell? ⟨pb,j*2,none⟩=some (.int .i64 pat):=z1
   replace hby:BytesAt w (some ⟨b,off,none⟩) L pdat:=hby
   have hpm:(pat,pdat)∈ps:=List.mem_of_getElem? hp
   have hat:pat < n:=hpn (pat,pdat) hpm
   have hpd:pdat.length=L/\∀ y∈pdat,y < 256:=HPL.out (pat,pdat) hpm
   have HPD:=hid hpd
   clear hpd
   have HX:=hid hb.ext
   have a1:=HX.out.cell z1
   have a2:=HX.out.cell z2
   obtain ⟨rg,rc,z3,hrows⟩:=HC.out.at2
   have hrow:=hrows pat (Cd.row k pat) (by simp [hat])
   obtain ⟨rb,rcap,z4,hrb⟩:=hrow
   rw [Cd.row_len] at z4 hrb
   have HP:=hid hp; have HBY:=hid hby; have HRB:=hid hrb
   have hzp:=zero_part
   have hrgl:rg < w.heap.size:=World.block_lt_of_cell? w _ z4
   have hcbl:cb < w.heap.size:=World.block_lt_of_cell? w _ z3
   have j0:(0:Int)<=(j:Int):=by omega
   have j1:(j:Int) < (k:Int):=by omega
   have n0:(0:Int)<=(pat:Int):=by omega
   have n1:(pat:Int) < (n:Int):=by omega
   obtain ⟨A,hA⟩:∃ A:Array Value,#[.int .i64 pat,.slice (some ⟨b,off,none⟩) L pcap]=A:=⟨_,rfl⟩
   obtain ⟨W0,hW0⟩:∃ W,wr.alloc (.cells A 146)=W:=⟨_,rfl⟩
   have X0:=hid (show Ext wr W0 from hW0▸(Ext.refl wr).alloc _)
   have P0:=hid (show W0.heap[wr.heap.size]?=some (.cells A 146 (0,0)) from hW0▸Zad)
   have HAA:=hid hA
   have HW0:=hid hW0
   have hla:∀ i v,A.toList[i]?=some v->wr.cell? ((⟨pb,j*2,none⟩:Addr).add i)=some v:=fun i v hv=>by
    rw [<- hA] at hv
    have ea:∀ q,(⟨pb,j*2,none⟩:Addr).add q=⟨pb,j*2+q,none⟩:=fun q=>by unfold Addr.add; split<;>simp_all
    rw [ea]
    rcases i with _ | _ | i
    ·
     simp at hv; subst hv; exact a1
    ·
     simp at hv; subst hv; exact a2
    ·
     simp at hv
   have HLA:=hid hla
   have hbs:(wr.alloc (.cells #[.int .i64 0,.slice none 0 0] 146)).heap[wr.heap.size]?=some (.cells #[.int .i64 0,.slice none 0 0] 146 (0,0)):=Zad
   have HAS:=hid (show A.size=2 by rw [<- hA]; rfl)
   have HA1:=hid (show ∀ u∈A.toList,u.oneCell'=true by rw [<- hA]; intro u hu; simp at hu; rcases hu with rfl | rfl<;>rfl)
   clear hb hp hby hrb hA hW0 hla a1 a2 z1 z2 hrows
   go_wp2_with (first
    | (guard_target=wpList _ _ _ (⟨some _,Op.load _ _,_,_,_,none⟩::_) _ _; refine Zac rfl 146 _ rfl ⟨pb,j*2,none⟩ rfl A (by rw [HAS.out]; exact aggPart) HLA.out ?_)
    | (guard_target=wpList _ _ _ (⟨none,Op.store _ _ _,_,_,_,none⟩::_) _ _; have hb0:=hbs; clear hbs; refine Zaa rfl 146 _ _ rfl wr.heap.size rfl A _ rfl 146 (by rw [HAS.out]; exact aggPart) hb0 (by rw [HAS.out]; rfl) HA1.out ?_; rw [Zaj,HW0.out]))
   obtain ⟨pg,hpg⟩:∃ pg,wr.heap.size=pg:=⟨_,rfl⟩
   rw [hpg] at P0
   have hx5:∀ q,v5.ownBlock=some q->w.heap.size<=q/\q < pg:=fun q hq=>by have:=HBD.out.o5.lt q hq; omega
   have hx6:∀ q,v6.ownBlock=some q->w.heap.size<=q/\q < pg:=fun q hq=>by have:=HBD.out.o6.lt q hq; omega
   have XW:=hid (Ext.trans HX.out X0.out)
   have xd:Ext W0 W0.drew:=(Ext.refl W0).drew
   have hF:∀ q,q < w.heap.size\/pg<=q->¬(v5.ownBlock=some q\/v6.ownBlock=some q):=fun q hq h=>by
    rcases h with h | h
    ·
     have:=hx5 q h; omega
    ·
     have:=hx6 q h; omega
   have g1:∀ z:SW (Only fun q=>v5.ownBlock=some q\/v6.ownBlock=some q) W0.drew,z.w.cell? ⟨cb,2,none⟩=some (.slice (some ⟨rg,0,none⟩) n rc):=fun z=>z.ext.cell (xd.cell (XW.out.cell z3)) (hF cb (.inl hcbl))
   have g2:∀ z:SW (Only fun q=>v5.ownBlock=some q\/v6.ownBlock=some q) W0.drew,z.w.cell? ⟨rg,pat,none⟩=some (.slice (some ⟨rb,0,none⟩) k rcap):=fun z=>z.ext.cell (xd.cell (XW.out.cell z4)) (hF rg (.inl hrgl))
   have g3:∀ z:SW (Only fun q=>v5.ownBlock=some q\/v6.ownBlock=some q) W0.drew,z.w.cell? ⟨pg,0,none⟩=some (.int .i64 pat):=fun z=>z.ext.cell (xd.cell ((Zaf P0.out).trans (by rw [<- HAA.out]; rfl))) (hF pg (.inr (Nat.le_refl _)))
   have g4:∀ z:SW (Only fun q=>v5.ownBlock=some q\/v6.ownBlock=some q) W0.drew,z.w.cell? ⟨pg,1,none⟩=some (.slice (some ⟨b,off,none⟩) L pcap):=fun z=>z.ext.cell (xd.cell ((Zaf P0.out).trans (by rw [<- HAA.out]; rfl))) (hF pg (.inr (Nat.le_refl _)))
   have HXD:=hid xd
   have HFF:=hid hF
   have HPG:=hid hpg
   clear xd z3 z4
   rw [hpg]
   clear hpg
   go_wp2_with fail
   refine Zau (E:=Ext) (S:=Only fun q=>v5.ownBlock=some q\/v6.ownBlock=some q) (.one [0,1,2,3,4,5,6,7,8,12,13,14] 9 (.one [] 10 (.one [] 11 (.one [] 15 (.one [] 16 (.one [] 17 (.fin [18,19]))))))) (by kernel_rfl) (by kernel_rfl) (fun _ _ d _ _ h=>by cases d<;>exact h) ?_
   rw [wpS]
   simp only [opsAt,opA,opB,opC,opD,opE,opF,opG]
   iterate 12 ((refine Zab (fun K hK=>?_); go_simp; refine hK _ ?_; clear hK K))
   refine Zae ?_
   intro U0 hU0
   have XU0:=hid (Ext.trans HX.out (Ext.trans X0.out (Ext.trans HXD.out hU0)))
   have B0:=hid (Ext.trans X0.out (Ext.trans HXD.out hU0))
   clear g1 g2 g3 g4 hU0
   refine Zav fun K hK=>?_
   go_wp2_with fail
   have hcl:=clone_c rb 0 rcap k (Cd.row k pat) U0 (HRB.out.only0 XU0.out (fun x=>x))
   refine hcl.mono ?_
   rintro e w1 ⟨s1,rfl,hs1,ho1,x1⟩
   have HO1:=hid ho1; have HS1:=hid hs1; have HX1:=hid x1
   clear ho1 hs1 hcl
   go_wp2
   refine hK _ _ (Ext.only x1) ?_
   clear hK K x1
   rw [wpS]
   simp only [opsAt,opA,opB,opC,opD,opE,opF,opG]
   refine Zae ?_
   intro U1 hU1
   have XU1:=hid hU1
   clear hU1
   refine Zav fun K hK=>?_
   go_wp2_with (guard_target=wpList _ _ _ (⟨some _,Op.buildSlice _ _ _,_,_,_,none⟩::_) _ _; refine Zak rfl 22 38 _ rfl #[Value.slice (some ⟨s1.blk,0,none⟩) k s1.cap] _ _ 1 24 Tryz.underlying22 infoRow (by omega) (by omega) rfl rfl rfl ?_)
   refine hK _ _ (Ext.only ((Ext.refl _).alloc _)) ?_
   clear hK K
   rw [wpS]
   simp only [opsAt,opA,opB,opC,opD,opE,opF,opG]
   refine Zae ?_
   intro U2 hU2
   have XW2:=hid (Ext.trans B0.out (Ext.trans HX1.out (Ext.trans XU1.out (Ext.trans ((Ext.refl U1).alloc _) hU2))))
   obtain ⟨v5',U3,hap5,ho5,hn5,_,hd5⟩:=(HBD.out.o5.ext XW2.out).push (tsl:=22) Tryz.underlying22 infoRow rfl (by omega) #[Value.slice (some ⟨s1.blk,0,none⟩) k s1.cap] rfl (by intro u hu; simp at hu; subst hu; rfl) ⟨U1.heap.size,0,none⟩ (Zai (hU2.at Zad)) 1 (by simp; omega) (by omega) (by have:=(Ext.trans HX.out XW2.out).size; omega)
   have R1:=hid (Zar HO1.out (Ext.trans XU1.out (Ext.trans ((Ext.refl U1).alloc _) hU2)) (fun x=>x))
   have HO5:=hid ho5; have HN5:=hid hn5; have HD5:=hid hd5
   clear hU2 ho5 hn5 hd5
   refine Zav fun K hK=>?_
   go_wp2_with (at_builtin; refine Zah rfl _ _ _ rfl _ _ _ _ rfl rfl hap5 ?_)
   refine hK _ _ (HN5.out.mono (fun _ _ h=>.inl h)) ?_
   clear hK K hap5
   rw [wpS]
   simp only [opsAt,opA,opB,opC,opD,opE,opF,opG]
   refine Zae ?_
   intro U4 hU4
   have XU4:=hid hU4
   clear hU4
   refine Zav fun K hK=>?_
   go_wp2_with fail
   have hby2:=((HBY.out.onlyG (Ext.trans HX.out XW2.out) (fun x=>x)).onlyG HN5.out (fun q=>HFF.out b (.inl (HBY.out.bltG L0)) (.inl q))).onlyG XU4.out (fun x=>x)
   refine (clone_c b off pcap L pdat U4 hby2).mono ?_
   rintro e w5 ⟨s2,rfl,hs2,ho2,x5⟩
   have HO2:=hid ho2; have HS2:=hid hs2; have HX5:=hid x5
   clear ho2 hs2 hby2
   go_wp2
   refine hK _ _ (Ext.only x5) ?_
   clear hK K x5
   rw [wpS]
   simp only [opsAt,opA,opB,opC,opD,opE,opF,opG]
   refine Zae ?_
   intro U5 hU5
   have XU5:=hid hU5
   clear hU5
   refine Zav fun K hK=>?_
   go_wp2_with (guard_target=wpList _ _ _ (⟨some _,Op.buildSlice _ _ _,_,_,_,none⟩::_) _ _; refine Zak rfl 22 38 _ rfl #[Value.slice (some ⟨s2.blk,0,none⟩) L s2.cap] _ _ 1 24 Tryz.underlying22 infoRow (by omega) (by omega) rfl rfl rfl ?_)
   refine hK _ _ (Ext.only ((Ext.refl _).alloc _)) ?_
   clear hK K
   rw [wpS]
   simp only [opsAt,opA,opB,opC,opD,opE,opF,opG]
   refine Zae ?_
   intro U6 hU6
   have XE2:=hid (Ext.trans XU4.out (Ext.trans HX5.out (Ext.trans XU5.out (Ext.trans ((Ext.refl U5).alloc _) hU6))))
   have R2:=hid (Zar HO2.out (Ext.trans XU5.out (Ext.trans ((Ext.refl U5).alloc _) hU6)) (fun x=>x))
   have LS2:=hid (show U3.heap.size<=s2.blk from Nat.le_trans XU4.out.size HS2.out)
   have LS1:=hid (show wr.heap.size<=s1.blk from Nat.le_trans B0.out.size HS1.out)
   obtain ⟨v6',U7,hap6,ho6,hn6,_,hd6⟩:=(((HBD.out.o6.ext XW2.out).only HN5.out (fun q hq hq'=>HBD.out.apart q hq' hq)).ext XE2.out).push (tsl:=22) Tryz.underlying22 infoRow rfl (by omega) #[Value.slice (some ⟨s2.blk,0,none⟩) L s2.cap] rfl (by intro u hu; simp at hu; subst hu; rfl) ⟨U5.heap.size,0,none⟩ (Zai (hU6.at Zad)) 1 (by simp; omega) (by omega) (by have:=(Ext.trans HX.out XW2.out).size; have:=HN5.out.size; have:=XE2.out.size; omega)
   have HO6:=hid ho6; have HN6:=hid hn6; have HD6:=hid hd6
   clear hU6 ho6 hn6 hd6
   refine Zav fun K hK=>?_
   go_wp2_with (at_builtin; refine Zah rfl _ _ _ rfl _ _ _ _ rfl rfl hap6 ?_)
   refine hK _ _ (HN6.out.mono (fun _ _ h=>.inr h)) ?_
   clear hK K hap6
   rw [wpS]
   simp only [opsAt,opA,opB,opC,opD,opE,opF,opG]
   iterate 2 ((refine Zab (fun K hK=>?_); go_simp; refine hK _ ?_; clear hK K))
   refine Zae ?_
   intro U8 hU8
   have HBN:=hid (HBD.out.next HP.out XW2.out R1.out LS1.out HO5.out HN5.out HD5.out XE2.out R2.out LS2.out HO6.out HN6.out HD6.out hU8)
   clear hU8
   go_wp2
   go_roundw
   case rel=>exact ⟨j+1,_,_,by go_num,rfl,rfl,by omega,_,_,_,_,HBN.out⟩
   case measure=>simp [intOf]; omega
  obtain rfl:k=j:=by omega
  obtain ⟨gm,cm,go,co,rfl,rfl,hst⟩:=HOUT.out _ _ _ _ _ _ _ hb
  have HS0:=hid hst
  clear hst hb HOUT
  go_wp2
  go_loopw [40] (fun t wr=>∃ c:Nat,t=.int .i64 c/\c<=k/\SolAt w wr cb fb gm cm go co k L (steps m0 o0 c)) (fun t _=>k - (intOf t).toNat)
  case atStart=>exact ⟨0,rfl,by omega,HS0.out⟩
  case round =>
   clear HS0
   obtain ⟨c,rfl,hc,bm,xm,bo,xo,hst⟩:=hrel
   have HSS:=hid (steps_succ m0 o0 c)
   obtain ⟨⟨m,o⟩,hmo⟩:∃ q,steps m0 o0 c=q:=⟨_,rfl⟩
   rw [hmo] at hst HSS
   have HST:=hid hst
   have HMO:=hid hmo
   clear hst hmo
   simp only at HST
   by_cases hlt:c < k
   ·
    have ml:=HST.out.two.mm.bl.n
    have HML:=hid ml
    obtain ⟨P,hP⟩:∃ P,Cd.pivot m c m.length c=P:=⟨_,rfl⟩
    have hPk:=(Cd.pivot_lt m c m.length c (by rw [ml]; exact hlt))
    rw [hP] at hPk
    have HP:=hid hP
    have HPK:=hid (show c<=P/\P < k by rw [ml] at hPk; exact hPk)
    clear hP hPk ml
    go_wp2
    go_loopw [10] (fun t wq=>∃ p:Nat,t=.int .i64 p/\c<=p/\p < k/\Cd.pivot m c (k - (p - c)) p=P/\wq=wr) (fun t _=>k - (intOf t).toNat)
    case atStart=>exact ⟨c,rfl,by omega,hlt,by rw [show k - (c - c)=m.length by rw [HML.out]; omega]; exact HP.out,rfl⟩
    case round =>
     obtain ⟨p,rfl,hp1,hp2,hpv,rfl⟩:=hrel
     have hw1:wrap64 ((k:Int) - 1)=(k:Int) - 1:=by unfold wrap64; omega
     have cm1:=HST.out.two.mm.cell hp2
     have cb1:=HST.out.two.mm.byte (j:=c) hp2 hlt
     obtain ⟨y,hy⟩:∃ y,nth (Cd.B m p) c=y:=⟨_,rfl⟩
     rw [hy] at cb1
     have p0:(0:Int)<=(p:Int):=by omega
     have p1:(p:Int) < (k:Int):=by omega
     have c0:(0:Int)<=(c:Int):=by omega
     have c1:(c:Int) < (k:Int):=by omega
     by_cases hgo:p < k - 1/\y=0
     ·
      obtain ⟨g1,rfl⟩:=hgo
      have g1':(p:Int) < (k:Int) - 1:=by omega
      have HN:=hid (show Cd.pivot m c (k - (p+1 - c)) (p+1)=P by
       rw [<- pivot_next m c _ p ⟨by rw [HML.out]; exact g1,hy⟩,show k - (p+1 - c)+1=k - (p - c) by omega]; exact hpv)
      clear hpv hy
      go_wp2
      go_roundw
      case rel=>exact ⟨p+1,by go_num,by omega,by omega,HN.out,by first | rfl | trivial⟩
      case measure=>simp [intOf]; omega
     ·
      have HPP:=hid (show p=P by
       rw [<- hpv,show k - (p - c)=(k - (p - c) - 1)+1 by omega]
       exact (pivot_here m c _ p (fun q=>hgo ⟨by rw [HML.out] at q; exact q.1,by rw [<- hy]; exact q.2⟩)).symm)
      clear hpv
      by_cases g1:p < k - 1
      ·
       have g1':(p:Int) < (k:Int) - 1:=by omega
       have y0:((y:Int) == 0)=false:=by rw [beq_eq_false_iff_ne]; intro q; exact hgo ⟨g1,by omega⟩
       clear hgo
       go_wp2
       clear y0 g1 g1'
       clear hw1 cb1 hy
       obtain rfl:p=P:=HPP.out
       clear HPP cm1
       have xd:Ext wr wr.drew:=(Ext.refl wr).drew
       have HT:=hid HST.out.two
       have d1:∀ z:SW Ext wr.drew,z.w.cell? ⟨gm,p,none⟩=some (.slice (some ⟨bm p,0,none⟩) k (xm p)):=fun z=>(Ext.trans xd z.ext).cell (HT.out.mm.cell hp2)
       have d2:∀ z:SW Ext wr.drew,z.w.cell? ⟨gm,c,none⟩=some (.slice (some ⟨bm c,0,none⟩) k (xm c)):=fun z=>(Ext.trans xd z.ext).cell (HT.out.mm.cell hlt)
       have d3:∀ z:SW Ext wr.drew,z.w.cell? ⟨go,p,none⟩=some (.slice (some ⟨bo p,0,none⟩) L (xo p)):=fun z=>(Ext.trans xd z.ext).cell (HT.out.mo.cell hp2)
       have d4:∀ z:SW Ext wr.drew,z.w.cell? ⟨go,c,none⟩=some (.slice (some ⟨bo c,0,none⟩) L (xo c)):=fun z=>(Ext.trans xd z.ext).cell (HT.out.mo.cell hlt)
       have HXD:=hid xd
       clear xd
       go_wp2_with fail
       refine Zbr (E:=Ext) (S:=Only fun y=>y=gm\/y=go) (fun i=>i == 25 || i == 27 || i == 29 || i == 31) [0,1,2,3,4,5,6,7,8,9,10,12,13,14,16,17,18,20,21,22] [11,15,19,23] (.one [24] 25 (.one [26] 27 (.one [28] 29 (.one [30] 31 (.fin []))))) (by kernel_rfl) (by kernel_rfl) (fun _ _ d _ _ h=>by cases d<;>exact h) ?_
       simp only [opsAt,opA,opB,opC,opD,opE,opF,opG]
       iterate 20 ((refine Zab (fun K hK=>?_); go_simp; refine hK _ ?_; clear hK K))
       refine Zae ?_
       iterate 4 ((refine Zab (fun K hK=>?_); go_simp; refine hK _ ?_; clear hK K))
       refine Zae ?_
       intro V0 hV0
       clear d1 d2 d3 d4
       rw [wpU]
       simp only [opsAt,opA,opB,opC,opD,opE,opF,opG]
       (refine Zab (fun K hK=>?_); go_simp; refine hK _ ?_; clear hK K)
       refine Zae ?_
       intro U1 hU1
       have G1:=hid (HT.out.ext (Ext.trans HXD.out (Ext.trans hV0 hU1)))
       have XW1:=hid (Ext.trans HXD.out (Ext.trans hV0 hU1))
       have s1:U1.cell? ⟨gm,c,none⟩=some (.slice (some ⟨bm c,0,none⟩) k (xm c)):=G1.out.mm.cell hlt
       have f1:U1.frozen? ⟨gm,c,none⟩=false:=G1.out.mm.hdr.frozenAt c
       clear hV0 hU1
       refine Zbw fun K hK=>?_
       go_wp2
       refine hK _ _ ((Zax U1 gm c _).mono fun _ _ h=>.inl h) ?_
       clear hK K s1 f1
       have M1:=hid (G1.out.mm.hdr.stored c (.slice (some ⟨bm p,0,none⟩) k (xm p))).1
       have N1:=hid (Zar G1.out.mo.hdr (Zax U1 gm c (.slice (some ⟨bm p,0,none⟩) k (xm p))) (fun q=>G1.out.ne q.symm))
       have O1:=hid ((Zax U1 gm c (.slice (some ⟨bm p,0,none⟩) k (xm p))).mono (G:=fun y=>y=gm\/y=go) fun _ _ h=>.inl h)
       rw [wpU]
       simp only [opsAt,opA,opB,opC,opD,opE,opF,opG]
       (refine Zab (fun K hK=>?_); go_simp; refine hK _ ?_; clear hK K)
       refine Zae ?_
       intro U2 hU2
       have A2:=hid (Zar M1.out hU2 (fun x=>x))
       have B2:=hid (Zar N1.out hU2 (fun x=>x))
       have P2:=hid (Only.ext O1.out hU2)
       obtain ⟨ov,hov⟩:∃ ov,U2.cell? ⟨gm,p,none⟩=some ov:=by
        rw [A2.out.cellAt p (by omega)]
        exact ⟨_,List.getElem?_eq_getElem (by simp [hdrs]; omega)⟩
       have fz:U2.frozen? ⟨gm,p,none⟩=false:=A2.out.frozenAt p
       clear hU2
       refine Zbw fun K hK=>?_
       go_wp2
       refine hK _ _ ((Zax U2 gm p _).mono fun _ _ h=>.inl h) ?_
       clear hK K hov fz
       have M2:=hid (A2.out.stored p (.slice (some ⟨bm c,0,none⟩) k (xm c))).1
       have N2:=hid (Zar B2.out (Zax U2 gm p (.slice (some ⟨bm c,0,none⟩) k (xm c))) (fun q=>HT.out.ne q.symm))
       have O2:=hid (Only.trans P2.out ((Zax U2 gm p (.slice (some ⟨bm c,0,none⟩) k (xm c))).mono (G:=fun y=>y=gm\/y=go) fun _ _ h=>.inl h) (fun _ _ h=>h))
       clear A2 B2 P2
       rw [wpU]
       simp only [opsAt,opA,opB,opC,opD,opE,opF,opG]
       (refine Zab (fun K hK=>?_); go_simp; refine hK _ ?_; clear hK K)
       refine Zae ?_
       intro U3 hU3
       have A3:=hid (Zar N2.out hU3 (fun x=>x))
       have B3:=hid (Zar M2.out hU3 (fun x=>x))
       have P3:=hid (Only.ext O2.out hU3)
       obtain ⟨ov,hov⟩:∃ ov,U3.cell? ⟨go,c,none⟩=some ov:=by
        rw [A3.out.cellAt c (by omega)]
        exact ⟨_,List.getElem?_eq_getElem (by simp [hdrs]; omega)⟩
       have fz:U3.frozen? ⟨go,c,none⟩=false:=A3.out.frozenAt c
       clear hU3
       refine Zbw fun K hK=>?_
       go_wp2
       refine hK _ _ ((Zax U3 go c _).mono fun _ _ h=>.inr h) ?_
       clear hK K hov fz
       have M3:=hid (A3.out.stored c (.slice (some ⟨bo p,0,none⟩) L (xo p))).1
       have N3:=hid (Zar B3.out (Zax U3 go c (.slice (some ⟨bo p,0,none⟩) L (xo p))) (fun q=>HT.out.ne q))
       have O3:=hid (Only.trans P3.out ((Zax U3 go c (.slice (some ⟨bo p,0,none⟩) L (xo p))).mono (G:=fun y=>y=gm\/y=go) fun _ _ h=>.inr h) (fun _ _ h=>h))
       clear A3 B3 P3
       rw [wpU]
       simp only [opsAt,opA,opB,opC,opD,opE,opF,opG]
       (refine Zab (fun K hK=>?_); go_simp; refine hK _ ?_; clear hK K)
       refine Zae ?_
       intro U4 hU4
       have A4:=hid (Zar M3.out hU4 (fun x=>x))
       have B4:=hid (Zar N3.out hU4 (fun x=>x))
       have P4:=hid (Only.ext O3.out hU4)
       obtain ⟨ov,hov⟩:∃ ov,U4.cell? ⟨go,p,none⟩=some ov:=by
        rw [A4.out.cellAt p (by omega)]
        exact ⟨_,List.getElem?_eq_getElem (by simp [hdrs]; omega)⟩
       have fz:U4.frozen? ⟨go,p,none⟩=false:=A4.out.frozenAt p
       clear hU4
       refine Zbw fun K hK=>?_
       go_wp2
       refine hK _ _ ((Zax U4 go p _).mono fun _ _ h=>.inr h) ?_
       clear hK K hov fz
       have M4:=hid (A4.out.stored p (.slice (some ⟨bo c,0,none⟩) L (xo c))).1
       have N4:=hid (Zar B4.out (Zax U4 go p (.slice (some ⟨bo c,0,none⟩) L (xo c))) (fun q=>HT.out.ne q))
       have O4:=hid (Only.trans P4.out ((Zax U4 go p (.slice (some ⟨bo c,0,none⟩) L (xo c))).mono (G:=fun y=>y=gm\/y=go) fun _ _ h=>.inr h) (fun _ _ h=>h))
       clear A4 B4 P4
       rw [wpU]
       simp only [opsAt,opA,opB,opC,opD,opE,opF,opG]
       refine Zae ?_
       intro U5 hU5
       have HS5:=hid (show SolSt w U5 cb fb gm cm go co k L (sw bm c p) (sw xm c p) (sw bo c p) (sw xo c p) (Cd.swap m c p) (Cd.swap o c p) from ((HST.out.more XW1.out).swapped O4.out hlt hp2 (by
         have:=N4.out
         rw [hdrs_swap bm xm hlt hp2] at this
         exact this) (by
         have:=M4.out
         rw [hdrs_swap bo xo hlt hp2] at this
         exact this)).more hU5)
       clear hU5 M1 N1 O1 M2 N2 O2 M3 N3 O3 M4 N4 O4 G1 XW1 HT HXD
       obtain ⟨bm,hbm⟩:∃ f,sw bm c p=f:=⟨_,rfl⟩
       obtain ⟨xm,hxm⟩:∃ f,sw xm c p=f:=⟨_,rfl⟩
       obtain ⟨bo,hbo⟩:∃ f,sw bo c p=f:=⟨_,rfl⟩
       obtain ⟨xo,hxo⟩:∃ f,sw xo c p=f:=⟨_,rfl⟩
       rw [hbm,hxm,hbo,hxo] at HS5
       clear hbm hxm hbo hxo
       obtain ⟨m1,hm1⟩:∃ l,Cd.swap m c p=l:=⟨_,rfl⟩
       obtain ⟨o1,ho1⟩:∃ l,Cd.swap o c p=l:=⟨_,rfl⟩
       rw [hm1,ho1] at HS5
       have HM1:=hid hm1; have HO1:=hid ho1
       clear hm1 ho1 HST
       have T5:=hid HS5.out.two
       have l1:=T5.out.mm.bl.len c hlt
       have l2:=T5.out.mo.bl.len c hlt
       obtain ⟨y1,hy1⟩:∃ y1,nth (Cd.B m1 c) c=y1:=⟨_,rfl⟩
       have xd:Ext U5 U5.drew:=(Ext.refl U5).drew
       have e1:∀ z:SW Ext U5.drew,z.w.cell? ⟨gm,c,none⟩=some (.slice (some ⟨bm c,0,none⟩) k (xm c)):=fun z=>(Ext.trans xd z.ext).cell (T5.out.mm.cell hlt)
       have e2:∀ z:SW Ext U5.drew,z.w.cell? ⟨go,c,none⟩=some (.slice (some ⟨bo c,0,none⟩) L (xo c)):=fun z=>(Ext.trans xd z.ext).cell (T5.out.mo.cell hlt)
       have e3:∀ z:SW Ext U5.drew,z.w.cell? ⟨cb,1,none⟩=some (.pointer (some ⟨fb,0,none⟩)):=fun z=>(Ext.trans xd z.ext).cell HS5.out.code
       have e4:∀ z:SW Ext U5.drew,z.w.cell? ⟨bm c,c,none⟩=some (.int .u8 y1):=fun z=>(Ext.trans xd z.ext).cell (hy1▸T5.out.mm.byte hlt hlt)
       have hy256:y1 < 256:=hy1▸Za9 (T5.out.mm.bl.byte c) c
       have HINV:=hid (fun z:SW Ext U5.drew=>(show Calls Tryz.prog 85 #[.pointer (some ⟨fb,0,none⟩),.int .u8 y1] z.w fun e w''=>e=.returned (.int .u8 (inv y1:Nat))/\Ext z.w w'' from inv_c fb (y1:Int) z.w (HS5.out.field.ext (Ext.trans xd z.ext)) (by omega)))
       have HL1:=hid l1; have HL2:=hid l2; have HY1:=hid hy1; have HXD:=hid xd
       clear l1 l2 hy1 xd
       go_wp2_with fail
       refine Zaq (S:=Ext) 21 (.fin [0,1,2,3,4,5,6,7,8,9,10,11,12,13,14,15,16,17,18,19,20]) (by kernel_rfl) (by kernel_rfl) (fun _ _ d _ _ h=>by cases d<;>exact h) ?_
       rw [wpS]
       simp only [opsAt,opA,opB,opC,opD,opE,opF,opG]
       iterate 20 ((refine Zab (fun K hK=>?_); go_simp; refine hK _ ?_; clear hK K))
       (refine Zab (fun K hK=>?_); go_simp; (apply Exists.intro; refine ⟨fun x=>?_,hK _ ?_⟩; (exact HINV.out x); clear hK K))
       refine Zae ?_
       intro U6 hU6
       have HS6:=hid (HS5.out.more (Ext.trans HXD.out hU6))
       clear hU6 e1 e2 e3 e4 HINV T5 HXD HS5
       go_wp2_with fail
       have hbn:=HS6.out.lb c hlt
       have hol:=HS6.out.old
       have hsc:=scale_c HS6.out.code HS6.out.field (bm c) (xm c) (bo c) (xo c) (Cd.B m1 c) (Cd.B o1 c) (by unfold OwnB; rw [HL1.out]; exact HS6.out.two.mm.row c hlt) (by unfold OwnB; rw [HL2.out]; exact HS6.out.two.mo.row c hlt) (by omega) (by omega) (HS6.out.two.dis c c hlt hlt) (HS6.out.two.mm.bl.byte c) (HS6.out.two.mo.bl.byte c) (by rw [HL1.out]; omega) (by rw [HL2.out]; omega) (inv y1) (inv_bd y1)
       rw [HL1.out,HL2.out] at hsc
       clear hbn hol
       refine hsc.mono ?_
       rintro e w7 ⟨rfl,oa,ob,on⟩
       have HS7:=hid (HS6.out.set2 hlt on (a:=Cd.scale (inv y1) (Cd.B m1 c)) (b:=Cd.scale (inv y1) (Cd.B o1 c)) (by rw [Cd.scale_len]; exact HL1.out) (by rw [Cd.scale_len]; exact HL2.out) (Cd.scale_byte _ _) (Cd.scale_byte _ _) (by unfold OwnB at oa; rw [Cd.scale_len,HL1.out] at oa; exact oa) (by unfold OwnB at ob; rw [Cd.scale_len,HL2.out] at ob; exact ob))
       clear hsc oa ob on HS6 hy256
       obtain ⟨m2,hm2⟩:∃ l,m1.set c (Cd.scale (inv y1) (Cd.B m1 c))=l:=⟨_,rfl⟩
       obtain ⟨o2,ho2⟩:∃ l,o1.set c (Cd.scale (inv y1) (Cd.B o1 c))=l:=⟨_,rfl⟩
       rw [hm2,ho2] at HS7
       have HM2:=hid (show Cd.colM m c=m2 by
        unfold Cd.colM
        simp only [HP.out,HM1.out]
        rw [HY1.out,hm2])
       have HO2:=hid (show Cd.colO m o c=o2 by
        unfold Cd.colO
        simp only [HP.out,HM1.out,HO1.out]
        rw [HY1.out,ho2])
       have HLM2:=hid (show m2.length=k from HS7.out.two.mm.bl.n)
       have HLO2:=hid (show o2.length=k from HS7.out.two.mo.bl.n)
       clear hm2 ho2 HL1 HL2
       go_wp2
       go_loopw [113] (fun t wq=>∃ i:Nat,t=.int .i64 i/\i<=k/\SolSt w wq cb fb gm cm go co k L bm xm bo xo (Cd.clearK m2 m2 c i) (Cd.clearK m2 o2 c i)) (fun t _=>k - (intOf t).toNat)
       case atStart=>exact ⟨0,rfl,by omega,HS7.out⟩
       case round =>
        clear HS7
        obtain ⟨i,rfl,hi,hst⟩:=hrel
        have HCS:=hid (Cd.clearK_succ m2 m2 c i)
        have HCO:=hid (Cd.clearK_succ m2 o2 c i)
        have hBi:=Cd.clearK_B m2 m2 c i i (by rw [HLM2.out]; exact hi)
        rw [if_neg (by omega)] at hBi
        obtain ⟨ma,hma⟩:∃ l,Cd.clearK m2 m2 c i=l:=⟨_,rfl⟩
        obtain ⟨oa,hoa⟩:∃ l,Cd.clearK m2 o2 c i=l:=⟨_,rfl⟩
        rw [hma,hoa] at hst
        rw [hma] at HCS hBi
        rw [hoa] at HCO
        have HQ:=hid hst
        have HMA:=hid hma; have HOA:=hid hoa
        clear hst hma hoa
        by_cases hik:i < k
        ·
         obtain ⟨y,hy⟩:∃ y,nth (Cd.B m2 i) c=y:=⟨_,rfl⟩
         have q1:=HQ.out.two.mm.cell hik
         have q2:=HQ.out.two.mm.byte (j:=c) hik hlt
         rw [hBi,hy] at q2
         have hy256:y < 256:=by
          have:=Za9 (HQ.out.two.mm.bl.byte i) c
          rw [hBi,hy] at this; exact this
         rw [hy] at HCS HCO
         have i0:(0:Int)<=(i:Int):=by omega
         have i1:(i:Int) < (k:Int):=by omega
         clear hBi hy
         by_cases hgo2:i≠c/\y≠0
         ·
          have b1:((i:Int) != (c:Int))=true:=by rw [bne_iff_ne]; have:=hgo2.1; omega
          have b2:((y:Int) != 0)=true:=by rw [bne_iff_ne]; have:=hgo2.2; omega
          rw [if_pos hgo2] at HCS HCO
          have HNE:=hid hgo2.1
          clear hgo2
          have l1:=HQ.out.two.mm.bl.len i hik
          have l2:=HQ.out.two.mo.bl.len i hik
          have HL1:=hid l1; have HL2:=hid l2
          have xd:Ext wr wr.drew:=(Ext.refl wr).drew
          have e1:∀ z:SW Ext wr.drew,z.w.cell? ⟨gm,i,none⟩=some (.slice (some ⟨bm i,0,none⟩) k (xm i)):=fun z=>(Ext.trans xd z.ext).cell q1
          have e2:∀ z:SW Ext wr.drew,z.w.cell? ⟨gm,c,none⟩=some (.slice (some ⟨bm c,0,none⟩) k (xm c)):=fun z=>(Ext.trans xd z.ext).cell (HQ.out.two.mm.cell hlt)
          have e3:∀ z:SW Ext wr.drew,z.w.cell? ⟨cb,1,none⟩=some (.pointer (some ⟨fb,0,none⟩)):=fun z=>(Ext.trans xd z.ext).cell HQ.out.code
          have c0:(0:Int)<=(c:Int):=by omega
          have c1:(c:Int) < (k:Int):=by omega
          have HXD:=hid xd
          clear l1 l2 xd
          go_wp2_with fail
          clear q1 q2 b1 b2
          refine Zaq (S:=Ext) 13 (.fin [0,1,2,3,4,5,6,7,8,9,10,11,12]) (by kernel_rfl) (by kernel_rfl) (fun _ _ d _ _ h=>by cases d<;>exact h) ?_
          rw [wpS]
          simp only [opsAt,opA,opB,opC,opD,opE,opF,opG]
          iterate 13 ((refine Zab (fun K hK=>?_); go_simp; refine hK _ ?_; clear hK K))
          refine Zae ?_
          intro V hV
          have HV:=hid (HQ.out.more (Ext.trans HXD.out hV))
          have HXV:=hid (Ext.trans HXD.out hV)
          clear e1 e2 e3 hV
          go_wp2_with fail
          have hbi:=HV.out.lb i hik
          have hbc:=HV.out.lb c hlt
          have hol:=HV.out.old
          have hg:=HV.out.lg
          refine (add_c fb (bm i) k (xm i) (bm c) 0 k (xm c) (Cd.B ma i) (Cd.B ma c) (y:Int) V HV.out.field (HV.out.two.mm.row i hik) (HV.out.two.mm.bl.byte i) (by omega) (HV.out.two.mm.bytes (by omega) hlt) (by omega) (by omega) (fun q=>HNE.out (HV.out.two.im c i hlt hik q).symm)).mono ?_
          rintro e w3 ⟨rfl,oa3,on3⟩
          rw [Int.toNat_natCast] at oa3
          have HA3:=hid oa3; have HN3:=hid on3
          have dd:=hid (HV.out.two.dis)
          have xd3:Ext w3 w3.drew:=(Ext.refl w3).drew
          have e1:∀ z:SW Ext w3.drew,z.w.cell? ⟨go,i,none⟩=some (.slice (some ⟨bo i,0,none⟩) L (xo i)):=fun z=>(Ext.trans xd3 z.ext).cell (on3.cell (HV.out.two.mo.cell hik) (fun q=>HV.out.two.ne2 hik q))
          have e2:∀ z:SW Ext w3.drew,z.w.cell? ⟨go,c,none⟩=some (.slice (some ⟨bo c,0,none⟩) L (xo c)):=fun z=>(Ext.trans xd3 z.ext).cell (on3.cell (HV.out.two.mo.cell hlt) (fun q=>HV.out.two.ne2 hik q))
          have e3:∀ z:SW Ext w3.drew,z.w.cell? ⟨cb,1,none⟩=some (.pointer (some ⟨fb,0,none⟩)):=fun z=>(Ext.trans xd3 z.ext).cell (on3.cell HV.out.code (fun q=>by have q:cb=bm i:=q; omega))
          have HXD3:=hid xd3
          clear oa3 on3 xd3
          go_wp2_with fail
          refine Zaq (S:=Ext) 13 (.fin [0,1,2,3,4,5,6,7,8,9,10,11,12]) (by kernel_rfl) (by kernel_rfl) (fun _ _ d _ _ h=>by cases d<;>exact h) ?_
          rw [wpS]
          simp only [opsAt,opA,opB,opC,opD,opE,opF,opG]
          iterate 13 ((refine Zab (fun K hK=>?_); go_simp; refine hK _ ?_; clear hK K))
          refine Zae ?_
          intro V2 hV2
          have HN4:=hid (Only.ext HN3.out (Ext.trans HXD3.out hV2))
          have HA4:=hid (Zar HA3.out (Ext.trans HXD3.out hV2) (fun x=>x))
          clear e1 e2 e3 hV2
          go_wp2_with fail
          refine (add_c fb (bo i) L (xo i) (bo c) 0 L (xo c) (Cd.B oa i) (Cd.B oa c) (y:Int) V2 (HN4.out.at HV.out.field (fun q=>by have q:fb=bm i:=q; omega)) (Zar (HV.out.two.mo.row i hik) HN4.out (fun q=>dd.out i i hik hik q.symm)) (HV.out.two.mo.bl.byte i) (by omega) ((HV.out.two.mo.bytes (by omega) hlt).only0 HN4.out (fun q=>dd.out i c hik hlt q.symm)) (by omega) (by omega) (fun q=>HNE.out (HV.out.two.io c i hlt hik q).symm)).mono ?_
          rintro e w5 ⟨rfl,oa5,on5⟩
          rw [Int.toNat_natCast] at oa5
          have HEND:=hid (HV.out.set2 hik (w':=w5) (a:=Gf.addB (Cd.B ma i) (Cd.B ma c) y) (b:=Gf.addB (Cd.B oa i) (Cd.B oa c) y) (Only.trans (HN4.out.mono (G:=fun z=>z=bm i\/z=bo i) (fun _ _ h=>.inl h)) (on5.mono (G:=fun z=>z=bm i\/z=bo i) (fun _ _ h=>.inr h)) (fun _ _ h=>h)) (by rw [Gf.addB_len]; exact HL1.out) (by rw [Gf.addB_len]; exact HL2.out) (Gf.addB_byte _ _ _ hy256 (HV.out.two.mm.bl.byte i)) (Gf.addB_byte _ _ _ hy256 (HV.out.two.mo.bl.byte i)) (Zar HA4.out on5 (fun q=>dd.out i i hik hik q)) oa5)
          have HRR:=hid (show SolSt w w5 cb fb gm cm go co k L bm xm bo xo (Cd.clearK m2 m2 c (i+1)) (Cd.clearK m2 o2 c (i+1)) by rw [HCS.out,HCO.out]; exact HEND.out)
          clear oa5 on5 HEND
          go_wp2
          go_roundw
          case rel=>exact ⟨i+1,by go_num,by omega,HRR.out⟩
          case measure=>simp [intOf]; omega
         ·
          rw [if_neg hgo2] at HCS HCO
          have HRR:=hid (show SolSt w wr cb fb gm cm go co k L bm xm bo xo (Cd.clearK m2 m2 c (i+1)) (Cd.clearK m2 o2 c (i+1)) by rw [HCS.out,HCO.out]; exact HQ.out)
          by_cases hic:i=c
          ·
           obtain rfl:i=c:=hic
           clear hgo2
           go_wp2
           go_roundw
           case rel=>exact ⟨i+1,by go_num,by omega,HRR.out⟩
           case measure=>simp [intOf]; omega
          ·
           have b1:((i:Int) != (c:Int))=true:=by rw [bne_iff_ne]; omega
           have b2:((y:Int) != 0)=false:=by
            have:y=0:=Classical.not_not.1 fun q=>hgo2 ⟨hic,q⟩
            subst this; rfl
           clear hgo2
           go_wp2
           go_roundw
           case rel=>exact ⟨i+1,by go_num,by omega,HRR.out⟩
           case measure=>simp [intOf]; omega
        ·
         obtain rfl:k=i:=by omega
         have HFIN:=hid (show SolAt w wr cb fb gm cm go co k L (steps m0 o0 (c+1)) from by
          rw [HSS.out]
          refine ⟨bm,xm,bo,xo,?_⟩
          have e1:(Cd.step (m,o) c).1=ma:=by show Cd.clearK (Cd.colM m c) (Cd.colM m c) c m.length=ma; rw [HM2.out,HML.out,HMA.out]
          have e2:(Cd.step (m,o) c).2=oa:=by show Cd.clearK (Cd.colM m c) (Cd.colO m o c) c m.length=oa; rw [HM2.out,HO2.out,HML.out,HOA.out]
          rw [e1,e2]; exact HQ.out)
         clear HQ HMA HOA
         go_wp2
         go_roundw
         case rel=>exact ⟨c+1,by go_num,by omega,HFIN.out⟩
         case measure=>simp [intOf]; omega
      ·
       have g1':¬(p:Int) < (k:Int) - 1:=by omega
       clear hgo
       go_wp2
       clear g1 g1'
       clear hw1 cb1 hy
       obtain rfl:p=P:=HPP.out
       clear HPP cm1
       have xd:Ext wr wr.drew:=(Ext.refl wr).drew
       have HT:=hid HST.out.two
       have d1:∀ z:SW Ext wr.drew,z.w.cell? ⟨gm,p,none⟩=some (.slice (some ⟨bm p,0,none⟩) k (xm p)):=fun z=>(Ext.trans xd z.ext).cell (HT.out.mm.cell hp2)
       have d2:∀ z:SW Ext wr.drew,z.w.cell? ⟨gm,c,none⟩=some (.slice (some ⟨bm c,0,none⟩) k (xm c)):=fun z=>(Ext.trans xd z.ext).cell (HT.out.mm.cell hlt)
       have d3:∀ z:SW Ext wr.drew,z.w.cell? ⟨go,p,none⟩=some (.slice (some ⟨bo p,0,none⟩) L (xo p)):=fun z=>(Ext.trans xd z.ext).cell (HT.out.mo.cell hp2)
       have d4:∀ z:SW Ext wr.drew,z.w.cell? ⟨go,c,none⟩=some (.slice (some ⟨bo c,0,none⟩) L (xo c)):=fun z=>(Ext.trans xd z.ext).cell (HT.out.mo.cell hlt)
       have HXD:=hid xd
       clear xd
       go_wp2_with fail
       refine Zbr (E:=Ext) (S:=Only fun y=>y=gm\/y=go) (fun i=>i == 25 || i == 27 || i == 29 || i == 31) [0,1,2,3,4,5,6,7,8,9,10,12,13,14,16,17,18,20,21,22] [11,15,19,23] (.one [24] 25 (.one [26] 27 (.one [28] 29 (.one [30] 31 (.fin []))))) (by kernel_rfl) (by kernel_rfl) (fun _ _ d _ _ h=>by cases d<;>exact h) ?_
       simp only [opsAt,opA,opB,opC,opD,opE,opF,opG]
       iterate 20 ((refine Zab (fun K hK=>?_); go_simp; refine hK _ ?_; clear hK K))
       refine Zae ?_
       iterate 4 ((refine Zab (fun K hK=>?_); go_simp; refine hK _ ?_; clear hK K))
       refine Zae ?_
       intro V0 hV0
       clear d1 d2 d3 d4
       rw [wpU]
       simp only [opsAt,opA,opB,opC,opD,opE,opF,opG]
       (refine Zab (fun K hK=>?_); go_simp; refine hK _ ?_; clear hK K)
       refine Zae ?_
       intro U1 hU1
       have G1:=hid (HT.out.ext (Ext.trans HXD.out (Ext.trans hV0 hU1)))
       have XW1:=hid (Ext.trans HXD.out (Ext.trans hV0 hU1))
       have s1:U1.cell? ⟨gm,c,none⟩=some (.slice (some ⟨bm c,0,none⟩) k (xm c)):=G1.out.mm.cell hlt
       have f1:U1.frozen? ⟨gm,c,none⟩=false:=G1.out.mm.hdr.frozenAt c
       clear hV0 hU1
       refine Zbw fun K hK=>?_
       go_wp2
       refine hK _ _ ((Zax U1 gm c _).mono fun _ _ h=>.inl h) ?_
       clear hK K s1 f1
       have M1:=hid (G1.out.mm.hdr.stored c (.slice (some ⟨bm p,0,none⟩) k (xm p))).1
       have N1:=hid (Zar G1.out.mo.hdr (Zax U1 gm c (.slice (some ⟨bm p,0,none⟩) k (xm p))) (fun q=>G1.out.ne q.symm))
       have O1:=hid ((Zax U1 gm c (.slice (some ⟨bm p,0,none⟩) k (xm p))).mono (G:=fun y=>y=gm\/y=go) fun _ _ h=>.inl h)
       rw [wpU]
       simp only [opsAt,opA,opB,opC,opD,opE,opF,opG]
       (refine Zab (fun K hK=>?_); go_simp; refine hK _ ?_; clear hK K)
       refine Zae ?_
       intro U2 hU2
       have A2:=hid (Zar M1.out hU2 (fun x=>x))
       have B2:=hid (Zar N1.out hU2 (fun x=>x))
       have P2:=hid (Only.ext O1.out hU2)
       obtain ⟨ov,hov⟩:∃ ov,U2.cell? ⟨gm,p,none⟩=some ov:=by
        rw [A2.out.cellAt p (by omega)]
        exact ⟨_,List.getElem?_eq_getElem (by simp [hdrs]; omega)⟩
       have fz:U2.frozen? ⟨gm,p,none⟩=false:=A2.out.frozenAt p
       clear hU2
       refine Zbw fun K hK=>?_
       go_wp2
       refine hK _ _ ((Zax U2 gm p _).mono fun _ _ h=>.inl h) ?_
       clear hK K hov fz
       have M2:=hid (A2.out.stored p (.slice (some ⟨bm c,0,none⟩) k (xm c))).1
       have N2:=hid (Zar B2.out (Zax U2 gm p (.slice (some ⟨bm c,0,none⟩) k (xm c))) (fun q=>HT.out.ne q.symm))
       have O2:=hid (Only.trans P2.out ((Zax U2 gm p (.slice (some ⟨bm c,0,none⟩) k (xm c))).mono (G:=fun y=>y=gm\/y=go) fun _ _ h=>.inl h) (fun _ _ h=>h))
       clear A2 B2 P2
       rw [wpU]
       simp only [opsAt,opA,opB,opC,opD,opE,opF,opG]
       (refine Zab (fun K hK=>?_); go_simp; refine hK _ ?_; clear hK K)
       refine Zae ?_
       intro U3 hU3
       have A3:=hid (Zar N2.out hU3 (fun x=>x))
       have B3:=hid (Zar M2.out hU3 (fun x=>x))
       have P3:=hid (Only.ext O2.out hU3)
       obtain ⟨ov,hov⟩:∃ ov,U3.cell? ⟨go,c,none⟩=some ov:=by
        rw [A3.out.cellAt c (by omega)]
        exact ⟨_,List.getElem?_eq_getElem (by simp [hdrs]; omega)⟩
       have fz:U3.frozen? ⟨go,c,none⟩=false:=A3.out.frozenAt c
       clear hU3
       refine Zbw fun K hK=>?_
       go_wp2
       refine hK _ _ ((Zax U3 go c _).mono fun _ _ h=>.inr h) ?_
       clear hK K hov fz
       have M3:=hid (A3.out.stored c (.slice (some ⟨bo p,0,none⟩) L (xo p))).1
       have N3:=hid (Zar B3.out (Zax U3 go c (.slice (some ⟨bo p,0,none⟩) L (xo p))) (fun q=>HT.out.ne q))
       have O3:=hid (Only.trans P3.out ((Zax U3 go c (.slice (some ⟨bo p,0,none⟩) L (xo p))).mono (G:=fun y=>y=gm\/y=go) fun _ _ h=>.inr h) (fun _ _ h=>h))
       clear A3 B3 P3
       rw [wpU]
       simp only [opsAt,opA,opB,opC,opD,opE,opF,opG]
       (refine Zab (fun K hK=>?_); go_simp; refine hK _ ?_; clear hK K)
       refine Zae ?_
       intro U4 hU4
       have A4:=hid (Zar M3.out hU4 (fun x=>x))
       have B4:=hid (Zar N3.out hU4 (fun x=>x))
       have P4:=hid (Only.ext O3.out hU4)
       obtain ⟨ov,hov⟩:∃ ov,U4.cell? ⟨go,p,none⟩=some ov:=by
        rw [A4.out.cellAt p (by omega)]
        exact ⟨_,List.getElem?_eq_getElem (by simp [hdrs]; omega)⟩
       have fz:U4.frozen? ⟨go,p,none⟩=false:=A4.out.frozenAt p
       clear hU4
       refine Zbw fun K hK=>?_
       go_wp2
       refine hK _ _ ((Zax U4 go p _).mono fun _ _ h=>.inr h) ?_
       clear hK K hov fz
       have M4:=hid (A4.out.stored p (.slice (some ⟨bo c,0,none⟩) L (xo c))).1
       have N4:=hid (Zar B4.out (Zax U4 go p (.slice (some ⟨bo c,0,none⟩) L (xo c))) (fun q=>HT.out.ne q))
       have O4:=hid (Only.trans P4.out ((Zax U4 go p (.slice (some ⟨bo c,0,none⟩) L (xo c))).mono (G:=fun y=>y=gm\/y=go) fun _ _ h=>.inr h) (fun _ _ h=>h))
       clear A4 B4 P4
       rw [wpU]
       simp only [opsAt,opA,opB,opC,opD,opE,opF,opG]
       refine Zae ?_
       intro U5 hU5
       have HS5:=hid (show SolSt w U5 cb fb gm cm go co k L (sw bm c p) (sw xm c p) (sw bo c p) (sw xo c p) (Cd.swap m c p) (Cd.swap o c p) from ((HST.out.more XW1.out).swapped O4.out hlt hp2 (by
         have:=N4.out
         rw [hdrs_swap bm xm hlt hp2] at this
         exact this) (by
         have:=M4.out
         rw [hdrs_swap bo xo hlt hp2] at this
         exact this)).more hU5)
       clear hU5 M1 N1 O1 M2 N2 O2 M3 N3 O3 M4 N4 O4 G1 XW1 HT HXD
       obtain ⟨bm,hbm⟩:∃ f,sw bm c p=f:=⟨_,rfl⟩
       obtain ⟨xm,hxm⟩:∃ f,sw xm c p=f:=⟨_,rfl⟩
       obtain ⟨bo,hbo⟩:∃ f,sw bo c p=f:=⟨_,rfl⟩
       obtain ⟨xo,hxo⟩:∃ f,sw xo c p=f:=⟨_,rfl⟩
       rw [hbm,hxm,hbo,hxo] at HS5
       clear hbm hxm hbo hxo
       obtain ⟨m1,hm1⟩:∃ l,Cd.swap m c p=l:=⟨_,rfl⟩
       obtain ⟨o1,ho1⟩:∃ l,Cd.swap o c p=l:=⟨_,rfl⟩
       rw [hm1,ho1] at HS5
       have HM1:=hid hm1; have HO1:=hid ho1
       clear hm1 ho1 HST
       have T5:=hid HS5.out.two
       have l1:=T5.out.mm.bl.len c hlt
       have l2:=T5.out.mo.bl.len c hlt
       obtain ⟨y1,hy1⟩:∃ y1,nth (Cd.B m1 c) c=y1:=⟨_,rfl⟩
       have xd:Ext U5 U5.drew:=(Ext.refl U5).drew
       have e1:∀ z:SW Ext U5.drew,z.w.cell? ⟨gm,c,none⟩=some (.slice (some ⟨bm c,0,none⟩) k (xm c)):=fun z=>(Ext.trans xd z.ext).cell (T5.out.mm.cell hlt)
       have e2:∀ z:SW Ext U5.drew,z.w.cell? ⟨go,c,none⟩=some (.slice (some ⟨bo c,0,none⟩) L (xo c)):=fun z=>(Ext.trans xd z.ext).cell (T5.out.mo.cell hlt)
       have e3:∀ z:SW Ext U5.drew,z.w.cell? ⟨cb,1,none⟩=some (.pointer (some ⟨fb,0,none⟩)):=fun z=>(Ext.trans xd z.ext).cell HS5.out.code
       have e4:∀ z:SW Ext U5.drew,z.w.cell? ⟨bm c,c,none⟩=some (.int .u8 y1):=fun z=>(Ext.trans xd z.ext).cell (hy1▸T5.out.mm.byte hlt hlt)
       have hy256:y1 < 256:=hy1▸Za9 (T5.out.mm.bl.byte c) c
       have HINV:=hid (fun z:SW Ext U5.drew=>(show Calls Tryz.prog 85 #[.pointer (some ⟨fb,0,none⟩),.int .u8 y1] z.w fun e w''=>e=.returned (.int .u8 (inv y1:Nat))/\Ext z.w w'' from inv_c fb (y1:Int) z.w (HS5.out.field.ext (Ext.trans xd z.ext)) (by omega)))
       have HL1:=hid l1; have HL2:=hid l2; have HY1:=hid hy1; have HXD:=hid xd
       clear l1 l2 hy1 xd
       go_wp2_with fail
       refine Zaq (S:=Ext) 21 (.fin [0,1,2,3,4,5,6,7,8,9,10,11,12,13,14,15,16,17,18,19,20]) (by kernel_rfl) (by kernel_rfl) (fun _ _ d _ _ h=>by cases d<;>exact h) ?_
       rw [wpS]
       simp only [opsAt,opA,opB,opC,opD,opE,opF,opG]
       iterate 20 ((refine Zab (fun K hK=>?_); go_simp; refine hK _ ?_; clear hK K))
       (refine Zab (fun K hK=>?_); go_simp; (apply Exists.intro; refine ⟨fun x=>?_,hK _ ?_⟩; (exact HINV.out x); clear hK K))
       refine Zae ?_
       intro U6 hU6
       have HS6:=hid (HS5.out.more (Ext.trans HXD.out hU6))
       clear hU6 e1 e2 e3 e4 HINV T5 HXD HS5
       go_wp2_with fail
       have hbn:=HS6.out.lb c hlt
       have hol:=HS6.out.old
       have hsc:=scale_c HS6.out.code HS6.out.field (bm c) (xm c) (bo c) (xo c) (Cd.B m1 c) (Cd.B o1 c) (by unfold OwnB; rw [HL1.out]; exact HS6.out.two.mm.row c hlt) (by unfold OwnB; rw [HL2.out]; exact HS6.out.two.mo.row c hlt) (by omega) (by omega) (HS6.out.two.dis c c hlt hlt) (HS6.out.two.mm.bl.byte c) (HS6.out.two.mo.bl.byte c) (by rw [HL1.out]; omega) (by rw [HL2.out]; omega) (inv y1) (inv_bd y1)
       rw [HL1.out,HL2.out] at hsc
       clear hbn hol
       refine hsc.mono ?_
       rintro e w7 ⟨rfl,oa,ob,on⟩
       have HS7:=hid (HS6.out.set2 hlt on (a:=Cd.scale (inv y1) (Cd.B m1 c)) (b:=Cd.scale (inv y1) (Cd.B o1 c)) (by rw [Cd.scale_len]; exact HL1.out) (by rw [Cd.scale_len]; exact HL2.out) (Cd.scale_byte _ _) (Cd.scale_byte _ _) (by unfold OwnB at oa; rw [Cd.scale_len,HL1.out] at oa; exact oa) (by unfold OwnB at ob; rw [Cd.scale_len,HL2.out] at ob; exact ob))
       clear hsc oa ob on HS6 hy256
       obtain ⟨m2,hm2⟩:∃ l,m1.set c (Cd.scale (inv y1) (Cd.B m1 c))=l:=⟨_,rfl⟩
       obtain ⟨o2,ho2⟩:∃ l,o1.set c (Cd.scale (inv y1) (Cd.B o1 c))=l:=⟨_,rfl⟩
       rw [hm2,ho2] at HS7
       have HM2:=hid (show Cd.colM m c=m2 by
        unfold Cd.colM
        simp only [HP.out,HM1.out]
        rw [HY1.out,hm2])
       have HO2:=hid (show Cd.colO m o c=o2 by
        unfold Cd.colO
        simp only [HP.out,HM1.out,HO1.out]
        rw [HY1.out,ho2])
       have HLM2:=hid (show m2.length=k from HS7.out.two.mm.bl.n)
       have HLO2:=hid (show o2.length=k from HS7.out.two.mo.bl.n)
       clear hm2 ho2 HL1 HL2
       go_wp2
       go_loopw [113] (fun t wq=>∃ i:Nat,t=.int .i64 i/\i<=k/\SolSt w wq cb fb gm cm go co k L bm xm bo xo (Cd.clearK m2 m2 c i) (Cd.clearK m2 o2 c i)) (fun t _=>k - (intOf t).toNat)
       case atStart=>exact ⟨0,rfl,by omega,HS7.out⟩
       case round =>
        clear HS7
        obtain ⟨i,rfl,hi,hst⟩:=hrel
        have HCS:=hid (Cd.clearK_succ m2 m2 c i)
        have HCO:=hid (Cd.clearK_succ m2 o2 c i)
        have hBi:=Cd.clearK_B m2 m2 c i i (by rw [HLM2.out]; exact hi)
        rw [if_neg (by omega)] at hBi
        obtain ⟨ma,hma⟩:∃ l,Cd.clearK m2 m2 c i=l:=⟨_,rfl⟩
        obtain ⟨oa,hoa⟩:∃ l,Cd.clearK m2 o2 c i=l:=⟨_,rfl⟩
        rw [hma,hoa] at hst
        rw [hma] at HCS hBi
        rw [hoa] at HCO
        have HQ:=hid hst
        have HMA:=hid hma; have HOA:=hid hoa
        clear hst hma hoa
        by_cases hik:i < k
        ·
         obtain ⟨y,hy⟩:∃ y,nth (Cd.B m2 i) c=y:=⟨_,rfl⟩
         have q1:=HQ.out.two.mm.cell hik
         have q2:=HQ.out.two.mm.byte (j:=c) hik hlt
         rw [hBi,hy] at q2
         have hy256:y < 256:=by
          have:=Za9 (HQ.out.two.mm.bl.byte i) c
          rw [hBi,hy] at this; exact this
         rw [hy] at HCS HCO
         have i0:(0:Int)<=(i:Int):=by omega
         have i1:(i:Int) < (k:Int):=by omega
         clear hBi hy
         by_cases hgo2:i≠c/\y≠0
         ·
          have b1:((i:Int) != (c:Int))=true:=by rw [bne_iff_ne]; have:=hgo2.1; omega
          have b2:((y:Int) != 0)=true:=by rw [bne_iff_ne]; have:=hgo2.2; omega
          rw [if_pos hgo2] at HCS HCO
          have HNE:=hid hgo2.1
          clear hgo2
          have l1:=HQ.out.two.mm.bl.len i hik
          have l2:=HQ.out.two.mo.bl.len i hik
          have HL1:=hid l1; have HL2:=hid l2
          have xd:Ext wr wr.drew:=(Ext.refl wr).drew
          have e1:∀ z:SW Ext wr.drew,z.w.cell? ⟨gm,i,none⟩=some (.slice (some ⟨bm i,0,none⟩) k (xm i)):=fun z=>(Ext.trans xd z.ext).cell q1
          have e2:∀ z:SW Ext wr.drew,z.w.cell? ⟨gm,c,none⟩=some (.slice (some ⟨bm c,0,none⟩) k (xm c)):=fun z=>(Ext.trans xd z.ext).cell (HQ.out.two.mm.cell hlt)
          have e3:∀ z:SW Ext wr.drew,z.w.cell? ⟨cb,1,none⟩=some (.pointer (some ⟨fb,0,none⟩)):=fun z=>(Ext.trans xd z.ext).cell HQ.out.code
          have c0:(0:Int)<=(c:Int):=by omega
          have c1:(c:Int) < (k:Int):=by omega
          have HXD:=hid xd
          clear l1 l2 xd
          go_wp2_with fail
          clear q1 q2 b1 b2
          refine Zaq (S:=Ext) 13 (.fin [0,1,2,3,4,5,6,7,8,9,10,11,12]) (by kernel_rfl) (by kernel_rfl) (fun _ _ d _ _ h=>by cases d<;>exact h) ?_
          rw [wpS]
          simp only [opsAt,opA,opB,opC,opD,opE,opF,opG]
          iterate 13 ((refine Zab (fun K hK=>?_); go_simp; refine hK _ ?_; clear hK K))
          refine Zae ?_
          intro V hV
          have HV:=hid (HQ.out.more (Ext.trans HXD.out hV))
          have HXV:=hid (Ext.trans HXD.out hV)
          clear e1 e2 e3 hV
          go_wp2_with fail
          have hbi:=HV.out.lb i hik
          have hbc:=HV.out.lb c hlt
          have hol:=HV.out.old
          have hg:=HV.out.lg
          refine (add_c fb (bm i) k (xm i) (bm c) 0 k (xm c) (Cd.B ma i) (Cd.B ma c) (y:Int) V HV.out.field (HV.out.two.mm.row i hik) (HV.out.two.mm.bl.byte i) (by omega) (HV.out.two.mm.bytes (by omega) hlt) (by omega) (by omega) (fun q=>HNE.out (HV.out.two.im c i hlt hik q).symm)).mono ?_
          rintro e w3 ⟨rfl,oa3,on3⟩
          rw [Int.toNat_natCast] at oa3
          have HA3:=hid oa3; have HN3:=hid on3
          have dd:=hid (HV.out.two.dis)
          have xd3:Ext w3 w3.drew:=(Ext.refl w3).drew
          have e1:∀ z:SW Ext w3.drew,z.w.cell? ⟨go,i,none⟩=some (.slice (some ⟨bo i,0,none⟩) L (xo i)):=fun z=>(Ext.trans xd3 z.ext).cell (on3.cell (HV.out.two.mo.cell hik) (fun q=>HV.out.two.ne2 hik q))
          have e2:∀ z:SW Ext w3.drew,z.w.cell? ⟨go,c,none⟩=some (.slice (some ⟨bo c,0,none⟩) L (xo c)):=fun z=>(Ext.trans xd3 z.ext).cell (on3.cell (HV.out.two.mo.cell hlt) (fun q=>HV.out.two.ne2 hik q))
          have e3:∀ z:SW Ext w3.drew,z.w.cell? ⟨cb,1,none⟩=some (.pointer (some ⟨fb,0,none⟩)):=fun z=>(Ext.trans xd3 z.ext).cell (on3.cell HV.out.code (fun q=>by have q:cb=bm i:=q; omega))
          have HXD3:=hid xd3
          clear oa3 on3 xd3
          go_wp2_with fail
          refine Zaq (S:=Ext) 13 (.fin [0,1,2,3,4,5,6,7,8,9,10,11,12]) (by kernel_rfl) (by kernel_rfl) (fun _ _ d _ _ h=>by cases d<;>exact h) ?_
          rw [wpS]
          simp only [opsAt,opA,opB,opC,opD,opE,opF,opG]
          iterate 13 ((refine Zab (fun K hK=>?_); go_simp; refine hK _ ?_; clear hK K))
          refine Zae ?_
          intro V2 hV2
          have HN4:=hid (Only.ext HN3.out (Ext.trans HXD3.out hV2))
          have HA4:=hid (Zar HA3.out (Ext.trans HXD3.out hV2) (fun x=>x))
          clear e1 e2 e3 hV2
          go_wp2_with fail
          refine (add_c fb (bo i) L (xo i) (bo c) 0 L (xo c) (Cd.B oa i) (Cd.B oa c) (y:Int) V2 (HN4.out.at HV.out.field (fun q=>by have q:fb=bm i:=q; omega)) (Zar (HV.out.two.mo.row i hik) HN4.out (fun q=>dd.out i i hik hik q.symm)) (HV.out.two.mo.bl.byte i) (by omega) ((HV.out.two.mo.bytes (by omega) hlt).only0 HN4.out (fun q=>dd.out i c hik hlt q.symm)) (by omega) (by omega) (fun q=>HNE.out (HV.out.two.io c i hlt hik q).symm)).mono ?_
          rintro e w5 ⟨rfl,oa5,on5⟩
          rw [Int.toNat_natCast] at oa5
          have HEND:=hid (HV.out.set2 hik (w':=w5) (a:=Gf.addB (Cd.B ma i) (Cd.B ma c) y) (b:=Gf.addB (Cd.B oa i) (Cd.B oa c) y) (Only.trans (HN4.out.mono (G:=fun z=>z=bm i\/z=bo i) (fun _ _ h=>.inl h)) (on5.mono (G:=fun z=>z=bm i\/z=bo i) (fun _ _ h=>.inr h)) (fun _ _ h=>h)) (by rw [Gf.addB_len]; exact HL1.out) (by rw [Gf.addB_len]; exact HL2.out) (Gf.addB_byte _ _ _ hy256 (HV.out.two.mm.bl.byte i)) (Gf.addB_byte _ _ _ hy256 (HV.out.two.mo.bl.byte i)) (Zar HA4.out on5 (fun q=>dd.out i i hik hik q)) oa5)
          have HRR:=hid (show SolSt w w5 cb fb gm cm go co k L bm xm bo xo (Cd.clearK m2 m2 c (i+1)) (Cd.clearK m2 o2 c (i+1)) by rw [HCS.out,HCO.out]; exact HEND.out)
          clear oa5 on5 HEND
          go_wp2
          go_roundw
          case rel=>exact ⟨i+1,by go_num,by omega,HRR.out⟩
          case measure=>simp [intOf]; omega
         ·
          rw [if_neg hgo2] at HCS HCO
          have HRR:=hid (show SolSt w wr cb fb gm cm go co k L bm xm bo xo (Cd.clearK m2 m2 c (i+1)) (Cd.clearK m2 o2 c (i+1)) by rw [HCS.out,HCO.out]; exact HQ.out)
          by_cases hic:i=c
          ·
           obtain rfl:i=c:=hic
           clear hgo2
           go_wp2
           go_roundw
           case rel=>exact ⟨i+1,by go_num,by omega,HRR.out⟩
           case measure=>simp [intOf]; omega
          ·
           have b1:((i:Int) != (c:Int))=true:=by rw [bne_iff_ne]; omega
           have b2:((y:Int) != 0)=false:=by
            have:y=0:=Classical.not_not.1 fun q=>hgo2 ⟨hic,q⟩
            subst this; rfl
           clear hgo2
           go_wp2
           go_roundw
           case rel=>exact ⟨i+1,by go_num,by omega,HRR.out⟩
           case measure=>simp [intOf]; omega
        ·
         obtain rfl:k=i:=by omega
         have HFIN:=hid (show SolAt w wr cb fb gm cm go co k L (steps m0 o0 (c+1)) from by
          rw [HSS.out]
          refine ⟨bm,xm,bo,xo,?_⟩
          have e1:(Cd.step (m,o) c).1=ma:=by show Cd.clearK (Cd.colM m c) (Cd.colM m c) c m.length=ma; rw [HM2.out,HML.out,HMA.out]
          have e2:(Cd.step (m,o) c).2=oa:=by show Cd.clearK (Cd.colM m c) (Cd.colO m o c) c m.length=oa; rw [HM2.out,HO2.out,HML.out,HOA.out]
          rw [e1,e2]; exact HQ.out)
         clear HQ HMA HOA
         go_wp2
         go_roundw
         case rel=>exact ⟨c+1,by go_num,by omega,HFIN.out⟩
         case measure=>simp [intOf]; omega
   ·
    obtain rfl:k=c:=by omega
    have HFIN:=hid (HST.out)
    have hout:=(show SolAt w wr cb fb gm cm go co k L (m,o) from ⟨bm,xm,bo,xo,HST.out⟩).out (by omega)
    have HOUT2:=hid hout
    have HEQ:=hid (show (Cd.solve m0 o0).2=o by unfold Cd.solve; rw [HMK.out]; exact congrArg Prod.snd HMO.out)
    clear hout
    go_wp2
    go_ret
    exact ⟨go,co,rfl,by rw [HEQ.out]; exact HOUT2.out.1,HOUT2.out.2⟩
end Go.Proofs.YtgjnnbomnoafcaaGreat
namespace Go.Proofs.YtgjnnbomnoafcaaGreat
set_option linter.unusedVariables false
open Go Go.RowKit Gf
theorem infoPart:(Tryz.prog.info? 146).map (fun i=>(i.zero,i.size,i.bytes))=some (some (.agg #[.int .i64 0,.slice none 0 0]),2,32):=by kernel_rfl
def metV (f:Nat->Bool):Array Value:=((List.range 8).map fun i=>Value.int .i64 (if f i then 1 else 0)).toArray
theorem zero_met (w:World):Sem.run Tryz.prog (zeroValue 174) w=.ok (.agg (metV fun _=>false)) w:=by kernel_rfl
theorem metV_get (f:Nat->Bool) {i:Nat} (h:i < 8):(metV f)[i]?=some (.int .i64 (if f i then 1 else 0)):=by simp [metV,h]
theorem metV_set (f:Nat->Bool) {i:Nat} (h:i < 8):(metV f).setIfInBounds i (.int .i64 1)=metV (fun q=>f q || q == i):=by
 apply Array.ext_getElem?
 intro q
 rw [Array.getElem?_setIfInBounds]
 by_cases e:i=q
 ·
  subst e
  rw [if_pos rfl,metV_get _ h]
  simp [metV,h]
 ·
  rw [if_neg e]
  by_cases hq:q < 8
  ·
   rw [metV_get _ hq,metV_get _ hq]
   have:(q == i)=false:=by simp; omega
   simp [this]
  ·
   rw [Array.getElem?_eq_none (by simp [metV]; omega),Array.getElem?_eq_none (by simp [metV]; omega)]
def partC (w:World) (pb i:Nat):Array Value:=#[(w.cell? ⟨pb,i*2,none⟩).getD undef,(w.cell? ⟨pb,i*2+1,none⟩).getD undef]
def metF (ps:List (Nat × List Nat)) (n i:Nat):Bool:=(ps.take n).any fun p=>p.1 == i
theorem metF_succ {ps:List (Nat × List Nat)} {n:Nat} {p:Nat × List Nat} (h:ps[n]?=some p):metF ps (n+1)=fun q=>metF ps n q || q == p.1:=by
 funext q
 unfold metF
 rw [List.take_add_one,h,Option.toList_some,List.any_append]
 congr 1
 simp only [List.any_cons,List.any_nil,Bool.or_false]
 rw [Bool.eq_iff_iff]
 simp only [beq_iff_eq]
 exact ⟨fun e=>e.symm,fun e=>e.symm⟩
theorem metF_new {ps:List (Nat × List Nat)} (hn:(ps.map (·.1)).Nodup) {n:Nat} {p:Nat × List Nat} (h:ps[n]?=some p) {m:Nat} (hm:m<=n):metF ps m p.1=false:=by
 unfold metF
 rw [List.any_eq_false]
 intro q hq e
 obtain ⟨i,hi,he⟩:=List.mem_iff_getElem.1 hq
 rw [List.length_take] at hi
 rw [List.getElem_take] at he
 have hnl:n < ps.length:=(List.getElem?_eq_some_iff.1 h).1
 have hp:ps[n]=p:=(List.getElem?_eq_some_iff.1 h).2
 have h1:(ps.map (·.1))[i]'(by simp; omega)=(ps.map (·.1))[n]'(by simp; omega):=by
  rw [List.getElem_map,List.getElem_map,he,hp]
  simpa using e
 have:=(List.getElem_inj hn).1 h1
 omega
structure ChSt (w0 wr:World) (mb pb k:Nat) (ps:List (Nat × List Nat)) (j:Nat) (v:Value):Prop where
 ext:Ext w0 wr
 met:wr.heap[mb]?=some (.cells (metV (metF ps (min j k))) 174 (0,0))
 new:w0.heap.size<=mb
 own:OwnVs wr (mb+1) 146 2 v ((List.range (min j k)).map (partC w0 pb))
def ChPost (w:World) (pb k L:Nat) (ps:List (Nat × List Nat)) (e:Ending) (w':World):Prop:=∃ g c,e=.returned (.slice (some ⟨g,0,none⟩) k c)/\PartsAt w' g L (ps.take k)/\Ext w w'
theorem ChSt.out {w0 wr:World} {mb pb k L:Nat} {ps:List (Nat × List Nat)} {v:Value} {N:Nat} (h:ChSt w0 wr mb pb k ps N v) (hN:ps.length=N) (hk:k<=N) (k1:1<=k) (hp:PartsAt w0 pb L ps) (L0:0 < L):∃ g c,v=.slice (some ⟨g,0,none⟩) k c/\PartsAt wr g L (ps.take k):=by
 have ho:=h.own
 rw [Nat.min_eq_right hk] at ho
 obtain ⟨a,c,e,q⟩:=ho.slice
 rw [List.length_map,List.length_range] at e
 rcases q with ⟨q,_⟩ | ⟨g,rfl,_,_,_,hv⟩
 ·
  have:=congrArg List.length q; simp at this; omega
 ·
  refine ⟨g,c,e,fun i p hi=>?_⟩
  have hik:i < k:=by
   rcases Nat.lt_or_ge i k with r | r
   ·
    exact r
   ·
    rw [List.getElem?_eq_none (by rw [List.length_take]; omega)] at hi; cases hi
  rw [List.getElem?_take,if_pos hik] at hi
  obtain ⟨z1,b,off,c',z2,hb⟩:=hp i p hi
  have hvi:=hv i (partC w0 pb i) (by simp [hik])
  have e0:=hvi 0 _ rfl
  have e1:=hvi 1 _ rfl
  rw [z1] at e0
  rw [z2] at e1
  exact ⟨e0,b,off,c',e1,hb.onlyG h.ext (fun x=>x)⟩
theorem ChSt.more {w0 wr w':World} {mb pb k:Nat} {ps:List (Nat × List Nat)} {j:Nat} {v:Value} (h:ChSt w0 wr mb pb k ps j v) (e:Ext wr w'):ChSt w0 w' mb pb k ps j v:=⟨Ext.trans h.ext e,e.at h.met,h.new,h.own.ext e⟩
set_option maxRecDepth 100000 in
set_option maxHeartbeats 2000000 in
theorem chosen_c {w:World} {cb k n L:Nat} (h:CodeAt w cb k n) (pb pc N:Nat) (ps:List (Nat × List Nat)) (hp:PartsAt w pb L ps) (hN:ps.length=N) (hk:k<=N) (k1:1<=k) (N8:N<=8) (L0:0 < L) (hpn:∀ p∈ps,p.1 < 8) (hnd:(ps.map (·.1)).Nodup) :
  Calls Tryz.prog 86 #[.pointer (some ⟨cb,0,none⟩),.slice (some ⟨pb,0,none⟩) N pc] w (ChPost w pb k L ps):=by
 have hzm:=zero_met
 have hzp:=zero_part
 have HC0:=hid h.at0
 have HPA:=hid hp
 have HPS:=hid hN
 have HND:=hid hnd
 have HPN:=hid hpn
 obtain ⟨W0,hW0⟩:∃ W,w.alloc (.cells (metV fun _=>false) 174)=W:=⟨_,rfl⟩
 obtain ⟨mb,hmb⟩:∃ mb,w.heap.size=mb:=⟨_,rfl⟩
 have HS0:=hid (show ChSt w W0 mb pb k ps 0 (.slice none 0 0) from ⟨hW0▸(Ext.refl w).alloc _,by rw [Nat.zero_min,<- hW0,<- hmb]; exact Zad,by omega,by rw [Nat.zero_min]; exact OwnVs.nil _ _ _ _⟩)
 have HW0:=hid hW0; have HMB:=hid hmb
 clear h hp hN hnd hpn hW0 hmb
 go_enter Tryz.func86,Tryz.ntmps86
 go_wp2
 rw [HW0.out,HMB.out]
 clear hzm
 go_loopw [11,5] (fun t s5 wr=>∃ (j:Nat) (v:Value),t=.int .i64 j/\v=s5/\j<=N/\ChSt w wr mb pb k ps j v) (fun t _ _=>N - (intOf t).toNat)
 case atStart=>exact ⟨0,_,rfl,rfl,by omega,HS0.out⟩
 case round =>
  clear HS0
  obtain ⟨j,v,rfl,e5,hj,hst⟩:=hrel
  subst e5
  have HST:=hid hst
  clear hst
  by_cases hjN:j < N
  ·
   obtain ⟨⟨pat,pdat⟩,hpj⟩:∃ p,ps[j]?=some p:=⟨_,List.getElem?_eq_getElem (by rw [HPS.out]; exact hjN)⟩
   obtain ⟨z1,b,off,pcap,z2,_⟩:=HPA.out j (pat,pdat) hpj
   replace z1:w.cell? ⟨pb,j*2,none⟩=some (.int .i64 pat):=z1
   have hp8:pat < 8:=HPN.out (pat,pdat) (List.mem_of_getElem? hpj)
   obtain ⟨A,hA⟩:∃ A:Array Value,partC w pb j=A:=⟨_,rfl⟩
   have hA2:A=#[.int .i64 pat,.slice (some ⟨b,off,none⟩) L pcap]:=by rw [<- hA]; unfold partC; rw [z1,z2]; rfl
   obtain ⟨W1,hW1⟩:∃ W,wr.alloc (.cells A 146)=W:=⟨_,rfl⟩
   obtain ⟨pg,hpg⟩:∃ pg,wr.heap.size=pg:=⟨_,rfl⟩
   have X1:=hid (show Ext wr W1 from hW1▸(Ext.refl wr).alloc _)
   have P1:=hid (show W1.heap[pg]?=some (.cells A 146 (0,0)) from by rw [<- hW1,<- hpg]; exact Zad)
   have HLA:=hid (show ∀ i v,A.toList[i]?=some v->wr.cell? ((⟨pb,j*2,none⟩:Addr).add i)=some v from fun i v hv=>by
    rw [hA2] at hv
    have ea:∀ q,(⟨pb,j*2,none⟩:Addr).add q=⟨pb,j*2+q,none⟩:=fun q=>by unfold Addr.add; split<;>simp_all
    rw [ea]
    rcases i with _ | _ | i
    ·
     simp at hv; subst hv; exact HST.out.ext.cell z1
    ·
     simp at hv; subst hv; exact HST.out.ext.cell z2
    ·
     simp at hv)
   have hbs:(wr.alloc (.cells #[.int .i64 0,.slice none 0 0] 146)).heap[wr.heap.size]?=some (.cells #[.int .i64 0,.slice none 0 0] 146 (0,0)):=Zad
   have HAS:=hid (show A.size=2 by rw [hA2]; rfl)
   have HA1:=hid (show ∀ u∈A.toList,u.oneCell'=true by rw [hA2]; intro u hu; simp at hu; rcases hu with rfl | rfl<;>rfl)
   have HAA:=hid hA
   have HW1:=hid hW1; have HPG:=hid hpg; have HPJ:=hid hpj
   have HM1:=hid (HST.out.more X1.out)
   have c1:W1.cell? ⟨pg,0,none⟩=some (.int .i64 pat):=(Zaf P1.out).trans (by rw [hA2]; rfl)
   have c2:W1.cell? ⟨mb,pat,none⟩=some (.int .i64 0):=(Zaf HM1.out.met).trans (by rw [metV_get _ hp8,metF_new HND.out hpj (Nat.min_le_left _ _)]; rfl)
   have c3:W1.cell? ⟨cb,0,none⟩=some (.int .i64 k):=HM1.out.ext.cell HC0.out
   have f2:W1.frozen? ⟨mb,pat,none⟩=false:=Za7 HM1.out.met
   obtain ⟨a,cc,ev,_⟩:=HST.out.own.slice
   rw [List.length_map,List.length_range] at ev
   have HEV:=hid ev
   subst ev
   have j0:(0:Int)<=(j:Int):=by omega
   have j1:(j:Int) < (N:Int):=by omega
   have n0:(0:Int)<=(pat:Int):=by omega
   have n1:(pat:Int) < 8:=by omega
   clear hpj z1 z2 hA hA2 hW1 hpg
   by_cases hjk:j < k
   ·
    have hmin:min j k=j:=by omega
    have hmin2:min (j+1) k=j+1:=by omega
    rw [hmin] at HM1 HEV ⊢
    have b1:((j:Int) == (k:Int))=false:=by rw [beq_eq_false_iff_ne]; omega
    have o2:Only (fun q=>q=mb) W1 (W1.setCell ⟨mb,pat,none⟩ (.int .i64 1)):=Zax W1 mb pat _
    obtain ⟨W2,hW2⟩:∃ W,W1.setCell ⟨mb,pat,none⟩ (.int .i64 1)=W:=⟨_,rfl⟩
    have hm1:=HM1.out.met
    have ho1:=HM1.out.own
    rw [hmin] at hm1 ho1
    have hme:W2.heap[mb]?=some (.cells (metV (metF ps (j+1))) 174 (0,0)):=by
     have:=Zay (i:=pat) hm1 (.int .i64 1)
     rw [hW2,metV_set _ hp8] at this
     rw [metF_succ HPJ.out]; exact this
    have ho2:OwnVs W2 (mb+1) 146 2 (.slice a j cc) ((List.range j).map (partC w pb)):=by
     have:=ho1.only o2 (fun q hq e=>by have:=(ho1.lt q hq).1; have e:q=mb:=e; omega)
     rw [hW2] at this
     exact this
    rw [hW2] at o2
    have hpn:mb≠pg:=by have:=lt_of_block HST.out.met; have:=HPG.out; omega
    have P2:=hid (o2.at P1.out (fun q=>hpn q.symm))
    obtain ⟨v',W3,hap,ho3,hn3,hx3⟩:=ho2.add (tsl:=120) Tryz.underlying120 infoPart rfl (by omega) A HAS.out HA1.out (by simp; omega) (by omega) (by have:=lt_of_block hme; omega)
    have hvn:∀ q,Value.ownBlock (.slice a j cc)=some q->q≠mb:=fun q hq=>by have:=(ho2.lt q hq).1; omega
    have HN:=hid (show ChSt w W3 mb pb k ps (j+1) v' from by
     refine ⟨?_,?_,HM1.out.new,?_⟩
     ·
      have e1:Ext w W2:=Ext.then HM1.out.ext o2 (fun i hi q=>by have:=HM1.out.new; have q:i=mb:=q; omega)
      exact hx3 w (by have:=HM1.out.new; omega) e1
     ·
      rw [hmin2]; exact hn3.at hme (fun q=>hvn mb q rfl)
     ·
      rw [hmin2,List.range_succ,List.map_append]
      simp only [List.map_cons,List.map_nil]
      rw [HAA.out]; exact ho3)
    have HW2:=hid hW2
    clear hme ho2 o2 ho3 hn3 hx3 hvn hm1 ho1 hW2 hpn
    go_wp2_with (first
     | (guard_target=wpList _ _ _ (⟨some _,Op.load _ _,_,_,_,none⟩::_) _ _; refine Zac rfl 146 _ rfl ⟨pb,j*2,none⟩ rfl A (by rw [HAS.out]; exact aggPart) HLA.out ?_)
     | (guard_target=wpList _ _ _ (⟨none,Op.store _ _ _,_,_,_,none⟩::_) _ _; have hb0:=hbs; clear hbs; refine Zaa rfl 146 _ _ rfl wr.heap.size rfl A _ rfl 146 (by rw [HAS.out]; exact aggPart) hb0 (by rw [HAS.out]; rfl) HA1.out ?_; rw [Zaj,HW1.out,HPG.out])
     | (guard_target=wpList _ _ _ (⟨some _,Op.load _ _,_,_,_,none⟩::_) _ _; refine Zac rfl 146 _ rfl ⟨pg,0,none⟩ rfl A (by rw [HAS.out]; exact aggPart) (by rw [HW2.out]; exact Zai P2.out) ?_)
     | (guard_target=wpList _ _ _ (⟨some _,Op.buildSlice _ _ _,_,_,_,none⟩::_) _ _; refine Zak rfl 120 146 _ rfl A _ _ 2 32 Tryz.underlying120 infoPart (by omega) (by omega) rfl rfl HAS.out ?_)
     | (at_builtin; rw [HW2.out]; refine Zah rfl _ _ _ rfl _ _ _ _ rfl rfl hap ?_))
    go_roundw
    case rel=>exact ⟨j+1,_,by go_num,rfl,by omega,HN.out⟩
    case measure=>simp [intOf]; omega
   ·
    have hmin:min j k=k:=by omega
    have hmin2:min (j+1) k=k:=by omega
    have hm1:=HM1.out.met
    have ho1:=HM1.out.own
    rw [hmin] at hm1 ho1
    have HN:=hid (show ChSt w W1 mb pb k ps (j+1) (.slice a k cc) from ⟨HM1.out.ext,by rw [hmin2]; exact hm1,HM1.out.new,by rw [hmin2]; exact ho1⟩)
    clear hm1 ho1
    rw [hmin]
    have b1:((k:Int) == (k:Int))=true:=by simp
    clear b1
    go_wp2_with (first
     | (guard_target=wpList _ _ _ (⟨some _,Op.load _ _,_,_,_,none⟩::_) _ _; refine Zac rfl 146 _ rfl ⟨pb,j*2,none⟩ rfl A (by rw [HAS.out]; exact aggPart) HLA.out ?_)
     | (guard_target=wpList _ _ _ (⟨none,Op.store _ _ _,_,_,_,none⟩::_) _ _; have hb0:=hbs; clear hbs; refine Zaa rfl 146 _ _ rfl wr.heap.size rfl A _ rfl 146 (by rw [HAS.out]; exact aggPart) hb0 (by rw [HAS.out]; rfl) HA1.out ?_; rw [Zaj,HW1.out,HPG.out]))
    go_roundw
    case rel=>exact ⟨j+1,_,by go_num,rfl,by omega,HN.out⟩
    case measure=>simp [intOf]; omega
  ·
   obtain rfl:N=j:=by omega
   obtain ⟨g,c,rfl,hpa⟩:=HST.out.out HPS.out hk k1 HPA.out L0
   have HP:=hid hpa
   clear hpa
   go_wp2
   go_ret
   exact ⟨g,c,rfl,HP.out,HST.out.ext⟩
def DecPost (w:World) (k:Nat) (q:List (List Nat)) (e:Ending) (w':World):Prop:=∃ g c,e=.returned (.tuple #[.slice (some ⟨g,0,none⟩) k c,.nilIface])/\RowsAt w' g q/\Ext w w'
attribute [local irreducible] wpSQ
set_option maxRecDepth 100000 in
set_option maxHeartbeats 4000000 in
theorem decode_c {w:World} {cb k n L:Nat} (h:CodeAt w cb k n) (pb pc N:Nat) (ps:List (Nat × List Nat)) (hp:PartsAt w pb L ps) (hN:ps.length=N) (hk:k<=N) (k1:1<=k) (N8:N<=8) (L0:0 < L) (hL:L<=200) (hpn:∀ p∈ps,p.1 < n) (hn8:n<=8) (hnd:(ps.map (·.1)).Nodup) (hpl:∀ p∈ps,p.2.length=L/\∀ y∈p.2,y < 256) :
  Calls Tryz.prog 70 #[.pointer (some ⟨cb,0,none⟩),.slice (some ⟨pb,0,none⟩) N pc] w (DecPost w k (Cd.solve ((ps.take k).map fun p=>Cd.row k p.1) ((ps.take k).map fun p=>p.2)).2):=by
 have hzp:=zero_part
 obtain ⟨rg,rc,z3,_⟩:=h.at2
 have HC:=hid h
 have HPA:=hid hp
 have HPS:=hid hN
 have HND:=hid hnd
 have HPN:=hid hpn
 have HPL:=hid hpl
 have HZ3:=hid z3
 obtain ⟨y1,b0,off0,pc0,y2,_⟩:∃ y1:True,∃ b off c,w.cell? ⟨pb,1,none⟩=some (.slice (some ⟨b,off,none⟩) L c)/\True:=by
  obtain ⟨p,hp0⟩:∃ p,ps[0]?=some p:=⟨_,List.getElem?_eq_getElem (by omega)⟩
  obtain ⟨_,b,off,c,q,_⟩:=hp 0 p hp0
  exact ⟨trivial,b,off,c,by simpa using q,trivial⟩
 have HY2:=hid y2
 clear h hp hN hnd hpn hpl z3 y1 y2
 go_enter Tryz.func70,Tryz.ntmps70
 go_wp2
 go_loopw [11] (fun t wr=>∃ j:Nat,t=.int .i64 j/\j<=N/\Ext w wr) (fun t _=>N - (intOf t).toNat)
 case atStart=>exact ⟨0,rfl,by omega,Ext.refl _⟩
 case round =>
  obtain ⟨j,rfl,hj,hx⟩:=hrel
  have HX:=hid hx
  clear hx
  by_cases hjN:j < N
  ·
   obtain ⟨⟨pat,pdat⟩,hpj⟩:∃ p,ps[j]?=some p:=⟨_,List.getElem?_eq_getElem (by rw [HPS.out]; exact hjN)⟩
   obtain ⟨z1,b,off,pcap,z2,_⟩:=HPA.out j (pat,pdat) hpj
   replace z1:w.cell? ⟨pb,j*2,none⟩=some (.int .i64 pat):=z1
   have hpn':pat < n:=HPN.out (pat,pdat) (List.mem_of_getElem? hpj)
   obtain ⟨A,hA⟩:∃ A:Array Value,#[Value.int .i64 pat,.slice (some ⟨b,off,none⟩) L pcap]=A:=⟨_,rfl⟩
   obtain ⟨W1,hW1⟩:∃ W,wr.alloc (.cells A 146)=W:=⟨_,rfl⟩
   obtain ⟨pg,hpg⟩:∃ pg,wr.heap.size=pg:=⟨_,rfl⟩
   have X1:=hid (show Ext wr W1 from hW1▸(Ext.refl wr).alloc _)
   have P1:=hid (show W1.heap[pg]?=some (.cells A 146 (0,0)) from by rw [<- hW1,<- hpg]; exact Zad)
   have HLA:=hid (show ∀ i v,A.toList[i]?=some v->wr.cell? ((⟨pb,j*2,none⟩:Addr).add i)=some v from fun i v hv=>by
    rw [<- hA] at hv
    have ea:∀ q,(⟨pb,j*2,none⟩:Addr).add q=⟨pb,j*2+q,none⟩:=fun q=>by unfold Addr.add; split<;>simp_all
    rw [ea]
    rcases i with _ | _ | i
    ·
     simp at hv; subst hv; exact HX.out.cell z1
    ·
     simp at hv; subst hv; exact HX.out.cell z2
    ·
     simp at hv)
   have hbs:(wr.alloc (.cells #[.int .i64 0,.slice none 0 0] 146)).heap[wr.heap.size]?=some (.cells #[.int .i64 0,.slice none 0 0] 146 (0,0)):=Zad
   have HAS:=hid (show A.size=2 by rw [<- hA]; rfl)
   have HA1:=hid (show ∀ u∈A.toList,u.oneCell'=true by rw [<- hA]; intro u hu; simp at hu; rcases hu with rfl | rfl<;>rfl)
   have HW1:=hid hW1; have HPG:=hid hpg
   have XW:=hid (Ext.trans HX.out X1.out)
   have xd:Ext W1 W1.drew:=(Ext.refl W1).drew
   have g1:∀ z:SW Ext W1.drew,z.w.cell? ⟨pg,0,none⟩=some (.int .i64 pat):=fun z=>(Ext.trans xd z.ext).cell ((Zaf P1.out).trans (by rw [<- hA]; rfl))
   have g2:∀ z:SW Ext W1.drew,z.w.cell? ⟨pg,1,none⟩=some (.slice (some ⟨b,off,none⟩) L pcap):=fun z=>(Ext.trans xd z.ext).cell ((Zaf P1.out).trans (by rw [<- hA]; rfl))
   have g3:∀ z:SW Ext W1.drew,z.w.cell? ⟨cb,2,none⟩=some (.slice (some ⟨rg,0,none⟩) n rc):=fun z=>(Ext.trans xd z.ext).cell (XW.out.cell HZ3.out)
   have g4:∀ z:SW Ext W1.drew,z.w.cell? ⟨pb,1,none⟩=some (.slice (some ⟨b0,off0,none⟩) L pc0):=fun z=>(Ext.trans xd z.ext).cell (XW.out.cell HY2.out)
   have HXD:=hid xd
   have j0:(0:Int)<=(j:Int):=by omega
   have j1:(j:Int) < (N:Int):=by omega
   have n0:¬(pat:Int) < 0:=by omega
   have n1:¬(pat:Int) ≥ (n:Int):=by omega
   have NN:(0:Int) < (N:Int):=by omega
   have N0:0 < N:=by omega
   have d1:decide (n<=pat)=false:=decide_eq_false (by omega)
   have d0:decide ((pat:Int) < 0)=false:=decide_eq_false n0
   clear hpj z1 z2 hA hW1 hpg xd
   go_wp2_with (first
    | (guard_target=wpList _ _ _ (⟨some _,Op.load _ _,_,_,_,none⟩::_) _ _; refine Zac rfl 146 _ rfl ⟨pb,j*2,none⟩ rfl A (by rw [HAS.out]; exact aggPart) HLA.out ?_)
    | (guard_target=wpList _ _ _ (⟨none,Op.store _ _ _,_,_,_,none⟩::_) _ _; have hb0:=hbs; clear hbs; refine Zaa rfl 146 _ _ rfl wr.heap.size rfl A _ rfl 146 (by rw [HAS.out]; exact aggPart) hb0 (by rw [HAS.out]; rfl) HA1.out ?_; rw [Zaj,HW1.out,HPG.out]))
   refine Zal (S:=Ext) (.fin [0,1,2,3,4,5,6,7,8,9,10,11,12,13,14,15,16,17,18,19,20,21,22,23]) (by kernel_rfl) (by kernel_rfl) (fun _ _ d _ _ h=>by cases d<;>exact h) ?_
   rw [wpS]
   simp only [opsAt,opA,opB,opC,opD,opE,opF,opG]
   iterate 24 ((refine Zab (fun K hK=>?_); go_simp; refine hK _ ?_; clear hK K))
   refine Zae ?_
   intro V hV
   have HV:=hid (Ext.trans XW.out (Ext.trans HXD.out hV))
   clear hV g1 g2 g3 g4
   go_wp2
   go_roundw
   case rel=>exact ⟨j+1,by go_num,by omega,HV.out⟩
   case measure=>simp [intOf]; omega
  ·
   obtain rfl:N=j:=by omega
   have HCR:=hid (HC.out.ext HX.out)
   have HPR:=hid (show PartsAt wr pb L ps from fun i p hi=>by
    obtain ⟨q1,b,off,c,q2,q3⟩:=HPA.out i p hi
    exact ⟨HX.out.cell q1,b,off,c,HX.out.cell q2,q3.onlyG HX.out (fun x=>x)⟩)
   go_wp2_with fail
   refine (chosen_c HCR.out pb pc N ps HPR.out HPS.out hk k1 N8 L0 (fun p hp=>by have:=HPN.out p hp; omega) HND.out).mono ?_
   rintro e w2 ⟨g,c,rfl,hpa,x2⟩
   have HP2:=hid hpa
   have HX2:=hid (Ext.trans HX.out x2)
   have HC2:=hid (HCR.out.ext x2)
   have c0:w2.cell? ⟨cb,0,none⟩=some (.int .i64 k):=HC2.out.at0
   have kk:¬(k:Int) < (k:Int):=by omega
   clear hpa x2
   go_wp2_with fail
   refine (solve_c HC2.out g c (ps.take k) HP2.out (by rw [List.length_take,HPS.out]; omega) (fun p hp=>HPN.out p (List.mem_of_mem_take hp)) (fun p hp=>HPL.out p (List.mem_of_mem_take hp)) k1 (by omega) L0 hL).mono ?_
   rintro e w3 ⟨g3,c3,rfl,hr3,x3⟩
   have HR3:=hid hr3
   have HX3:=hid (Ext.trans HX2.out x3)
   clear hr3 x3 c0
   go_wp2
   go_ret2
   exact ⟨g3,c3,rfl,HR3.out,HX3.out⟩
end Go.Proofs.YtgjnnbomnoafcaaGreat
namespace Go.Proofs.YtgjnnbomnoafcaaGreat
set_option linter.unusedVariables false
open Go Go.RowKit Gf
def LensAt (w:World) (g n L:Nat):Prop:=∀ i,i < n->∃ b c,w.cell? ⟨g,i,none⟩=some (.slice (some ⟨b,0,none⟩) L c)
theorem LensAt.ext {w w':World} {g n L:Nat} (h:LensAt w g n L) (e:Ext w w'):LensAt w' g n L:=fun i hi=>by
 obtain ⟨b,c,q⟩:=h i hi
 exact ⟨b,c,e.cell q⟩
theorem encfn_c {w:World} {bx g n gc L:Nat} (hb:w.cell? ⟨bx,0,none⟩=some (.slice (some ⟨g,0,none⟩) n gc)) (hn:0 < n) (hl:LensAt w g n L) (a:Option Addr) (c:Nat) :
  Calls Tryz.prog 89 #[.slice a L c,.pointer (some ⟨bx,0,none⟩)] w fun e w'=>e=.returned (.bool false)/\Ext w w':=by
 obtain ⟨b0,c0,h0⟩:=hl 0 hn
 have hn0:(0:Int) < (n:Int):=by omega
 clear hl
 go_enter Tryz.func89,Tryz.ntmps89
 go_wp2
 go_ret
 refine ⟨?_,Ext.refl _⟩
 first | rfl | simp
set_option maxRecDepth 100000 in
theorem indexfn_c {w:World} {bx g n gc L:Nat} (hb:w.cell? ⟨bx,0,none⟩=some (.slice (some ⟨g,0,none⟩) n gc)) (hn:0 < n) (hn8:n<=8) (hl:LensAt w g n L) :
  Calls Tryz.prog 101 #[.slice (some ⟨g,0,none⟩) n gc,.func (.func 89) #[] #[.pointer (some ⟨bx,0,none⟩)]] w fun e w'=>e=.returned (.int .i64 (-1))/\Ext w w':=by
 have HB:=hid hb
 have HL:=hid hl
 clear hb hl
 go_enter Tryz.func101,Tryz.ntmps101
 go_wp2
 go_loopw [8] (fun t wr=>∃ j:Nat,t=.int .i64 j/\j<=n/\Ext w wr) (fun t _=>n - (intOf t).toNat)
 case atStart=>exact ⟨0,rfl,by omega,Ext.refl _⟩
 case round =>
  obtain ⟨j,rfl,hj,hx⟩:=hrel
  have HX:=hid hx
  clear hx
  by_cases hjn:j < n
  ·
   obtain ⟨b,c,z⟩:=(HL.out.ext HX.out) j hjn
   have j0:(0:Int)<=(j:Int):=by omega
   have j1:(j:Int) < (n:Int):=by omega
   go_wp2_with fail
   refine (encfn_c (HX.out.cell HB.out) hn (HL.out.ext HX.out) (some ⟨b,0,none⟩) c).mono ?_
   rintro e w2 ⟨rfl,x2⟩
   have HX2:=hid (Ext.trans HX.out x2)
   clear x2 z
   go_wp2
   go_roundw
   case rel=>exact ⟨j+1,by go_num,by omega,HX2.out⟩
   case measure=>simp [intOf]; omega
  ·
   obtain rfl:n=j:=by omega
   go_wp2
   go_ret
   exact ⟨rfl,HX.out⟩
theorem containsfn_c {w:World} {bx g n gc L:Nat} (hb:w.cell? ⟨bx,0,none⟩=some (.slice (some ⟨g,0,none⟩) n gc)) (hn:0 < n) (hn8:n<=8) (hl:LensAt w g n L) :
  Calls Tryz.prog 88 #[.slice (some ⟨g,0,none⟩) n gc,.func (.func 89) #[] #[.pointer (some ⟨bx,0,none⟩)]] w fun e w'=>e=.returned (.bool false)/\Ext w w':=by
 go_enter Tryz.func88,Tryz.ntmps88
 go_wp2_with fail
 refine (indexfn_c hb hn hn8 hl).mono ?_
 rintro e w2 ⟨rfl,x2⟩
 have HX2:=hid x2
 clear x2
 go_wp2
 go_ret
 exact ⟨rfl,HX2.out⟩
theorem OwnB.only_vs {w w':World} {B L j:Nat} {v:Value} {es:List (Array Value)} {l:List Nat} {b:Nat} (h:OwnB w b L l) (hv:OwnVs w B 38 1 v es) (e:Only (fun x=>v.ownBlock=some x) w w'):OwnB w' b L l:=by
 refine h.only e ?_
 unfold OwnB at h
 rcases h.2 with ⟨q,_⟩ | ⟨g,c,cur,q1,_,q3,_⟩
 ·
  cases q
 ·
  cases q1
  exact hv.not_at (by decide) q3
structure EncSt (w0 wr:World) (L k:Nat) (ls:List (List Nat)) (j:Nat) (v:Value):Prop where
 ext:Ext w0 wr
 ex:∃ es,OwnVs wr w0.heap.size 38 1 v es/\es.length=j/\∀ i,i < j->∃ b,es[i]?=some (rowE b L)/\OwnB wr b L (Cd.mix (Cd.row k i) ls)
theorem EncSt.more {w0 wr w':World} {L k j:Nat} {ls:List (List Nat)} {v:Value} (h:EncSt w0 wr L k ls j v) (e:Ext wr w'):EncSt w0 w' L k ls j v:=by
 obtain ⟨es,h2,h3,h4⟩:=h.ex
 refine ⟨Ext.trans h.ext e,es,h2.ext e,h3,fun i hi=>?_⟩
 obtain ⟨b,e1,e2⟩:=h4 i hi
 exact ⟨b,e1,e2.ext e⟩
theorem EncSt.add {w0 W:World} {L k j b:Nat} {ls:List (List Nat)} {a:Option Addr} {c:Nat} (h:EncSt w0 W L k ls j (.slice a j c)) (hj:j < 1000) (hb:OwnB W b L (Cd.mix (Cd.row k j) ls)) :
  ∃ a' c' w',(Builtin.append_ #[22,22] 22 #[.slice a j c,.slice (some ⟨W.heap.size,0,none⟩) 1 1]).run Tryz.prog (W.alloc (.cells (rowE b L) 38))=.ok (.slice a' (j+1) c') w'/\EncSt w0 w' L k ls (j+1) (.slice a' (j+1) c'):=by
 obtain ⟨es,h2,h3,h4⟩:=h.ex
 obtain ⟨v',w',e1,e2,e3,e4⟩:=h2.add (tsl:=22) Tryz.underlying22 infoRow rfl (by omega) (rowE b L) rfl (by intro u hu; simp [rowE] at hu; subst hu; rfl) (by omega) (by omega) h.ext.size
 obtain ⟨a',c',ev',_⟩:=e2.slice
 have hlen:(es++[rowE b L]).length=j+1:=by simp [h3]
 rw [hlen] at ev'
 subst ev'
 refine ⟨a',c',w',e1,e4 w0 (Nat.le_refl _) h.ext,_,e2,hlen,fun i hi=>?_⟩
 rcases Nat.lt_or_ge i j with q | q
 ·
  obtain ⟨b',x1,x2⟩:=h4 i q
  exact ⟨b',by rw [List.getElem?_append_left (by omega)]; exact x1,x2.only_vs (j:=0) h2 e3⟩
 ·
  obtain rfl:i=j:=by omega
  exact ⟨b,by rw [List.getElem?_append_right (by omega),h3]; simp,hb.only_vs (j:=0) h2 e3⟩
theorem EncSt.out {w0 wr:World} {L k n:Nat} {ls:List (List Nat)} {v:Value} (h:EncSt w0 wr L k ls n v) (hn:0 < n) (hL:L<=200) (hlen:∀ i,(Cd.mix (Cd.row k i) ls).length=L) (hb:∀ i,∀ x∈Cd.mix (Cd.row k i) ls,x < 256) :
  ∃ g c,v=.slice (some ⟨g,0,none⟩) n c/\RowsAt wr g ((List.range n).map fun i=>Cd.mix (Cd.row k i) ls):=by
 obtain ⟨es,h2,h3,h4⟩:=h.ex
 obtain ⟨a,c,e,q⟩:=h2.slice
 rcases q with ⟨q,_⟩ | ⟨g,rfl,_,_,_,hv⟩
 ·
  rw [q] at h3; simp at h3; omega
 ·
  rw [h3] at e
  refine ⟨g,c,e,fun i l hi=>?_⟩
  have hin:i < n:=by
   rcases Nat.lt_or_ge i n with q | q
   ·
    exact q
   ·
    rw [List.getElem?_eq_none (by simpa using q)] at hi; cases hi
  have hl:l=Cd.mix (Cd.row k i) ls:=by
   simp [hin] at hi; exact hi.symm
  subst hl
  obtain ⟨b,e1,e2⟩:=h4 i hin
  refine ⟨b,L,?_,e2.bytes (hb i) (by rw [hlen]; omega)⟩
  have:=hv i (rowE b L) e1 0 _ rfl
  rw [hlen]
  simpa using this
def EncPost (w:World) (n k:Nat) (ls:List (List Nat)) (e:Ending) (w':World):Prop:=∃ g c,e=.returned (.tuple #[.slice (some ⟨g,0,none⟩) n c,.nilIface])/\RowsAt w' g ((List.range n).map fun i=>Cd.mix (Cd.row k i) ls)/\Ext w w'
attribute [local irreducible] wpSQ
set_option maxRecDepth 100000 in
set_option maxHeartbeats 4000000 in
theorem encode_c {w:World} {cb k n L:Nat} (h:CodeAt w cb k n) (g gc:Nat) (ls:List (List Nat)) (hl:RowsAt w g ls) (hlk:ls.length=k) (k1:1<=k) (k8:k<=8) (n1:1<=n) (hn8:n<=8) (L0:0 < L) (hL:L<=200)
  (hlen:∀ j,j < ls.length->(Cd.B ls j).length=L) (hls:∀ j,∀ x∈Cd.B ls j,x < 256) :
  Calls Tryz.prog 75 #[.pointer (some ⟨cb,0,none⟩),.slice (some ⟨g,0,none⟩) k gc] w (EncPost w n k ls):=by
 obtain ⟨rg,rc,z3,hrg⟩:=h.at2
 have z1:=h.at0
 have HC:=hid h
 have HL:=hid hl
 have HLK:=hid hlk
 have HLEN:=hid hlen
 have HLS:=hid hls
 have HRG:=hid hrg
 have HZ3:=hid z3
 have HML:=hid (show ∀ i,(Cd.mix (Cd.row k i) ls).length=L from fun i=>by unfold Cd.mix; rw [Cd.mixK_len,hlen 0 (by omega)])
 have HMB:=hid (show ∀ i,∀ x∈Cd.mix (Cd.row k i) ls,x < 256 from fun i=>by unfold Cd.mix; exact Cd.mixK_byte _ ls _ (Cd.row_byte k i) hls)
 have HLA:=hid (show LensAt w g k L from fun i hi=>by
  obtain ⟨b,c,q1,_⟩:=hl.row hlen (j:=i) (by omega)
  exact ⟨b,c,q1⟩)
 have HZ1:=hid z1
 clear h hl hlk hlen hls hrg z3 z1
 obtain ⟨W1,hW1⟩:∃ W,w.alloc (.cells #[.slice (some ⟨g,0,none⟩) k gc] 22)=W:=⟨_,rfl⟩
 obtain ⟨bx,hbx⟩:∃ b,w.heap.size=b:=⟨_,rfl⟩
 have X1:=hid (show Ext w W1 from hW1▸(Ext.refl w).alloc _)
 have P1:=hid (show W1.heap[bx]?=some (.cells #[.slice (some ⟨g,0,none⟩) k gc] 22 (0,0)) from by rw [<- hW1,<- hbx]; exact Zad)
 have hmf:∀ (fn:Fn) (first cap:Array Value) (w:World),(Instr.makeFunc fn first cap).run Tryz.prog w=.ok (.func fn first cap) w:=fun _ _ _ _=>rfl
 go_enter Tryz.func75,Tryz.ntmps75
 go_wp2_with fail
 have g1:∀ z:SW Ext W1.drew,z.w.cell? ⟨bx,0,none⟩=some (.slice (some ⟨g,0,none⟩) k gc):=fun z=>(Ext.trans ((Ext.refl W1).drew) z.ext).cell (Zaf P1.out)
 have g2:∀ z:SW Ext W1.drew,z.w.cell? ⟨cb,0,none⟩=some (.int .i64 k):=fun z=>(Ext.trans ((Ext.refl W1).drew) z.ext).cell (X1.out.cell HZ1.out)
 have g3:∀ z:SW Ext W1.drew,LensAt z.w g k L:=fun z=>HLA.out.ext (Ext.trans X1.out (Ext.trans ((Ext.refl W1).drew) z.ext))
 have G3:=hid g3
 clear g3
 refine Zal (S:=Ext) (.fin [0,1,2,3,4,5,6,7,8,9,10,11]) (by kernel_rfl) (by kernel_rfl) (fun _ _ d _ _ h=>by cases d<;>exact h) ?_
 rw [wpS]
 simp only [opsAt,opA,opB,opC,opD,opE,opF,opG]
 iterate 10 ((refine Zab (fun K hK=>?_); go_simp; refine hK _ ?_; clear hK K))
 (refine Zab (fun K hK=>?_); go_simp; (apply Exists.intro; refine ⟨fun x=>?_,hK _ ?_⟩; (exact containsfn_c (g1 x) (by omega) k8 (G3.out x)); clear hK K))
 (refine Zab (fun K hK=>?_); go_simp; refine hK _ ?_; clear hK K)
 refine Zae ?_
 intro V hV
 have HV:=hid (Ext.trans (Ext.refl W1).drew hV)
 clear hV g1 g2 G3
 have z3:V.cell? ⟨cb,2,none⟩=some (.slice (some ⟨rg,0,none⟩) n rc):=(Ext.trans X1.out HV.out).cell HZ3.out
 have HWV:=hid (Ext.trans X1.out HV.out)
 have HE0:=hid (show EncSt V V L k ls 0 (.slice none 0 0) from ⟨Ext.refl _,[],OwnVs.nil _ _ _ _,rfl,fun i hi=>by omega⟩)
 have HXV:=hid (show V.cell? ⟨bx,0,none⟩=some (.slice (some ⟨g,0,none⟩) k gc) from HV.out.cell (Zaf P1.out))
 go_wp2
 clear z3
 go_loopw [28,6] (fun t v wr=>∃ (j:Nat) (a:Option Addr) (c:Nat),t=.int .i64 j/\v=.slice a j c/\j<=n/\EncSt V wr L k ls j v) (fun t _ _=>n - (intOf t).toNat)
 case atStart=>exact ⟨0,none,0,rfl,rfl,by omega,HE0.out⟩
 case round =>
  clear HE0
  obtain ⟨j,a,c,rfl,rfl,hj,hst⟩:=hrel
  have HST:=hid hst
  have HX:=hid (Ext.trans HWV.out hst.ext)
  clear hst
  by_cases hjn:j < n
  ·
   have j0:(0:Int)<=(j:Int):=by omega
   have j1:(j:Int) < (n:Int):=by omega
   obtain ⟨rb,rcap,q1,q2⟩:=HRG.out j (Cd.row k j) (by simp [hjn])
   rw [Cd.row_len] at q1
   have z4:=HX.out.cell q1
   have z5:=HST.out.ext.cell HXV.out
   have HQ2:=hid (q2.at0 HX.out (fun x=>x))
   clear q1 q2
   go_wp2_with fail
   have hm:=mix_c (HC.out.ext HX.out) rb rcap (Cd.row k j) HQ2.out g gc L ls (HL.out.ext HX.out) (by rw [Cd.row_len,HLK.out]) (by rw [HLK.out]; omega) (by rw [HLK.out]; omega) L0 hL HLEN.out HLS.out
   rw [Cd.row_len,HLK.out] at hm
   refine hm.mono ?_
   clear hm
   rintro e w2 ⟨b,he,hb,ho,x2⟩
   rw [HML.out] at he ho
   subst he
   obtain ⟨a',c',w3,hap,hst3⟩:=(HST.out.more x2).add (b:=b) (by omega) ho
   have HS3:=hid hst3
   clear hst3 ho x2 z4 z5 hb
   go_wp2_with (first
    | (guard_target=wpList _ _ _ (⟨some _,Op.buildSlice _ _ _,_,_,_,none⟩::_) _ _; refine Zak rfl 22 38 _ rfl (rowE b L) _ _ 1 24 Tryz.underlying22 infoRow (by omega) (by omega) rfl rfl rfl ?_)
    | (at_builtin; refine Zah rfl _ _ _ rfl _ _ _ _ rfl rfl hap ?_))
   go_roundw
   case rel=>exact ⟨j+1,a',c',by go_num,rfl,by omega,HS3.out⟩
   case measure=>simp [intOf]; omega
  ·
   obtain rfl:n=j:=by omega
   obtain ⟨g',c',ev,hr⟩:=HST.out.out (by omega) hL HML.out HMB.out
   cases ev
   have HR:=hid hr
   clear hr
   go_wp2
   go_ret2
   exact ⟨g',_,rfl,HR.out,HX.out⟩
end Go.Proofs.YtgjnnbomnoafcaaGreat
