/- Texts of one proof, joined: CodeG. -/
import Derived.Test.YtgjnnbomnoafcaaGreatDoorVW
set_option linter.unusedVariables false
set_option linter.unusedSimpArgs false
namespace Go.Proofs.YtgjnnbomnoafcaaGreatDoor
set_option linter.unusedVariables false
open Go Go.RowKit Gf
attribute [local irreducible] wpSQ
set_option maxRecDepth 100000 in
set_option maxHeartbeats 8000000 in
theorem solve_c {w:World} {cb k n L:Nat} (h:CodeAt w cb k n) (pb pc:Nat) (ps:List (Nat × List Nat)) (hp:PartsAt w pb L ps) (hps:ps.length=k) (hpn:∀ p∈ps,p.1 < n) (hpl:∀ p∈ps,p.2.length=L/\∀ y∈p.2,y < 256) (k1:1<=k) (k8:k<=8) (L0:0 < L) (hL:L<=200) :
  Calls Tryz.prog 196 #[.pointer (some ⟨cb,0,none⟩),.slice (some ⟨pb,0,none⟩) k pc] w (SolvePost w k (Cd.solve (ps.map fun p=>Cd.row k p.1) (ps.map fun p=>p.2)).2):=by
 obtain ⟨fb,hcode,hfield⟩:=h.at1
 have HOUT:=hid (fun (wr:World) (v5 v6:Value) bm xm bo xo (hb:Bld w wr cb fb k L ps k v5 v6 bm xm bo xo)=>hb.out k1 hps hpl hcode hfield)
 have HPS:=hid hps
 have HPL:=hid hpl
 obtain ⟨m0,hm0⟩:∃ m0,(ps.map fun p=>Cd.row k p.1)=m0:=⟨_,rfl⟩
 obtain ⟨o0,ho0⟩:∃ o0,(ps.map fun p=>p.2)=o0:=⟨_,rfl⟩
 rw [hm0,ho0] at HOUT ⊢
 have HMK:=hid (show m0.length=k by rw [<- hm0]; simp [hps])
 have HC:=hid h
 have HPA:=hid hp
 clear hm0 ho0 h hp hps hpl hcode hfield
 go_enter Tryz.func196,Tryz.ntmps196
 go_wp2
 go_loopw [15,5,6] (fun t s5 s6 wr=>∃ (j:Nat) (v5 v6:Value),t=.int .i64 j/\v5=s5/\v6=s6/\j<=k/\∃ bm xm bo xo,Bld w wr cb fb k L ps j v5 v6 bm xm bo xo) (fun t _ _ _=>k - (intOf t).toNat)
 case atStart=>exact ⟨0,_,_,rfl,rfl,rfl,by omega,id,id,id,id,⟨Ext.refl _,OwnVs.nil _ _ _ _,OwnVs.nil _ _ _ _,fun i p h=>absurd h (Nat.not_lt_zero _),fun i p h=>absurd h (Nat.not_lt_zero _),fun i h=>absurd h (Nat.not_lt_zero _),fun a b h=>absurd h (Nat.not_lt_zero _),fun a b h=>absurd h (Nat.not_lt_zero _),fun a b h=>absurd h (Nat.not_lt_zero _),fun b h=>by cases h⟩⟩
 case round =>
  obtain ⟨j,v5,v6,rfl,e5,e6,hj,bm,xm,bo,xo,hb⟩:=hrel
  subst e5
  subst e6
  by_cases hjk:j < k
  ·
   have HBD:=hid hb
   obtain ⟨⟨pat,pdat⟩,hp⟩:∃ p,ps[j]?=some p:=⟨_,List.getElem?_eq_getElem (by rw [HPS.out]; exact hjk)⟩
   obtain ⟨z1,b,off,pcap,z2,hby⟩:=HPA.out j (pat,pdat) hp
   replace z1:w.cell? ⟨pb,j*2,none⟩=some (.int .i64 pat):=z1
   replace hby:BytesAt w (some ⟨b,off,none⟩) L pdat:=hby
   have hpm:(pat,pdat)∈ps:=List.mem_of_getElem? hp
   have hat:pat < n:=hpn (pat,pdat) hpm
   have hpd:pdat.length=L/\∀ y∈pdat,y < 256:=HPL.out (pat,pdat) hpm
   have HPD:=hid hpd
   clear hpd
   have HX:=hid hb.ext
   have a1:=HX.out.cell z1
   have a2:=HX.out.cell z2
   obtain ⟨rg,rc,z3,hrows⟩:=HC.out.at2
   have hrow:=hrows pat (Cd.row k pat) (by simp [hat])
   obtain ⟨rb,rcap,z4,hrb⟩:=hrow
   rw [Cd.row_len] at z4 hrb
   have HP:=hid hp; have HBY:=hid hby; have HRB:=hid hrb
   have hzp:=zero_part
   have hrgl:rg < w.heap.size:=World.block_lt_of_cell? w _ z4
   have hcbl:cb < w.heap.size:=World.block_lt_of_cell? w _ z3
   have j0:(0:Int)<=(j:Int):=by omega
   have j1:(j:Int) < (k:Int):=by omega
   have n0:(0:Int)<=(pat:Int):=by omega
   have n1:(pat:Int) < (n:Int):=by omega
   obtain ⟨A,hA⟩:∃ A:Array Value,#[.int .i64 pat,.slice (some ⟨b,off,none⟩) L pcap]=A:=⟨_,rfl⟩
   obtain ⟨W0,hW0⟩:∃ W,wr.alloc (.cells A 229)=W:=⟨_,rfl⟩
   have X0:=hid (show Ext wr W0 from hW0▸(Ext.refl wr).alloc _)
   have P0:=hid (show W0.heap[wr.heap.size]?=some (.cells A 229 (0,0)) from hW0▸Zad)
   have HAA:=hid hA
   have HW0:=hid hW0
   have hla:∀ i v,A.toList[i]?=some v->wr.cell? ((⟨pb,j*2,none⟩:Addr).add i)=some v:=fun i v hv=>by
    rw [<- hA] at hv
    have ea:∀ q,(⟨pb,j*2,none⟩:Addr).add q=⟨pb,j*2+q,none⟩:=fun q=>by unfold Addr.add; split<;>simp_all
    rw [ea]
    rcases i with _ | _ | i
    ·
     simp at hv; subst hv; exact a1
    ·
     simp at hv; subst hv; exact a2
    ·
     simp at hv
   have HLA:=hid hla
   have hbs:(wr.alloc (.cells #[.int .i64 0,.slice none 0 0] 229)).heap[wr.heap.size]?=some (.cells #[.int .i64 0,.slice none 0 0] 229 (0,0)):=Zad
   have HAS:=hid (show A.size=2 by rw [<- hA]; rfl)
   have HA1:=hid (show ∀ u∈A.toList,u.oneCell'=true by rw [<- hA]; intro u hu; simp at hu; rcases hu with rfl | rfl<;>rfl)
   clear hb hp hby hrb hA hW0 hla a1 a2 z1 z2 hrows
   go_wp2_with (first
    | (guard_target=wpList _ _ _ (⟨some _,Op.load _ _,_,_,_,none⟩::_) _ _; refine Zae rfl 229 _ rfl ⟨pb,j*2,none⟩ rfl A (by rw [HAS.out]; exact aggPart) HLA.out ?_)
    | (guard_target=wpList _ _ _ (⟨none,Op.store _ _ _,_,_,_,none⟩::_) _ _; have hb0:=hbs; clear hbs; refine Zab rfl 229 _ _ rfl wr.heap.size rfl A _ rfl 229 (by rw [HAS.out]; exact aggPart) hb0 (by rw [HAS.out]; rfl) HA1.out ?_; rw [Zao,HW0.out]))
   obtain ⟨pg,hpg⟩:∃ pg,wr.heap.size=pg:=⟨_,rfl⟩
   rw [hpg] at P0
   have hx5:∀ q,v5.ownBlock=some q->w.heap.size<=q/\q < pg:=fun q hq=>by have:=HBD.out.o5.lt q hq; omega
   have hx6:∀ q,v6.ownBlock=some q->w.heap.size<=q/\q < pg:=fun q hq=>by have:=HBD.out.o6.lt q hq; omega
   have XW:=hid (Ext.trans HX.out X0.out)
   have xd:Ext W0 W0.drew:=(Ext.refl W0).drew
   have hF:∀ q,q < w.heap.size\/pg<=q->¬(v5.ownBlock=some q\/v6.ownBlock=some q):=fun q hq h=>by
    rcases h with h | h
    ·
     have:=hx5 q h; omega
    ·
     have:=hx6 q h; omega
   have g1:∀ z:SW (Only fun q=>v5.ownBlock=some q\/v6.ownBlock=some q) W0.drew,z.w.cell? ⟨cb,2,none⟩=some (.slice (some ⟨rg,0,none⟩) n rc):=fun z=>z.ext.cell (xd.cell (XW.out.cell z3)) (hF cb (.inl hcbl))
   have g2:∀ z:SW (Only fun q=>v5.ownBlock=some q\/v6.ownBlock=some q) W0.drew,z.w.cell? ⟨rg,pat,none⟩=some (.slice (some ⟨rb,0,none⟩) k rcap):=fun z=>z.ext.cell (xd.cell (XW.out.cell z4)) (hF rg (.inl hrgl))
   have g3:∀ z:SW (Only fun q=>v5.ownBlock=some q\/v6.ownBlock=some q) W0.drew,z.w.cell? ⟨pg,0,none⟩=some (.int .i64 pat):=fun z=>z.ext.cell (xd.cell ((Zaf P0.out).trans (by rw [<- HAA.out]; rfl))) (hF pg (.inr (Nat.le_refl _)))
   have g4:∀ z:SW (Only fun q=>v5.ownBlock=some q\/v6.ownBlock=some q) W0.drew,z.w.cell? ⟨pg,1,none⟩=some (.slice (some ⟨b,off,none⟩) L pcap):=fun z=>z.ext.cell (xd.cell ((Zaf P0.out).trans (by rw [<- HAA.out]; rfl))) (hF pg (.inr (Nat.le_refl _)))
   have HXD:=hid xd
   have HFF:=hid hF
   have HPG:=hid hpg
   clear xd z3 z4
   rw [hpg]
   clear hpg
   go_wp2_with fail
   refine Zau (E:=Ext) (S:=Only fun q=>v5.ownBlock=some q\/v6.ownBlock=some q) (.one [0,1,2,3,4,5,6,7,8,12,13,14] 9 (.one [] 10 (.one [] 11 (.one [] 15 (.one [] 16 (.one [] 17 (.fin [18,19]))))))) (by kernel_rfl) (by kernel_rfl) (fun _ _ d _ _ h=>by cases d<;>exact h) ?_
   rw [wpS]
   simp only [opsAt,opA,opB,opC,opD,opE,opF,opG]
   iterate 12 ((refine Zaa (fun K hK=>?_); go_simp; refine hK _ ?_; clear hK K))
   refine Zac ?_
   intro U0 hU0
   have XU0:=hid (Ext.trans HX.out (Ext.trans X0.out (Ext.trans HXD.out hU0)))
   have B0:=hid (Ext.trans X0.out (Ext.trans HXD.out hU0))
   clear g1 g2 g3 g4 hU0
   refine Zat fun K hK=>?_
   go_wp2_with fail
   have hcl:=clone_c rb 0 rcap k (Cd.row k pat) U0 (HRB.out.only0 XU0.out (fun x=>x))
   refine hcl.mono ?_
   rintro e w1 ⟨s1,rfl,hs1,ho1,x1⟩
   have HO1:=hid ho1; have HS1:=hid hs1; have HX1:=hid x1
   clear ho1 hs1 hcl
   go_wp2
   refine hK _ _ (Ext.only x1) ?_
   clear hK K x1
   rw [wpS]
   simp only [opsAt,opA,opB,opC,opD,opE,opF,opG]
   refine Zac ?_
   intro U1 hU1
   have XU1:=hid hU1
   clear hU1
   refine Zat fun K hK=>?_
   go_wp2_with (guard_target=wpList _ _ _ (⟨some _,Op.buildSlice _ _ _,_,_,_,none⟩::_) _ _; refine Zag rfl 159 38 _ rfl #[Value.slice (some ⟨s1.blk,0,none⟩) k s1.cap] _ _ 1 24 Tryz.underlying159 infoRow (by omega) (by omega) rfl rfl rfl ?_)
   refine hK _ _ (Ext.only ((Ext.refl _).alloc _)) ?_
   clear hK K
   rw [wpS]
   simp only [opsAt,opA,opB,opC,opD,opE,opF,opG]
   refine Zac ?_
   intro U2 hU2
   have XW2:=hid (Ext.trans B0.out (Ext.trans HX1.out (Ext.trans XU1.out (Ext.trans ((Ext.refl U1).alloc _) hU2))))
   obtain ⟨v5',U3,hap5,ho5,hn5,_,hd5⟩:=(HBD.out.o5.ext XW2.out).push (tsl:=159) Tryz.underlying159 infoRow rfl (by omega) #[Value.slice (some ⟨s1.blk,0,none⟩) k s1.cap] rfl (by intro u hu; simp at hu; subst hu; rfl) ⟨U1.heap.size,0,none⟩ (Zaj (hU2.at Zad)) 1 (by simp; omega) (by omega) (by have:=(Ext.trans HX.out XW2.out).size; omega)
   have R1:=hid (Zam HO1.out (Ext.trans XU1.out (Ext.trans ((Ext.refl U1).alloc _) hU2)) (fun x=>x))
   have HO5:=hid ho5; have HN5:=hid hn5; have HD5:=hid hd5
   clear hU2 ho5 hn5 hd5
   refine Zat fun K hK=>?_
   go_wp2_with (at_builtin; refine wpList_append_run rfl _ _ _ rfl _ _ _ _ rfl rfl hap5 ?_)
   refine hK _ _ (HN5.out.mono (fun _ _ h=>.inl h)) ?_
   clear hK K hap5
   rw [wpS]
   simp only [opsAt,opA,opB,opC,opD,opE,opF,opG]
   refine Zac ?_
   intro U4 hU4
   have XU4:=hid hU4
   clear hU4
   refine Zat fun K hK=>?_
   go_wp2_with fail
   have hby2:=((HBY.out.onlyG (Ext.trans HX.out XW2.out) (fun x=>x)).onlyG HN5.out (fun q=>HFF.out b (.inl (HBY.out.bltG L0)) (.inl q))).onlyG XU4.out (fun x=>x)
   refine (clone_c b off pcap L pdat U4 hby2).mono ?_
   rintro e w5 ⟨s2,rfl,hs2,ho2,x5⟩
   have HO2:=hid ho2; have HS2:=hid hs2; have HX5:=hid x5
   clear ho2 hs2 hby2
   go_wp2
   refine hK _ _ (Ext.only x5) ?_
   clear hK K x5
   rw [wpS]
   simp only [opsAt,opA,opB,opC,opD,opE,opF,opG]
   refine Zac ?_
   intro U5 hU5
   have XU5:=hid hU5
   clear hU5
   refine Zat fun K hK=>?_
   go_wp2_with (guard_target=wpList _ _ _ (⟨some _,Op.buildSlice _ _ _,_,_,_,none⟩::_) _ _; refine Zag rfl 159 38 _ rfl #[Value.slice (some ⟨s2.blk,0,none⟩) L s2.cap] _ _ 1 24 Tryz.underlying159 infoRow (by omega) (by omega) rfl rfl rfl ?_)
   refine hK _ _ (Ext.only ((Ext.refl _).alloc _)) ?_
   clear hK K
   rw [wpS]
   simp only [opsAt,opA,opB,opC,opD,opE,opF,opG]
   refine Zac ?_
   intro U6 hU6
   have XE2:=hid (Ext.trans XU4.out (Ext.trans HX5.out (Ext.trans XU5.out (Ext.trans ((Ext.refl U5).alloc _) hU6))))
   have R2:=hid (Zam HO2.out (Ext.trans XU5.out (Ext.trans ((Ext.refl U5).alloc _) hU6)) (fun x=>x))
   have LS2:=hid (show U3.heap.size<=s2.blk from Nat.le_trans XU4.out.size HS2.out)
   have LS1:=hid (show wr.heap.size<=s1.blk from Nat.le_trans B0.out.size HS1.out)
   obtain ⟨v6',U7,hap6,ho6,hn6,_,hd6⟩:=(((HBD.out.o6.ext XW2.out).only HN5.out (fun q hq hq'=>HBD.out.apart q hq' hq)).ext XE2.out).push (tsl:=159) Tryz.underlying159 infoRow rfl (by omega) #[Value.slice (some ⟨s2.blk,0,none⟩) L s2.cap] rfl (by intro u hu; simp at hu; subst hu; rfl) ⟨U5.heap.size,0,none⟩ (Zaj (hU6.at Zad)) 1 (by simp; omega) (by omega) (by have:=(Ext.trans HX.out XW2.out).size; have:=HN5.out.size; have:=XE2.out.size; omega)
   have HO6:=hid ho6; have HN6:=hid hn6; have HD6:=hid hd6
   clear hU6 ho6 hn6 hd6
   refine Zat fun K hK=>?_
   go_wp2_with (at_builtin; refine wpList_append_run rfl _ _ _ rfl _ _ _ _ rfl rfl hap6 ?_)
   refine hK _ _ (HN6.out.mono (fun _ _ h=>.inr h)) ?_
   clear hK K hap6
   rw [wpS]
   simp only [opsAt,opA,opB,opC,opD,opE,opF,opG]
   iterate 2 ((refine Zaa (fun K hK=>?_); go_simp; refine hK _ ?_; clear hK K))
   refine Zac ?_
   intro U8 hU8
   have HBN:=hid (HBD.out.next HP.out XW2.out R1.out LS1.out HO5.out HN5.out HD5.out XE2.out R2.out LS2.out HO6.out HN6.out HD6.out hU8)
   clear hU8
   go_wp2
   go_roundw
   case rel=>exact ⟨j+1,_,_,by go_num,rfl,rfl,by omega,_,_,_,_,HBN.out⟩
   case measure=>simp [intOf]; omega
  obtain rfl:k=j:=by omega
  obtain ⟨gm,cm,go,co,rfl,rfl,hst⟩:=HOUT.out _ _ _ _ _ _ _ hb
  have HS0:=hid hst
  clear hst hb HOUT
  go_wp2
  go_loopw [40] (fun t wr=>∃ c:Nat,t=.int .i64 c/\c<=k/\SolAt w wr cb fb gm cm go co k L (steps m0 o0 c)) (fun t _=>k - (intOf t).toNat)
  case atStart=>exact ⟨0,rfl,by omega,HS0.out⟩
  case round =>
   clear HS0
   obtain ⟨c,rfl,hc,bm,xm,bo,xo,hst⟩:=hrel
   have HSS:=hid (steps_succ m0 o0 c)
   obtain ⟨⟨m,o⟩,hmo⟩:∃ q,steps m0 o0 c=q:=⟨_,rfl⟩
   rw [hmo] at hst HSS
   have HST:=hid hst
   have HMO:=hid hmo
   clear hst hmo
   simp only at HST
   by_cases hlt:c < k
   ·
    have ml:=HST.out.two.mm.bl.n
    have HML:=hid ml
    obtain ⟨P,hP⟩:∃ P,Cd.pivot m c m.length c=P:=⟨_,rfl⟩
    have hPk:=(Cd.pivot_lt m c m.length c (by rw [ml]; exact hlt))
    rw [hP] at hPk
    have HP:=hid hP
    have HPK:=hid (show c<=P/\P < k by rw [ml] at hPk; exact hPk)
    clear hP hPk ml
    go_wp2
    go_loopw [10] (fun t wq=>∃ p:Nat,t=.int .i64 p/\c<=p/\p < k/\Cd.pivot m c (k - (p - c)) p=P/\wq=wr) (fun t _=>k - (intOf t).toNat)
    case atStart=>exact ⟨c,rfl,by omega,hlt,by rw [show k - (c - c)=m.length by rw [HML.out]; omega]; exact HP.out,rfl⟩
    case round =>
     obtain ⟨p,rfl,hp1,hp2,hpv,rfl⟩:=hrel
     have hw1:wrap64 ((k:Int) - 1)=(k:Int) - 1:=by unfold wrap64; omega
     have cm1:=HST.out.two.mm.cell hp2
     have cb1:=HST.out.two.mm.byte (j:=c) hp2 hlt
     obtain ⟨y,hy⟩:∃ y,nth (Cd.B m p) c=y:=⟨_,rfl⟩
     rw [hy] at cb1
     have p0:(0:Int)<=(p:Int):=by omega
     have p1:(p:Int) < (k:Int):=by omega
     have c0:(0:Int)<=(c:Int):=by omega
     have c1:(c:Int) < (k:Int):=by omega
     by_cases hgo:p < k - 1/\y=0
     ·
      obtain ⟨g1,rfl⟩:=hgo
      have g1':(p:Int) < (k:Int) - 1:=by omega
      have HN:=hid (show Cd.pivot m c (k - (p+1 - c)) (p+1)=P by
       rw [<- pivot_next m c _ p ⟨by rw [HML.out]; exact g1,hy⟩,show k - (p+1 - c)+1=k - (p - c) by omega]; exact hpv)
      clear hpv hy
      go_wp2
      go_roundw
      case rel=>exact ⟨p+1,by go_num,by omega,by omega,HN.out,by first | rfl | trivial⟩
      case measure=>simp [intOf]; omega
     ·
      have HPP:=hid (show p=P by
       rw [<- hpv,show k - (p - c)=(k - (p - c) - 1)+1 by omega]
       exact (pivot_here m c _ p (fun q=>hgo ⟨by rw [HML.out] at q; exact q.1,by rw [<- hy]; exact q.2⟩)).symm)
      clear hpv
      by_cases g1:p < k - 1
      ·
       have g1':(p:Int) < (k:Int) - 1:=by omega
       have y0:((y:Int) == 0)=false:=by rw [beq_eq_false_iff_ne]; intro q; exact hgo ⟨g1,by omega⟩
       clear hgo
       go_wp2
       clear y0 g1 g1'
       clear hw1 cb1 hy
       obtain rfl:p=P:=HPP.out
       clear HPP cm1
       have xd:Ext wr wr.drew:=(Ext.refl wr).drew
       have HT:=hid HST.out.two
       have d1:∀ z:SW Ext wr.drew,z.w.cell? ⟨gm,p,none⟩=some (.slice (some ⟨bm p,0,none⟩) k (xm p)):=fun z=>(Ext.trans xd z.ext).cell (HT.out.mm.cell hp2)
       have d2:∀ z:SW Ext wr.drew,z.w.cell? ⟨gm,c,none⟩=some (.slice (some ⟨bm c,0,none⟩) k (xm c)):=fun z=>(Ext.trans xd z.ext).cell (HT.out.mm.cell hlt)
       have d3:∀ z:SW Ext wr.drew,z.w.cell? ⟨go,p,none⟩=some (.slice (some ⟨bo p,0,none⟩) L (xo p)):=fun z=>(Ext.trans xd z.ext).cell (HT.out.mo.cell hp2)
       have d4:∀ z:SW Ext wr.drew,z.w.cell? ⟨go,c,none⟩=some (.slice (some ⟨bo c,0,none⟩) L (xo c)):=fun z=>(Ext.trans xd z.ext).cell (HT.out.mo.cell hlt)
       have HXD:=hid xd
       clear xd
       go_wp2_with fail
       refine Zbp (E:=Ext) (S:=Only fun y=>y=gm\/y=go) (fun i=>i == 25 || i == 27 || i == 29 || i == 31) [0,1,2,3,4,5,6,7,8,9,10,12,13,14,16,17,18,20,21,22] [11,15,19,23] (.one [24] 25 (.one [26] 27 (.one [28] 29 (.one [30] 31 (.fin []))))) (by kernel_rfl) (by kernel_rfl) (fun _ _ d _ _ h=>by cases d<;>exact h) ?_
       simp only [opsAt,opA,opB,opC,opD,opE,opF,opG]
       iterate 20 ((refine Zaa (fun K hK=>?_); go_simp; refine hK _ ?_; clear hK K))
       refine Zac ?_
       iterate 4 ((refine Zaa (fun K hK=>?_); go_simp; refine hK _ ?_; clear hK K))
       refine Zac ?_
       intro V0 hV0
       clear d1 d2 d3 d4
       rw [wpU]
       simp only [opsAt,opA,opB,opC,opD,opE,opF,opG]
       (refine Zaa (fun K hK=>?_); go_simp; refine hK _ ?_; clear hK K)
       refine Zac ?_
       intro U1 hU1
       have G1:=hid (HT.out.ext (Ext.trans HXD.out (Ext.trans hV0 hU1)))
       have XW1:=hid (Ext.trans HXD.out (Ext.trans hV0 hU1))
       have s1:U1.cell? ⟨gm,c,none⟩=some (.slice (some ⟨bm c,0,none⟩) k (xm c)):=G1.out.mm.cell hlt
       have f1:U1.frozen? ⟨gm,c,none⟩=false:=G1.out.mm.hdr.frozenAt c
       clear hV0 hU1
       refine Zbt fun K hK=>?_
       go_wp2
       refine hK _ _ ((Zap U1 gm c _).mono fun _ _ h=>.inl h) ?_
       clear hK K s1 f1
       have M1:=hid (G1.out.mm.hdr.stored c (.slice (some ⟨bm p,0,none⟩) k (xm p))).1
       have N1:=hid (Zam G1.out.mo.hdr (Zap U1 gm c (.slice (some ⟨bm p,0,none⟩) k (xm p))) (fun q=>G1.out.ne q.symm))
       have O1:=hid ((Zap U1 gm c (.slice (some ⟨bm p,0,none⟩) k (xm p))).mono (G:=fun y=>y=gm\/y=go) fun _ _ h=>.inl h)
       rw [wpU]
       simp only [opsAt,opA,opB,opC,opD,opE,opF,opG]
       (refine Zaa (fun K hK=>?_); go_simp; refine hK _ ?_; clear hK K)
       refine Zac ?_
       intro U2 hU2
       have A2:=hid (Zam M1.out hU2 (fun x=>x))
       have B2:=hid (Zam N1.out hU2 (fun x=>x))
       have P2:=hid (Only.ext O1.out hU2)
       obtain ⟨ov,hov⟩:∃ ov,U2.cell? ⟨gm,p,none⟩=some ov:=by
        rw [A2.out.cellAt p (by omega)]
        exact ⟨_,List.getElem?_eq_getElem (by simp [hdrs]; omega)⟩
       have fz:U2.frozen? ⟨gm,p,none⟩=false:=A2.out.frozenAt p
       clear hU2
       refine Zbt fun K hK=>?_
       go_wp2
       refine hK _ _ ((Zap U2 gm p _).mono fun _ _ h=>.inl h) ?_
       clear hK K hov fz
       have M2:=hid (A2.out.stored p (.slice (some ⟨bm c,0,none⟩) k (xm c))).1
       have N2:=hid (Zam B2.out (Zap U2 gm p (.slice (some ⟨bm c,0,none⟩) k (xm c))) (fun q=>HT.out.ne q.symm))
       have O2:=hid (Only.trans P2.out ((Zap U2 gm p (.slice (some ⟨bm c,0,none⟩) k (xm c))).mono (G:=fun y=>y=gm\/y=go) fun _ _ h=>.inl h) (fun _ _ h=>h))
       clear A2 B2 P2
       rw [wpU]
       simp only [opsAt,opA,opB,opC,opD,opE,opF,opG]
       (refine Zaa (fun K hK=>?_); go_simp; refine hK _ ?_; clear hK K)
       refine Zac ?_
       intro U3 hU3
       have A3:=hid (Zam N2.out hU3 (fun x=>x))
       have B3:=hid (Zam M2.out hU3 (fun x=>x))
       have P3:=hid (Only.ext O2.out hU3)
       obtain ⟨ov,hov⟩:∃ ov,U3.cell? ⟨go,c,none⟩=some ov:=by
        rw [A3.out.cellAt c (by omega)]
        exact ⟨_,List.getElem?_eq_getElem (by simp [hdrs]; omega)⟩
       have fz:U3.frozen? ⟨go,c,none⟩=false:=A3.out.frozenAt c
       clear hU3
       refine Zbt fun K hK=>?_
       go_wp2
       refine hK _ _ ((Zap U3 go c _).mono fun _ _ h=>.inr h) ?_
       clear hK K hov fz
       have M3:=hid (A3.out.stored c (.slice (some ⟨bo p,0,none⟩) L (xo p))).1
       have N3:=hid (Zam B3.out (Zap U3 go c (.slice (some ⟨bo p,0,none⟩) L (xo p))) (fun q=>HT.out.ne q))
       have O3:=hid (Only.trans P3.out ((Zap U3 go c (.slice (some ⟨bo p,0,none⟩) L (xo p))).mono (G:=fun y=>y=gm\/y=go) fun _ _ h=>.inr h) (fun _ _ h=>h))
       clear A3 B3 P3
       rw [wpU]
       simp only [opsAt,opA,opB,opC,opD,opE,opF,opG]
       (refine Zaa (fun K hK=>?_); go_simp; refine hK _ ?_; clear hK K)
       refine Zac ?_
       intro U4 hU4
       have A4:=hid (Zam M3.out hU4 (fun x=>x))
       have B4:=hid (Zam N3.out hU4 (fun x=>x))
       have P4:=hid (Only.ext O3.out hU4)
       obtain ⟨ov,hov⟩:∃ ov,U4.cell? ⟨go,p,none⟩=some ov:=by
        rw [A4.out.cellAt p (by omega)]
        exact ⟨_,List.getElem?_eq_getElem (by simp [hdrs]; omega)⟩
       have fz:U4.frozen? ⟨go,p,none⟩=false:=A4.out.frozenAt p
       clear hU4
       refine Zbt fun K hK=>?_
       go_wp2
       refine hK _ _ ((Zap U4 go p _).mono fun _ _ h=>.inr h) ?_
       clear hK K hov fz
       have M4:=hid (A4.out.stored p (.slice (some ⟨bo c,0,none⟩) L (xo c))).1
       have N4:=hid (Zam B4.out (Zap U4 go p (.slice (some ⟨bo c,0,none⟩) L (xo c))) (fun q=>HT.out.ne q))
       have O4:=hid (Only.trans P4.out ((Zap U4 go p (.slice (some ⟨bo c,0,none⟩) L (xo c))).mono (G:=fun y=>y=gm\/y=go) fun _ _ h=>.inr h) (fun _ _ h=>h))
       clear A4 B4 P4
       rw [wpU]
       simp only [opsAt,opA,opB,opC,opD,opE,opF,opG]
       refine Zac ?_
       intro U5 hU5
       have HS5:=hid (show SolSt w U5 cb fb gm cm go co k L (sw bm c p) (sw xm c p) (sw bo c p) (sw xo c p) (Cd.swap m c p) (Cd.swap o c p) from ((HST.out.more XW1.out).swapped O4.out hlt hp2 (by
         have:=N4.out
         rw [hdrs_swap bm xm hlt hp2] at this
         exact this) (by
         have:=M4.out
         rw [hdrs_swap bo xo hlt hp2] at this
         exact this)).more hU5)
       clear hU5 M1 N1 O1 M2 N2 O2 M3 N3 O3 M4 N4 O4 G1 XW1 HT HXD
       obtain ⟨bm,hbm⟩:∃ f,sw bm c p=f:=⟨_,rfl⟩
       obtain ⟨xm,hxm⟩:∃ f,sw xm c p=f:=⟨_,rfl⟩
       obtain ⟨bo,hbo⟩:∃ f,sw bo c p=f:=⟨_,rfl⟩
       obtain ⟨xo,hxo⟩:∃ f,sw xo c p=f:=⟨_,rfl⟩
       rw [hbm,hxm,hbo,hxo] at HS5
       clear hbm hxm hbo hxo
       obtain ⟨m1,hm1⟩:∃ l,Cd.swap m c p=l:=⟨_,rfl⟩
       obtain ⟨o1,ho1⟩:∃ l,Cd.swap o c p=l:=⟨_,rfl⟩
       rw [hm1,ho1] at HS5
       have HM1:=hid hm1; have HO1:=hid ho1
       clear hm1 ho1 HST
       have T5:=hid HS5.out.two
       have l1:=T5.out.mm.bl.len c hlt
       have l2:=T5.out.mo.bl.len c hlt
       obtain ⟨y1,hy1⟩:∃ y1,nth (Cd.B m1 c) c=y1:=⟨_,rfl⟩
       have xd:Ext U5 U5.drew:=(Ext.refl U5).drew
       have e1:∀ z:SW Ext U5.drew,z.w.cell? ⟨gm,c,none⟩=some (.slice (some ⟨bm c,0,none⟩) k (xm c)):=fun z=>(Ext.trans xd z.ext).cell (T5.out.mm.cell hlt)
       have e2:∀ z:SW Ext U5.drew,z.w.cell? ⟨go,c,none⟩=some (.slice (some ⟨bo c,0,none⟩) L (xo c)):=fun z=>(Ext.trans xd z.ext).cell (T5.out.mo.cell hlt)
       have e3:∀ z:SW Ext U5.drew,z.w.cell? ⟨cb,1,none⟩=some (.pointer (some ⟨fb,0,none⟩)):=fun z=>(Ext.trans xd z.ext).cell HS5.out.code
       have e4:∀ z:SW Ext U5.drew,z.w.cell? ⟨bm c,c,none⟩=some (.int .u8 y1):=fun z=>(Ext.trans xd z.ext).cell (hy1▸T5.out.mm.byte hlt hlt)
       have hy256:y1 < 256:=hy1▸Zay (T5.out.mm.bl.byte c) c
       have HINV:=hid (fun z:SW Ext U5.drew=>(show Calls Tryz.prog 194 #[.pointer (some ⟨fb,0,none⟩),.int .u8 y1] z.w fun e w''=>e=.returned (.int .u8 (inv y1:Nat))/\Ext z.w w'' from inv_c fb (y1:Int) z.w (HS5.out.field.ext (Ext.trans xd z.ext)) (by omega)))
       have HL1:=hid l1; have HL2:=hid l2; have HY1:=hid hy1; have HXD:=hid xd
       clear l1 l2 hy1 xd
       go_wp2_with fail
       refine Zan (S:=Ext) 21 (.fin [0,1,2,3,4,5,6,7,8,9,10,11,12,13,14,15,16,17,18,19,20]) (by kernel_rfl) (by kernel_rfl) (fun _ _ d _ _ h=>by cases d<;>exact h) ?_
       rw [wpS]
       simp only [opsAt,opA,opB,opC,opD,opE,opF,opG]
       iterate 20 ((refine Zaa (fun K hK=>?_); go_simp; refine hK _ ?_; clear hK K))
       (refine Zaa (fun K hK=>?_); go_simp; (apply Exists.intro; refine ⟨fun x=>?_,hK _ ?_⟩; (exact HINV.out x); clear hK K))
       refine Zac ?_
       intro U6 hU6
       have HS6:=hid (HS5.out.more (Ext.trans HXD.out hU6))
       clear hU6 e1 e2 e3 e4 HINV T5 HXD HS5
       go_wp2_with fail
       have hbn:=HS6.out.lb c hlt
       have hol:=HS6.out.old
       have hsc:=scale_c HS6.out.code HS6.out.field (bm c) (xm c) (bo c) (xo c) (Cd.B m1 c) (Cd.B o1 c) (by unfold OwnB; rw [HL1.out]; exact HS6.out.two.mm.row c hlt) (by unfold OwnB; rw [HL2.out]; exact HS6.out.two.mo.row c hlt) (by omega) (by omega) (HS6.out.two.dis c c hlt hlt) (HS6.out.two.mm.bl.byte c) (HS6.out.two.mo.bl.byte c) (by rw [HL1.out]; omega) (by rw [HL2.out]; omega) (inv y1) (inv_bd y1)
       rw [HL1.out,HL2.out] at hsc
       clear hbn hol
       refine hsc.mono ?_
       rintro e w7 ⟨rfl,oa,ob,on⟩
       have HS7:=hid (HS6.out.set2 hlt on (a:=Cd.scale (inv y1) (Cd.B m1 c)) (b:=Cd.scale (inv y1) (Cd.B o1 c)) (by rw [Cd.scale_len]; exact HL1.out) (by rw [Cd.scale_len]; exact HL2.out) (Cd.scale_byte _ _) (Cd.scale_byte _ _) (by unfold OwnB at oa; rw [Cd.scale_len,HL1.out] at oa; exact oa) (by unfold OwnB at ob; rw [Cd.scale_len,HL2.out] at ob; exact ob))
       clear hsc oa ob on HS6 hy256
       obtain ⟨m2,hm2⟩:∃ l,m1.set c (Cd.scale (inv y1) (Cd.B m1 c))=l:=⟨_,rfl⟩
       obtain ⟨o2,ho2⟩:∃ l,o1.set c (Cd.scale (inv y1) (Cd.B o1 c))=l:=⟨_,rfl⟩
       rw [hm2,ho2] at HS7
       have HM2:=hid (show Cd.colM m c=m2 by
        unfold Cd.colM
        simp only [HP.out,HM1.out]
        rw [HY1.out,hm2])
       have HO2:=hid (show Cd.colO m o c=o2 by
        unfold Cd.colO
        simp only [HP.out,HM1.out,HO1.out]
        rw [HY1.out,ho2])
       have HLM2:=hid (show m2.length=k from HS7.out.two.mm.bl.n)
       have HLO2:=hid (show o2.length=k from HS7.out.two.mo.bl.n)
       clear hm2 ho2 HL1 HL2
       go_wp2
       go_loopw [113] (fun t wq=>∃ i:Nat,t=.int .i64 i/\i<=k/\SolSt w wq cb fb gm cm go co k L bm xm bo xo (Cd.clearK m2 m2 c i) (Cd.clearK m2 o2 c i)) (fun t _=>k - (intOf t).toNat)
       case atStart=>exact ⟨0,rfl,by omega,HS7.out⟩
       case round =>
        clear HS7
        obtain ⟨i,rfl,hi,hst⟩:=hrel
        have HCS:=hid (Cd.clearK_succ m2 m2 c i)
        have HCO:=hid (Cd.clearK_succ m2 o2 c i)
        have hBi:=Cd.clearK_B m2 m2 c i i (by rw [HLM2.out]; exact hi)
        rw [if_neg (by omega)] at hBi
        obtain ⟨ma,hma⟩:∃ l,Cd.clearK m2 m2 c i=l:=⟨_,rfl⟩
        obtain ⟨oa,hoa⟩:∃ l,Cd.clearK m2 o2 c i=l:=⟨_,rfl⟩
        rw [hma,hoa] at hst
        rw [hma] at HCS hBi
        rw [hoa] at HCO
        have HQ:=hid hst
        have HMA:=hid hma; have HOA:=hid hoa
        clear hst hma hoa
        by_cases hik:i < k
        ·
         obtain ⟨y,hy⟩:∃ y,nth (Cd.B m2 i) c=y:=⟨_,rfl⟩
         have q1:=HQ.out.two.mm.cell hik
         have q2:=HQ.out.two.mm.byte (j:=c) hik hlt
         rw [hBi,hy] at q2
         have hy256:y < 256:=by
          have:=Zay (HQ.out.two.mm.bl.byte i) c
          rw [hBi,hy] at this; exact this
         rw [hy] at HCS HCO
         have i0:(0:Int)<=(i:Int):=by omega
         have i1:(i:Int) < (k:Int):=by omega
         clear hBi hy
         by_cases hgo2:i≠c/\y≠0
         ·
          have b1:((i:Int) != (c:Int))=true:=by rw [bne_iff_ne]; have:=hgo2.1; omega
          have b2:((y:Int) != 0)=true:=by rw [bne_iff_ne]; have:=hgo2.2; omega
          rw [if_pos hgo2] at HCS HCO
          have HNE:=hid hgo2.1
          clear hgo2
          have l1:=HQ.out.two.mm.bl.len i hik
          have l2:=HQ.out.two.mo.bl.len i hik
          have HL1:=hid l1; have HL2:=hid l2
          have xd:Ext wr wr.drew:=(Ext.refl wr).drew
          have e1:∀ z:SW Ext wr.drew,z.w.cell? ⟨gm,i,none⟩=some (.slice (some ⟨bm i,0,none⟩) k (xm i)):=fun z=>(Ext.trans xd z.ext).cell q1
          have e2:∀ z:SW Ext wr.drew,z.w.cell? ⟨gm,c,none⟩=some (.slice (some ⟨bm c,0,none⟩) k (xm c)):=fun z=>(Ext.trans xd z.ext).cell (HQ.out.two.mm.cell hlt)
          have e3:∀ z:SW Ext wr.drew,z.w.cell? ⟨cb,1,none⟩=some (.pointer (some ⟨fb,0,none⟩)):=fun z=>(Ext.trans xd z.ext).cell HQ.out.code
          have c0:(0:Int)<=(c:Int):=by omega
          have c1:(c:Int) < (k:Int):=by omega
          have HXD:=hid xd
          clear l1 l2 xd
          go_wp2_with fail
          clear q1 q2 b1 b2
          refine Zan (S:=Ext) 13 (.fin [0,1,2,3,4,5,6,7,8,9,10,11,12]) (by kernel_rfl) (by kernel_rfl) (fun _ _ d _ _ h=>by cases d<;>exact h) ?_
          rw [wpS]
          simp only [opsAt,opA,opB,opC,opD,opE,opF,opG]
          iterate 13 ((refine Zaa (fun K hK=>?_); go_simp; refine hK _ ?_; clear hK K))
          refine Zac ?_
          intro V hV
          have HV:=hid (HQ.out.more (Ext.trans HXD.out hV))
          have HXV:=hid (Ext.trans HXD.out hV)
          clear e1 e2 e3 hV
          go_wp2_with fail
          have hbi:=HV.out.lb i hik
          have hbc:=HV.out.lb c hlt
          have hol:=HV.out.old
          have hg:=HV.out.lg
          refine (add_c fb (bm i) k (xm i) (bm c) 0 k (xm c) (Cd.B ma i) (Cd.B ma c) (y:Int) V HV.out.field (HV.out.two.mm.row i hik) (HV.out.two.mm.bl.byte i) (by omega) (HV.out.two.mm.bytes (by omega) hlt) (by omega) (by omega) (fun q=>HNE.out (HV.out.two.im c i hlt hik q).symm)).mono ?_
          rintro e w3 ⟨rfl,oa3,on3⟩
          rw [Int.toNat_natCast] at oa3
          have HA3:=hid oa3; have HN3:=hid on3
          have dd:=hid (HV.out.two.dis)
          have xd3:Ext w3 w3.drew:=(Ext.refl w3).drew
          have e1:∀ z:SW Ext w3.drew,z.w.cell? ⟨go,i,none⟩=some (.slice (some ⟨bo i,0,none⟩) L (xo i)):=fun z=>(Ext.trans xd3 z.ext).cell (on3.cell (HV.out.two.mo.cell hik) (fun q=>HV.out.two.ne2 hik q))
          have e2:∀ z:SW Ext w3.drew,z.w.cell? ⟨go,c,none⟩=some (.slice (some ⟨bo c,0,none⟩) L (xo c)):=fun z=>(Ext.trans xd3 z.ext).cell (on3.cell (HV.out.two.mo.cell hlt) (fun q=>HV.out.two.ne2 hik q))
          have e3:∀ z:SW Ext w3.drew,z.w.cell? ⟨cb,1,none⟩=some (.pointer (some ⟨fb,0,none⟩)):=fun z=>(Ext.trans xd3 z.ext).cell (on3.cell HV.out.code (fun q=>by have q:cb=bm i:=q; omega))
          have HXD3:=hid xd3
          clear oa3 on3 xd3
          go_wp2_with fail
          refine Zan (S:=Ext) 13 (.fin [0,1,2,3,4,5,6,7,8,9,10,11,12]) (by kernel_rfl) (by kernel_rfl) (fun _ _ d _ _ h=>by cases d<;>exact h) ?_
          rw [wpS]
          simp only [opsAt,opA,opB,opC,opD,opE,opF,opG]
          iterate 13 ((refine Zaa (fun K hK=>?_); go_simp; refine hK _ ?_; clear hK K))
          refine Zac ?_
          intro V2 hV2
          have HN4:=hid (Only.ext HN3.out (Ext.trans HXD3.out hV2))
          have HA4:=hid (Zam HA3.out (Ext.trans HXD3.out hV2) (fun x=>x))
          clear e1 e2 e3 hV2
          go_wp2_with fail
          refine (add_c fb (bo i) L (xo i) (bo c) 0 L (xo c) (Cd.B oa i) (Cd.B oa c) (y:Int) V2 (HN4.out.at HV.out.field (fun q=>by have q:fb=bm i:=q; omega)) (Zam (HV.out.two.mo.row i hik) HN4.out (fun q=>dd.out i i hik hik q.symm)) (HV.out.two.mo.bl.byte i) (by omega) ((HV.out.two.mo.bytes (by omega) hlt).only0 HN4.out (fun q=>dd.out i c hik hlt q.symm)) (by omega) (by omega) (fun q=>HNE.out (HV.out.two.io c i hlt hik q).symm)).mono ?_
          rintro e w5 ⟨rfl,oa5,on5⟩
          rw [Int.toNat_natCast] at oa5
          have HEND:=hid (HV.out.set2 hik (w':=w5) (a:=Gf.addB (Cd.B ma i) (Cd.B ma c) y) (b:=Gf.addB (Cd.B oa i) (Cd.B oa c) y) (Only.trans (HN4.out.mono (G:=fun z=>z=bm i\/z=bo i) (fun _ _ h=>.inl h)) (on5.mono (G:=fun z=>z=bm i\/z=bo i) (fun _ _ h=>.inr h)) (fun _ _ h=>h)) (by rw [Gf.addB_len]; exact HL1.out) (by rw [Gf.addB_len]; exact HL2.out) (Gf.addB_byte _ _ _ hy256 (HV.out.two.mm.bl.byte i)) (Gf.addB_byte _ _ _ hy256 (HV.out.two.mo.bl.byte i)) (Zam HA4.out on5 (fun q=>dd.out i i hik hik q)) oa5)
          have HRR:=hid (show SolSt w w5 cb fb gm cm go co k L bm xm bo xo (Cd.clearK m2 m2 c (i+1)) (Cd.clearK m2 o2 c (i+1)) by rw [HCS.out,HCO.out]; exact HEND.out)
          clear oa5 on5 HEND
          go_wp2
          go_roundw
          case rel=>exact ⟨i+1,by go_num,by omega,HRR.out⟩
          case measure=>simp [intOf]; omega
         ·
          rw [if_neg hgo2] at HCS HCO
          have HRR:=hid (show SolSt w wr cb fb gm cm go co k L bm xm bo xo (Cd.clearK m2 m2 c (i+1)) (Cd.clearK m2 o2 c (i+1)) by rw [HCS.out,HCO.out]; exact HQ.out)
          by_cases hic:i=c
          ·
           obtain rfl:i=c:=hic
           clear hgo2
           go_wp2
           go_roundw
           case rel=>exact ⟨i+1,by go_num,by omega,HRR.out⟩
           case measure=>simp [intOf]; omega
          ·
           have b1:((i:Int) != (c:Int))=true:=by rw [bne_iff_ne]; omega
           have b2:((y:Int) != 0)=false:=by
            have:y=0:=Classical.not_not.1 fun q=>hgo2 ⟨hic,q⟩
            subst this; rfl
           clear hgo2
           go_wp2
           go_roundw
           case rel=>exact ⟨i+1,by go_num,by omega,HRR.out⟩
           case measure=>simp [intOf]; omega
        ·
         obtain rfl:k=i:=by omega
         have HFIN:=hid (show SolAt w wr cb fb gm cm go co k L (steps m0 o0 (c+1)) from by
          rw [HSS.out]
          refine ⟨bm,xm,bo,xo,?_⟩
          have e1:(Cd.step (m,o) c).1=ma:=by show Cd.clearK (Cd.colM m c) (Cd.colM m c) c m.length=ma; rw [HM2.out,HML.out,HMA.out]
          have e2:(Cd.step (m,o) c).2=oa:=by show Cd.clearK (Cd.colM m c) (Cd.colO m o c) c m.length=oa; rw [HM2.out,HO2.out,HML.out,HOA.out]
          rw [e1,e2]; exact HQ.out)
         clear HQ HMA HOA
         go_wp2
         go_roundw
         case rel=>exact ⟨c+1,by go_num,by omega,HFIN.out⟩
         case measure=>simp [intOf]; omega
      ·
       have g1':¬(p:Int) < (k:Int) - 1:=by omega
       clear hgo
       go_wp2
       clear g1 g1'
       clear hw1 cb1 hy
       obtain rfl:p=P:=HPP.out
       clear HPP cm1
       have xd:Ext wr wr.drew:=(Ext.refl wr).drew
       have HT:=hid HST.out.two
       have d1:∀ z:SW Ext wr.drew,z.w.cell? ⟨gm,p,none⟩=some (.slice (some ⟨bm p,0,none⟩) k (xm p)):=fun z=>(Ext.trans xd z.ext).cell (HT.out.mm.cell hp2)
       have d2:∀ z:SW Ext wr.drew,z.w.cell? ⟨gm,c,none⟩=some (.slice (some ⟨bm c,0,none⟩) k (xm c)):=fun z=>(Ext.trans xd z.ext).cell (HT.out.mm.cell hlt)
       have d3:∀ z:SW Ext wr.drew,z.w.cell? ⟨go,p,none⟩=some (.slice (some ⟨bo p,0,none⟩) L (xo p)):=fun z=>(Ext.trans xd z.ext).cell (HT.out.mo.cell hp2)
       have d4:∀ z:SW Ext wr.drew,z.w.cell? ⟨go,c,none⟩=some (.slice (some ⟨bo c,0,none⟩) L (xo c)):=fun z=>(Ext.trans xd z.ext).cell (HT.out.mo.cell hlt)
       have HXD:=hid xd
       clear xd
       go_wp2_with fail
       refine Zbp (E:=Ext) (S:=Only fun y=>y=gm\/y=go) (fun i=>i == 25 || i == 27 || i == 29 || i == 31) [0,1,2,3,4,5,6,7,8,9,10,12,13,14,16,17,18,20,21,22] [11,15,19,23] (.one [24] 25 (.one [26] 27 (.one [28] 29 (.one [30] 31 (.fin []))))) (by kernel_rfl) (by kernel_rfl) (fun _ _ d _ _ h=>by cases d<;>exact h) ?_
       simp only [opsAt,opA,opB,opC,opD,opE,opF,opG]
       iterate 20 ((refine Zaa (fun K hK=>?_); go_simp; refine hK _ ?_; clear hK K))
       refine Zac ?_
       iterate 4 ((refine Zaa (fun K hK=>?_); go_simp; refine hK _ ?_; clear hK K))
       refine Zac ?_
       intro V0 hV0
       clear d1 d2 d3 d4
       rw [wpU]
       simp only [opsAt,opA,opB,opC,opD,opE,opF,opG]
       (refine Zaa (fun K hK=>?_); go_simp; refine hK _ ?_; clear hK K)
       refine Zac ?_
       intro U1 hU1
       have G1:=hid (HT.out.ext (Ext.trans HXD.out (Ext.trans hV0 hU1)))
       have XW1:=hid (Ext.trans HXD.out (Ext.trans hV0 hU1))
       have s1:U1.cell? ⟨gm,c,none⟩=some (.slice (some ⟨bm c,0,none⟩) k (xm c)):=G1.out.mm.cell hlt
       have f1:U1.frozen? ⟨gm,c,none⟩=false:=G1.out.mm.hdr.frozenAt c
       clear hV0 hU1
       refine Zbt fun K hK=>?_
       go_wp2
       refine hK _ _ ((Zap U1 gm c _).mono fun _ _ h=>.inl h) ?_
       clear hK K s1 f1
       have M1:=hid (G1.out.mm.hdr.stored c (.slice (some ⟨bm p,0,none⟩) k (xm p))).1
       have N1:=hid (Zam G1.out.mo.hdr (Zap U1 gm c (.slice (some ⟨bm p,0,none⟩) k (xm p))) (fun q=>G1.out.ne q.symm))
       have O1:=hid ((Zap U1 gm c (.slice (some ⟨bm p,0,none⟩) k (xm p))).mono (G:=fun y=>y=gm\/y=go) fun _ _ h=>.inl h)
       rw [wpU]
       simp only [opsAt,opA,opB,opC,opD,opE,opF,opG]
       (refine Zaa (fun K hK=>?_); go_simp; refine hK _ ?_; clear hK K)
       refine Zac ?_
       intro U2 hU2
       have A2:=hid (Zam M1.out hU2 (fun x=>x))
       have B2:=hid (Zam N1.out hU2 (fun x=>x))
       have P2:=hid (Only.ext O1.out hU2)
       obtain ⟨ov,hov⟩:∃ ov,U2.cell? ⟨gm,p,none⟩=some ov:=by
        rw [A2.out.cellAt p (by omega)]
        exact ⟨_,List.getElem?_eq_getElem (by simp [hdrs]; omega)⟩
       have fz:U2.frozen? ⟨gm,p,none⟩=false:=A2.out.frozenAt p
       clear hU2
       refine Zbt fun K hK=>?_
       go_wp2
       refine hK _ _ ((Zap U2 gm p _).mono fun _ _ h=>.inl h) ?_
       clear hK K hov fz
       have M2:=hid (A2.out.stored p (.slice (some ⟨bm c,0,none⟩) k (xm c))).1
       have N2:=hid (Zam B2.out (Zap U2 gm p (.slice (some ⟨bm c,0,none⟩) k (xm c))) (fun q=>HT.out.ne q.symm))
       have O2:=hid (Only.trans P2.out ((Zap U2 gm p (.slice (some ⟨bm c,0,none⟩) k (xm c))).mono (G:=fun y=>y=gm\/y=go) fun _ _ h=>.inl h) (fun _ _ h=>h))
       clear A2 B2 P2
       rw [wpU]
       simp only [opsAt,opA,opB,opC,opD,opE,opF,opG]
       (refine Zaa (fun K hK=>?_); go_simp; refine hK _ ?_; clear hK K)
       refine Zac ?_
       intro U3 hU3
       have A3:=hid (Zam N2.out hU3 (fun x=>x))
       have B3:=hid (Zam M2.out hU3 (fun x=>x))
       have P3:=hid (Only.ext O2.out hU3)
       obtain ⟨ov,hov⟩:∃ ov,U3.cell? ⟨go,c,none⟩=some ov:=by
        rw [A3.out.cellAt c (by omega)]
        exact ⟨_,List.getElem?_eq_getElem (by simp [hdrs]; omega)⟩
       have fz:U3.frozen? ⟨go,c,none⟩=false:=A3.out.frozenAt c
       clear hU3
       refine Zbt fun K hK=>?_
       go_wp2
       refine hK _ _ ((Zap U3 go c _).mono fun _ _ h=>.inr h) ?_
       clear hK K hov fz
       have M3:=hid (A3.out.stored c (.slice (some ⟨bo p,0,none⟩) L (xo p))).1
       have N3:=hid (Zam B3.out (Zap U3 go c (.slice (some ⟨bo p,0,none⟩) L (xo p))) (fun q=>HT.out.ne q))
       have O3:=hid (Only.trans P3.out ((Zap U3 go c (.slice (some ⟨bo p,0,none⟩) L (xo p))).mono (G:=fun y=>y=gm\/y=go) fun _ _ h=>.inr h) (fun _ _ h=>h))
       clear A3 B3 P3
       rw [wpU]
       simp only [opsAt,opA,opB,opC,opD,opE,opF,opG]
       (refine Zaa (fun K hK=>?_); go_simp; refine hK _ ?_; clear hK K)
       refine Zac ?_
       intro U4 hU4
       have A4:=hid (Zam M3.out hU4 (fun x=>x))
       have B4:=hid (Zam N3.out hU4 (fun x=>x))
       have P4:=hid (Only.ext O3.out hU4)
       obtain ⟨ov,hov⟩:∃ ov,U4.cell? ⟨go,p,none⟩=some ov:=by
        rw [A4.out.cellAt p (by omega)]
        exact ⟨_,List.getElem?_eq_getElem (by simp [hdrs]; omega)⟩
       have fz:U4.frozen? ⟨go,p,none⟩=false:=A4.out.frozenAt p
       clear hU4
       refine Zbt fun K hK=>?_
       go_wp2
       refine hK _ _ ((Zap U4 go p _).mono fun _ _ h=>.inr h) ?_
       clear hK K hov fz
       have M4:=hid (A4.out.stored p (.slice (some ⟨bo c,0,none⟩) L (xo c))).1
       have N4:=hid (Zam B4.out (Zap U4 go p (.slice (some ⟨bo c,0,none⟩) L (xo c))) (fun q=>HT.out.ne q))
       have O4:=hid (Only.trans P4.out ((Zap U4 go p (.slice (some ⟨bo c,0,none⟩) L (xo c))).mono (G:=fun y=>y=gm\/y=go) fun _ _ h=>.inr h) (fun _ _ h=>h))
       clear A4 B4 P4
       rw [wpU]
       simp only [opsAt,opA,opB,opC,opD,opE,opF,opG]
       refine Zac ?_
       intro U5 hU5
       have HS5:=hid (show SolSt w U5 cb fb gm cm go co k L (sw bm c p) (sw xm c p) (sw bo c p) (sw xo c p) (Cd.swap m c p) (Cd.swap o c p) from ((HST.out.more XW1.out).swapped O4.out hlt hp2 (by
         have:=N4.out
         rw [hdrs_swap bm xm hlt hp2] at this
         exact this) (by
         have:=M4.out
         rw [hdrs_swap bo xo hlt hp2] at this
         exact this)).more hU5)
       clear hU5 M1 N1 O1 M2 N2 O2 M3 N3 O3 M4 N4 O4 G1 XW1 HT HXD
       obtain ⟨bm,hbm⟩:∃ f,sw bm c p=f:=⟨_,rfl⟩
       obtain ⟨xm,hxm⟩:∃ f,sw xm c p=f:=⟨_,rfl⟩
       obtain ⟨bo,hbo⟩:∃ f,sw bo c p=f:=⟨_,rfl⟩
       obtain ⟨xo,hxo⟩:∃ f,sw xo c p=f:=⟨_,rfl⟩
       rw [hbm,hxm,hbo,hxo] at HS5
       clear hbm hxm hbo hxo
       obtain ⟨m1,hm1⟩:∃ l,Cd.swap m c p=l:=⟨_,rfl⟩
       obtain ⟨o1,ho1⟩:∃ l,Cd.swap o c p=l:=⟨_,rfl⟩
       rw [hm1,ho1] at HS5
       have HM1:=hid hm1; have HO1:=hid ho1
       clear hm1 ho1 HST
       have T5:=hid HS5.out.two
       have l1:=T5.out.mm.bl.len c hlt
       have l2:=T5.out.mo.bl.len c hlt
       obtain ⟨y1,hy1⟩:∃ y1,nth (Cd.B m1 c) c=y1:=⟨_,rfl⟩
       have xd:Ext U5 U5.drew:=(Ext.refl U5).drew
       have e1:∀ z:SW Ext U5.drew,z.w.cell? ⟨gm,c,none⟩=some (.slice (some ⟨bm c,0,none⟩) k (xm c)):=fun z=>(Ext.trans xd z.ext).cell (T5.out.mm.cell hlt)
       have e2:∀ z:SW Ext U5.drew,z.w.cell? ⟨go,c,none⟩=some (.slice (some ⟨bo c,0,none⟩) L (xo c)):=fun z=>(Ext.trans xd z.ext).cell (T5.out.mo.cell hlt)
       have e3:∀ z:SW Ext U5.drew,z.w.cell? ⟨cb,1,none⟩=some (.pointer (some ⟨fb,0,none⟩)):=fun z=>(Ext.trans xd z.ext).cell HS5.out.code
       have e4:∀ z:SW Ext U5.drew,z.w.cell? ⟨bm c,c,none⟩=some (.int .u8 y1):=fun z=>(Ext.trans xd z.ext).cell (hy1▸T5.out.mm.byte hlt hlt)
       have hy256:y1 < 256:=hy1▸Zay (T5.out.mm.bl.byte c) c
       have HINV:=hid (fun z:SW Ext U5.drew=>(show Calls Tryz.prog 194 #[.pointer (some ⟨fb,0,none⟩),.int .u8 y1] z.w fun e w''=>e=.returned (.int .u8 (inv y1:Nat))/\Ext z.w w'' from inv_c fb (y1:Int) z.w (HS5.out.field.ext (Ext.trans xd z.ext)) (by omega)))
       have HL1:=hid l1; have HL2:=hid l2; have HY1:=hid hy1; have HXD:=hid xd
       clear l1 l2 hy1 xd
       go_wp2_with fail
       refine Zan (S:=Ext) 21 (.fin [0,1,2,3,4,5,6,7,8,9,10,11,12,13,14,15,16,17,18,19,20]) (by kernel_rfl) (by kernel_rfl) (fun _ _ d _ _ h=>by cases d<;>exact h) ?_
       rw [wpS]
       simp only [opsAt,opA,opB,opC,opD,opE,opF,opG]
       iterate 20 ((refine Zaa (fun K hK=>?_); go_simp; refine hK _ ?_; clear hK K))
       (refine Zaa (fun K hK=>?_); go_simp; (apply Exists.intro; refine ⟨fun x=>?_,hK _ ?_⟩; (exact HINV.out x); clear hK K))
       refine Zac ?_
       intro U6 hU6
       have HS6:=hid (HS5.out.more (Ext.trans HXD.out hU6))
       clear hU6 e1 e2 e3 e4 HINV T5 HXD HS5
       go_wp2_with fail
       have hbn:=HS6.out.lb c hlt
       have hol:=HS6.out.old
       have hsc:=scale_c HS6.out.code HS6.out.field (bm c) (xm c) (bo c) (xo c) (Cd.B m1 c) (Cd.B o1 c) (by unfold OwnB; rw [HL1.out]; exact HS6.out.two.mm.row c hlt) (by unfold OwnB; rw [HL2.out]; exact HS6.out.two.mo.row c hlt) (by omega) (by omega) (HS6.out.two.dis c c hlt hlt) (HS6.out.two.mm.bl.byte c) (HS6.out.two.mo.bl.byte c) (by rw [HL1.out]; omega) (by rw [HL2.out]; omega) (inv y1) (inv_bd y1)
       rw [HL1.out,HL2.out] at hsc
       clear hbn hol
       refine hsc.mono ?_
       rintro e w7 ⟨rfl,oa,ob,on⟩
       have HS7:=hid (HS6.out.set2 hlt on (a:=Cd.scale (inv y1) (Cd.B m1 c)) (b:=Cd.scale (inv y1) (Cd.B o1 c)) (by rw [Cd.scale_len]; exact HL1.out) (by rw [Cd.scale_len]; exact HL2.out) (Cd.scale_byte _ _) (Cd.scale_byte _ _) (by unfold OwnB at oa; rw [Cd.scale_len,HL1.out] at oa; exact oa) (by unfold OwnB at ob; rw [Cd.scale_len,HL2.out] at ob; exact ob))
       clear hsc oa ob on HS6 hy256
       obtain ⟨m2,hm2⟩:∃ l,m1.set c (Cd.scale (inv y1) (Cd.B m1 c))=l:=⟨_,rfl⟩
       obtain ⟨o2,ho2⟩:∃ l,o1.set c (Cd.scale (inv y1) (Cd.B o1 c))=l:=⟨_,rfl⟩
       rw [hm2,ho2] at HS7
       have HM2:=hid (show Cd.colM m c=m2 by
        unfold Cd.colM
        simp only [HP.out,HM1.out]
        rw [HY1.out,hm2])
       have HO2:=hid (show Cd.colO m o c=o2 by
        unfold Cd.colO
        simp only [HP.out,HM1.out,HO1.out]
        rw [HY1.out,ho2])
       have HLM2:=hid (show m2.length=k from HS7.out.two.mm.bl.n)
       have HLO2:=hid (show o2.length=k from HS7.out.two.mo.bl.n)
       clear hm2 ho2 HL1 HL2
       go_wp2
       go_loopw [113] (fun t wq=>∃ i:Nat,t=.int .i64 i/\i<=k/\SolSt w wq cb fb gm cm go co k L bm xm bo xo (Cd.clearK m2 m2 c i) (Cd.clearK m2 o2 c i)) (fun t _=>k - (intOf t).toNat)
       case atStart=>exact ⟨0,rfl,by omega,HS7.out⟩
       case round =>
        clear HS7
        obtain ⟨i,rfl,hi,hst⟩:=hrel
        have HCS:=hid (Cd.clearK_succ m2 m2 c i)
        have HCO:=hid (Cd.clearK_succ m2 o2 c i)
        have hBi:=Cd.clearK_B m2 m2 c i i (by rw [HLM2.out]; exact hi)
        rw [if_neg (by omega)] at hBi
        obtain ⟨ma,hma⟩:∃ l,Cd.clearK m2 m2 c i=l:=⟨_,rfl⟩
        obtain ⟨oa,hoa⟩:∃ l,Cd.clearK m2 o2 c i=l:=⟨_,rfl⟩
        rw [hma,hoa] at hst
        rw [hma] at HCS hBi
        rw [hoa] at HCO
        have HQ:=hid hst
        have HMA:=hid hma; have HOA:=hid hoa
        clear hst hma hoa
        by_cases hik:i < k
        ·
         obtain ⟨y,hy⟩:∃ y,nth (Cd.B m2 i) c=y:=⟨_,rfl⟩
         have q1:=HQ.out.two.mm.cell hik
         have q2:=HQ.out.two.mm.byte (j:=c) hik hlt
         rw [hBi,hy] at q2
         have hy256:y < 256:=by
          have:=Zay (HQ.out.two.mm.bl.byte i) c
          rw [hBi,hy] at this; exact this
         rw [hy] at HCS HCO
         have i0:(0:Int)<=(i:Int):=by omega
         have i1:(i:Int) < (k:Int):=by omega
         clear hBi hy
         by_cases hgo2:i≠c/\y≠0
         ·
          have b1:((i:Int) != (c:Int))=true:=by rw [bne_iff_ne]; have:=hgo2.1; omega
          have b2:((y:Int) != 0)=true:=by rw [bne_iff_ne]; have:=hgo2.2; omega
          rw [if_pos hgo2] at HCS HCO
          have HNE:=hid hgo2.1
          clear hgo2
          have l1:=HQ.out.two.mm.bl.len i hik
          have l2:=HQ.out.two.mo.bl.len i hik
          have HL1:=hid l1; have HL2:=hid l2
          have xd:Ext wr wr.drew:=(Ext.refl wr).drew
          have e1:∀ z:SW Ext wr.drew,z.w.cell? ⟨gm,i,none⟩=some (.slice (some ⟨bm i,0,none⟩) k (xm i)):=fun z=>(Ext.trans xd z.ext).cell q1
          have e2:∀ z:SW Ext wr.drew,z.w.cell? ⟨gm,c,none⟩=some (.slice (some ⟨bm c,0,none⟩) k (xm c)):=fun z=>(Ext.trans xd z.ext).cell (HQ.out.two.mm.cell hlt)
          have e3:∀ z:SW Ext wr.drew,z.w.cell? ⟨cb,1,none⟩=some (.pointer (some ⟨fb,0,none⟩)):=fun z=>(Ext.trans xd z.ext).cell HQ.out.code
          have c0:(0:Int)<=(c:Int):=by omega
          have c1:(c:Int) < (k:Int):=by omega
          have HXD:=hid xd
          clear l1 l2 xd
          go_wp2_with fail
          clear q1 q2 b1 b2
          refine Zan (S:=Ext) 13 (.fin [0,1,2,3,4,5,6,7,8,9,10,11,12]) (by kernel_rfl) (by kernel_rfl) (fun _ _ d _ _ h=>by cases d<;>exact h) ?_
          rw [wpS]
          simp only [opsAt,opA,opB,opC,opD,opE,opF,opG]
          iterate 13 ((refine Zaa (fun K hK=>?_); go_simp; refine hK _ ?_; clear hK K))
          refine Zac ?_
          intro V hV
          have HV:=hid (HQ.out.more (Ext.trans HXD.out hV))
          have HXV:=hid (Ext.trans HXD.out hV)
          clear e1 e2 e3 hV
          go_wp2_with fail
          have hbi:=HV.out.lb i hik
          have hbc:=HV.out.lb c hlt
          have hol:=HV.out.old
          have hg:=HV.out.lg
          refine (add_c fb (bm i) k (xm i) (bm c) 0 k (xm c) (Cd.B ma i) (Cd.B ma c) (y:Int) V HV.out.field (HV.out.two.mm.row i hik) (HV.out.two.mm.bl.byte i) (by omega) (HV.out.two.mm.bytes (by omega) hlt) (by omega) (by omega) (fun q=>HNE.out (HV.out.two.im c i hlt hik q).symm)).mono ?_
          rintro e w3 ⟨rfl,oa3,on3⟩
          rw [Int.toNat_natCast] at oa3
          have HA3:=hid oa3; have HN3:=hid on3
          have dd:=hid (HV.out.two.dis)
          have xd3:Ext w3 w3.drew:=(Ext.refl w3).drew
          have e1:∀ z:SW Ext w3.drew,z.w.cell? ⟨go,i,none⟩=some (.slice (some ⟨bo i,0,none⟩) L (xo i)):=fun z=>(Ext.trans xd3 z.ext).cell (on3.cell (HV.out.two.mo.cell hik) (fun q=>HV.out.two.ne2 hik q))
          have e2:∀ z:SW Ext w3.drew,z.w.cell? ⟨go,c,none⟩=some (.slice (some ⟨bo c,0,none⟩) L (xo c)):=fun z=>(Ext.trans xd3 z.ext).cell (on3.cell (HV.out.two.mo.cell hlt) (fun q=>HV.out.two.ne2 hik q))
          have e3:∀ z:SW Ext w3.drew,z.w.cell? ⟨cb,1,none⟩=some (.pointer (some ⟨fb,0,none⟩)):=fun z=>(Ext.trans xd3 z.ext).cell (on3.cell HV.out.code (fun q=>by have q:cb=bm i:=q; omega))
          have HXD3:=hid xd3
          clear oa3 on3 xd3
          go_wp2_with fail
          refine Zan (S:=Ext) 13 (.fin [0,1,2,3,4,5,6,7,8,9,10,11,12]) (by kernel_rfl) (by kernel_rfl) (fun _ _ d _ _ h=>by cases d<;>exact h) ?_
          rw [wpS]
          simp only [opsAt,opA,opB,opC,opD,opE,opF,opG]
          iterate 13 ((refine Zaa (fun K hK=>?_); go_simp; refine hK _ ?_; clear hK K))
          refine Zac ?_
          intro V2 hV2
          have HN4:=hid (Only.ext HN3.out (Ext.trans HXD3.out hV2))
          have HA4:=hid (Zam HA3.out (Ext.trans HXD3.out hV2) (fun x=>x))
          clear e1 e2 e3 hV2
          go_wp2_with fail
          refine (add_c fb (bo i) L (xo i) (bo c) 0 L (xo c) (Cd.B oa i) (Cd.B oa c) (y:Int) V2 (HN4.out.at HV.out.field (fun q=>by have q:fb=bm i:=q; omega)) (Zam (HV.out.two.mo.row i hik) HN4.out (fun q=>dd.out i i hik hik q.symm)) (HV.out.two.mo.bl.byte i) (by omega) ((HV.out.two.mo.bytes (by omega) hlt).only0 HN4.out (fun q=>dd.out i c hik hlt q.symm)) (by omega) (by omega) (fun q=>HNE.out (HV.out.two.io c i hlt hik q).symm)).mono ?_
          rintro e w5 ⟨rfl,oa5,on5⟩
          rw [Int.toNat_natCast] at oa5
          have HEND:=hid (HV.out.set2 hik (w':=w5) (a:=Gf.addB (Cd.B ma i) (Cd.B ma c) y) (b:=Gf.addB (Cd.B oa i) (Cd.B oa c) y) (Only.trans (HN4.out.mono (G:=fun z=>z=bm i\/z=bo i) (fun _ _ h=>.inl h)) (on5.mono (G:=fun z=>z=bm i\/z=bo i) (fun _ _ h=>.inr h)) (fun _ _ h=>h)) (by rw [Gf.addB_len]; exact HL1.out) (by rw [Gf.addB_len]; exact HL2.out) (Gf.addB_byte _ _ _ hy256 (HV.out.two.mm.bl.byte i)) (Gf.addB_byte _ _ _ hy256 (HV.out.two.mo.bl.byte i)) (Zam HA4.out on5 (fun q=>dd.out i i hik hik q)) oa5)
          have HRR:=hid (show SolSt w w5 cb fb gm cm go co k L bm xm bo xo (Cd.clearK m2 m2 c (i+1)) (Cd.clearK m2 o2 c (i+1)) by rw [HCS.out,HCO.out]; exact HEND.out)
          clear oa5 on5 HEND
          go_wp2
          go_roundw
          case rel=>exact ⟨i+1,by go_num,by omega,HRR.out⟩
          case measure=>simp [intOf]; omega
         ·
          rw [if_neg hgo2] at HCS HCO
          have HRR:=hid (show SolSt w wr cb fb gm cm go co k L bm xm bo xo (Cd.clearK m2 m2 c (i+1)) (Cd.clearK m2 o2 c (i+1)) by rw [HCS.out,HCO.out]; exact HQ.out)
          by_cases hic:i=c
          ·
           obtain rfl:i=c:=hic
           clear hgo2
           go_wp2
           go_roundw
           case rel=>exact ⟨i+1,by go_num,by omega,HRR.out⟩
           case measure=>simp [intOf]; omega
          ·
           have b1:((i:Int) != (c:Int))=true:=by rw [bne_iff_ne]; omega
           have b2:((y:Int) != 0)=false:=by
            have:y=0:=Classical.not_not.1 fun q=>hgo2 ⟨hic,q⟩
            subst this; rfl
           clear hgo2
           go_wp2
           go_roundw
           case rel=>exact ⟨i+1,by go_num,by omega,HRR.out⟩
           case measure=>simp [intOf]; omega
        ·
         obtain rfl:k=i:=by omega
         have HFIN:=hid (show SolAt w wr cb fb gm cm go co k L (steps m0 o0 (c+1)) from by
          rw [HSS.out]
          refine ⟨bm,xm,bo,xo,?_⟩
          have e1:(Cd.step (m,o) c).1=ma:=by show Cd.clearK (Cd.colM m c) (Cd.colM m c) c m.length=ma; rw [HM2.out,HML.out,HMA.out]
          have e2:(Cd.step (m,o) c).2=oa:=by show Cd.clearK (Cd.colM m c) (Cd.colO m o c) c m.length=oa; rw [HM2.out,HO2.out,HML.out,HOA.out]
          rw [e1,e2]; exact HQ.out)
         clear HQ HMA HOA
         go_wp2
         go_roundw
         case rel=>exact ⟨c+1,by go_num,by omega,HFIN.out⟩
         case measure=>simp [intOf]; omega
   ·
    obtain rfl:k=c:=by omega
    have HFIN:=hid (HST.out)
    have hout:=(show SolAt w wr cb fb gm cm go co k L (m,o) from ⟨bm,xm,bo,xo,HST.out⟩).out (by omega)
    have HOUT2:=hid hout
    have HEQ:=hid (show (Cd.solve m0 o0).2=o by unfold Cd.solve; rw [HMK.out]; exact congrArg Prod.snd HMO.out)
    clear hout
    go_wp2
    go_ret
    exact ⟨go,co,rfl,by rw [HEQ.out]; exact HOUT2.out.1,HOUT2.out.2⟩
end Go.Proofs.YtgjnnbomnoafcaaGreatDoor
