/- Texts of one proof, joined: RfStrD, RfStrE, LostNo, LostO, Plays11, AskRow11. -/
import Derived.Test.YtgjnnbomnoafcaaGreatDoorV2
import Derived.Test.YtgjnnbomnoafcaaGreatDoorV3
import Derived.Test.YtgjnnbomnoafcaaGreatDoorVP
import Derived.Test.YtgjnnbomnoafcaaGreatDoorVZ
import Derived.Test.YtgjnnbomnoafcaaGreatDoorVY
import Derived.Test.YtgjnnbomnoafcaaGreatDoorVB
import Derived.Test.YtgjnnbomnoafcaaGreatDoorVS
import Derived.Test.YtgjnnbomnoafcaaGreatDoorVD
import Derived.Test.YtgjnnbomnoafcaaGreatDoorVI
import Derived.Test.YtgjnnbomnoafcaaGreatDoorVF
import Derived.Test.YtgjnnbomnoafcaaGreatDoorVO
set_option linter.unusedVariables false
set_option linter.unusedSimpArgs false
namespace Go.Proofs.YtgjnnbomnoafcaaGreatDoor
set_option linter.unusedVariables false
open Go Go.RowKit Gf
theorem partsG_sub (g:Nat->Option Frm) (G:Int):∀ n,((partsG g G n).map (·.1)).Sublist (List.range n)
 | 0=>by simp [partsG]
 | n+1=>by
  rw [Zbg,List.map_append,List.range_succ]
  refine (partsG_sub g G n).append ?_
  rcases h:partAt g G n with _ | p
  ·
   simp
  ·
   have:=(partAt_some h).1
   simp [this]
def FSGetPost (w:World) (R:Rck) (c:Cfg) (s:Int) (e:Ending) (w':World):Prop:=∃ v,e=.returned (.tuple #[v,.int .i64 (R.sget c s).2.1,.int .i64 (okind (R.sget c s).2.2)])/\OwnVs w' w.heap.size 120 108 v ((R.sget c s).1.map bA)/\Ext w w'
attribute [local irreducible] wpSQ
set_option maxRecDepth 100000 in
set_option maxHeartbeats 4000000 in
theorem fsget_c {S:Nat->Prop} {w:World} {r:Nat} {R:Rck} (h:FRackAt S w r R) (hn1:1<=R.l.length) (hsm:R.l.length<=8) (hrok:∀ (i s k sl st:Int) f,R.get i s k sl st=some f->f.Ok) (hrr:∀ (i s k sl st:Int) f,R.get i s k sl st=some f->f.right=true) (h6:R.l.length<=6) (c:Cfg) (s:Int) :
  Calls Tryz.prog 66 #[.pointer (some ⟨r,0,none⟩),.agg (Cfg.A c),.int .i64 s] w (FSGetPost w R c s):=by
 have HP:Hid (FSGetPost w R c s=fun e w'=>∃ v,e=.returned (.tuple #[v,.int .i64 (R.sget c s).2.1,.int .i64 (okind (R.sget c s).2.2)])/\OwnVs w' w.heap.size 120 108 v ((R.sget c s).1.map bA)/\Ext w w'):=hid rfl
 rw [HP.out]
 have hz:=zero_block
 obtain ⟨W0,hW0⟩:∃ W,w.alloc (.cells (Cfg.A c) 74)=W:=⟨_,rfl⟩
 have HX0:=hid (show Ext w W0 from hW0▸(Ext.refl w).alloc _)
 have HC0:=hid (show W0.heap[w.heap.size]?=some (.cells (Cfg.A c) 74 (0,0)) from hW0▸heap_alloc_new _ _)
 have H0:=hid (h.ext HX0.out)
 have HN1:=hid hn1; have HSM:=hid hsm; have HROK:=hid hrok; have HRR:=hid hrr
 have HC46:=hid h6
 have HG0:Hid (R.sget c s=if R.sknown c s=true then
  if R.off=true\/(R.online.length:Int) < c.k then ([],0,some (.fault sSGet s (.no 7)))
  else if ((R.slook c s).2.length:Int) < c.k then ([],0,some (.fault sSGet s (.loss s (R.slook c s).2.length c.k)))
  else (decoded c (R.slook c s).2,(R.slook c s).1,none)
 else ([],0,some (.fault sSGet s (.no 1)))):=hid rfl
 have HOK:Hid (R.sknown c s=true↔(R.fits c=true/\0<=s)/\s < c.stripes):=hid (by
  unfold Rck.sknown
  simp only [Bool.and_eq_true,decide_eq_true_eq])
 clear h HP hn1 hsm hrok hrr h6
 go_enter Tryz.func66,Tryz.ntmps66
 go_wp2_with (guard_target=wpList _ _ _ (⟨some _,Op.load _ _,_,_,_,none⟩::_) _ _; refine Zae rfl 74 _ rfl ⟨w.heap.size,0,none⟩ rfl (Cfg.A c) (Za6 c) (Zaj HC0.out) ?_)
 refine (rffits_c H0.out HN1.out c).mono ?_
 rintro e w2 ⟨rfl,x2⟩
 have HX2:=hid (Ext.trans HX0.out x2)
 have H2:=hid (H0.out.ext x2)
 have HC2:=hid (Ext.at x2 HC0.out)
 have c3:w2.cell? ⟨w.heap.size,3,none⟩=some (.int .i64 c.stripes):=(Zaf HC2.out).trans (Cfg.A3 c)
 clear x2
 rcases hf:R.fits c with _ | _
 ·
  have HV:=hid (show R.sget c s=([],0,some (.fault sSGet s (.no 1))) by rw [HG0.out]; exact if_neg (by rw [HOK.out,hf]; simp))
  clear hf HG0 HOK
  go_wp2
  go_ret3
  rw [HV.out]
  exact ⟨_,rfl,OwnVs.nil _ _ _ _,HX2.out⟩
 ·
  have HF:=hid hf
  clear hf
  by_cases b0:0<=s
  case neg =>
   have b0n:s < 0:=by omega
   have HV:=hid (show R.sget c s=([],0,some (.fault sSGet s (.no 1))) by rw [HG0.out]; exact if_neg (by rw [HOK.out]; exact fun q=>b0 q.1.2))
   clear HG0 HOK
   go_wp2
   go_ret3
   rw [HV.out]
   exact ⟨_,rfl,OwnVs.nil _ _ _ _,HX2.out⟩
  have b0n:¬s < 0:=by omega
  by_cases b1:s < c.stripes
  case neg =>
   have b1n:s ≥ c.stripes:=by omega
   have HV:=hid (show R.sget c s=([],0,some (.fault sSGet s (.no 1))) by rw [HG0.out]; exact if_neg (by rw [HOK.out]; exact fun q=>b1 q.2))
   clear HG0 HOK
   go_wp2
   go_ret3
   rw [HV.out]
   exact ⟨_,rfl,OwnVs.nil _ _ _ _,HX2.out⟩
  have b1n:¬s ≥ c.stripes:=by omega
  have HKN:=hid (HOK.out.2 ⟨⟨HF.out,b0⟩,b1⟩)
  have HGD:=hid (Zbe HKN.out)
  have HSMC:=hid HSM.out
  clear HOK
  have xd:Ext w2 w2.drew:=(Ext.refl w2).drew
  have oo:∀ y:SW Ext w2.drew,y.w.cell? ⟨r,2,none⟩=some (.bool R.off):=fun y=>fat_off (H2.out.ext (Ext.trans xd y.ext))
  have c1y:∀ y:SW Ext w2.drew,y.w.cell? ⟨w.heap.size,1,none⟩=some (.int .i64 c.k):=fun y=>(Zaf ((Ext.trans xd y.ext).at HC2.out)).trans (Cfg.A1 c)
  have on:Hid (∀ y:SW Ext w2.drew,Calls Tryz.prog 154 #[.pointer (some ⟨r,0,none⟩)] y.w fun e w''=>e=.returned (.int .i64 (R.online.length:Nat))/\Ext y.w w''):=hid fun y=>(fonline_c (H2.out.ext (Ext.trans xd y.ext)) HSM.out).mono fun e w' q=>⟨q.1,q.2▸Ext.refl _⟩
  have HXD:=hid xd
  clear xd
  rcases ho:R.off with _ | _
  case true =>
   have HV:=hid (show R.sget c s=([],0,some (.fault sSGet s (.no 7))) by rw [HG0.out,if_pos HKN.out,if_pos (.inl ho)])
   rw [ho] at oo
   clear ho HG0
   go_wp2_with fail
   clear c3 b0 b1 b0n b1n
   refine Zal (S:=Ext) (.fin [0,1,2,3,4,5,6,7,8,9,10]) (by kernel_rfl) (by kernel_rfl) (fun _ _ d _ _ h=>by cases d<;>exact h) ?_
   rw [wpS]
   simp only [opsAt,opA,opB,opC,opD,opE,opF,opG]
   iterate 5 ((refine Zaa (fun K hK=>?_); go_simp; refine hK _ ?_; clear hK K))
   iterate 5 (refine Zcb rfl (fun K hK=>?_); go_simp; refine hK _ ?_; clear hK K)
   (refine Zaa (fun K hK=>?_); go_simp; refine hK _ ?_; clear hK K)
   refine Zac ?_
   intro V hV
   have HXV:=hid (Ext.trans HX2.out (Ext.trans HXD.out hV))
   clear hV oo c1y on
   go_wp2
   go_ret3
   rw [HV.out]
   exact ⟨_,rfl,OwnVs.nil _ _ _ _,HXV.out⟩
  have HG1:=hid (show R.sget c s=if (R.online.length:Int) < c.k then ([],0,some (.fault sSGet s (.no 7))) else if ((R.slook c s).2.length:Int) < c.k then ([],0,some (.fault sSGet s (.loss s (R.slook c s).2.length c.k))) else (decoded c (R.slook c s).2,(R.slook c s).1,none) by
   rw [HG0.out,if_pos HKN.out]
   by_cases q:(R.online.length:Int) < c.k
   ·
    rw [if_pos (.inr q),if_pos q]
   ·
    rw [if_neg (by rw [ho]; simp; omega),if_neg q])
  rw [ho] at oo
  clear ho HG0
  obtain ⟨ol,hol⟩:∃ ol,R.online.length=ol:=⟨_,rfl⟩
  rw [hol] at on HG1
  clear hol
  go_wp2_with fail
  clear c3 b0 b1 b0n b1n
  refine Zal (S:=Ext) (.fin [0,1,2,3,4,5,6,7,8,9,10]) (by kernel_rfl) (by kernel_rfl) (fun _ _ d _ _ h=>by cases d<;>exact h) ?_
  rw [wpS]
  simp only [opsAt,opA,opB,opC,opD,opE,opF,opG]
  iterate 6 ((refine Zaa (fun K hK=>?_); go_simp; refine hK _ ?_; clear hK K))
  (refine Zaa (fun K hK=>?_); go_simp; (apply Exists.intro; refine ⟨fun x=>?_,hK _ ?_⟩; (exact on.out x); clear hK K))
  iterate 4 ((refine Zaa (fun K hK=>?_); go_simp; refine hK _ ?_; clear hK K))
  refine Zac ?_
  intro V hV
  have HXV:=hid (Ext.trans HX2.out (Ext.trans HXD.out hV))
  have H3:=hid (H2.out.ext (Ext.trans HXD.out hV))
  have HC3:=hid (Ext.at (Ext.trans HXD.out hV) HC2.out)
  clear hV oo c1y on
  by_cases hol:(ol:Int) < c.k
  ·
   have HV:=hid (show R.sget c s=([],0,some (.fault sSGet s (.no 7))) by rw [HG1.out,if_pos hol])
   clear HG1
   go_wp2
   go_ret3
   rw [HV.out]
   exact ⟨_,rfl,OwnVs.nil _ _ _ _,HXV.out⟩
  have HG2:=hid (show R.sget c s=if ((R.slook c s).2.length:Int) < c.k then ([],0,some (.fault sSGet s (.loss s (R.slook c s).2.length c.k))) else (decoded c (R.slook c s).2,(R.slook c s).1,none) by rw [HG1.out,if_neg hol])
  clear HG1
  go_wp2_with (guard_target=wpList _ _ _ (⟨some _,Op.load _ _,_,_,_,none⟩::_) _ _; refine Zae rfl 74 _ rfl ⟨w.heap.size,0,none⟩ rfl (Cfg.A c) (Za6 c) (Zaj HC3.out) ?_)
  have hl:=fslook_c H3.out HROK.out HRR.out c s HKN.out
  rcases hsl:R.slook c s with ⟨G,ps⟩
  unfold FLookPost at hl
  rw [hsl] at hl HG2
  simp only at hl HG2
  refine hl.mono ?_
  clear hl
  rintro e w4 ⟨v4,rfl,hlk⟩
  obtain ⟨pa,pcp,hv4,hpa⟩:=hlk.parts
  subst hv4
  have HPT:=hid hpa
  have X4:=hlk.ext
  have HXW:=hid (Ext.trans HXV.out X4)
  have HC4:=hid (X4.at HC3.out)
  have HSL:=hid hsl
  have c1':w4.cell? ⟨w.heap.size,1,none⟩=some (.int .i64 c.k):=(Zaf HC4.out).trans (Cfg.A1 c)
  have c2':w4.cell? ⟨w.heap.size,2,none⟩=some (.int .i64 c.n):=(Zaf HC4.out).trans (Cfg.A2 c)
  obtain ⟨N,hN⟩:∃ N,ps.length=N:=⟨_,rfl⟩
  rw [hN] at HG2 ⊢
  have HN:=hid hN
  clear hlk hpa X4 hsl hN hol
  by_cases hk:(N:Int) < c.k
  ·
   have HV:=hid (show R.sget c s=([],0,some (.fault sSGet s (.loss s N c.k))) by rw [HG2.out,if_pos hk])
   clear HG2
   go_wp2
   go_ret3
   rw [HV.out]
   exact ⟨_,rfl,OwnVs.nil _ _ _ _,HXW.out⟩
  have HV:=hid (show R.sget c s=(decoded c ps,G,none) by rw [HG2.out,if_neg hk])
  have k0:=HGD.out.1.k0
  have kn:=HGD.out.1.k1
  have n8:=HGD.out.1.n1
  have hc46:c.n<=6:=by
   have hf:=HKN.out
   unfold Rck.sknown Rck.fits at hf
   simp only [Bool.and_eq_true,decide_eq_true_eq] at hf
   have e1:=hf.1.1.1.2
   have e2:=HC46.out
   omega
  obtain ⟨k,hkk⟩:∃ k:Nat,c.k=k:=⟨c.k.toNat,by omega⟩
  obtain ⟨n,hnn⟩:∃ n:Nat,c.n=n:=⟨c.n.toNat,by omega⟩
  have hps:=Rck.slook_eq HKN.out
  rw [HSL.out,show c.n.toNat=n by omega] at hps
  have hps2:ps=partsG (R.sgood c s) (newG (R.sgood c s) n) n:=(Prod.mk.inj hps).2
  have HPN:=hid (show ∀ p∈ps,p.1 < n from fun p hp=>(Zby (hps2▸hp)).1)
  have HND:=hid (show (ps.map (·.1)).Nodup from hps2▸Zb8 _ _ _)
  have HPL:=hid (show ∀ p∈ps,p.2.length=108/\∀ y∈p.2,y < 256 from fun p hp=>by
   obtain ⟨_,f,h1,h2⟩:=Zby (hps2▸hp)
   have ok:=HROK.out _ _ _ _ _ f h1
   rw [h2]
   exact ⟨ok.len,ok.byte⟩)
  have hNn:N<=n:=by rw [<- HN.out,hps2]; exact partsG_len _ _ _
  rw [hkk] at k0 kn hk c1'
  rw [hnn] at kn n8 c2' hc46
  have k1:1<=k:=by omega
  have kN:k<=N:=by omega
  have kn2:k<=n:=by omega
  have n82:n<=8:=by omega
  have HPV:=hid (show Cd.pivs ((ps.take k).map fun p=>Cd.row k p.1)=true from by
   have e:(ps.take k).map (fun p=>Cd.row k p.1)=((ps.take k).map (·.1)).map (Cd.row k):=by rw [List.map_map]; rfl
   rw [e]
   refine Cd.pivs_good k1 (by omega) (by rw [List.length_map,List.length_take,HN.out]; omega) ?_
   rw [List.map_take]
   refine (List.take_sublist _ _).trans ?_
   rw [hps2]
   refine (partsG_sub _ _ _).trans ?_
   have:(List.range n)=(List.range 6).take n:=by
    refine List.ext_getElem (by rw [List.length_take,List.length_range,List.length_range]; omega) fun i h1 h2=>?_
    rw [List.getElem_take,List.getElem_range,List.getElem_range]
   rw [this]; exact List.take_sublist _ _)
  obtain ⟨q,hq⟩:∃ q,(Cd.solve ((ps.take k).map fun p=>Cd.row k p.1) ((ps.take k).map fun p=>p.2)).2=q:=⟨_,rfl⟩
  have HDQ:=hid (show decoded c ps=q by unfold decoded; rw [hkk]; exact hq)
  have HQB:=hid (show Cd.Blocks k 108 q from by
   rw [<- hq]
   have hl:(ps.take k).length=k:=by rw [List.length_take,HN.out]; omega
   exact Cd.solve_blocks
    (Cd.Blocks.mem (by rw [List.length_map]; exact hl) (by intro b hb; obtain ⟨p,_,rfl⟩:=List.mem_map.1 hb; exact Cd.row_len _ _) (by intro b hb; obtain ⟨p,_,rfl⟩:=List.mem_map.1 hb; exact Cd.row_byte _ _))
    (Cd.Blocks.mem (by rw [List.length_map]; exact hl) (by intro b hb; obtain ⟨p,hp,rfl⟩:=List.mem_map.1 hb; exact (HPL.out p (List.mem_of_mem_take hp)).1) (by intro b hb; obtain ⟨p,hp,rfl⟩:=List.mem_map.1 hb; exact (HPL.out p (List.mem_of_mem_take hp)).2))
   )
  obtain ⟨pb,rfl,hpt⟩:=HPT.out (by intro q; have:=HN.out; rw [q] at this; simp at this; omega)
  have HPT2:=hid hpt
  have HQ:=hid hq
  clear hps hps2 hpt hq hkk hnn HG2 HPT k0 kn n8
  go_wp2_with fail
  clear c1' c2'
  refine (fdecode_c pb pcp N ps HPT2.out HN.out kN k1 kn2 n82 (by omega) (by omega) (by omega) HPN.out HND.out HPL.out HPV.out).mono ?_
  rintro e w6 ⟨g6,c6,rfl,hr6,x6⟩
  rw [HQ.out] at hr6
  have HRW:=hid hr6
  have HX6:=hid (Ext.trans HXW.out x6)
  clear hr6 x6
  have HO0:=hid (OwnVs.nil w6 w6.heap.size 120 108)
  go_wp2
  go_loopw [65,13] (fun t v wr=>∃ (j:Nat) (a:Option Addr) (c:Nat),t=.int .i64 j/\v=.slice a j c/\j<=k/\OwnVs wr w6.heap.size 120 108 v ((q.take j).map bA)/\Ext w6 wr) (fun t _ _=>k - (intOf t).toNat)
  case atStart=>exact ⟨0,none,0,rfl,rfl,by omega,HO0.out,Ext.refl _⟩
  case round =>
   clear HO0
   obtain ⟨j,a',c',rfl,rfl,hj,hown,hx3⟩:=hrel
   have HO:=hid hown
   have HX3:=hid hx3
   clear hown hx3
   by_cases hjn:j < k
   ·
    have hql:j < q.length:=by rw [HQB.out.n]; exact hjn
    obtain ⟨D,hD⟩:∃ D,q[j]?=some D:=⟨q[j],List.getElem?_eq_getElem hql⟩
    have hdl:D.length=108:=by
     have:=HQB.out.len j hjn
     unfold Cd.B at this
     rw [List.getD_eq_getElem?_getD,hD] at this
     exact this
    obtain ⟨b,bc,q1,q2⟩:=HRW.out j D hD
    rw [hdl] at q1 q2
    have hq1:=HX3.out.cell q1
    have hcp:=copy_ablk wr b 0 bc D hdl (q2.onlyG HX3.out (fun z=>z))
    have HSB:Hid ((bA D).size=108):=hid (by rw [Za3,hdl])
    obtain ⟨W5,hW5⟩:∃ W,wr.alloc (.cells (bA D) 120)=W:=⟨_,rfl⟩
    obtain ⟨xb,hxb⟩:∃ b,wr.heap.size=b:=⟨_,rfl⟩
    have XW:=hid (show Ext wr W5 from hW5▸(Ext.refl wr).alloc _)
    have HAB:=hid (show W5.heap[xb]?=some (.cells (bA D) 120 (0,0)) from hxb▸hW5▸heap_alloc_new _ _)
    rw [hW5,hxb] at hcp
    obtain ⟨v',w3,hap,hown2,_,hx4⟩:=(HO.out.ext XW.out).add (tsl:=98) Tryz.underlying98 infoBlk (by show (bA z108).size=108; rw [Za3]; simp [z108]) (by omega) (bA D) (by rw [Za3,hdl]) (bA_one _) (by rw [List.length_map,List.length_take]; omega) (by omega) (Ext.trans HX3.out XW.out).size
    have e:q.take (j+1)=q.take j++[D]:=by
     rw [List.getElem?_eq_getElem hql] at hD
     rw [List.take_succ_eq_append_getElem hql,Option.some.inj hD]
    obtain ⟨a2,c2,ev2,_⟩:=hown2.slice
    have hl2:((q.take j).map bA++[bA D]).length=j+1:=by rw [List.length_append,List.length_map,List.length_take]; simp; omega
    rw [hl2] at ev2
    subst ev2
    have HO2:Hid (OwnVs w3 w6.heap.size 120 108 (.slice a2 (j+1) c2) ((q.take (j+1)).map bA)):=hid (by rw [e,List.map_append]; exact hown2)
    have HX4:=hid (hx4 w6 (Nat.le_refl _) (Ext.trans HX3.out XW.out))
    have j0:(0:Int)<=(j:Int):=by omega
    have j1:(j:Int) < (k:Int):=by omega
    clear hown2 hx4 hl2 q1 q2 hD hdl hW5 e hql
    go_wp2_with (first
     | (guard_target=wpList _ _ _ (⟨some _,Op.load _ _,_,_,_,none⟩::_) _ _; refine Zae rfl 120 _ rfl ⟨xb,0,none⟩ rfl (bA D) (by rw [HSB.out]; exact aggBlock) (Zaj HAB.out) ?_)
     | (guard_target=wpList _ _ _ (⟨some _,Op.buildSlice _ _ _,_,_,_,none⟩::_) _ _; refine Zag rfl 98 120 _ rfl (bA D) _ _ 108 108 Tryz.underlying98 infoBlk (by omega) (by omega) rfl rfl HSB.out ?_)
     | (at_builtin; refine wpList_append_run rfl _ _ _ rfl _ _ _ _ rfl rfl hap ?_))
    go_roundw
    case rel=>exact ⟨j+1,a2,c2,by go_num,rfl,by omega,HO2.out,HX4.out⟩
    case measure=>simp [intOf]; omega
   ·
    obtain rfl:k=j:=by omega
    have HFI:=hid (show q.take k=q from List.take_of_length_le (by rw [HQB.out.n]; exact Nat.le_refl _))
    go_wp2
    go_ret3
    rw [HV.out,HDQ.out]
    exact ⟨_,rfl,by have:=HO.out.down (B':=w.heap.size) (by have:=HX6.out.size; omega); rw [HFI.out] at this; exact this,Ext.trans HX6.out HX3.out⟩
end Go.Proofs.YtgjnnbomnoafcaaGreatDoor
namespace Go.Proofs.YtgjnnbomnoafcaaGreatDoor
set_option linter.unusedVariables false
open Go Go.RowKit Gf
attribute [local irreducible] wpSQ
set_option maxRecDepth 100000 in
set_option maxHeartbeats 1000000 in
theorem parts_c (ps:List (Nat × List Nat)) (hn:ps.length<=8) (a1 a2:Option Addr) (c1 c2:Nat) (w:World) (h1:ps≠[]->∃ g,a1=some ⟨g,0,none⟩/\PartsAt w g 108 ps) (h2:ps≠[]->∃ g,a2=some ⟨g,0,none⟩/\PartsAt w g 108 ps) :
  Calls Tryz.prog 70 #[.slice a1 ps.length c1,.slice a2 ps.length c2] w fun e w'=>e=.returned (.bool true)/\Ext w w':=by
 have H1:=hid h1
 have H2:=hid h2
 obtain ⟨N,hN⟩:∃ N,ps.length=N:=⟨_,rfl⟩
 have HN:=hid hN
 rw [hN] at hn ⊢
 have hne:((N:Int) != (N:Int))=false:=by simp
 clear h1 h2 hN
 go_enter Tryz.func70,Tryz.ntmps70
 go_wp2
 clear hne
 go_loopw [13] (fun t wr=>∃ j:Nat,t=.int .i64 j/\j<=N/\Ext w wr) (fun t _=>N - (intOf t).toNat)
 case atStart=>exact ⟨0,rfl,by omega,Ext.refl _⟩
 case round =>
  obtain ⟨j,rfl,hj,hx⟩:=hrel
  have HX:=hid hx
  clear hx
  by_cases hlt:j < N
  ·
   have j0:(0:Int)<=(j:Int):=by omega
   have j1:(j:Int) < (N:Int):=by omega
   obtain ⟨p,hp⟩:∃ p,ps[j]?=some p:=⟨_,List.getElem?_eq_getElem (by rw [HN.out]; exact hlt)⟩
   have hne:ps≠[]:=fun q=>by rw [q] at hp; simp at hp
   obtain ⟨g1,rfl,k1⟩:=H1.out hne
   obtain ⟨g2,rfl,k2⟩:=H2.out hne
   obtain ⟨x1,b1,o1,d1,y1,z1⟩:=k1 j p hp
   obtain ⟨x2,b2,o2,d2,y2,z2⟩:=k2 j p hp
   have HXD:=hid (Ext.trans HX.out (Ext.refl wr).drew)
   have e1:∀ y:SW Ext wr.drew,y.w.cell? ⟨g1,j*2,none⟩=some (.int .i64 p.1):=fun y=>(Ext.trans HXD.out y.ext).cell x1
   have e2:∀ y:SW Ext wr.drew,y.w.cell? ⟨g2,j*2,none⟩=some (.int .i64 p.1):=fun y=>(Ext.trans HXD.out y.ext).cell x2
   have f1:∀ y:SW Ext wr.drew,y.w.cell? ⟨g1,j*2+1,none⟩=some (.slice (some ⟨b1,o1,none⟩) 108 d1):=fun y=>(Ext.trans HXD.out y.ext).cell y1
   have f2:∀ y:SW Ext wr.drew,y.w.cell? ⟨g2,j*2+1,none⟩=some (.slice (some ⟨b2,o2,none⟩) 108 d2):=fun y=>(Ext.trans HXD.out y.ext).cell y2
   have sc:Hid (∀ y:SW Ext wr.drew,Calls Tryz.prog 36 #[.slice (some ⟨b1,o1,none⟩) 108 d1,.slice (some ⟨b2,o2,none⟩) 108 d2] y.w fun e w''=>e=.returned (.bool true)/\Ext y.w w''):=hid fun y=>(same_c d1 d2 (z1.onlyG (Ext.trans HXD.out y.ext) (fun z=>z)) (z2.onlyG (Ext.trans HXD.out y.ext) (fun z=>z))).mono fun e w' q=>⟨by rw [q.1,decide_eq_true rfl],q.2⟩
   have pn:((p.1:Int) != (p.1:Int))=false:=by simp
   clear hp hne x1 x2 y1 y2 z1 z2 k1 k2
   go_wp2_with fail
   refine Zal (S:=Ext) (.fin [0,1,2,3,4,5,6,7,8,9,10,11,12,13,14,15,16,17,18,19,20,21,22,23,24]) (by kernel_rfl) (by kernel_rfl) (fun _ _ d _ _ h=>by cases d<;>exact h) ?_
   rw [wpS]
   simp only [opsAt,opA,opB,opC,opD,opE,opF,opG]
   iterate 22 ((refine Zaa (fun K hK=>?_); go_simp; refine hK _ ?_; clear hK K))
   (refine Zaa (fun K hK=>?_); go_simp; (apply Exists.intro; refine ⟨fun x=>?_,hK _ ?_⟩; (exact sc.out x); clear hK K))
   iterate 2 ((refine Zaa (fun K hK=>?_); go_simp; refine hK _ ?_; clear hK K))
   refine Zac ?_
   intro W hW
   have HXW:=hid (Ext.trans HXD.out hW)
   clear hW e1 e2 f1 f2 sc
   go_wp2
   go_roundw
   case rel=>exact ⟨j+1,by go_num,by omega,HXW.out⟩
   case measure=>simp [intOf]; omega
  ·
   obtain rfl:N=j:=by omega
   go_wp2
   go_ret
   exact ⟨rfl,HX.out⟩
end Go.Proofs.YtgjnnbomnoafcaaGreatDoor
namespace Go.Proofs.YtgjnnbomnoafcaaGreatDoor
set_option linter.unusedVariables false
open Go.RowKit Go.Extern.Stop Go.Stop Go.Extern Go
namespace LossNo
theorem typeOfN (v:Value) (w:World):(ReflectliteType.typeOf #[.iface 31 v]).run Tryz.prog w=.ok (.iface 288 (.agg #[.pointer (some ⟨1,31,none⟩)])) w:=by kernel_rfl
theorem assN (w:World):(ReflectliteType.relation "AssignableTo" ReflectliteType.assignableTo #[.agg #[.pointer (some ⟨1,31,none⟩)],.iface 288 (.agg #[.pointer (some ⟨1,127,none⟩)])]).run Tryz.prog w=.ok (.bool false) w:=by kernel_rfl
theorem noAsN (v:Value) (w:World):Sem.run Tryz.prog (Instr.typeAssert (.iface 31 v) 25 292 true) w=.ok (.tuple #[.nilIface,.bool false]) w :=
 run_typeAssert_lacksB Tryz.underlying292 (by kernel_rfl) (by kernel_rfl) v _ w
theorem noUn (v:Value) (w:World):Sem.run Tryz.prog (Instr.typeAssert (.iface 31 v) 25 295 true) w=.ok (.tuple #[.nilIface,.bool false]) w :=
 run_typeAssert_lacksB Tryz.underlying295 (by kernel_rfl) (by kernel_rfl) v _ w
theorem noUns (v:Value) (w:World):Sem.run Tryz.prog (Instr.typeAssert (.iface 31 v) 25 296 true) w=.ok (.tuple #[.nilIface,.bool false]) w :=
 run_typeAssert_lacksB Tryz.underlying296 (by kernel_rfl) (by kernel_rfl) v _ w
end LossNo
set_option maxRecDepth 100000 in
set_option maxHeartbeats 2000000 in
theorem asn_c (er:Err) (hl:er.lost=false) (tb:Nat) (a:Addr) (cur:Array Value) (w:World) (ht:w.heap[tb]?=some (.cells cur 127 (0,0))) (hc:cur.size=3) (ha:w.cell? a=some (.pointer (some ⟨tb,0,none⟩))) :
  Calls Tryz.prog 169 #[er.val,.iface 230 (.pointer (some ⟨tb,0,none⟩)),.agg #[.pointer (some ⟨1,230,none⟩),.pointer (some a),.int .u64 150],.iface 288 (.agg #[.pointer (some ⟨1,127,none⟩)])] w
   fun e w'=>e=.returned (.bool false)/\Ext w w':=by
 have x106:=@run_callFunc_extern Tryz.prog 170 _ ReflectliteType.typeOf Tryz.func170 (by kernel_rfl) (by kernel_rfl) (by kernel_rfl) (by kernel_rfl)
 have x111:=@run_callFunc_extern Tryz.prog 203 _ (ReflectliteValue.method (ReflectliteValue.valueError "reflectlite.Value.Elem" 0) ReflectliteValue.elem) Tryz.func203 (by kernel_rfl) (by kernel_rfl) (by kernel_rfl) (by kernel_rfl)
 have x112:=@run_callFunc_extern Tryz.prog 204 _ ReflectliteValue.set Tryz.func204 (by kernel_rfl) (by kernel_rfl) (by kernel_rfl) (by kernel_rfl)
 have x102:=@run_callFunc_extern Tryz.prog 166 _ (fun args=>ReflectliteValue.unpack (args.getD 0 (.tuple #[]))) Tryz.func166 (by kernel_rfl) (by kernel_rfl) (by kernel_rfl) (by kernel_rfl)
 have x141:=@run_callFunc_extern Tryz.prog 261 _ (ReflectliteType.relation "AssignableTo" ReflectliteType.assignableTo) Tryz.func261 (by kernel_rfl) (by kernel_rfl) (by kernel_rfl) (by kernel_rfl)
 have tF:=LossFacts.typeOfF
 have aF:=LossFacts.assX
 have tN:=LossNo.typeOfN
 have aN:=LossNo.assN
 have n1:=LossNo.noAsN
 have n2:=LossNo.noUn
 have n3:=LossNo.noUns
 have HT:=hid ht; have HA:=hid ha; have HL:=hid hl
 have htl:=lt_of_block ht
 clear ht ha hl
 go_enter Tryz.func169,Tryz.ntmps169
 go_wp2
 have hbox:(w.alloc (.cells #[.pointer (some ⟨1,230,none⟩),.pointer (some a),.int .u64 150] 247)).heap[w.heap.size]?=some (.cells #[.pointer (some ⟨1,230,none⟩),.pointer (some a),.int .u64 150] 247 (0,0)):=Zad
 have hX0:Ext w (w.alloc (.cells #[.pointer (some ⟨1,230,none⟩),.pointer (some a),.int .u64 150] 247)):=(Ext.refl w).alloc _
 generalize (w.alloc (.cells #[.pointer (some ⟨1,230,none⟩),.pointer (some a),.int .u64 150] 247))=W at *
 go_loopw [0] (fun v wr=>∃ e':Err,v=e'.val/\e'.lost=false/\Ext W wr) (fun v _=>Err.vdepth v)
 case atStart=>exact ⟨er,rfl,HL.out,Ext.refl _⟩
 case round =>
  obtain ⟨e',rfl,hk,hXr⟩:=hrel
  have hX1:Ext w wr:=Ext.trans hX0 hXr
  have hbox:=hXr.at hbox
  have tb1:=hX1.at HT.out
  have aa1:=hX1.cell HA.out
  have htl1:=lt_of_block tb1
  rcases e' with n | ⟨lg,lh,ln⟩ | ⟨op,at_,e2⟩
  ·
   have hv:(Err.no n).val=.iface 31 (.int .i64 n):=rfl
   have HX1:=hid hX1
   clear hk aa1 tF aF hbox tb1 hX1 hX0 hXr
   go_wp2
   go_ret
   exact ⟨rfl,HX1.out⟩
  ·
   cases hk
  ·
   have hv:(Err.fault op at_ e2).val=.iface 241 (.agg #[.string op,.int .i64 at_,e2.val]):=rfl
   have hk':Hid (e2.lost=false):=hid hk
   obtain ⟨t2,v2,hq⟩:∃ t v,e2.val=.iface t v:=by cases e2<;>exact ⟨_,_,rfl⟩
   rw [hq] at hv
   have HQ:=hid hq
   have nA:=LossFacts.noAs
   have hU:=LossFacts.hasUnwrap
   clear hk aa1 tN aN n1 n2 n3 hq tb1
   go_wp2
   go_roundw
   case rel=>exact ⟨e2,HQ.out.symm,hk'.out,Ext.trans hXr ((Ext.refl wr).alloc _)⟩
   case measure =>
    show Err.vdepth (.iface t2 v2) < Err.vdepth (Err.fault op at_ e2).val
    rw [<- HQ.out,Err.vdepth_val,Err.vdepth_val]; exact Nat.lt_succ_self _
set_option maxRecDepth 100000 in
set_option maxHeartbeats 2000000 in
theorem Asn_c (er:Err) (hl:er.lost=false) (tb:Nat) (cur:Array Value) (w:World) (hg:EtLaid w) (ht:w.heap[tb]?=some (.cells cur 127 (0,0))) (hc:cur.size=3) :
  Calls Tryz.prog 100 #[er.val,.iface 230 (.pointer (some ⟨tb,0,none⟩))] w
   fun e w'=>e=.returned (.bool false)/\Ext w w':=by
 obtain ⟨t2,v2,hq⟩:=er.iface
 have HQ:=hid hq
 rw [hq]
 have hgl:=World.block_lt_of_cell? w _ hg
 have x103:=@run_callFunc_extern Tryz.prog 167 _ (ReflectliteValue.methodAny (ReflectliteValue.valueError "reflectlite.Value.Type" 0) (fun t _ _ _=>ReflectliteType.toType t)) Tryz.func167 (by kernel_rfl) (by kernel_rfl) (by kernel_rfl) (by kernel_rfl)
 have x104:=@run_callFunc_extern Tryz.prog 168 _ (ReflectliteValue.method (ReflectliteValue.valueError "reflectlite.Value.IsNil" 0) ReflectliteValue.isNil) Tryz.func168 (by kernel_rfl) (by kernel_rfl) (by kernel_rfl) (by kernel_rfl)
 have x102:=@run_callFunc_extern Tryz.prog 166 _ (fun args=>ReflectliteValue.unpack (args.getD 0 (.tuple #[]))) Tryz.func166 (by kernel_rfl) (by kernel_rfl) (by kernel_rfl) (by kernel_rfl)
 have x127:=@run_callFunc_extern Tryz.prog 247 _ (ReflectliteType.abiMethod fun t=>do pure (.int .u8 (<- Rtype.kind t))) Tryz.func247 (by kernel_rfl) (by kernel_rfl) (by kernel_rfl) (by kernel_rfl)
 have x143:=@run_callFunc_extern Tryz.prog 263 _ (ReflectliteType.method ReflectliteType.elem) Tryz.func263 (by kernel_rfl) (by kernel_rfl) (by kernel_rfl) (by kernel_rfl)
 have x144:=@run_callFunc_extern Tryz.prog 264 _ (ReflectliteType.relation "Implements" ReflectliteType.implements_) Tryz.func264 (by kernel_rfl) (by kernel_rfl) (by kernel_rfl) (by kernel_rfl)
 have vP:=LossFacts.valueOfP
 have tP:=LossFacts.typeP
 have kP:=LossFacts.kindP
 have kE:=LossFacts.kindF
 have eP:=LossFacts.elemP
 have iE:=LossFacts.implF
 have hg1:((w.alloc (.cells #[.pointer (some ⟨tb,0,none⟩)] 230)).alloc (.cells #[.pointer (some ⟨1,230,none⟩),.pointer (some ⟨w.heap.size,0,none⟩),.int .u64 150] 247)).cell? ⟨0,0,none⟩=some (.iface 288 (.agg #[.pointer (some ⟨1,25,none⟩)])):=by
  rw [World.cell?_alloc_lt _ _ ⟨0,0,none⟩ (by simp),World.cell?_alloc_lt _ _ ⟨0,0,none⟩ hgl]; exact hg
 have n8:=LossFacts.isNilP ⟨w.heap.size,0,none⟩ ⟨tb,0,none⟩ ((w.alloc (.cells #[.pointer (some ⟨tb,0,none⟩)] 230)).alloc (.cells #[.pointer (some ⟨1,230,none⟩),.pointer (some ⟨w.heap.size,0,none⟩),.int .u64 150] 247)) (by simp)
 have HT:=hid ht
 clear hq ht
 go_enter Tryz.func100,Tryz.ntmps100
 go_wp2_with (go_at_call 169; fail)
 have hX:=((Ext.refl w).alloc (.cells #[.pointer (some ⟨tb,0,none⟩)] 230)).alloc (.cells #[.pointer (some ⟨1,230,none⟩),.pointer (some ⟨w.heap.size,0,none⟩),.int .u64 150] 247)
 refine Calls.mono (by rw [<- HQ.out]; exact asn_c er hl tb ⟨w.heap.size,0,none⟩ cur _ (Ext.at hX HT.out) hc (by simp)) ?_
 rintro e w' ⟨rfl,ho⟩
 have HO:=hid ho
 clear ho hg1 n8
 go_wp2
 go_ret
 exact ⟨rfl,Ext.trans hX HO.out⟩
set_option maxRecDepth 100000 in
set_option maxHeartbeats 1000000 in
theorem lost_no (er:Err) (hl:er.lost=false) (w:World) (hg:EtLaid w):Calls Tryz.prog 71 #[er.val] w fun e w'=>e=.returned (lostV (0,0,0) false)/\Ext w w':=by
 have hz:=zero_loss
 have hb0:=built_loss0
 obtain ⟨t2,v2,hq⟩:=er.iface
 have HQ:=hid hq
 rw [hq]
 obtain ⟨W0,hW0⟩:∃ W,w.alloc (.cells (lcells (0,0,0)) 127)=W:=⟨_,rfl⟩
 have x0:Ext w W0:=hW0▸(Ext.refl w).alloc _
 have hr0:W0.heap[w.heap.size]?=some (.cells (lcells (0,0,0)) 127 (0,0)):=hW0▸heap_alloc_new _ _
 have hsz0:W0.heap.size=w.heap.size+1:=by rw [<- hW0]; simp
 obtain ⟨W1,hW1⟩:∃ W,W0.alloc (.cells (lcells (0,0,0)) 127)=W:=⟨_,rfl⟩
 have x1:Ext W0 W1:=hW1▸(Ext.refl W0).alloc _
 have hr1:W1.heap[w.heap.size+1]?=some (.cells (lcells (0,0,0)) 127 (0,0)):=by rw [<- hsz0]; exact hW1▸heap_alloc_new _ _
 have HX1:=hid (Ext.trans x0 x1)
 have HR1:=hid (x1.at hr0)
 have HAS:=hid (Asn_c er hl (w.heap.size+1) (lcells (0,0,0)) W1 (hg.only HX1.out (fun x=>x)) hr1 rfl)
 clear hq x0 x1 hr0 hr1 hg hl
 go_enter Tryz.func71,Tryz.ntmps71
 go_wp2_with (go_at_call 100; fail)
 refine Calls.mono (by rw [<- HQ.out]; exact HAS.out) ?_
 rintro e w' ⟨rfl,ho⟩
 have HO:=hid ho
 have HR:=hid (ho.at HR1.out)
 clear ho
 go_wp2_with (first
  | (guard_target=wpList _ _ _ (⟨some _,Op.build _ _,_,_,_,none⟩::_) _ _; refine Zav rfl 127 _ rfl (lcells (0,0,0)) ?_ ?_; exact hb0)
  | (guard_target=wpList _ _ _ (⟨none,Op.store _ _ _,_,_,_,none⟩::_) _ _; refine Zab rfl 127 _ _ rfl w.heap.size rfl (lcells (0,0,0)) _ rfl 127 (Zcq _) HR.out rfl (lcells_one _) ?_))
 refine bodyPost_ret (Zak Tryz.results71 rfl (Zcq _) (setRow_heap _ _ _ _ _ _ HR.out)) rfl ?_
 exact ⟨rfl,Ext.then (Ext.trans HX1.out HO.out) (Zah _ _ _) (fun i hi=>by omega)⟩
open Go Go.RowKit
def lossO:Option Err->Int × Int × Int
 | none=>(0,0,0)
 | some er=>if er.lost=true then er.lossOf else (0,0,0)
def isLostO:Option Err->Bool
 | none=>false
 | some er=>er.lost
theorem lostO_c (o:Option Err) (w:World) (hg:EtLaid w):Calls Tryz.prog 71 #[oErr o] w fun e w'=>e=.returned (.tuple #[.agg (lcells (lossO o)),.bool (isLostO o)])/\Ext w w':=by
 rcases o with _ | er
 ·
  exact lost_nil w
 ·
  rcases h:er.lost with _ | _
  ·
   have e1:lossO (some er)=(0,0,0):=by simp [lossO,h]
   have e2:isLostO (some er)=false:=h
   rw [e1,e2]
   exact lost_no er h w hg
  ·
   have e1:lossO (some er)=er.lossOf:=by simp [lossO,h]
   have e2:isLostO (some er)=true:=h
   rw [e1,e2]
   exact lost_yes er h w hg
open Go Go.RowKit Gf
theorem Rck.Dim.eachS {α:Type} {n m:Nat} {f:Rck->α->Option Err × Rck} (hf:∀ R a,Rck.Dim R n m->Rck.Dim (f R a).2 n m) (l:List α):∀ R,Rck.Dim R n m->Rck.Dim (Go.Proofs.YtgjnnbomnoafcaaGreatDoor.each f l R).2 n m:=by
 induction l with
 | nil=>exact fun R h=>h
 | cons a l ih =>
  intro R h
  have h1:=hf R a h
  rcases hq:f R a with ⟨o,R1⟩
  rw [hq] at h1
  rcases o with _ | e
  ·
   rw [each_ok hq]; exact ih R1 h1
  ·
   rw [each_err hq]; exact h1
theorem Rck.Dim.sput {R:Rck} {n m:Nat} (h:Rck.Dim R n m) (c:Cfg) (s gen:Int) (l:List (List Nat)):Rck.Dim (R.sput c s gen l).2 n m:=by
 have h1:Rck.Dim (Go.Proofs.YtgjnnbomnoafcaaGreatDoor.each (Rck.srow c s gen l) R.online R).2 n m:=Rck.Dim.eachS (f:=Rck.srow c s gen l) (fun R d h=>Rck.Dim.write h _ _ _) _ R h
 have h2:Rck.Dim (R.sputs c s gen l).2 n m:=by
  unfold Rck.sputs
  split
  ·
   exact h1
  ·
   exact Rck.Dim.eachS (f:=fun R d=>R.flush (d:Nat)) (fun R d h=>Rck.Dim.flush h _) _ _ h1
 unfold Rck.sput
 split
 ·
  exact h2
 ·
  exact h
theorem Rck.Dim.sknown {R:Rck} {c:Cfg} {n m:Nat} (h:Rck.Dim R n m) (hc:c.Good) (hn:c.n=n) (hm:c.sectors=m) (n1:1<=n) {s:Int} (h0:0<=s) (h1:s < c.stripes):R.sknown c s=true:=by
 have hf:R.fits c=true:=by
  unfold Rck.fits
  rw [(Cfg.right_iff c).2 hc,h.len,hn,hm,h.sectors n1]
  simp
 unfold Rck.sknown
 rw [hf]
 simp [h0,h1]
theorem RackAt.sget_fit {S:Nat->Prop} {w:World} {r:Nat} {R:Rck} (h:RackAt S w r R) (c:Cfg) (s:Int):(∀ b∈(R.sget c s).1,b.length=108)/\(R.sget c s).1.length<=8:=by
 unfold Rck.sget
 split
 ·
  rename_i hk
  split
  ·
   exact ⟨by simp,by simp⟩
  ·
   split
   ·
    exact ⟨by simp,by simp⟩
   ·
    rename_i hps
    have hgd:=Zbe hk
    have hq:=Rck.slook_eq hk
    have k0:=hgd.1.k0; have k1:=hgd.1.k1; have n1:=hgd.1.n1
    have hbl:∀ p∈(R.slook c s).2,p.2.length=108/\∀ y∈p.2,y < 256:=fun p hp=>by
     rw [hq] at hp
     obtain ⟨_,f,h1,h2⟩:=Zby hp
     have ok:=h.got_ok h1
     rw [h2]
     exact ⟨ok.len,ok.byte⟩
    have hl:((R.slook c s).2.take c.k.toNat).length=c.k.toNat:=by rw [List.length_take]; omega
    have hb:Cd.Blocks c.k.toNat 108 (decoded c (R.slook c s).2):=by
     unfold decoded
     exact Cd.solve_blocks
      (Cd.Blocks.mem (by rw [List.length_map]; exact hl) (by intro b hb; obtain ⟨p,_,rfl⟩:=List.mem_map.1 hb; exact Cd.row_len _ _) (by intro b hb; obtain ⟨p,_,rfl⟩:=List.mem_map.1 hb; exact Cd.row_byte _ _))
      (Cd.Blocks.mem (by rw [List.length_map]; exact hl) (by intro b hb; obtain ⟨p,hp,rfl⟩:=List.mem_map.1 hb; exact (hbl p (List.mem_of_mem_take hp)).1) (by intro b hb; obtain ⟨p,hp,rfl⟩:=List.mem_map.1 hb; exact (hbl p (List.mem_of_mem_take hp)).2))
    refine ⟨fun b hbm=>?_,by show (decoded c (R.slook c s).2).length<=8; rw [hb.n]; omega⟩
    obtain ⟨i,hi,rfl⟩:=List.mem_iff_getElem.1 hbm
    have:=hb.len i (by rw [<- hb.n]; exact hi)
    unfold Cd.B at this
    rwa [List.getD_eq_getElem?_getD,List.getElem?_eq_getElem hi] at this
 ·
  exact ⟨by simp,by simp⟩
theorem Rck.sget_loss {R:Rck} {c:Cfg} {s:Int} {er:Err} (h:(R.sget c s).2.2=some er) (hl:er.lost=true):er.lossOf=(s,((R.slook c s).2.length:Int),c.k):=by
 unfold Rck.sget at h
 split at h
 ·
  split at h
  ·
   cases h; cases hl
  ·
   split at h
   ·
    cases h; rfl
   ·
    cases h
 ·
  cases h; cases hl
theorem slook_len8 {R:Rck} {c:Cfg} {s:Int} (hk:R.sknown c s=true):(R.slook c s).2.length<=8:=by
 have hq:=Rck.slook_eq hk
 have hgd:=Zbe hk
 rw [hq]
 have:=partsG_len (R.sgood c s) (newG (R.sgood c s) c.n.toNat) c.n.toNat
 have:=hgd.1.n1; have:=hgd.1.k0; have:=hgd.1.k1
 show (partsG _ _ _).length<=8
 omega
def Ak11A (o0:Int) (o1:Int) (o2:Int) (o3:Int) (o4:Bool) (k d s q x:Int) (ba:Option Addr) (bl bc:Nat):Array Value:=#[.int .i64 o0,.int .i64 o1,.int .i64 o2,.int .i64 o3,.bool o4,.int .i64 k,.int .i64 d,.int .i64 s,.int .i64 q,.int .u32 x,.slice ba bl bc]
theorem Ak11A_size (o0:Int) (o1:Int) (o2:Int) (o3:Int) (o4:Bool) (k d s q x:Int) (ba:Option Addr) (bl bc:Nat):(Ak11A o0 o1 o2 o3 o4 k d s q x ba bl bc).size=11:=rfl
theorem aggAk11:AggType Tryz.prog 112 11:=⟨by kernel_rfl,by kernel_rfl⟩
theorem zero_Ak11 (w:World):Sem.run Tryz.prog (zeroValue 112) w=.ok (.agg (Ak11A 0 0 0 0 false 0 0 0 0 0 none 0 0)) w:=by kernel_rfl
theorem Ak11A_one (o0:Int) (o1:Int) (o2:Int) (o3:Int) (o4:Bool) (k d s q x:Int) (ba:Option Addr) (bl bc:Nat):∀ v∈(Ak11A o0 o1 o2 o3 o4 k d s q x ba bl bc).toList,v.oneCell'=true:=by
 intro v hv
 simp only [Ak11A,List.mem_cons,List.not_mem_nil,or_false] at hv
 rcases hv with rfl | rfl | rfl | rfl | rfl | rfl | rfl | rfl | rfl | rfl | rfl<;>rfl
theorem Ak11A_wear (o0:Int) (o1:Int) (o2:Int) (o3:Int) (o4:Bool) (k d s q x:Int) (ba:Option Addr) (bl bc:Nat) (y:Nat):(Ak11A o0 o1 o2 o3 o4 k d s q x ba bl bc)[5+y]?=(WrA k d s q x ba bl bc)[y]?:=by
 rcases Nat.lt_or_ge y 6 with h | h
 ·
  rcases y with _ | _ | _ | _ | _ | _ | y
  all_goals first | rfl | omega
 ·
  rw [Array.getElem?_eq_none (by rw [Ak11A_size]; omega),Array.getElem?_eq_none (by rw [WrA_size]; omega)]
def I64 (z:Int):Prop:=-9223372036854775808<=z/\z<=9223372036854775807
def Ak11sAt (w:World) (a:Option Addr) (len:Nat):Prop:=∀ i,i < len->∃ b off o0 o1 o2 o3 o4 k d s q x ba bl bc bits,a=some ⟨b,off,none⟩/\b < w.heap.size/\(I64 o0/\I64 o1/\I64 o2/\I64 o3)/\0<=x/\x < 4294967296/\BitsIn w ba bl bits/\∀ y v,(Ak11A o0 o1 o2 o3 o4 k d s q x ba bl bc).toList[y]?=some v->w.cell? ⟨b,off+i*11+y,none⟩=some v
set_option maxRecDepth 100000 in
theorem open_Ak11s {H:Type} {enc:TypeId × Value->H} {w:World} {base:Nat} {spare:Nat->Bool} {held:Bool} {fuel:Nat} {a:Option Addr} {len cap:Nat} {x:DataW H × List MemPlace} (h:DataW.trod enc Tryz.prog w base spare held fuel 110 [.slice a len cap]=some x):Ak11sAt w a len:=by
 intro i hi
 rcases Go.Deep.open_slice Tryz.underlying110 h with ⟨hcs,_⟩ | ⟨ad,len',cap',m,n,D,Pl,hcs,hb,hl,hm,hmm,_,hx⟩
 ·
  simp at hcs; omega
 ·
  simp only [List.cons.injEq,Value.slice.injEq,and_true] at hcs
  obtain ⟨rfl,rfl,rfl⟩:=hcs
  have him:i < m:=by
   rw [hmm]; split<;>omega
  obtain ⟨cs',h1,h2⟩:=hx i him
  have ce:Tryz.prog.cellsOf 112=11:=by kernel_rfl
  have c3:Tryz.prog.cellsOf 3=1:=by kernel_rfl
  have c5:Tryz.prog.cellsOf 34=1:=by kernel_rfl
  have c4:Tryz.prog.cellsOf 33=1:=by kernel_rfl
  have c6:Tryz.prog.cellsOf 4=1:=by kernel_rfl
  have c7:Tryz.prog.cellsOf 79=6:=by kernel_rfl
  rw [ce] at h1
  obtain ⟨_,hlen,hcell⟩:=World.cells?_some h1
  obtain ⟨xs,k,hk,hxy,_,hxl,hf⟩:=DataW.trod_struct Tryz.underlying112 h2
  match xs,hxl,cs',hlen with
  | [y0,y1,y2,y3,y4,y5],_,[v0,v1,v2,v3,v4,v5,v6,v7,v8,v9,v10],_ =>
   have g0:=hf 0 _ rfl
   have g1:=hf 1 _ rfl
   have g2:=hf 2 _ rfl
   have g3:=hf 3 _ rfl
   have g4:=hf 4 _ rfl
   have g5:=hf 5 _ rfl
   simp [c3,c4,c5,c6,c7] at g0 g1 g2 g3 g4 g5
   obtain ⟨us,k2,hk2,hxy2,_,hul,hu⟩:=DataW.trod_struct Tryz.underlying79 g5
   match us,hul with
   | [u0,u1,u2,u3,u4,u5],_ =>
    have j0:=hu 0 _ rfl
    have j1:=hu 1 _ rfl
    have j2:=hu 2 _ rfl
    have j3:=hu 3 _ rfl
    have j4:=hu 4 _ rfl
    have j5:=hu 5 _ rfl
    simp [c3,c4,c5,c6] at j0 j1 j2 j3 j4 j5
    obtain ⟨z0,e0,_,hw0⟩:=DataW.trod_int Tryz.underlying3 g0
    obtain ⟨z1,e1,_,hw1⟩:=DataW.trod_int Tryz.underlying3 g1
    obtain ⟨z2,e2,_,hw2⟩:=DataW.trod_int Tryz.underlying3 g2
    obtain ⟨z3,e3,_,hw3⟩:=DataW.trod_int Tryz.underlying3 g3
    obtain ⟨z4,e4,_⟩:=DataW.trod_bool Tryz.underlying4 g4
    obtain ⟨a0,f0,_,_⟩:=DataW.trod_int Tryz.underlying3 j0
    obtain ⟨a1,f1,_,_⟩:=DataW.trod_int Tryz.underlying3 j1
    obtain ⟨a2,f2,_,_⟩:=DataW.trod_int Tryz.underlying3 j2
    obtain ⟨a3,f3,_,_⟩:=DataW.trod_int Tryz.underlying3 j3
    obtain ⟨a4,f4,_,hw⟩:=DataW.trod_int Tryz.underlying33 j4
    obtain ⟨ba,bl,bc,bits,f5,hbits⟩:=open_bits j5
    simp only [List.cons.injEq,and_true] at e0 e1 e2 e3 e4 f0 f1 f2 f3 f4
    subst e0 e1 e2 e3 e4 f0 f1 f2 f3 f4 f5
    have hxw:0<=a4/\a4 < 4294967296:=by
     have:=hw
     simp only [Lit.wf,Bool.and_eq_true,decide_eq_true_eq] at this
     simp only [IntKind.min,IntKind.max,IntKind.signed,IntKind.bits,Bool.false_eq_true,if_false] at this
     omega
    have hz0:∃ v,w.cell? (ad.add 0)=some v:=by
     obtain ⟨cs0,k1,_⟩:=hx 0 (by omega)
     rw [ce] at k1
     obtain ⟨_,k2,k3⟩:=World.cells?_some k1
     have k4:=k3 0 (by omega)
     rw [Go.Deep.add_add] at k4
     match cs0,k2 with
     | v::_,_=>exact ⟨v,k4⟩
    obtain ⟨v,hv0⟩:=hz0
    obtain ⟨b,off,rfl,hbl⟩:=cell_plain hv0
    refine ⟨b,off,z0,z1,z2,z3,z4,a0,a1,a2,a3,a4,ba,bl,bc,bits,rfl,hbl,⟨bounds_i64 hw0,bounds_i64 hw1,bounds_i64 hw2,bounds_i64 hw3⟩,hxw.1,hxw.2,hbits,fun y v hv=>?_⟩
    have hy:y < 11:=by
     rcases Nat.lt_or_ge y 11 with q | q
     ·
      exact q
     ·
      rw [List.getElem?_eq_none (by simpa [Ak11A] using q)] at hv; cases hv
    have:=hcell y hy
    rw [Go.Deep.add_add,addr_plain,<- Nat.add_assoc] at this
    rw [this]
    exact hv
end Go.Proofs.YtgjnnbomnoafcaaGreatDoor
