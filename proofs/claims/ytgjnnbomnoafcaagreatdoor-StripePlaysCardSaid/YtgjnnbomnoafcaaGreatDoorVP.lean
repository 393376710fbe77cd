/- Texts of one proof, joined: RfCfg, RfFits, RfSupA, RfSupB, RfSupC. -/
import Derived.Test.YtgjnnbomnoafcaaGreatDoorVH
import Derived.Test.YtgjnnbomnoafcaaGreatDoorVM
import Derived.Test.YtgjnnbomnoafcaaGreatDoorVN
import Derived.Test.YtgjnnbomnoafcaaGreatDoorVL
import Derived.Test.YtgjnnbomnoafcaaGreatDoorVB
import Derived.Test.YtgjnnbomnoafcaaGreatDoorVO
set_option linter.unusedVariables false
set_option linter.unusedSimpArgs false
namespace Go.Proofs.YtgjnnbomnoafcaaGreatDoor
set_option linter.unusedVariables false
open Go Go.RowKit
theorem Cfg.right_conj (id k n st sl:Int):(⟨id,k,n,st,sl⟩:Cfg).right=true↔(1<=id)/\(id < 2147483648)/\(1<=k)/\(k<=n)/\(n<=8)/\(1<=st)/\(st<=64)/\(1<=sl)/\(sl<=4):=by
 rw [Cfg.right_iff]
 exact ⟨fun h=>by obtain ⟨h1,h2,h3,h4,h5,h6,h7,h8,h9⟩:=h; simp only at h1 h2 h3 h4 h5 h6 h7 h8 h9; omega,fun h=>by constructor<;>simp only<;>omega⟩
set_option maxRecDepth 100000 in
set_option maxHeartbeats 4000000 in
theorem refright_c (c:Cfg) (w:World) :
  Calls Tryz.prog 137 #[.agg (Cfg.A c)] w fun e w'=>e=.returned (.bool c.right)/\Ext w w':=by
 have a0:=Cfg.A0 c
 have a1:=Cfg.A1 c
 have a2:=Cfg.A2 c
 have a3:=Cfg.A3 c
 have a4:=Cfg.A4 c
 obtain ⟨id,k,n,st,sl⟩:=c
 obtain ⟨b,hb⟩:∃ b,(⟨id,k,n,st,sl⟩:Cfg).right=b:=⟨_,rfl⟩
 have HC:=hid (Cfg.right_conj id k n st sl)
 have HT:Hid ((1<=id)->(id < 2147483648)->(1<=k)->(k<=n)->(n<=8)->(1<=st)->(st<=64)->(1<=sl)->(sl<=4)->b=true):=hid fun q0 q1 q2 q3 q4 q5 q6 q7 q8=>by rw [<- hb]; exact HC.out.2 ⟨q0,q1,q2,q3,q4,q5,q6,q7,q8⟩
 have HF:Hid (¬((1<=id)/\(id < 2147483648)/\(1<=k)/\(k<=n)/\(n<=8)/\(1<=st)/\(st<=64)/\(1<=sl)/\(sl<=4))->b=false):=hid fun q=>by
  rw [<- hb]
  rcases hq:(⟨id,k,n,st,sl⟩:Cfg).right with _ | _
  ·
   rfl
  ·
   exact absurd (HC.out.1 hq) q
 rw [hb]
 simp only at a0 a1 a2 a3 a4
 clear hb HC
 generalize Cfg.A _=A at *
 by_cases q0:1<=id
 ·
  by_cases q1:id < 2147483648
  ·
   by_cases q2:1<=k
   ·
    by_cases q3:k<=n
    ·
     by_cases q4:n<=8
     ·
      by_cases q5:1<=st
      ·
       by_cases q6:st<=64
       ·
        by_cases q7:1<=sl
        ·
         by_cases q8:sl<=4
         ·
          have HV:=hid (HT.out q0 q1 q2 q3 q4 q5 q6 q7 q8)
          go_enter Tryz.func137,Tryz.ntmps137
          go_wp2
          go_ret
          exact ⟨Zas HV.out.symm,(Ext.refl w).alloc _⟩
         ·
          have HV:=hid (HF.out (fun e=>q8 (by have:=e; omega)))
          go_enter Tryz.func137,Tryz.ntmps137
          go_wp2
          go_ret
          exact ⟨Zas HV.out.symm,(Ext.refl w).alloc _⟩
        ·
         have HV:=hid (HF.out (fun e=>q7 (by have:=e; omega)))
         go_enter Tryz.func137,Tryz.ntmps137
         go_wp2
         go_ret
         exact ⟨Zas HV.out.symm,(Ext.refl w).alloc _⟩
       ·
        have HV:=hid (HF.out (fun e=>q6 (by have:=e; omega)))
        go_enter Tryz.func137,Tryz.ntmps137
        go_wp2
        go_ret
        exact ⟨Zas HV.out.symm,(Ext.refl w).alloc _⟩
      ·
       have HV:=hid (HF.out (fun e=>q5 (by have:=e; omega)))
       go_enter Tryz.func137,Tryz.ntmps137
       go_wp2
       go_ret
       exact ⟨Zas HV.out.symm,(Ext.refl w).alloc _⟩
     ·
      have HV:=hid (HF.out (fun e=>q4 (by have:=e; omega)))
      go_enter Tryz.func137,Tryz.ntmps137
      go_wp2
      go_ret
      exact ⟨Zas HV.out.symm,(Ext.refl w).alloc _⟩
    ·
     have HV:=hid (HF.out (fun e=>q3 (by have:=e; omega)))
     go_enter Tryz.func137,Tryz.ntmps137
     go_wp2
     go_ret
     exact ⟨Zas HV.out.symm,(Ext.refl w).alloc _⟩
   ·
    have HV:=hid (HF.out (fun e=>q2 (by have:=e; omega)))
    go_enter Tryz.func137,Tryz.ntmps137
    go_wp2
    go_ret
    exact ⟨Zas HV.out.symm,(Ext.refl w).alloc _⟩
  ·
   have HV:=hid (HF.out (fun e=>q1 (by have:=e; omega)))
   go_enter Tryz.func137,Tryz.ntmps137
   go_wp2
   go_ret
   exact ⟨Zas HV.out.symm,(Ext.refl w).alloc _⟩
 ·
  have HV:=hid (HF.out (fun e=>q0 (by have:=e; omega)))
  go_enter Tryz.func137,Tryz.ntmps137
  go_wp2
  go_ret
  exact ⟨Zas HV.out.symm,(Ext.refl w).alloc _⟩
set_option maxRecDepth 100000 in
theorem refsectors_c (c:Cfg) (h:c.Good) (w:World) :
  Calls Tryz.prog 183 #[.agg (Cfg.A c)] w fun e w'=>e=.returned (.int .i64 c.sectors)/\Ext w w':=by
 have a1:=Cfg.A1 c
 have a3:=Cfg.A3 c
 have a4:=Cfg.A4 c
 obtain ⟨b0,b1⟩:=sectors_bd c h
 have b2:=h.st0
 have b3:=h.st1
 have HR:Hid (c.sectors=1+c.slots*c.k+c.stripes):=hid rfl
 rw [HR.out]
 clear HR h
 obtain ⟨id,k,n,st,sl⟩:=c
 simp only at a1 a3 a4 b0 b1 b2 b3 ⊢
 generalize Cfg.A _=A at *
 obtain ⟨p,hp⟩:∃ p,sl*k=p:=⟨_,rfl⟩
 rw [hp] at b0 b1 ⊢
 have hw:wrap64 (sl*k)=p:=by rw [hp]; unfold wrap64; omega
 have w2:wrap64 (1+p)=1+p:=by unfold wrap64; omega
 have w3:wrap64 (1+p+st)=1+p+st:=by unfold wrap64; omega
 clear hp b0 b1 b2 b3
 go_enter Tryz.func183,Tryz.ntmps183
 go_wp2
 go_ret
 exact ⟨ret_int (by simp only [hw,w2,w3]),(Ext.refl w).alloc _⟩
attribute [local irreducible] wpSQ
set_option maxRecDepth 100000 in
set_option maxHeartbeats 2000000 in
theorem rffits_c {S:Nat->Prop} {w:World} {p:Nat} {R:Rck} (h:FRackAt S w p R) (hn1:1<=R.l.length) (c:Cfg) :
  Calls Tryz.prog 132 #[.pointer (some ⟨p,0,none⟩),.agg (Cfg.A c)] w fun e w'=>e=.returned (.bool (R.fits c))/\Ext w w':=by
 obtain ⟨W0,hW0⟩:∃ W,w.alloc (.cells (Cfg.A c) 74)=W:=⟨_,rfl⟩
 have X0:Ext w W0:=hW0▸(Ext.refl w).alloc _
 have xd:Ext W0 W0.drew:=(Ext.refl W0).drew
 have hc:W0.heap[w.heap.size]?=some (.cells (Cfg.A c) 74 (0,0)):=hW0▸heap_alloc_new _ _
 have lc:Hid (∀ x:SW Ext W0.drew,∀ j v,(Cfg.A c).toList[j]?=some v->x.w.cell? ((⟨w.heap.size,0,none⟩:Addr).add j)=some v):=hid fun x=>Zaj ((Ext.trans xd x.ext).at hc)
 have c2:∀ x:SW Ext W0.drew,x.w.cell? ⟨w.heap.size,2,none⟩=some (.int .i64 c.n):=fun x=>(Zaf ((Ext.trans xd x.ext).at hc)).trans (Cfg.A2 c)
 obtain ⟨b,_,cc,d,K,e1,rfl,e2a,rfl,hF,-,-⟩:=fat_disk h (j:=0) hn1
 have e2:w.cell? ⟨b,0,none⟩=some (.pointer (some ⟨K.p,0,none⟩)):=e2a
 clear e2a
 obtain ⟨b2,cc2,e3⟩:∃ b2 cc2,w.cell? ⟨K.p,0,none⟩=some (.slice (some ⟨b2,0,none⟩) R.sectors cc2):=⟨K.lb,K.c,by
  have q:w.cell? ⟨K.p,0,none⟩=some (.slice (some ⟨K.lb,0,none⟩) K.n K.c):=Zaf hF.own
  have e:R.sectors=K.n:=hF.len
  rw [e]; exact q⟩
 obtain ⟨d,hd⟩:∃ d,K.p=d:=⟨_,rfl⟩
 obtain ⟨n,hn⟩:∃ n,R.l.length=n:=⟨_,rfl⟩
 obtain ⟨m,hm⟩:∃ m,R.sectors=m:=⟨_,rfl⟩
 rw [hd] at e2 e3
 rw [hn] at e1 hn1
 rw [hm] at e3
 have r1:∀ x:SW Ext W0.drew,x.w.cell? ⟨p,0,none⟩=some (.slice (some ⟨b,0,none⟩) n cc):=fun x=>Ext.cell (Ext.trans X0 (Ext.trans xd x.ext)) e1
 have r2:∀ x:SW Ext W0.drew,x.w.cell? ⟨b,0,none⟩=some (.pointer (some ⟨d,0,none⟩)):=fun x=>Ext.cell (Ext.trans X0 (Ext.trans xd x.ext)) e2
 have r3:∀ x:SW Ext W0.drew,x.w.cell? ⟨d,0,none⟩=some (.slice (some ⟨b2,0,none⟩) m cc2):=fun x=>Ext.cell (Ext.trans X0 (Ext.trans xd x.ext)) e3
 have n0:(0:Int) < (n:Int):=by omega
 have n00:0 < n:=by omega
 have rc:Hid (∀ x:SW Ext W0.drew,Calls Tryz.prog 137 #[.agg (Cfg.A c)] x.w fun e w''=>e=.returned (.bool c.right)/\Ext x.w w''):=hid fun x=>refright_c c x.w
 have HX0:=hid X0
 have HF:Hid (R.fits c=(c.right && decide (c.n=(n:Int)) && decide (c.sectors<=(m:Int)))):=hid (by rw [<- hn,<- hm]; rfl)
 have HAG:=hid (Za6 c)
 clear h hc X0 e1 e2 e3 hF hd hn hm
 go_enter Tryz.func132,Tryz.ntmps132
 go_wp2_with fail
 refine Zan (S:=Ext) 27 (.fin [0,1,2,3,4,5,6,7,8,9,10,11,12,13,14,15,16,17,18,19,20,21,22,23,24,25,26]) (by kernel_rfl) (by kernel_rfl) (fun _ _ d _ _ h=>by cases d<;>exact h) ?_
 rw [wpS]
 simp only [opsAt,opA,opB,opC,opD,opE,opF,opG]
 refine Zaz 74 _ rfl ⟨w.heap.size,0,none⟩ rfl (Cfg.A c) rfl HAG.out lc.out ?_
 rcases hr:c.right with _ | _
 ·
  rw [hr] at rc
  have HFI:=hid (show R.fits c=false by rw [HF.out,hr]; rfl)
  (refine Zaa (fun K hK=>?_); go_simp; (apply Exists.intro; refine ⟨fun x=>?_,hK _ ?_⟩; (exact rc.out x); clear hK K))
  (refine Zaa (fun K hK=>?_); go_simp; refine hK _ ?_; clear hK K)
  iterate 8 ((refine Zcb rfl (fun K hK=>?_); go_simp; refine hK _ ?_; clear hK K))
  iterate 2 ((refine Zaa (fun K hK=>?_); go_simp; refine hK _ ?_; clear hK K))
  iterate 13 ((refine Zcb rfl (fun K hK=>?_); go_simp; refine hK _ ?_; clear hK K))
  (refine Zaa (fun K hK=>?_); go_simp; refine hK _ ?_; clear hK K)
  refine Zac ?_
  intro W hW
  go_wp2
  go_ret
  exact ⟨Zas HFI.out.symm,Ext.trans HX0.out (Ext.trans xd hW)⟩
 ·
  rw [hr] at rc
  have hg:=(Cfg.right_iff c).1 hr
  rcases hn:c.n == (n:Int) with _ | _
  ·
   have HFI:=hid (show R.fits c=false by rw [HF.out,hr,decide_eq_false (by simpa using hn)]; rfl)
   clear hr hg
   (refine Zaa (fun K hK=>?_); go_simp; (apply Exists.intro; refine ⟨fun x=>?_,hK _ ?_⟩; (exact rc.out x); clear hK K))
   iterate 9 ((refine Zaa (fun K hK=>?_); go_simp; refine hK _ ?_; clear hK K))
   iterate 2 ((refine Zaa (fun K hK=>?_); go_simp; refine hK _ ?_; clear hK K))
   iterate 13 ((refine Zcb rfl (fun K hK=>?_); go_simp; refine hK _ ?_; clear hK K))
   (refine Zaa (fun K hK=>?_); go_simp; refine hK _ ?_; clear hK K)
   refine Zac ?_
   intro W hW
   go_wp2
   go_ret
   exact ⟨Zas HFI.out.symm,Ext.trans HX0.out (Ext.trans xd hW)⟩
  ·
   have HFI:=hid (show R.fits c=decide (c.sectors<=(m:Int)) by rw [HF.out,hr,decide_eq_true (by simpa using hn)]; rfl)
   have ss:Hid (∀ x:SW Ext W0.drew,Calls Tryz.prog 183 #[.agg (Cfg.A c)] x.w fun e w''=>e=.returned (.int .i64 c.sectors)/\Ext x.w w''):=hid fun x=>refsectors_c c hg x.w
   clear hr hg
   (refine Zaa (fun K hK=>?_); go_simp; (apply Exists.intro; refine ⟨fun x=>?_,hK _ ?_⟩; (exact rc.out x); clear hK K))
   iterate 9 ((refine Zaa (fun K hK=>?_); go_simp; refine hK _ ?_; clear hK K))
   iterate 2 ((refine Zaa (fun K hK=>?_); go_simp; refine hK _ ?_; clear hK K))
   refine Zaz 74 _ rfl ⟨w.heap.size,0,none⟩ rfl (Cfg.A c) rfl HAG.out lc.out ?_
   (refine Zaa (fun K hK=>?_); go_simp; (apply Exists.intro; refine ⟨fun x=>?_,hK _ ?_⟩; (exact ss.out x); clear hK K))
   iterate 12 ((refine Zaa (fun K hK=>?_); go_simp; refine hK _ ?_; clear hK K))
   refine Zac ?_
   intro W hW
   go_wp2
   go_ret
   exact ⟨Zas HFI.out.symm,Ext.trans HX0.out (Ext.trans xd hW)⟩
end Go.Proofs.YtgjnnbomnoafcaaGreatDoor
namespace Go.Proofs.YtgjnnbomnoafcaaGreatDoor
set_option linter.unusedVariables false
open Go Go.RowKit
attribute [local irreducible] wpSQ
end Go.Proofs.YtgjnnbomnoafcaaGreatDoor
namespace Go.Proofs.YtgjnnbomnoafcaaGreatDoor
set_option linter.unusedVariables false
open Go Go.RowKit
theorem Rck.write_kind {R:Rck} {i s:Int} {b:List Nat} {er:Err} (h:(R.write i s b).1=some er):er.kind≠0:=by
 unfold Rck.write at h
 split at h
 ·
  cases h
 ·
  rename_i hm
  simp only [Option.some.injEq] at h
  subst h
  exact hm
end Go.Proofs.YtgjnnbomnoafcaaGreatDoor
