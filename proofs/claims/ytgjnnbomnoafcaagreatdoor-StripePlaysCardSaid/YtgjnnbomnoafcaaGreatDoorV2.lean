/- Texts of one proof, joined: RfCodeA, RfCodeB, RfStrA, RfStrB, RfStrC. -/
import Derived.Test.YtgjnnbomnoafcaaGreatDoorVW
import Derived.Test.YtgjnnbomnoafcaaGreatDoorVY
import Derived.Test.YtgjnnbomnoafcaaGreatDoorVU
import Derived.Test.YtgjnnbomnoafcaaGreatDoorVZ
import Derived.Test.YtgjnnbomnoafcaaGreatDoorVC
import Derived.Test.YtgjnnbomnoafcaaGreatDoorVM
import Derived.Test.YtgjnnbomnoafcaaGreatDoorVL
set_option linter.unusedVariables false
set_option linter.unusedSimpArgs false
namespace Go.Proofs.YtgjnnbomnoafcaaGreatDoor
set_option linter.unusedVariables false
open Go Go.RowKit Gf
def FRowPost (w:World) (k a:Nat) (e:Ending) (w':World):Prop:=∃ b,e=.returned (.slice (some ⟨b,0,none⟩) k k)/\w.heap.size<=b/\Blk w' b (Cd.row k a)/\Ext w w'
set_option maxRecDepth 100000 in
set_option maxHeartbeats 2000000 in
theorem frow_c (k n a:Nat) (hk:1<=k) (hkn:k<=n) (hn:n<=8) (ha:a < n) (w:World) :
  Calls Tryz.prog 197 #[.int .i64 k,.int .i64 n,.int .i64 a] w (FRowPost w k a):=by
 have k1:¬(k:Int) < 1:=by omega
 have k2:¬(n:Int) < (k:Int):=by omega
 have k3:¬(8:Int) < (n:Int):=by omega
 have k4:¬(a:Int) < 0:=by omega
 have k5:¬(n:Int)<=(a:Int):=by omega
 have hmk:Sem.run Tryz.prog (Instr.makeSlice 38 (.int .i64 k) (.int .i64 k)) w=.ok (.slice (some ⟨w.heap.size,0,none⟩) k k) (w.alloc (.cells (bA (List.replicate k 0)) 5)):=Zbs (k:Int) (by omega) (by omega) w
 obtain ⟨W,hW⟩:∃ W,w.alloc (.cells (bA (List.replicate k 0)) 5)=W:=⟨_,rfl⟩
 obtain ⟨b,hb⟩:∃ b,w.heap.size=b:=⟨_,rfl⟩
 rw [hW,hb] at hmk
 have XW:=hid (show Ext w W from hW▸(Ext.refl w).alloc _)
 have B0:=hid (show Blk W b (rowK k a 0) from by rw [rowK_zero,<- hW,<- hb]; exact Zad)
 have HBB:=hid hb
 clear hW hb
 go_enter Tryz.func197,Tryz.ntmps197
 go_wp2
 clear k1 k2 k3 k4 k5 hmk
 go_loopw [8] (fun t wq=>∃ i:Nat,t=.int .i64 i/\i<=k/\Blk wq b (rowK k a i)/\Only (fun x=>x=b) W wq) (fun t _=>k - (intOf t).toNat)
 case atStart=>exact ⟨0,rfl,by omega,B0.out,Only.refl _ _⟩
 case round =>
  clear B0
  obtain ⟨i,rfl,hi,hbl,hon⟩:=hrel
  have HBL:=hid hbl
  have HON:=hid hon
  by_cases hik:i < k
  ·
   have c1:=hbl.cell i (by rw [Zbx]; exact hik)
   have f1:=hbl.free i
   have i0:(0:Int)<=(i:Int):=by omega
   have i1:(i:Int) < (k:Int):=by omega
   obtain ⟨x,hx⟩:∃ x,nth (rowK k a i) i=x:=⟨_,rfl⟩
   rw [hx] at c1
   clear hx hbl hon
   by_cases hjk:k<=a
   ·
    have j1:¬(a:Int) < (k:Int):=by omega
    have hxr:Go.bits .xor .i64 (a:Int) (i:Int)=((a ^^^ i:Nat):Int):=Zb2 a i (by omega) (by omega)
    have hxs:=xor_small a i (by omega) (by omega)
    have HV:=hid (show nth (Cd.row k a) i=inv (a ^^^ i) by rw [row_nth k a i hik,if_pos hjk])
    obtain ⟨y,hy⟩:∃ y,a ^^^ i=y:=⟨_,rfl⟩
    rw [hy] at hxr hxs HV
    have hym:(y:Int) % 256=(y:Int):=by omega
    have hyk:IntKind.u8.wrap (y:Int)=(y:Int):=by rw [IntKind.wrap_u8]; omega
    clear hy
    go_wp2_with fail
    refine (refInv_c (y:Int) wr (by omega)).mono ?_
    rintro e w2 ⟨rfl,rfl⟩
    rw [Int.toNat_natCast]
    go_wp2
    go_roundw
    case rel=>exact ⟨i+1,by go_num,by omega,by rw [<- rowK_set k a i hik _ HV.out]; exact HBL.out.set i _,Only.trans HON.out (Zap _ b i _) (fun _ _ h=>h)⟩
    case measure=>simp [intOf]; omega
   ·
    have j1:(a:Int) < (k:Int):=by omega
    by_cases hji:a=i
    ·
     have b1:((i:Int) == (a:Int))=true:=by simp [hji]
     have HV:=hid (show nth (Cd.row k a) i=1 by rw [row_nth k a i hik,if_neg hjk,if_pos hji])
     have HR:=hid (rowK_set k a i hik 1 HV.out)
     have HBS:=hid (HBL.out.set i 1)
     have HOS:=hid (Only.trans HON.out (Zap wr b i (.int .u8 (1:Nat))) (fun _ _ h=>h))
     clear HV
     obtain rfl:a=i:=hji
     clear b1
     go_wp2
     go_roundw
     case rel=>exact ⟨a+1,by go_num,by omega,by rw [<- HR.out]; exact HBS.out,HOS.out⟩
     case measure=>simp [intOf]; omega
    ·
     have b1:((i:Int) == (a:Int))=false:=by rw [beq_eq_false_iff_ne]; omega
     have HR:=hid (rowK_keep k a i hik (by rw [row_nth k a i hik,if_neg hjk,if_neg hji]))
     clear c1 f1
     go_wp2
     go_roundw
     case rel=>exact ⟨i+1,by go_num,by omega,by rw [<- HR.out]; exact HBL.out,HON.out⟩
     case measure=>simp [intOf]; omega
  ·
   obtain rfl:k=i:=by omega
   rw [rowK_all] at hbl
   have HBE:=hid hbl
   clear hbl hon HBL
   go_wp2
   go_ret
   exact ⟨b,rfl,Nat.le_of_eq HBB.out,HBE.out,Ext.then XW.out HON.out (fun x hx q=>by have:=HBB.out; omega)⟩
def RowsG (w:World) (g:Nat) (ls:List (List Nat)):Prop:=∀ i l,ls[i]?=some l->∃ b off c,w.cell? ⟨g,i,none⟩=some (.slice (some ⟨b,off,none⟩) l.length c)/\BytesAt w (some ⟨b,off,none⟩) l.length l
theorem RowsG.row {w:World} {g L:Nat} {ls:List (List Nat)} (h:RowsG w g ls) (hlen:∀ j,j < ls.length->(Cd.B ls j).length=L) {j:Nat} (hj:j < ls.length):∃ b off c,w.cell? ⟨g,j,none⟩=some (.slice (some ⟨b,off,none⟩) L c)/\BytesAt w (some ⟨b,off,none⟩) L (Cd.B ls j):=by
 have e:ls[j]?=some (Cd.B ls j):=by unfold Cd.B; rw [List.getD_eq_getElem?_getD,List.getElem?_eq_getElem hj]; rfl
 obtain ⟨b,off,c,h1,h2⟩:=h j _ e
 rw [hlen j hj] at h1 h2
 exact ⟨b,off,c,h1,h2⟩
theorem eql_nil (b k:Nat) (w:World):Sem.run Tryz.prog (binOp .eql 38 (.slice (some ⟨b,0,none⟩) k k) (.slice none 0 0)) w=.ok (.bool false) w:=by kernel_rfl
def FEncPost (w:World) (n k:Nat) (ls:List (List Nat)) (e:Ending) (w':World):Prop:=∃ g c,e=.returned (.tuple #[.slice (some ⟨g,0,none⟩) n c,.int .i64 0])/\RowsAt w' g ((List.range n).map fun i=>Cd.mix (Cd.row k i) ls)/\Ext w w'
attribute [local irreducible] wpSQ
set_option maxRecDepth 100000 in
set_option maxHeartbeats 8000000 in
theorem fencode_c {w:World} {k n L:Nat} (g gc:Nat) (ls:List (List Nat)) (hl:RowsG w g ls) (hlk:ls.length=k) (k1:1<=k) (kn:k<=n) (hn8:n<=8) (L0:0 < L) (hL:L<=200)
  (hlen:∀ j,j < ls.length->(Cd.B ls j).length=L) (hls:∀ j,∀ x∈Cd.B ls j,x < 256) :
  Calls Tryz.prog 192 #[.int .i64 k,.int .i64 n,.slice (some ⟨g,0,none⟩) k gc] w (FEncPost w n k ls):=by
 have HL:=hid hl
 have HLK:=hid hlk
 have HLEN:=hid hlen
 have HLS:=hid hls
 have HKN:=hid (And.intro k1 (And.intro kn hn8))
 have HML:=hid (show ∀ i,(Cd.mix (Cd.row k i) ls).length=L from fun i=>by unfold Cd.mix; rw [Cd.mixK_len,hlen 0 (by omega)])
 have HMB:=hid (show ∀ i,∀ x∈Cd.mix (Cd.row k i) ls,x < 256 from fun i=>by unfold Cd.mix; exact Cd.mixK_byte _ ls _ (Cd.row_byte k i) hls)
 have HROW:=hid (fun j (hj:j < k)=>hl.row hlen (j:=j) (by omega))
 obtain ⟨b0,of0,c0,z0,_⟩:=HROW.out 0 (by omega)
 have HZ0:=hid z0
 have HR0:=hid (fun a (ha:a < n) (w:World)=>frow_c k n a k1 kn hn8 ha w)
 have kb:((k:Int) != (k:Int))=false:=by simp
 clear hl hlk hlen hls z0
 go_enter Tryz.func192,Tryz.ntmps192
 go_wp2_with fail
 refine (HR0.out 0 (by omega) w).mono ?_
 rintro e w1 ⟨rb0,rfl,_,_,x1⟩
 have HX1:=hid x1
 have hnil:=eql_nil rb0 k w1
 clear x1
 go_wp2_with fail
 clear hnil
 go_loopw [8] (fun t wr=>∃ i:Nat,t=.int .i64 i/\i<=k/\Ext w1 wr) (fun t _=>k - (intOf t).toNat)
 case atStart=>exact ⟨0,rfl,by omega,Ext.refl _⟩
 case round =>
  obtain ⟨i,rfl,hi,hx⟩:=hrel
  have HXI:=hid hx
  clear hx
  by_cases hik:i < k
  ·
   have i0:(0:Int)<=(i:Int):=by omega
   have i1:(i:Int) < (k:Int):=by omega
   have i2:(0:Int) < (k:Int):=by omega
   have i3:0 < k:=by omega
   obtain ⟨bi,oi,ci,zi,_⟩:=HROW.out i hik
   have HXD:=hid (show Ext w wr.drew from Ext.trans HX1.out (Ext.trans HXI.out (Ext.refl wr).drew))
   have e0:∀ y:SW Ext wr.drew,y.w.cell? ⟨g,i,none⟩=some (.slice (some ⟨bi,oi,none⟩) L ci):=fun y=>(Ext.trans HXD.out y.ext).cell zi
   have e1:∀ y:SW Ext wr.drew,y.w.cell? ⟨g,0,none⟩=some (.slice (some ⟨b0,of0,none⟩) L c0):=fun y=>(Ext.trans HXD.out y.ext).cell HZ0.out
   clear zi
   go_wp2_with fail
   refine Zal (S:=Ext) (.fin [0,1,2,3,4,5,6,7,8,9]) (by kernel_rfl) (by kernel_rfl) (fun _ _ d _ _ h=>by cases d<;>exact h) ?_
   rw [wpS]
   simp only [opsAt,opA,opB,opC,opD,opE,opF,opG]
   iterate 10 ((refine Zaa (fun K hK=>?_); go_simp; refine hK _ ?_; clear hK K))
   refine Zac ?_
   intro V hV
   have HV:=hid (Ext.trans HXI.out (Ext.trans (Ext.refl wr).drew hV))
   clear hV e0 e1 HXD
   go_wp2
   go_roundw
   case rel=>exact ⟨i+1,by go_num,by omega,HV.out⟩
   case measure=>simp [intOf]; omega
  ·
   obtain rfl:k=i:=by omega
   have HE0:=hid (show EncSt wr wr L k ls 0 (.slice none 0 0) from ⟨Ext.refl _,[],OwnVs.nil _ _ _ _,rfl,fun i hi=>by omega⟩)
   obtain ⟨wB,hwB⟩:∃ W,W=wr:=⟨_,rfl⟩
   subst hwB
   have HXB:=hid (Ext.trans HX1.out HXI.out)
   clear HXI HX1
   go_wp2_with fail
   go_loopw [10,9] (fun t v wq=>∃ (j:Nat) (a:Option Addr) (c:Nat),t=.int .i64 j/\v=.slice a j c/\j<=n/\EncSt wB wq L k ls j v) (fun t _ _=>n - (intOf t).toNat)
   case atStart=>exact ⟨0,none,0,rfl,rfl,by omega,HE0.out⟩
   case round =>
    clear HE0
    obtain ⟨j,a,c,rfl,rfl,hj,hst⟩:=hrel
    obtain ⟨wK,hwK⟩:∃ W,W=wr:=⟨_,rfl⟩
    subst hwK
    have HST:=hid hst
    have HX:=hid (Ext.trans HXB.out hst.ext)
    clear hst
    by_cases hjn:j < n
    ·
     have j0:(0:Int)<=(j:Int):=by omega
     have j1:(j:Int) < (n:Int):=by omega
     have j2:(0:Int) < (k:Int):=by omega
     have e1:wK.cell? ⟨g,0,none⟩=some (.slice (some ⟨b0,of0,none⟩) L c0):=HX.out.cell HZ0.out
     have hmk:Sem.run Tryz.prog (Instr.makeSlice 38 (.int .i64 L) (.int .i64 L)) wK=.ok (.slice (some ⟨wK.heap.size,0,none⟩) L L) (wK.alloc (.cells (bA (List.replicate L 0)) 5)):=Zbs (L:Int) (by omega) (by omega) wK
     obtain ⟨W,hW⟩:∃ W,wK.alloc (.cells (bA (List.replicate L 0)) 5)=W:=⟨_,rfl⟩
     obtain ⟨b,hb⟩:∃ b,wK.heap.size=b:=⟨_,rfl⟩
     rw [hW,hb] at hmk
     have XW:=hid (show Ext wK W from hW▸(Ext.refl wK).alloc _)
     have B0:=hid (show Blk W b (List.replicate L 0) from by rw [<- hW,<- hb]; exact Zad)
     have HBB:=hid hb
     clear hW hb
     go_wp2_with fail
     refine (HR0.out j hjn W).mono ?_
     rintro e W2 ⟨rb,rfl,hrb,hrow,x2⟩
     have HRW:=hid hrow
     have HRB:=hid hrb
     have X2:=hid x2
     have HO0:=hid (show OwnB W2 b L (Cd.mixK (Cd.row k j) ls 0) from by
      have e:Cd.mixK (Cd.row k j) ls 0=List.replicate L 0:=by show List.replicate (Cd.B ls 0).length 0=_; rw [HLEN.out 0 (by rw [HLK.out]; omega)]
      rw [e]
      have:=(B0.out.ext x2).own (by simp; omega)
      simpa using this)
     have HWW:=hid (Ext.trans XW.out x2)
     have HLB:=hid (show b < W2.heap.size from (HO0.out).lt)
     clear hrow hrb x2 hmk e1
     go_wp2_with fail
     go_loopw [55] (fun t wq=>∃ i:Nat,t=.int .i64 i/\i<=k/\OwnB wq b L (Cd.mixK (Cd.row k j) ls i)/\Only (fun x=>x=b) W2 wq) (fun t _=>k - (intOf t).toNat)
     case atStart=>exact ⟨0,rfl,by omega,HO0.out,Only.refl _ _⟩
     case round =>
      clear HO0
      obtain ⟨i,rfl,hi,hown,hon⟩:=hrel
      obtain ⟨wC,hwC⟩:∃ W,W=wr:=⟨_,rfl⟩
      subst hwC
      have HO:=hid hown
      have HON:=hid hon
      clear hown hon
      by_cases hik:i < k
      ·
       have i0:(0:Int)<=(i:Int):=by omega
       have i1:(i:Int) < (k:Int):=by omega
       obtain ⟨bi,oi,ci,zi,hbi⟩:=HROW.out i hik
       have hbl:bi < w.heap.size:=hbi.bltG L0
       have hne:bi≠b:=by have:=HX.out.size; have:=HBB.out; omega
       have hgl:g < w.heap.size:=World.block_lt_of_cell? w _ zi
       have hgne:g≠b:=by have:=HX.out.size; have:=HBB.out; omega
       have hrne:rb≠b:=by have:=HRB.out; have h1:=B0.out; unfold Blk at h1; have:=lt_of_block h1; omega
       have cr:=HON.out.cell (HRW.out.cell i (by rw [Cd.row_len]; exact hik)) hrne
       obtain ⟨x,hx⟩:∃ x,nth (Cd.row k j) i=x:=⟨_,rfl⟩
       have hx256:x < 256:=hx▸Zay (Cd.row_byte k j) i
       rw [hx] at cr
       have HMS:=hid (show Cd.mixK (Cd.row k j) ls (i+1)=addB (Cd.mixK (Cd.row k j) ls i) (Cd.B ls i) x by rw [Cd.mixK_succ,hx])
       have HOL:=hid (show (Cd.mixK (Cd.row k j) ls i).length=L by rw [Cd.mixK_len,HLEN.out 0 (by rw [HLK.out]; omega)])
       have HOB:=hid (Cd.mixK_byte (Cd.row k j) ls i (Cd.row_byte k j) HLS.out)
       have HZI:=hid (HON.out.cell (Ext.cell (Ext.trans HX.out HWW.out) zi) hgne)
       have HBI:=hid ((hbi.onlyG (Ext.trans HX.out HWW.out) (fun z=>z)).onlyG HON.out hne)
       obtain ⟨O,hO⟩:∃ O,Cd.mixK (Cd.row k j) ls i=O:=⟨_,rfl⟩
       obtain ⟨D,hD⟩:∃ D,Cd.B ls i=D:=⟨_,rfl⟩
       rw [hO] at HO HOL HOB
       rw [hO,hD] at HMS
       rw [hD] at HBI
       have HOR:=hid (show wC.ownsRow 0 5 1 (.slice (some ⟨b,0,none⟩) L L) L (O.map bv) from by
        have:=HO.out
        unfold OwnB at this
        rw [HOL.out] at this
        exact this)
       clear hx zi hbi hbl hgl hO hD HRW
       go_wp2_with fail
       clear cr
       go_loopw [62] (fun t wq=>∃ y:Nat,t=.int .i64 y/\y<=L/\wq.ownsRow 0 5 1 (.slice (some ⟨b,0,none⟩) L L) L ((addK O D x y).map bv)/\Only (fun z=>z=b) wC wq) (fun t _=>L - (intOf t).toNat)
       case atStart=>exact ⟨0,rfl,by omega,by rw [addK_zero]; exact HOR.out,Only.refl _ _⟩
       case round =>
        clear HOR
        obtain ⟨y,rfl,hy,hown,hon⟩:=hrel
        by_cases hyl:y < L
        ·
         have c1:wr.cell? ⟨b,y,none⟩=some (.int .u8 (nth O y)):=by
          rw [hown.cellAt y (by omega)]; exact addK_bv O D x y (by rw [HOL.out]; omega)
         have f1:wr.frozen? ⟨b,y,none⟩=false:=hown.frozenAt y
         have c2:wr.cell? ⟨bi,oi+y,none⟩=some (.int .u8 (nth D y)):=hon.cell (HBI.out.get y hyl) hne
         have c3:wr.cell? ⟨g,i,none⟩=some (.slice (some ⟨bi,oi,none⟩) L ci):=hon.cell HZI.out hgne
         have b1:=Zay HOB.out y
         have b2:=Zay HBI.out.byte y
         have HO2:=hid hown; have HON2:=hid hon
         have y0:(0:Int)<=(y:Int):=by omega
         have y1:(y:Int) < (L:Int):=by omega
         obtain ⟨p,hp⟩:∃ p,nth O y=p:=⟨_,rfl⟩
         obtain ⟨q,hq⟩:∃ q,nth D y=q:=⟨_,rfl⟩
         rw [hp] at c1 b1
         rw [hq] at c2 b2
         have HP:=hid hp.symm; have HQ:=hid hq.symm
         clear hown hon hp hq
         go_wp2
         refine Zaw 17 (by kernel_rfl) (by kernel_rfl) ?_
         simp only [List.take_succ_cons,List.take_zero,List.drop_succ_cons,List.drop_zero]
         repeat (go_big_quiet_step ((go_at_call 199; refine Calls.quiet_of_same ((refMul_c (x:Int) (q:Int) _ (by omega) (by omega)).mono fun _ _ z=>⟨z.1,z.2.symm⟩))))
         refine wpQuiet_nil ?_
         intro _ hw'
         obtain ⟨nq,hw''⟩:=hw'
         subst hw''
         go_wp2
         go_roundw
         case rel =>
          have ho:(wr.drewN nq).ownsRow 0 5 1 (.slice (some ⟨b,0,none⟩) L L) L ((addK O D x y).map bv):=HO2.out
          refine ⟨y+1,by go_num,by omega,?_,(HON2.out.drewN nq).setCell (.inr rfl) _⟩
          have hb:=Gf.mul_bd x q
          rw [u8_xor_nat _ _ b1 hb,HP.out,HQ.out,<- addK_step]
          exact (ho.stored y _).1
         case measure=>simp [intOf]; omega
        ·
         obtain rfl:L=y:=by omega
         have he:=addK_end O D x L (by rw [HOL.out]; exact Nat.le_refl _) (by rw [HBI.out.len]; exact Nat.le_refl _) (by rw [HOL.out,HBI.out.len]; omega)
         rw [he,<- HMS.out] at hown
         have HO2:=hid (show OwnB wr b L (Cd.mixK (Cd.row k j) ls (i+1)) from by
          unfold OwnB
          have h2:(Cd.mixK (Cd.row k j) ls (i+1)).length=L:=by rw [HMS.out,addB_len,HOL.out]
          rw [h2]; exact hown)
         have HON2:=hid (Only.trans HON.out hon (fun _ _ z=>z))
         clear he hown hon
         go_wp2
         go_roundw
         case rel=>exact ⟨i+1,by go_num,by omega,HO2.out,HON2.out⟩
         case measure=>simp [intOf]; omega
      ·
       obtain rfl:k=i:=by omega
       have HFIN:=hid (show Cd.mix (Cd.row k j) ls=Cd.mixK (Cd.row k j) ls k by unfold Cd.mix; rw [Cd.row_len])
       have HEX:=hid (show Ext wK wC from Ext.then HWW.out HON.out (fun i hi q=>by have:=HBB.out; omega))
       obtain ⟨a',c',w3,hap,hst3⟩:=(HST.out.more HEX.out).add (b:=b) (by have:=HKN.out.2.2; omega) (by rw [HFIN.out]; exact HO.out)
       have HS3:=hid hst3
       clear hst3
       go_wp2_with (first
        | (guard_target=wpList _ _ _ (⟨some _,Op.buildSlice _ _ _,_,_,_,none⟩::_) _ _; refine Zag rfl 159 38 _ rfl (rowE b L) _ _ 1 24 Tryz.underlying159 infoRow (by omega) (by omega) rfl rfl rfl ?_)
        | (at_builtin; refine wpList_append_run rfl _ _ _ rfl _ _ _ _ rfl rfl hap ?_))
       go_roundw
       case rel=>exact ⟨j+1,a',c',by go_num,rfl,by omega,HS3.out⟩
       case measure=>simp [intOf]; omega
    ·
     obtain rfl:n=j:=by omega
     obtain ⟨g2,c2,ev,hr⟩:=HST.out.out (by omega) hL HML.out HMB.out
     have HRR:=hid hr
     cases ev
     clear hr
     go_wp2
     go_ret2
     exact ⟨g2,_,rfl,HRR.out,HX.out⟩
end Go.Proofs.YtgjnnbomnoafcaaGreatDoor
namespace Go.Proofs.YtgjnnbomnoafcaaGreatDoor
set_option linter.unusedVariables false
open Go Go.RowKit Gf
set_option maxRecDepth 100000 in
theorem fbase_c (c:Cfg) (h:c.Good) (s:Int) (h0:0<=s) (h1:s < c.stripes) (w:World) :
  Calls Tryz.prog 150 #[.agg (Cfg.A c),.int .i64 s] w fun e w'=>e=.returned (.int .i64 (Rck.ssec c s))/\Ext w w':=by
 have a1:=Cfg.A1 c
 have a4:=Cfg.A4 c
 obtain ⟨b0,b1⟩:=ssec_bd c h
 have hs:s < 1000000:=by obtain ⟨q1,q2,q3,q4,q5,q6,q7,q8,q9⟩:=h; omega
 have HR:Hid (Rck.ssec c s=1+c.slots*c.k+s):=hid rfl
 rw [HR.out]
 clear HR h h1
 obtain ⟨id,k,n,st,sl⟩:=c
 simp only at a1 a4 b0 b1 ⊢
 generalize Cfg.A _=A at *
 obtain ⟨p,hp⟩:∃ p,sl*k=p:=⟨_,rfl⟩
 rw [hp] at b0 b1 ⊢
 have hw:wrap64 (sl*k)=p:=by rw [hp]; unfold wrap64; omega
 have w2:wrap64 (1+p)=1+p:=by unfold wrap64; omega
 have w3:wrap64 (1+p+s)=1+p+s:=by unfold wrap64; omega
 clear hp b0 b1
 go_enter Tryz.func150,Tryz.ntmps150
 go_wp2
 go_ret
 exact ⟨ret_int (by simp only [hw,w2,w3]),(Ext.refl w).alloc _⟩
set_option maxRecDepth 100000 in
set_option maxHeartbeats 1000000 in
theorem fonline_c {S:Nat->Prop} {w:World} {r:Nat} {R:Rck} (h:FRackAt S w r R) (hsm:R.l.length<=8) :
  Calls Tryz.prog 154 #[.pointer (some ⟨r,0,none⟩)] w fun e w'=>e=.returned (.int .i64 (R.online.length:Nat))/\w=w':=by
 obtain ⟨gl,cl,c0⟩:=fat_n h
 have H:=hid h
 obtain ⟨n,hn⟩:∃ n,R.l.length=n:=⟨_,rfl⟩
 have HW:Hid (R.onTo n=R.online):=hid (by unfold Rck.onTo Rck.online; rw [hn])
 rw [hn] at c0 hsm
 clear h hn
 go_enter Tryz.func154,Tryz.ntmps154
 go_wp2
 clear c0
 go_loopw [3,10] (fun v i wr=>∃ j:Nat,i=.int .i64 j/\j<=n/\v=.int .i64 ((R.onTo j).length:Nat)/\w=wr) (fun _ i _=>n - (intOf i).toNat)
 case atStart=>exact ⟨0,rfl,by omega,rfl,rfl⟩
 case round =>
  obtain ⟨j,rfl,hj,rfl,hx⟩:=hrel
  subst hx
  by_cases hlt:j < n
  ·
   have hup:=R.onTo_succ j
   have hlen:=R.onTo_len j
   have HU:=hid (fat_up H.out (j:Int))
   obtain ⟨p,hp⟩:∃ p,(R.onTo j).length=p:=⟨_,rfl⟩
   rw [hp] at hlen ⊢
   rcases hu:R.up (j:Int) with _ | _
   ·
    rw [hu] at hup
    simp only [Bool.false_eq_true,if_false,List.append_nil] at hup
    have HL:=hid (show (R.onTo (j+1)).length=p by rw [hup,hp])
    have HV:=hid hu
    clear hu hup hp
    go_wp2_with (go_at_call 30; refine HU.out.mono ?_; rintro e w' ⟨rfl,rfl⟩; rw [HV.out])
    go_roundw
    case rel=>exact ⟨j+1,by go_num,by omega,by rw [HL.out],trivial⟩
    case measure=>simp [intOf]; omega
   ·
    rw [hu] at hup
    simp only [if_true] at hup
    have HL:=hid (show (R.onTo (j+1)).length=p+1 by rw [hup,List.length_append,hp]; rfl)
    have HV:=hid hu
    clear hu hup hp
    go_wp2_with (go_at_call 30; refine HU.out.mono ?_; rintro e w' ⟨rfl,rfl⟩; rw [HV.out])
    go_roundw
    case rel=>exact ⟨j+1,by go_num,by omega,by rw [HL.out]; go_num,trivial⟩
    case measure=>simp [intOf]; omega
  ·
   obtain rfl:n=j:=by omega
   rw [HW.out]
   go_wp2
   go_ret
   exact ⟨rfl,rfl⟩
theorem copy_ablk (w:World) (b' off c':Nat) (l:List Nat) (hl:l.length=108) (h:BytesAt w (some ⟨b',off,none⟩) 108 l) :
  Sem.run Tryz.prog (Builtin.copy_ #[38,38] 3 #[.slice (some ⟨w.heap.size,0,none⟩) 108 108,.slice (some ⟨b',off,none⟩) 108 c']) (w.alloc (.cells (bA z108) 120))=.ok (.int .i64 (108:Nat)) (w.alloc (.cells (bA l) 120)):=by
 obtain ⟨i0,hi,hz0,hz1,hz2⟩:=info_parts info8
 have hg:(w.alloc (.cells (bA z108) 120)).heap[w.heap.size]?=some (.cells (bA z108) 120 (0,0)):=Zad
 have hz:z108.length=108:=by simp [z108]
 have hr:=run_copy_row (P:=Tryz.prog) (w.alloc (.cells (bA z108) 120)) 38 38 3 5 w.heap.size 0 108 108 ⟨b',off,none⟩ 108 c' (bA z108) 120 (l.map bv)
  Tryz.underlying38 (by rw [hi]; exact congrArg some hz1) hg (by rw [List.length_map,hl]; rfl)
  (by
   intro j v hv
   rw [List.getElem?_map] at hv
   have hj:j < l.length:=by
    rcases Nat.lt_or_ge j l.length with h' | h'
    ·
     exact h'
    ·
     rw [List.getElem?_eq_none h'] at hv; cases hv
   rw [List.getElem?_eq_getElem hj] at hv
   have e:(⟨b',off,none⟩:Addr).add j=⟨b',off+j,none⟩:=by unfold Addr.add; split<;>simp_all
   rw [e,Ext.cell ((Ext.refl w).alloc _) (h.get j (by omega)),Za0 hj]
   exact hv)
  (by rw [Za3,List.length_map,hz]; omega) (by intro v hv; obtain ⟨x,_,rfl⟩:=List.mem_map.1 hv; rfl)
 rw [hr,Zao,List.length_map,hl]
 refine congrArg (fun X=>Result.ok (Value.int .i64 (108:Nat)) (w.alloc (.cells X 120))) ?_
 rw [bA_def,bA_def]
 apply Array.ext'
 simp [hl,z108]
def rowG (g i:Nat):Array Value:=#[.slice (some ⟨g,i*108,none⟩) 108 108]
def FFragPost (w:World) (c:Cfg) (l:List (List Nat)) (e:Ending) (w':World):Prop:=∃ g cp,e=.returned (.slice (some ⟨g,0,none⟩) c.n.toNat cp)/\w.heap.size<=g/\g < w'.heap.size/\VsAt w' g 108 ((List.range c.n.toNat).map fun d=>bA (sfrag c l d))/\Ext w w'
set_option maxRecDepth 100000 in
set_option maxHeartbeats 4000000 in
theorem ffrag_c {w:World} (c:Cfg) (hc:c.Good) (l:List (List Nat)) (hlk:(l.length:Int)=c.k) (hl8:∀ b∈l,b.length=108) (hlb:∀ b∈l,∀ x∈b,x < 256) (a:Option Addr) (cp:Nat) (hb:BlksAt w a l) :
  Calls Tryz.prog 148 #[.agg (Cfg.A c),.slice a l.length cp] w (FFragPost w c l):=by
 have k0:=hc.k0
 have k1:=hc.k1
 have n1:=hc.n1
 obtain ⟨k,hk⟩:∃ k:Nat,c.k=k:=⟨c.k.toNat,by omega⟩
 obtain ⟨n,hn⟩:∃ n:Nat,c.n=n:=⟨c.n.toNat,by omega⟩
 have hkl:l.length=k:=by omega
 have a1:=Cfg.A1 c
 have a2:=Cfg.A2 c
 have hfr:∀ d,sfrag c l d=Cd.mix (Cd.row k d) l:=fun d=>by unfold sfrag; rw [hk]; rfl
 have HFR:=hid hfr
 have HPO:Hid (FFragPost w c l=fun e w'=>∃ g cp,e=.returned (.slice (some ⟨g,0,none⟩) n cp)/\w.heap.size<=g/\g < w'.heap.size/\VsAt w' g 108 ((List.range n).map fun d=>bA (sfrag c l d))/\Ext w w'):=hid (by unfold FFragPost; rw [hn]; rfl)
 rw [HPO.out]
 rw [hk] at a1
 rw [hn] at a2
 have kk1:1<=k:=by omega
 have kn:k<=n:=by omega
 have n8:n<=8:=by omega
 have HB8:Hid (∀ i,i < k->Cd.B l i∈l):=hid fun i hi=>by unfold Cd.B; rw [List.getD_eq_getElem?_getD,List.getElem?_eq_getElem (by omega)]; exact List.getElem_mem _
 have HLN:=hid (show ∀ i,i < l.length->(Cd.B l i).length=108 from fun i hi=>hl8 _ (HB8.out i (by omega)))
 have HBY:=hid (show ∀ i,∀ x∈Cd.B l i,x < 256 from fun i=>by
  rcases Nat.lt_or_ge i k with q | q
  ·
   exact hlb _ (HB8.out i q)
  ·
   unfold Cd.B
   rw [List.getD_eq_getElem?_getD,List.getElem?_eq_none (by rw [hkl]; exact q)]
   intro x hx; simp at hx)
 have HML:=hid (show ∀ i,(Cd.mix (Cd.row k i) l).length=108 from fun i=>by unfold Cd.mix; rw [Cd.mixK_len,HLN.out 0 (by omega)])
 obtain ⟨gl,rfl⟩:∃ gl,a=some ⟨gl,0,none⟩:=by
  obtain ⟨gl,hg,_⟩:=hb 0 (Cd.B l 0) (by unfold Cd.B; rw [List.getD_eq_getElem?_getD,List.getElem?_eq_getElem (by omega)]; rfl)
  exact ⟨gl,hg⟩
 have HBL:=hid (show ∀ i b,l[i]?=some b->∀ j,j < 108->w.cell? ⟨gl,i*108+j,none⟩=some (.int .u8 (nth b j)) from fun i b hi j hj=>by
  obtain ⟨g',hg',hcl⟩:=hb i b hi
  cases hg'
  exact hcl j hj)
 have HL8:=hid hl8; have HLB:=hid hlb
 have HKL:=hid hkl
 rw [hkl]
 clear hfr HPO hk hn hb hl8 hlb hlk hkl k0 k1 n1
 generalize sfrag c l=FR at *
 generalize Cfg.A c=A at *
 obtain ⟨W0,hW0⟩:∃ W,w.alloc (.cells A 74)=W:=⟨_,rfl⟩
 have X0:=hid (show Ext w W0 from hW0▸(Ext.refl w).alloc _)
 have hc0:W0.heap[w.heap.size]?=some (.cells A 74 (0,0)):=hW0▸heap_alloc_new _ _
 have D1:=hid (show W0.cell? ⟨w.heap.size,1,none⟩=some (.int .i64 k) from (Zaf hc0).trans a1)
 have D2:=hid (show W0.cell? ⟨w.heap.size,2,none⟩=some (.int .i64 n) from (Zaf hc0).trans a2)
 clear hc0 a1 a2
 have hz:=zero_block
 have HO0:=hid (OwnVs.nil W0 W0.heap.size 38 1)
 go_enter Tryz.func148,Tryz.ntmps148
 go_wp2_with fail
 go_loopw [15,5] (fun t v wr=>∃ (j:Nat) (a:Option Addr) (c:Nat),t=.int .i64 j/\v=.slice a j c/\j<=k/\OwnVs wr W0.heap.size 38 1 v ((List.range j).map (rowG gl))/\Ext W0 wr) (fun t _ _=>k - (intOf t).toNat)
 case atStart=>exact ⟨0,none,0,rfl,rfl,by omega,HO0.out,Ext.refl _⟩
 case round =>
  clear HO0
  obtain ⟨j,a',c',rfl,rfl,hj,hown,hx⟩:=hrel
  have HO:=hid hown
  have HX:=hid hx
  clear hown hx
  by_cases hjk:j < k
  ·
   have j0:(0:Int)<=(j:Int):=by omega
   have j1:(j:Int) < (k:Int):=by omega
   obtain ⟨v',w3,hap,hown2,_,hx4⟩:=HO.out.add (tsl:=159) Tryz.underlying159 infoRow rfl (by omega) (rowG gl j) rfl (by intro u hu; simp [rowG] at hu; subst hu; rfl) (by simp; omega) (by omega) HX.out.size
   obtain ⟨a2,c2,ev2,_⟩:=hown2.slice
   have hl2:((List.range j).map (rowG gl)++[rowG gl j]).length=j+1:=by simp
   rw [hl2] at ev2
   subst ev2
   have HO2:Hid (OwnVs w3 W0.heap.size 38 1 (.slice a2 (j+1) c2) ((List.range (j+1)).map (rowG gl))):=hid (by rw [List.range_succ,List.map_append,List.map_cons,List.map_nil]; exact hown2)
   have HX4:=hid (hx4 W0 (Nat.le_refl _) HX.out)
   clear hown2 hx4 hl2
   go_wp2_with (first
    | (guard_target=wpList _ _ _ (⟨some _,Op.buildSlice _ _ _,_,_,_,none⟩::_) _ _; refine Zag rfl 159 38 _ rfl (rowG gl j) _ _ 1 24 Tryz.underlying159 infoRow (by omega) (by omega) rfl rfl rfl ?_)
    | (at_builtin; refine wpList_append_run rfl _ _ _ rfl _ _ _ _ rfl rfl hap ?_))
   go_roundw
   case rel=>exact ⟨j+1,a2,c2,by go_num,rfl,by omega,HO2.out,HX4.out⟩
   case measure=>simp [intOf]; omega
  ·
   obtain rfl:k=j:=by omega
   obtain ⟨g1,hr1,hg1⟩:∃ g1,(Value.slice a' k c'=.slice (some ⟨g1,0,none⟩) k c')/\RowsG wr g1 l:=by
    obtain ⟨a3,c3,e3,q⟩:=HO.out.slice
    rcases q with ⟨q,_⟩ | ⟨g1,rfl,_,_,_,hv⟩
    ·
     have:=congrArg List.length q
     simp at this; omega
    ·
     simp only [List.length_map,List.length_range] at e3
     cases e3
     refine ⟨g1,rfl,fun i b hi=>?_⟩
     have hin:i < k:=by
      rcases Nat.lt_or_ge i k with q | q
      ·
       exact q
      ·
       rw [List.getElem?_eq_none (by rw [HKL.out]; exact q)] at hi; cases hi
     have hm:=List.mem_of_getElem? hi
     have hbl:=HL8.out b hm
     refine ⟨gl,i*108,108,?_,?_⟩
     ·
      have:=hv i (rowG gl i) (by simp [hin]) 0 _ rfl
      rw [hbl]
      simpa using this
     ·
      rw [hbl]
      exact ⟨hbl,by omega,HLB.out b hm,.inr ⟨gl,i*108,rfl,fun j hj=>Ext.cell (Ext.trans X0.out HX.out) (HBL.out i b hi j hj)⟩⟩
   rw [hr1]
   have HR1:=hid hg1
   have d1:=HX.out.cell D1.out
   have d2:=HX.out.cell D2.out
   clear hr1 hg1 HO
   go_wp2_with fail
   refine (fencode_c g1 c' l HR1.out HKL.out kk1 kn n8 (L:=108) (by omega) (by omega) HLN.out HBY.out).mono ?_
   rintro e w2 ⟨sg,sc,rfl,hrows,x2⟩
   have HRW:=hid hrows
   have HX2:=hid (Ext.trans (Ext.trans X0.out HX.out) x2)
   clear hrows x2 d1 d2
   have HP0:=hid (OwnVs.nil w2 w2.heap.size 120 108)
   go_wp2
   go_loopw [37,9] (fun t v wr=>∃ (j:Nat) (a:Option Addr) (c:Nat),t=.int .i64 j/\v=.slice a j c/\j<=n/\OwnVs wr w2.heap.size 120 108 v ((List.range j).map fun d=>bA (FR d))/\Ext w2 wr) (fun t _ _=>n - (intOf t).toNat)
   case atStart=>exact ⟨0,none,0,rfl,rfl,by omega,HP0.out,Ext.refl _⟩
   case round =>
    clear HP0
    obtain ⟨j,a',c',rfl,rfl,hj,hown,hx3⟩:=hrel
    have HO:=hid hown
    have HX3:=hid hx3
    clear hown hx3
    by_cases hjn:j < n
    ·
     obtain ⟨b,bc,q1,q2⟩:=HRW.out j (Cd.mix (Cd.row k j) l) (by simp [hjn])
     have hdl:=HML.out j
     have hfj:=HFR.out j
     obtain ⟨D,hD⟩:∃ D,FR j=D:=⟨_,rfl⟩
     rw [<- hfj,hD] at q1 q2 hdl
     rw [hdl] at q1 q2
     have hq1:=HX3.out.cell q1
     have hcp:=copy_ablk wr b 0 bc D hdl (q2.onlyG HX3.out (fun z=>z))
     have HSB:Hid ((bA D).size=108):=hid (by rw [Za3,hdl])
     obtain ⟨W5,hW5⟩:∃ W,wr.alloc (.cells (bA D) 120)=W:=⟨_,rfl⟩
     obtain ⟨xb,hxb⟩:∃ b,wr.heap.size=b:=⟨_,rfl⟩
     have XW:=hid (show Ext wr W5 from hW5▸(Ext.refl wr).alloc _)
     have HAB:=hid (show W5.heap[xb]?=some (.cells (bA D) 120 (0,0)) from hxb▸hW5▸heap_alloc_new _ _)
     rw [hW5,hxb] at hcp
     obtain ⟨v',w3,hap,hown2,_,hx4⟩:=(HO.out.ext XW.out).add (tsl:=98) Tryz.underlying98 infoBlk (by show (bA z108).size=108; rw [Za3]; simp [z108]) (by omega) (bA D) (by rw [Za3,hdl]) (bA_one _) (by simp; omega) (by omega) (Ext.trans HX3.out XW.out).size
     obtain ⟨a2,c2,ev2,_⟩:=hown2.slice
     have hl2:(((List.range j).map fun d=>bA (FR d))++[bA D]).length=j+1:=by simp
     rw [hl2] at ev2
     subst ev2
     have HO2:Hid (OwnVs w3 w2.heap.size 120 108 (.slice a2 (j+1) c2) ((List.range (j+1)).map fun d=>bA (FR d))):=hid (by rw [List.range_succ,List.map_append,List.map_cons,List.map_nil,hD]; exact hown2)
     have HX4:=hid (hx4 w2 (Nat.le_refl _) (Ext.trans HX3.out XW.out))
     have j0:(0:Int)<=(j:Int):=by omega
     have j1:(j:Int) < (n:Int):=by omega
     clear hown2 hx4 hl2 q1 q2 hD hfj hdl hW5
     go_wp2_with (first
      | (guard_target=wpList _ _ _ (⟨some _,Op.load _ _,_,_,_,none⟩::_) _ _; refine Zae rfl 120 _ rfl ⟨xb,0,none⟩ rfl (bA D) (by rw [HSB.out]; exact aggBlock) (Zaj HAB.out) ?_)
      | (guard_target=wpList _ _ _ (⟨some _,Op.buildSlice _ _ _,_,_,_,none⟩::_) _ _; refine Zag rfl 98 120 _ rfl (bA D) _ _ 108 108 Tryz.underlying98 infoBlk (by omega) (by omega) rfl rfl HSB.out ?_)
      | (at_builtin; refine wpList_append_run rfl _ _ _ rfl _ _ _ _ rfl rfl hap ?_))
     go_roundw
     case rel=>exact ⟨j+1,a2,c2,by go_num,rfl,by omega,HO2.out,HX4.out⟩
     case measure=>simp [intOf]; omega
    ·
     obtain rfl:n=j:=by omega
     go_wp2
     go_ret
     obtain ⟨a3,c3,ev3,q⟩:=HO.out.slice
     rcases q with ⟨q,_⟩ | ⟨g3,rfl,hb3,hb4,_,hv⟩
     ·
      have:=congrArg List.length q
      simp at this
      omega
     ·
      simp only [List.length_map,List.length_range] at ev3
      cases ev3
      exact ⟨g3,_,rfl,by have:=HX2.out.size; omega,hb4,hv,Ext.trans HX2.out HX3.out⟩
attribute [local irreducible] wpSQ
set_option maxRecDepth 100000 in
set_option maxHeartbeats 4000000 in
theorem fstrput_c {S:Nat->Prop} {w:World} {r:Nat} {R:Rck} (h:FRackAt S w r R) (hn1:1<=R.l.length) (hsm:R.l.length<=8) (c:Cfg) (s gen:Int) (l:List (List Nat)) (hl8:∀ b∈l,b.length=108) (hlb:∀ b∈l,∀ x∈b,x < 256) (a:Option Addr) (cp:Nat) (hb:BlksAt w a l) :
  Calls Tryz.prog 64 #[.pointer (some ⟨r,0,none⟩),.agg (Cfg.A c),.int .i64 s,.int .i64 gen,.slice a l.length cp] w fun e w'=>e=.returned (.int .i64 (okind (R.sput c s gen l).1))/\FRackAt S w' r (R.sput c s gen l).2/\Keeps S w w':=by
 obtain ⟨W0,hW0⟩:∃ W,w.alloc (.cells (Cfg.A c) 74)=W:=⟨_,rfl⟩
 have HX0:=hid (show Ext w W0 from hW0▸(Ext.refl w).alloc _)
 have HC0:=hid (show W0.heap[w.heap.size]?=some (.cells (Cfg.A c) 74 (0,0)) from hW0▸heap_alloc_new _ _)
 have H0:=hid (h.ext HX0.out)
 have H0x:=hid h
 have HN1:=hid hn1; have HSM:=hid hsm
 have HL8:=hid hl8
 have HLB:=hid hlb
 have HBK:=hid (hb.ext HX0.out)
 have HB0:Hid (R.sput c s gen l=if R.sputOk c s gen l=true then ((R.sputs c s gen l).1.map (.fault sSPut s),(R.sputs c s gen l).2) else (some (.fault sSPut s (.no 1)),R)):=hid rfl
 have HOK:Hid (R.sputOk c s gen l=true↔(((((R.fits c=true/\0<=s)/\s < c.stripes)/\1<=gen)/\gen<=1152921504606846976)/\(l.length:Int)=c.k)):=hid (by
  unfold Rck.sputOk Rck.sknown
  simp only [Bool.and_eq_true,decide_eq_true_eq])
 clear h hl8 hlb hb hn1 hsm
 go_enter Tryz.func64,Tryz.ntmps64
 go_wp2_with (guard_target=wpList _ _ _ (⟨some _,Op.load _ _,_,_,_,none⟩::_) _ _; refine Zae rfl 74 _ rfl ⟨w.heap.size,0,none⟩ rfl (Cfg.A c) (Za6 c) (Zaj HC0.out) ?_)
 refine (rffits_c H0.out HN1.out c).mono ?_
 rintro e w2 ⟨rfl,x2⟩
 have HX2:=hid (Ext.trans HX0.out x2)
 have H2:=hid (H0.out.ext x2)
 have HC2:=hid (Ext.at x2 HC0.out)
 have HBL:=hid (HBK.out.ext x2)
 have c1:w2.cell? ⟨w.heap.size,1,none⟩=some (.int .i64 c.k):=(Zaf HC2.out).trans (Cfg.A1 c)
 have c3:w2.cell? ⟨w.heap.size,3,none⟩=some (.int .i64 c.stripes):=(Zaf HC2.out).trans (Cfg.A3 c)
 clear x2 HBK
 rcases hf:R.fits c with _ | _
 ·
  have HV:=hid (show R.sput c s gen l=(some (.fault sSPut s (.no 1)),R) by rw [HB0.out]; exact if_neg (by rw [HOK.out,hf]; simp))
  clear hf HB0 HOK
  go_wp2
  go_ret
  rw [HV.out]
  exact ⟨rfl,H2.out,Ext.only HX2.out⟩
 ·
  have HF:=hid hf
  clear hf
  by_cases b0:0<=s
  case neg =>
   have HNE:=hid b0
   have HV:=hid (show R.sput c s gen l=(some (.fault sSPut s (.no 1)),R) by rw [HB0.out]; exact if_neg (by rw [HOK.out]; exact fun q=>HNE.out q.1.1.1.1.2))
   clear HB0 HOK HNE
   go_wp2
   go_ret
   rw [HV.out]
   exact ⟨rfl,H2.out,Ext.only HX2.out⟩
  by_cases b1:s < c.stripes
  case neg =>
   have HNE:=hid b1
   have HV:=hid (show R.sput c s gen l=(some (.fault sSPut s (.no 1)),R) by rw [HB0.out]; exact if_neg (by rw [HOK.out]; exact fun q=>HNE.out q.1.1.1.2))
   clear HB0 HOK HNE
   go_wp2
   go_ret
   rw [HV.out]
   exact ⟨rfl,H2.out,Ext.only HX2.out⟩
  by_cases a0:1<=gen
  case neg =>
   have HNE:=hid a0
   have a0n:gen < 1:=by omega
   have HV:=hid (show R.sput c s gen l=(some (.fault sSPut s (.no 1)),R) by rw [HB0.out]; exact if_neg (by rw [HOK.out]; exact fun q=>HNE.out q.1.1.2))
   clear HB0 HOK HNE
   go_wp2
   go_ret
   rw [HV.out]
   exact ⟨rfl,H2.out,Ext.only HX2.out⟩
  have a0':¬gen < 1:=by omega
  by_cases a1:gen<=1152921504606846976
  case neg =>
   have HNE:=hid a1
   have a1n:gen > 1152921504606846976:=by omega
   have HV:=hid (show R.sput c s gen l=(some (.fault sSPut s (.no 1)),R) by rw [HB0.out]; exact if_neg (by rw [HOK.out]; exact fun q=>HNE.out q.1.2))
   clear HB0 HOK HNE
   go_wp2
   go_ret
   rw [HV.out]
   exact ⟨rfl,H2.out,Ext.only HX2.out⟩
  have a1':¬gen > 1152921504606846976:=by omega
  by_cases a4:(l.length:Int)=c.k
  case neg =>
   have HNE:=hid a4
   have ab:((l.length:Int) != c.k)=true:=by simpa using a4
   have HV:=hid (show R.sput c s gen l=(some (.fault sSPut s (.no 1)),R) by rw [HB0.out]; exact if_neg (by rw [HOK.out]; exact fun q=>HNE.out q.2))
   clear HB0 HOK HNE
   go_wp2
   go_ret
   rw [HV.out]
   exact ⟨rfl,H2.out,Ext.only HX2.out⟩
  have ab:((l.length:Int) != c.k)=false:=by simpa using a4
  have HV:=hid (show R.sput c s gen l=((R.sputs c s gen l).1.map (.fault sSPut s),(R.sputs c s gen l).2) by rw [HB0.out]; exact if_pos (HOK.out.2 ⟨⟨⟨⟨⟨HF.out,b0⟩,b1⟩,a0⟩,a1⟩,a4⟩))
  have HGD:=hid (show c.Good/\0<=s/\s < c.stripes from ⟨Rck.fits_good HF.out,b0,b1⟩)
  have HA4:=hid a4
  clear HB0 HOK a4 a0 a1
  go_wp2_with (guard_target=wpList _ _ _ (⟨some _,Op.load _ _,_,_,_,none⟩::_) _ _; refine Zae rfl 74 _ rfl ⟨w.heap.size,0,none⟩ rfl (Cfg.A c) (Za6 c) (Zaj HC2.out) ?_)
  clear b0 b1
  refine (ffrag_c c HGD.out.1 l HA4.out HL8.out HLB.out a cp HBL.out).mono ?_
  rintro e w3 ⟨fg,fc,rfl,hfg,hfl,hvs,x3⟩
  obtain ⟨n,hn⟩:∃ n:Nat,c.n=n:=⟨c.n.toNat,by have:=HGD.out.1.k0; have:=HGD.out.1.k1; omega⟩
  have hnn:c.n.toNat=n:=by omega
  have n8:n<=8:=by have:=HGD.out.1.n1; omega
  have n1:1<=n:=by have:=HGD.out.1.k0; have:=HGD.out.1.k1; omega
  rw [hnn] at hvs ⊢
  have hRn:R.l.length=n:=by
   have hf:=HF.out
   unfold Rck.fits at hf
   simp only [Bool.and_eq_true,decide_eq_true_eq] at hf
   have:=hf.1.2
   omega
  have HVS:=hid hvs
  have HX3:=hid (Ext.trans HX2.out x3)
  have HC3:=hid (Ext.at x3 HC2.out)
  have HFG:=hid hfg
  have HFL:=hid hfl
  have H3:=hid (H2.out.ext x3)
  clear hvs x3 hfg hfl c1 c3 a0' a1' ab hnn hn
  go_wp2_with fail
  refine (fall_c H3.out (by omega)).mono ?_
  rintro e W2 ⟨v,rfl,hown,x2⟩
  obtain ⟨oa,oc,rfl,hcell⟩:=hown.slice
  obtain ⟨L,hL⟩:∃ L,R.online=L:=⟨_,rfl⟩
  have hLn:L.length<=8:=by rw [<- hL]; have:=R.online_len; omega
  have HLM:=hid (show ∀ d∈L,d < n from fun d hd=>by
   rw [<- hL] at hd
   unfold Rck.online at hd
   have:=(List.mem_filter.1 hd).1
   rw [hRn] at this
   exact List.mem_range.1 this)
  have HL:=hid hL
  rw [hL] at hcell ⊢
  have hXX:=Ext.trans HX3.out x2
  have HX4:=hid hXX
  have HCW:=hid (Ext.at x2 HC3.out)
  have HVW:=hid (HVS.out.ext x2)
  have HPC:Hid (PutT S w.heap.size W2.heap.size w.heap.size):=hid (.inr ⟨Nat.le_refl _,lt_of_block HCW.out⟩)
  have HPF:Hid (PutT S w.heap.size W2.heap.size fg):=hid (.inr ⟨by have:=HFG.out; have:=HX2.out.size; omega,by have:=HFL.out; have:=x2.size; omega⟩)
  have HON:Hid (∀ wr,Only (fun b=>¬PutT S w.heap.size W2.heap.size b) W2 wr->∀ j d:Nat,L[j]?=some d->∃ g,oa=some ⟨g,0,none⟩/\wr.cell? ⟨g,j,none⟩=some (.int .i64 d)):=hid fun wr e j d hd=>by
   rcases hcell with ⟨q,_⟩ | ⟨g,q1,q2,q3,q4,q5⟩
   ·
    subst q; simp at hd
   ·
    have hjl:j < L.length:=by
     rcases Nat.lt_or_ge j L.length with q | q
     ·
      exact q
     ·
      rw [List.getElem?_eq_none q] at hd; cases hd
    refine ⟨g,q1,e.cell ?_ (fun q=>q (.inr ⟨Nat.le_trans HX3.out.size q2,q3⟩))⟩
    rw [q5 j hjl]
    have:L.getD j 0=d:=by rw [List.getD_eq_getElem?_getD,hd]; rfl
    rw [this]; rfl
  have HST:Hid (FJPut S w W2 r R W2):=hid ⟨H0x.out.more hXX fun b hb=>by
   have:=hXX.size
   rcases hb with hb | hb
   ·
    exact ⟨by have:=H0x.out.there b hb; omega,.inl hb⟩
   ·
    exact ⟨hb.2,.inr hb.1⟩,Only.refl _ _⟩
  clear hcell hown x2 hXX hL hRn
  go_wp2
  go_loopw [50] (fun v wr=>∃ (j:Nat) (Rj:Rck),v=.int .i64 j/\j<=L.length/\each (Rck.srow c s gen l) (L.take j) R=(none,Rj)/\FJPut S w W2 r Rj wr/\Rj.l.length<=8) (fun v _=>L.length - (intOf v).toNat)
  case atStart=>exact ⟨0,R,rfl,by omega,rfl,HST.out,HSM.out⟩
  case round =>
   clear HST
   obtain ⟨j,Rj,rfl,hj,hej,hst,hsj⟩:=hrel
   have HSJ:=hid hsj
   clear hsj
   have HEJ:=hid hej; have HS:=hid hst
   clear hej hst
   by_cases hlt:j < L.length
   ·
    have j0:(0:Int)<=(j:Int):=by omega
    have j1:(j:Int) < (L.length:Int):=by omega
    obtain ⟨d,hd⟩:∃ d,L[j]?=some d:=⟨L[j],List.getElem?_eq_getElem hlt⟩
    obtain ⟨g,rfl,cd⟩:=HON.out wr HS.out.keeps j d hd
    have hdn:d < n:=HLM.out d (List.mem_of_getElem? hd)
    have d0:(0:Int)<=(d:Int):=by omega
    have d1:(d:Int) < (n:Int):=by omega
    have HD:=hid hd
    clear hd
    go_wp2_with fail
    obtain ⟨F,hF⟩:∃ F,sfrm s gen d (sfrag c l d)=F:=⟨_,rfl⟩
    have hFok:F.Ok:=by
     have e0:∀ i,i < l.length->Cd.B l i∈l:=fun i hi=>by unfold Cd.B; rw [List.getD_eq_getElem?_getD,List.getElem?_eq_getElem hi]; exact List.getElem_mem _
     have l0:0 < l.length:=by have:=HGD.out.1.k0; have:=HA4.out; omega
     rw [<- hF]
     refine ⟨?_,?_⟩
     ·
      show (sfrag c l d).length=108
      unfold sfrag Cd.mix
      rw [Cd.mixK_len]
      exact HL8.out _ (e0 0 l0)
     ·
      show ∀ x∈sfrag c l d,x < 256
      unfold sfrag Cd.mix
      exact Cd.mixK_byte _ l _ (Cd.row_byte _ d) (fun i=>by
       rcases Nat.lt_or_ge i l.length with q | q
       ·
        exact HLB.out _ (e0 i q)
       ·
        unfold Cd.B
        rw [List.getD_eq_getElem?_getD,List.getElem?_eq_none q]
        intro x hx; simp at hx)
    have HFO:=hid hFok
    have HFS:=hid (Frm.A_size F hFok)
    have hag:AggType Tryz.prog 42 (Frm.A F).size:=by rw [HFS.out]; exact aggFrame
    have HAG:=hid hag
    clear hag
    have xd:Ext wr wr.drew:=(Ext.refl wr).drew
    have base:Hid (∀ y:SW Ext wr.drew,Only (fun b=>¬PutT S w.heap.size W2.heap.size b) W2 y.w):=hid fun y=>Only.ext HS.out.keeps (Ext.trans xd y.ext)
    have lc:Hid (∀ y:SW Ext wr.drew,∀ j v,(Cfg.A c).toList[j]?=some v->y.w.cell? ((⟨w.heap.size,0,none⟩:Addr).add j)=some v):=hid fun y=>Zaj ((base.out y).at HCW.out (fun q=>q HPC.out))
    have HBU:=hid (show Tryz.prog.built 42 [(0,.int .i64 3),(1,.int .i64 d),(2,.int .i64 s),(3,.int .i64 gen),(4,.agg (bA (sfrag c l d)))]=some (Frm.A F) from by
     rw [<- hF]; exact built_five 3 d s gen _ (by have:=hFok.len; rw [<- hF] at this; exact this))
    have HDS:=hid (show (bA (sfrag c l d)).size=108 from by rw [Za3]; have:=hFok.len; rw [<- hF] at this; exact this)
    have lr:Hid (∀ y:SW Ext wr.drew,∀ j v,(bA (sfrag c l d)).toList[j]?=some v->y.w.cell? ((⟨fg,d*108,none⟩:Addr).add j)=some v):=hid fun y j v hv=>by
     rw [addrPlus]
     exact (HVW.out.only (base.out y) (fun q=>q HPF.out)) d _ (by rw [List.getElem?_map,List.getElem?_range hdn]; rfl) j v hv
    have sc:Hid (∀ y:SW Ext wr.drew,Calls Tryz.prog 150 #[.agg (Cfg.A c),.int .i64 s] y.w fun e w''=>e=.returned (.int .i64 (Rck.ssec c s))/\Ext y.w w''):=hid fun y=>fbase_c c HGD.out.1 s HGD.out.2.1 HGD.out.2.2 y.w
    obtain ⟨D,hD⟩:∃ D,bA (sfrag c l d)=D:=⟨_,rfl⟩
    rw [hD] at HBU HDS lr
    clear hD
    refine Zan (S:=Ext) 14 (.one [0,1,2,3,4,5,6,7,8,9,10,11,12] 13 (.fin [])) (by kernel_rfl) (by kernel_rfl) (fun _ _ d _ _ h=>by cases d<;>exact h) ?_
    rw [wpS]
    simp only [opsAt,opA,opB,opC,opD,opE,opF,opG]
    iterate 2 ((refine Zaa (fun K hK=>?_); go_simp; refine hK _ ?_; clear hK K))
    refine Zaz 74 _ rfl ⟨w.heap.size,0,none⟩ rfl (Cfg.A c) rfl (Za6 c) lc.out ?_
    (refine Zaa (fun K hK=>?_); go_simp; refine hK _ ?_; clear hK K)
    (refine Zaa (fun K hK=>?_); go_simp; (apply Exists.intro; refine ⟨fun x=>?_,hK _ ?_⟩; (exact sc.out x); clear hK K))
    iterate 6 ((refine Zaa (fun K hK=>?_); go_simp; refine hK _ ?_; clear hK K))
    refine Zaz 120 _ rfl ⟨fg,d*108,none⟩ rfl D rfl (by rw [HDS.out]; exact aggBlock) lr.out ?_
    refine wpSQ_build rfl 42 _ rfl (Frm.A F) ?_ ?_
    ·
     simp only [List.map_toArray,List.map_cons,List.map_nil,Act.eval]
     simp only [Array.getD_eq_getD_getElem?,List.getElem?_toArray,List.getElem?_cons_succ,List.getElem?_cons_zero,Option.getD_some]
     exact HBU.out
    refine Zac ?_
    intro V1 hV1
    refine Zat fun Q hQ=>?_
    go_wp2_with fail
    refine (fputf_c F V1 HFO.out).mono ?_
    rintro e V2 ⟨fa,fn,fc2,rfl,hbt,xf⟩
    go_wp2
    refine hQ _ _ xf ?_
    clear hQ Q
    rw [wpS]
    simp only [opsAt,List.map_nil]
    refine Zac ?_
    intro V3 hV3
    have X3:=Ext.trans xd (Ext.trans hV1 (Ext.trans xf hV3))
    have HB3:=hid (hbt.ext hV3)
    have HR3:=hid (HS.out.rack.ext X3)
    have HK3:Hid (Only (fun b=>¬PutT S w.heap.size W2.heap.size b) W2 V3):=hid (Only.ext HS.out.keeps X3)
    have HFD:=hid hF
    clear base lc lr sc hV1 hV3 hbt xf X3 xd hFok hF
    simp only [List.drop_succ_cons,List.drop_zero]
    go_wp2_with fail
    refine (fat_write HR3.out d (Rck.ssec c s) fa fn fc2 _ HB3.out).mono ?_
    rintro e V4 ⟨rfl,h4,k4⟩
    have HFK:=hid (fun er=>Rck.write_kind (R:=Rj) (i:=d) (s:=Rck.ssec c s) (b:=F.put) (er:=er))
    have hwl:=Rj.write_len d (Rck.ssec c s) F.put
    rcases hw:Rj.write d (Rck.ssec c s) F.put with ⟨o,Rn⟩
    rw [hw] at h4 HFK hwl
    simp only at h4 HFK hwl ⊢
    have HSN:=hid (show Rn.l.length<=8 from hwl▸HSJ.out)
    clear hwl
    have HST4:Hid (FJPut S w W2 r Rn V4):=hid ⟨h4,Only.trans HK3.out k4 fun _ _ q=>q⟩
    have HW1:Hid (Rck.srow c s gen l Rj d=(o,Rn)):=hid (by unfold Rck.srow; rw [HFD.out]; exact hw)
    clear h4 k4 hw
    rcases o with _ | er
    ·
     have HE1:Hid (each (Rck.srow c s gen l) (L.take (j+1)) R=(none,Rn)):=hid (each_next HD.out HEJ.out HW1.out)
     simp only [okind]
     go_wp2
     go_roundw
     case rel=>exact ⟨j+1,Rn,by go_num,by omega,HE1.out,HST4.out,HSN.out⟩
     case measure=>simp [intOf]; omega
    ·
     have HR:Hid (R.sput c s gen l=(some (.fault sSPut s er),Rn)):=hid (by
      have e2:each (Rck.srow c s gen l) R.online R=(some er,Rn):=by rw [HL.out]; exact each_mid HD.out HEJ.out HW1.out
      rw [HV.out]
      unfold Rck.sputs
      rw [e2]
      rfl)
     have hk:=HFK.out er rfl
     simp only [okind]
     obtain ⟨k,hkk⟩:∃ k,er.kind=k:=⟨_,rfl⟩
     rw [hkk] at hk ⊢
     have HKK:=hid hkk
     have hk0:(k != 0)=true:=by simp [hk]
     clear hk hkk HFK
     go_wp2
     go_ret
     rw [HR.out]
     exact ⟨by rw [<- HKK.out]; rfl,(HST4.out.out HX4.out).1,(HST4.out.out HX4.out).2⟩
   ·
    obtain rfl:j=L.length:=by omega
    have HR:Hid (R.sputs c s gen l=Rj.flushAll):=hid (by
     have e2:each (Rck.srow c s gen l) R.online R=(none,Rj):=by rw [HL.out,<- HEJ.out,List.take_length]
     unfold Rck.sputs Rck.flushAll
     rw [e2])
    clear HON HEJ
    go_wp2_with fail
    refine (fflush_all HS.out.rack HSJ.out).mono ?_
    rintro e W3 ⟨rfl,h5,k5⟩
    have HFF:=hid (HS.out.out HX4.out)
    have HVK:=hid (show okind Rj.flushAll.1=okind (R.sput c s gen l).1 from by rw [HV.out,HR.out]; cases Rj.flushAll.1<;>rfl)
    have H5:=hid (show FRackAt S W3 r (R.sput c s gen l).2/\Keeps S w W3 from ⟨by rw [HV.out,HR.out]; exact h5.less fun b hb=>.inl hb,HFF.out.2.trans k5 fun _ _ hb q=>hb (.inl q)⟩)
    rw [HVK.out]
    obtain ⟨ck,hck⟩:∃ ck,okind (R.sput c s gen l).1=ck:=⟨_,rfl⟩
    rw [hck]
    have HCK:=hid hck
    clear h5 k5 hck
    go_wp2
    go_ret
    exact ⟨by rw [HCK.out]; rfl,H5.out.1,H5.out.2⟩
end Go.Proofs.YtgjnnbomnoafcaaGreatDoor
namespace Go.Proofs.YtgjnnbomnoafcaaGreatDoor
set_option linter.unusedVariables false
open Go Go.RowKit Gf
def partG (d b cp:Nat):Array Value:=#[.int .i64 d,.slice (some ⟨b,0,none⟩) 108 cp]
theorem built_partG (d:Int) (b cp:Nat):Tryz.prog.built 229 [(0,.int .i64 d),(1,.slice (some ⟨b,0,none⟩) 108 cp)]=some #[.int .i64 d,.slice (some ⟨b,0,none⟩) 108 cp]:=by kernel_rfl
structure LkG (w0 wr:World) (ps:List (Nat × List Nat)) (v:Value):Prop where
 ext:Ext w0 wr
 ex:∃ es,OwnVs wr w0.heap.size 229 2 v es/\es.length=ps.length/\∀ (i:Nat) p,ps[i]?=some p->∃ b cp,es[i]?=some (partG p.1 b cp)/\OwnBy wr w0.heap.size (.slice (some ⟨b,0,none⟩) 108 cp) p.2/\p.2.length=108/\∀ x∈p.2,x < 256
theorem LkG.nil {w0 wr:World} (h:Ext w0 wr):LkG w0 wr [] (.slice none 0 0):=⟨h,[],OwnVs.nil _ _ _ _,rfl,fun i p hi=>by simp at hi⟩
theorem LkG.more {w0 wr w':World} {ps:List (Nat × List Nat)} {v:Value} (h:LkG w0 wr ps v) (e:Ext wr w'):LkG w0 w' ps v:=by
 obtain ⟨es,h2,h3,h4⟩:=h.ex
 refine ⟨Ext.trans h.ext e,es,h2.ext e,h3,fun i p hi=>?_⟩
 obtain ⟨b,f,e1,e2,e3⟩:=h4 i p hi
 exact ⟨b,f,e1,e2.ext e,e3⟩
theorem LkG.from_ {w0 w1 wr:World} {ps:List (Nat × List Nat)} {v:Value} (h:LkG w1 wr ps v) (e:Ext w0 w1):LkG w0 wr ps v:=by
 obtain ⟨es,h2,h3,h4⟩:=h.ex
 refine ⟨Ext.trans e h.ext,es,h2.down e.size,h3,fun i p hi=>?_⟩
 obtain ⟨b,f,e1,e2,e3⟩:=h4 i p hi
 refine ⟨b,f,e1,⟨e2.1,?_⟩,e3⟩
 rcases e2.2 with q | ⟨g,c,cur,q1,q2,q3⟩
 ·
  exact .inl q
 ·
  exact .inr ⟨g,c,cur,q1,Nat.le_trans e.size q2,q3⟩
theorem LkG.slice {w0 wr:World} {ps:List (Nat × List Nat)} {v:Value} (h:LkG w0 wr ps v):∃ a c,v=.slice a ps.length c:=by
 obtain ⟨es,h2,h3,h4⟩:=h.ex
 obtain ⟨a,c,ev,_⟩:=h2.slice
 exact ⟨a,c,by rw [ev,h3]⟩
theorem OwnBy.row8 {w:World} {B b n cp:Nat} {l:List Nat} (h:OwnBy w B (.slice (some ⟨b,0,none⟩) n cp) l):∃ A,w.heap[b]?=some (.cells A 5 (0,0)):=by
 rcases h.2 with ⟨q,_⟩ | ⟨g,c,cur,q1,q2,q3,_⟩
 ·
  cases q
 ·
  cases q1; exact ⟨cur,q3⟩
theorem LkG.add {w0 W:World} {d b cp:Nat} {f:List Nat} {ps:List (Nat × List Nat)} {v:Value} (h:LkG w0 W ps v) (hj:ps.length < 1000) (hb:OwnBy W w0.heap.size (.slice (some ⟨b,0,none⟩) 108 cp) f) (hf:f.length=108) (hf2:∀ x∈f,x < 256) :
  ∃ a' c' w',(Builtin.append_ #[121,121] 121 #[v,.slice (some ⟨W.heap.size,0,none⟩) 1 1]).run Tryz.prog (W.alloc (.cells (partG d b cp) 229))=.ok (.slice a' (ps.length+1) c') w'/\LkG w0 w' (ps++[(d,f)]) (.slice a' (ps.length+1) c'):=by
 obtain ⟨es,h2,h3,h4⟩:=h.ex
 obtain ⟨v',w',e1,e2,e3,e4⟩:=h2.add (tsl:=121) Tryz.underlying121 infoPart rfl (by omega) (partG d b cp) rfl (by intro u hu; simp [partG] at hu; rcases hu with rfl | rfl<;>rfl) (by omega) (by omega) h.ext.size
 obtain ⟨a',c',ev',_⟩:=e2.slice
 have hlen:(es++[partG d b cp]).length=ps.length+1:=by simp [h3]
 rw [hlen] at ev'
 subst ev'
 have hk:∀ b' cp' l',OwnBy W w0.heap.size (.slice (some ⟨b',0,none⟩) 108 cp') l'->OwnBy w' w0.heap.size (.slice (some ⟨b',0,none⟩) 108 cp') l':=fun b' cp' l' q=>q.only e3 fun b2 hb2 hq=>by
  obtain ⟨A,hA⟩:=q.row8
  cases hb2
  exact h2.not_at (by decide) hA hq
 refine ⟨a',c',w',e1,e4 w0 (Nat.le_refl _) h.ext,_,e2,by rw [hlen]; simp,fun i p hi=>?_⟩
 rcases Nat.lt_or_ge i ps.length with q | q
 ·
  rw [List.getElem?_append_left q] at hi
  obtain ⟨b',f',x1,x2,x3⟩:=h4 i p hi
  exact ⟨b',f',by rw [List.getElem?_append_left (by omega)]; exact x1,hk _ _ _ x2,x3⟩
 ·
  rw [List.getElem?_append_right q] at hi
  rcases hd:i - ps.length with _ | m
  ·
   rw [hd] at hi
   simp at hi
   subst hi
   exact ⟨b,cp,by rw [List.getElem?_append_right (by omega),h3,hd]; rfl,hk _ _ _ hb,hf,hf2⟩
  ·
   rw [hd] at hi; simp at hi
theorem LkG.parts {w0 wr:World} {ps:List (Nat × List Nat)} {v:Value} (h:LkG w0 wr ps v):∃ a c,v=.slice a ps.length c/\(ps≠[]->∃ g,a=some ⟨g,0,none⟩/\PartsAt wr g 108 ps):=by
 obtain ⟨es,h2,h3,h4⟩:=h.ex
 obtain ⟨a,c,ev,q⟩:=h2.slice
 refine ⟨a,c,by rw [ev,h3],fun hn=>?_⟩
 rcases q with ⟨q,_⟩ | ⟨g,ha,_,_,_,hv⟩
 ·
  rw [q] at h3
  exact absurd (List.length_eq_zero_iff.1 h3.symm) hn
 ·
  refine ⟨g,ha,fun i p hi=>?_⟩
  obtain ⟨b,cp,e1,e2,e3,e4⟩:=h4 i p hi
  have q0:=hv i _ e1 0 _ rfl
  have q1:=hv i _ e1 1 _ rfl
  refine ⟨by simpa using q0,b,0,cp,q1,?_⟩
  obtain ⟨a2,c2,r1,r2,r3,r4⟩:=e2.slice e4 (by omega)
  simp only [Value.slice.injEq] at r1
  obtain ⟨rfl,_,rfl⟩:=r1
  rw [e3] at r2
  exact r2
theorem LkG.put {w0 W:World} {d nb:Nat} {f:Frm} {ps:List (Nat × List Nat)} {v:Value} (h:LkG w0 W ps v) (hj:ps.length < 1000) (hb:W.heap[nb]?=some (.cells (Frm.A f) 42 (0,0))) (hf:f.Ok) :
  ∃ b cp W3,(Builtin.append_ #[38,38] 38 #[.slice (some ⟨W.heap.size,0,none⟩) 0 0,.slice (some ⟨nb,4,none⟩) 108 108]).run Tryz.prog (W.alloc (.cells #[] 5))=.ok (.slice (some ⟨b,0,none⟩) 108 cp) W3 ∧
  ∃ a' c' w',(Builtin.append_ #[121,121] 121 #[v,.slice (some ⟨W3.heap.size,0,none⟩) 1 1]).run Tryz.prog (W3.alloc (.cells (partG d b cp) 229))=.ok (.slice a' (ps.length+1) c') w'/\LkG w0 w' (ps++[(d,f.data)]) (.slice a' (ps.length+1) c'):=by
 have x0:Ext W (W.alloc (.cells #[] 5)):=(Ext.refl W).alloc _
 have hd:BytesAt (W.alloc (.cells #[] 5)) (some ⟨nb,4,none⟩) 108 f.data:=⟨hf.len,by omega,hf.byte,.inr ⟨nb,4,rfl,fun x hx=>by
  refine (Zaf (x0.at hb)).trans ?_
  rw [Frm.A_def]
  unfold Frm.cl
  have:=hf.len
  simp only [List.getElem?_toArray]
  rw [List.getElem?_append_right (by simp)]
  simp [nth,List.getD_eq_getElem?_getD,List.getElem?_eq_getElem (show x < f.data.length by omega)]
  rfl⟩⟩
 obtain ⟨b,cp,W3,e1,e2,e3,e4⟩:=Zbb (W.alloc (.cells #[] 5)) W.heap.size (heap_alloc_new _ _) _ 108 108 f.data hd
 have hx:Ext W W3:=Ext.then x0 e3 fun i hi q=>by omega
 have hle:=h.ext.size
 have ho:OwnBy W3 w0.heap.size (.slice (some ⟨b,0,none⟩) 108 cp) f.data:=OwnBy.raise2 e2 hf.len.symm (by omega)
 exact ⟨b,cp,W3,e1,(h.more hx).add hj ho hf.len hf.byte⟩
def FLookPost (w:World) (R:Rck) (c:Cfg) (s:Int) (e:Ending) (w':World):Prop:=∃ v,e=.returned (.tuple #[.int .i64 (R.slook c s).1,v])/\LkG w w' (R.slook c s).2 v
theorem sknown_n {R:Rck} {c:Cfg} {s:Int} (h:R.sknown c s=true):(R.l.length:Int)=c.n:=by
 unfold Rck.sknown at h
 simp only [Bool.and_eq_true] at h
 have hf:=h.1.1
 unfold Rck.fits at hf
 simp only [Bool.and_eq_true,decide_eq_true_eq] at hf
 exact hf.1.2.symm
theorem right_gen {f:Frm} (h:f.right=true):0<=f.gen:=by
 unfold Frm.right Frm.isIn at h
 simp only [Bool.and_eq_true,decide_eq_true_eq] at h
 omega
attribute [local irreducible] wpSQ
set_option maxRecDepth 100000 in
set_option maxHeartbeats 4000000 in
theorem fslook_c {S:Nat->Prop} {w:World} {r:Nat} {R:Rck} (h:FRackAt S w r R) (hrok:∀ (i s k sl st:Int) f,R.get i s k sl st=some f->f.Ok) (hrr:∀ (i s k sl st:Int) f,R.get i s k sl st=some f->f.right=true) (c:Cfg) (s:Int) (hkn:R.sknown c s=true) :
  Calls Tryz.prog 69 #[.pointer (some ⟨r,0,none⟩),.agg (Cfg.A c),.int .i64 s] w (FLookPost w R c s):=by
 have hz:=Za4
 have HZ:=hid (Frm.A_size _ Za9)
 have HP:Hid (FLookPost w R c s=fun e w'=>∃ v,e=.returned (.tuple #[.int .i64 (R.slook c s).1,v])/\LkG w w' (R.slook c s).2 v):=hid rfl
 rw [HP.out]
 obtain ⟨W0,hW0⟩:∃ W,w.alloc (.cells (Cfg.A c) 74)=W:=⟨_,rfl⟩
 have HX1:=hid (show Ext w W0 from hW0▸(Ext.refl w).alloc _)
 have HC1:=hid (show W0.heap[w.heap.size]?=some (.cells (Cfg.A c) 74 (0,0)) from hW0▸heap_alloc_new _ _)
 have H1:=hid (h.ext HX1.out)
 have HGD:=hid (Zbe hkn)
 obtain ⟨n,hn⟩:∃ n:Nat,c.n=n:=⟨c.n.toNat,by have:=HGD.out.1.k0; have:=HGD.out.1.k1; omega⟩
 have HV:Hid (R.slook c s=lookTo R c s n):=hid (by unfold Rck.slook lookTo; rw [hkn,hn]; rfl)
 have HN8:=hid (show n<=8 by have:=HGD.out.1.n1; omega)
 obtain ⟨gl,cl,c0⟩:=fat_n H1.out
 rw [show R.l.length=n by have:=sknown_n hkn; omega] at c0
 have HRK:=hid hrok; have HRR:=hid hrr
 clear h HP hkn hn hrok hrr
 have n8:n<=8:=HN8.out
 have HS0:=hid (show LkG W0 W0 (lookTo R c s 0).2 (.slice none 0 0) from LkG.nil (Ext.refl _))
 go_enter Tryz.func69,Tryz.ntmps69
 go_wp2
 clear c0
 go_loopw [18,8,9] (fun t g v wr=>∃ j:Nat,t=.int .i64 j/\j<=n/\g=.int .i64 (lookTo R c s j).1/\LkG W0 wr (lookTo R c s j).2 v) (fun t _ _ _=>n - (intOf t).toNat)
 case atStart=>exact ⟨0,rfl,by omega,rfl,HS0.out⟩
 case round =>
  clear HS0
  obtain ⟨j,rfl,hj,rfl,hst⟩:=hrel
  have HST:=hid hst
  have HX:=hid hst.ext
  have HLS:=hid (lookTo_succ R c s j)
  have HLL:=hid (lookTo_len R c s j)
  clear hst
  by_cases hlt:j < n
  ·
   have HCR:=hid (HX.out.at HC1.out)
   have H2:=hid (H1.out.ext HX.out)
   obtain ⟨G,hG⟩:∃ G,(lookTo R c s j).1=G:=⟨_,rfl⟩
   obtain ⟨ps,hps⟩:∃ ps,(lookTo R c s j).2=ps:=⟨_,rfl⟩
   have hgp:lookTo R c s j=(G,ps):=by rw [<- hG,<- hps]
   rw [hgp] at HST HLS HLL
   rw [hG]
   clear hgp hG hps
   go_wp2_with (guard_target=wpList _ _ _ (⟨some _,Op.load _ _,_,_,_,none⟩::_) _ _; refine Zae rfl 74 _ rfl ⟨w.heap.size,0,none⟩ rfl (Cfg.A c) (Za6 c) (Zaj HCR.out) ?_)
   refine (fbase_c c HGD.out.1 s HGD.out.2.1 HGD.out.2.2 wr).mono ?_
   rintro e v2 ⟨rfl,x2⟩
   have H3:=hid (H2.out.ext x2)
   have HS3:=hid (HST.out.more x2)
   clear x2 H2 HST HCR HX
   go_wp2_with fail
   refine (fat_get H3.out (j:Int) (Rck.ssec c s) 3 (j:Int) s).mono ?_
   rintro e v3 ⟨rfl,x3⟩
   have HS4:=hid (HS3.out.more x3)
   clear x3 HS3
   have HSG:Hid (R.sgood c s j=R.get (j:Int) (Rck.ssec c s) 3 (j:Int) s):=hid rfl
   have hbs:(v3.alloc (.cells (Frm.A Frm.zero) 42)).heap[v3.heap.size]?=some (.cells (Frm.A Frm.zero) 42 (0,0)):=Zad
   rcases hg:R.get (j:Int) (Rck.ssec c s) 3 (j:Int) s with _ | f
   ·
    have HL2:Hid (lookTo R c s (j+1)=(G,ps)):=hid (by rw [HLS.out]; unfold lookStep; rw [HSG.out,hg])
    simp only [gotO,Option.getD_none,Option.isSome_none]
    clear hg HLS HSG
    go_wp2_with (guard_target=wpList _ _ _ (⟨none,Op.store _ _ _,_,_,_,none⟩::_) _ _; have hb0:=hbs; clear hbs; refine Zab rfl 42 _ _ rfl v3.heap.size rfl (Frm.A Frm.zero) _ rfl 42 ?_ hb0 ?_ ?_ ?_; (rw [HZ.out]; exact aggFrame); (rfl); exact Frm.A_one _; rw [Zao])
    go_roundw
    case rel=>exact ⟨j+1,by go_num,by omega,by rw [HL2.out],by rw [HL2.out]; exact HS4.out.more ((Ext.refl v3).alloc _)⟩
    case measure=>simp [intOf]; omega
   ·
    have hfo:=HRK.out _ _ _ _ _ f hg
    have hg0:=right_gen (HRR.out _ _ _ _ _ f hg)
    have HFS:=hid (Frm.A_size f hfo)
    have HFO:=hid hfo
    simp only [gotO,Option.getD_some,Option.isSome_some]
    obtain ⟨a0,c0,rfl⟩:=HS4.out.slice
    obtain ⟨W2,hW2⟩:∃ W,v3.alloc (.cells (Frm.A f) 42)=W:=⟨_,rfl⟩
    obtain ⟨nb,hnb⟩:∃ b,v3.heap.size=b:=⟨_,rfl⟩
    have x2:Ext v3 W2:=hW2▸(Ext.refl v3).alloc _
    have hb2:W2.heap[nb]?=some (.cells (Frm.A f) 42 (0,0)):=by rw [<- hW2,<- hnb]; exact heap_alloc_new _ _
    have HS5:=hid (HS4.out.more x2)
    have HW2:=hid hW2; have HNB:=hid hnb; have HB2:=hid hb2
    have c3:W2.cell? ⟨nb,3,none⟩=some (.int .i64 f.gen):=(Zaf hb2).trans (Frm.A3 f)
    have HLS2:Hid (lookTo R c s (j+1)=if f.gen=0\/f.gen < G then (G,ps) else if G < f.gen then (f.gen,[(j,f.data)]) else (G,ps++[(j,f.data)])):=hid (by rw [HLS.out]; unfold lookStep; rw [HSG.out,hg])
    have hpl:ps.length < 1000:=by have:=HLL.out; omega
    have HPL:=hid hpl
    obtain ⟨fg,hfg⟩:∃ x,f.gen=x:=⟨_,rfl⟩
    rw [hfg] at c3 HLS2 hg0
    have HG0:=hid hg0
    clear hg HLS HSG hW2 hnb hb2 x2 hfo HS4 hpl hfg HLL hg0
    by_cases h0:fg < 1
    ·
     have HL2:Hid (lookTo R c s (j+1)=(G,ps)):=hid (by rw [HLS2.out,if_pos (.inl (by have:=HG0.out; omega))])
     have HS6:=HS5
     clear HLS2
     go_wp2_with (first
     | (guard_target=wpList _ _ _ (⟨none,Op.store _ _ _,_,_,_,none⟩::_) _ _; have hb0:=hbs; clear hbs; refine Zab rfl 42 _ _ rfl v3.heap.size rfl (Frm.A f) _ rfl 42 ?_ hb0 ?_ ?_ ?_; (rw [HFS.out]; exact aggFrame); (rw [HFS.out,HZ.out]); exact Frm.A_one _; rw [Zao,HW2.out,HNB.out]))
     go_roundw
     case rel=>exact ⟨j+1,by go_num,by omega,by rw [HL2.out],by rw [HL2.out]; exact HS6.out⟩
     case measure=>simp [intOf]; omega
    ·
     have h0n:¬fg=0:=by omega
     have HN0:=hid h0n
     clear h0n
     by_cases h1:fg < G
     ·
      have HL2:Hid (lookTo R c s (j+1)=(G,ps)):=hid (by rw [HLS2.out,if_pos (.inr h1)])
      have HS6:=HS5
      have h2:¬fg > G:=by omega
      have h3:(fg == G)=false:=by rw [beq_eq_false_iff_ne]; omega
      clear HLS2 h1
      go_wp2_with (first
      | (guard_target=wpList _ _ _ (⟨none,Op.store _ _ _,_,_,_,none⟩::_) _ _; have hb0:=hbs; clear hbs; refine Zab rfl 42 _ _ rfl v3.heap.size rfl (Frm.A f) _ rfl 42 ?_ hb0 ?_ ?_ ?_; (rw [HFS.out]; exact aggFrame); (rw [HFS.out,HZ.out]); exact Frm.A_one _; rw [Zao,HW2.out,HNB.out]))
      go_roundw
      case rel=>exact ⟨j+1,by go_num,by omega,by rw [HL2.out],by rw [HL2.out]; exact HS6.out⟩
      case measure=>simp [intOf]; omega
     ·
      by_cases h2:G < fg
      ·
       have HL2:Hid (lookTo R c s (j+1)=(fg,[]++[(j,f.data)])):=hid (by rw [HLS2.out,if_neg (by have:=HN0.out; omega),if_pos h2]; rfl)
       obtain ⟨b,cp,W3,ha1,a2,c2,w3,ha2,hs6⟩:=(LkG.nil HS5.out.ext).put (d:=j) (nb:=nb) (f:=f) (by simp) HB2.out HFO.out
       have HS6:=hid hs6; have HA1:=hid ha1; have HA2:=hid ha2
       have HBP:=hid (built_partG j b cp)
       have h3:fg > G:=h2
       have h4:(fg == fg)=true:=beq_self_eq_true _
       clear HLS2 hs6 ha1 ha2 h1 h2
       go_wp2_with (first
       | (guard_target=wpList _ _ _ (⟨none,Op.store _ _ _,_,_,_,none⟩::_) _ _; have hb0:=hbs; clear hbs; refine Zab rfl 42 _ _ rfl v3.heap.size rfl (Frm.A f) _ rfl 42 ?_ hb0 ?_ ?_ ?_; (rw [HFS.out]; exact aggFrame); (rw [HFS.out,HZ.out]); exact Frm.A_one _; rw [Zao,HW2.out,HNB.out])
       | (guard_target=wpList _ _ _ (⟨some _,Op.build _ _,_,_,_,none⟩::_) _ _; refine Zav rfl 229 _ rfl (partG j b cp) ?_ ?_; (simp only [List.map_toArray,List.map_cons,List.map_nil,Act.eval]; simp only [Array.getD_eq_getD_getElem?,List.getElem?_toArray,List.getElem?_cons_succ,List.getElem?_cons_zero,Option.getD_some]; exact HBP.out))
       | (guard_target=wpList _ _ _ (⟨some _,Op.buildSlice _ _ _,_,_,_,none⟩::_) _ _; refine Zag rfl 121 229 _ rfl (partG j b cp) _ _ 2 32 Tryz.underlying121 infoPart (by omega) (by omega) rfl rfl rfl ?_)
       | (at_builtin; refine wpList_append_run rfl _ _ _ rfl _ _ _ _ rfl rfl HA1.out ?_)
       | (at_builtin; refine wpList_append_run rfl _ _ _ rfl _ _ _ _ rfl rfl HA2.out ?_))
       go_roundw
       case rel=>exact ⟨j+1,by go_num,by omega,by rw [HL2.out],by rw [HL2.out]; exact HS6.out⟩
       case measure=>simp [intOf]; omega
      ·
       have HL2:Hid (lookTo R c s (j+1)=(G,ps++[(j,f.data)])):=hid (by rw [HLS2.out,if_neg (by have:=HN0.out; omega),if_neg h2])
       obtain ⟨b,cp,W3,ha1,a2,c2,w3,ha2,hs6⟩:=HS5.out.put (d:=j) (nb:=nb) (f:=f) HPL.out HB2.out HFO.out
       have HS6:=hid hs6; have HA1:=hid ha1; have HA2:=hid ha2
       have HBP:=hid (built_partG j b cp)
       have h3:¬fg > G:=h2
       have h4:(fg == G)=true:=by rw [beq_iff_eq]; omega
       clear HLS2 hs6 ha1 ha2 h1 h2
       go_wp2_with (first
       | (guard_target=wpList _ _ _ (⟨none,Op.store _ _ _,_,_,_,none⟩::_) _ _; have hb0:=hbs; clear hbs; refine Zab rfl 42 _ _ rfl v3.heap.size rfl (Frm.A f) _ rfl 42 ?_ hb0 ?_ ?_ ?_; (rw [HFS.out]; exact aggFrame); (rw [HFS.out,HZ.out]); exact Frm.A_one _; rw [Zao,HW2.out,HNB.out])
       | (guard_target=wpList _ _ _ (⟨some _,Op.build _ _,_,_,_,none⟩::_) _ _; refine Zav rfl 229 _ rfl (partG j b cp) ?_ ?_; (simp only [List.map_toArray,List.map_cons,List.map_nil,Act.eval]; simp only [Array.getD_eq_getD_getElem?,List.getElem?_toArray,List.getElem?_cons_succ,List.getElem?_cons_zero,Option.getD_some]; exact HBP.out))
       | (guard_target=wpList _ _ _ (⟨some _,Op.buildSlice _ _ _,_,_,_,none⟩::_) _ _; refine Zag rfl 121 229 _ rfl (partG j b cp) _ _ 2 32 Tryz.underlying121 infoPart (by omega) (by omega) rfl rfl rfl ?_)
       | (at_builtin; refine wpList_append_run rfl _ _ _ rfl _ _ _ _ rfl rfl HA1.out ?_)
       | (at_builtin; refine wpList_append_run rfl _ _ _ rfl _ _ _ _ rfl rfl HA2.out ?_))
       go_roundw
       case rel=>exact ⟨j+1,by go_num,by omega,by rw [HL2.out],by rw [HL2.out]; exact HS6.out⟩
       case measure=>simp [intOf]; omega
  ·
   obtain rfl:n=j:=by omega
   have HF:=hid (HST.out.from_ HX1.out)
   clear HST HX HLS HLL
   go_wp2
   go_ret2
   rw [HV.out]
   exact ⟨_,rfl,HF.out⟩
end Go.Proofs.YtgjnnbomnoafcaaGreatDoor
