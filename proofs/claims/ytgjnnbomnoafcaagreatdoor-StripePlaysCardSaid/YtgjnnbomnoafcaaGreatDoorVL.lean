/- Texts of one proof, joined: RfFrmA, RfFrmB, RfFrmC. -/
import Derived.Test.YtgjnnbomnoafcaaGreatDoorVJ
import Derived.Test.YtgjnnbomnoafcaaGreatDoorVB
import Derived.Test.YtgjnnbomnoafcaaGreatDoorVI
import Derived.Test.YtgjnnbomnoafcaaGreatDoorVD
import Derived.Test.YtgjnnbomnoafcaaGreatDoorVF
import Derived.Test.YtgjnnbomnoafcaaGreatDoorVH
set_option linter.unusedVariables false
set_option linter.unusedSimpArgs false
namespace Go.Proofs.YtgjnnbomnoafcaaGreatDoor
set_option linter.unusedVariables false
open Go Go.RowKit
theorem OwnBy.raise2 {W:World} {B g n c:Nat} {l:List Nat} (h:W.ownsRow 0 5 1 (.slice (some ⟨g,0,none⟩) n c) n (l.map bv)) (hn:n=l.length) (hB:B<=g):OwnBy W B (.slice (some ⟨g,0,none⟩) n c) l:=by
 subst hn
 refine ⟨h.1,?_⟩
 rcases h.2 with ⟨e,_⟩ | ⟨g',c',cur,e,_,h5⟩
 ·
  exact absurd e (by simp)
 ·
  have e':=e
  simp only [Value.slice.injEq,Option.some.injEq,Addr.mk.injEq] at e'
  exact .inr ⟨g',c',cur,e,by omega,h5⟩
theorem OwnBy.fresh2 (W:World) (g:Nat) (hg:W.heap[g]?=some (.cells #[] 5 (0,0))) (a:Option Addr) (c:Nat) (l:List Nat) (h:BytesAt W a l.length l) :
  ∃ v W',Sem.run Tryz.prog (Builtin.append_ #[38,38] 38 #[.slice (some ⟨g,0,none⟩) 0 0,.slice a l.length c]) W=.ok v W'/\OwnBy W' g v l/\Only (fun k=>k=g) W W':=by
 obtain ⟨b,cap,W',h1,h2,h3,h4⟩:=Zbb W g hg a l.length c l h
 exact ⟨_,W',h1,OwnBy.raise2 h2 rfl h4,h3⟩
theorem low_snoc (m i:Nat):Frm.low (i+1) m=Frm.low i m++[m / 2 ^ (8*i) % 256]:=by simp [Frm.low,List.range_succ]
set_option maxRecDepth 100000 in
set_option maxHeartbeats 1000000 in
theorem fnum_c (l:List Nat) (hl:l.length<=1000) (hb:∀ x∈l,x < 256) (a:Option Addr) (cp m sz:Nat) (hm:m < 18446744073709551616) (hsz:sz<=8) (w:World) (h:BytesAt w a l.length l) :
  Calls Tryz.prog 184 #[.slice a l.length cp,.int .u64 m,.int .i64 sz] w fun e w'=>∃ v,e=.returned v/\OwnBy w' w.heap.size v (l++Frm.low sz m)/\Ext w w':=by
 obtain ⟨W0,hW0⟩:∃ W,w.alloc (.cells #[] 5)=W:=⟨_,rfl⟩
 have x0:Ext w W0:=hW0▸(Ext.refl w).alloc _
 obtain ⟨v1,W1,hap,ho,hk⟩:=OwnBy.fresh2 W0 w.heap.size (hW0▸heap_alloc_new _ _) a cp l (h.ext x0)
 have HAP:=hid hap
 have HO:=hid ho
 have HX:=hid (show Ext w W1 from Ext.then x0 hk fun i hi q=>by omega)
 have HL:=hid hl; have HB:=hid hb; have HM:=hid hm
 have HW0:=hid hW0
 clear hap ho hk x0 h hl hb hm hW0
 go_enter Tryz.func184,Tryz.ntmps184
 go_wp2_with (at_builtin; rw [HW0.out]; refine wpList_append_run rfl _ _ _ rfl _ _ _ _ rfl rfl HAP.out ?_)
 go_loopw [8,7] (fun t v wq=>∃ i:Nat,t=.int .i64 i/\i<=sz/\OwnBy wq w.heap.size v (l++Frm.low i m)/\Ext w wq) (fun t _ _=>sz - (intOf t).toNat)
 case atStart=>exact ⟨0,rfl,by omega,by simpa [Frm.low] using HO.out,HX.out⟩
 case round =>
  clear HO HX
  obtain ⟨i,rfl,hi,ho,hx⟩:=hrel
  have HO:=hid ho; have HX:=hid hx
  clear ho hx
  by_cases h2:i < sz
  ·
   have i2:(i:Int) < (sz:Int):=by omega
   have i0:(0:Int)<=(i:Int):=by omega
   obtain ⟨W4,hW4⟩:∃ W,wr.alloc (.cells #[.int .u8 ((m:Int) / 2 ^ (8*i) % 256)] 5)=W:=⟨_,rfl⟩
   have x4:Ext wr W4:=hW4▸(Ext.refl wr).alloc _
   have hbk:W4.heap[wr.heap.size]?=some (.cells #[.int .u8 ((m:Int) / 2 ^ (8*i) % 256)] 5 (0,0)):=hW4▸heap_alloc_new _ _
   have hb4:BytesAt W4 (some ⟨wr.heap.size,0,none⟩) 1 [m / 2 ^ (8*i) % 256]:=⟨rfl,by omega,fun y hy=>by
    have:y=m / 2 ^ (8*i) % 256:=by simpa using hy
    rw [this]; exact Nat.mod_lt _ (by decide),.inr ⟨_,0,rfl,fun j hj=>by
    obtain rfl:j=0:=by omega
    exact (Zaf hbk).trans (congrArg some (congrArg (Value.int .u8) (by show (m:Int) / 2 ^ (8*i) % 256=((m / 2 ^ (8*i) % 256:Nat):Int); push_cast; rfl)))⟩⟩
   obtain ⟨v6,w6,hap,ho6,_,hx6⟩:=(HO.out.ext x4).push (c:=1) hb4 (by omega) (by have:=HL.out; rw [List.length_append,Frm.low_len]; omega) (Nat.le_trans HX.out.size x4.size)
   rw [List.append_assoc,<- low_snoc] at ho6
   have HA:=hid hap
   have HO6:=hid ho6
   have HX6:=hid (hx6 w (Nat.le_refl _) (Ext.trans HX.out x4))
   have HW4:=hid hW4
   clear hap ho6 hx6 hb4 hbk x4 hW4 HO HX
   go_wp2_with (at_builtin; rw [HW4.out]; refine wpList_append_run rfl _ _ _ rfl _ _ _ _ rfl rfl HA.out ?_)
   go_roundw
   case rel=>exact ⟨i+1,by go_num,by omega,HO6.out,HX6.out⟩
   case measure=>simp [intOf]; omega
  ·
   obtain rfl:sz=i:=by omega
   go_wp2_with fail
   go_ret
   exact ⟨_,rfl,HO.out,HX.out⟩
theorem u64_or_nat (a b:Nat) (ha:a < 2 ^ 64) (hb:b < 2 ^ 64):bits .or .u64 (a:Int) (b:Int)=((a ||| b:Nat):Int) :=
 (bits_nat .u64 64 (by decide) Zbk a b ha hb).2
theorem or_low (N x:Nat) (hx:x < 256):(N*256) ||| x=x+256*N:=by
 have:=Nat.two_pow_add_eq_or_of_lt (i:=8) (b:=x) hx N
 rw [show N*256=2 ^ 8*N by omega,<- this]; omega
theorem num_drop (l:List Nat) (j:Nat) (h:j < l.length):Frm.num (l.drop j)=nth l j+256*Frm.num (l.drop (j+1)):=by
 have e:l.drop j=nth l j::l.drop (j+1):=by rw [List.drop_eq_getElem_cons h,Za0 h]
 rw [e]; rfl
theorem num_drop_bd (l:List Nat) (hl:l.length<=8) (hb:∀ x∈l,x < 256) (j:Nat):Frm.num (l.drop (j+1)) < 72057594037927936:=by
 have h1:=Frm.num_bd (l.drop (j+1)) fun x hx=>hb x (List.mem_of_mem_drop hx)
 have h2:(256:Nat) ^ (l.drop (j+1)).length<=256 ^ 7:=Nat.pow_le_pow_right (by omega) (by rw [List.length_drop]; omega)
 have e7:(256:Nat) ^ 7=72057594037927936:=by decide
 omega
set_option maxRecDepth 100000 in
set_option maxHeartbeats 1000000 in
theorem fbig_c (b off n c:Nat) (l:List Nat) (w:World) (hl:l.length=n) (hn:n<=8) (hb:∀ x∈l,x < 256) (hc:∀ i,i < n->w.cell? ⟨b,off+i,none⟩=some (.int .u8 (nth l i))) :
  Calls Tryz.prog 136 #[.slice (some ⟨b,off,none⟩) n c] w fun e w'=>e=.returned (.int .u64 (Frm.num l:Nat))/\w=w':=by
 have HC:=hid hc; have HB:=hid hb; have HL:=hid hl
 have hw0:wrap64 ((n:Int) - 1)=(n:Int) - 1:=by unfold wrap64; omega
 clear hc hb hl
 go_enter Tryz.func136,Tryz.ntmps136
 go_wp2
 clear hw0
 go_loop [3,4] (fun v i=>∃ j:Nat,j<=n/\i=.int .i64 ((j:Int) - 1)/\v=.int .u64 (Frm.num (l.drop j):Nat)) (fun _ i=>(intOf i+1).toNat)
 case atStart=>exact ⟨n,Nat.le_refl _,rfl,by rw [List.drop_of_length_le (by rw [HL.out]; exact Nat.le_refl _)]; rfl⟩
 case round =>
  obtain ⟨j,hj,rfl,rfl⟩:=hrel
  by_cases h0:j=0
  ·
   subst h0
   have HE:Hid (Frm.num (l.drop 0)=Frm.num l):=hid (by rw [List.drop_zero])
   rw [HE.out]
   go_wp2
   go_ret
   exact ⟨rfl,rfl⟩
  ·
   obtain ⟨i,rfl⟩:∃ i,j=i+1:=⟨j - 1,by omega⟩
   have c1:=HC.out i (by omega)
   have xb:=Zay HB.out i
   have HN:=hid (num_drop l i (by rw [HL.out]; omega))
   have hnb:=num_drop_bd l (by rw [HL.out]; exact hn) HB.out i
   obtain ⟨x,hx⟩:∃ x,nth l i=x:=⟨_,rfl⟩
   obtain ⟨N,hN⟩:∃ N,Frm.num (l.drop (i+1))=N:=⟨_,rfl⟩
   rw [hx] at c1 xb
   rw [hx,hN] at HN
   rw [hN] at hnb ⊢
   have e1:((i+1:Nat):Int) - 1=(i:Int):=by omega
   rw [e1]
   have i0:(0:Int)<=(i:Int):=by omega
   have i1:(i:Int) < (n:Int):=by omega
   have hw:wrap64 ((i:Int) - 1)=(i:Int) - 1:=by unfold wrap64; omega
   clear hx hN e1 h0
   go_wp2
   refine ⟨⟨i,by omega,rfl,?_⟩,by simp [intOf]<;>omega⟩
   rw [HN.out,show ((N:Int)*256)=((N*256:Nat):Int) by omega,u64_or_nat (N*256) x (by omega) (by omega),or_low N x xb]
theorem Crc.onB_snoc (c:Nat) (l:List Nat) (x:Nat):Crc.onB c (l++[x])=Crc.updB (Crc.onB c l) x:=by
 unfold Crc.onB; rw [List.foldl_append]; rfl
theorem Crc.onB_bd (c:Nat) (l:List Nat) (hc:c < 4294967296) (hl:∀ x∈l,x < 256):Crc.onB c l < 4294967296:=by
 rw [Crc.onB_on l hl]; exact Crc.onL_bd c l hc hl
set_option maxRecDepth 100000 in
set_option maxHeartbeats 1000000 in
theorem fcrc_c (b off n c:Nat) (l:List Nat) (w:World) (hl:l.length=n) (hn:n<=1000) (hb:∀ x∈l,x < 256) (hc:∀ i,i < n->w.cell? ⟨b,off+i,none⟩=some (.int .u8 (nth l i))) :
  Calls Tryz.prog 181 #[.slice (some ⟨b,off,none⟩) n c] w fun e w'=>e=.returned (.int .u32 (Crc.sum l:Nat))/\w=w':=by
 have HC:=hid hc; have HB:=hid hb; have HL:=hid hl
 clear hc hb hl
 go_enter Tryz.func181,Tryz.ntmps181
 go_wp2
 go_loop [3,9] (fun c i=>∃ k:Nat,k<=n/\i=.int .i64 k/\c=.int .u32 (Crc.onB 4294967295 (l.take k):Nat)) (fun _ i=>n - (intOf i).toNat)
 case atStart=>exact ⟨0,by omega,rfl,rfl⟩
 case round =>
  obtain ⟨k,hk,rfl,rfl⟩:=hrel
  by_cases hlt:k < n
  ·
   have c1:=HC.out k hlt
   have xb:=Zay HB.out k
   have HS:Hid (Crc.onB 4294967295 (l.take (k+1))=Crc.cstn 8 (Crc.onB 4294967295 (l.take k) ^^^ nth l k)):=hid (by rw [Zcm l k (by rw [HL.out]; exact hlt),Crc.onB_snoc]; rfl)
   have hcb:=Crc.onB_bd 4294967295 (l.take k) (by omega) fun x hx=>HB.out x (List.mem_of_mem_take hx)
   obtain ⟨x,hx⟩:∃ x,nth l k=x:=⟨_,rfl⟩
   obtain ⟨C,hC⟩:∃ C,Crc.onB 4294967295 (l.take k)=C:=⟨_,rfl⟩
   rw [hx] at c1 xb HS
   rw [hC] at hcb HS
   rw [hC]
   have hxr:=u32_xor_nat C x hcb (by omega)
   have hcx:C ^^^ x < 4294967296:=Nat.xor_lt_two_pow (n:=32) hcb (by omega)
   obtain ⟨Y,hY⟩:∃ Y,C ^^^ x=Y:=⟨_,rfl⟩
   rw [hY] at hxr hcx HS
   have k0:(0:Int)<=(k:Int):=by omega
   have k1:(k:Int) < (n:Int):=by omega
   clear hx hC hY
   go_wp2
   go_loop [3,6] (fun c i=>∃ j:Nat,j<=8/\i=.int .i64 j/\c=.int .u32 (Crc.cstn j Y:Nat)) (fun _ i=>8 - (intOf i).toNat)
   case atStart=>exact ⟨0,by omega,rfl,rfl⟩
   case round =>
    obtain ⟨j,hj,rfl,rfl⟩:=hrel
    by_cases hj8:j < 8
    ·
     have hcb2:=Crc.cstn_bd j Y hcx
     have hS:Hid (Crc.cstn (j+1) Y=Crc.cstep (Crc.cstn j Y)):=hid rfl
     obtain ⟨c2,hc⟩:∃ c,Crc.cstn j Y=c:=⟨_,rfl⟩
     rw [hc] at hcb2 hS
     rw [hc]
     have hand:=u32_and1 c2 hcb2
     rcases Nat.mod_two_eq_zero_or_one c2 with h2 | h2
     ·
      rw [h2] at hand
      have hand:bits .and .u32 (c2:Int) 1=0:=hand
      have HC2:Hid (Crc.cstep c2=c2 / 2):=hid (by unfold Crc.cstep; rw [if_neg (by omega)])
      clear h2 hc
      go_wp2
      go_round
      case rel=>exact ⟨j+1,by omega,by go_num,by rw [hS.out,HC2.out]; go_num⟩
      case measure=>simp [intOf]; omega
     ·
      rw [h2] at hand
      have hand:bits .and .u32 (c2:Int) 1=1:=hand
      have HC2:Hid (Crc.cstep c2=(c2 / 2) ^^^ 2197175160):=hid (by unfold Crc.cstep Crc.poly; rw [if_pos h2])
      have hxr2:Hid (bits .xor .u32 ((c2 / 2:Nat):Int) ((2197175160:Nat):Int)=(((c2 / 2) ^^^ 2197175160:Nat):Int)):=hid (u32_xor_nat (c2 / 2) 2197175160 (by omega) (by omega))
      clear h2 hc
      go_wp2
      go_round
      case rel =>
       refine ⟨j+1,by omega,by go_num,?_⟩
       rw [hS.out,HC2.out,show ((c2:Int) / 2)=((c2 / 2:Nat):Int) by omega]; exact congrArg _ hxr2.out
      case measure=>simp [intOf]; omega
    ·
     obtain rfl:8=j:=by omega
     go_wp2
     go_round
     case rel=>exact ⟨k+1,by omega,by go_num,by rw [HS.out]⟩
     case measure=>simp [intOf]; omega
  ·
   obtain rfl:n=k:=by omega
   have HE:Hid (Crc.neg (Crc.onB 4294967295 (l.take n))=Crc.sum l):=hid (by rw [List.take_of_length_le (by rw [HL.out]; exact Nat.le_refl _),Crc.onB_on l HB.out]; rfl)
   have hcb:=Crc.onB_bd 4294967295 (l.take n) (by omega) fun x hx=>HB.out x (List.mem_of_mem_take hx)
   have hneg:=u32_neg _ hcb
   rw [HE.out] at hneg
   go_wp2
   go_ret
   exact ⟨rfl,rfl⟩
set_option maxRecDepth 100000 in
set_option maxHeartbeats 2000000 in
theorem frightf_c (f:Frm) (w:World) :
  Calls Tryz.prog 182 #[.agg (Frm.A f)] w fun e w'=>e=.returned (.bool f.right)/\Ext w w':=by
 have a0:=Frm.A0 f
 have a1:=Frm.A1 f
 have a2:=Frm.A2 f
 have a3:=Frm.A3 f
 have HR:Hid (f.right=(Frm.isIn f.kind 1 3 && Frm.isIn f.slot 0 7 && Frm.isIn f.stripe 0 63 && Frm.isIn f.gen 0 1152921504606846976)):=hid rfl
 obtain ⟨k,s,st,g,d⟩:=f
 simp only at a0 a1 a2 a3 HR ⊢
 generalize Frm.A _=A at *
 generalize (Frm.mk k s st g d).right=rr at *
 by_cases q0:1<=k
 ·
  by_cases q1:k<=3
  ·
   by_cases q2:0<=s
   ·
    by_cases q3:s < 8
    ·
     by_cases q4:0<=st
     ·
      by_cases q5:st < 64
      ·
       by_cases q6:0<=g
       ·
        by_cases q7:g<=1152921504606846976
        ·
         have HV:Hid (rr=true):=hid (by rw [HR.out]; simp [Frm.isIn]; omega)
         clear HR
         go_enter Tryz.func182,Tryz.ntmps182
         go_wp2
         go_ret
         exact ⟨by rw [HV.out]; rfl,(Ext.refl w).alloc _⟩
        ·
         have HV:Hid (rr=false):=hid (by rw [HR.out]; simp [Frm.isIn]; omega)
         clear HR
         go_enter Tryz.func182,Tryz.ntmps182
         go_wp2
         go_ret
         exact ⟨by rw [HV.out]; rfl,(Ext.refl w).alloc _⟩
       ·
        have HV:Hid (rr=false):=hid (by rw [HR.out]; simp [Frm.isIn]; omega)
        clear HR
        go_enter Tryz.func182,Tryz.ntmps182
        go_wp2
        go_ret
        exact ⟨by rw [HV.out]; rfl,(Ext.refl w).alloc _⟩
      ·
       have HV:Hid (rr=false):=hid (by rw [HR.out]; simp [Frm.isIn]; omega)
       clear HR
       go_enter Tryz.func182,Tryz.ntmps182
       go_wp2
       go_ret
       exact ⟨by rw [HV.out]; rfl,(Ext.refl w).alloc _⟩
     ·
      have HV:Hid (rr=false):=hid (by rw [HR.out]; simp [Frm.isIn]; omega)
      clear HR
      go_enter Tryz.func182,Tryz.ntmps182
      go_wp2
      go_ret
      exact ⟨by rw [HV.out]; rfl,(Ext.refl w).alloc _⟩
    ·
     have HV:Hid (rr=false):=hid (by rw [HR.out]; simp [Frm.isIn]; omega)
     clear HR
     go_enter Tryz.func182,Tryz.ntmps182
     go_wp2
     go_ret
     exact ⟨by rw [HV.out]; rfl,(Ext.refl w).alloc _⟩
   ·
    have HV:Hid (rr=false):=hid (by rw [HR.out]; simp [Frm.isIn]; omega)
    clear HR
    go_enter Tryz.func182,Tryz.ntmps182
    go_wp2
    go_ret
    exact ⟨by rw [HV.out]; rfl,(Ext.refl w).alloc _⟩
  ·
   have HV:Hid (rr=false):=hid (by rw [HR.out]; simp [Frm.isIn]; omega)
   clear HR
   go_enter Tryz.func182,Tryz.ntmps182
   go_wp2
   go_ret
   exact ⟨by rw [HV.out]; rfl,(Ext.refl w).alloc _⟩
 ·
  have HV:Hid (rr=false):=hid (by rw [HR.out]; simp [Frm.isIn]; omega)
  clear HR
  go_enter Tryz.func182,Tryz.ntmps182
  go_wp2
  go_ret
  exact ⟨by rw [HV.out]; rfl,(Ext.refl w).alloc _⟩
attribute [local irreducible] wpSQ
theorem fnum_b (l:List Nat) (n r:Nat) (hln:l.length=n) (hl:n<=1000) (hb:∀ x∈l,x < 256) (a:Option Addr) (cp m sz:Nat) (hr:r=n+sz) (hm:m < 18446744073709551616) (hsz:sz<=8) (w:World) (h:BytesAt w a n l) :
  Calls Tryz.prog 184 #[.slice a n cp,.int .u64 m,.int .i64 sz] w fun e w'=>∃ a' c',e=.returned (.slice a' r c')/\BytesAt w' a' r (l++Frm.low sz m)/\OwnBy w' w.heap.size (.slice a' r c') (l++Frm.low sz m)/\Ext w w':=by
 subst hln hr
 refine (fnum_c l hl hb a cp m sz hm hsz w h).mono ?_
 rintro e w' ⟨v,rfl,ho,hx⟩
 have hby:∀ x∈l++Frm.low sz m,x < 256:=fun x hx=>by
  rcases List.mem_append.1 hx with q | q
  ·
   exact hb x q
  ·
   exact Frm.low_byte _ _ x q
 have hlen:(l++Frm.low sz m).length=l.length+sz:=by rw [List.length_append,Frm.low_len]
 obtain ⟨a',c',rfl,h1,_,_⟩:=ho.slice hby (by omega)
 rw [hlen] at h1 ho
 exact ⟨a',c',by rw [hlen],h1,ho,hx⟩
theorem bytes_nil (w:World):BytesAt w none 0 []:=⟨rfl,by omega,by simp,.inl rfl⟩
def FPutRPost (f:Frm) (w:World) (e:Ending) (w':World):Prop:=∃ a n c,e=.returned (.slice a n c)/\BytesAt w' a n f.put/\Ext w w'
set_option maxRecDepth 100000 in
set_option maxHeartbeats 2000000 in
theorem fputf_no (f:Frm) (w:World) (h:f.Ok) (hr:f.right=false):Calls Tryz.prog 133 #[.agg (Frm.A f)] w (FPutRPost f w):=by
 have hs:=Frm.A_size f h
 have HF:Hid (f.put=[]):=hid (by unfold Frm.put; rw [hr]; rfl)
 go_enter Tryz.func133,Tryz.ntmps133
 go_wp2_with (first
  | (refine Zae rfl 42 _ rfl ⟨w.heap.size,0,none⟩ rfl (Frm.A f) ?_ ?_ ?_; (rw [hs]; exact aggFrame); exact Zaj Zad)
  | (go_at_call 182; refine (frightf_c f _).mono ?_; rintro e w' ⟨rfl,hx⟩; rw [hr]))
 go_ret
 exact ⟨none,0,0,rfl,by rw [HF.out]; exact bytes_nil _,Ext.trans ((Ext.refl w).alloc _) hx⟩
set_option maxRecDepth 100000 in
set_option maxHeartbeats 2000000 in
theorem fputf_yes (f:Frm) (w:World) (h:f.Ok) (hr:f.right=true):Calls Tryz.prog 133 #[.agg (Frm.A f)] w (FPutRPost f w):=by
 have hs:=Frm.A_size f h
 have hsp:=Frm.right_spec hr
 have hA:=hid hs
 have HR:=hid hr; have HOK:=hid h
 obtain ⟨k1,hk1⟩:∃ k1:Nat,f.kind=k1:=⟨f.kind.toNat,by omega⟩
 obtain ⟨s1,hs1⟩:∃ s1:Nat,f.slot=s1:=⟨f.slot.toNat,by omega⟩
 obtain ⟨t1,ht1⟩:∃ t1:Nat,f.stripe=t1:=⟨f.stripe.toNat,by omega⟩
 obtain ⟨g1,hg1⟩:∃ g1:Nat,f.gen=g1:=⟨f.gen.toNat,by omega⟩
 have hb1:k1 < 256/\s1 < 256/\t1<=63/\g1<=1152921504606846976:=by omega
 have a0:=Frm.A0 f
 have a1:=Frm.A1 f
 have a2:=Frm.A2 f
 have a3:=Frm.A3 f
 rw [hk1] at a0; rw [hs1] at a1; rw [ht1] at a2; rw [hg1] at a3
 have HBD:=hid hb1
 have wk:IntKind.u64.wrap (k1:Int)=k1:=Zbk _ (by omega) (by omega)
 have ws:IntKind.u64.wrap (s1:Int)=s1:=Zbk _ (by omega) (by omega)
 have wt:IntKind.u64.wrap (t1:Int)=t1:=Zbk _ (by omega) (by omega)
 have wg:IntKind.u64.wrap (g1:Int)=g1:=Zbk _ (by omega) (by omega)
 have HBODY:Hid (((((Frm.low 2 21587++Frm.low 1 k1)++Frm.low 1 s1)++Frm.low 4 t1)++Frm.low 8 g1)++f.data=f.body):=hid (by
  unfold Frm.body
  rw [hk1,hs1,ht1,hg1]
  have e1:Frm.low 1 k1=[k1]:=by unfold Frm.low; simp; omega
  have e2:Frm.low 1 s1=[s1]:=by unfold Frm.low; simp; omega
  have e3:Frm.low 2 21587=[83,84]:=by decide
  rw [e1,e2,e3]
  simp)
 have HPUT:Hid (f.put=f.body++Frm.low 4 (Crc.sum f.body)):=hid (by unfold Frm.put Frm.bytes; rw [if_pos hr])
 obtain ⟨W1,hW1⟩:∃ W,w.alloc (.cells (Frm.A f) 42)=W:=⟨_,rfl⟩
 have HB1:=hid (show W1.heap[w.heap.size]?=some (.cells (Frm.A f) 42 (0,0)) from hW1▸heap_alloc_new _ _)
 have HX1:=hid (show Ext w W1 from hW1▸(Ext.refl w).alloc _)
 have HW1:=hid hW1
 obtain ⟨g,hg⟩:∃ g,w.heap.size=g:=⟨_,rfl⟩
 have HG:=hid hg
 rw [hg] at HB1
 have HA0:=hid a0; have HA1:=hid a1; have HA2:=hid a2; have HA3:=hid a3
 clear hr h hsp hk1 hs1 ht1 hg1 hb1 hW1 hs hg
 go_enter Tryz.func133,Tryz.ntmps133
 go_wp2_with (first
  | (refine Zae rfl 42 _ rfl ⟨w.heap.size,0,none⟩ rfl (Frm.A f) ?_ ?_ ?_; (rw [hA.out]; exact aggFrame); exact Zaj Zad)
  | (rw [HW1.out]; go_at_call 182; refine (frightf_c f _).mono ?_; rintro e w2 ⟨rfl,hx⟩; have HX2:=hid hx; clear hx; rw [HR.out]))
 rw [HG.out]
 have HB2:=hid (HX2.out.at HB1.out)
 have HXD:=hid (show Ext w2 w2.drew from (Ext.refl w2).drew)
 have d0:∀ x:SW Ext w2.drew,x.w.cell? ⟨g,0,none⟩=some (.int .i64 k1):=fun x=>Ext.cell (Ext.trans HXD.out x.ext) ((Zaf HB2.out).trans HA0.out)
 have d1:∀ x:SW Ext w2.drew,x.w.cell? ⟨g,1,none⟩=some (.int .i64 s1):=fun x=>Ext.cell (Ext.trans HXD.out x.ext) ((Zaf HB2.out).trans HA1.out)
 clear a0 a1 a2 a3
 refine Zau (E:=Ext) (S:=Ext) (.one [1,2,3,5,6,7] 0 (.one [] 4 (.one [] 8 (.fin [9])))) (by kernel_rfl) (by kernel_rfl) (fun _ _ d _ _ h=>by cases d<;>exact h) ?_
 rw [wpS]
 simp only [opsAt,opA,opB,opC,opD,opE,opF,opG]
 iterate 6 ((refine Zaa (fun K hK=>?_); go_simp; refine hK _ ?_; clear hK K))
 refine Zac ?_
 intro V1 hV1
 have X1:=hid (Ext.trans HXD.out hV1)
 clear d0 d1 hV1 HXD
 refine Zat fun K hK=>?_
 go_wp2_with fail
 refine (fnum_b [] 0 2 rfl (by omega) (by simp) none 0 21587 2 rfl (by omega) (by omega) V1 (bytes_nil _)).mono ?_
 rintro e V2 ⟨b2,c2,rfl,hb2,_,x2⟩
 rw [List.nil_append] at hb2
 have HY2:=hid hb2
 have X2:=hid (Ext.trans X1.out x2)
 clear hb2
 go_wp2
 refine hK _ _ x2 ?_
 clear hK K x2
 rw [wpS]
 simp only [opsAt,opA,opB,opC,opD,opE,opF,opG]
 refine Zac ?_
 intro V3 hV3
 have X3:=hid (Ext.trans X2.out hV3)
 have HY3:=hid (HY2.out.ext hV3)
 clear hV3
 refine Zat fun K hK=>?_
 go_wp2_with fail
 refine (fnum_b _ 2 3 (by rw [Frm.low_len]) (by omega) HY3.out.byte b2 c2 k1 1 rfl (by have:=HBD.out; omega) (by omega) V3 HY3.out).mono ?_
 rintro e V4 ⟨b4,c4,rfl,hb4,_,x4⟩
 have HY4:=hid hb4
 have X4:=hid (Ext.trans X3.out x4)
 clear hb4
 go_wp2
 refine hK _ _ x4 ?_
 clear hK K x4
 rw [wpS]
 simp only [opsAt,opA,opB,opC,opD,opE,opF,opG]
 refine Zac ?_
 intro V5 hV5
 have X5:=hid (Ext.trans X4.out hV5)
 have HY5:=hid (HY4.out.ext hV5)
 clear hV5
 refine Zat fun K hK=>?_
 go_wp2_with fail
 refine (fnum_b _ 3 4 (by rw [List.length_append,Frm.low_len,Frm.low_len]) (by omega) HY5.out.byte b4 c4 s1 1 rfl (by have:=HBD.out; omega) (by omega) V5 HY5.out).mono ?_
 rintro e V6 ⟨b6,c6,rfl,hb6,_,x6⟩
 have HY6:=hid hb6
 have X6:=hid (Ext.trans X5.out x6)
 clear hb6
 go_wp2
 refine hK _ _ x6 ?_
 clear hK K x6
 rw [wpS]
 simp only [opsAt,opA,opB,opC,opD,opE,opF,opG]
 (refine Zaa (fun K hK=>?_); go_simp; refine hK _ ?_; clear hK K)
 refine Zac ?_
 intro V7 hV7
 have X7:=hid (Ext.trans X6.out hV7)
 have HY7:=hid (HY6.out.ext hV7)
 clear hV7
 go_wp2_with fail
 have HXD:=hid (show Ext V7 V7.drew from (Ext.refl V7).drew)
 have HB7:=hid (X7.out.at HB2.out)
 have d2:∀ x:SW Ext V7.drew,x.w.cell? ⟨g,2,none⟩=some (.int .i64 t1):=fun x=>Ext.cell (Ext.trans HXD.out x.ext) ((Zaf HB7.out).trans HA2.out)
 have d3:∀ x:SW Ext V7.drew,x.w.cell? ⟨g,3,none⟩=some (.int .i64 g1):=fun x=>Ext.cell (Ext.trans HXD.out x.ext) ((Zaf HB7.out).trans HA3.out)
 refine Zau (E:=Ext) (S:=Ext) (.one [0,1,2,3,5,6,7] 4 (.one [] 8 (.fin [9]))) (by kernel_rfl) (by kernel_rfl) (fun _ _ d _ _ h=>by cases d<;>exact h) ?_
 rw [wpS]
 simp only [opsAt,opA,opB,opC,opD,opE,opF,opG]
 iterate 7 ((refine Zaa (fun K hK=>?_); go_simp; refine hK _ ?_; clear hK K))
 refine Zac ?_
 intro V8 hV8
 have X8:=hid (Ext.trans X7.out (Ext.trans HXD.out hV8))
 have HY8:=hid (HY7.out.ext (Ext.trans HXD.out hV8))
 clear d2 d3 hV8 HXD
 refine Zat fun K hK=>?_
 go_wp2_with fail
 refine (fnum_b _ 4 8 (by simp [Frm.low_len]) (by omega) HY8.out.byte b6 c6 t1 4 rfl (by have:=HBD.out; omega) (by omega) V8 HY8.out).mono ?_
 rintro e V9 ⟨b9,c9,rfl,hb9,_,x9⟩
 have HY9:=hid hb9
 have X9:=hid (Ext.trans X8.out x9)
 clear hb9
 go_wp2
 refine hK _ _ x9 ?_
 clear hK K x9
 rw [wpS]
 simp only [opsAt,opA,opB,opC,opD,opE,opF,opG]
 refine Zac ?_
 intro V10 hV10
 have X10:=hid (Ext.trans X9.out hV10)
 have HY10:=hid (HY9.out.ext hV10)
 clear hV10
 refine Zat fun K hK=>?_
 go_wp2_with fail
 refine (fnum_b _ 8 16 (by simp [Frm.low_len]) (by omega) HY10.out.byte b9 c9 g1 8 rfl (by have:=HBD.out; omega) (by omega) V10 HY10.out).mono ?_
 rintro e V11 ⟨b11,c11,rfl,hb11,ho11,x11⟩
 have HY11:=hid hb11
 have HO11:=hid ho11
 have X11:=hid (Ext.trans X10.out x11)
 have HLT:=hid (show w.heap.size<=V10.heap.size from Nat.le_trans HX1.out.size (Nat.le_trans HX2.out.size X10.out.size))
 have HS11:=hid (show V10.heap.size<=V11.heap.size from x11.size)
 clear hb11 ho11
 go_wp2
 refine hK _ _ x11 ?_
 clear hK K x11
 rw [wpS]
 simp only [opsAt,opA,opB,opC,opD,opE,opF,opG]
 (refine Zaa (fun K hK=>?_); go_simp; refine hK _ ?_; clear hK K)
 refine Zac ?_
 intro V12 hV12
 have X12:=hid (Ext.trans X11.out hV12)
 have HB12:=hid (X12.out.at HB2.out)
 have HO12:=hid (HO11.out.ext hV12)
 have HDA:=hid (show BytesAt V12 (some ⟨g,4,none⟩) 108 f.data from ⟨HOK.out.len,by omega,HOK.out.byte,.inr ⟨g,4,rfl,fun i hi=>(Zaf HB12.out).trans (Frm.A4 f i (by rw [HOK.out.len]; exact hi))⟩⟩)
 obtain ⟨v13,V13,hap,ho13,_,hx13⟩:=HO12.out.push (c:=108) HDA.out (by omega) (by simp [Frm.low_len]) (Nat.le_trans HS11.out hV12.size)
 rw [HBODY.out] at ho13
 have hbl:=Frm.body_len f HOK.out
 have hbb:=Frm.body_byte f HOK.out HR.out
 obtain ⟨b13,c13,rfl,hb13,_,hz13⟩:=ho13.slice hbb (by omega)
 rw [hbl] at hb13
 have HAP:=hid hap; have HB13:=hid hb13
 have HX13:=hid (hx13 w HLT.out (Ext.trans HX1.out (Ext.trans HX2.out X12.out)))
 have HBL:=hid hbl
 have HSUM:=hid (Crc.sum_bd f.body)
 have HEX:Hid (∃ b,b13=some ⟨b,0,none⟩/\∀ i,i < 124->V13.cell? ⟨b,0+i,none⟩=some (.int .u8 (nth f.body i))):=hid (by
  rcases hb13.cells with h0 | ⟨b,o,e,hc⟩
  ·
   omega
  ·
   obtain rfl:=(hz13 b o e).1
   exact ⟨b,e,hc⟩)
 clear hap ho13 hb13 hx13 hbb hV12 hz13
 rw [hbl] at HAP
 clear hbl
 go_wp2_with (at_builtin; refine wpList_append_run rfl _ _ _ rfl _ _ _ _ rfl rfl HAP.out ?_)
 obtain ⟨bb,rfl,hcell⟩:=HEX.out
 have hby:=Frm.body_byte f HOK.out HR.out
 have HBY:=hid hby
 refine (fcrc_c bb 0 124 c13 f.body V13 HBL.out (by omega) hby hcell).mono ?_
 rintro e _ ⟨rfl,rfl⟩
 obtain ⟨sm,hsm⟩:∃ sm,Crc.sum f.body=sm:=⟨_,rfl⟩
 have hsb:=HSUM.out
 rw [hsm] at hsb ⊢
 have HSM:=hid hsm
 have wsm:IntKind.u64.wrap (sm:Int)=sm:=Zbk _ (by omega) (by omega)
 clear hcell hby hsm
 go_wp2_with fail
 refine (fnum_b f.body 124 128 HBL.out (by omega) HBY.out (some ⟨bb,0,none⟩) c13 sm 4 rfl (by omega) (by omega) V13 HB13.out).mono ?_
 rintro e V14 ⟨b14,c14,rfl,hb14,_,x14⟩
 have HF:Hid (FPutRPost f w (.returned (.slice b14 128 c14)) V14):=hid ⟨b14,128,c14,rfl,by rw [HPUT.out,HSM.out]; exact hb14,Ext.trans HX13.out x14⟩
 clear hb14 x14
 go_wp2
 go_ret
 exact HF.out
theorem fputf_c (f:Frm) (w:World) (h:f.Ok):Calls Tryz.prog 133 #[.agg (Frm.A f)] w (FPutRPost f w):=by
 rcases hr:f.right with _ | _
 ·
  exact fputf_no f w h hr
 ·
  exact fputf_yes f w h hr
end Go.Proofs.YtgjnnbomnoafcaaGreatDoor
namespace Go.Proofs.YtgjnnbomnoafcaaGreatDoor
set_option linter.unusedVariables false
open Go Go.RowKit
attribute [local irreducible] wpSQ
def gfj (k s:Int) (n4 n8:Int) (d:List Nat) (j:Nat):Frm:=⟨k,s,n4,n8,d.take j++List.replicate (108 - j) 0⟩
theorem gfj_ok (k s n4 n8:Int) (d:List Nat) (j:Nat) (hd:d.length=108) (hb:∀ x∈d,x < 256) (hj:j<=108):(gfj k s n4 n8 d j).Ok:=by
 refine ⟨by simp [gfj,hd]; omega,fun x hx=>?_⟩
 rcases List.mem_append.1 hx with hx | hx
 ·
  exact hb x (List.mem_of_mem_take hx)
 ·
  rw [(List.mem_replicate.1 hx).2]; omega
theorem gfj_step (k s n4 n8:Int) (d:List Nat) (j:Nat) (hd:d.length=108) (hj:j < 108):{ gfj k s n4 n8 d j with data:=(gfj k s n4 n8 d j).data.set j (nth d j) }=gfj k s n4 n8 d (j+1):=by
 have:=part_step d 108 j (by omega) (by omega)
 unfold gfj
 rw [this]
theorem GetAt.put {w0 W:World} {g:Nat} {f:Frm} (h:GetAt w0 g f W) (j x:Nat):GetAt w0 g { f with data:=f.data.set j x } (W.setCell ⟨g,4+j,none⟩ (.int .u8 x)) :=
 ⟨FBlk.set (show FBlk W g f from h.own) j x,(Zai _ (by have:=h.new; omega)).trans h.res,Only.setCell (F:=fun _=>False) h.ext (.inl (by have:=h.new; show w0.heap.size<=g; omega)) _,h.new⟩
theorem gfj_end (l:List Nat) (hl:l.length=128):gfj (nth l 2:Nat) (nth l 3:Nat) (Frm.numI ((l.drop 4).take 4)) (Frm.numI ((l.drop 8).take 8)) ((l.drop 16).take 108) 108=Frm.parse l:=by
 unfold gfj Frm.parse
 have e:((l.drop 16).take 108).take 108=(l.drop 16).take 108:=List.take_of_length_le (by rw [List.length_take,List.length_drop]; omega)
 rw [e]
 simp [nth]
theorem got_refOk {l:List Nat} (hb:∀ x∈l,x < 256) (h1:l.length=128) (h2:Frm.num (l.take 2)=21587) (h3:Crc.sum (l.take 124)=Frm.num (l.drop 124)):got l=.tuple #[.agg (Frm.A (if (Frm.parse l).right then Frm.parse l else Frm.zero)),.bool (Frm.parse l).right]:=by
 classical
 unfold got
 rw [Frm.get_ref l hb]
 cases hr:(Frm.parse l).right
 ·
  rw [if_neg (fun q=>by have:=q.2.2.2; rw [hr] at this; cases this)]; rfl
 ·
  rw [if_pos ⟨h1,h2,h3,hr⟩]; rfl
theorem got_not {l:List Nat} (hb:∀ x∈l,x < 256) (h:¬(Frm.num (l.take 2)=21587/\Crc.sum (l.take 124)=Frm.num (l.drop 124))):got l=.tuple #[.agg (Frm.A Frm.zero),.bool false]:=by
 classical
 unfold got
 rw [Frm.get_ref l hb,if_neg (fun q=>h ⟨q.2.1,q.2.2.1⟩)]; rfl
set_option maxRecDepth 100000 in
set_option maxHeartbeats 2000000 in
theorem fgetf_c (b off c:Nat) (l:List Nat) (w:World) (h:BytesAt w (some ⟨b,off,none⟩) 128 l) (hcap:128<=c) :
  Calls Tryz.prog 126 #[.slice (some ⟨b,off,none⟩) 128 c] w fun e w'=>e=.returned (got l)/\Ext w w':=by
 have hz:=Za4
 have HSZ:=hid (Frm.A_size _ Za9)
 have HBY:=hid h.byte
 have hlen:=h.len
 have HLEN:=hid hlen
 obtain ⟨W0,hW0⟩:∃ W,w.alloc (.cells (Frm.A Frm.zero) 42)=W:=⟨_,rfl⟩
 have HX0:=hid (show Ext w W0 from hW0▸(Ext.refl w).alloc _)
 have HR0:=hid (show W0.heap[w.heap.size]?=some (.cells (Frm.A Frm.zero) 42 (0,0)) from hW0▸heap_alloc_new _ _)
 have HB0:=hid (h.ext HX0.out)
 have HH:=hid h
 have HW0:=hid hW0
 clear h hW0
 have HXD:=hid (show Ext W0 W0.drew from (Ext.refl W0).drew)
 have n2:Hid (∀ (c':Nat) (x:SW Ext W0.drew),Calls Tryz.prog 136 #[.slice (some ⟨b,off,none⟩) 2 c'] x.w fun e w''=>e=.returned (.int .u64 (Frm.num (l.take 2):Nat))/\Ext x.w w''):=hid fun c' x =>
  (fbig_c b off 2 c' (l.take 2) x.w (by rw [List.length_take,hlen]; omega) (by omega) (fun y hy=>HBY.out y (List.mem_of_mem_take hy))
   (fun i hi=>by rw [Zbu,if_pos hi]; exact (HB0.out.ext (Ext.trans HXD.out x.ext)).get i (by omega))).mono fun e w'' he=>⟨he.1,he.2▸Ext.refl _⟩
 have n4:Hid (∀ (c':Nat) (x:SW Ext W0.drew),Calls Tryz.prog 136 #[.slice (some ⟨b,off+124,none⟩) 4 c'] x.w fun e w''=>e=.returned (.int .u64 (Frm.num (l.drop 124):Nat))/\Ext x.w w''):=hid fun c' x =>
  (fbig_c b (off+124) 4 c' (l.drop 124) x.w (by rw [List.length_drop,hlen]) (by omega) (fun y hy=>HBY.out y (List.mem_of_mem_drop hy))
   (fun i hi=>by rw [Zbw,Nat.add_assoc]; exact (HB0.out.ext (Ext.trans HXD.out x.ext)).get (124+i) (by omega))).mono fun e w'' he=>⟨he.1,he.2▸Ext.refl _⟩
 have nc:Hid (∀ (c':Nat) (x:SW Ext W0.drew),Calls Tryz.prog 181 #[.slice (some ⟨b,off,none⟩) 124 c'] x.w fun e w''=>e=.returned (.int .u32 (Crc.sum (l.take 124):Nat))/\Ext x.w w''):=hid fun c' x =>
  (fcrc_c b off 124 c' (l.take 124) x.w (by rw [List.length_take,hlen]; omega) (by omega) (fun y hy=>HBY.out y (List.mem_of_mem_take hy))
   (fun i hi=>by rw [Zbu,if_pos hi]; exact (HB0.out.ext (Ext.trans HXD.out x.ext)).get i (by omega))).mono fun e w'' he=>⟨he.1,he.2▸Ext.refl _⟩
 have HGN:=hid (fun q=>got_not (l:=l) HBY.out q)
 have HGR:=hid (fun q2 q3=>got_refOk (l:=l) HBY.out hlen q2 q3)
 have g1:(2:Int)<=(c:Int):=by omega
 have g2:(124:Int)<=(c:Int):=by omega
 have g3:(128:Int)<=(c:Int):=by omega
 have g4:(8:Int)<=(c:Int):=by omega
 have g5:(16:Int)<=(c:Int):=by omega
 have g6:¬c=124:=by omega
 have g7:¬c=4:=by omega
 have g8:¬c=8:=by omega
 clear hlen
 by_cases q2:Frm.num (l.take 2)=21587
 ·
  have Q2:=hid q2
  rw [q2] at n2
  by_cases q3:Crc.sum (l.take 124)=Frm.num (l.drop 124)
  ·
   have Q3:=hid q3
   rw [<- q3] at n4
   have hsb:=Crc.sum_bd (l.take 124)
   obtain ⟨sm,hsm⟩:∃ sm,Crc.sum (l.take 124)=sm:=⟨_,rfl⟩
   rw [hsm] at n4 nc hsb
   have wsm:IntKind.u64.wrap (sm:Int)=sm:=Zbk _ (by omega) (by omega)
   have hne:((sm:Int) != (sm:Int))=false:=by simp
   clear q2 q3 hsm
   go_enter Tryz.func126,Tryz.ntmps126
   go_wp2_with fail
   rw [HW0.out]
   refine Zal (S:=Ext) (.fin [0,1,2,3,4,5,6,7,8,9,10,11,12,13]) (by kernel_rfl) (by kernel_rfl) (fun _ _ d _ _ h=>by cases d<;>exact h) ?_
   rw [wpS]
   simp only [opsAt,opA,opB,opC,opD,opE,opF,opG]
   iterate 2 ((refine Zaa (fun K hK=>?_); go_simp; refine hK _ ?_; clear hK K))
   (refine Zaa (fun K hK=>?_); go_simp; (apply Exists.intro; refine ⟨fun x=>?_,hK _ ?_⟩; (exact n2.out _ x); clear hK K))
   iterate 4 ((refine Zaa (fun K hK=>?_); go_simp; refine hK _ ?_; clear hK K))
   (refine Zaa (fun K hK=>?_); go_simp; (apply Exists.intro; refine ⟨fun x=>?_,hK _ ?_⟩; (exact nc.out _ x); clear hK K))
   iterate 3 ((refine Zaa (fun K hK=>?_); go_simp; refine hK _ ?_; clear hK K))
   (refine Zaa (fun K hK=>?_); go_simp; (apply Exists.intro; refine ⟨fun x=>?_,hK _ ?_⟩; (exact n4.out _ x); clear hK K))
   iterate 2 ((refine Zaa (fun K hK=>?_); go_simp; refine hK _ ?_; clear hK K))
   refine Zac ?_
   intro W1 hW1
   have HX1:=hid (Ext.trans HX0.out (Ext.trans HXD.out hW1))
   have HB1:=hid (HB0.out.ext (Ext.trans HXD.out hW1))
   have HR1:=hid (Ext.at (Ext.trans HXD.out hW1) HR0.out)
   clear n2 n4 nc hW1 HXD wsm hne HB0 HR0
   have HXE:=hid (show Ext W1 W1.drew from (Ext.refl W1).drew)
   have xb2:=Zay HBY.out 2
   have xb3:=Zay HBY.out 3
   have c2:∀ x:SW Ext W1.drew,x.w.cell? ⟨b,off+2,none⟩=some (.int .u8 (nth l 2)):=fun x=>(HB1.out.ext (Ext.trans HXE.out x.ext)).get 2 (by omega)
   have c3:∀ x:SW Ext W1.drew,x.w.cell? ⟨b,off+3,none⟩=some (.int .u8 (nth l 3)):=fun x=>(HB1.out.ext (Ext.trans HXE.out x.ext)).get 3 (by omega)
   have HEND:=hid (gfj_end l HLEN.out)
   have m1:Hid (∀ (c':Nat) (x:SW Ext W1.drew),Calls Tryz.prog 136 #[.slice (some ⟨b,off+4,none⟩) 4 c'] x.w fun e w''=>e=.returned (.int .u64 (Frm.num ((l.drop 4).take 4):Nat))/\Ext x.w w''):=hid fun c' x =>
    (fbig_c b (off+4) 4 c' ((l.drop 4).take 4) x.w (by simp [HLEN.out]) (by omega) (fun y hy=>HBY.out y (List.mem_of_mem_drop (List.mem_of_mem_take hy)))
     (fun i hi=>by rw [Zbu,if_pos hi,Zbw,Nat.add_assoc]; exact (HB1.out.ext (Ext.trans HXE.out x.ext)).get (4+i) (by omega))).mono fun e w'' he=>⟨he.1,he.2▸Ext.refl _⟩
   have m2:Hid (∀ (c':Nat) (x:SW Ext W1.drew),Calls Tryz.prog 136 #[.slice (some ⟨b,off+8,none⟩) 8 c'] x.w fun e w''=>e=.returned (.int .u64 (Frm.num ((l.drop 8).take 8):Nat))/\Ext x.w w''):=hid fun c' x =>
    (fbig_c b (off+8) 8 c' ((l.drop 8).take 8) x.w (by simp [HLEN.out]) (by omega) (fun y hy=>HBY.out y (List.mem_of_mem_drop (List.mem_of_mem_take hy)))
     (fun i hi=>by rw [Zbu,if_pos hi,Zbw,Nat.add_assoc]; exact (HB1.out.ext (Ext.trans HXE.out x.ext)).get (8+i) (by omega))).mono fun e w'' he=>⟨he.1,he.2▸Ext.refl _⟩
   obtain ⟨x2,hx2⟩:∃ x2,nth l 2=x2:=⟨_,rfl⟩
   obtain ⟨x3,hx3⟩:∃ x3,nth l 3=x3:=⟨_,rfl⟩
   obtain ⟨y4,hy4⟩:∃ y,Frm.num ((l.drop 4).take 4)=y:=⟨_,rfl⟩
   obtain ⟨y8,hy8⟩:∃ y,Frm.num ((l.drop 8).take 8)=y:=⟨_,rfl⟩
   obtain ⟨z4,hz4⟩:∃ z,Frm.numI ((l.drop 4).take 4)=z:=⟨_,rfl⟩
   obtain ⟨z8,hz8⟩:∃ z,Frm.numI ((l.drop 8).take 8)=z:=⟨_,rfl⟩
   have w4:IntKind.i64.wrap (y4:Int)=z4:=by rw [<- hz4,Frm.numI,hy4,IntKind.wrap_i64]; unfold wrap64; rfl
   have w8:IntKind.i64.wrap (y8:Int)=z8:=by rw [<- hz8,Frm.numI,hy8,IntKind.wrap_i64]; unfold wrap64; rfl
   rw [hx2] at c2 xb2
   rw [hx3] at c3 xb3
   rw [hy4] at m1
   rw [hy8] at m2
   obtain ⟨d,hd⟩:∃ d,(l.drop 16).take 108=d:=⟨_,rfl⟩
   rw [hx2,hx3,hz4,hz8,hd] at HEND
   have HD:=hid hd
   have HDL:=hid (show d.length=108 by rw [<- hd,List.length_take,List.length_drop,HLEN.out]; rfl)
   have HDB:=hid (show ∀ x∈d,x < 256 from fun x hx=>by rw [<- hd] at hx; exact HBY.out x (List.mem_of_mem_drop (List.mem_of_mem_take hx)))
   have w2:IntKind.i64.wrap (x2:Int)=x2:=by rw [IntKind.wrap_i64]; omega
   have w3:IntKind.i64.wrap (x3:Int)=x3:=by rw [IntKind.wrap_i64]; omega
   have HOK0:=hid (gfj_ok x2 x3 z4 z8 d 0 HDL.out HDB.out (by omega))
   have HS0:=hid (Frm.A_size _ HOK0.out)
   have HBT:Hid (Tryz.prog.built 42 [(0,.int .i64 x2),(1,.int .i64 x3),(2,.int .i64 z4),(3,.int .i64 z8)]=some (Frm.A (gfj x2 x3 z4 z8 d 0))):=hid (by rw [built_four]; rfl)
   obtain ⟨F0,hF0⟩:∃ F,Frm.A (gfj x2 x3 z4 z8 d 0)=F:=⟨_,rfl⟩
   rw [hF0] at HBT
   have HF0:=hid hF0
   clear hx2 hx3 hy4 hy8 hz4 hz8 hd hF0 hsb
   go_wp2_with fail
   refine Zan (S:=Ext) 18 (.one [0,1,2,3,4,5,6,7,8,9,10,11,12,13,14,15,16] 17 (.fin [])) (by kernel_rfl) (by kernel_rfl) (fun _ _ d _ _ h=>by cases d<;>exact h) ?_
   rw [wpS]
   simp only [opsAt,opA,opB,opC,opD,opE,opF,opG]
   iterate 10 ((refine Zaa (fun K hK=>?_); go_simp; refine hK _ ?_; clear hK K))
   (refine Zaa (fun K hK=>?_); go_simp; (apply Exists.intro; refine ⟨fun x=>?_,hK _ ?_⟩; (exact m1.out _ x); clear hK K))
   iterate 3 ((refine Zaa (fun K hK=>?_); go_simp; refine hK _ ?_; clear hK K))
   (refine Zaa (fun K hK=>?_); go_simp; (apply Exists.intro; refine ⟨fun x=>?_,hK _ ?_⟩; (exact m2.out _ x); clear hK K))
   (refine Zaa (fun K hK=>?_); go_simp; refine hK _ ?_; clear hK K)
   refine wpSQ_build rfl 42 _ rfl F0 (by simp only [List.map_toArray,List.map_cons,List.map_nil,Act.eval]; simp only [Array.getD_eq_getD_getElem?,List.getElem?_toArray,List.getElem?_cons_succ,List.getElem?_cons_zero,Option.getD_some]; exact HBT.out) ?_
   refine Zac ?_
   intro W2 hW2
   refine Zat fun K hK=>?_
   go_wp2
   refine hK _ _ ((Ext.refl W2).alloc _) ?_
   clear hK K
   rw [wpS]
   simp only [opsAt,opA,opB,opC,opD,opE,opF,opG]
   refine Zac ?_
   intro W3 hW3
   have hF3:W3.heap[W2.heap.size]?=some (.cells (Frm.A Frm.zero) 42 (0,0)):=hW3.at Zad
   have hx3:=Ext.trans HXE.out (Ext.trans hW2 (Ext.trans ((Ext.refl W2).alloc (.cells (Frm.A Frm.zero) 42)) hW3))
   have HR3:=hid (hx3.at HR1.out)
   have hne:w.heap.size < W2.heap.size:=lt_of_block (Ext.at (Ext.trans HXE.out hW2) HR1.out)
   have HX3:=hid (Ext.trans HX1.out hx3)
   have HHF3:=hid hF3
   generalize W2.heap.size=g at *
   have HNE:=hid hne
   have HSF:Hid (F0.size=112):=hid (by rw [<- HF0.out]; exact HS0.out)
   have HONE:Hid (∀ v∈F0.toList,v.oneCell'=true):=hid (by rw [<- HF0.out]; exact Frm.A_one _)
   have HG0:=hid (show GetAt w g (gfj x2 x3 z4 z8 d 0) (W3.setRow g F0) by
    rw [<- HF0.out]
    exact ⟨setRow_heap W3 g _ _ _ _ hF3,(Zah W3 g _).at HR3.out (by omega),Ext.then HX3.out (Zah W3 g _) (fun i hi q=>by have q:i=g:=q; omega),hne⟩)
   clear m1 m2 c2 c3 hW2 hW3 hF3 hx3 hne w2 w3 w4 w8
   simp only [List.drop_succ_cons,List.drop_zero]
   go_wp2_with (refine Zab rfl 42 _ _ rfl g rfl F0 _ rfl 42 ?_ HHF3.out ?_ HONE.out ?_; (rw [HSF.out]; exact aggFrame); (rw [HSF.out,HSZ.out]))
   generalize W3.setRow g F0=W4 at *
   go_loopw [42] (fun t wr=>∃ j:Nat,t=.int .i64 j/\j<=108/\GetAt w g (gfj x2 x3 z4 z8 d j) wr) (fun t _=>108 - (intOf t).toNat)
   case atStart=>exact ⟨0,rfl,by omega,HG0.out⟩
   case round =>
    clear HG0
    obtain ⟨j,rfl,hj,hg⟩:=hrel
    have HG:=hid hg
    clear hg
    by_cases hlt:j < 108
    ·
     have hok:=gfj_ok x2 x3 z4 z8 d j HDL.out HDB.out hj
     have hB:=HH.out.ext HG.out.ext
     have cb:=hB.get (16+j) (by omega)
     have hnd:nth l (16+j)=nth d j:=by
      rw [<- HD.out,Zbu,if_pos hlt,Zbw]
     rw [hnd] at cb
     have xb:=Zay HDB.out j
     have cd:=(Zaf HG.out.own).trans (Frm.A4 (gfj x2 x3 z4 z8 d j) j (by rw [hok.len]; exact hlt))
     have fd:wr.frozen? ⟨g,4+j,none⟩=false:=Zax HG.out.own
     have HPUT:=hid (HG.out.put j (nth d j))
     rw [gfj_step x2 x3 z4 z8 d j HDL.out hlt] at HPUT
     obtain ⟨x,hx⟩:∃ x,nth d j=x:=⟨_,rfl⟩
     obtain ⟨old,hold⟩:∃ o,nth (gfj x2 x3 z4 z8 d j).data j=o:=⟨_,rfl⟩
     rw [hx] at cb xb HPUT
     rw [hold] at cd
     have j0:(0:Int)<=(j:Int):=by omega
     have j1:(j:Int) < 108:=by omega
     have ww:wrap64 (16+(j:Int))=16+(j:Int):=by unfold wrap64; omega
     have i2:(0:Int)<=16+(j:Int):=by omega
     have i3:16+(j:Int) < 128:=by omega
     clear hok hB hnd hx hold
     go_wp2
     go_roundw
     case rel=>exact ⟨j+1,by go_num,by omega,HPUT.out⟩
     case measure=>simp [intOf]; omega
    ·
     obtain rfl:j=108:=by omega
     have HGP:=hid (show GetAt w g (Frm.parse l) wr from HEND.out▸HG.out)
     have hokp:(Frm.parse l).Ok:=HEND.out▸gfj_ok x2 x3 z4 z8 d 108 HDL.out HDB.out (by omega)
     have HSP:=hid (Frm.A_size _ hokp)
     have HG2:=hid (HGR.out Q2.out Q3.out)
     clear hokp HG
     go_wp2_with (refine Zae rfl 42 _ rfl ⟨g,0,none⟩ rfl (Frm.A (Frm.parse l)) ?_ ?_ ?_; (rw [HSP.out]; exact aggFrame); exact Zaj HGP.out.own)
     refine (frightf_c (Frm.parse l) wr).mono ?_
     rintro e W7 ⟨rfl,hx7⟩
     have HG7:=hid (HGP.out.more hx7)
     have HR7:=hid HG7.out.res
     have HX7:=hid HG7.out.ext
     clear hx7 HGP
     rcases hr:(Frm.parse l).right with _ | _
     ·
      have HGO:=hid (show got l=.tuple #[.agg (Frm.A Frm.zero),.bool false] by rw [HG2.out,hr]; rfl)
      clear hr
      go_wp2_with (first
       | (refine wpList_build rfl 42 _ rfl (by simp [Zaq]) ?_; simp only [Array.map_empty,Zaq,Option.getD_some])
       | (refine Zab rfl 42 _ _ rfl w.heap.size rfl (Frm.A Frm.zero) _ rfl 42 ?_ HR7.out rfl ?_ ?_; (rw [HSZ.out]; exact aggFrame); exact Frm.A_one _))
      refine bodyPost_ret (Zak Tryz.results126 rfl (by rw [HSZ.out]; exact aggFrame) (setRow_heap W7 _ _ _ _ _ HR7.out)) rfl ?_
      exact ⟨by rw [HGO.out]; rfl,Ext.then HX7.out (Zah W7 _ _) (fun i hi q=>by have q:i=w.heap.size:=q; omega)⟩
     ·
      have HGO:=hid (show got l=.tuple #[.agg (Frm.A (Frm.parse l)),.bool true] by rw [HG2.out,hr]; rfl)
      clear hr
      go_wp2_with (first
       | (refine Zae rfl 42 _ rfl ⟨g,0,none⟩ rfl (Frm.A (Frm.parse l)) ?_ ?_ ?_; (rw [HSP.out]; exact aggFrame); exact Zaj HG7.out.own)
       | (refine Zab rfl 42 _ _ rfl w.heap.size rfl (Frm.A (Frm.parse l)) _ rfl 42 ?_ HR7.out ?_ ?_ ?_; (rw [HSP.out]; exact aggFrame); (rw [HSP.out,HSZ.out]); exact Frm.A_one _))
      refine bodyPost_ret (Zak Tryz.results126 rfl (by rw [HSP.out]; exact aggFrame) (setRow_heap W7 _ _ _ _ _ HR7.out)) rfl ?_
      exact ⟨by rw [HGO.out]; rfl,Ext.then HX7.out (Zah W7 _ _) (fun i hi q=>by have q:i=w.heap.size:=q; omega)⟩
  ·
   have HGO:=hid (HGN.out fun q=>q3 q.2)
   have hsb:=Crc.sum_bd (l.take 124)
   obtain ⟨sm,hsm⟩:∃ sm,Crc.sum (l.take 124)=sm:=⟨_,rfl⟩
   obtain ⟨sn,hsn⟩:∃ sn,Frm.num (l.drop 124)=sn:=⟨_,rfl⟩
   rw [hsm] at nc hsb q3
   rw [hsn] at n4 q3
   have wsm:IntKind.u64.wrap (sm:Int)=sm:=Zbk _ (by omega) (by omega)
   have hne:((sm:Int) != (sn:Int))=true:=by simp; omega
   clear q2 q3 hsm hsn
   go_enter Tryz.func126,Tryz.ntmps126
   go_wp2_with fail
   rw [HW0.out]
   refine Zal (S:=Ext) (.fin [0,1,2,3,4,5,6,7,8,9,10,11,12,13]) (by kernel_rfl) (by kernel_rfl) (fun _ _ d _ _ h=>by cases d<;>exact h) ?_
   rw [wpS]
   simp only [opsAt,opA,opB,opC,opD,opE,opF,opG]
   iterate 2 ((refine Zaa (fun K hK=>?_); go_simp; refine hK _ ?_; clear hK K))
   (refine Zaa (fun K hK=>?_); go_simp; (apply Exists.intro; refine ⟨fun x=>?_,hK _ ?_⟩; (exact n2.out _ x); clear hK K))
   iterate 4 ((refine Zaa (fun K hK=>?_); go_simp; refine hK _ ?_; clear hK K))
   (refine Zaa (fun K hK=>?_); go_simp; (apply Exists.intro; refine ⟨fun x=>?_,hK _ ?_⟩; (exact nc.out _ x); clear hK K))
   iterate 3 ((refine Zaa (fun K hK=>?_); go_simp; refine hK _ ?_; clear hK K))
   (refine Zaa (fun K hK=>?_); go_simp; (apply Exists.intro; refine ⟨fun x=>?_,hK _ ?_⟩; (exact n4.out _ x); clear hK K))
   iterate 2 ((refine Zaa (fun K hK=>?_); go_simp; refine hK _ ?_; clear hK K))
   refine Zac ?_
   intro W1 hW1
   have HX1:=hid (Ext.trans HX0.out (Ext.trans HXD.out hW1))
   have HR1:=hid (Ext.at (Ext.trans HXD.out hW1) HR0.out)
   clear n2 n4 nc hW1 HXD wsm hne HB0 HR0
   go_wp2_with (first
    | (refine wpList_build rfl 42 _ rfl (by simp [Zaq]) ?_; simp only [Array.map_empty,Zaq,Option.getD_some])
    | (refine Zab rfl 42 _ _ rfl w.heap.size rfl (Frm.A Frm.zero) _ rfl 42 ?_ HR1.out rfl ?_ ?_; (rw [HSZ.out]; exact aggFrame); exact Frm.A_one _))
   refine bodyPost_ret (Zak Tryz.results126 rfl (by rw [HSZ.out]; exact aggFrame) (setRow_heap W1 _ _ _ _ _ HR1.out)) rfl ?_
   exact ⟨by rw [HGO.out]; rfl,Ext.then HX1.out (Zah W1 _ _) (fun i hi q=>by have q:i=w.heap.size:=q; omega)⟩
 ·
  have HGO:=hid (HGN.out fun q=>q2 q.1)
  obtain ⟨sn,hsn⟩:∃ sn,Frm.num (l.take 2)=sn:=⟨_,rfl⟩
  rw [hsn] at n2 q2
  have hne:((sn:Int) != 21587)=true:=by simp; omega
  clear q2 hsn
  go_enter Tryz.func126,Tryz.ntmps126
  go_wp2_with fail
  rw [HW0.out]
  refine Zal (S:=Ext) (.fin [0,1,2,3,4,5,6,7,8,9,10,11,12,13]) (by kernel_rfl) (by kernel_rfl) (fun _ _ d _ _ h=>by cases d<;>exact h) ?_
  rw [wpS]
  simp only [opsAt,opA,opB,opC,opD,opE,opF,opG]
  iterate 2 ((refine Zaa (fun K hK=>?_); go_simp; refine hK _ ?_; clear hK K))
  (refine Zaa (fun K hK=>?_); go_simp; (apply Exists.intro; refine ⟨fun x=>?_,hK _ ?_⟩; (exact n2.out _ x); clear hK K))
  iterate 2 ((refine Zaa (fun K hK=>?_); go_simp; refine hK _ ?_; clear hK K))
  iterate 8 ((refine Zcb rfl (fun K hK=>?_); go_simp; refine hK _ ?_; clear hK K))
  (refine Zaa (fun K hK=>?_); go_simp; refine hK _ ?_; clear hK K)
  refine Zac ?_
  intro W1 hW1
  have HX1:=hid (Ext.trans HX0.out (Ext.trans HXD.out hW1))
  have HR1:=hid (Ext.at (Ext.trans HXD.out hW1) HR0.out)
  clear n2 n4 nc hW1 HXD hne HB0 HR0
  go_wp2_with (first
   | (refine wpList_build rfl 42 _ rfl (by simp [Zaq]) ?_; simp only [Array.map_empty,Zaq,Option.getD_some])
   | (refine Zab rfl 42 _ _ rfl w.heap.size rfl (Frm.A Frm.zero) _ rfl 42 ?_ HR1.out rfl ?_ ?_; (rw [HSZ.out]; exact aggFrame); exact Frm.A_one _))
  refine bodyPost_ret (Zak Tryz.results126 rfl (by rw [HSZ.out]; exact aggFrame) (setRow_heap W1 _ _ _ _ _ HR1.out)) rfl ?_
  exact ⟨by rw [HGO.out]; rfl,Ext.then HX1.out (Zah W1 _ _) (fun i hi q=>by have q:i=w.heap.size:=q; omega)⟩
end Go.Proofs.YtgjnnbomnoafcaaGreatDoor
