/- Texts of one proof, joined: WrapI, RefA, RefB, RefC, RefD. -/
import Derived.Test.YtgjnnbomnoafcaaGreatPA
import Derived.Test.YtgjnnbomnoafcaaGreatPBA
import Derived.Test.YtgjnnbomnoafcaaGreatPBB
set_option linter.unusedVariables false
set_option linter.unusedSimpArgs false
namespace Go.Proofs.YtgjnnbomnoafcaaGreat
set_option linter.unusedVariables false
open Go Go.RowKit
theorem mw64 {z:Int} (h0:-100000<=z) (h1:z<=100000):wrap64 z=z:=by unfold wrap64; omega
theorem mi64w {z:Int} (h0:-100000<=z) (h1:z<=100000):IntKind.i64.wrap z=z:=by rw [IntKind.wrap_i64]; omega
set_option maxRecDepth 100000 in
theorem rroom_c (c:Cfg) (h:c.Good) (w:World):Calls Tryz.prog 9 #[.agg (Cfg.A c)] w fun e w'=>e=.returned (.int .i64 (c.k*108))/\Ext w w':=by
 have a1:=Cfg.A1 c
 have b0:=h.k0
 have b1:=h.k1
 have b2:=h.n1
 clear h
 obtain ⟨id,k,n,st,sl⟩:=c
 simp only at a1 b0 b1 b2 ⊢
 generalize Cfg.A _=A at *
 have hw:wrap64 (k*108)=k*108:=by unfold wrap64; omega
 clear b0 b1 b2
 go_enter Tryz.func9,Tryz.ntmps9
 go_wp2
 go_ret
 exact ⟨ret_int (by simp only [hw]),(Ext.refl w).alloc _⟩
theorem OwnBy.raise {W:World} {B g n c:Nat} {l:List Nat} (h:W.ownsRow 0 5 1 (.slice (some ⟨g,0,none⟩) n c) n (l.map bv)) (hn:n=l.length) (hB:B<=g):OwnBy W B (.slice (some ⟨g,0,none⟩) n c) l:=by
 subst hn
 refine ⟨h.1,?_⟩
 rcases h.2 with ⟨e,_⟩ | ⟨g',c',cur,e,_,h5⟩
 ·
  exact absurd e (by simp)
 ·
  have e':=e
  simp only [Value.slice.injEq,Option.some.injEq,Addr.mk.injEq] at e'
  exact .inr ⟨g',c',cur,e,by omega,h5⟩
theorem OwnBy.fresh (W:World) (g:Nat) (hg:W.heap[g]?=some (.cells #[] 5 (0,0))) (a:Option Addr) (c:Nat) (l:List Nat) (h:BytesAt W a l.length l) :
  ∃ v W',Sem.run Tryz.prog (Builtin.append_ #[38,38] 38 #[.slice (some ⟨g,0,none⟩) 0 0,.slice a l.length c]) W=.ok v W'/\OwnBy W' g v l/\Only (fun k=>k=g) W W':=by
 obtain ⟨b,cap,W',h1,h2,h3,h4⟩:=Zbn W g hg a l.length c l h
 exact ⟨_,W',h1,OwnBy.raise h2 rfl h4,h3⟩
def numN (m i:Nat):List Nat:=(List.range i).map fun q=>m / 2 ^ (8*q) % 256
theorem numN_succ (m i:Nat):numN m (i+1)=numN m i++[m / 2 ^ (8*i) % 256]:=by simp [numN,List.range_succ]
theorem numN_len (m i:Nat):(numN m i).length=i:=by simp [numN]
set_option maxRecDepth 100000 in
set_option maxHeartbeats 1000000 in
theorem rnum_c (l:List Nat) (hl:l.length<=90000) (hb:∀ x∈l,x < 256) (a:Option Addr) (cp m:Nat) (hm:m < 65536) (w:World) (h:BytesAt w a l.length l) :
  Calls Tryz.prog 16 #[.slice a l.length cp,.int .u64 m,.int .i64 2] w fun e w'=>∃ v,e=.returned v/\OwnBy w' w.heap.size v (l++numN m 2)/\Ext w w':=by
 obtain ⟨W0,hW0⟩:∃ W,w.alloc (.cells #[] 5)=W:=⟨_,rfl⟩
 have x0:Ext w W0:=hW0▸(Ext.refl w).alloc _
 obtain ⟨v1,W1,hap,ho,hk⟩:=OwnBy.fresh W0 w.heap.size (hW0▸heap_alloc_new _ _) a cp l (h.ext x0)
 have HAP:=hid hap
 have HO:=hid ho
 have HX:=hid (show Ext w W1 from Ext.then x0 hk fun i hi q=>by omega)
 have HL:=hid hl; have HB:=hid hb; have HM:=hid hm
 have HW0:=hid hW0
 clear hap ho hk x0 h hl hb hm hW0
 go_enter Tryz.func16,Tryz.ntmps16
 go_wp2_with (at_builtin; rw [HW0.out]; refine Zah rfl _ _ _ rfl _ _ _ _ rfl rfl HAP.out ?_)
 go_loopw [8,7] (fun t v wq=>∃ i:Nat,t=.int .i64 i/\i<=2/\OwnBy wq w.heap.size v (l++numN m i)/\Ext w wq) (fun t _ _=>2 - (intOf t).toNat)
 case atStart=>exact ⟨0,rfl,by omega,by simpa [numN] using HO.out,HX.out⟩
 case round =>
  clear HO HX
  obtain ⟨i,rfl,hi,ho,hx⟩:=hrel
  have HO:=hid ho; have HX:=hid hx
  clear ho hx
  by_cases h2:i < 2
  ·
   have i2:(i:Int) < 2:=by omega
   have i0:(0:Int)<=(i:Int):=by omega
   obtain ⟨W4,hW4⟩:∃ W,wr.alloc (.cells #[.int .u8 ((m:Int) / 2 ^ (8*i) % 256)] 5)=W:=⟨_,rfl⟩
   have x4:Ext wr W4:=hW4▸(Ext.refl wr).alloc _
   have hbk:W4.heap[wr.heap.size]?=some (.cells #[.int .u8 ((m:Int) / 2 ^ (8*i) % 256)] 5 (0,0)):=hW4▸heap_alloc_new _ _
   have hb4:BytesAt W4 (some ⟨wr.heap.size,0,none⟩) 1 [m / 2 ^ (8*i) % 256]:=⟨rfl,by omega,fun y hy=>by
    have:y=m / 2 ^ (8*i) % 256:=by simpa using hy
    omega,.inr ⟨_,0,rfl,fun j hj=>by
    obtain rfl:j=0:=by omega
    exact (Zaf hbk).trans (congrArg some (congrArg (Value.int .u8) (by show (m:Int) / 2 ^ (8*i) % 256=((m / 2 ^ (8*i) % 256:Nat):Int); push_cast; rfl)))⟩⟩
   obtain ⟨v6,w6,hap,ho6,_,hx6⟩:=(HO.out.ext x4).push (c:=1) hb4 (by omega) (by have:=HL.out; rw [List.length_append,numN_len]; omega) (Nat.le_trans HX.out.size x4.size)
   rw [List.append_assoc,<- numN_succ] at ho6
   have HA:=hid hap
   have HO6:=hid ho6
   have HX6:=hid (hx6 w (Nat.le_refl _) (Ext.trans HX.out x4))
   have HW4:=hid hW4
   clear hap ho6 hx6 hb4 hbk x4 hW4 HO HX
   go_wp2_with (at_builtin; rw [HW4.out]; refine Zah rfl _ _ _ rfl _ _ _ _ rfl rfl HA.out ?_)
   go_roundw
   case rel=>exact ⟨i+1,by go_num,by omega,HO6.out,HX6.out⟩
   case measure=>simp [intOf]; omega
  ·
   obtain rfl:i=2:=by omega
   have i2:¬((2:Nat):Int) < 2:=by omega
   go_wp2_with fail
   go_ret
   exact ⟨_,rfl,HO.out,HX.out⟩
theorem numN_two (m:Nat) (x:List Nat):numN m 2++x=m % 256::m / 256 % 256::x:=by simp [numN,List.range_succ]
theorem OwnBy.down {w:World} {B B':Nat} {v:Value} {l:List Nat} (h:OwnBy w B v l) (hb:B'<=B):OwnBy w B' v l:=by
 refine ⟨h.1,?_⟩
 rcases h.2 with h' | ⟨g,c,cur,h1,h2,h3⟩
 ·
  exact .inl h'
 ·
  exact .inr ⟨g,c,cur,h1,by omega,h3⟩
def FillAt (w:World) (g k:Nat) (P:List Nat) (i:Nat):Prop:=∃ C:Array Value,w.heap[g]?=some (.cells C 24 (0,0))/\C.size=k*108/\∀ q,q < k*108->C[q]?=some (.int .u8 (if q < i then nth P q else 0))
theorem FillAt.full {w:World} {g k:Nat} {P:List Nat} (h:FillAt w g k P P.length) (hk:P.length<=k*108):ChAt w g k P k:=by
 obtain ⟨C,h1,h2,h3⟩:=h
 refine ⟨C,h1,h2,fun q hq=>?_⟩
 rw [h3 q hq,if_pos hq]
 by_cases z:q < P.length
 ·
  rw [if_pos z]
 ·
  rw [if_neg z,nth_over (by omega)]; rfl
theorem FillAt.step {w:World} {g k:Nat} {P:List Nat} {i:Nat} (h:FillAt w g k P i) (hi:i < k*108):FillAt (w.setCell ⟨g,i,none⟩ (.int .u8 (nth P i))) g k P (i+1):=by
 obtain ⟨C,h1,h2,h3⟩:=h
 refine ⟨C.setIfInBounds i (.int .u8 (nth P i)),Zay h1 _,by rw [Array.size_setIfInBounds,h2],fun q hq=>?_⟩
 rw [Array.getElem?_setIfInBounds]
 by_cases e:i=q
 ·
  subst e; rw [if_pos rfl,if_pos (by omega),if_pos (by omega)]
 ·
  rw [if_neg e,h3 q hq]
  by_cases z:q < i
  ·
   rw [if_pos z,if_pos (by omega)]
  ·
   rw [if_neg z,if_neg (by omega)]
set_option maxRecDepth 100000 in
set_option maxHeartbeats 2000000 in
theorem rfill_c (c:Cfg) (hc:c.Good) (l:List (List Nat)) (hl:l.length<=100) (a:Option Addr) (cp:Nat) (w:World) (h:EntsAt w a l) :
  Calls Tryz.prog 7 #[.agg (Cfg.A c),.slice a l.length cp] w fun e w'=>Ext w w' ∧
   ((¬Tp.fits c.k.toNat l/\e=.returned (.slice none 0 0))\/(Tp.fits c.k.toNat l/\∃ g,e=.returned (.slice (some ⟨g,0,none⟩) c.k.toNat c.k.toNat)/\w.heap.size<=g/\BlksAt w' (some ⟨g,0,none⟩) (Tp.chunks c.k.toNat (Tp.pack l)))):=by
 have HH:=hid h
 have HG:=hid hc
 obtain ⟨kk,hk⟩:∃ kk:Nat,c.k=kk:=⟨c.k.toNat,by have:=hc.k0; omega⟩
 have HKT:=hid (show c.k.toNat=kk by omega)
 have k1:1<=kk:=by have:=hc.k0; omega
 have k8:kk<=8:=by have:=hc.k1; have:=hc.n1; omega
 have HK:=hid hk
 rw [HKT.out]
 obtain ⟨W1,hW1⟩:∃ W,w.alloc (.cells (Cfg.A c) 26)=W:=⟨_,rfl⟩
 have X1:=hid (show Ext w W1 from hW1▸(Ext.refl w).alloc _)
 have HC:=hid (show W1.heap[w.heap.size]?=some (.cells (Cfg.A c) 26 (0,0)) from hW1▸heap_alloc_new _ _)
 have HGC:=hid (show w.heap.size < W1.heap.size from lt_of_block HC.out)
 have HW1:=hid hW1
 clear h hc hk hW1
 go_enter Tryz.func7,Tryz.ntmps7
 go_wp2_with fail
 rw [HW1.out]
 generalize hgc:w.heap.size=gc at *
 have HGW:=hid hgc
 clear hgc
 go_loopw [13,5] (fun t v wr=>∃ i:Nat,t=.int .i64 i/\i<=l.length/\OwnBy wr W1.heap.size v (Tp.pack (l.take i))/\Ext W1 wr/\∀ x∈l.take i,Tp.okE kk x) (fun t _ _=>l.length - (intOf t).toNat)
 case atStart=>exact ⟨0,rfl,by omega,OwnBy.nil _ _,Ext.refl _,fun x hx=>by simp at hx⟩
 case round =>
  obtain ⟨i,rfl,hi,hown,hx,hok⟩:=hrel
  have HO:=hid hown; have HX:=hid hx; have HOK:=hid hok
  have hbd:(Tp.pack (l.take i)).length<=86400:=Nat.le_trans (Tp.pack_bd kk _ hok) (Nat.le_trans (Nat.mul_le_mul (show (l.take i).length<=100 by rw [List.length_take]; omega) (show kk*108<=864 by omega)) (by decide))
  clear hown hx hok
  by_cases hlt:i < l.length
  ·
   obtain ⟨x,hxi⟩:∃ x,l[i]?=some x:=⟨_,List.getElem?_eq_getElem hlt⟩
   obtain ⟨g0,off,p,cpx,rfl,hcell,hbx⟩:=(HH.out.ext X1.out) i x hxi
   have hcell:=Ext.cell HX.out hcell
   have HXI:=hid hxi
   have HBX:=hid hbx
   have hs:=hbx.small
   have i0:(0:Int)<=(i:Int):=by omega
   have i1:(i:Int) < (l.length:Int):=by omega
   have HBD:=hid hbd
   clear hxi hbx hbd
   by_cases h0:x.length=0
   ·
    have t0:(x.length:Int) < 1:=by omega
    go_wp2_with fail
    go_ret
    exact ⟨Ext.trans X1.out HX.out,.inl ⟨Tp.okE_not HXI.out (fun q=>by have:=q.1; omega),rfl⟩⟩
   ·
    have t0:¬(x.length:Int) < 1:=by omega
    go_wp2_with (guard_target=wpList _ _ _ (⟨some _,Op.load _ _,_,_,_,some _⟩::_) _ _; refine Zaw 26 _ rfl ⟨gc,0,none⟩ rfl (Cfg.A c) rfl (Zat c) (Zai (HX.out.at HC.out)) ?_)
    refine (rroom_c c HG.out _).mono ?_
    rintro e w3 ⟨rfl,x3⟩
    rw [HK.out]
    have HX3:=hid (Ext.trans HX.out x3)
    have HO3:=hid (HO.out.ext x3)
    have hw1:wrap64 ((kk:Int)*108 - 2)=(kk:Int)*108 - 2:=by unfold wrap64; omega
    clear x3 HO HX
    by_cases h1:x.length+2<=kk*108
    ·
     have t1:¬(kk:Int)*108 - 2 < (x.length:Int):=by omega
     have HOE:=hid (show Tp.okE kk x from ⟨by omega,h1⟩)
     have hpb:∀ y∈Tp.pack (l.take i),y < 256:=Tp.pack_byte fun y hy=>(HH.out.byte y (List.mem_of_mem_take hy))
     obtain ⟨a5,c5,hv5,hb5,_,_⟩:=HO3.out.slice hpb (by have:=HBD.out; omega)
     subst hv5
     have hcv:IntKind.u64.wrap (x.length:Int)=(x.length:Int):=by rw [IntKind.wrap_u64]; omega
     clear HO3
     go_wp2_with fail
     refine (rnum_c (Tp.pack (l.take i)) (by have:=HBD.out; omega) hpb a5 c5 x.length (by omega) w3 hb5).mono ?_
     rintro e w6 ⟨v6,rfl,ho6,hx6⟩
     have hX6:=Ext.trans HX3.out hx6
     obtain ⟨v7,w7,hap2,ho7,_,hx7⟩:=(ho6.down HX3.out.size).push (c:=cpx) (HBX.out.ext hX6) (by omega) (by have:=HBD.out; rw [List.length_append,numN_len]; omega) hX6.size
     have HX7:=hid (hx7 W1 (Nat.le_refl _) hX6)
     have HA2:=hid hap2
     have HO7:=hid (show OwnBy w7 W1.heap.size v7 (Tp.pack (l.take (i+1))) from by
      rw [Tp.take_succ_pack l i x HXI.out]
      have:=ho7
      rw [List.append_assoc,numN_two] at this
      exact this)
     have HOK7:=hid (show ∀ y∈l.take (i+1),Tp.okE kk y from fun y hy=>by
      rw [List.take_add_one,HXI.out] at hy
      rcases List.mem_append.1 hy with q | q
      ·
       exact HOK.out y q
      ·
       have:y=x:=by simpa using q
       rw [this]; exact HOE.out)
     clear hap2 ho6 ho7 hx6 hx7 hX6 HX3 HBX hb5 hpb hcv
     go_wp2_with (at_builtin; refine Zah rfl _ _ _ rfl _ _ _ _ rfl rfl HA2.out ?_)
     go_roundw
     case rel=>exact ⟨i+1,by go_num,by omega,HO7.out,HX7.out,HOK7.out⟩
     case measure=>simp [intOf]; omega
    ·
     have t1:(kk:Int)*108 - 2 < (x.length:Int):=by omega
     go_wp2_with fail
     go_ret
     exact ⟨Ext.trans X1.out HX3.out,.inl ⟨Tp.okE_not HXI.out (fun q=>by have:=q.2; omega),rfl⟩⟩
  ·
   have i1:¬(i:Int) < (l.length:Int):=by omega
   obtain rfl:i=l.length:=by omega
   rw [List.take_length] at HO HOK hbd
   have HBD:=hid hbd
   obtain ⟨a5,c5,rfl,hb5,hc5,ho5⟩:=HO.out.slice (Tp.pack_byte fun y hy=>(HH.out.byte y hy)) (by omega)
   have HB5:=hid hb5
   clear hb5 hbd
   obtain ⟨P,hP⟩:∃ P,Tp.pack l=P:=⟨_,rfl⟩
   rw [hP] at HB5 HBD hc5
   have HP:=hid hP
   have HPL:=hid (show l≠[]->1<=P.length from fun q=>by have:=Tp.pack_len l; have:=List.length_pos_iff.2 q; rw [hP] at *; omega)
   have HA5:=hid ho5
   rw [hP]
   clear hP HO ho5
   by_cases hn:l=[]
   ·
    have t0:((l.length:Int) == 0)=true:=by rw [hn]; rfl
    go_wp2_with fail
    go_ret
    exact ⟨Ext.trans X1.out HX.out,.inl ⟨fun q=>q.2.1 (by first | exact hn | rfl),rfl⟩⟩
   ·
    have t0:((l.length:Int) == 0)=false:=beq_eq_false_iff_ne.2 (by have:=List.length_pos_iff.2 hn; omega)
    go_wp2_with (guard_target=wpList _ _ _ (⟨some _,Op.load _ _,_,_,_,some _⟩::_) _ _; refine Zaw 26 _ rfl ⟨gc,0,none⟩ rfl (Cfg.A c) rfl (Zat c) (Zai (HX.out.at HC.out)) ?_)
    refine (rroom_c c HG.out _).mono ?_
    rintro e w3 ⟨rfl,x3⟩
    rw [HK.out]
    have HX3:=hid (Ext.trans HX.out x3)
    have HB3:=hid (HB5.out.ext x3)
    clear x3 HX HB5
    by_cases h1:P.length<=kk*108
    ·
     have t1:¬(kk:Int)*108 < (P.length:Int):=by omega
     have HFT:=hid (show Tp.fits kk l from ⟨HOK.out,hn,by rw [HP.out]; exact h1⟩)
     have ck:w3.cell? ⟨gc,1,none⟩=some (.int .i64 kk):=(Zaf (HX3.out.at HC.out)).trans ((Cfg.A1 c).trans (by rw [HK.out]))
     obtain ⟨CB,hcb,hcs,hc0⟩:=make_blocksS kk (by omega)
     have hmb:=hcb w3
     have x4:Ext w3 (w3.alloc (.cells CB 24)):=(Ext.refl w3).alloc _
     have HX4:=hid (Ext.trans HX3.out x4)
     have HB4:=hid (HB3.out.ext x4)
     have HCH:=hid (show FillAt (w3.alloc (.cells CB 24)) w3.heap.size kk P 0 from ⟨CB,Zad,hcs,fun q hq=>by rw [hc0 q hq,if_neg (by omega)]⟩)
     have HGW3:=hid (show w.heap.size<=w3.heap.size from Nat.le_trans X1.out.size HX3.out.size)
     clear x4 hcb hcs hc0 HX3
     have hp1:=HPL.out hn
     obtain ⟨pb,po,rfl⟩:∃ pb po,a5=some ⟨pb,po,none⟩:=by
      rcases HB4.out.cells with q | ⟨b,o,q,_⟩
      ·
       omega
      ·
       exact ⟨b,o,q⟩
     obtain ⟨rfl,_,hpb⟩:=HA5.out pb po rfl
     have HNE:=hid (show pb≠w3.heap.size from fun q=>by have:=HB4.out.lt pb (by omega) ⟨_,rfl,rfl⟩; have:=HB3.out.lt pb (by omega) ⟨_,rfl,rfl⟩; omega)
     clear HB3
     go_wp2_with fail
     clear hmb ck
     generalize w3.alloc (.cells CB 24)=W4 at *
     generalize w3.heap.size=g at *
     go_loopw [51] (fun t wr=>∃ i:Nat,t=.int .i64 i/\i<=P.length/\FillAt wr g kk P i/\Only (fun b=>b=g) W4 wr) (fun t _=>P.length - (intOf t).toNat)
     case atStart=>exact ⟨0,rfl,by omega,HCH.out,Only.refl _ _⟩
     case round =>
      clear HCH
      obtain ⟨i,rfl,hi,hch,hon⟩:=hrel
      have HON:=hid hon
      by_cases hlt:i < P.length
      ·
       have i0:(0:Int)<=(i:Int):=by omega
       have i1:(i:Int) < (P.length:Int):=by omega
       have hcb:wr.cell? ⟨pb,0+i,none⟩=some (.int .u8 (nth P i)):=by
        have h5:=HB4.out.only hon fun q h1 h2=>by
         obtain ⟨z,z1,z2⟩:=h2
         cases z1
         exact fun h3=>HNE.out (z2.trans h3)
        exact h5.get i hlt
       rw [Nat.zero_add] at hcb
       have HCH:=hid hch
       clear hch hon
       have ib:(i:Int)<=864:=by omega
       have e5:i / 108*108+i % 108=i:=by omega
       have hik:i < kk*108:=by omega
       have HIK:=hid hik
       have hcx:∃ v,wr.cell? ⟨g,i / 108*108+i % 108,none⟩=some v:=by
        rw [e5]
        obtain ⟨C,q1,q2,q3⟩:=HCH.out
        exact ⟨_,(Zaf q1).trans (q3 i hik)⟩
       obtain ⟨v0,hcx⟩:=hcx
       have hfx:wr.frozen? ⟨g,i / 108*108+i % 108,none⟩=false:=by
        obtain ⟨C,q1,q2,q3⟩:=HCH.out
        exact Za7 q1
       have HE5:=hid e5
       clear e5 hik
       go_wp2_with fail
       rw [HE5.out]
       have HF:=hid (HCH.out.step HIK.out)
       have HON':=hid (show Only (fun b=>b=g) W4 (wr.setCell ⟨g,i,none⟩ (.int .u8 (nth P i))) from Only.trans HON.out (Zbd _ _ _ _) fun _ _ e=>e)
       first
       | exact ⟨⟨i+1,by go_num,by omega,HF.out,HON'.out⟩,by simp [intOf]; omega⟩
       | (go_roundw; (case rel=>exact ⟨i+1,by go_num,by omega,HF.out,HON'.out⟩); (case measure=>simp [intOf]; omega))
      ·
       obtain rfl:i=P.length:=by omega
       have i1:¬(P.length:Int) < (P.length:Int):=by omega
       go_wp2_with fail
       go_ret
       exact ⟨Ext.then (Ext.trans X1.out HX4.out) hon fun q hq e=>by have e:q=g:=e; have:=HGW.out; have:=HGW3.out; omega,.inr ⟨HFT.out,g,rfl,HGW3.out,by rw [HP.out]; exact (hch.full h1).blks⟩⟩
    ·
     have t1:(kk:Int)*108 < (P.length:Int):=by omega
     go_wp2_with fail
     go_ret
     exact ⟨Ext.trans X1.out HX3.out,.inl ⟨fun q=>h1 (by rw [<- HP.out]; exact q.2.2),rfl⟩⟩
set_option maxRecDepth 100000 in
theorem rempty_nil (w:World):Calls Tryz.prog 14 #[.slice none 0 0] w (TEmptyPost w []):=by
 go_enter Tryz.func14,Tryz.ntmps14
 go_wp2
 go_loopw [10,3] (fun t v wr=>t=.int .i64 0/\v=.slice none 0 0/\w=wr) (fun _ _ _=>0)
 case atStart=>exact ⟨rfl,rfl,rfl⟩
 case round =>
  obtain ⟨rfl,rfl,rfl⟩:=hrel
  go_wp2
  go_loopw [6,5] (fun t v wr=>t=.int .i64 0/\v=.slice none 0 0/\w=wr) (fun _ _ _=>0)
  case atStart=>exact ⟨rfl,rfl,rfl⟩
  case round =>
   obtain ⟨rfl,rfl,rfl⟩:=hrel
   go_wp2
   go_ret
   exact ⟨_,_,_,rfl,EOwn.nil _ _,Ext.refl _⟩
set_option maxRecDepth 100000 in
set_option maxHeartbeats 2000000 in
theorem rempty_c (l:List (List Nat)) (hl8:∀ b∈l,b.length=108) (hlb:∀ b∈l,∀ x∈b,x < 256) (h0:l≠[]) (hn:l.length<=8) (a:Option Addr) (c:Nat) (w:World) (h:BlksAt w a l) :
  Calls Tryz.prog 14 #[.slice a l.length c] w (TEmptyPost w (Tp.empty l)):=by
 have HH:=hid h; have HL8:=hid hl8; have HLB:=hid hlb
 have HFB:=hid (show ∀ i,∀ y∈(l.take i).flatten,y < 256 from fun i y hy=>by
  obtain ⟨b,hb,hy⟩:=List.mem_flatten.1 hy
  exact hlb b (List.mem_of_mem_take hb) y hy)
 have HFL:=hid (Zci hl8)
 clear h hl8 hlb
 go_enter Tryz.func14,Tryz.ntmps14
 go_wp2_with fail
 go_loopw [10,3] (fun t v wr=>∃ i:Nat,t=.int .i64 i/\i<=l.length/\OwnBy wr w.heap.size v (l.take i).flatten/\Ext w wr) (fun t _ _=>l.length - (intOf t).toNat)
 case atStart=>exact ⟨0,rfl,by omega,OwnBy.nil _ _,Ext.refl _⟩
 case round =>
  obtain ⟨i,rfl,hi,hown,hx⟩:=hrel
  have hfl:=HFL.out i
  have HO:=hid hown; have HX:=hid hx
  clear hown hx
  by_cases hlt:i < l.length
  ·
   obtain ⟨b,hbi⟩:∃ b,l[i]?=some b:=⟨_,List.getElem?_eq_getElem hlt⟩
   obtain ⟨g,rfl,hbc⟩:=(HH.out.ext HX.out) i b hbi
   have hbl:b.length=108:=HL8.out b (List.mem_of_getElem? hbi)
   have hby:BytesAt wr (some ⟨g,i*108,none⟩) 108 b:=⟨hbl,by omega,HLB.out b (List.mem_of_getElem? hbi),.inr ⟨g,i*108,rfl,fun j hj=>hbc j hj⟩⟩
   obtain ⟨v',w',hap,ho',_,hx'⟩:=HO.out.push (c:=108) hby (by omega) (by omega) HX.out.size
   have HO':=hid (show OwnBy w' w.heap.size v' (l.take (i+1)).flatten from by rw [flat_succ hbi]; exact ho')
   have HX':=hid (hx' w (Nat.le_refl _) HX.out)
   have HAP:=hid hap
   have j0:(0:Int)<=(i:Int):=by omega
   have j1:(i:Int) < (l.length:Int):=by omega
   clear hbi hbc hbl hby hap ho' hx' hfl HO HX
   go_wp2_with (at_builtin; refine Zah rfl _ _ _ rfl _ _ _ _ rfl rfl HAP.out ?_)
   go_roundw
   case rel=>exact ⟨i+1,by go_num,by omega,HO'.out,HX'.out⟩
   case measure=>simp [intOf]; omega
  ·
   have j1:¬(i:Int) < (l.length:Int):=by omega
   obtain rfl:i=l.length:=by omega
   rw [List.take_length] at HO hfl
   have hfb:=HFB.out l.length
   rw [List.take_length] at hfb
   obtain ⟨a5,c5,rfl,hb5,hc5,ho5⟩:=HO.out.slice hfb (by omega)
   have HP:=hid (show Tp.empty l=Tp.unpack l.flatten from rfl)
   rw [HP.out]
   have hpl:1<=l.flatten.length:=by
    obtain ⟨x,y,rfl⟩:=List.exists_cons_of_ne_nil h0
    have:=HL8.out x List.mem_cons_self
    rw [List.flatten_cons,List.length_append]; omega
   generalize l.flatten=P at *
   obtain ⟨pb,po,rfl⟩:∃ pb po,a5=some ⟨pb,po,none⟩:=by
    rcases hb5.cells with q | ⟨b,o,q,_⟩
    ·
     omega
    ·
     exact ⟨b,o,q⟩
   obtain ⟨rfl,_,_⟩:=ho5 pb po rfl
   have HB5:=hid hb5
   have HPS:=hid (show pb < wr.heap.size from hb5.lt pb (by omega) ⟨_,rfl,rfl⟩)
   clear hb5 HO HFB HFL hfb
   obtain ⟨W3,hW3⟩:∃ W,W=wr:=⟨_,rfl⟩
   subst hW3
   have hc5':P.length<=c5:=hc5
   have hp8:P.length<=900:=by omega
   go_wp2_with fail
   go_loopw [6,5] (fun t u wr=>∃ (p:Nat) (done:List (List Nat)) (bk cp:Nat->Nat),t=.int .i64 p/\p<=P.length/\done.length<=p/\EOwn wr W3.heap.size u done bk cp/\done++Tp.unpack (P.drop p)=Tp.unpack P/\Ext W3 wr) (fun t _ _=>P.length - (intOf t).toNat)
   case atStart=>exact ⟨0,[],_,_,rfl,by omega,by simp,EOwn.nil _ _,rfl,Ext.refl _⟩
   case round =>
    obtain ⟨p,done,bk,cp,rfl,hp,hdn,heo,hun,hx⟩:=hrel
    have HEO:=hid heo; have HUN:=hid hun; have HX3:=hid hx
    clear heo hun hx
    have w1:wrap64 ((p:Int)+2)=(p:Int)+2:=by unfold wrap64; omega
    have p0:(0:Int)<=(p:Int):=by omega
    by_cases h2:p+2<=P.length
    ·
     have t2:(p:Int)+2<=(P.length:Int):=by omega
     have n0:(p:Int) < (P.length:Int):=by omega
     have n1:(p:Int)+1 < (P.length:Int):=by omega
     have n2:(0:Int)<=(p:Int)+1:=by omega
     have xd:Ext wr wr.drew:=(Ext.refl wr).drew
     have HXD:=hid xd
     have HQB:=hid (fun i=>Za9 HB5.out.byte i)
     have cb0:∀ y:SW Ext wr.drew,y.w.cell? ⟨pb,p,none⟩=some (.int .u8 (nth P p)):=fun y=>by
      have:=HB5.out.get p (by omega)
      rw [Nat.zero_add] at this
      exact Ext.cell (Ext.trans HX3.out (Ext.trans HXD.out y.ext)) this
     have cb1:∀ y:SW Ext wr.drew,y.w.cell? ⟨pb,p+1,none⟩=some (.int .u8 (nth P (p+1))):=fun y=>by
      have:=HB5.out.get (p+1) (by omega)
      rw [Nat.zero_add] at this
      exact Ext.cell (Ext.trans HX3.out (Ext.trans HXD.out y.ext)) this
     have q0:=HQB.out p
     have q1:=HQB.out (p+1)
     have w2:IntKind.i64.wrap ((p:Int)+1)=(p:Int)+1:=by rw [IntKind.wrap_i64]; omega
     clear xd
     go_wp2_with fail
     refine Zal (S:=Ext) (.fin [0,1,2,3,4,5,6,7,8,9,10,11,12,13]) (by kernel_rfl) (by kernel_rfl) (fun _ _ d _ _ h=>by cases d<;>exact h) ?_
     rw [wpS]
     simp only [opsAt,opA,opB,opC,opD,opE,opF,opG]
     iterate 14 ((refine Zab (fun K hK=>?_); go_simp; refine hK _ ?_; clear hK K))
     refine Zae ?_
     intro V hV
     have hor:bits .or .i64 (IntKind.i64.wrap ((nth P p:Nat):Int)) (IntKind.i64.wrap (IntKind.i64.wrap ((nth P (p+1):Nat):Int)*256))=((Tp.head (P.drop p):Nat):Int):=by
      have e0:IntKind.i64.wrap ((nth P p:Nat):Int)=(nth P p:Nat):=by rw [IntKind.wrap_i64]; omega
      have e1:IntKind.i64.wrap ((nth P (p+1):Nat):Int)=(nth P (p+1):Nat):=by rw [IntKind.wrap_i64]; omega
      have e2:IntKind.i64.wrap (((nth P (p+1):Nat):Int)*256)=((nth P (p+1)*256:Nat):Int):=by rw [IntKind.wrap_i64]; omega
      rw [e1,e0,e2,i64_or_nat _ _ (by omega) (by omega)]
      have ho:=Nat.two_pow_add_eq_or_of_lt (i:=8) q0 (nth P (p+1))
      have e3:nth P (p+1)*256=2 ^ 8*nth P (p+1):=by omega
      rw [Nat.or_comm,e3,<- ho]
      unfold Tp.head
      simp only [Zbe,Nat.add_zero]
      omega
     rw [hor]
     have hhd:Tp.head (P.drop p) < 65536:=by unfold Tp.head; simp only [Zbe,Nat.add_zero]; omega
     have HXV:=hid (Ext.trans HX3.out (Ext.trans HXD.out hV))
     have HEV:=hid (HEO.out.ext (Ext.trans HXD.out hV))
     obtain ⟨hd,hhq⟩:∃ hd,Tp.head (P.drop p)=hd:=⟨_,rfl⟩
     rw [hhq] at hhd ⊢
     have HHQ:=hid hhq
     have w3:wrap64 ((P.length:Int) - (p:Int))=(P.length:Int) - (p:Int):=mw64 (by omega) (by omega)
     have w4:IntKind.i64.wrap ((P.length:Int) - (p:Int))=(P.length:Int) - (p:Int):=mi64w (by omega) (by omega)
     have w5:wrap64 ((P.length:Int) - (p:Int) - 2)=(P.length:Int) - (p:Int) - 2:=mw64 (by omega) (by omega)
     clear hor cb0 cb1 q0 q1 hV HXD HEO HX3 HQB hhq n0 n1 n2 w2
     by_cases hst:hd=0\/P.length - p - 2 < hd
     ·
      have hu0:Tp.unpack (P.drop p)=[]:=Tp.unpack_stop (.inr (by rw [HHQ.out,List.length_drop,List.length_drop]; exact hst))
      have hun:=HUN.out
      rw [hu0,List.append_nil] at hun
      have HRT:=hid (show EOwn V w.heap.size u5 (Tp.empty l) bk cp by rw [HP.out,<- hun]; exact HEV.out.down HX.out.size)
      clear hun hu0
      rcases hst with h3 | h3
      ·
       have t3:((hd:Int) == 0)=true:=by simp [h3]
       go_wp2_with fail
       all_goals go_ret
       all_goals exact ⟨_,bk,cp,rfl,HRT.out,Ext.trans HX.out HXV.out⟩
      ·
       have t3:((hd:Int) == 0)=false:=beq_eq_false_iff_ne.2 (by omega)
       have t4:(P.length:Int) - (p:Int) - 2 < (hd:Int):=by omega
       go_wp2_with fail
       all_goals go_ret
       all_goals exact ⟨_,bk,cp,rfl,HRT.out,Ext.trans HX.out HXV.out⟩
     ·
      have t3:((hd:Int) == 0)=false:=beq_eq_false_iff_ne.2 (by omega)
      have t4:¬(P.length:Int) - (p:Int) - 2 < (hd:Int):=by omega
      obtain ⟨X,hX⟩:∃ X,((P.drop p).drop 2).take hd=X:=⟨_,rfl⟩
      have hXl:X.length=hd:=by rw [<- hX,List.length_take,List.length_drop,List.length_drop]; omega
      have hbV:BytesAt V (some ⟨pb,p+2,none⟩) hd X:=by
       have h5:=HB5.out.ext HXV.out
       refine ⟨hXl,by omega,fun y hy=>h5.byte y (List.mem_of_mem_drop (List.mem_of_mem_drop (List.mem_of_mem_take (hX▸hy)))),.inr ⟨pb,p+2,rfl,fun j hj=>?_⟩⟩
       have h6:=h5.get (p+2+j) (by omega)
       rw [Nat.zero_add] at h6
       rw [h6,<- hX,Zb6,if_pos hj,Zbe,Zbe,show p+(2+j)=p+2+j by omega]
      have HUS:=hid (show (done++[X])++Tp.unpack (P.drop (p+2+hd))=Tp.unpack P from by
       have h5:=HUN.out
       rw [Tp.unpack_step (by rw [List.length_drop]; omega) (by rw [HHQ.out]; omega) (by rw [HHQ.out,List.length_drop,List.length_drop]; omega),HHQ.out,hX,List.drop_drop,List.drop_drop,show p+(2+hd)=p+2+hd by omega] at h5
       rw [List.append_assoc]; exact h5)
      have HXL:=hid hXl
      have w6:IntKind.i64.wrap ((p:Int)+2+(hd:Int))=(p:Int)+2+(hd:Int):=mi64w (by omega) (by omega)
      obtain ⟨W5,hW5⟩:∃ W,V.alloc (.cells #[] 5)=W:=⟨_,rfl⟩
      have x5:Ext V W5:=hW5▸(Ext.refl V).alloc _
      obtain ⟨g7,cp7,w7,hap1,hown,hon,hg7⟩:=Zbn W5 V.heap.size (hW5▸heap_alloc_new _ _) (some ⟨pb,p+2,none⟩) hd (c5 - (p+2)) X (hbV.ext x5)
      have hb7:=Zbs hown hbV.byte hbV.small
      have x7:Ext V w7:=Ext.then x5 hon fun i hi e=>by have e:i=V.heap.size:=e; omega
      obtain ⟨v8,w8,bk8,cp8,hap,heo8,hx8,_⟩:=HEV.out.push x7 (b:=g7) (c:=cp7) (x:=X) (by rw [HXL.out]; exact hb7) (hb7.lt g7 (by omega) ⟨_,rfl,rfl⟩) hg7 (by omega) HXV.out.size
      rw [HXL.out] at hap
      have HAP1:=hid hap1; have HW5:=hid hW5
      have HAP:=hid hap; have HE8:=hid heo8
      have HX8:=hid (hx8 W3 (Nat.le_refl _) (Ext.trans HXV.out x7))
      have HSV:=hid (show (entV g7 hd cp7).size=1 from rfl)
      have HPH:=hid (show p+2+hd - (p+2)=hd by omega)
      have s1:p+2<=c5:=by omega
      have s2:p+2+hd<=c5:=by omega
      have s3:¬c5=p+2:=by omega
      clear hX hXl hbV hap1 hW5 x5 hown hon hap heo8 hx8 hb7 x7 hg7 HEV HXV w3 w4 w5
      go_wp2_with (first
       | (guard_target=wpList _ _ _ (⟨some _,Op.buildSlice _ _ _,_,_,_,none⟩::_) _ _; refine Zak rfl 22 38 _ rfl (entV g7 hd cp7) _ _ 1 24 Tryz.underlying22 infoRow (by omega) (by omega) rfl rfl HSV.out ?_)
       | (at_builtin; rw [HW5.out,HPH.out]; refine Zah rfl _ _ _ rfl _ _ _ _ rfl rfl HAP1.out ?_)
       | (at_builtin; refine Zah rfl _ _ _ rfl _ _ _ _ rfl rfl HAP.out ?_))
      go_roundw
      case rel=>exact ⟨p+2+hd,done++[X],bk8,cp8,by go_num,by omega,by rw [List.length_append]; simp; omega,HE8.out,HUS.out,HX8.out⟩
      case measure=>simp [intOf]; omega
    ·
     have t2:¬(p:Int)+2<=(P.length:Int):=by omega
     go_wp2_with fail
     go_ret
     have hu0:Tp.unpack (P.drop p)=[]:=Tp.unpack_stop (.inl (by rw [List.length_drop]; omega))
     have hun:=HUN.out
     rw [hu0,List.append_nil] at hun
     exact ⟨_,bk,cp,rfl,by have h9:=HEO.out.down HX.out.size; rw [HP.out,<- hun]; rw [hun] at h9 ⊢; exact h9,Ext.trans HX.out HX3.out⟩
set_option maxRecDepth 100000 in
theorem tempty_nil (w:World):Calls Tryz.prog 13 #[.slice none 0 0] w (TEmptyPost w []):=by
 have hzb:=zero_block
 go_enter Tryz.func13,Tryz.ntmps13
 go_wp2
 go_loopw [10,3] (fun t v wr=>t=.int .i64 0/\v=.slice none 0 0/\w=wr) (fun _ _ _=>0)
 case atStart=>exact ⟨rfl,rfl,rfl⟩
 case round =>
  obtain ⟨rfl,rfl,rfl⟩:=hrel
  go_wp2
  go_loopw [3,6] (fun t v wr=>t=.slice none 0 0/\v=.slice none 0 0/\w=wr) (fun _ _ _=>0)
  case atStart=>exact ⟨rfl,rfl,rfl⟩
  case round =>
   obtain ⟨rfl,rfl,rfl⟩:=hrel
   go_wp2
   go_ret
   exact ⟨_,_,_,rfl,EOwn.nil _ _,Ext.refl _⟩
end Go.Proofs.YtgjnnbomnoafcaaGreat
