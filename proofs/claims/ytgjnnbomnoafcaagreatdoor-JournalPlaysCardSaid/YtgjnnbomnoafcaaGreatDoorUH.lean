/- Texts of one proof, joined: SuperPure, SupA, SupB. -/
import Derived.Test.YtgjnnbomnoafcaaGreatDoorUD
import Derived.Test.YtgjnnbomnoafcaaGreatDoorUG
import Derived.Test.YtgjnnbomnoafcaaGreatDoorUA
import Derived.Test.YtgjnnbomnoafcaaGreatDoorUB
set_option linter.unusedVariables false
set_option linter.unusedSimpArgs false
namespace Go.Proofs.YtgjnnbomnoafcaaGreatDoor
set_option linter.unusedVariables false
instance:DecidableEq Frm:=fun f g=>decidable_of_iff (f.kind=g.kind/\f.slot=g.slot/\f.stripe=g.stripe/\f.gen=g.gen/\f.data=g.data) (by cases f; cases g; simp)
structure Cfg where
 id:Int
 k:Int
 n:Int
 stripes:Int
 slots:Int
namespace Cfg
def zero:Cfg:=⟨0,0,0,0,0⟩
theorem ext_iff' (a b:Cfg):a=b↔a.id=b.id/\a.k=b.k/\a.n=b.n/\a.stripes=b.stripes/\a.slots=b.slots:=by
 cases a; cases b; simp
instance:DecidableEq Cfg:=fun a b=>decidable_of_iff _ (ext_iff' a b).symm
def right (c:Cfg):Bool:=Frm.isIn c.id 1 2147483647 && Frm.isIn c.n 1 8 && Frm.isIn c.k 1 c.n && Frm.isIn c.stripes 1 64 && Frm.isIn c.slots 1 4
def sectors (c:Cfg):Int:=1+c.slots*c.k+c.stripes
structure Good (c:Cfg):Prop where
 id0:1<=c.id
 id1:c.id<=2147483647
 n1:c.n<=8
 k0:1<=c.k
 k1:c.k<=c.n
 st0:1<=c.stripes
 st1:c.stripes<=64
 sl0:1<=c.slots
 sl1:c.slots<=4
theorem right_iff (c:Cfg):c.right=true↔c.Good:=by
 unfold right Frm.isIn
 simp only [Bool.and_eq_true,decide_eq_true_eq]
 exact ⟨fun ⟨⟨⟨⟨⟨h1,h2⟩,h3,h4⟩,h5,h6⟩,h7,h8⟩,h9,h10⟩=>⟨h1,h2,h4,h5,h6,h7,h8,h9,h10⟩,fun h=>⟨⟨⟨⟨⟨h.id0,h.id1⟩,Int.le_trans h.k0 h.k1,h.n1⟩,h.k0,h.k1⟩,h.st0,h.st1⟩,h.sl0,h.sl1⟩⟩
def bytes (c:Cfg):List Nat:=Frm.low 4 c.id.toNat++[c.k.toNat,c.n.toNat,c.stripes.toNat,c.slots.toNat]
theorem bytes_len (c:Cfg):c.bytes.length=8:=by simp [bytes,Frm.low_len]
def block (c:Cfg) (i:Int):Frm:=⟨1,i,0,1,c.bytes++List.replicate 100 0⟩
theorem bytes_byte (c:Cfg) (h:c.Good):∀ x∈c.bytes,x < 256:=by
 intro x hx
 unfold bytes at hx
 obtain ⟨h1,h2,h3,h4,h5,h6,h7,h8,h9⟩:=h
 rw [List.mem_append] at hx
 rcases hx with hx | hx
 ·
  exact Frm.low_byte _ _ x hx
 ·
  simp only [List.mem_cons,List.not_mem_nil,or_false] at hx
  rcases hx with rfl | rfl | rfl | rfl<;>omega
theorem block_ok (c:Cfg) (i:Int) (h:c.Good):(c.block i).Ok:=⟨by simp [block,bytes_len],fun x hx=>by
 unfold block at hx
 rcases List.mem_append.1 hx with hx | hx
 ·
  exact bytes_byte c h x hx
 ·
  rw [(List.mem_replicate.1 hx).2]; omega⟩
theorem block_right (c:Cfg) (i:Nat) (hi:i < 8):(c.block i).right=true:=by
 have h1:(c.block i).kind=1:=rfl
 have h2:(c.block i).slot=i:=rfl
 have h3:(c.block i).stripe=0:=rfl
 have h4:(c.block i).gen=1:=rfl
 exact Frm.right_of (by omega) (by omega) (by omega) (by omega) (by omega) (by omega) (by omega) (by omega)
def parse (l:List Nat):Cfg:=⟨(Frm.num (l.take 4):Nat),(nth l 4:Nat),(nth l 5:Nat),(nth l 6:Nat),(nth l 7:Nat)⟩
theorem parse_app (c:Cfg) (h:c.Good) (l:List Nat):parse (c.bytes++l)=c:=by
 obtain ⟨h1,h2,h3,h4,h5,h6,h7,h8,h9⟩:=h
 have e:c.bytes++l=Frm.low 4 c.id.toNat++([c.k.toNat,c.n.toNat,c.stripes.toNat,c.slots.toNat]++l):=by unfold bytes; rw [List.append_assoc]
 have hl:=Frm.low_len 4 c.id.toNat
 have ht:(c.bytes++l).take 4=Frm.low 4 c.id.toNat:=by rw [e,List.take_append_of_le_length (by omega),List.take_of_length_le (by omega)]
 have hn:∀ j,nth (c.bytes++l) (4+j)=nth ([c.k.toNat,c.n.toNat,c.stripes.toNat,c.slots.toNat]++l) j:=fun j=>by
  rw [e]; unfold nth
  simp [List.getD_eq_getElem?_getD,List.getElem?_append_right,hl]
 rw [ext_iff']
 unfold parse
 refine ⟨?_,?_,?_,?_,?_⟩
 ·
  show ((Frm.num ((c.bytes++l).take 4):Nat):Int)=c.id
  rw [ht,Frm.num_low,Nat.mod_eq_of_lt (by omega)]; omega
 ·
  show ((nth (c.bytes++l) (4+0):Nat):Int)=c.k
  rw [hn]; show ((c.k.toNat:Nat):Int)=c.k; omega
 ·
  show ((nth (c.bytes++l) (4+1):Nat):Int)=c.n
  rw [hn]; show ((c.n.toNat:Nat):Int)=c.n; omega
 ·
  show ((nth (c.bytes++l) (4+2):Nat):Int)=c.stripes
  rw [hn]; show ((c.stripes.toNat:Nat):Int)=c.stripes; omega
 ·
  show ((nth (c.bytes++l) (4+3):Nat):Int)=c.slots
  rw [hn]; show ((c.slots.toNat:Nat):Int)=c.slots; omega
def told (f:Frm) (i:Int):Option Cfg:=if (parse f.data).right=true/\f=(parse f.data).block i then some (parse f.data) else none
end Cfg
def sSuperPut:ByteArray:=⟨#[115,117,112,101,114,46,80,117,116]⟩
def sSuperFind:ByteArray:=⟨#[115,117,112,101,114,46,70,105,110,100]⟩
namespace Rck
def fits (r:Rck) (c:Cfg):Bool:=c.right && decide (c.n=(r.l.length:Int)) && decide (c.sectors<=(r.sectors:Int))
def superPut (r:Rck) (c:Cfg) (i:Int):Option Err × Rck :=
 if r.fits c=true then
  if (r.write i 0 (c.block i).put).1=none then (((r.write i 0 (c.block i).put).2.flush i).1.map (.fault sSuperPut i),((r.write i 0 (c.block i).put).2.flush i).2)
  else ((r.write i 0 (c.block i).put).1.map (.fault sSuperPut i),(r.write i 0 (c.block i).put).2)
 else (some (.fault sSuperPut i (.no 1)),r)
def superGet (r:Rck) (i:Int):Option Cfg:=(r.get i 0 1 i 0).bind fun f=>Cfg.told f i
def count:Cfg × Nat->Option Cfg->Cfg × Nat
 | (c,n),none=>(c,n)
 | (c,n),some x=>if x=(if n=0 then x else c) then (if n=0 then x else c,n+1) else (if n=0 then x else c,n)
def counted (r:Rck) (m:Nat):Cfg × Nat:=(List.range m).foldl (fun a (i:Nat)=>count a (r.superGet (i:Int))) (Cfg.zero,0)
theorem counted_succ (r:Rck) (m:Nat):r.counted (m+1)=count (r.counted m) (r.superGet (m:Int)):=by
 unfold counted; rw [List.range_succ,List.foldl_append]; rfl
def superFind (r:Rck):Cfg × Option Err :=
 if (r.counted r.l.length).2=0\/((r.counted r.l.length).2:Int) < (r.counted r.l.length).1.k\/r.fits (r.counted r.l.length).1=false then (Cfg.zero,some (.fault sSuperFind ((r.counted r.l.length).2:Int) (.no 7)))
 else ((r.counted r.l.length).1,none)
end Rck
theorem Cfg.told_block (c:Cfg) (h:c.Good) (i:Int):Cfg.told (c.block i) i=some c:=by
 unfold Cfg.told
 have e:Cfg.parse (c.block i).data=c:=Cfg.parse_app c h _
 rw [e,if_pos ⟨(Cfg.right_iff c).2 h,rfl⟩]
structure Super (R:Rck) (c:Cfg) (m:Nat):Prop where
 live:Live R c.n.toNat m
 good:c.Good
 fit:c.sectors<=(m:Int)
namespace Super
variable {R:Rck} {c:Cfg} {m:Nat}
theorem fits (h:Super R c m):R.fits c=true:=by
 unfold Rck.fits
 have hg:=h.good
 rw [(Cfg.right_iff c).2 hg,h.live.len,h.live.sectors,decide_eq_true h.fit,decide_eq_true (by have:=hg.k0; have:=hg.k1; omega)]; rfl
theorem m1 (h:Super R c m):1<=m:=by
 have h1:=h.fit
 unfold Cfg.sectors at h1
 have:=h.good.st0
 have h2:0<=c.slots*c.k:=Int.mul_nonneg (by have:=h.good.sl0; omega) (by have:=h.good.k0; omega)
 omega
theorem n8 (h:Super R c m):c.n.toNat<=8:=by have:=h.good.n1; omega
def disk (D:Dsk) (b:List Nat):Dsk:=(D.write 0 b).flush
theorem put (h:Super R c m) {i:Nat} (hi:i < c.n.toNat) (ha:(R.dsk i).dead=false):R.superPut c i=(none,R.setD i (disk (R.dsk i) (c.block i).bytes)):=by
 have hr:=Cfg.block_right c i (by have:=h.n8; omega)
 have hb:=Frm.bytes_len _ (Cfg.block_ok c i h.good)
 have hp:(c.block (i:Int)).put=(c.block (i:Int)).bytes:=by unfold Frm.put; rw [if_pos hr]
 have hw:=h.live.write (s:=0) hi ha (by have:=h.m1; omega) hb
 obtain ⟨h1,h2⟩:=h.live.setD ((R.dsk i).write 0 (c.block i).bytes) (by rw [Dsk.write_len]; exact h.live.secs i hi) hi
 have hw':R.write (i:Int) 0 (c.block (i:Int)).bytes=(none,R.setD i ((R.dsk i).write 0 (c.block i).bytes)):=hw
 have hf:=h1.flush hi (by rw [h2,if_pos rfl]; exact ha)
 rw [h2,if_pos rfl] at hf
 unfold Rck.superPut
 rw [if_pos h.fits,hp,hw',if_pos rfl]
 show (Option.map _ ((R.setD (↑i) ((R.dsk ↑i).write 0 (c.block ↑i).bytes)).flush ↑i).1,((R.setD (↑i) ((R.dsk ↑i).write 0 (c.block ↑i).bytes)).flush ↑i).2)=_
 rw [hf]
 show (none,_)=_
 congr 1
 unfold Rck.setD disk
 simp
end Super
end Go.Proofs.YtgjnnbomnoafcaaGreatDoor
namespace Go.Proofs.YtgjnnbomnoafcaaGreatDoor
set_option linter.unusedVariables false
open Go Go.RowKit
namespace Cfg
def cl (c:Cfg):List Value:=[.int .i64 c.id,.int .i64 c.k,.int .i64 c.n,.int .i64 c.stripes,.int .i64 c.slots]
@[irreducible] def A (c:Cfg):Array Value:=(cl c).toArray
theorem A_def (c:Cfg):A c=(cl c).toArray:=by unfold A; rfl
theorem A_size (c:Cfg):(A c).size=5:=by rw [A_def]; rfl
theorem A0 (c:Cfg):(A c)[0]?=some (.int .i64 c.id):=by rw [A_def]; rfl
theorem A1 (c:Cfg):(A c)[1]?=some (.int .i64 c.k):=by rw [A_def]; rfl
theorem A2 (c:Cfg):(A c)[2]?=some (.int .i64 c.n):=by rw [A_def]; rfl
theorem A3 (c:Cfg):(A c)[3]?=some (.int .i64 c.stripes):=by rw [A_def]; rfl
theorem A4 (c:Cfg):(A c)[4]?=some (.int .i64 c.slots):=by rw [A_def]; rfl
theorem A_one (c:Cfg):∀ v∈(A c).toList,v.oneCell'=true:=by
 intro v hv
 rw [A_def] at hv
 simp only [cl,List.mem_cons,List.not_mem_nil,or_false] at hv
 rcases hv with rfl | rfl | rfl | rfl | rfl<;>rfl
end Cfg
theorem aggCfg:AggType Tryz.prog 74 5:=⟨by kernel_rfl,by kernel_rfl⟩
theorem zero_cfg (w:World):Sem.run Tryz.prog (zeroValue 74) w=.ok (.agg (Cfg.A Cfg.zero)) w:=by kernel_rfl
theorem built_cfg0:Tryz.prog.built 74 []=some (Cfg.A Cfg.zero):=by kernel_rfl
theorem built_cfg (c:Cfg):Tryz.prog.built 74 [(0,.int .i64 c.id),(1,.int .i64 c.k),(2,.int .i64 c.n),(3,.int .i64 c.stripes),(4,.int .i64 c.slots)]=some (Cfg.A c):=by kernel_rfl
theorem Zby (n lo hi:Int) (w:World) :
  Calls Tryz.prog 185 #[.int .i64 n,.int .i64 lo,.int .i64 hi] w fun e w'=>e=.returned (.bool (Frm.isIn n lo hi))/\w=w':=by
 by_cases h:lo<=n
 ·
  have h1:decide (lo<=n)=true:=by simp [h]
  have HI:Hid (Frm.isIn n lo hi=decide (n<=hi)):=hid (by simp [Frm.isIn,h])
  rw [HI.out]
  go_enter Tryz.func185,Tryz.ntmps185
  go_wp2
  go_ret
  exact ⟨rfl,rfl⟩
 ·
  have h1:decide (lo<=n)=false:=by simp [h]
  have HI:Hid (Frm.isIn n lo hi=false):=hid (by simp [Frm.isIn,h])
  rw [HI.out]
  go_enter Tryz.func185,Tryz.ntmps185
  go_wp2
  go_ret
  exact ⟨rfl,rfl⟩
set_option maxRecDepth 100000 in
set_option maxHeartbeats 2000000 in
theorem sright_c (c:Cfg) (w:World) :
  Calls Tryz.prog 135 #[.agg (Cfg.A c)] w fun e w'=>e=.returned (.bool c.right)/\Ext w w':=by
 have a0:=Cfg.A0 c
 have a1:=Cfg.A1 c
 have a2:=Cfg.A2 c
 have a3:=Cfg.A3 c
 have a4:=Cfg.A4 c
 have HR:Hid (c.right=(Frm.isIn c.id 1 2147483647 && Frm.isIn c.n 1 8 && Frm.isIn c.k 1 c.n && Frm.isIn c.stripes 1 64 && Frm.isIn c.slots 1 4)):=hid rfl
 rw [HR.out]
 clear HR
 obtain ⟨id,k,n,st,sl⟩:=c
 simp only at a0 a1 a2 a3 a4 ⊢
 generalize Cfg.A _=A at *
 rcases h0:Frm.isIn id 1 2147483647 with _ | _
 ·
  rw [Bool.false_and,Bool.false_and,Bool.false_and,Bool.false_and]
  go_enter Tryz.func135,Tryz.ntmps135
  go_wp2_with (go_at_call 185; refine (Zby _ _ _ _).mono ?_; rintro e w' ⟨rfl,rfl⟩)
  go_ret
  exact ⟨rfl,(Ext.refl w).alloc _⟩
 ·
  rcases h1:Frm.isIn n 1 8 with _ | _
  ·
   rw [Bool.true_and,Bool.false_and,Bool.false_and,Bool.false_and]
   go_enter Tryz.func135,Tryz.ntmps135
   go_wp2_with (go_at_call 185; refine (Zby _ _ _ _).mono ?_; rintro e w' ⟨rfl,rfl⟩)
   go_ret
   exact ⟨rfl,(Ext.refl w).alloc _⟩
  ·
   rcases h2:Frm.isIn k 1 n with _ | _
   ·
    rw [Bool.true_and,Bool.true_and,Bool.false_and,Bool.false_and]
    go_enter Tryz.func135,Tryz.ntmps135
    go_wp2_with (go_at_call 185; refine (Zby _ _ _ _).mono ?_; rintro e w' ⟨rfl,rfl⟩)
    go_ret
    exact ⟨rfl,(Ext.refl w).alloc _⟩
   ·
    rcases h3:Frm.isIn st 1 64 with _ | _
    ·
     rw [Bool.true_and,Bool.true_and,Bool.true_and,Bool.false_and]
     go_enter Tryz.func135,Tryz.ntmps135
     go_wp2_with (go_at_call 185; refine (Zby _ _ _ _).mono ?_; rintro e w' ⟨rfl,rfl⟩)
     go_ret
     exact ⟨rfl,(Ext.refl w).alloc _⟩
    ·
     rcases h4:Frm.isIn sl 1 4 with _ | _
     ·
      rw [Bool.true_and,Bool.true_and,Bool.true_and,Bool.true_and]
      go_enter Tryz.func135,Tryz.ntmps135
      go_wp2_with (go_at_call 185; refine (Zby _ _ _ _).mono ?_; rintro e w' ⟨rfl,rfl⟩)
      go_ret
      exact ⟨rfl,(Ext.refl w).alloc _⟩
     ·
      rw [Bool.true_and,Bool.true_and,Bool.true_and,Bool.true_and]
      go_enter Tryz.func135,Tryz.ntmps135
      go_wp2_with (go_at_call 185; refine (Zby _ _ _ _).mono ?_; rintro e w' ⟨rfl,rfl⟩)
      go_ret
      exact ⟨rfl,(Ext.refl w).alloc _⟩
theorem sectors_bd (c:Cfg) (h:c.Good):0<=c.slots*c.k/\c.slots*c.k<=32:=by
 obtain ⟨h1,h2,h3,h4,h5,h6,h7,h8,h9⟩:=h
 have e1:0<=c.slots*c.k:=Int.mul_nonneg (by omega) (by omega)
 have e2:c.slots*c.k<=4*c.k:=Int.mul_le_mul_of_nonneg_right h9 (by omega)
 omega
set_option maxRecDepth 100000 in
theorem ssectors_c (c:Cfg) (h:c.Good) (w:World) :
  Calls Tryz.prog 138 #[.agg (Cfg.A c)] w fun e w'=>e=.returned (.int .i64 c.sectors)/\Ext w w':=by
 have a1:=Cfg.A1 c
 have a3:=Cfg.A3 c
 have a4:=Cfg.A4 c
 obtain ⟨b0,b1⟩:=sectors_bd c h
 have b2:=h.st0
 have b3:=h.st1
 have HR:Hid (c.sectors=1+c.slots*c.k+c.stripes):=hid rfl
 rw [HR.out]
 clear HR h
 obtain ⟨id,k,n,st,sl⟩:=c
 simp only at a1 a3 a4 b0 b1 b2 b3 ⊢
 generalize Cfg.A _=A at *
 obtain ⟨p,hp⟩:∃ p,sl*k=p:=⟨_,rfl⟩
 rw [hp] at b0 b1 ⊢
 have hw:wrap64 (sl*k)=p:=by rw [hp]; unfold wrap64; omega
 have w2:wrap64 (1+p)=1+p:=by unfold wrap64; omega
 have w3:wrap64 (1+p+st)=1+p+st:=by unfold wrap64; omega
 clear hp b0 b1 b2 b3
 go_enter Tryz.func138,Tryz.ntmps138
 go_wp2
 go_ret
 exact ⟨ret_int (by simp only [hw,w2,w3]),(Ext.refl w).alloc _⟩
theorem part_step (l:List Nat) (n j:Nat) (h:j < n) (hl:j < l.length):(l.take j++List.replicate (n - j) 0).set j (nth l j)=l.take (j+1)++List.replicate (n - (j+1)) 0:=by
 have e:n - j=(n - (j+1))+1:=by omega
 have ht:(l.take j).length=j:=by simp; omega
 rw [e,List.replicate_succ,List.set_append_right _ _ (by omega),ht,Nat.sub_self,List.set_cons_zero]
 have e2:l.take (j+1)=l.take j++[nth l j]:=by
  rw [List.take_add_one,List.getElem?_eq_getElem hl]
  unfold nth
  simp [List.getD_eq_getElem?_getD,hl]
 rw [e2,List.append_assoc]; rfl
theorem nth_right (a b:List Nat) (n j:Nat) (h:a.length=n):nth (a++b) (n+j)=nth b j:=by
 unfold nth
 rw [List.getD_eq_getElem?_getD,List.getD_eq_getElem?_getD,List.getElem?_append_right (by omega),show n+j - a.length=j by omega]
theorem Frm.A_put (f:Frm) (j x:Nat):(Frm.A f).setIfInBounds (4+j) (.int .u8 x)=Frm.A { f with data:=f.data.set j x }:=by
 rw [Frm.A_def,Frm.A_def]
 unfold Frm.cl
 rw [List.setIfInBounds_toArray,List.set_append_right _ _ (by simp)]
 simp [bv,List.map_set]
def FBlk (w:World) (g:Nat) (f:Frm):Prop:=w.heap[g]?=some (.cells (Frm.A f) 42 (0,0))
theorem FBlk.set {w:World} {g:Nat} {f:Frm} (h:FBlk w g f) (j x:Nat):FBlk (w.setCell ⟨g,4+j,none⟩ (.int .u8 x)) g { f with data:=f.data.set j x }:=by
 have:=Zar h (i:=4+j) (.int .u8 (x:Int))
 rw [Frm.A_put] at this
 exact this
namespace Cfg
def full (c:Cfg):List Nat:=c.bytes++List.replicate 100 0
theorem full_len (c:Cfg):c.full.length=108:=by unfold full; simp [bytes_len]
def sf (c:Cfg) (i:Int) (j:Nat):Frm:=⟨1,i,0,1,c.full.take j++List.replicate (108 - j) 0⟩
theorem sf_ok (c:Cfg) (i:Int) (j:Nat) (h:c.Good) (hj:j<=108):(c.sf i j).Ok:=by
 have hb:=(block_ok c i h).byte
 refine ⟨by simp [sf,full_len]; omega,fun x hx=>?_⟩
 rcases List.mem_append.1 hx with hx | hx
 ·
  exact hb x (List.mem_of_mem_take hx)
 ·
  rw [(List.mem_replicate.1 hx).2]; omega
theorem sf_end (c:Cfg) (i:Int):c.sf i 8=c.block i:=by
 unfold sf block full
 rw [List.take_append_of_le_length (by rw [bytes_len]; omega),List.take_of_length_le (by rw [bytes_len]; omega)]
theorem sf_step (c:Cfg) (i:Int) (j:Nat) (hj:j < 8):{ c.sf i j with data:=(c.sf i j).data.set j (nth c.full j) }=c.sf i (j+1):=by
 have:=part_step c.full 108 j (by omega) (by rw [full_len]; omega)
 unfold sf
 rw [this]
theorem full_id (c:Cfg) (j:Nat) (hj:j < 4):nth c.full j=c.id.toNat / 2 ^ (8*j) % 256:=by
 unfold full bytes
 rw [List.append_assoc,<- low_nth 4 c.id.toNat j hj]
 unfold nth
 simp [List.getD_eq_getElem?_getD,List.getElem?_append_left,Frm.low_len,hj]
theorem full_id_int (c:Cfg) (h:c.Good) (j:Nat) (hj:j < 4):c.id / 2 ^ (8*j) % 256=((nth c.full j:Nat):Int):=by
 rw [full_id c j hj]
 obtain ⟨m,hm⟩:=Int.eq_ofNat_of_zero_le (show 0<=c.id by have:=h.id0; omega)
 rw [hm,Int.toNat_natCast,Int.natCast_emod,Int.natCast_ediv,Int.natCast_pow]; rfl
theorem full_more (c:Cfg) (j:Nat) (hj:j < 4):nth c.full (4+j)=nth [c.k.toNat,c.n.toNat,c.stripes.toNat,c.slots.toNat] j:=by
 unfold full bytes
 rw [List.append_assoc,nth_right _ _ 4 j (Frm.low_len _ _)]
 have h:j=0\/j=1\/j=2\/j=3:=by omega
 rcases h with rfl | rfl | rfl | rfl<;>rfl
def nums (c:Cfg):Array Value:=#[.int .i64 c.k,.int .i64 c.n,.int .i64 c.stripes,.int .i64 c.slots]
theorem nums_at (c:Cfg) (h:c.Good) (j:Nat) (hj:j < 4):∃ v:Int,c.nums[j]?=some (.int .i64 v)/\v % 256=((nth c.full (4+j):Nat):Int):=by
 have e:=full_more c j hj
 obtain ⟨h1,h2,h3,h4,h5,h6,h7,h8,h9⟩:=h
 have h:j=0\/j=1\/j=2\/j=3:=by omega
 rcases h with rfl | rfl | rfl | rfl
 ·
  exact ⟨c.k,rfl,by rw [e]; show c.k % 256=((c.k.toNat:Nat):Int); omega⟩
 ·
  exact ⟨c.n,rfl,by rw [e]; show c.n % 256=((c.n.toNat:Nat):Int); omega⟩
 ·
  exact ⟨c.stripes,rfl,by rw [e]; show c.stripes % 256=((c.stripes.toNat:Nat):Int); omega⟩
 ·
  exact ⟨c.slots,rfl,by rw [e]; show c.slots % 256=((c.slots.toNat:Nat):Int); omega⟩
end Cfg
theorem built_three (k s g:Int):Tryz.prog.built 42 [(0,.int .i64 k),(1,.int .i64 s),(3,.int .i64 g)]=some (Frm.A ⟨k,s,0,g,List.replicate 108 0⟩):=by kernel_rfl
def SBlockPost (w:World) (c:Cfg) (i:Int) (e:Ending) (w':World):Prop:=e=.returned (.agg (Frm.A (c.block i)))/\Ext w w'
structure SBlk (w:World) (c:Cfg) (i:Int) (j:Nat) (wr:World):Prop where
 ext:Ext w wr
 cfg:wr.heap[w.heap.size]?=some (.cells (Cfg.A c) 74 (0,0))
 res:FBlk wr (w.heap.size+1) Frm.zero
 own:FBlk wr (w.heap.size+1+1) (c.sf i j)
theorem SBlk.more {w wr wr':World} {c:Cfg} {i:Int} {j:Nat} (h:SBlk w c i j wr) (e:Ext wr wr'):SBlk w c i j wr':=⟨Ext.trans h.ext e,e.at h.cfg,e.at h.res,e.at h.own⟩
theorem SBlk.set {w wr:World} {c:Cfg} {i:Int} {j:Nat} (h:SBlk w c i j wr) (hj:j < 8) (x:Nat) (hx:x=nth c.full j):SBlk w c i (j+1) (wr.setCell ⟨w.heap.size+1+1,4+j,none⟩ (.int .u8 x)):=by
 refine ⟨Only.setCell (F:=fun _=>False) h.ext (.inl (by show _<=w.heap.size+1+1; omega)) _,(Zaj _ (by omega)).trans h.cfg,(Zaj _ (by omega)).trans h.res,?_⟩
 have:=h.own.set j x
 rw [hx,Cfg.sf_step c i j hj] at this
 rw [hx]; exact this
set_option maxRecDepth 100000 in
set_option maxHeartbeats 2000000 in
theorem sblock_c (c:Cfg) (hg:c.Good) (i:Int) (w:World):Calls Tryz.prog 131 #[.agg (Cfg.A c),.int .i64 i] w (SBlockPost w c i):=by
 have hz:=Zav
 have HZ:=hid (Frm.A_size _ Za5)
 have HCZ:=hid (Cfg.A_size c)
 have HB:Hid (Tryz.prog.built 42 [(0,.int .i64 1),(1,.int .i64 i),(3,.int .i64 1)]=some (Frm.A (c.sf i 0))):=hid (built_three 1 i 1)
 have HS0:=hid (Frm.A_size _ (Cfg.sf_ok c i 0 hg (by omega)))
 have HG:=hid hg
 clear hg
 have hr:(((w.alloc (.cells (Cfg.A c) 74)).alloc (.cells (Frm.A Frm.zero) 42)).alloc (.cells (Frm.A Frm.zero) 42)).heap[w.heap.size+1+1]?=some (.cells (Frm.A Frm.zero) 42 (0,0)):=by
  have e:((w.alloc (.cells (Cfg.A c) 74)).alloc (.cells (Frm.A Frm.zero) 42)).heap.size=w.heap.size+1+1:=by simp
  rw [<- e]; exact heap_alloc_new _ _
 go_enter Tryz.func131,Tryz.ntmps131
 go_wp2_with (first
  | (refine Zal rfl 42 _ rfl (Frm.A (c.sf i 0)) ?_ ?_; (simp only [List.map_toArray,List.map_cons,List.map_nil,Act.eval]; simp only [Array.getD_eq_getD_getElem?,List.getElem?_toArray,List.getElem?_cons_succ,List.getElem?_cons_zero,Option.getD_some]; exact HB.out))
  | (refine Zaa rfl 42 _ _ rfl (w.heap.size+1+1) rfl (Frm.A (c.sf i 0)) _ rfl 42 ?_ hr ?_ ?_ ?_; (rw [HS0.out]; exact aggFrame); (rw [HS0.out,HZ.out]); exact Frm.A_one _))
 have HS:Hid (SBlk w c i 0 ((((w.alloc (.cells (Cfg.A c) 74)).alloc (.cells (Frm.A Frm.zero) 42)).alloc (.cells (Frm.A Frm.zero) 42)).setRow (w.heap.size+1+1) (Frm.A (c.sf i 0)))):=hid (by
  have e2:((w.alloc (.cells (Cfg.A c) 74)).alloc (.cells (Frm.A Frm.zero) 42)).heap.size=w.heap.size+1+1:=by simp
  have e1:(w.alloc (.cells (Cfg.A c) 74)).heap.size=w.heap.size+1:=by simp
  rw [<- e2,Zag]
  refine ⟨(((Ext.refl w).alloc _).alloc _).alloc _,?_,?_,by rw [<- e2]; exact heap_alloc_new _ _⟩
  ·
   rw [heap_alloc_old _ _ (by simp; omega),heap_alloc_old _ _ (by simp)]; exact heap_alloc_new _ _
  ·
   unfold FBlk; rw [heap_alloc_old _ _ (by simp),<- e1]; exact heap_alloc_new _ _)
 clear hr
 go_loopw [11] (fun v wr=>∃ j:Nat,v=.int .i64 j/\j<=4/\SBlk w c i j wr) (fun v _=>4 - (intOf v).toNat)
 case atStart=>exact ⟨0,rfl,by omega,HS.out⟩
 case round =>
  clear HS
  obtain ⟨j,rfl,hj,hst⟩:=hrel
  by_cases hlt:j < 4
  ·
   have i0:(0:Int)<=(j:Int):=by omega
   have i1:(j:Int) < 4:=by omega
   have c0:wr.cell? ⟨w.heap.size,0,none⟩=some (.int .i64 c.id):=(Zae hst.cfg).trans (Cfg.A0 c)
   have c1:wr.cell? ⟨w.heap.size+1+1,4+j,none⟩=some (.int .u8 (nth (c.sf i j).data j)):=(Zae hst.own).trans (Frm.A4 _ _ (by rw [(Cfg.sf_ok c i j HG.out (by omega)).len]; omega))
   have f1:wr.frozen? ⟨w.heap.size+1+1,4+j,none⟩=false:=Zax hst.own
   have HST:=hid hst
   clear hst
   --M1
   go_wp2
   go_roundw
   case rel=>exact ⟨j+1,by go_num,by omega,by rw [Cfg.full_id_int c HG.out j hlt]; exact HST.out.set (by omega) _ rfl⟩
   case measure=>simp [intOf]; omega
  ·
   obtain rfl:j=4:=by omega
   rw [show ((4:Nat):Int)=4 from rfl]
   have c1:wr.cell? ⟨w.heap.size,1,none⟩=some (.int .i64 c.k):=(Zae hst.cfg).trans (Cfg.A1 c)
   have c2:wr.cell? ⟨w.heap.size,2,none⟩=some (.int .i64 c.n):=(Zae hst.cfg).trans (Cfg.A2 c)
   have c3:wr.cell? ⟨w.heap.size,3,none⟩=some (.int .i64 c.stripes):=(Zae hst.cfg).trans (Cfg.A3 c)
   have c4:wr.cell? ⟨w.heap.size,4,none⟩=some (.int .i64 c.slots):=(Zae hst.cfg).trans (Cfg.A4 c)
   go_wp2_with fail
   have HS:Hid (SBlk w c i (4+0) (wr.alloc (.cells c.nums 3))/\(wr.alloc (.cells c.nums 3)).heap[wr.heap.size]?=some (.cells c.nums 3 (0,0))/\w.heap.size+1+1 < wr.heap.size):=hid ⟨hst.more ((Ext.refl wr).alloc _),heap_alloc_new _ _,lt_of_block hst.own⟩
   rw [show (#[Value.int .i64 c.k,.int .i64 c.n,.int .i64 c.stripes,.int .i64 c.slots]:Array Value)=c.nums from rfl]
   clear c1 c2 c3 c4 hst
   generalize wr.alloc (.cells c.nums 3)=v0 at *
   generalize wr.heap.size=g at *
   go_loopw [35] (fun v wr=>∃ j:Nat,v=.int .i64 j/\j<=4/\SBlk w c i (4+j) wr/\wr.heap[g]?=some (.cells c.nums 3 (0,0))/\w.heap.size+1+1 < g) (fun v _=>4 - (intOf v).toNat)
   case atStart=>exact ⟨0,rfl,by omega,HS.out.1,HS.out.2.1,HS.out.2.2⟩
   case round =>
    clear HS
    obtain ⟨j,rfl,hj,hst,hn,hgt⟩:=hrel
    by_cases hlt:j < 4
    ·
     have i0:(0:Int)<=(j:Int):=by omega
     have i1:(j:Int) < 4:=by omega
     obtain ⟨v,hv,hv2⟩:=Cfg.nums_at c HG.out j hlt
     have c0:wr.cell? ⟨g,j,none⟩=some (.int .i64 v):=(Zae hn).trans hv
     have c1:wr.cell? ⟨w.heap.size+1+1,4+(4+j),none⟩=some (.int .u8 (nth (c.sf i (4+j)).data (4+j))):=(Zae hst.own).trans (Frm.A4 _ _ (by rw [(Cfg.sf_ok c i (4+j) HG.out (by omega)).len]; omega))
     have f1:wr.frozen? ⟨w.heap.size+1+1,4+(4+j),none⟩=false:=Zax hst.own
     have HST:=hid hst; have HN:=hid hn; have HGT:=hid hgt
     clear hst hn hgt hv
     go_wp2
     go_roundw
     case rel=>exact ⟨j+1,by go_num,by omega,HST.out.set (by omega) _ rfl,(Zaj _ (by have:=HGT.out; omega)).trans HN.out,HGT.out⟩
     case measure=>simp [intOf]; omega
    ·
     obtain rfl:j=4:=by omega
     rw [show ((4:Nat):Int)=4 from rfl]
     have HS8:=hid (Frm.A_size _ (Cfg.sf_ok c i 8 HG.out (by omega)))
     have hb':wr.heap[w.heap.size+1+1]?=some (.cells (Frm.A (c.sf i 8)) 42 (0,0)):=hst.own
     have hr':wr.heap[w.heap.size+1]?=some (.cells (Frm.A Frm.zero) 42 (0,0)):=hst.res
     have HX:=hid hst.ext
     have HE:=hid (Cfg.sf_end c i)
     clear hst hn
     go_wp2_with (first
      | (refine Zab rfl 42 _ rfl ⟨w.heap.size+1+1,0,none⟩ rfl (Frm.A (c.sf i 8)) ?_ ?_ ?_; (rw [HS8.out]; exact aggFrame); exact Zai hb')
      | (refine Zaa rfl 42 _ _ rfl (w.heap.size+1) rfl (Frm.A (c.sf i 8)) _ rfl 42 ?_ hr' ?_ ?_ ?_; (rw [HS8.out]; exact aggFrame); (rw [HS8.out,HZ.out]); exact Frm.A_one _))
     refine bodyPost_ret (results_cell_row Tryz.results131 _ _ (w.heap.size+1) _ (Frm.A (c.sf i 8)) _ _ rfl (setRow_heap _ _ _ _ _ _ hr') Tryz.underlying42 rfl (by rw [HS8.out]; exact aggFrame.2)) rfl ?_
     exact ⟨by rw [HE.out],Ext.then HX.out (Zad _ _ _) (fun i hi=>by omega)⟩
end Go.Proofs.YtgjnnbomnoafcaaGreatDoor
