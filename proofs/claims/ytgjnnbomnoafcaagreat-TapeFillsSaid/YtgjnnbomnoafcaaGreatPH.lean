/- Texts of one proof, joined: SuperPure, SupA, SupC. -/
import Derived.Test.YtgjnnbomnoafcaaGreatPD
import Derived.Test.YtgjnnbomnoafcaaGreatPG
import Derived.Test.YtgjnnbomnoafcaaGreatPA
import Derived.Test.YtgjnnbomnoafcaaGreatPB
import Derived.Test.YtgjnnbomnoafcaaGreatPF
set_option linter.unusedVariables false
set_option linter.unusedSimpArgs false
namespace Go.Proofs.YtgjnnbomnoafcaaGreat
set_option linter.unusedVariables false
instance:DecidableEq Frm:=fun f g=>decidable_of_iff (f.kind=g.kind/\f.slot=g.slot/\f.stripe=g.stripe/\f.gen=g.gen/\f.data=g.data) (by cases f; cases g; simp)
structure Cfg where
 id:Int
 k:Int
 n:Int
 stripes:Int
 slots:Int
namespace Cfg
def zero:Cfg:=⟨0,0,0,0,0⟩
theorem ext_iff' (a b:Cfg):a=b↔a.id=b.id/\a.k=b.k/\a.n=b.n/\a.stripes=b.stripes/\a.slots=b.slots:=by
 cases a; cases b; simp
instance:DecidableEq Cfg:=fun a b=>decidable_of_iff _ (ext_iff' a b).symm
def right (c:Cfg):Bool:=Frm.isIn c.id 1 2147483647 && Frm.isIn c.n 1 8 && Frm.isIn c.k 1 c.n && Frm.isIn c.stripes 1 64 && Frm.isIn c.slots 1 4
def sectors (c:Cfg):Int:=1+c.slots*c.k+c.stripes
structure Good (c:Cfg):Prop where
 id0:1<=c.id
 id1:c.id<=2147483647
 n1:c.n<=8
 k0:1<=c.k
 k1:c.k<=c.n
 st0:1<=c.stripes
 st1:c.stripes<=64
 sl0:1<=c.slots
 sl1:c.slots<=4
theorem right_iff (c:Cfg):c.right=true↔c.Good:=by
 unfold right Frm.isIn
 simp only [Bool.and_eq_true,decide_eq_true_eq]
 exact ⟨fun ⟨⟨⟨⟨⟨h1,h2⟩,h3,h4⟩,h5,h6⟩,h7,h8⟩,h9,h10⟩=>⟨h1,h2,h4,h5,h6,h7,h8,h9,h10⟩,fun h=>⟨⟨⟨⟨⟨h.id0,h.id1⟩,Int.le_trans h.k0 h.k1,h.n1⟩,h.k0,h.k1⟩,h.st0,h.st1⟩,h.sl0,h.sl1⟩⟩
def bytes (c:Cfg):List Nat:=Frm.low 4 c.id.toNat++[c.k.toNat,c.n.toNat,c.stripes.toNat,c.slots.toNat]
theorem bytes_len (c:Cfg):c.bytes.length=8:=by simp [bytes,Frm.low_len]
def block (c:Cfg) (i:Int):Frm:=⟨1,i,0,1,c.bytes++List.replicate 100 0⟩
theorem bytes_byte (c:Cfg) (h:c.Good):∀ x∈c.bytes,x < 256:=by
 intro x hx
 unfold bytes at hx
 obtain ⟨h1,h2,h3,h4,h5,h6,h7,h8,h9⟩:=h
 rw [List.mem_append] at hx
 rcases hx with hx | hx
 ·
  exact Frm.low_byte _ _ x hx
 ·
  simp only [List.mem_cons,List.not_mem_nil,or_false] at hx
  rcases hx with rfl | rfl | rfl | rfl<;>omega
theorem block_ok (c:Cfg) (i:Int) (h:c.Good):(c.block i).Ok:=⟨by simp [block,bytes_len],fun x hx=>by
 unfold block at hx
 rcases List.mem_append.1 hx with hx | hx
 ·
  exact bytes_byte c h x hx
 ·
  rw [(List.mem_replicate.1 hx).2]; omega⟩
theorem block_right (c:Cfg) (i:Nat) (hi:i < 8):(c.block i).right=true:=by
 have h1:(c.block i).kind=1:=rfl
 have h2:(c.block i).slot=i:=rfl
 have h3:(c.block i).stripe=0:=rfl
 have h4:(c.block i).gen=1:=rfl
 exact Frm.right_of (by omega) (by omega) (by omega) (by omega) (by omega) (by omega) (by omega) (by omega)
def parse (l:List Nat):Cfg:=⟨(Frm.num (l.take 4):Nat),(nth l 4:Nat),(nth l 5:Nat),(nth l 6:Nat),(nth l 7:Nat)⟩
theorem parse_app (c:Cfg) (h:c.Good) (l:List Nat):parse (c.bytes++l)=c:=by
 obtain ⟨h1,h2,h3,h4,h5,h6,h7,h8,h9⟩:=h
 have e:c.bytes++l=Frm.low 4 c.id.toNat++([c.k.toNat,c.n.toNat,c.stripes.toNat,c.slots.toNat]++l):=by unfold bytes; rw [List.append_assoc]
 have hl:=Frm.low_len 4 c.id.toNat
 have ht:(c.bytes++l).take 4=Frm.low 4 c.id.toNat:=by rw [e,List.take_append_of_le_length (by omega),List.take_of_length_le (by omega)]
 have hn:∀ j,nth (c.bytes++l) (4+j)=nth ([c.k.toNat,c.n.toNat,c.stripes.toNat,c.slots.toNat]++l) j:=fun j=>by
  rw [e]; unfold nth
  simp [List.getD_eq_getElem?_getD,List.getElem?_append_right,hl]
 rw [ext_iff']
 unfold parse
 refine ⟨?_,?_,?_,?_,?_⟩
 ·
  show ((Frm.num ((c.bytes++l).take 4):Nat):Int)=c.id
  rw [ht,Frm.num_low,Nat.mod_eq_of_lt (by omega)]; omega
 ·
  show ((nth (c.bytes++l) (4+0):Nat):Int)=c.k
  rw [hn]; show ((c.k.toNat:Nat):Int)=c.k; omega
 ·
  show ((nth (c.bytes++l) (4+1):Nat):Int)=c.n
  rw [hn]; show ((c.n.toNat:Nat):Int)=c.n; omega
 ·
  show ((nth (c.bytes++l) (4+2):Nat):Int)=c.stripes
  rw [hn]; show ((c.stripes.toNat:Nat):Int)=c.stripes; omega
 ·
  show ((nth (c.bytes++l) (4+3):Nat):Int)=c.slots
  rw [hn]; show ((c.slots.toNat:Nat):Int)=c.slots; omega
def told (f:Frm) (i:Int):Option Cfg:=if (parse f.data).right=true/\f=(parse f.data).block i then some (parse f.data) else none
end Cfg
def sSuperPut:ByteArray:=⟨#[115,117,112,101,114,46,80,117,116]⟩
def sSuperFind:ByteArray:=⟨#[115,117,112,101,114,46,70,105,110,100]⟩
namespace Rck
def fits (r:Rck) (c:Cfg):Bool:=c.right && decide (c.n=(r.l.length:Int)) && decide (c.sectors<=(r.sectors:Int))
def superPut (r:Rck) (c:Cfg) (i:Int):Option Err × Rck :=
 if r.fits c=true then
  if (r.write i 0 (c.block i).put).1=none then (((r.write i 0 (c.block i).put).2.flush i).1.map (.fault sSuperPut i),((r.write i 0 (c.block i).put).2.flush i).2)
  else ((r.write i 0 (c.block i).put).1.map (.fault sSuperPut i),(r.write i 0 (c.block i).put).2)
 else (some (.fault sSuperPut i (.no 1)),r)
def superGet (r:Rck) (i:Int):Option Cfg:=(r.get i 0 1 i 0).bind fun f=>Cfg.told f i
def count:Cfg × Nat->Option Cfg->Cfg × Nat
 | (c,n),none=>(c,n)
 | (c,n),some x=>if x=(if n=0 then x else c) then (if n=0 then x else c,n+1) else (if n=0 then x else c,n)
def counted (r:Rck) (m:Nat):Cfg × Nat:=(List.range m).foldl (fun a (i:Nat)=>count a (r.superGet (i:Int))) (Cfg.zero,0)
theorem counted_succ (r:Rck) (m:Nat):r.counted (m+1)=count (r.counted m) (r.superGet (m:Int)):=by
 unfold counted; rw [List.range_succ,List.foldl_append]; rfl
def superFind (r:Rck):Cfg × Option Err :=
 if (r.counted r.l.length).2=0\/((r.counted r.l.length).2:Int) < (r.counted r.l.length).1.k\/r.fits (r.counted r.l.length).1=false then (Cfg.zero,some (.fault sSuperFind ((r.counted r.l.length).2:Int) (.no 7)))
 else ((r.counted r.l.length).1,none)
end Rck
theorem Cfg.told_block (c:Cfg) (h:c.Good) (i:Int):Cfg.told (c.block i) i=some c:=by
 unfold Cfg.told
 have e:Cfg.parse (c.block i).data=c:=Cfg.parse_app c h _
 rw [e,if_pos ⟨(Cfg.right_iff c).2 h,rfl⟩]
structure Super (R:Rck) (c:Cfg) (m:Nat):Prop where
 live:Live R c.n.toNat m
 good:c.Good
 fit:c.sectors<=(m:Int)
namespace Super
variable {R:Rck} {c:Cfg} {m:Nat}
theorem fits (h:Super R c m):R.fits c=true:=by
 unfold Rck.fits
 have hg:=h.good
 rw [(Cfg.right_iff c).2 hg,h.live.len,h.live.sectors,decide_eq_true h.fit,decide_eq_true (by have:=hg.k0; have:=hg.k1; omega)]; rfl
def disk (D:Dsk) (b:List Nat):Dsk:=(D.write 0 b).flush
end Super
end Go.Proofs.YtgjnnbomnoafcaaGreat
namespace Go.Proofs.YtgjnnbomnoafcaaGreat
set_option linter.unusedVariables false
open Go Go.RowKit
namespace Cfg
def cl (c:Cfg):List Value:=[.int .i64 c.id,.int .i64 c.k,.int .i64 c.n,.int .i64 c.stripes,.int .i64 c.slots]
@[irreducible] def A (c:Cfg):Array Value:=(cl c).toArray
theorem A_def (c:Cfg):A c=(cl c).toArray:=by unfold A; rfl
theorem A_size (c:Cfg):(A c).size=5:=by rw [A_def]; rfl
theorem A0 (c:Cfg):(A c)[0]?=some (.int .i64 c.id):=by rw [A_def]; rfl
theorem A1 (c:Cfg):(A c)[1]?=some (.int .i64 c.k):=by rw [A_def]; rfl
theorem A2 (c:Cfg):(A c)[2]?=some (.int .i64 c.n):=by rw [A_def]; rfl
theorem A3 (c:Cfg):(A c)[3]?=some (.int .i64 c.stripes):=by rw [A_def]; rfl
theorem A4 (c:Cfg):(A c)[4]?=some (.int .i64 c.slots):=by rw [A_def]; rfl
theorem A_one (c:Cfg):∀ v∈(A c).toList,v.oneCell'=true:=by
 intro v hv
 rw [A_def] at hv
 simp only [cl,List.mem_cons,List.not_mem_nil,or_false] at hv
 rcases hv with rfl | rfl | rfl | rfl | rfl<;>rfl
end Cfg
theorem aggCfg:AggType Tryz.prog 26 5:=⟨by kernel_rfl,by kernel_rfl⟩
theorem zero_cfg (w:World):Sem.run Tryz.prog (zeroValue 26) w=.ok (.agg (Cfg.A Cfg.zero)) w:=by kernel_rfl
theorem built_cfg0:Tryz.prog.built 26 []=some (Cfg.A Cfg.zero):=by kernel_rfl
theorem built_cfg (c:Cfg):Tryz.prog.built 26 [(0,.int .i64 c.id),(1,.int .i64 c.k),(2,.int .i64 c.n),(3,.int .i64 c.stripes),(4,.int .i64 c.slots)]=some (Cfg.A c):=by kernel_rfl
theorem Zcb (n lo hi:Int) (w:World) :
  Calls Tryz.prog 52 #[.int .i64 n,.int .i64 lo,.int .i64 hi] w fun e w'=>e=.returned (.bool (Frm.isIn n lo hi))/\w=w':=by
 by_cases h:lo<=n
 ·
  have h1:decide (lo<=n)=true:=by simp [h]
  have HI:Hid (Frm.isIn n lo hi=decide (n<=hi)):=hid (by simp [Frm.isIn,h])
  rw [HI.out]
  go_enter Tryz.func52,Tryz.ntmps52
  go_wp2
  go_ret
  exact ⟨rfl,rfl⟩
 ·
  have h1:decide (lo<=n)=false:=by simp [h]
  have HI:Hid (Frm.isIn n lo hi=false):=hid (by simp [Frm.isIn,h])
  rw [HI.out]
  go_enter Tryz.func52,Tryz.ntmps52
  go_wp2
  go_ret
  exact ⟨rfl,rfl⟩
set_option maxRecDepth 100000 in
set_option maxHeartbeats 2000000 in
theorem sright_c (c:Cfg) (w:World) :
  Calls Tryz.prog 37 #[.agg (Cfg.A c)] w fun e w'=>e=.returned (.bool c.right)/\Ext w w':=by
 have a0:=Cfg.A0 c
 have a1:=Cfg.A1 c
 have a2:=Cfg.A2 c
 have a3:=Cfg.A3 c
 have a4:=Cfg.A4 c
 have HR:Hid (c.right=(Frm.isIn c.id 1 2147483647 && Frm.isIn c.n 1 8 && Frm.isIn c.k 1 c.n && Frm.isIn c.stripes 1 64 && Frm.isIn c.slots 1 4)):=hid rfl
 rw [HR.out]
 clear HR
 obtain ⟨id,k,n,st,sl⟩:=c
 simp only at a0 a1 a2 a3 a4 ⊢
 generalize Cfg.A _=A at *
 rcases h0:Frm.isIn id 1 2147483647 with _ | _
 ·
  rw [Bool.false_and,Bool.false_and,Bool.false_and,Bool.false_and]
  go_enter Tryz.func37,Tryz.ntmps37
  go_wp2_with (go_at_call 52; refine (Zcb _ _ _ _).mono ?_; rintro e w' ⟨rfl,rfl⟩)
  go_ret
  exact ⟨rfl,(Ext.refl w).alloc _⟩
 ·
  rcases h1:Frm.isIn n 1 8 with _ | _
  ·
   rw [Bool.true_and,Bool.false_and,Bool.false_and,Bool.false_and]
   go_enter Tryz.func37,Tryz.ntmps37
   go_wp2_with (go_at_call 52; refine (Zcb _ _ _ _).mono ?_; rintro e w' ⟨rfl,rfl⟩)
   go_ret
   exact ⟨rfl,(Ext.refl w).alloc _⟩
  ·
   rcases h2:Frm.isIn k 1 n with _ | _
   ·
    rw [Bool.true_and,Bool.true_and,Bool.false_and,Bool.false_and]
    go_enter Tryz.func37,Tryz.ntmps37
    go_wp2_with (go_at_call 52; refine (Zcb _ _ _ _).mono ?_; rintro e w' ⟨rfl,rfl⟩)
    go_ret
    exact ⟨rfl,(Ext.refl w).alloc _⟩
   ·
    rcases h3:Frm.isIn st 1 64 with _ | _
    ·
     rw [Bool.true_and,Bool.true_and,Bool.true_and,Bool.false_and]
     go_enter Tryz.func37,Tryz.ntmps37
     go_wp2_with (go_at_call 52; refine (Zcb _ _ _ _).mono ?_; rintro e w' ⟨rfl,rfl⟩)
     go_ret
     exact ⟨rfl,(Ext.refl w).alloc _⟩
    ·
     rcases h4:Frm.isIn sl 1 4 with _ | _
     ·
      rw [Bool.true_and,Bool.true_and,Bool.true_and,Bool.true_and]
      go_enter Tryz.func37,Tryz.ntmps37
      go_wp2_with (go_at_call 52; refine (Zcb _ _ _ _).mono ?_; rintro e w' ⟨rfl,rfl⟩)
      go_ret
      exact ⟨rfl,(Ext.refl w).alloc _⟩
     ·
      rw [Bool.true_and,Bool.true_and,Bool.true_and,Bool.true_and]
      go_enter Tryz.func37,Tryz.ntmps37
      go_wp2_with (go_at_call 52; refine (Zcb _ _ _ _).mono ?_; rintro e w' ⟨rfl,rfl⟩)
      go_ret
      exact ⟨rfl,(Ext.refl w).alloc _⟩
theorem sectors_bd (c:Cfg) (h:c.Good):0<=c.slots*c.k/\c.slots*c.k<=32:=by
 obtain ⟨h1,h2,h3,h4,h5,h6,h7,h8,h9⟩:=h
 have e1:0<=c.slots*c.k:=Int.mul_nonneg (by omega) (by omega)
 have e2:c.slots*c.k<=4*c.k:=Int.mul_le_mul_of_nonneg_right h9 (by omega)
 omega
set_option maxRecDepth 100000 in
theorem ssectors_c (c:Cfg) (h:c.Good) (w:World) :
  Calls Tryz.prog 39 #[.agg (Cfg.A c)] w fun e w'=>e=.returned (.int .i64 c.sectors)/\Ext w w':=by
 have a1:=Cfg.A1 c
 have a3:=Cfg.A3 c
 have a4:=Cfg.A4 c
 obtain ⟨b0,b1⟩:=sectors_bd c h
 have b2:=h.st0
 have b3:=h.st1
 have HR:Hid (c.sectors=1+c.slots*c.k+c.stripes):=hid rfl
 rw [HR.out]
 clear HR h
 obtain ⟨id,k,n,st,sl⟩:=c
 simp only at a1 a3 a4 b0 b1 b2 b3 ⊢
 generalize Cfg.A _=A at *
 obtain ⟨p,hp⟩:∃ p,sl*k=p:=⟨_,rfl⟩
 rw [hp] at b0 b1 ⊢
 have hw:wrap64 (sl*k)=p:=by rw [hp]; unfold wrap64; omega
 have w2:wrap64 (1+p)=1+p:=by unfold wrap64; omega
 have w3:wrap64 (1+p+st)=1+p+st:=by unfold wrap64; omega
 clear hp b0 b1 b2 b3
 go_enter Tryz.func39,Tryz.ntmps39
 go_wp2
 go_ret
 exact ⟨ret_int (by simp only [hw,w2,w3]),(Ext.refl w).alloc _⟩
def Cfg.eqB (a b:Cfg):Bool:=a.id == b.id && (a.k == b.k && (a.n == b.n && (a.stripes == b.stripes && a.slots == b.slots)))
theorem Cfg.eqB_iff (a b:Cfg):a.eqB b=true↔a=b:=by
 rw [Cfg.ext_iff']; simp [Cfg.eqB]
theorem Cfg.eqB_self (a:Cfg):a.eqB a=true:=(Cfg.eqB_iff a a).2 rfl
theorem cfg_stood:Tryz.prog.stoodInHeld 26=false:=by kernel_rfl
theorem cfg_list:(Tryz.prog.fieldsOf 26).toList=[fld "Id" 3 0 0,fld "K" 3 1 8,fld "N" 3 2 16,fld "Stripes" 3 3 24,fld "Slots" 3 4 32]:=by unfold Program.fieldsOf; rw [Tryz.underlying26]; rfl
theorem cfg_fields:Tryz.prog.underlying 26=some (.struct (Tryz.prog.fieldsOf 26)):=by unfold Program.fieldsOf; rw [Tryz.underlying26]
set_option maxHeartbeats 400000 in
theorem cfg_eqIn (d:Nat) (f g:Cfg) (w:World):(Op.equalIn (d+2) 26 (.agg (Cfg.A f)) (.agg (Cfg.A g))).run Tryz.prog w=.ok (f.eqB g) w:=by
 rw [run_equalIn_struct w (d+1) 26 (Cfg.A f) (Cfg.A g) cfg_fields cfg_stood]
 rw [cfg_list]
 have q0:=run_part_plain (P:=Tryz.prog) w plainI (Cfg.A0 f)
 have q1:=run_part_plain (P:=Tryz.prog) w plainI (Cfg.A1 f)
 have q2:=run_part_plain (P:=Tryz.prog) w plainI (Cfg.A2 f)
 have q3:=run_part_plain (P:=Tryz.prog) w plainI (Cfg.A3 f)
 have q4:=run_part_plain (P:=Tryz.prog) w plainI (Cfg.A4 f)
 have r0:=run_part_plain (P:=Tryz.prog) w plainI (Cfg.A0 g)
 have r1:=run_part_plain (P:=Tryz.prog) w plainI (Cfg.A1 g)
 have r2:=run_part_plain (P:=Tryz.prog) w plainI (Cfg.A2 g)
 have r3:=run_part_plain (P:=Tryz.prog) w plainI (Cfg.A3 g)
 have r4:=run_part_plain (P:=Tryz.prog) w plainI (Cfg.A4 g)
 have e:∀ a b:Int,(Op.equalIn (d+1) 3 (.int .i64 a) (.int .i64 b)).run Tryz.prog w=.ok (a == b) w:=fun a b=>run_equalIn_int (P:=Tryz.prog) w d 3 .i64 .i64 a b Tryz.underlying3
 refine (Za2 (by decide) q0 r0 (e _ _)).trans ?_
 rcases h0:f.id == g.id with _ | _
 ·
  have hb:f.eqB g=false:=by unfold Cfg.eqB; simp only [h0]; rfl
  rw [hb]; rfl
 rw [if_pos rfl]
 refine (Za2 (by decide) q1 r1 (e _ _)).trans ?_
 rcases h1:f.k == g.k with _ | _
 ·
  have hb:f.eqB g=false:=by unfold Cfg.eqB; simp only [h0,h1]; rfl
  rw [hb]; rfl
 rw [if_pos rfl]
 refine (Za2 (by decide) q2 r2 (e _ _)).trans ?_
 rcases h2:f.n == g.n with _ | _
 ·
  have hb:f.eqB g=false:=by unfold Cfg.eqB; simp only [h0,h1,h2]; rfl
  rw [hb]; rfl
 rw [if_pos rfl]
 refine (Za2 (by decide) q3 r3 (e _ _)).trans ?_
 rcases h3:f.stripes == g.stripes with _ | _
 ·
  have hb:f.eqB g=false:=by unfold Cfg.eqB; simp only [h0,h1,h2,h3]; rfl
  rw [hb]; rfl
 rw [if_pos rfl]
 refine (Za2 (by decide) q4 r4 (e _ _)).trans ?_
 have hb:f.eqB g=(f.slots == g.slots):=by unfold Cfg.eqB; simp only [h0,h1,h2,h3]; rfl
 rw [hb]
 cases f.slots == g.slots<;>rfl
theorem cfg_eqAt (D:Nat) (hD:∃ d,D=d+2) (f g:Cfg) (w:World):(Op.equalIn D 26 (.agg (Cfg.A f)) (.agg (Cfg.A g))).run Tryz.prog w=.ok (f.eqB g) w:=by
 obtain ⟨d,rfl⟩:=hD
 exact cfg_eqIn d f g w
theorem cfg_eql (f g:Cfg) (w:World):(binOp .eql 26 (.agg (Cfg.A f)) (.agg (Cfg.A g))).run Tryz.prog w=.ok (.bool (f.eqB g)) w:=by
 rw [run_eql_struct]
 rw [cfg_eqAt 10000 ⟨9998,by omega⟩ f g w]; rfl
theorem cfg_guardB:Tryz.prog.eqGuardType Tryz.prog.depth 26=false:=by kernel_rfl
theorem cfg_guard (op:BinOp) (x y:Operand) (xs ys:Array Value) (w:World):(eqGuard op 26 x y (.agg xs) (.agg ys)).run Tryz.prog w=.ok () w:=run_eqGuard_agg w op 26 x y xs ys cfg_guardB
theorem Zat (c:Cfg):AggType Tryz.prog 26 (Cfg.A c).size:=by rw [Cfg.A_size]; exact aggCfg
set_option maxRecDepth 100000 in
set_option maxHeartbeats 1200000 in
theorem sfits_c {S:Nat->Prop} {w:World} {r:Nat} {R:Rck} (h:RackAt S w r R) (c:Cfg) :
  Calls Tryz.prog 27 #[.pointer (some ⟨r,0,none⟩),.agg (Cfg.A c)] w fun e w'=>e=.returned (.bool (R.fits c))/\Ext w w':=by
 obtain ⟨W0,hW0⟩:∃ W,w.alloc (.cells (Cfg.A c) 26)=W:=⟨_,rfl⟩
 have X0:Ext w W0:=hW0▸(Ext.refl w).alloc _
 have xd:Ext W0 W0.drew:=(Ext.refl W0).drew
 have hc:W0.heap[w.heap.size]?=some (.cells (Cfg.A c) 26 (0,0)):=hW0▸heap_alloc_new _ _
 have lc:Hid (∀ x:SW Ext W0.drew,∀ j v,(Cfg.A c).toList[j]?=some v->x.w.cell? ((⟨w.heap.size,0,none⟩:Addr).add j)=some v):=hid fun x=>Zai ((Ext.trans xd x.ext).at hc)
 have c2:∀ x:SW Ext W0.drew,x.w.cell? ⟨w.heap.size,2,none⟩=some (.int .i64 c.n):=fun x=>(Zaf ((Ext.trans xd x.ext).at hc)).trans (Cfg.A2 c)
 have rc:Hid (∀ x:SW Ext W0.drew,Calls Tryz.prog 37 #[.agg (Cfg.A c)] x.w fun e w''=>e=.returned (.bool c.right)/\Ext x.w w''):=hid fun x=>sright_c c x.w
 have nc:Hid (∀ x:SW Ext W0.drew,Calls Tryz.prog 38 #[.pointer (some ⟨r,0,none⟩)] x.w fun e w''=>e=.returned (.int .i64 R.l.length)/\Ext x.w w''):=hid fun x =>
  (at_n (h.ext (Ext.trans X0 (Ext.trans xd x.ext)))).mono fun e w'' he=>⟨he.1,he.2▸Ext.refl _⟩
 have sc:Hid (∀ x:SW Ext W0.drew,Calls Tryz.prog 40 #[.pointer (some ⟨r,0,none⟩)] x.w fun e w''=>e=.returned (.int .i64 R.sectors)/\Ext x.w w''):=hid fun x =>
  (at_sectors (h.ext (Ext.trans X0 (Ext.trans xd x.ext)))).mono fun e w'' he=>⟨he.1,he.2▸Ext.refl _⟩
 have HX0:=hid X0
 have HF:Hid (R.fits c=(c.right && decide (c.n=(R.l.length:Int)) && decide (c.sectors<=(R.sectors:Int)))):=hid rfl
 have HAG:=hid (Zat c)
 clear h hc X0
 go_enter Tryz.func27,Tryz.ntmps27
 go_wp2_with fail
 refine Zaq (S:=Ext) 16 (.fin [0,1,2,3,4,5,6,7,8,9,10,11,12,13,14,15]) (by kernel_rfl) (by kernel_rfl) (fun _ _ d _ _ h=>by cases d<;>exact h) ?_
 rw [wpS]
 simp only [opsAt,opA,opB,opC,opD,opE,opF,opG]
 refine Zam 26 _ rfl ⟨w.heap.size,0,none⟩ rfl (Cfg.A c) rfl HAG.out lc.out ?_
 --M1
 rcases hr:c.right with _ | _
 ·
  rw [hr] at rc
  have hf:R.fits c=false:=by rw [HF.out,hr]; rfl
  have HFI:=hid hf; clear hf
  (refine Zab (fun K hK=>?_); go_simp; (apply Exists.intro; refine ⟨fun x=>?_,hK _ ?_⟩; (exact rc.out x); clear hK K))
  (refine Zab (fun K hK=>?_); go_simp; refine hK _ ?_; clear hK K)
  iterate 5 (refine wpSQ_skip rfl ?_)
  iterate 2 ((refine Zab (fun K hK=>?_); go_simp; refine hK _ ?_; clear hK K))
  iterate 5 (refine wpSQ_skip rfl ?_)
  (refine Zab (fun K hK=>?_); go_simp; refine hK _ ?_; clear hK K)
  refine Zae ?_
  intro W hW
  go_wp2
  go_ret
  exact ⟨Zbo HFI.out.symm,Ext.trans HX0.out (Ext.trans xd hW)⟩
 ·
  rw [hr] at rc
  have hg:=(Cfg.right_iff c).1 hr
  rcases hn:c.n == (R.l.length:Int) with _ | _
  ·
   have hf:R.fits c=false:=by rw [HF.out,hr,decide_eq_false (by simpa using hn)]; rfl
   have HFI:=hid hf; clear hf
   clear hr hg
   (refine Zab (fun K hK=>?_); go_simp; (apply Exists.intro; refine ⟨fun x=>?_,hK _ ?_⟩; (exact rc.out x); clear hK K))
   iterate 4 ((refine Zab (fun K hK=>?_); go_simp; refine hK _ ?_; clear hK K))
   (refine Zab (fun K hK=>?_); go_simp; (apply Exists.intro; refine ⟨fun x=>?_,hK _ ?_⟩; (exact nc.out x); clear hK K))
   iterate 3 ((refine Zab (fun K hK=>?_); go_simp; refine hK _ ?_; clear hK K))
   iterate 5 (refine wpSQ_skip rfl ?_)
   (refine Zab (fun K hK=>?_); go_simp; refine hK _ ?_; clear hK K)
   refine Zae ?_
   intro W hW
   go_wp2
   go_ret
   exact ⟨Zbo HFI.out.symm,Ext.trans HX0.out (Ext.trans xd hW)⟩
  ·
   have hf:R.fits c=decide (c.sectors<=(R.sectors:Int)):=by rw [HF.out,hr,decide_eq_true (by simpa using hn)]; rfl
   have HFI:=hid hf; clear hf
   have ss:Hid (∀ x:SW Ext W0.drew,Calls Tryz.prog 39 #[.agg (Cfg.A c)] x.w fun e w''=>e=.returned (.int .i64 c.sectors)/\Ext x.w w''):=hid fun x=>ssectors_c c hg x.w
   clear hr hg
   (refine Zab (fun K hK=>?_); go_simp; (apply Exists.intro; refine ⟨fun x=>?_,hK _ ?_⟩; (exact rc.out x); clear hK K))
   iterate 4 ((refine Zab (fun K hK=>?_); go_simp; refine hK _ ?_; clear hK K))
   (refine Zab (fun K hK=>?_); go_simp; (apply Exists.intro; refine ⟨fun x=>?_,hK _ ?_⟩; (exact nc.out x); clear hK K))
   iterate 3 ((refine Zab (fun K hK=>?_); go_simp; refine hK _ ?_; clear hK K))
   refine Zam 26 _ rfl ⟨w.heap.size,0,none⟩ rfl (Cfg.A c) rfl HAG.out lc.out ?_
   (refine Zab (fun K hK=>?_); go_simp; (apply Exists.intro; refine ⟨fun x=>?_,hK _ ?_⟩; (exact ss.out x); clear hK K))
   (refine Zab (fun K hK=>?_); go_simp; refine hK _ ?_; clear hK K)
   (refine Zab (fun K hK=>?_); go_simp; (apply Exists.intro; refine ⟨fun x=>?_,hK _ ?_⟩; (exact sc.out x); clear hK K))
   iterate 2 ((refine Zab (fun K hK=>?_); go_simp; refine hK _ ?_; clear hK K))
   refine Zae ?_
   intro W hW
   go_wp2
   go_ret
   exact ⟨Zbo HFI.out.symm,Ext.trans HX0.out (Ext.trans xd hW)⟩
end Go.Proofs.YtgjnnbomnoafcaaGreat
