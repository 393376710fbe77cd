/- Texts of one proof, joined: CrcPure, FramePure, Crc, FrameA, FrameB, FramePut, BEqual, FrameGet, KeepF, BuildEq, KeepB, FrmEq, BSame. -/
import Derived.RowKit
import Derived.WalkKit
import Derived.Test.YtgjnnbomnoafcaaGreatDoorProg
import Derived.Test.YtgjnnbomnoafcaaGreatDoorVA
import Derived.BigQuiet
import Derived.Deep.QuietTactic
import Derived.WalkLawsBesides
import Derived.WalkSpells
import Derived.Laws.BytesArg
import Derived.Lib.Bytes
import Derived.Laws.ResultCell
import Derived.Laws.Rows
import Derived.ProofKit
import Derived.ChangeKeysEq
import Derived.Laws.StructEq
set_option linter.unusedVariables false
set_option linter.unusedSimpArgs false
namespace Go.Proofs.YtgjnnbomnoafcaaGreatDoor.Crc
set_option linter.unusedVariables false
def poly:Nat:=2197175160
def cstep (c:Nat):Nat:=if c % 2=1 then (c / 2) ^^^ poly else c / 2
def cstn:Nat->Nat->Nat
 | 0,c=>c
 | n+1,c=>cstep (cstn n c)
def T (i:Nat):Nat:=cstn 8 i
def upd (c x:Nat):Nat:=T ((c % 256) ^^^ x) ^^^ (c / 256)
def onL (c:Nat) (l:List Nat):Nat:=l.foldl upd c
def neg (c:Nat):Nat:=4294967295 - c
def sum (l:List Nat):Nat:=neg (onL 4294967295 l)
theorem xor_half (a b:Nat):(a ^^^ b) / 2=a / 2 ^^^ b / 2:=by
 have:=Nat.shiftRight_xor_distrib (a:=a) (b:=b) (i:=1)
 simpa [Nat.shiftRight_eq_div_pow] using this
theorem xor_odd (a b:Nat):((a ^^^ b) % 2=1)↔¬((a % 2=1)↔(b % 2=1)):=Nat.xor_mod_two_eq_one
theorem cstep_xor (a b:Nat):cstep (a ^^^ b)=cstep a ^^^ cstep b:=by
 unfold cstep
 rw [xor_half]
 by_cases ha:a % 2=1<;>by_cases hb:b % 2=1
 ·
  rw [if_neg (by rw [xor_odd]; simp [ha,hb]),if_pos ha,if_pos hb,Nat.xor_assoc,Nat.xor_comm poly,Nat.xor_assoc (b / 2),Nat.xor_self,Nat.xor_zero]
 ·
  rw [if_pos (by rw [xor_odd]; simp [ha,hb]),if_pos ha,if_neg hb,Nat.xor_assoc,Nat.xor_assoc,Nat.xor_comm poly]
 ·
  rw [if_pos (by rw [xor_odd]; simp [ha,hb]),if_neg ha,if_pos hb,Nat.xor_assoc]
 ·
  rw [if_neg (by rw [xor_odd]; simp [ha,hb]),if_neg ha,if_neg hb]
theorem cstn_xor (n a b:Nat):cstn n (a ^^^ b)=cstn n a ^^^ cstn n b:=by
 induction n with
 | zero=>rfl
 | succ n ih=>show cstep _=cstep _ ^^^ cstep _; rw [ih,cstep_xor]
theorem Zbj (y:Nat):cstep (2*y)=y:=by unfold cstep; rw [if_neg (by omega)]; omega
theorem Zbh (n c:Nat):cstn (n+1) c=cstn n (cstep c):=by
 induction n with
 | zero=>rfl
 | succ n ih=>show cstep (cstn (n+1) c)=cstep (cstn n (cstep c)); rw [ih]
theorem Zbn (y:Nat):cstn 8 (256*y)=y:=by
 rw [Zbh,show 256*y=2*(128*y) by omega,Zbj,Zbh,show 128*y=2*(64*y) by omega,Zbj,Zbh,show 64*y=2*(32*y) by omega,Zbj,
  Zbh,show 32*y=2*(16*y) by omega,Zbj,Zbh,show 16*y=2*(8*y) by omega,Zbj,Zbh,show 8*y=2*(4*y) by omega,Zbj,
  Zbh,show 4*y=2*(2*y) by omega,Zbj,Zbh,Zbj]; rfl
theorem cstep_bd (c:Nat) (h:c < 4294967296):cstep c < 4294967296:=by
 unfold cstep; split
 ·
  exact Nat.xor_lt_two_pow (n:=32) (by omega) (by decide)
 ·
  omega
theorem cstn_bd (n c:Nat) (h:c < 4294967296):cstn n c < 4294967296:=by
 induction n with
 | zero=>exact h
 | succ n ih=>exact cstep_bd _ ih
theorem T_bd (i:Nat) (h:i < 256):T i < 4294967296:=cstn_bd 8 i (by omega)
theorem xor8 (a b:Nat) (ha:a < 256) (hb:b < 256):a ^^^ b < 256:=Nat.xor_lt_two_pow (n:=8) ha hb
theorem upd_bd (c x:Nat) (hc:c < 4294967296) (hx:x < 256):upd c x < 4294967296:=by
 unfold upd
 exact Nat.xor_lt_two_pow (n:=32) (T_bd _ (xor8 _ _ (Nat.mod_lt _ (by omega)) hx)) (by omega)
theorem onL_bd (c:Nat) (l:List Nat) (hc:c < 4294967296) (hl:∀ x∈l,x < 256):onL c l < 4294967296:=by
 unfold onL
 induction l generalizing c with
 | nil=>exact hc
 | cons x l ih=>exact ih _ (upd_bd c x hc (hl x (by simp))) (fun y hy=>hl y (by simp [hy]))
theorem sum_bd (l:List Nat):sum l < 4294967296:=by unfold sum neg; omega
theorem split8 (c x:Nat) (hx:x < 256):c ^^^ x=((c % 256) ^^^ x) ^^^ (256*(c / 256)):=by
 have h1:c=(c % 256) ^^^ (256*(c / 256)):=by
  have h:=Nat.two_pow_add_eq_or_of_lt (i:=8) (b:=c % 256) (Nat.mod_lt _ (by omega)) (c / 256)
  apply Nat.eq_of_testBit_eq; intro i
  rw [Nat.testBit_xor]
  have e1:(256*(c / 256)).testBit i=(decide (8<=i) && c.testBit i):=by
   rw [show (256:Nat)=2 ^ 8 by rfl,Nat.testBit_two_pow_mul]
   by_cases h8:8<=i
   ·
    rw [Nat.testBit_div_two_pow]; simp [h8,Nat.sub_add_cancel h8]
   ·
    simp [h8]
  have e2:(c % 256).testBit i=(decide (i < 8) && c.testBit i):=by
   rw [show (256:Nat)=2 ^ 8 by rfl,Nat.testBit_mod_two_pow]
  rw [e1,e2]
  by_cases h8:8<=i
  ·
   simp [h8,Nat.not_lt.2 h8]
  ·
   simp [h8,Nat.lt_of_not_le h8]
 conv=>lhs; rw [h1]
 rw [Nat.xor_assoc,Nat.xor_comm (256*(c / 256)) x,<- Nat.xor_assoc]
theorem Zcj (c x:Nat) (hx:x < 256):cstn 8 (c ^^^ x)=upd c x:=by
 rw [split8 c x hx,cstn_xor,Zbn]; rfl
end Go.Proofs.YtgjnnbomnoafcaaGreatDoor.Crc
namespace Go.Proofs.YtgjnnbomnoafcaaGreatDoor
set_option linter.unusedVariables false
open Go Go.RowKit
structure Frm where
 kind:Int
 slot:Int
 stripe:Int
 gen:Int
 data:List Nat
namespace Frm
def zero:Frm:=⟨0,0,0,0,List.replicate 108 0⟩
structure Ok (f:Frm):Prop where
 len:f.data.length=108
 byte:∀ x∈f.data,x < 256
def isIn (n lo hi:Int):Bool:=decide (lo<=n) && decide (n<=hi)
def right (f:Frm):Bool:=isIn f.kind 1 3 && isIn f.slot 0 7 && isIn f.stripe 0 63 && isIn f.gen 0 1152921504606846976
def low (n v:Nat):List Nat:=(List.range n).map fun i=>v / 2 ^ (8*i) % 256
def num:List Nat->Nat
 | []=>0
 | x::l=>x+256*num l
def numI (l:List Nat):Int:=wrap64 (num l)
def body (f:Frm):List Nat:=[83,84,f.kind.toNat,f.slot.toNat]++(low 4 f.stripe.toNat++(low 8 f.gen.toNat++f.data))
def bytes (f:Frm):List Nat:=body f++low 4 (Crc.sum (body f))
def put (f:Frm):List Nat:=if f.right then f.bytes else []
def parse (l:List Nat):Frm:=⟨(l.getD 2 0:Nat),(l.getD 3 0:Nat),numI ((l.drop 4).take 4),numI ((l.drop 8).take 8),(l.drop 16).take 108⟩
def get (l:List Nat):Option Frm:=if l.length=128/\put (parse l)=l then some (parse l) else none
theorem low_len (n v:Nat):(low n v).length=n:=by simp [low]
theorem low_byte (n v:Nat):∀ x∈low n v,x < 256:=by
 intro x hx
 obtain ⟨i,_,rfl⟩:=List.mem_map.1 hx
 exact Nat.mod_lt _ (by omega)
theorem low_succ (n v:Nat):low (n+1) v=v % 256::low n (v / 256):=by
 unfold low
 rw [List.range_succ_eq_map,List.map_cons,List.map_map]
 congr 1
 ·
  simp
 ·
  apply List.map_congr_left
  intro i _
  show v / 2 ^ (8*(i+1)) % 256=v / 256 / 2 ^ (8*i) % 256
  rw [Nat.div_div_eq_div_mul,show (2:Nat) ^ (8*(i+1))=256*2 ^ (8*i) by rw [show 8*(i+1)=8+8*i by omega,Nat.pow_add]]
theorem num_low (n v:Nat):num (low n v)=v % 256 ^ n:=by
 induction n generalizing v with
 | zero=>simp [low,num,Nat.mod_one]
 | succ n ih =>
  rw [low_succ]
  show v % 256+256*num (low n (v / 256))=_
  rw [ih,Nat.pow_succ,Nat.mul_comm (256 ^ n) 256,Nat.mod_mul]
theorem num_snoc (l:List Nat) (x:Nat):num (l++[x])=num l+x*256 ^ l.length:=by
 induction l with
 | nil=>simp [num]
 | cons y l ih =>
  show y+256*num (l++[x])=y+256*num l+x*256 ^ (l.length+1)
  rw [ih,Nat.pow_succ,Nat.mul_add,Nat.add_assoc,<- Nat.mul_assoc x,Nat.mul_comm (x*256 ^ l.length) 256]
theorem num_bd (l:List Nat) (h:∀ x∈l,x < 256):num l < 256 ^ l.length:=by
 induction l with
 | nil=>simp [num]
 | cons x l ih =>
  have h1:=h x (by simp)
  have h2:=ih (fun y hy=>h y (by simp [hy]))
  show x+256*num l < 256 ^ (l.length+1)
  rw [Nat.pow_succ]; omega
theorem low_num (l:List Nat) (h:∀ x∈l,x < 256):low l.length (num l)=l:=by
 induction l with
 | nil=>rfl
 | cons x l ih =>
  have h1:=h x (by simp)
  rw [List.length_cons,low_succ]
  show (x+256*num l) % 256::low l.length ((x+256*num l) / 256)=x::l
  rw [show (x+256*num l) % 256=x by omega,show (x+256*num l) / 256=num l by omega,ih (fun y hy=>h y (by simp [hy]))]
theorem body_len (f:Frm) (h:f.Ok):(body f).length=124:=by
 simp [body,low_len,h.len]
theorem bytes_len (f:Frm) (h:f.Ok):(bytes f).length=128:=by
 rw [bytes,List.length_append,body_len f h,low_len]
theorem right_spec {f:Frm} (h:f.right=true):1<=f.kind/\f.kind<=3/\0<=f.slot/\f.slot<=7/\0<=f.stripe/\f.stripe<=63/\0<=f.gen/\f.gen<=1152921504606846976:=by
 simp only [right,isIn,Bool.and_eq_true,decide_eq_true_eq] at h
 omega
theorem body_byte (f:Frm) (h:f.Ok) (hr:f.right=true):∀ x∈body f,x < 256:=by
 have:=right_spec hr
 intro x hx
 simp only [body,List.mem_append,List.mem_cons,List.not_mem_nil,or_false] at hx
 rcases hx with (rfl | rfl | rfl | rfl) | hx | hx | hx
 ·
  omega
 ·
  omega
 ·
  omega
 ·
  omega
 ·
  exact low_byte _ _ _ hx
 ·
  exact low_byte _ _ _ hx
 ·
  exact h.byte _ hx
theorem bytes_byte (f:Frm) (h:f.Ok) (hr:f.right=true):∀ x∈bytes f,x < 256:=by
 intro x hx
 rcases List.mem_append.1 hx with hx | hx
 ·
  exact body_byte f h hr x hx
 ·
  exact low_byte _ _ _ hx
theorem parse_bytes (f:Frm) (h:f.Ok) (hr:f.right=true):parse (bytes f)=f:=by
 have hs:=right_spec hr
 obtain ⟨k,s,st,g,d⟩:=f
 simp only at hs
 have hlen:=h.len
 simp only at hlen
 have e4:(low 4 st.toNat).length=4:=low_len _ _
 have e8:(low 8 g.toNat).length=8:=low_len _ _
 have q1:numI (low 4 st.toNat)=st:=by
  unfold numI
  rw [num_low,Nat.mod_eq_of_lt (by omega)]
  unfold wrap64; omega
 have q2:numI (low 8 g.toNat)=g:=by
  unfold numI
  rw [num_low,Nat.mod_eq_of_lt (by omega)]
  unfold wrap64; omega
 unfold parse bytes body
 simp only [List.cons_append,List.nil_append,List.append_assoc]
 have r1:((k.toNat:Nat):Int)=k:=by omega
 have r2:((s.toNat:Nat):Int)=s:=by omega
 generalize Crc.sum _=c
 have r3:numI ((low 4 st.toNat++(low 8 g.toNat++(d++low 4 c))).take 4)=st:=by
  rw [List.take_append_of_le_length (by omega),List.take_of_length_le (by omega),q1]
 have r4:numI (((low 4 st.toNat++(low 8 g.toNat++(d++low 4 c))).drop 4).take 8)=g:=by
  rw [List.drop_append_of_le_length (by omega),List.drop_of_length_le (by omega),List.nil_append,List.take_append_of_le_length (by omega),List.take_of_length_le (by omega),q2]
 have r5:((low 4 st.toNat++(low 8 g.toNat++(d++low 4 c))).drop 12).take 108=d:=by
  rw [<- List.append_assoc,List.drop_append_of_le_length (by simp [e4,e8]),List.drop_of_length_le (by simp [e4,e8]),List.nil_append,List.take_append_of_le_length (by omega),List.take_of_length_le (by omega)]
 show Frm.mk ((k.toNat:Nat):Int) ((s.toNat:Nat):Int) (numI ((low 4 st.toNat++(low 8 g.toNat++(d++low 4 c))).take 4)) (numI (((low 4 st.toNat++(low 8 g.toNat++(d++low 4 c))).drop 4).take 8)) (((low 4 st.toNat++(low 8 g.toNat++(d++low 4 c))).drop 12).take 108)=_
 rw [r1,r2,r3,r4,r5]
theorem get_bytes (f:Frm) (h:f.Ok) (hr:f.right=true):get (bytes f)=some f:=by
 unfold get
 rw [parse_bytes f h hr,if_pos ⟨bytes_len f h,by unfold put; rw [if_pos hr]⟩]
theorem get_some {l:List Nat} {f:Frm} (h:get l=some f):f.right=true/\l=bytes f/\l.length=128:=by
 unfold get at h
 split at h
 ·
  rename_i hc
  cases h
  obtain ⟨h1,h2⟩:=hc
  by_cases hr:(parse l).right=true
  ·
   exact ⟨hr,by rw [put,if_pos hr] at h2; exact h2.symm,h1⟩
  ·
   rw [put,if_neg hr] at h2; rw [<- h2] at h1; cases h1
 ·
  cases h
end Frm
open Go.RowKit Go
namespace Crc
@[irreducible] def tb (k:Nat):Array Value:=(Array.range 256).map fun i=>.int .u32 (if i < k then (T i:Int) else 0)
@[irreducible] def zc:Array Value:=(List.replicate 256 (Value.int .u32 0)).toArray
theorem zero (w:World):Sem.run Tryz.prog (zeroValue 261) w=.ok (.agg zc) w:=by kernel_rfl
theorem tb_get (k i:Nat) (h:i < 256):(tb k)[i]?=some (.int .u32 (if i < k then (T i:Int) else 0)):=by simp [tb,h]
theorem tb_none (k i:Nat) (h:¬i < 256):(tb k)[i]?=none:=by simp [tb]; omega
theorem tb_size (k:Nat):(tb k).size=256:=by simp [tb]
theorem zc_tb:zc=tb 0:=by
 apply Array.ext_getElem?
 intro i
 by_cases h:i < 256
 ·
  rw [tb_get 0 i h]; simp only [zc,List.getElem?_toArray,List.getElem?_replicate]; rw [if_pos h,if_neg (by omega)]
 ·
  rw [tb_none 0 i h]; simp only [zc,List.getElem?_toArray,List.getElem?_replicate]; rw [if_neg h]
theorem tb_step (k:Nat) (hk:k < 256):(tb k).setIfInBounds k (.int .u32 (T k))=tb (k+1):=by
 apply Array.ext_getElem?
 intro i
 rw [Array.getElem?_setIfInBounds,tb_size]
 by_cases h:i < 256
 ·
  rw [tb_get k i h,tb_get (k+1) i h]
  by_cases e:k=i
  ·
   subst e; rw [if_pos rfl,if_pos hk,if_pos (by omega)]
  ·
   rw [if_neg e]
   by_cases h2:i < k
   ·
    rw [if_pos h2,if_pos (by omega)]
   ·
    rw [if_neg h2,if_neg (by omega)]
 ·
  rw [tb_none k i h,tb_none (k+1) i h,if_neg (by omega)]
def TableAt (w:World) (b:Nat):Prop:=w.heap[b]?=some (.cells (tb 256) 261 (0,0))
def MakePost (w:World) (e:Ending) (w':World):Prop:=∃ b,e=.returned (.pointer (some ⟨b,0,none⟩))/\w.heap.size<=b/\TableAt w' b/\Ext w w'
theorem TableAt.cell {w:World} {b:Nat} (h:TableAt w b) (i:Nat) (hi:i < 256):w.cell? ⟨b,i,none⟩=some (.int .u32 (T i)):=by
 rw [Zaf h,tb_get 256 i hi,if_pos hi]
end Crc
theorem u32_and1 (c:Nat) (h:c < 4294967296):bits .and .u32 (c:Int) 1=((c % 2:Nat):Int):=by
 have:=u32_and_nat c 1 h (by omega)
 rw [show (1:Int)=((1:Nat):Int) by rfl,this,Nat.and_one_is_mod]
set_option maxRecDepth 100000 in
set_option maxHeartbeats 1000000 in
theorem crcMake_c (w:World):Calls Tryz.prog 104 #[] w (Crc.MakePost w):=by
 have hb:=Crc.zero
 go_enter Tryz.func104,Tryz.ntmps104
 go_wp2
 go_loopw [7] (fun i wr=>∃ k:Nat,k<=256/\i=.int .i64 k/\wr=w.alloc (.cells (Crc.tb k) 261)) (fun i _=>256 - (intOf i).toNat)
 case atStart=>exact ⟨0,by omega,rfl,by rw [Crc.zc_tb]⟩
 case round =>
  obtain ⟨k,hk,rfl,rfl⟩:=hrel
  clear hb
  by_cases hlt:k < 256
  ·
   have hs:=hid (Crc.tb_step k hlt)
   have t1:=Crc.tb_get k k hlt
   rw [if_neg (by omega)] at t1
   obtain ⟨Z,hZ⟩:∃ Z,Crc.tb k=Z:=⟨_,rfl⟩
   rw [hZ] at hs t1
   rw [hZ]
   clear hZ
   go_wp2
   go_loop [3,12] (fun c i=>∃ j:Nat,j<=8/\i=.int .i64 j/\c=.int .u32 (Crc.cstn j k:Nat)) (fun _ i=>8 - (intOf i).toNat)
   case atStart=>exact ⟨0,by omega,rfl,rfl⟩
   case round =>
    obtain ⟨j,hj,rfl,rfl⟩:=hrel
    by_cases hj8:j < 8
    ·
     have hcb:=Crc.cstn_bd j k (by omega)
     have hS:Hid (Crc.cstn (j+1) k=Crc.cstep (Crc.cstn j k)):=hid rfl
     obtain ⟨c,hc⟩:∃ c,Crc.cstn j k=c:=⟨_,rfl⟩
     rw [hc] at hcb hS
     rw [hc]
     have hand:=u32_and1 c hcb
     rcases Nat.mod_two_eq_zero_or_one c with h2 | h2
     ·
      rw [h2] at hand
      have hand:bits .and .u32 (c:Int) 1=0:=hand
      have HC:Hid (Crc.cstep c=c / 2):=hid (by unfold Crc.cstep; rw [if_neg (by omega)])
      clear h2 hc
      go_wp2
      go_round
      case rel=>exact ⟨j+1,by omega,by go_num,by rw [hS.out,HC.out]; go_num⟩
      case measure=>simp [intOf]; omega
     ·
      rw [h2] at hand
      have hand:bits .and .u32 (c:Int) 1=1:=hand
      have HC:Hid (Crc.cstep c=(c / 2) ^^^ 2197175160):=hid (by unfold Crc.cstep Crc.poly; rw [if_pos h2])
      have hxr:Hid (bits .xor .u32 ((c / 2:Nat):Int) ((2197175160:Nat):Int)=(((c / 2) ^^^ 2197175160:Nat):Int)):=hid (u32_xor_nat (c / 2) 2197175160 (by omega) (by omega))
      clear h2 hc
      go_wp2
      go_round
      case rel=>
       refine ⟨j+1,by omega,by go_num,?_⟩
       rw [hS.out,HC.out,show ((c:Int) / 2)=((c / 2:Nat):Int) by omega]; exact congrArg _ hxr.out
      case measure=>simp [intOf]; omega
    ·
     obtain rfl:8=j:=by omega
     have hT:Hid ((Crc.cstn 8 k:Nat)=Crc.T k):=hid rfl
     go_wp2
     go_roundw
     case rel=>exact ⟨k+1,by omega,by go_num,by rw [hT.out,hs.out]⟩
     case measure=>simp [intOf]; omega
  ·
   obtain rfl:256=k:=by omega
   go_wp2
   go_ret
   exact ⟨w.heap.size,rfl,Nat.le_refl _,by rw [Crc.TableAt,Zad],(Ext.refl w).alloc _⟩
theorem ret_int' {k:IntKind} {a b:Int} (h:a=b):Ending.returned (.int k a)=.returned (.int k b):=by rw [h]
theorem neg_xor (C:Nat) (h:C < 4294967296):4294967295 ^^^ C=Crc.neg C:=by
 apply Nat.eq_of_testBit_eq; intro i
 unfold Crc.neg
 rw [Nat.testBit_xor,show (4294967295:Nat)=2 ^ 32 - 1 by rfl,Nat.testBit_two_pow_sub_one,show (2 ^ 32 - 1 - C:Nat)=2 ^ 32 - (C+1) by omega,Nat.testBit_two_pow_sub_succ (by omega)]
 by_cases h1:i < 32
 ·
  simp [h1]
 ·
  have h32:2 ^ 32<=2 ^ i:=Nat.pow_le_pow_right (by decide) (Nat.not_lt.1 h1)
  have:C.testBit i=false:=Nat.testBit_lt_two_pow (Nat.lt_of_lt_of_le (show C < 2 ^ 32 from h) h32)
  simp [h1,this]
theorem u32_neg (C:Nat) (h:C < 4294967296):bits .xor .u32 IntKind.u32.max (C:Int)=(Crc.neg C:Nat):=by
 rw [<- neg_xor C h]; exact u32_xor_nat 4294967295 C (by omega) h
theorem Crc.neg_bd (C:Nat):Crc.neg C < 4294967296:=by unfold Crc.neg; omega
theorem Crc.onL_snoc (c:Nat) (l:List Nat) (x:Nat):Crc.onL c (l++[x])=Crc.upd (Crc.onL c l) x:=by
 unfold Crc.onL; rw [List.foldl_append]; rfl
theorem Zcm (l:List Nat) (k:Nat) (h:k < l.length):l.take (k+1)=l.take k++[nth l k]:=by
 rw [Za0 h,List.take_succ_eq_append_getElem h]
set_option maxRecDepth 100000 in
set_option maxHeartbeats 1000000 in
theorem crcOn_some (b n c b' off':Nat) (C:Nat) (l:List Nat) (w:World) (ht:Crc.TableAt w b) (hC:C < 4294967296) (hl:l.length=n) (hn:n<=140737488355328) (hb:∀ x∈l,x < 256)
  (hc:∀ i,i < n->w.cell? ⟨b',off'+i,none⟩=some (.int .u8 (nth l i))) :
  Calls Tryz.prog 173 #[.pointer (some ⟨b,0,none⟩),.int .u32 C,.slice (some ⟨b',off',none⟩) n c] w fun e w'=>e=.returned (.int .u32 (Crc.neg (Crc.onL (Crc.neg C) l):Nat))/\w=w':=by
 have HT:=hid ht; have HC:=hid hc; have HB:=hid hb; have HL:=hid hl
 clear ht hc hb hl
 go_enter Tryz.func173,Tryz.ntmps173
 go_wp2
 go_loop [1,13] (fun c i=>∃ k:Nat,k<=n/\i=.int .i64 k/\c=.int .u32 (Crc.onL (Crc.neg C) (l.take k):Nat)) (fun _ i=>n - (intOf i).toNat)
 case atStart =>
  exact ⟨0,by omega,rfl,by rw [u32_neg C hC]; rfl⟩
 case round =>
  obtain ⟨k,hk,rfl,rfl⟩:=hrel
  by_cases hlt:k < n
  ·
   have c1:=HC.out k hlt
   have xb:=Zay HB.out k
   have cb:=Crc.onL_bd (Crc.neg C) (l.take k) (by unfold Crc.neg; omega) (fun y hy=>HB.out y (List.mem_of_mem_take hy))
   have HS:Hid (Crc.onL (Crc.neg C) (l.take (k+1))=Crc.upd (Crc.onL (Crc.neg C) (l.take k)) (nth l k)):=hid (by rw [Zcm l k (by rw [HL.out]; exact hlt),Crc.onL_snoc])
   obtain ⟨q,hq⟩:∃ q,Crc.onL (Crc.neg C) (l.take k)=q:=⟨_,rfl⟩
   obtain ⟨x,hx⟩:∃ x,nth l k=x:=⟨_,rfl⟩
   rw [hq] at cb HS
   rw [hx] at c1 xb HS
   rw [hq]
   clear hq hx
   have hz:=Crc.xor8 (q % 256) x (Nat.mod_lt _ (by omega)) xb
   have h1:bits .xor .u8 ((q:Int) % 256) (x:Int)=(((q % 256) ^^^ x:Nat):Int):=by
    rw [show ((q:Int) % 256)=((q % 256:Nat):Int) by omega]; exact u8_xor_nat _ _ (Nat.mod_lt _ (by omega)) xb
   obtain ⟨z,hze⟩:∃ z,(q % 256) ^^^ x=z:=⟨_,rfl⟩
   rw [hze] at hz h1
   have c2:=HT.out.cell z hz
   have tb:=Crc.T_bd z hz
   obtain ⟨t,hte⟩:∃ t,Crc.T z=t:=⟨_,rfl⟩
   rw [hte] at c2 tb
   have HU:Hid (Crc.upd q x=t ^^^ (q / 256)):=hid (by unfold Crc.upd; rw [hze,hte])
   have HX:Hid (bits .xor .u32 (t:Int) ((q / 256:Nat):Int)=((t ^^^ (q / 256):Nat):Int)):=hid (u32_xor_nat _ _ tb (by omega))
   clear hze hte
   go_wp2
   go_round
   case rel=>exact ⟨k+1,by omega,by go_num,by rw [HS.out,HU.out,show ((q:Int) / 256)=((q / 256:Nat):Int) by omega,HX.out]⟩
   case measure=>simp [intOf]; omega
  ·
   obtain rfl:n=k:=by omega
   have HE:Hid (Crc.onL (Crc.neg C) (l.take n)=Crc.onL (Crc.neg C) l):=hid (by rw [List.take_of_length_le (by rw [HL.out]; exact Nat.le_refl _)])
   rw [HE.out]
   have hq:Crc.onL (Crc.neg C) l < 4294967296:=Crc.onL_bd _ _ (Crc.neg_bd C) HB.out
   have HN:=hid (u32_neg _ hq)
   clear HE
   go_wp2
   go_ret
   exact ⟨ret_int' HN.out,rfl⟩
theorem crcOn_c (b n c:Nat) (a:Option Addr) (C:Nat) (l:List Nat) (w:World) (ht:Crc.TableAt w b) (hC:C < 4294967296) (h:BytesAt w a n l) :
  Calls Tryz.prog 173 #[.pointer (some ⟨b,0,none⟩),.int .u32 C,.slice a n c] w fun e w'=>e=.returned (.int .u32 (Crc.neg (Crc.onL (Crc.neg C) l):Nat))/\w=w':=by
 rcases h.cells with h0 | ⟨b',off',rfl,hc⟩
 ·
  subst h0
  obtain rfl:=List.length_eq_zero_iff.1 h.len
  have h1:=u32_neg C hC
  have h2:=u32_neg _ (Crc.neg_bd C)
  have H2:Hid (Crc.onL (Crc.neg C) []=Crc.neg C):=hid rfl
  rw [H2.out]
  clear ht h H2
  go_enter Tryz.func173,Tryz.ntmps173
  go_wp2
  go_loop [1,13] (fun c i=>i=.int .i64 0/\c=.int .u32 (Crc.neg C:Nat)) (fun _ _=>0)
  case atStart=>exact ⟨rfl,by first | rfl | rw [h1]⟩
  case round =>
   obtain ⟨rfl,rfl⟩:=hrel
   go_wp2
   go_ret
   exact ⟨by first | rfl | rw [h2],rfl⟩
 ·
  exact crcOn_some b n c b' off' C l w ht hC h.len h.small h.byte hc
theorem crcSum_c (b n c:Nat) (a:Option Addr) (l:List Nat) (w:World) (ht:Crc.TableAt w b) (h:BytesAt w a n l) :
  Calls Tryz.prog 105 #[.pointer (some ⟨b,0,none⟩),.slice a n c] w fun e w'=>e=.returned (.int .u32 (Crc.sum l:Nat))/\w=w':=by
 have hc:=crcOn_c b n c a 0 l w ht (by omega) h
 have HC:=hid hc
 clear hc ht h
 go_enter Tryz.func105,Tryz.ntmps105
 go_wp2_with fail
 refine HC.out.mono ?_
 rintro e w' ⟨rfl,rfl⟩
 go_wp2
 go_ret
 exact ⟨rfl,rfl⟩
namespace Frm
def cl (f:Frm):List Value:=[.int .i64 f.kind,.int .i64 f.slot,.int .i64 f.stripe,.int .i64 f.gen]++f.data.map bv
@[irreducible] def A (f:Frm):Array Value:=(cl f).toArray
theorem A_def (f:Frm):A f=(cl f).toArray:=by unfold A; rfl
theorem A_size (f:Frm) (h:f.Ok):(A f).size=112:=by rw [A_def]; simp [cl,h.len]
theorem A0 (f:Frm):(A f)[0]?=some (.int .i64 f.kind):=by rw [A_def]; rfl
theorem A1 (f:Frm):(A f)[1]?=some (.int .i64 f.slot):=by rw [A_def]; rfl
theorem A2 (f:Frm):(A f)[2]?=some (.int .i64 f.stripe):=by rw [A_def]; rfl
theorem A3 (f:Frm):(A f)[3]?=some (.int .i64 f.gen):=by rw [A_def]; rfl
theorem A4 (f:Frm) (i:Nat) (h:i < f.data.length):(A f)[4+i]?=some (.int .u8 (nth f.data i)):=by
 rw [A_def,Nat.add_comm,List.getElem?_toArray]
 show (f.data.map bv)[i]?=_
 rw [List.getElem?_map,List.getElem?_eq_getElem h,Za0 h]; rfl
theorem A_one (f:Frm):∀ v∈(A f).toList,v.oneCell'=true:=by
 intro v hv
 rw [A_def] at hv
 simp only [cl,List.mem_append,List.mem_cons,List.not_mem_nil,or_false] at hv
 rcases hv with (rfl | rfl | rfl | rfl) | hv
 ·
  rfl
 ·
  rfl
 ·
  rfl
 ·
  rfl
 ·
  obtain ⟨x,_,rfl⟩:=List.mem_map.1 hv; rfl
end Frm
theorem fwithin_c (n lo hi:Int) (w:World) :
  Calls Tryz.prog 172 #[.int .i64 n,.int .i64 lo,.int .i64 hi] w fun e w'=>e=.returned (.bool (Frm.isIn n lo hi))/\w=w':=by
 by_cases h:lo<=n
 ·
  have h1:decide (lo<=n)=true:=by simp [h]
  have HI:Hid (Frm.isIn n lo hi=decide (n<=hi)):=hid (by simp [Frm.isIn,h])
  rw [HI.out]
  go_enter Tryz.func172,Tryz.ntmps172
  go_wp2
  go_ret
  exact ⟨rfl,rfl⟩
 ·
  have h1:decide (lo<=n)=false:=by simp [h]
  have HI:Hid (Frm.isIn n lo hi=false):=hid (by simp [Frm.isIn,h])
  rw [HI.out]
  go_enter Tryz.func172,Tryz.ntmps172
  go_wp2
  go_ret
  exact ⟨rfl,rfl⟩
set_option maxRecDepth 100000 in
set_option maxHeartbeats 1000000 in
theorem fright_c (f:Frm) (w:World) :
  Calls Tryz.prog 102 #[.agg (Frm.A f)] w fun e w'=>e=.returned (.bool f.right)/\Ext w w':=by
 have a0:=Frm.A0 f
 have a1:=Frm.A1 f
 have a2:=Frm.A2 f
 have a3:=Frm.A3 f
 have HR:Hid (f.right=(Frm.isIn f.kind 1 3 && Frm.isIn f.slot 0 7 && Frm.isIn f.stripe 0 63 && Frm.isIn f.gen 0 1152921504606846976)):=hid rfl
 rw [HR.out]
 clear HR
 obtain ⟨k,s,st,g,d⟩:=f
 simp only at a0 a1 a2 a3 ⊢
 generalize Frm.A _=A at *
 rcases h1:Frm.isIn k 1 3 with _ | _
 ·
  rw [Bool.false_and,Bool.false_and,Bool.false_and]
  go_enter Tryz.func102,Tryz.ntmps102
  go_wp2_with (go_at_call 172; refine (fwithin_c _ _ _ _).mono ?_; rintro e w' ⟨rfl,rfl⟩)
  go_ret
  exact ⟨rfl,(Ext.refl w).alloc _⟩
 ·
  rcases h2:Frm.isIn s 0 7 with _ | _
  ·
   rw [Bool.true_and,Bool.false_and,Bool.false_and]
   go_enter Tryz.func102,Tryz.ntmps102
   go_wp2_with (go_at_call 172; refine (fwithin_c _ _ _ _).mono ?_; rintro e w' ⟨rfl,rfl⟩)
   go_ret
   exact ⟨rfl,(Ext.refl w).alloc _⟩
  ·
   rcases h3:Frm.isIn st 0 63 with _ | _
   ·
    rw [Bool.true_and,Bool.true_and,Bool.false_and]
    go_enter Tryz.func102,Tryz.ntmps102
    go_wp2_with (go_at_call 172; refine (fwithin_c _ _ _ _).mono ?_; rintro e w' ⟨rfl,rfl⟩)
    go_ret
    exact ⟨rfl,(Ext.refl w).alloc _⟩
   ·
    rw [Bool.true_and,Bool.true_and,Bool.true_and]
    go_enter Tryz.func102,Tryz.ntmps102
    go_wp2_with (go_at_call 172; refine (fwithin_c _ _ _ _).mono ?_; rintro e w' ⟨rfl,rfl⟩)
    go_ret
    exact ⟨rfl,(Ext.refl w).alloc _⟩
def setN (L:List Nat) (off N:Nat):Nat->List Nat
 | 0=>L
 | k+1=>(setN L off N k).set (off+k) (N / 2 ^ (8*k) % 256)
theorem setN_len (L:List Nat) (off N k:Nat):(setN L off N k).length=L.length:=by
 induction k with
 | zero=>rfl
 | succ k ih=>show ((setN L off N k).set _ _).length=_; rw [List.length_set,ih]
theorem setN_nth (L:List Nat) (off N k i:Nat) (h:off+k<=L.length):nth (setN L off N k) i=if off<=i/\i < off+k then N / 2 ^ (8*(i - off)) % 256 else nth L i:=by
 induction k with
 | zero=>rw [if_neg (by omega)]; rfl
 | succ k ih =>
  show nth ((setN L off N k).set (off+k) _) i=_
  rw [nth_set,ih (by omega),setN_len]
  by_cases e:off+k=i
  ·
   subst e; rw [if_pos ⟨rfl,by omega⟩,if_pos (by omega),show off+k - off=k by omega]
  ·
   rw [if_neg (by omega)]
   by_cases h2:off<=i/\i < off+k
   ·
    rw [if_pos h2,if_pos (by omega)]
   ·
    rw [if_neg h2,if_neg (by omega)]
theorem low_nth (n v i:Nat) (h:i < n):nth (Frm.low n v) i=v / 2 ^ (8*i) % 256:=by
 rw [Za0 (by rw [Frm.low_len]; exact h)]; simp [Frm.low]
theorem setN_spl (L:List Nat) (off N n:Nat) (h:off+n<=L.length):setN L off N n=spl L off (Frm.low n N):=by
 apply Zbq (by rw [setN_len,spl_len _ _ _ (by rw [Frm.low_len]; exact h)])
 intro i hi
 rw [setN_len] at hi
 rw [setN_nth _ _ _ _ _ h]
 unfold spl
 rw [Zbd,List.length_take,Zbd,Frm.low_len,Zbu,Zbw]
 by_cases h1:i < off
 ·
  rw [if_neg (by omega),if_pos (by omega),if_pos h1]
 ·
  rw [if_neg (by omega:¬i < min off L.length)]
  by_cases h2:i < off+n
  ·
   rw [if_pos (by omega),if_pos (by omega),show i - min off L.length=i - off by omega,low_nth _ _ _ (by omega)]
  ·
   rw [if_neg (by omega),if_neg (by omega)]; congr 1; omega
set_option maxRecDepth 100000 in
set_option maxHeartbeats 1000000 in
theorem low_c (b off n cap N:Nat) (L:List Nat) (w:World) (hB:Blk w b L) (hfit:off+n<=L.length) (hn:n<=8) (hL:L.length<=1000000) (hN:N < 18446744073709551616) :
  Calls Tryz.prog 103 #[.slice (some ⟨b,off,none⟩) n cap,.int .u64 N] w fun e w'=>e=.returned (.tuple #[])/\Blk w' b (spl L off (Frm.low n N))/\Only (fun k=>k=b) w w':=by
 have HE:=hid (setN_spl L off N n hfit)
 rw [<- HE.out]
 have HB:=hid hB
 clear HE hB
 go_enter Tryz.func103,Tryz.ntmps103
 go_wp2
 go_loopw [7] (fun i wr=>∃ k:Nat,k<=n/\i=.int .i64 k/\Blk wr b (setN L off N k)/\Only (fun k=>k=b) w wr) (fun i _=>n - (intOf i).toNat)
 case atStart=>exact ⟨0,by omega,rfl,HB.out,Only.refl _ _⟩
 case round =>
  obtain ⟨k,hk,rfl,hb,ho⟩:=hrel
  by_cases hlt:k < n
  ·
   have c1:=hb.cell (off+k) (by rw [setN_len]; omega)
   have f1:=hb.free (off+k)
   have HB1:=hid hb; have HO1:=hid ho
   clear hb ho
   go_wp2
   go_roundw
   case rel =>
    refine ⟨k+1,by omega,by go_num,?_,HO1.out.setCell (.inr rfl) _⟩
    have e:((N:Int) / 2 ^ (8*k) % 256)=((N / 2 ^ (8*k) % 256:Nat):Int):=by
     rw [Int.natCast_emod,Int.natCast_ediv,Int.natCast_pow]; rfl
    rw [e]; exact HB1.out.set _ _
   case measure=>simp [intOf]; omega
  ·
   obtain rfl:n=k:=by omega
   have HB1:=hid hb; have HO1:=hid ho
   clear hb ho
   go_wp2
   go_end0
   exact ⟨rfl,HB1.out,HO1.out⟩
theorem ofInt_wrap64 (z:Int):BitVec.ofInt 64 (wrap64 z)=BitVec.ofInt 64 z:=by
 apply BitVec.eq_of_toNat_eq
 simp only [BitVec.toNat_ofInt]
 congr 1
 unfold wrap64
 show ((z+9223372036854775808) % 18446744073709551616 - 9223372036854775808) % (18446744073709551616:Int)=z % 18446744073709551616
 omega
theorem or_wrap (A x k:Nat) (hk:k < 8) (hA:A < 256 ^ k) (hx:x < 256) :
  bits .or .i64 (wrap64 (A:Int)) (wrap64 ((x:Int)*2 ^ (8*k)))=wrap64 ((A+x*256 ^ k:Nat):Int):=by
 have hp:(256:Nat) ^ k=2 ^ (8*k):=by rw [Nat.pow_mul]
 have h56:2 ^ (8*k)<=2 ^ 56:=Nat.pow_le_pow_right (by omega) (by omega)
 have hpos:0 < 2 ^ (8*k):=Nat.two_pow_pos _
 rw [hp] at hA ⊢
 have hx2:x*2 ^ (8*k)<=255*2 ^ (8*k):=Nat.mul_le_mul_right _ (by omega)
 show IntKind.i64.wrap ((BitVec.ofInt 64 (wrap64 (A:Int)) ||| BitVec.ofInt 64 (wrap64 ((x:Int)*2 ^ (8*k)))).toNat:Int)=_
 rw [ofInt_wrap64,ofInt_wrap64,show ((x:Int)*2 ^ (8*k))=((x*2 ^ (8*k):Nat):Int) by rw [Int.natCast_mul,Int.natCast_pow]; rfl,BitVec.ofInt_natCast,BitVec.ofInt_natCast,BitVec.toNat_or,BitVec.toNat_ofNat,BitVec.toNat_ofNat,
  Nat.mod_eq_of_lt (by omega),Nat.mod_eq_of_lt (by omega)]
 have ho:=Nat.two_pow_add_eq_or_of_lt hA x
 rw [Nat.or_comm,Nat.mul_comm x,<- ho,Nat.add_comm (2 ^ (8*k)*x)]
 rw [IntKind.wrap_i64]; unfold wrap64; omega
theorem numI_nil:Frm.numI []=0:=by
 show wrap64 ((0:Nat):Int)=0; unfold wrap64; omega
theorem numI_take (l:List Nat) (k:Nat) (hk:k < l.length) (hk8:k < 8) (hb:∀ x∈l,x < 256) :
  bits .or .i64 (Frm.numI (l.take k)) (wrap64 ((nth l k:Int)*2 ^ (8*k)))=Frm.numI (l.take (k+1)):=by
 have h1:=Frm.num_bd (l.take k) (fun x hx=>hb x (List.mem_of_mem_take hx))
 rw [List.length_take,Nat.min_eq_left (by omega)] at h1
 unfold Frm.numI
 rw [or_wrap _ _ k hk8 h1 (Zay hb k),Zcm l k hk,Frm.num_snoc,List.length_take,Nat.min_eq_left (by omega)]
set_option maxRecDepth 100000 in
set_option maxHeartbeats 1000000 in
theorem number_some (b off n c:Nat) (l:List Nat) (w:World) (hl:l.length=n) (hn:n<=8) (hb:∀ x∈l,x < 256) (hc:∀ i,i < n->w.cell? ⟨b,off+i,none⟩=some (.int .u8 (nth l i))) :
  Calls Tryz.prog 179 #[.slice (some ⟨b,off,none⟩) n c] w fun e w'=>e=.returned (.int .i64 (Frm.numI l))/\w=w':=by
 have HC:=hid hc; have HB:=hid hb; have HL:=hid hl
 clear hc hb hl
 go_enter Tryz.func179,Tryz.ntmps179
 go_wp2
 go_loop [3,8] (fun v i=>∃ k:Nat,k<=n/\i=.int .i64 k/\v=.int .i64 (Frm.numI (l.take k))) (fun _ i=>n - (intOf i).toNat)
 case atStart=>exact ⟨0,by omega,rfl,by rw [List.take_zero,numI_nil]⟩
 case round =>
  obtain ⟨k,hk,rfl,rfl⟩:=hrel
  by_cases hlt:k < n
  ·
   have c1:=HC.out k hlt
   have xb:=Zay HB.out k
   obtain ⟨x,hx⟩:∃ x,nth l k=x:=⟨_,rfl⟩
   rw [hx] at c1 xb
   obtain ⟨q,hq⟩:∃ q,Frm.numI (l.take k)=q:=⟨_,rfl⟩
   rw [hq]
   have HX:=hid hx; have HQ:=hid hq
   clear hx hq
   go_wp2
   go_round
   case rel=>exact ⟨k+1,by omega,by go_num,by rw [<- HQ.out,<- HX.out,numI_take l k (by rw [HL.out]; exact hlt) (by omega) HB.out]⟩
   case measure=>simp [intOf]; omega
  ·
   obtain rfl:n=k:=by omega
   have HE:Hid (Frm.numI (l.take n)=Frm.numI l):=hid (by rw [List.take_of_length_le (by rw [HL.out]; exact Nat.le_refl _)])
   rw [HE.out]
   clear HE
   go_wp2
   go_ret
   exact ⟨rfl,rfl⟩
theorem aggFrame:AggType Tryz.prog 42 112:=⟨by kernel_rfl,by kernel_rfl⟩
def z128:List Nat:=List.replicate 128 0
theorem z128_len:z128.length=128:=by simp [z128]
def FPutPost (f:Frm) (w:World) (e:Ending) (w':World):Prop :=
 (f.right=false/\e=.returned (.slice none 0 0)/\Ext w w') ∨
 (f.right=true/\∃ b,e=.returned (.slice (some ⟨b,0,none⟩) 128 128)/\w.heap.size<=b/\Blk w' b f.bytes/\Ext w w')
theorem Zaj {w:World} {g:Nat} {A:Array Value} {t:TypeId} {fr:Nat × Nat} (h:w.heap[g]?=some (.cells A t fr)):∀ j v,A.toList[j]?=some v->w.cell? ((⟨g,0,none⟩:Addr).add j)=some v:=by
 intro j v hv
 have e:(⟨g,0,none⟩:Addr).add j=⟨g,j,none⟩:=by unfold Addr.add; split<;>simp_all
 rw [e,Zaf h]
 simpa using hv
set_option maxRecDepth 100000 in
set_option maxHeartbeats 2000000 in
theorem fput_no (f:Frm) (w:World) (h:f.Ok) (hr:f.right=false):Calls Tryz.prog 13 #[.agg (Frm.A f)] w fun e w'=>e=.returned (.slice none 0 0)/\Ext w w':=by
 have hs:=Frm.A_size f h
 go_enter Tryz.func13,Tryz.ntmps13
 go_wp2_with (first
  | (refine Zae rfl 42 _ rfl ⟨w.heap.size,0,none⟩ rfl (Frm.A f) ?_ ?_ ?_; (rw [hs]; exact aggFrame); exact Zaj Zad)
  | (go_at_call 102; refine (fright_c f _).mono ?_; rintro e w' ⟨rfl,hx⟩; rw [hr]))
 go_ret
 exact ⟨rfl,Ext.trans ((Ext.refl w).alloc _) hx⟩
def L4 (k s:Nat):List Nat:=(((z128.set 0 83).set 1 84).set 2 k).set 3 s
theorem L4_len (k s:Nat):(L4 k s).length=128:=by simp [L4,z128_len]
structure PutAt (w0:World) (f:Frm) (b:Nat) (L:List Nat) (W:World):Prop where
 blk:Blk W b L
 len:L.length=128
 own:W.heap[w0.heap.size]?=some (.cells (Frm.A f) 42 (0,0))
 ext:Ext w0 W
 new:w0.heap.size < b
theorem PutAt.drewN {w0 W:World} {f:Frm} {b:Nat} {L:List Nat} (h:PutAt w0 f b L W) (n:Nat):PutAt w0 f b L (W.drewN n):=⟨h.blk,h.len,h.own,Only.drewN h.ext n,h.new⟩
theorem PutAt.drew {w0 W:World} {f:Frm} {b:Nat} {L:List Nat} (h:PutAt w0 f b L W):PutAt w0 f b L W.drew:=⟨h.blk,h.len,h.own,Only.drew h.ext,h.new⟩
theorem PutAt.more {w0 W W':World} {f:Frm} {b:Nat} {L:List Nat} (h:PutAt w0 f b L W) (e:Ext W W'):PutAt w0 f b L W':=⟨e.at h.blk,h.len,e.at h.own,Ext.trans h.ext e,h.new⟩
theorem PutAt.step {w0 W W':World} {f:Frm} {b off:Nat} {L m:List Nat} (h:PutAt w0 f b L W) (hB:Blk W' b (spl L off m)) (hm:off+m.length<=128) (e:Only (fun k=>k=b) W W'):PutAt w0 f b (spl L off m) W' :=
 ⟨hB,by rw [spl_len _ _ _ (by rw [h.len]; exact hm),h.len],Only.at e h.own (by have:=h.new; omega),Ext.then h.ext e (by have:=h.new; intro i hi; omega),h.new⟩
theorem PutAt.cell {w0 W:World} {f:Frm} {b:Nat} {L:List Nat} (h:PutAt w0 f b L W) {i:Nat} {v:Value} (hv:(Frm.A f)[i]?=some v):W.cell? ⟨w0.heap.size,i,none⟩=some v:=(Zaf h.own).trans hv
theorem PutAt.data {w0 W:World} {f:Frm} {b:Nat} {L:List Nat} (h:PutAt w0 f b L W) (ok:f.Ok):BytesAt W (some ⟨w0.heap.size,4,none⟩) 108 f.data :=
 ⟨ok.len,by omega,ok.byte,.inr ⟨_,4,rfl,fun i hi=>h.cell (Frm.A4 f i (by rw [ok.len]; exact hi))⟩⟩
theorem spl_app (A B m:List Nat) (off:Nat) (h:A.length=off):spl (A++B) off m=A++(m++B.drop m.length):=by
 subst h
 unfold spl
 rw [List.take_append_of_le_length (Nat.le_refl _),List.take_of_length_le (Nat.le_refl _),List.drop_append,List.drop_of_length_le (by omega),List.nil_append,Nat.add_sub_cancel_left]
theorem body_build3 (f:Frm) (h:f.Ok) {k1 s1 t1 g1:Nat} (hk:f.kind=k1) (hs:f.slot=s1) (ht:f.stripe=t1) (hg:f.gen=g1) :
  spl (spl (spl (L4 k1 s1) 4 (Frm.low 4 t1)) 8 (Frm.low 8 g1)) 16 f.data=f.body++List.replicate 4 0:=by
 have e4:(Frm.low 4 t1).length=4:=Frm.low_len _ _
 have e8:(Frm.low 8 g1).length=8:=Frm.low_len _ _
 have e0:L4 k1 s1=[83,84,k1,s1]++List.replicate 124 0:=by
  unfold L4 z128
  rw [show (128:Nat)=124+1+1+1+1 from rfl,List.replicate_succ,List.replicate_succ,List.replicate_succ,List.replicate_succ]; rfl
 have hd:=h.len
 unfold Frm.body
 rw [hk,hs,ht,hg,e0,spl_app [83,84,k1,s1] _ _ 4 rfl,e4,List.drop_replicate,<- List.append_assoc,spl_app ([83,84,k1,s1]++Frm.low 4 t1) _ _ 8 (by rw [List.length_append,e4]; rfl),e8,List.drop_replicate,<- List.append_assoc,
  spl_app ([83,84,k1,s1]++Frm.low 4 t1++Frm.low 8 g1) _ _ 16 (by rw [List.length_append,List.length_append,e4,e8]; rfl),hd,List.drop_replicate]
 simp only [Int.toNat_natCast,List.append_assoc]
theorem body_build (f:Frm) (h:f.Ok) {k1 s1 t1 g1:Nat} (hk:f.kind=k1) (hs:f.slot=s1) (ht:f.stripe=t1) (hg:f.gen=g1) (X:Nat) :
  spl (spl (spl (spl (L4 k1 s1) 4 (Frm.low 4 t1)) 8 (Frm.low 8 g1)) 16 f.data) 124 (Frm.low 4 X)=f.body++Frm.low 4 X:=by
 rw [body_build3 f h hk hs ht hg]
 have e:=Frm.body_len f h
 unfold spl
 rw [List.take_append_of_le_length (by omega),List.take_of_length_le (by omega),Frm.low_len,List.drop_of_length_le (by simp [e]),List.append_nil]
theorem body_take (f:Frm) (h:f.Ok) {k1 s1 t1 g1:Nat} (hk:f.kind=k1) (hs:f.slot=s1) (ht:f.stripe=t1) (hg:f.gen=g1) :
  (spl (spl (spl (L4 k1 s1) 4 (Frm.low 4 t1)) 8 (Frm.low 8 g1)) 16 f.data).take 124=f.body:=by
 rw [body_build3 f h hk hs ht hg]
 have e:=Frm.body_len f h
 rw [List.take_append_of_le_length (by omega),List.take_of_length_le (by omega)]
set_option maxRecDepth 100000 in
set_option maxHeartbeats 2000000 in
theorem fput_yes (f:Frm) (w:World) (h:f.Ok) (hr:f.right=true):Calls Tryz.prog 13 #[.agg (Frm.A f)] w fun e w'=>∃ b,e=.returned (.slice (some ⟨b,0,none⟩) 128 128)/\w.heap.size<=b/\Blk w' b f.bytes/\Ext w w':=by
 have hs:=Frm.A_size f h
 have hsp:=Frm.right_spec hr
 have hA:=hid hs
 have HR:=hid hr; have HOK:=hid h
 have hk:=Int.toNat_of_nonneg (show 0<=f.kind by omega)
 have hl:=Int.toNat_of_nonneg (show 0<=f.slot by omega)
 obtain ⟨k1,hk1⟩:∃ k1:Nat,f.kind=k1:=⟨f.kind.toNat,by omega⟩
 obtain ⟨s1,hs1⟩:∃ s1:Nat,f.slot=s1:=⟨f.slot.toNat,by omega⟩
 obtain ⟨t1,ht1⟩:∃ t1:Nat,f.stripe=t1:=⟨f.stripe.toNat,by omega⟩
 obtain ⟨g1,hg1⟩:∃ g1:Nat,f.gen=g1:=⟨f.gen.toNat,by omega⟩
 have hb1:k1 < 256/\s1 < 256/\t1<=63/\g1<=1152921504606846976:=by omega
 have a0:=Frm.A0 f
 have a1:=Frm.A1 f
 have a2:=Frm.A2 f
 have a3:=Frm.A3 f
 rw [hk1] at a0
 rw [hs1] at a1
 rw [ht1] at a2
 rw [hg1] at a3
 have HK:=hid hk1; have HS:=hid hs1; have HT:=hid ht1; have HG:=hid hg1
 have A0':=hid a0; have A1':=hid a1; have A2':=hid a2; have A3':=hid a3
 clear hk hl hk1 hs1 ht1 hg1 hsp hs h a2 a3
 go_enter Tryz.func13,Tryz.ntmps13
 have hmk:∀ w,Sem.run Tryz.prog (Instr.makeSlice 38 (.int .i64 128) (.int .i64 128)) w=.ok (.slice (some ⟨w.heap.size,0,none⟩) 128 128) (w.alloc (.cells (bA z128) 5)):=fun w=>Zbs 128 (by omega) (by omega) w
 have z0:=Zb5 z128 0 (by rw [z128_len]; omega)
 have z1:=Zb5 z128 1 (by rw [z128_len]; omega)
 have z2:=Zb5 z128 2 (by rw [z128_len]; omega)
 have z3:=Zb5 z128 3 (by rw [z128_len]; omega)
 go_wp2_with (refine Zae rfl 42 _ rfl ⟨w.heap.size,0,none⟩ rfl (Frm.A f) ?_ ?_ ?_; (rw [hA.out]; exact aggFrame); exact Zaj Zad)
 refine (fright_c f _).mono ?_
 rintro e w1 ⟨rfl,hx⟩
 rw [hr]
 have hA1:w1.heap[w.heap.size]?=some (.cells (Frm.A f) 42 (0,0)):=hx.at Zad
 have X1:Ext w w1:=Ext.trans ((Ext.refl w).alloc _) hx
 have hsz1:w.heap.size < w1.heap.size:=lt_of_block hA1
 have c0:w1.cell? ⟨w.heap.size,0,none⟩=some (.int .i64 k1):=(Zaf hA1).trans A0'.out
 have c1:w1.cell? ⟨w.heap.size,1,none⟩=some (.int .i64 s1):=(Zaf hA1).trans A1'.out
 have HA1:=hid hA1; have HX1:=hid X1
 clear hx hA1 X1 a0 a1
 go_wp2
 have e4:(((((bA z128).setIfInBounds 0 (.int .u8 83)).setIfInBounds 1 (.int .u8 84)).setIfInBounds 2 (.int .u8 (k1:Int))).setIfInBounds 3 (.int .u8 (s1:Int)))=bA (L4 k1 s1):=by
  rw [show (83:Int)=((83:Nat):Int) from rfl,show (84:Int)=((84:Nat):Int) from rfl,bA_set,bA_set,bA_set,bA_set]; rfl
 rw [e4]
 clear e4 z0 z1 z2 z3 c0 c1 hmk
 have P0:PutAt w f w1.heap.size (L4 k1 s1) (w1.alloc (.cells (bA (L4 k1 s1)) 5)):=⟨Zad,L4_len _ _,((Ext.refl w1).alloc _).at HA1.out (fun x=>x),Ext.trans HX1.out ((Ext.refl w1).alloc _),hsz1⟩
 generalize w1.alloc (.cells (bA (L4 k1 s1)) 5)=W at *
 generalize hbb:w1.heap.size=b at *
 have c2:=P0.cell A2'.out
 have HP:=hid P0
 clear P0
 refine Zaw 5 (by kernel_rfl) (by kernel_rfl) ?_
 simp only [List.take_succ_cons,List.take_zero,List.drop_succ_cons,List.drop_zero]
 repeat (go_big_quiet_step (fail))
 refine wpQuiet_nil ?_
 intro _ hw'
 obtain ⟨nq,hw''⟩:=hw'
 subst hw''
 go_wp2_with fail
 have HP1:=hid (HP.out.drewN nq)
 clear HP c2
 generalize W.drewN nq=W1 at *
 refine (low_c b 4 4 124 t1 _ W1 HP1.out.blk (by rw [HP1.out.len]; omega) (by omega) (by rw [HP1.out.len]; omega) (by omega)).mono ?_
 rintro e W2 ⟨rfl,hB2,ho2⟩
 have P2:=HP1.out.step hB2 (by rw [Frm.low_len]; omega) ho2
 have c3:=P2.cell A3'.out
 have HP2:=hid P2
 clear P2 hB2 ho2 HP1 W W1
 go_wp2
 refine Zaw 5 (by kernel_rfl) (by kernel_rfl) ?_
 simp only [List.take_succ_cons,List.take_zero,List.drop_succ_cons,List.drop_zero]
 repeat (go_big_quiet_step (fail))
 refine wpQuiet_nil ?_
 intro _ hw'
 obtain ⟨nq,hw''⟩:=hw'
 subst hw''
 go_wp2_with fail
 have HP3:=hid (HP2.out.drewN nq)
 clear HP2 c3
 generalize W2.drewN nq=W3 at *
 refine (low_c b 8 8 120 g1 _ W3 HP3.out.blk (by rw [HP3.out.len]; omega) (by omega) (by rw [HP3.out.len]; omega) (by omega)).mono ?_
 rintro e W4 ⟨rfl,hB4,ho4⟩
 have P4:=HP3.out.step hB4 (by rw [Frm.low_len]; omega) ho4
 have HP4:=hid P4
 clear P4 hB4 ho4 HP3 W2 W3
 go_wp2
 refine Zci [([0,1,2,3],4)] [] (by kernel_rfl) (by kernel_rfl) (fun _ _ d _ _ h=>by cases d<;>exact h) ?_
 simp only [opsAt,opA,opB,opC,opD,opE,opF,opG]
 have HP5:=hid HP4.out.drew
 clear HP4
 generalize W4.drew=W5 at *
 have hcp:=copy_blk W5 b 16 108 112 _ f.data (some ⟨w.heap.size,4,none⟩) 108 HP5.out.blk (HP5.out.data HOK.out) (by rw [HP5.out.len]; omega)
 rw [wpMix]
 repeat (refine Zco (fun K hK=>?_); go_simp; refine hK _ ?_; clear hK K)
 refine Zbi ?_
 refine Zca fun K hK=>?_
 go_wp2
 have HP6:=hid (HP5.out.step (off:=16) (m:=f.data) (HP5.out.blk.setRow _) (by rw [HOK.out.len]; omega) (Zah W5 b _))
 clear hcp HP5
 generalize W5.setRow b (bA (spl (spl (spl (L4 k1 s1) 4 (Frm.low 4 t1)) 8 (Frm.low 8 g1)) 16 f.data))=W6 at *
 rw [wpMix]
 refine Zbi ?_
 go_wp2
 refine Zci [([0,1,3,4],2),([],5),([6],7)] [] (by kernel_rfl) (by kernel_rfl) (fun _ _ d _ _ h=>by cases d<;>exact h) ?_
 simp only [opsAt,opA,opB,opC,opD,opE,opF,opG]
 have HP7:=hid HP6.out.drew
 clear HP6
 generalize W6.drew=W7 at *
 rw [wpMix]
 repeat (refine Zco (fun K hK=>?_); go_simp; refine hK _ ?_; clear hK K)
 refine Zbi ?_
 refine Zca fun K hK=>?_
 go_wp2_with fail
 refine (crcMake_c W7).mono ?_
 rintro e W8 ⟨tb,rfl,hle,htb,hx8⟩
 have HP8:=hid (HP7.out.more hx8)
 have HTB:=hid htb
 clear HP7 hle htb hx8 W7
 go_wp2
 rw [wpMix]
 refine Zbi ?_
 refine Zca fun K hK=>?_
 go_wp2_with fail
 obtain ⟨B3,hB3⟩:∃ B3,spl (spl (spl (L4 k1 s1) 4 (Frm.low 4 t1)) 8 (Frm.low 8 g1)) 16 f.data=B3:=⟨_,rfl⟩
 have HB3:=hid hB3
 rw [hB3] at HP8
 clear hB3
 have HBB:Hid (∀ X,spl B3 124 (Frm.low 4 X)=f.body++Frm.low 4 X):=hid (by
  intro X
  rw [<- HB3.out,body_build f HOK.out HK.out HS.out HT.out HG.out X])
 have HB4:Hid (B3.take 124=f.body):=hid (by
  rw [<- HB3.out]; exact body_take f HOK.out HK.out HS.out HT.out HG.out)
 have hby:BytesAt W8 (some ⟨b,0,none⟩) 124 f.body:=⟨Frm.body_len f HOK.out,by omega,Frm.body_byte f HOK.out HR.out,.inr ⟨b,0,rfl,fun i hi=>by
  rw [Nat.zero_add,HP8.out.blk.cell i (by rw [HP8.out.len]; omega),<- HB4.out,Zbu,if_pos hi]⟩⟩
 refine (crcSum_c tb 124 128 _ f.body W8 HTB.out hby).mono ?_
 rintro e W9 ⟨rfl,rfl⟩
 have hsum:=Crc.sum_bd f.body
 clear hby
 go_wp2
 rw [wpMix]
 repeat (refine Zco (fun K hK=>?_); go_simp; refine hK _ ?_; clear hK K)
 refine Zbi ?_
 refine Zca fun K hK=>?_
 go_wp2_with fail
 refine (low_c b 124 4 4 (Crc.sum f.body) _ W8 HP8.out.blk (by rw [HP8.out.len]; omega) (by omega) (by rw [HP8.out.len]; omega) (by omega)).mono ?_
 rintro e W10 ⟨rfl,hB10,ho10⟩
 have HP10:=hid (HP8.out.step hB10 (by rw [Frm.low_len]; omega) ho10)
 clear hB10 ho10 HP8 HTB
 go_wp2
 rw [wpMix]
 refine Zbi ?_
 go_wp2
 go_ret
 refine ⟨b,rfl,Nat.le_of_lt HP10.out.new,?_,HP10.out.ext⟩
 have:=HP10.out.blk
 rw [HBB.out] at this
 exact this
theorem fput_c (f:Frm) (w:World) (h:f.Ok):Calls Tryz.prog 13 #[.agg (Frm.A f)] w (FPutPost f w):=by
 rcases hr:f.right with _ | _
 ·
  exact (fput_no f w h hr).mono fun e w' he=>.inl ⟨hr,he⟩
 ·
  exact (fput_yes f w h hr).mono fun e w' he=>.inr ⟨hr,he⟩
def ints (l:List Nat):List Int:=l.map Int.ofNat
theorem conv_bytes {w:World} {a:Option Addr} {n:Nat} {l:List Nat} (h:BytesAt w a n l) (hn:0 < n\/a=none) (c:Nat) :
  (convert 38 9 (.slice a n c)).run Tryz.prog w=.ok (.string (strOfNums (ints l))) w:=by
 rcases h.cells with h0 | ⟨b,off,rfl,hc⟩
 ·
  subst h0
  obtain rfl:=List.length_eq_zero_iff.1 h.len
  rcases hn with hn | rfl
  ·
   omega
  ·
   exact (run_convert_bytes_nil (P:=Tryz.prog) w 38 5 Tryz.underlying38 Tryz.underlying5 0 c _ Tryz.underlying9:_)
 ·
  exact run_convert_bytes_arg (P:=Tryz.prog) w 38 5 Tryz.underlying38 Tryz.underlying5 b off n c (ints l) (by simp [ints,h.len])
   (fun i hi=>by
    rw [hc i hi]
    have:i < l.length:=by rw [h.len]; exact hi
    simp [ints,nth,this]) _ Tryz.underlying9
theorem strOf_inj {l m:List Nat} (hl:∀ x∈l,x < 256) (hm:∀ x∈m,x < 256):((strOfNums (ints l)).toList == (strOfNums (ints m)).toList)=decide (l=m):=by
 rw [Lib.strOfNums_toList,Lib.strOfNums_toList]
 by_cases h:l=m
 ·
  subst h; simp
 ·
  rw [decide_eq_false h]
  apply beq_false_of_ne
  intro e
  apply h
  unfold Lib.bytesOf ints at e
  rw [List.map_map,List.map_map] at e
  have hx:∀ l:List Nat,(∀ x∈l,x < 256)->(l.map ((fun n:Int=>UInt8.ofNat n.toNat) ∘ Int.ofNat)).map UInt8.toNat=l:=by
   intro l hl
   rw [List.map_map]
   conv=>rhs; rw [<- List.map_id l]
   apply List.map_congr_left
   intro x hx
   have:=hl x hx
   simp; omega
  rw [<- hx l hl,<- hx m hm,e]
set_option maxHeartbeats 1000000 in
theorem bytesEqual_c {w:World} {a a':Option Addr} {n n':Nat} {l m:List Nat} (h:BytesAt w a n l) (h':BytesAt w a' n' m) (hn:0 < n\/a=none) (hn':0 < n'\/a'=none) (c c':Nat) :
  Calls Tryz.prog 180 #[.slice a n c,.slice a' n' c'] w fun e w'=>e=.returned (.bool (decide (l=m)))/\w=w':=by
 rw [<- strOf_inj h.byte h'.byte]
 have c1:=conv_bytes h hn c
 have c2:=conv_bytes h' hn' c'
 go_enter Tryz.func180,Tryz.ntmps180
 go_wp2
 go_ret
 exact ⟨rfl,rfl⟩
theorem Za4 (w:World):Sem.run Tryz.prog (zeroValue 42) w=.ok (.agg (Frm.A Frm.zero)) w:=by kernel_rfl
theorem Zaq:Tryz.prog.built 42 []=some (Frm.A Frm.zero):=by kernel_rfl
theorem built_four (k s t g:Int):Tryz.prog.built 42 [(0,.int .i64 k),(1,.int .i64 s),(2,.int .i64 t),(3,.int .i64 g)]=some (Frm.A ⟨k,s,t,g,List.replicate 108 0⟩):=by kernel_rfl
theorem Za9:Frm.zero.Ok:=⟨by simp [Frm.zero],by simp [Frm.zero]⟩
theorem copy_frame (W:World) (g:Nat) (f:Frm) (hf:f.Ok) (hg:W.heap[g]?=some (.cells (Frm.A f) 42 (0,0))) (b off:Nat) (l:List Nat) (h:BytesAt W (some ⟨b,off,none⟩) 108 l) (c c':Nat) :
  Sem.run Tryz.prog (Builtin.copy_ #[38,38] 3 #[.slice (some ⟨g,4,none⟩) 108 c,.slice (some ⟨b,off,none⟩) 108 c']) W=.ok (.int .i64 (108:Nat)) (W.setRow g (Frm.A { f with data:=l })):=by
 obtain ⟨i0,hi,hz0,hz1,hz2⟩:=info_parts info8
 have hl:=h.len
 have hr:=run_copy_row (P:=Tryz.prog) W 38 38 3 5 g 4 108 c ⟨b,off,none⟩ 108 c' (Frm.A f) 42 (l.map bv)
  Tryz.underlying38 (by rw [hi]; exact congrArg some hz1) hg (by rw [List.length_map,hl]; rfl)
  (by
   intro j v hv
   rw [List.getElem?_map] at hv
   have hj:j < l.length:=by
    rcases Nat.lt_or_ge j l.length with h' | h'
    ·
     exact h'
    ·
     rw [List.getElem?_eq_none h'] at hv; cases hv
   rw [List.getElem?_eq_getElem hj] at hv
   have e:(⟨b,off,none⟩:Addr).add j=⟨b,off+j,none⟩:=by unfold Addr.add; split<;>simp_all
   rw [e,h.get j (by omega),Za0 hj]
   exact hv)
  (by rw [Frm.A_size f hf,List.length_map]; omega) (by intro v hv; obtain ⟨x,_,rfl⟩:=List.mem_map.1 hv; rfl)
 rw [hr,List.length_map,hl]
 refine congrArg (fun X=>Result.ok (Value.int .i64 (108:Nat)) (W.setRow g X)) ?_
 have hd:=hf.len
 rw [Frm.A_def,Frm.A_def]
 unfold Frm.cl
 apply Array.ext'
 simp [hd]
theorem fput_b (f:Frm) (w:World) (h:f.Ok):Calls Tryz.prog 13 #[.agg (Frm.A f)] w fun e w'=>∃ a n,e=.returned (.slice a n n)/\BytesAt w' a n f.put/\(0 < n\/a=none)/\Ext w w':=by
 refine (fput_c f w h).mono ?_
 rintro e w' (⟨hr,rfl,hx⟩ | ⟨hr,b,rfl,hle,hb,hx⟩)
 ·
  exact ⟨none,0,rfl,by unfold Frm.put; rw [if_neg (by rw [hr]; exact Bool.false_ne_true)]; exact ⟨rfl,by omega,by simp,.inl rfl⟩,.inr rfl,hx⟩
 ·
  exact ⟨_,128,rfl,by unfold Frm.put; rw [if_pos hr]; exact hb.bytes (Frm.bytes_byte f h hr) (Frm.bytes_len f h) (by omega),.inl (by omega),hx⟩
structure GetAt (w0:World) (g:Nat) (f:Frm) (W:World):Prop where
 own:W.heap[g]?=some (.cells (Frm.A f) 42 (0,0))
 res:W.heap[w0.heap.size]?=some (.cells (Frm.A Frm.zero) 42 (0,0))
 ext:Ext w0 W
 new:w0.heap.size < g
theorem GetAt.drew {w0 W:World} {g:Nat} {f:Frm} (h:GetAt w0 g f W):GetAt w0 g f W.drew:=⟨h.own,h.res,Only.drew h.ext,h.new⟩
theorem GetAt.more {w0 W W':World} {g:Nat} {f:Frm} (h:GetAt w0 g f W) (e:Ext W W'):GetAt w0 g f W':=⟨e.at h.own,e.at h.res,Ext.trans h.ext e,h.new⟩
theorem GetAt.setRow {w0 W:World} {g:Nat} {f:Frm} (h:GetAt w0 g f W) (f':Frm):GetAt w0 g f' (W.setRow g (Frm.A f')) :=
 ⟨setRow_heap W g _ _ _ _ h.own,(Zah W g (Frm.A f')).at h.res (by have:=h.new; omega),Ext.then h.ext (Zah W g (Frm.A f')) (fun i hi=>by have:=h.new; omega),h.new⟩
theorem BytesAt.sub {W:World} {b off n:Nat} {l:List Nat} (h:BytesAt W (some ⟨b,off,none⟩) n l) (i m:Nat) (hm:i+m<=n):BytesAt W (some ⟨b,off+i,none⟩) m ((l.drop i).take m):=by
 have hl:=h.len
 have hs:=h.small
 refine ⟨by simp; omega,by omega,fun x hx=>h.byte x (List.mem_of_mem_drop (List.mem_of_mem_take hx)),.inr ⟨b,off+i,rfl,fun j hj=>?_⟩⟩
 rw [Zbu,if_pos hj,Zbw,Nat.add_assoc]
 exact h.get (i+j) (by omega)
def got (l:List Nat):Value:=.tuple #[.agg (Frm.A ((Frm.get l).getD Frm.zero)),.bool (Frm.get l).isSome]
set_option maxRecDepth 100000 in
set_option maxHeartbeats 2000000 in
theorem fget_short (a:Option Addr) (n c:Nat) (l:List Nat) (w:World) (h:BytesAt w a n l) (hn:n≠128) :
  Calls Tryz.prog 124 #[.slice a n c] w fun e w'=>e=.returned (got l)/\Ext w w':=by
 have hz:=Za4
 have hs:=Frm.A_size _ Za9
 have hS:=hid hs
 have hG:Hid (got l=.tuple #[.agg (Frm.A Frm.zero),.bool false]):=hid (by
  have:Frm.get l=none:=by unfold Frm.get; rw [if_neg (by rw [h.len]; omega)]
  unfold got; rw [this]; rfl)
 rw [hG.out]
 have hne:((n:Int) != 128)=true:=by simp; omega
 clear hs h
 go_enter Tryz.func124,Tryz.ntmps124
 go_wp2_with (first
  | (refine wpList_build rfl 42 _ rfl (by simp [Zaq]) ?_; simp only [Array.map_empty,Zaq,Option.getD_some])
  | (refine Zab rfl 42 _ _ rfl w.heap.size rfl (Frm.A Frm.zero) _ rfl 42 ?_ Zad rfl ?_ ?_; (rw [hS.out]; exact aggFrame); exact Frm.A_one _))
 rw [Zao]
 refine bodyPost_ret (Zak Tryz.results124 rfl (by rw [hS.out]; exact aggFrame) Zad) rfl ?_
 exact ⟨rfl,(Ext.refl w).alloc _⟩
set_option maxRecDepth 100000 in
set_option maxHeartbeats 600000 in
theorem fget_128 (b off c:Nat) (l:List Nat) (w:World) (h:BytesAt w (some ⟨b,off,none⟩) 128 l) (hcap:128<=c) :
  Calls Tryz.prog 124 #[.slice (some ⟨b,off,none⟩) 128 c] w fun e w'=>e=.returned (got l)/\Ext w w':=by
 have hz:=Za4
 have HB:=hid h
 clear h
 go_enter Tryz.func124,Tryz.ntmps124
 go_wp2
 refine wp_region_held_tail 16 (.one [0,1,2,3,4,5,6,7,8,9,10,11,12,13,14] 15 (.fin [])) (by kernel_rfl) (by kernel_rfl) (fun _ _ d _ _ h=>by cases d<;>exact h) ?_
 have hX:Ext w (w.alloc (.cells (Frm.A Frm.zero) 42)).drew:=((Ext.refl w).alloc _).drew
 have hR:(w.alloc (.cells (Frm.A Frm.zero) 42)).drew.heap[w.heap.size]?=some (.cells (Frm.A Frm.zero) 42 (0,0)):=Zad
 generalize (w.alloc (.cells (Frm.A Frm.zero) 42)).drew=W at *
 have xb2:=Zay HB.out.byte 2
 have xb3:=Zay HB.out.byte 3
 have c2:∀ x:ExtW W,x.w.cell? ⟨b,off+2,none⟩=some (.int .u8 (nth l 2)):=fun x=>((HB.out.ext hX).ext x.ext).get 2 (by omega)
 have c3:∀ x:ExtW W,x.w.cell? ⟨b,off+3,none⟩=some (.int .u8 (nth l 3)):=fun x=>((HB.out.ext hX).ext x.ext).get 3 (by omega)
 obtain ⟨x2,hx2⟩:∃ x2,nth l 2=x2:=⟨_,rfl⟩
 obtain ⟨x3,hx3⟩:∃ x3,nth l 3=x3:=⟨_,rfl⟩
 rw [hx2] at c2 xb2
 rw [hx3] at c3 xb3
 have hlen:=HB.out.len
 have n1:∀ (c':Nat) (x:ExtW W),Calls Tryz.prog 179 #[.slice (some ⟨b,off+4,none⟩) 4 c'] x.w fun e w''=>e=.returned (.int .i64 (Frm.numI ((l.drop 4).take 4)))/\Ext x.w w'':=fun c' x =>
  (number_some b (off+4) 4 c' ((l.drop 4).take 4) x.w (by simp [hlen]) (by omega) (fun y hy=>HB.out.byte y (List.mem_of_mem_drop (List.mem_of_mem_take hy)))
   (fun i hi=>by rw [Zbu,if_pos hi,Zbw,Nat.add_assoc]; exact ((HB.out.ext hX).ext x.ext).get (4+i) (by omega))).mono fun e w'' he=>⟨he.1,he.2▸Ext.refl _⟩
 have n2:∀ (c':Nat) (x:ExtW W),Calls Tryz.prog 179 #[.slice (some ⟨b,off+8,none⟩) 8 c'] x.w fun e w''=>e=.returned (.int .i64 (Frm.numI ((l.drop 8).take 8)))/\Ext x.w w'':=fun c' x =>
  (number_some b (off+8) 8 c' ((l.drop 8).take 8) x.w (by simp [hlen]) (by omega) (fun y hy=>HB.out.byte y (List.mem_of_mem_drop (List.mem_of_mem_take hy)))
   (fun i hi=>by rw [Zbu,if_pos hi,Zbw,Nat.add_assoc]; exact ((HB.out.ext hX).ext x.ext).get (8+i) (by omega))).mono fun e w'' he=>⟨he.1,he.2▸Ext.refl _⟩
 have N1:=hid n1; have N2:=hid n2; have HX2:=hid hx2; have HX3:=hid hx3
 clear n1 n2 hx2 hx3
 have hok0:(⟨x2,x3,Frm.numI ((l.drop 4).take 4),Frm.numI ((l.drop 8).take 8),List.replicate 108 0⟩:Frm).Ok:=⟨by simp,by simp⟩
 obtain ⟨f0,hf0⟩:∃ f0:Frm,(⟨x2,x3,Frm.numI ((l.drop 4).take 4),Frm.numI ((l.drop 8).take 8),List.replicate 108 0⟩:Frm)=f0:=⟨_,rfl⟩
 rw [hf0] at hok0
 have HP:Hid ({ f0 with data:=(l.drop 16).take 108 }=Frm.parse l):=hid (by rw [<- hf0]; unfold Frm.parse; rw [show l.getD 2 0=x2 from HX2.out,show l.getD 3 0=x3 from HX3.out])
 have hsz:=Frm.A_size _ hok0
 have hszz:=Frm.A_size _ Za9
 have HS0:=hid hsz; have HSZ:=hid hszz; have HOK:=hid hok0
 have HBT:Hid (Tryz.prog.built 42 [(0,.int .i64 x2),(1,.int .i64 x3),(2,.int .i64 (Frm.numI ((l.drop 4).take 4))),(3,.int .i64 (Frm.numI ((l.drop 8).take 8)))]=some (Frm.A f0)):=hid (by rw [built_four,hf0])
 clear hsz hszz hok0 hf0
 have w2:IntKind.i64.wrap (x2:Int)=x2:=by rw [IntKind.wrap_i64]; omega
 have w3:IntKind.i64.wrap (x3:Int)=x3:=by rw [IntKind.wrap_i64]; omega
 have g1:(8:Int)<=(c:Int):=by omega
 have g2:(16:Int)<=(c:Int):=by omega
 have g3:(124:Int)<=(c:Int):=by omega
 have g4:¬c=4:=by omega
 have g5:¬c=8:=by omega
 have g6:¬c=16:=by omega
 rw [wpE]
 simp only [opsAt,opA,opB,opC,opD,opE,opF,opG]
 iterate 10 ((refine wpEQ_step (fun K hK=>?_); go_simp; refine hK _ ?_; clear hK K))
 (refine wpEQ_step (fun K hK=>?_); go_simp; (apply Exists.intro; refine ⟨fun x=>?_,hK _ ?_⟩; (exact N1.out _ x); clear hK K))
 iterate 2 ((refine wpEQ_step (fun K hK=>?_); go_simp; refine hK _ ?_; clear hK K))
 (refine wpEQ_step (fun K hK=>?_); go_simp; (apply Exists.intro; refine ⟨fun x=>?_,hK _ ?_⟩; (exact N2.out _ x); clear hK K))
 refine wpEQ_build rfl 42 _ rfl (Frm.A f0) (by simp only [List.map_toArray,List.map_cons,List.map_nil,Act.eval]; simp only [Array.getD_eq_getD_getElem?,List.getElem?_toArray,List.getElem?_cons_succ,List.getElem?_cons_zero,Option.getD_some]; exact HBT.out) ?_
 refine wpEQ_nil ?_
 intro W2 hW2
 refine wpE_loud fun K hK=>?_
 go_wp2
 refine hK _ _ ((Ext.refl W2).alloc _) ?_
 clear hK K
 have hF:(W2.alloc (.cells (Frm.A Frm.zero) 42)).heap[W2.heap.size]?=some (.cells (Frm.A Frm.zero) 42 (0,0)):=Zad
 have hX3:Ext w (W2.alloc (.cells (Frm.A Frm.zero) 42)):=Ext.trans hX ((hW2).alloc _)
 have hR3:=(Ext.trans hW2 ((Ext.refl W2).alloc (.cells (Frm.A Frm.zero) 42))).at hR
 have hne:w.heap.size < W2.heap.size:=lt_of_block (hW2.at hR)
 rw [wpE]
 simp only [opsAt,List.map_nil]
 refine wpEQ_nil ?_
 intro W3 hW3
 have hF3:=hW3.at hF
 have hR4:=hW3.at hR3
 have hX4:=Ext.trans hX3 hW3
 generalize W2.heap.size=g at *
 clear hF hX3 hR3 hW3
 simp only [List.drop_succ_cons,List.drop_zero]
 go_wp2_with (refine Zab rfl 42 _ _ rfl g rfl (Frm.A f0) _ rfl 42 ?_ hF3 ?_ ?_ ?_; (rw [HS0.out]; exact aggFrame); (rw [HS0.out,HSZ.out]); exact Frm.A_one _)
 have G:GetAt w g f0 (W3.setRow g (Frm.A f0)):=⟨setRow_heap W3 g _ _ _ _ hF3,(Zah W3 g (Frm.A f0)).at hR4 (by omega),Ext.then hX4 (Zah W3 g (Frm.A f0)) (fun i hi=>by omega),hne⟩
 have HG:=hid G.drew
 clear G hF3 hR4 hX4 hR hW2 c2 c3 N1 N2
 go_wp2
 refine Zci [([0,1,2,3],4)] [] (by kernel_rfl) (by kernel_rfl) (fun _ _ d _ _ h=>by cases d<;>exact h) ?_
 simp only [opsAt,opA,opB,opC,opD,opE,opF,opG]
 generalize (W3.setRow g (Frm.A f0)).drew=W5 at *
 have hB5:BytesAt W5 (some ⟨b,off+16,none⟩) 108 ((l.drop 16).take 108):=(HB.out.ext HG.out.ext).sub 16 108 (by omega)
 have hcp:=copy_frame W5 g f0 HOK.out HG.out.own b (off+16) ((l.drop 16).take 108) hB5 108 (c - 16)
 rw [HP.out] at hcp
 rw [wpMix]
 repeat (refine Zco (fun K hK=>?_); go_simp; refine hK _ ?_; clear hK K)
 refine Zbi ?_
 refine Zca fun K hK=>?_
 go_wp2
 rw [wpMix]
 refine Zbi ?_
 have hokp:(Frm.parse l).Ok:=by rw [<- HP.out]; exact ⟨hB5.len,hB5.byte⟩
 have HG6:=hid (HG.out.setRow (Frm.parse l))
 have HOKP:=hid hokp
 have HS:=hid (Frm.A_size _ hokp)
 clear hcp hB5 HG hokp HP HOK HBT HS0
 generalize W5.setRow g (Frm.A (Frm.parse l))=W6 at *
 go_wp2_with (refine Zae rfl 42 _ rfl ⟨g,0,none⟩ rfl (Frm.A (Frm.parse l)) ?_ ?_ ?_; (rw [HS.out]; exact aggFrame); exact Zaj HG6.out.own)
 refine (fput_b _ W6 HOKP.out).mono ?_
 rintro e W7 ⟨pa,pn,rfl,hpb,hpn,hx7⟩
 have HG7:=hid (HG6.out.more hx7)
 have HB7:=hid (HB.out.ext HG7.out.ext)
 have HPB:=hid hpb; have HPN:=hid hpn
 clear hx7 hpb hpn HG6
 go_wp2_with fail
 refine (bytesEqual_c HPB.out HB7.out HPN.out (.inl (by omega)) pn c).mono ?_
 rintro e W8 ⟨rfl,rfl⟩
 rcases hd:decide ((Frm.parse l).put=l) with _ | _
 ·
  have hG:Hid (got l=.tuple #[.agg (Frm.A Frm.zero),.bool false]):=hid (by
   have hne:¬(Frm.parse l).put=l:=by simpa using hd
   have:Frm.get l=none:=by unfold Frm.get; rw [if_neg (fun h=>hne h.2)]
   unfold got; rw [this]; rfl)
  have HSZ:=hid (Frm.A_size _ Za9)
  clear hd
  go_wp2_with (first
   | (refine wpList_build rfl 42 _ rfl (by simp [Zaq]) ?_; simp only [Array.map_empty,Zaq,Option.getD_some])
   | (refine Zab rfl 42 _ _ rfl w.heap.size rfl (Frm.A Frm.zero) _ rfl 42 ?_ HG7.out.res rfl ?_ ?_; (rw [HSZ.out]; exact aggFrame); exact Frm.A_one _))
  refine bodyPost_ret (Zak Tryz.results124 rfl (by rw [HSZ.out]; exact aggFrame) (setRow_heap W7 _ _ _ _ _ HG7.out.res)) rfl ?_
  exact ⟨by rw [hG.out]; rfl,Ext.then HG7.out.ext (Zah W7 _ _) (fun i hi=>by omega)⟩
 ·
  have hG:Hid (got l=.tuple #[.agg (Frm.A (Frm.parse l)),.bool true]):=hid (by
   have he:(Frm.parse l).put=l:=by simpa using hd
   have:Frm.get l=some (Frm.parse l):=by unfold Frm.get; rw [if_pos ⟨hlen,he⟩]
   unfold got; rw [this]; rfl)
  have HSZ:=hid (Frm.A_size _ Za9)
  clear hd
  go_wp2_with (first
   | (refine Zae rfl 42 _ rfl ⟨g,0,none⟩ rfl (Frm.A (Frm.parse l)) ?_ ?_ ?_; (rw [HS.out]; exact aggFrame); exact Zaj HG7.out.own)
   | (refine Zab rfl 42 _ _ rfl w.heap.size rfl (Frm.A (Frm.parse l)) _ rfl 42 ?_ HG7.out.res ?_ ?_ ?_; (rw [HS.out]; exact aggFrame); (rw [HS.out,HSZ.out]); exact Frm.A_one _))
  refine bodyPost_ret (Zak Tryz.results124 rfl (by rw [HS.out]; exact aggFrame) (setRow_heap W7 _ _ _ _ _ HG7.out.res)) rfl ?_
  exact ⟨by rw [hG.out]; rfl,Ext.then HG7.out.ext (Zah W7 _ _) (fun i hi=>by omega)⟩
theorem fget_c (a:Option Addr) (n c:Nat) (l:List Nat) (w:World) (h:BytesAt w a n l) (hcap:n<=c) :
  Calls Tryz.prog 124 #[.slice a n c] w fun e w'=>e=.returned (got l)/\Ext w w':=by
 by_cases hn:n=128
 ·
  subst hn
  rcases h.cells with h0 | ⟨b,off,rfl,_⟩
  ·
   omega
  ·
   exact fget_128 b off c l w h hcap
 ·
  exact fget_short a n c l w h hn
def blockOf (n:Int):List Nat:=(List.range 108).map fun i:Nat=>((n*((i:Int)+3)+(i:Int) / 8) % 256).toNat
theorem Za1 (n:Int):(blockOf n).length=108:=by simp [blockOf]
theorem blockOf_byte (n:Int):∀ x∈blockOf n,x < 256:=by
 intro x hx
 unfold blockOf at hx
 obtain ⟨i,_,rfl⟩:=List.mem_map.1 hx
 have h1:=Int.emod_nonneg (n*((i:Int)+3)+(i:Int) / 8) (show (256:Int)≠0 by omega)
 have h2:=Int.emod_lt_of_pos (n*((i:Int)+3)+(i:Int) / 8) (show (0:Int) < 256 by omega)
 omega
def blockTo (n:Int) (j:Nat):List Nat:=(blockOf n).take j++List.replicate (108 - j) 0
theorem blockTo_len (n:Int) (j:Nat) (h:j<=108):(blockTo n j).length=108:=by simp [blockTo,Za1]; omega
theorem blockTo_all (n:Int):blockTo n 108=blockOf n:=by unfold blockTo; rw [List.take_of_length_le (by rw [Za1]; omega)]; simp
theorem blockTo_step (n:Int) (j:Nat) (h:j < 108):(blockTo n j).set j ((n*(j+3)+j / 8) % 256).toNat=blockTo n (j+1):=by
 unfold blockTo
 apply List.ext_getElem
 ·
  simp [Za1]; omega
 ·
  intro i h1 h2
  simp only [List.length_set,List.length_append,List.length_take,Za1,List.length_replicate] at h1
  rw [List.getElem_set]
  by_cases hij:j=i
  ·
   subst hij
   rw [if_pos rfl,List.getElem_append_left (by simp [Za1]; omega),List.getElem_take]
   simp [blockOf]
  ·
   rw [if_neg hij]
   by_cases hlt:i < j
   ·
    rw [List.getElem_append_left (by simp [Za1]; omega),List.getElem_append_left (by simp [Za1]; omega),List.getElem_take,List.getElem_take]
   ·
    rw [List.getElem_append_right (by simp [Za1]; omega),List.getElem_append_right (by simp [Za1]; omega)]
    simp
theorem aggBlock:AggType Tryz.prog 120 108:=⟨by kernel_rfl,by kernel_rfl⟩
def z108:List Nat:=List.replicate 108 0
theorem zero_block (w:World):Sem.run Tryz.prog (zeroValue 120) w=.ok (.agg (bA z108)) w:=by kernel_rfl
theorem bA_one (l:List Nat):∀ v∈(bA l).toList,v.oneCell'=true:=by
 intro v hv
 rw [bA_def] at hv
 simp only [List.mem_map] at hv
 obtain ⟨x,_,rfl⟩:=hv
 rfl
def ABlk (w:World) (b:Nat) (l:List Nat):Prop:=w.heap[b]?=some (.cells (bA l) 120 (0,0))
theorem wrap_mod (x:Int):wrap64 x % 256=x % 256:=by unfold wrap64; omega
theorem block_wrap (n:Int) (j:Nat):wrap64 (wrap64 (n*((j:Int)+3))+(j:Int) / 8) % 256=(((n*((j:Int)+3)+(j:Int) / 8) % 256).toNat:Nat):=by
 rw [wrap_mod,Int.add_emod,wrap_mod,<- Int.add_emod]
 have:=Int.emod_nonneg (n*((j:Int)+3)+(j:Int) / 8) (show (256:Int)≠0 by omega)
 omega
def BlockPost (w:World) (n:Int) (e:Ending) (w':World):Prop:=e=.returned (.agg (bA (blockOf n)))/\Ext w w'
set_option maxRecDepth 100000 in
set_option maxHeartbeats 1000000 in
theorem block_c (n:Int) (w:World):Calls Tryz.prog 106 #[.int .i64 n] w (BlockPost w n):=by
 have hz:=zero_block
 go_enter Tryz.func106,Tryz.ntmps106
 go_wp2
 have HS:Hid (Ext w ((w.alloc (.cells (bA z108) 120)).alloc (.cells (bA z108) 120))/\ABlk ((w.alloc (.cells (bA z108) 120)).alloc (.cells (bA z108) 120)) w.heap.size z108 ∧
   ABlk ((w.alloc (.cells (bA z108) 120)).alloc (.cells (bA z108) 120)) (w.heap.size+1) (blockTo n 0)):=hid ⟨((Ext.refl w).alloc _).alloc _,by
  unfold ABlk; rw [heap_alloc_old _ _ (by simp)]; exact heap_alloc_new _ _,by
  have e:(w.alloc (.cells (bA z108) 120)).heap.size=w.heap.size+1:=by simp
  unfold ABlk; rw [<- e]; exact heap_alloc_new _ _⟩
 go_loopw [5] (fun i wr=>∃ j:Nat,i=.int .i64 j/\j<=108/\Ext w wr/\ABlk wr w.heap.size z108/\ABlk wr (w.heap.size+1) (blockTo n j)) (fun i _=>108 - (intOf i).toNat)
 case atStart=>exact ⟨0,rfl,by omega,HS.out⟩
 case round =>
  clear HS
  obtain ⟨j,rfl,hj,hx,hr,hb⟩:=hrel
  by_cases hlt:j < 108
  ·
   have i0:(0:Int)<=(j:Int):=by omega
   have i1:(j:Int) < 108:=by omega
   have cj:wr.cell? ⟨w.heap.size+1,j,none⟩=some (.int .u8 (nth (blockTo n j) j)):=(Zaf hb).trans (Zb5 _ _ (by rw [blockTo_len n j hj]; omega))
   have fj:wr.frozen? ⟨w.heap.size+1,j,none⟩=false:=Zax hb
   have HX:=hid hx; have HR:=hid hr; have HB:=hid hb
   clear hx hr hb
   have hw:=block_wrap n j
   obtain ⟨x,hx⟩:∃ x,((n*((j:Int)+3)+(j:Int) / 8) % 256).toNat=x:=⟨_,rfl⟩
   rw [hx] at hw
   have HST:=hid (blockTo_step n j hlt)
   have HX2:=hid hx
   clear hx
   go_wp2
   go_roundw
   case rel =>
    refine ⟨j+1,by go_num,by omega,Only.setCell (F:=fun _=>False) HX.out (.inl (by simp)) _,?_,?_⟩
    ·
     exact (Zai _ (by omega)).trans HR.out
    ·
     have:=Zar HB.out (i:=j) (.int .u8 (x:Int))
     rw [bA_set,<- HX2.out,HST.out] at this
     rw [<- HX2.out]
     exact this
   case measure=>simp [intOf]; omega
  ·
   obtain rfl:j=108:=by omega
   rw [blockTo_all] at hb
   have hs:=Za3 (blockOf n)
   rw [Za1] at hs
   have HS:=hid hs
   have HZ:Hid ((bA z108).size=108):=hid (by rw [Za3]; simp [z108])
   have HX:=hid hx
   have hr':wr.heap[w.heap.size]?=some (.cells (bA z108) 120 (0,0)):=hr
   have hb':wr.heap[w.heap.size+1]?=some (.cells (bA (blockOf n)) 120 (0,0)):=hb
   clear hs hx hr hb
   go_wp2_with (first
    | (refine Zae rfl 120 _ rfl ⟨w.heap.size+1,0,none⟩ rfl (bA (blockOf n)) ?_ ?_ ?_; (rw [HS.out]; exact aggBlock); exact Zaj hb')
    | (refine Zab rfl 120 _ _ rfl w.heap.size rfl (bA (blockOf n)) _ rfl 120 ?_ hr' ?_ ?_ ?_; (rw [HS.out]; exact aggBlock); (rw [HS.out,HZ.out]); exact bA_one _))
   refine bodyPost_ret (results_cell_row Tryz.results106 _ _ w.heap.size _ (bA (blockOf n)) _ _ rfl (setRow_heap _ _ _ _ _ _ hr') Tryz.underlying120 rfl (by rw [HS.out]; exact aggBlock.2)) rfl ?_
   exact ⟨rfl,Ext.then HX.out (Zah _ _ _) (fun i hi=>by omega)⟩
end Go.Proofs.YtgjnnbomnoafcaaGreatDoor
namespace Go
theorem fold_set (off:Nat):∀ (l:List Value) (k:Nat) (cs:Array Value) (i:Nat),
  (((l.zipIdx k).foldl (fun cs p=>cs.setIfInBounds (off+p.2) p.1) cs)[i]?:Option Value)=if off+k<=i/\i < off+k+l.length/\i < cs.size then l[i - (off+k)]? else cs[i]?
 | [],k,cs,i=>by simp; intro h1 h2; omega
 | x::l,k,cs,i=>by
  rw [List.zipIdx_cons,List.foldl_cons,fold_set off l (k+1) _ i]
  simp only [Array.size_setIfInBounds,Array.getElem?_setIfInBounds,List.length_cons]
  by_cases h1:off+k=i
  ·
   subst h1
   by_cases h2:off+k < cs.size
   ·
    rw [if_neg (by omega),if_pos rfl,if_pos h2,if_pos (by omega)]; simp
   ·
    rw [if_neg (by omega),if_pos rfl,if_neg h2,if_neg (by omega)]
    rw [Array.getElem?_eq_none]; omega
  ·
   by_cases h2:off+(k+1)<=i/\i < off+(k+1)+l.length/\i < cs.size
   ·
    rw [if_pos h2,if_pos (by omega)]
    rw [show i - (off+k)=(i - (off+(k+1)))+1 by omega,List.getElem?_cons_succ]
   ·
    rw [if_neg h2,if_neg h1,if_neg (by omega)]
theorem fill_append (place:Nat->Option (Nat × Nat)):∀ (p q:List (Nat × Value)) (cs:Array Value),Instr.fill place cs (p++q)=(Instr.fill place cs p).bind fun cs'=>Instr.fill place cs' q
 | [],q,cs=>rfl
 | (i,v)::p,q,cs=>by
  rw [List.cons_append]
  simp only [Instr.fill]
  split
  ·
   rfl
  ·
   split
   ·
    rfl
   ·
    exact fill_append place p q _
theorem Zav {P:Program} {ops:Array Oper} {rest:List Oper} {o:Oper} {a:Act} {w:World} {Q:Exit->Act->World->Prop} (hg:o.guard=none) (t:TypeId) (parts:Array (Nat × Operand)) (ho:o.op=.build t parts) (A:Array Value)
  (hb:P.built t (parts.map fun (i,x)=>(i,a.eval x)).toList=some A) (h:wpList P ops Q rest (a.put o.dst (.agg A)) w):wpList P ops Q (o::rest) a w :=
 wpList_build hg t parts ho (by rw [hb]; rfl) (by rw [hb]; exact h)
theorem built_snoc {P:Program} {t:TypeId} {fields:Array Field} {p:List (Nat × Value)} {cs:Array Value} {i off size:Nat} {v:Value} (hu:P.underlying t=some (.struct fields)) (hp:P.built t p=some cs)
  (hpl:((fields.toList.mapM (fun f=>(P.info? f.type).map fun i=>(f.offset,i.size))).bind fun pl=>pl.toArray[i]?)=some (off,size)) (hs:v.cells.size=size) (hfit:off+size<=cs.size) :
  P.built t (p++[(i,v)])=some (v.cells.zipIdx.foldl (fun cs (c,j)=>cs.setIfInBounds (off+j) c) cs):=by
 unfold Program.built at hp ⊢
 rw [hu] at hp ⊢
 cases hi:P.info? t with
 | none=>rw [hi] at hp; cases hp
 | some it =>
  rw [hi] at hp
  cases hz:it.zero with
  | none=>simp only [hz] at hp; cases hp
  | some z =>
   cases hm:fields.toList.mapM (fun f=>(P.info? f.type).map fun i=>(f.offset,i.size)) with
   | none=>rw [hm] at hpl; cases hpl
   | some pl =>
    rw [hm] at hpl
    simp only [hz,hm] at hp ⊢
    rw [fill_append,hp]
    simp only [Option.bind_some] at hpl ⊢
    unfold Instr.fill
    rw [hpl]
    simp only [hs]
    rw [if_neg (by simp; omega)]
    rfl
end Go
namespace Go.Proofs.YtgjnnbomnoafcaaGreatDoor
set_option linter.unusedVariables false
open Go Go.RowKit
theorem frame_struct:∃ fields,Tryz.prog.underlying 42=some (.struct fields)/\((fields.toList.mapM (fun f=>(Tryz.prog.info? f.type).map fun i=>(f.offset,i.size))).bind fun pl=>pl.toArray[4]?)=some (4,108) :=
 ⟨_,Tryz.underlying42,by kernel_rfl⟩
theorem built_five (k s t g:Int) (l:List Nat) (hl:l.length=108):Tryz.prog.built 42 [(0,.int .i64 k),(1,.int .i64 s),(2,.int .i64 t),(3,.int .i64 g),(4,.agg (bA l))]=some (Frm.A ⟨k,s,t,g,l⟩):=by
 obtain ⟨fields,hu,hpl⟩:=frame_struct
 have hz:(⟨k,s,t,g,List.replicate 108 0⟩:Frm).Ok:=⟨by simp,by simp⟩
 have h:=built_snoc hu (built_four k s t g) hpl (v:=.agg (bA l)) (by show (bA l).size=108; rw [Za3,hl]) (by rw [Frm.A_size _ hz]; omega)
 refine h.trans (congrArg some ?_)
 show (bA l).zipIdx.foldl _ _=_
 apply Array.ext_getElem?
 intro i
 rw [<- Array.foldl_toList,Array.toList_zipIdx,fold_set 4 (bA l).toList 0 _ i,Frm.A_size _ hz]
 have hA:∀ f:Frm,Frm.A f=(Frm.cl f).toArray:=Frm.A_def
 rw [hA,hA,bA_def]
 simp only [Frm.cl]
 simp only [List.length_map,hl]
 by_cases h1:4<=i
 ·
  by_cases h2:i < 112
  ·
   rw [if_pos (by omega)]
   simp only [List.getElem?_toArray]
   rw [List.getElem?_append_right (by simp; omega)]
   simp
  ·
   rw [if_neg (by omega),List.getElem?_toArray,List.getElem?_toArray,List.getElem?_append_right (by simp; omega),List.getElem?_append_right (by simp; omega)]
   rw [List.getElem?_eq_none (by simp; omega),List.getElem?_eq_none (by simp [hl]; omega)]
 ·
  rw [if_neg (by omega),List.getElem?_toArray,List.getElem?_toArray,List.getElem?_append_left (by simp; omega),List.getElem?_append_left (by simp; omega)]
def Frm.eqB (f g:Frm):Bool:=f.kind == g.kind && (f.slot == g.slot && (f.stripe == g.stripe && (f.gen == g.gen && f.data == g.data)))
theorem plain8:Tryz.prog.plainKey 5=true:=by kernel_rfl
theorem plainI:Tryz.prog.plainKey 3=true:=by kernel_rfl
theorem cells8:Tryz.prog.cellsOf 5=1:=by kernel_rfl
theorem run_items (d:Nat) (l m:List Nat) (w:World):∀ is:List Nat,(∀ i∈is,i < l.length/\i < m.length) ->
  (Op.eqItems (d+1) 5 1 (bA l) (bA m) is).run Tryz.prog w=.ok (is.all fun i=>nth l i == nth m i) w
 | [],_=>by simp [Op.eqItems]
 | i::is,h=>by
  have h1:=(h i (by simp)).1
  have h2:=(h i (by simp)).2
  have p1:=run_part_plain (P:=Tryz.prog) w plain8 (Zb5 l i h1)
  have p2:=run_part_plain (P:=Tryz.prog) w plain8 (Zb5 m i h2)
  have p3:=run_equalIn_int (P:=Tryz.prog) w d 5 .u8 .u8 (nth l i:Int) (nth m i:Int) Tryz.underlying5
  have p4:=run_items d l m w is (fun j hj=>h j (by simp [hj]))
  have e:((nth l i:Int) == (nth m i:Int))=(nth l i == nth m i):=by
   by_cases hq:nth l i=nth m i
   ·
    rw [hq,beq_self_eq_true,beq_self_eq_true]
   ·
    rw [beq_eq_false_iff_ne.2 hq,beq_eq_false_iff_ne.2 (by omega)]
  simp only [Op.eqItems,Nat.mul_one,Sem.run_bind,p1,p2,p3,Result.andThen_ok,e,List.all_cons]
  cases nth l i == nth m i
  ·
   simp
  ·
   simp [p4]
theorem all_nth (l m:List Nat) (h:l.length=m.length):((List.range l.length).all fun i=>nth l i == nth m i)=(l == m):=by
 rw [Bool.eq_iff_iff]
 simp only [List.all_eq_true,List.mem_range,beq_iff_eq]
 exact ⟨fun hh=>Zbq h hh,fun e i _=>by rw [e]⟩
theorem run_bytes_eq (d:Nat) (t:TypeId) (l m:List Nat) (hl:l.length=108) (hm:m.length=108) (hu:Tryz.prog.underlying t=some (.array 108 5)) (w:World) :
  (Op.equalIn (d+2) t (.agg (bA l)) (.agg (bA m))).run Tryz.prog w=.ok (l == m) w:=by
 obtain ⟨i0,hi,_⟩:=info_parts info8
 rw [run_equalIn_array w (d+1) (bA l) (bA m) hu hi,cells8,run_items d l m w _ (by intro i hi; have:=List.mem_range.1 hi; omega)]
 rw [<- all_nth l m (by omega),hl]
def fld (nm:String) (ty off bo:Nat):Field:={ name:=nm,type:=ty,offset:=off,embedded:=false,tag:="",pkgPath:="",byteOffset:=bo }
theorem Zcp {P:Program} {d:Nat} {xs ys:Array Value} {nm:String} {ty off bo:Nat} {fs:List Field} {a b:Value} {r:Bool} {w:World} (hn:nm≠"_") (ha:(part ty xs off).run P w=.ok a w)
  (hb:(part ty ys off).run P w=.ok b w) (hr:(Op.equalIn d ty a b).run P w=.ok r w):(Op.eqFields d xs ys (fld nm ty off bo::fs)).run P w=if r then (Op.eqFields d xs ys fs).run P w else .ok false w:=by
 have h1:(fld nm ty off bo).name≠"_":=hn
 conv=>lhs; unfold Op.eqFields
 rw [if_pos h1]
 simp only [fld]
 simp only [Sem.run_bind,ha,hb,hr,Result.andThen_ok]
 cases r<;>rfl
open Go.RowKit Go
set_option maxHeartbeats 400000 in
theorem same_some (b off n c b' off' n' c':Nat) (l l':List Nat) (w:World) (h1:n<=140737488355328) (h2:n'<=140737488355328)
  (hl:l.length=n) (hl':l'.length=n') (hc:∀ i,i < n->w.cell? ⟨b,off+i,none⟩=some (.int .u8 (nth l i)))
  (hc':∀ i,i < n'->w.cell? ⟨b',off'+i,none⟩=some (.int .u8 (nth l' i))) (hb:∀ i,nth l i < 256) (hb':∀ i,nth l' i < 256) (hn:n=n') :
  Calls Tryz.prog 36 #[.slice (some ⟨b,off,none⟩) n c,.slice (some ⟨b',off',none⟩) n' c'] w fun e w'=>e=.returned (.bool (decide (l=l')))/\Ext w w':=by
 subst hn
 have HC:=hid hc; have HC':=hid hc'; have HB:=hid hb; have HB':=hid hb'; have HL:=hid hl; have HL':=hid hl'
 clear hc hc' hb hb' hl hl'
 go_enter Tryz.func36,Tryz.ntmps36
 go_wp2
 go_loopw [5] (fun i wr=>∃ k m:Nat,k<=n/\i=.int .i64 k/\wr=w.drewN m/\∀ j,j < k->nth l j=nth l' j) (fun i _=>n - (intOf i).toNat)
 case atStart=>exact ⟨0,0,by omega,rfl,rfl,fun j h=>by omega⟩
 case round =>
  obtain ⟨k,m,hk,rfl,rfl,he⟩:=hrel
  have HE:=hid he
  clear he
  have hm:∀ j,j < k->nth l j=nth l' j:=HE.out
  by_cases hlt:k < n
  ·
   have HS:Hid (nth l k=nth l' k->∀ j,j < k+1->nth l j=nth l' j):=by
    refine hid fun hq j hj=>?_
    by_cases e:j=k
    ·
     rw [e]; exact hq
    ·
     exact hm j (by omega)
   have HN:Hid (nth l k≠nth l' k->decide (l=l')=false):=hid fun hq=>by
    rw [decide_eq_false_iff_not]; intro e; rw [e] at hq; exact hq rfl
   clear hm HE
   have c1:=HC.out k hlt
   have c2:=HC'.out k hlt
   have b1:=HB.out k
   have b2:=HB'.out k
   by_cases hq:nth l k=nth l' k
   ·
    have hq2:((nth l k:Int) != (nth l' k:Int))=false:=by simp [hq]
    have HQ:=hid hq; clear hq
    generalize nth l k=x at *
    generalize nth l' k=y at *
    go_wp2
    go_quiet (fail)
    go_wp2
    go_roundw
    case rel =>
     exact ⟨k+1,_,by omega,by go_num,rfl,HS.out HQ.out⟩
    case measure=>simp [intOf]; omega
   ·
    have hq2:((nth l k:Int) != (nth l' k:Int))=true:=bne_iff_ne.2 (by omega)
    have HD:=hid (HN.out hq)
    clear hq HN HS
    generalize nth l k=x at *
    generalize nth l' k=y at *
    go_wp2
    go_quiet (fail)
    go_wp2
    go_ret
    exact ⟨Zas HD.out.symm,((Ext.refl w).drewN _).drewN _⟩
  ·
   have HD:Hid (decide (l=l')=true):=by
    refine hid ?_
    rw [decide_eq_true_iff]
    exact Zbq (by rw [HL.out,HL'.out]) (fun i hi=>hm i (by rw [HL.out] at hi; omega))
   clear hm HE
   go_wp2
   go_ret
   exact ⟨Zas HD.out.symm,(Ext.refl w).drewN _⟩
theorem same_none (a:Option Addr) (c:Nat) (a':Option Addr) (c':Nat) (w:World) :
  Calls Tryz.prog 36 #[.slice a 0 c,.slice a' 0 c'] w fun e w'=>e=.returned (.bool true)/\Ext w w':=by
 go_enter Tryz.func36,Tryz.ntmps36
 go_wp2
 go_loopw [5] (fun i wr=>i=.int .i64 0/\wr=w) (fun _ _=>0)
 case atStart=>exact ⟨rfl,rfl⟩
 case round =>
  obtain ⟨rfl,rfl⟩:=hrel
  go_wp2
  go_ret
  exact ⟨rfl,Ext.refl _⟩
theorem same_unlike (a:Option Addr) (n c:Nat) (a':Option Addr) (n' c':Nat) (w:World) (hn:n≠n') :
  Calls Tryz.prog 36 #[.slice a n c,.slice a' n' c'] w fun e w'=>e=.returned (.bool false)/\Ext w w':=by
 have hq:((n:Int) != (n':Int))=true:=bne_iff_ne.2 (by omega)
 clear hn
 go_enter Tryz.func36,Tryz.ntmps36
 go_wp2
 go_ret
 exact ⟨rfl,Ext.refl _⟩
theorem same_c {a a':Option Addr} {n n':Nat} {l l':List Nat} (c c':Nat) {w:World} (h:BytesAt w a n l) (h':BytesAt w a' n' l') :
  Calls Tryz.prog 36 #[.slice a n c,.slice a' n' c'] w fun e w'=>e=.returned (.bool (decide (l=l')))/\Ext w w':=by
 by_cases hn:n=n'
 ·
  subst hn
  by_cases h0:n=0
  ·
   subst h0
   have e1:=List.length_eq_zero_iff.1 h.len
   have e2:=List.length_eq_zero_iff.1 h'.len
   subst e1 e2
   exact same_none a c a' c' w
  ·
   rcases h.cells with h1 | ⟨b,off,rfl,hc⟩
   ·
    exact (h0 h1).elim
   ·
    rcases h'.cells with h1 | ⟨b',off',rfl,hc'⟩
    ·
     exact (h0 h1).elim
    ·
     exact same_some b off n c b' off' n c' l l' w h.small h'.small h.len h'.len hc hc' (Zay h.byte) (Zay h'.byte) rfl
 ·
  have e:decide (l=l')=false:=by
   rw [decide_eq_false_iff_not]; intro e; exact hn (by rw [<- h.len,<- h'.len,e])
  rw [e]
  exact same_unlike a n c a' n' c' w hn
end Go.Proofs.YtgjnnbomnoafcaaGreatDoor
