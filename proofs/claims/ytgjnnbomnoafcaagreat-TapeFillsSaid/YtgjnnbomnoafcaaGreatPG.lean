/- Texts of one proof, joined: RotPure, Live. -/
import Derived.Test.YtgjnnbomnoafcaaGreatPD
set_option linter.unusedVariables false
set_option linter.unusedSimpArgs false
namespace Go.Proofs.YtgjnnbomnoafcaaGreat
namespace Crc
def w4 (a b c d:Nat):Nat:=((a ^^^ 256*b) ^^^ 65536*c) ^^^ 16777216*d
end Crc
namespace Dsk
end Dsk
namespace Frm
end Frm
set_option linter.unusedVariables false
namespace Dsk
theorem write_read (D:Dsk) (i j:Nat) (b:List Nat):(D.write i b).read j=if j=i then b else D.read j:=by
 unfold write read
 by_cases h:j=i<;>simp [h]
theorem settle_len (D:Dsk) (f:Nat->Bool):(D.settle f).l.length=D.l.length:=by simp [settle]
theorem settle_read (D:Dsk) (f:Nat->Bool) (j:Nat) (hj:j < D.l.length):(D.settle f).read j=if f j then D.read j else D.l.getD j []:=by
 unfold settle read
 simp [List.getD_eq_getElem?_getD,hj]
theorem flush_read (D:Dsk) (j:Nat) (hj:j < D.l.length):D.flush.read j=D.read j:=by
 unfold flush; rw [settle_read D _ j hj]; simp
theorem flush_dead (D:Dsk):D.flush.dead=D.dead:=rfl
theorem flush_len (D:Dsk):D.flush.l.length=D.l.length:=settle_len D _
theorem write_len (D:Dsk) (i:Nat) (b:List Nat):(D.write i b).l.length=D.l.length:=rfl
theorem new_len (m:Nat):(Dsk.new m).l.length=m:=by simp [Dsk.new]
end Dsk
theorem Frm.right_of {f:Frm} (h1:1<=f.kind) (h2:f.kind<=3) (h3:0<=f.slot) (h4:f.slot<=7) (h5:0<=f.stripe) (h6:f.stripe<=63) (h7:0<=f.gen) (h8:f.gen<=1152921504606846976):f.right=true:=by
 unfold Frm.right Frm.isIn
 rw [decide_eq_true h1,decide_eq_true h2,decide_eq_true h3,decide_eq_true h4,decide_eq_true h5,decide_eq_true h6,decide_eq_true h7,decide_eq_true h8]; rfl
structure Live (R:Rck) (n m:Nat):Prop where
 len:R.l.length=n
 secs:∀ j:Nat,j < n->(R.dsk j).l.length=m
 off:R.off=false
 fuse:R.fuse=-1
 pos:1<=n
namespace Live
variable {R:Rck} {n m:Nat}
theorem new (n m:Nat) (hn:1<=n):Live (Rck.new n m) n m:=by
 refine ⟨by simp [Rck.new],fun j hj=>?_,rfl,rfl,hn⟩
 unfold Rck.dsk Rck.new
 simp [List.getD_eq_getElem?_getD,hj,Dsk.new]
theorem new_dsk (n m j:Nat) (hj:j < n):(Rck.new n m).dsk j=Dsk.new m:=by
 unfold Rck.dsk Rck.new
 simp [List.getD_eq_getElem?_getD,hj]
theorem has (h:Live R n m) {i:Nat} (hi:i < n):R.has (i:Int)=true:=by unfold Rck.has; rw [h.len]; simp; omega
theorem sectors (h:Live R n m):R.sectors=m:=h.secs 0 h.pos
theorem readE (h:Live R n m) {i s:Nat} (hi:i < n) (ha:(R.dsk i).dead=false) (hs:s < m):R.readE i s=none:=by
 unfold Rck.readE
 rw [h.has hi,h.off]
 have:(R.dsk i).refusedE sDiskRead s false=none:=by
  unfold Dsk.refusedE
  rw [ha,h.secs i hi]; simp; omega
 rw [this]; rfl
theorem readE_dead (h:Live R n m) {i:Nat} (s:Int) (hi:i < n) (ha:(R.dsk i).dead=true):R.readE i s=some (.fault sRackRead i (.fault sDiskRead s (.no 5))):=by
 unfold Rck.readE
 rw [h.has hi,h.off]
 unfold Dsk.refusedE
 rw [ha]; rfl
theorem read (h:Live R n m) {i s:Nat} (hi:i < n) (hs:s < m):R.read i s=if (R.dsk i).dead then none else some ((R.dsk i).read s):=by
 unfold Rck.read
 rcases ha:(R.dsk i).dead with _ | _
 ·
  rw [h.readE hi ha hs]; rfl
 ·
  rw [h.readE_dead s hi ha]; rfl
theorem get (h:Live R n m) {i s:Nat} (hi:i < n) (hs:s < m) (ha:(R.dsk i).dead=false) (kind slot stripe:Int):R.get i s kind slot stripe =
  match Frm.get ((R.dsk i).read s) with
  | some f=>if f.kind=kind/\f.slot=slot/\(0<=stripe->f.stripe=stripe) then some f else none
  | none=>none:=by
 unfold Rck.get
 rw [h.read hi hs,ha]; rfl
theorem get_dead (h:Live R n m) {i s:Nat} (hi:i < n) (hs:s < m) (ha:(R.dsk i).dead=true) (kind slot stripe:Int):R.get i s kind slot stripe=none:=by
 unfold Rck.get
 rw [h.read hi hs,ha]; rfl
end Live
end Go.Proofs.YtgjnnbomnoafcaaGreat
