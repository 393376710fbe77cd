/- A rack of disks as plain data. -/
import Derived.Test.YtkmgdglmlmodmaaDoorDiskPure
import Derived.Test.YtkmgdglmlmodmaaDoorErrAs
namespace Go.Proofs.YtkmgdglmlmodmaaDoor
set_option linter.unusedVariables false
instance : Inhabited Dsk := ⟨⟨[], fun _ => none, fun _ => false, false⟩⟩
def oErr : Option Err → Value
  | none => .nilIface
  | some e => e.val
def okind : Option Err → Int
  | none => 0
  | some e => e.kind
def sDiskNew : ByteArray := ⟨#[100, 105, 115, 107, 46, 78, 101, 119]⟩
def sDiskWrite : ByteArray := ⟨#[100, 105, 115, 107, 46, 87, 114, 105, 116, 101]⟩
def sDiskRead : ByteArray := ⟨#[100, 105, 115, 107, 46, 82, 101, 97, 100]⟩
def sDiskFlush : ByteArray := ⟨#[100, 105, 115, 107, 46, 70, 108, 117, 115, 104]⟩
def sDiskRot : ByteArray := ⟨#[100, 105, 115, 107, 46, 82, 111, 116]⟩
def sRackNew : ByteArray := ⟨#[114, 97, 99, 107, 46, 78, 101, 119]⟩
def sRackWrite : ByteArray := ⟨#[114, 97, 99, 107, 46, 87, 114, 105, 116, 101]⟩
def sRackFlush : ByteArray := ⟨#[114, 97, 99, 107, 46, 70, 108, 117, 115, 104]⟩
def sRackRead : ByteArray := ⟨#[114, 97, 99, 107, 46, 82, 101, 97, 100]⟩
namespace Dsk
/-- Why something isn't done to a sector. -/
def refusedE (d : Dsk) (op : ByteArray) (i : Int) (wrong : Bool) : Option Err :=
  if d.dead then some (.fault op i (.no 5)) else if wrong || decide (i < 0) || decide ((d.l.length : Int) ≤ i) then some (.fault op i (.no 1)) else none
end Dsk
structure Rck where
  l : List Dsk
  off : Bool
  fuse : Int
namespace Rck
def has (r : Rck) (i : Int) : Bool := decide (0 ≤ i) && decide (i < (r.l.length : Int))
def dsk (r : Rck) (i : Int) : Dsk := r.l.getD i.toNat default
def up (r : Rck) (i : Int) : Bool := r.has i && !(r.dsk i).dead
def sectors (r : Rck) : Nat := (r.dsk 0).l.length
def online (r : Rck) : List Nat := (List.range r.l.length).filter fun i => r.up i
/-- What is wrong with an operation; 0: nothing is. -/
def may (r : Rck) (i : Int) (wrong : Bool) : Int :=
  if r.has i = false then 1 else if r.off || !r.up i then 5 else if wrong then 1 else if r.fuse = 0 then 5 else 0
/-- The rack behind that question. -/
def asked (r : Rck) (i : Int) (wrong : Bool) : Rck :=
  if r.has i = false then r else if r.off || !r.up i then r else if wrong then r else if r.fuse = 0 then { r with off := true } else if 0 < r.fuse then { r with fuse := r.fuse - 1 } else r
def setD (r : Rck) (i : Int) (d : Dsk) : Rck := { r with l := r.l.set i.toNat d }
def badW (r : Rck) (s : Int) (b : List Nat) : Bool := decide (s < 0) || decide ((r.sectors : Int) ≤ s) || decide (b.length ≠ 128)
def write (r : Rck) (i s : Int) (b : List Nat) : Option Err × Rck :=
  if r.may i (r.badW s b) = 0 then (none, (r.asked i (r.badW s b)).setD i ((r.dsk i).write s.toNat b)) else (some (.fault sRackWrite i (.no (r.may i (r.badW s b)))), r.asked i (r.badW s b))
def flush (r : Rck) (i : Int) : Option Err × Rck :=
  if r.may i false = 0 then (none, (r.asked i false).setD i (r.dsk i).flush) else (some (.fault sRackFlush i (.no (r.may i false))), r.asked i false)
def readE (r : Rck) (i s : Int) : Option Err :=
  if r.has i = false then some (.fault sRackRead i (.no 1)) else if r.off then some (.fault sRackRead i (.no 5)) else ((r.dsk i).refusedE sDiskRead s false).map (.fault sRackRead i)
/-- The bytes of a sector, if it can be read. -/
def read (r : Rck) (i s : Int) : Option (List Nat) := if r.readE i s = none then some ((r.dsk i).read s.toNat) else none
def get (r : Rck) (i s kind slot stripe : Int) : Option Frm :=
  match (r.read i s).bind Frm.get with
  | some f => if f.kind = kind ∧ f.slot = slot ∧ (0 ≤ stripe → f.stripe = stripe) then some f else none
  | none => none
def arm (r : Rck) (n : Int) : Rck := { r with fuse := max n (-1) }
def boot (r : Rck) (bits : List Nat) : Rck := ⟨(List.range r.l.length).map fun i => (r.l.getD i default).crash (bits.getD i 0), false, -1⟩
def die (r : Rck) (i : Int) : Rck := if r.has i then r.setD i (r.dsk i).die else r
def replace (r : Rck) (i : Int) : Rck := if r.has i then r.setD i (r.dsk i).replace else r
def rotOk (r : Rck) (i s at_ : Int) (x : Nat) : Bool := r.has i && (r.dsk i).rotOk s at_ x
def rot (r : Rck) (i s at_ : Int) (x : Nat) : Rck := if r.rotOk i s at_ x then r.setD i ((r.dsk i).rotted s.toNat at_.toNat x) else r
def new (n m : Nat) : Rck := ⟨List.replicate n (Dsk.new m), false, -1⟩
end Rck
end Go.Proofs.YtkmgdglmlmodmaaDoor
