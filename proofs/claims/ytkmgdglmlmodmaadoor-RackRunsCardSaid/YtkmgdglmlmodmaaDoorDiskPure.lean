/- One disk as plain data. No program stands here. -/
import Derived.Test.YtkmgdglmlmodmaaDoorFramePure
namespace Go.Proofs.YtkmgdglmlmodmaaDoor
set_option linter.unusedVariables false
/-- Sectors; what waits, by sector; which rotted; is it dead. -/
structure Dsk where
  l : List (List Nat)
  waits : Nat → Option (List Nat)
  rot : Nat → Bool
  dead : Bool
namespace Dsk
def zeros : List Nat := List.replicate 128 0
def new (n : Nat) : Dsk := ⟨List.replicate n zeros, fun _ => none, fun _ => false, false⟩
def blank (d : Dsk) : Dsk := { d with l := List.replicate d.l.length zeros, waits := fun _ => none, rot := fun _ => false }
def n (d : Dsk) : Nat := d.l.length
/-- Why something isn't done to a sector: 0: it is; 2: the disk is dead; 1: it can't be. -/
def refused (d : Dsk) (i : Int) (wrong : Bool) (arg down : Int) : Int :=
  if d.dead then down else if wrong || decide (i < 0) || decide ((d.l.length : Int) ≤ i) then arg else 0
def write (d : Dsk) (i : Nat) (b : List Nat) : Dsk := { d with waits := fun j => if j = i then some b else d.waits j }
def read (d : Dsk) (i : Nat) : List Nat := (d.waits i).getD (d.l.getD i [])
def put (d : Dsk) (i : Nat) : Dsk := { d with l := d.l.set i ((d.waits i).getD []), rot := fun j => if j = i then false else d.rot j }
/-- Of what waits, some is there: those sectors for which 'f' says so. -/
def settle (d : Dsk) (f : Nat → Bool) : Dsk :=
  { d with l := (List.range d.l.length).map fun i => if f i then (d.waits i).getD (d.l.getD i []) else d.l.getD i [], waits := fun _ => none, rot := fun i => if f i && (d.waits i).isSome then false else d.rot i }
def flush (d : Dsk) : Dsk := d.settle fun _ => true
/-- For which sectors something waits, rising. -/
def waiting (d : Dsk) : List Nat := (List.range d.l.length).filter fun i => (d.waits i).isSome
def crash (d : Dsk) (bits : Nat) : Dsk := d.settle fun i => (bits >>> (d.waiting.idxOf i % 64)) % 2 == 1
def xor4 (l : List Nat) (at_ x : Nat) : List Nat := (List.range 4).foldl (fun l k => l.set (at_ + k) (l.getD (at_ + k) 0 ^^^ x / 2 ^ (8 * k) % 256)) l
def rotOk (d : Dsk) (i : Int) (at_ : Int) (x : Nat) : Bool := !(d.dead || decide (at_ < 0) || decide (124 < at_) || x == 0 || decide (i < 0) || decide ((d.l.length : Int) ≤ i)) && !d.rot i.toNat
def rotted (d : Dsk) (i at_ x : Nat) : Dsk := { d with l := d.l.set i (xor4 (d.l.getD i []) at_ x), rot := fun j => if j = i then true else d.rot j }
def die (d : Dsk) : Dsk := { d.blank with dead := true }
def replace (d : Dsk) : Dsk := { d.blank with dead := false }
/-- It is one: so many bytes in each sector; what waits is for a sector of it. -/
structure Ok (d : Dsk) : Prop where
  len : ∀ x ∈ d.l, x.length = 128
  byte : ∀ x ∈ d.l, ∀ y ∈ x, y < 256
  wlen : ∀ i b, d.waits i = some b → i < d.l.length ∧ b.length = 128 ∧ ∀ y ∈ b, y < 256
end Dsk
end Go.Proofs.YtkmgdglmlmodmaaDoor
