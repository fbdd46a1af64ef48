import Derived.Test.YtahiigcofgnncaaMoorVari
set_option linter.unusedVariables false
set_option linter.unusedSimpArgs false
/-! Plain laws of disks (layer 6): files, and what a crash leaves of them; no program in sight. -/
namespace Moor

structure Fl where
  no : Int
  data : List Int
  sure : Int
deriving DecidableEq
structure Dk where
  cap : Int
  f : List Fl
deriving DecidableEq

def usedF : List Fl → Nat
  | [] => 0
  | f :: l => f.data.length + usedF l
/-- Files by rising numbers, from a last one on. -/
def risF : Int → List Fl → Prop
  | _, [] => True
  | p, f :: l => p < f.no ∧ f.no ≤ 1073741824 ∧ 0 ≤ f.sure ∧ f.sure ≤ f.data.length ∧ risF f.no l
def decRis : (p : Int) → (l : List Fl) → Decidable (risF p l)
  | _, [] => isTrue trivial
  | p, f :: l => by
    have := decRis f.no l
    unfold risF
    infer_instance
instance (p : Int) (l : List Fl) : Decidable (risF p l) := decRis p l
def mayD (d : Dk) : Prop := risF 0 d.f ∧ 0 ≤ d.cap ∧ d.cap ≤ 65536 ∧ d.f.length ≤ 12 ∧ (usedF d.f : Int) ≤ d.cap
instance (d : Dk) : Decidable (mayD d) := by unfold mayD; infer_instance
/-- The place of a file; -1: none. -/
def idxF (no : Int) : List Fl → Option Nat
  | [] => none
  | f :: l => if f.no = no then some 0 else (idxF no l).map (· + 1)
def findD (d : Dk) (no : Int) : Int := if mayD d then match idxF no d.f with
  | some i => (i : Int)
  | none => -1 else -1
def usedD (d : Dk) : Int := if mayD d then (usedF d.f : Int) else 0
def newD (room : Int) : Dk × Bool := if mayD ⟨room, []⟩ then (⟨room, []⟩, true) else (⟨0, []⟩, false)
def makeD (d : Dk) (no : Int) : Dk × Int :=
  if ¬ mayD d ∨ no < 1 ∨ no > 1073741824 then (d, 1) else if findD d no ≠ -1 then (d, 11) else if d.f.length = 12 then (d, 9)
  else (⟨d.cap, d.f.filter (fun f => decide (f.no < no)) ++ ⟨no, [], 0⟩ :: d.f.filter (fun f => decide (f.no > no))⟩, 0)
/-- Something done to a file, if it is there. -/
def atD (d : Dk) (no : Int) (g : Nat → Fl → Dk × Int) : Dk × Int :=
  if mayD d then match idxF no d.f with
    | some i => match d.f[i]? with
      | some f => g i f
      | none => (d, 5)
    | none => (d, 5) else (d, 1)
def withD (d : Dk) (i : Nat) (f : Fl) : Dk := ⟨d.cap, d.f.set i f⟩
def writeD (d : Dk) (no : Int) (b : List Int) : Dk × Int := atD d no fun i f => if (usedF d.f : Int) + b.length > d.cap then (d, 9) else (withD d i ⟨f.no, f.data ++ b, f.sure⟩, 0)
def syncD (d : Dk) (no : Int) : Dk × Int := atD d no fun i f => (withD d i ⟨f.no, f.data, f.data.length⟩, 0)
def cutD (d : Dk) (no n : Int) : Dk × Int := atD d no fun i f => if n < 0 ∨ n > f.data.length then (d, 1) else (withD d i ⟨f.no, f.data.take n.toNat, n⟩, 0)
def dropD (d : Dk) (no : Int) : Dk × Int := atD d no fun i f => (⟨d.cap, d.f.eraseIdx i⟩, 0)
/-- A byte that is torn. -/
def xorT (x : Int) : Int := ((x.toNat ^^^ 165 : Nat) : Int)
/-- Bytes whose last ones, of those from a place on, are torn. -/
def tornB (from_ : Nat) (b : List Int) : List Int := b.take (max from_ (b.length - 8)) ++ (b.drop (max from_ (b.length - 8))).map xorT
def keepN (p : List Int) (loose : Nat) : Nat := min (p.headD 0).toNat loose
def crashF (f : Fl) (p : List Int) : Fl :=
  let k := f.sure.toNat + keepN p (f.data.length - f.sure.toNat)
  ⟨f.no, if p.tail.headD 0 % 2 ≠ 0 then tornB f.sure.toNat (f.data.take k) else f.data.take k, k⟩
def crashL : List Fl → List Int → List Fl
  | [], _ => []
  | f :: l, p => if f.sure = f.data.length then f :: crashL l p else crashF f p :: crashL l (p.drop 2)
def crashD (d : Dk) (p : List Int) : Dk := if mayD d then ⟨d.cap, crashL d.f p⟩ else d
end Moor
