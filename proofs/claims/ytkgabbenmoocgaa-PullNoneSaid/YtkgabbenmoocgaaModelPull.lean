/- What reads documents, as plain functions; no program here. -/
import Derived.Test.YtkgabbenmoocgaaModel
namespace Go.Proofs.Ytkgabbenmoocgaa
set_option linter.unusedSimpArgs false
set_option linter.unusedVariables false
set_option linter.unnecessarySimpa false
open Go.RowKit
def symOk (x : Int) : Bool := decide (1 ≤ x) && decide (x < 257)
def symU (x : Int) : UInt8 := UInt8.ofNat (x - 1).toNat
/-- A document's bytes, the last first. -/
def textL : Nat → Ar → Int → Int → List UInt8 → Option (List UInt8)
  | 0, _, _, _, _ => none
  | k + 1, s, root, row, b =>
    (wGet s (vOf s root).wave row).bind fun x => (vNext s root row).bind fun y =>
    if y.2 && decide ((if symOk x.1 then b ++ [symU x.1] else b).length ≤ 40) then textL k s root y.1 (if symOk x.1 then b ++ [symU x.1] else b) else some (if symOk x.1 then b ++ [symU x.1] else b)
def pText (s : Ar) (root id : Int) : Option (List UInt8 × Bool) :=
  (tPlace s (vOf s root).table id).bind fun p => if p.2 then (textL rounds s root p.1 []).map fun b => (b.reverse, true) else some ([], false)
def partOf (t : List UInt8 × Bool) (a b : Int) : List UInt8 × Int :=
  if t.2 = false then ([], 4) else if a < 0 ∨ b < a ∨ (t.1.length : Int) < b then ([], 3) else ((t.1.take b.toNat).drop a.toNat, 0)
def pPart (s : Ar) (root id a b : Int) : Option (List UInt8 × Int) := (pText s root id).map fun t => partOf t a b
def pAll (s : Ar) (root : Int) : Option (List (Int × Int)) := lAll s (vOf s root).table
/-- Where a walk is behind a byte more. -/
def stepOf (b : UInt8) (z : Int × Int) : Int × Int :=
  if b.toNat % 4 = 0 then (z.1 + 1, z.2) else if b.toNat % 4 = 1 then (z.1, z.2 + 1) else if b.toNat % 4 = 2 then (z.1 - 1, z.2) else (z.1, z.2 - 1)
def walkOf (l : List UInt8) : Int × Int := l.foldl (fun z b => stepOf b z) (0, 0)
end Go.Proofs.Ytkgabbenmoocgaa
