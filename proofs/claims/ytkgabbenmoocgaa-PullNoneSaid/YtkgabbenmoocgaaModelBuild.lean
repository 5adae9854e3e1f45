/- The laws' helper Build as a plain function; no program here. -/
import Derived.Test.YtkgabbenmoocgaaModel
namespace Go.Proofs.Ytkgabbenmoocgaa
set_option linter.unusedSimpArgs false
set_option linter.unusedVariables false
set_option linter.unnecessarySimpa false
open Go.RowKit
/-- What Build holds between its steps. -/
structure Bst where
  s : Ar
  ok : Bool
  p : Parts
  n : Int
/-- Build's closure: a part is replaced by what was told. -/
def nextA (ok : Bool) (h : Int) (r : Int × Int × Ar) : Int × Bool × Ar := if r.2.1 = 0 then (r.1, ok, if h = 0 then r.2.2 else r.2.2.drop h) else (h, false, r.2.2)
/-- One row more: the document's number, the place in it, the symbol. -/
def bStep (rate i : Int) (x : Int × Int × Int) (b : Bst) : Option Bst :=
  (wInsert b.s b.p.wave i x.2.2).bind fun r1 =>
  let t1 := nextA b.ok b.p.wave r1
  (bInsert t1.2.2 b.p.marks i (decide (x.2.1 % rate = 0))).bind fun r2 =>
  let t2 := nextA t1.2.1 b.p.marks r2
  if x.2.1 % rate = 0 then
    (lInsert t2.2.2 b.p.spots b.n (x.1, x.2.1)).bind fun r3 =>
    let t3 := nextA t2.2.1 b.p.spots r3
    (t3.2.2.work 1073741824).map fun u => ⟨u.2, t3.2.1, ⟨t1.1, t2.1, t3.1, b.p.table⟩, wrap64 (b.n + 1)⟩
  else (t2.2.2.work 1073741824).map fun u => ⟨u.2, t2.2.1, ⟨t1.1, t2.1, b.p.spots, b.p.table⟩, b.n⟩
def bRows (rate : Int) : List (Int × Int × Int) → Int → Bst → Option Bst
  | [], _, b => some b
  | x :: l, i, b => if b.ok then (bStep rate i x b).bind fun b => bRows rate l (i + 1) b else some b
/-- The documents' numbers and lengths. -/
def bTable : List (Int × Int) → Bst → Option Bst
  | [], b => some b
  | x :: l, b => (lAll b.s b.p.table).bind fun a => if a.length ≤ 50000 then
      (tAdd b.s b.p.table x.1 x.2).bind fun r => bTable l ⟨(nextA b.ok b.p.table r).2.2, (nextA b.ok b.p.table r).2.1, ⟨b.p.wave, b.p.marks, b.p.spots, (nextA b.ok b.p.table r).1⟩, b.n⟩
    else none
def dropP (s : Ar) (h : Int) : Ar := if h = 0 then s else s.drop h
def bEnd (b : Bst) : Option (Int × Bool × Ar) :=
  let t := if b.ok then nextA true 0 (vMake b.s b.p) else (0, false, b.s)
  let s := dropP (dropP (dropP (dropP t.2.2 b.p.wave) b.p.marks) b.p.spots) b.p.table
  (s.work 1073741824).map fun u => (t.1, t.2.1, if t.2.1 = false ∧ t.1 ≠ 0 then u.2.drop t.1 else u.2)
/-- Build of rows and documents: the root, whether all went well, the arena. -/
def bBuild (s : Ar) (rate : Int) (rows : List (Int × Int × Int)) (docs : List (Int × Int)) : Option (Int × Bool × Ar) :=
  if docs = [] then some (0, true, s)
  else (bRows rate rows 0 ⟨s, true, Parts.zero, 0⟩).bind fun b => (bTable docs b).bind bEnd
end Go.Proofs.Ytkgabbenmoocgaa
