/- The program's functions on an arena as plain functions: what each computes, and what it leaves of the arena; no program here. -/
import Derived.Test.YtkgabbenmoocgaaLeafPure
import Derived.RowKit
namespace Go.Proofs.Ytkgabbenmoocgaa
set_option linter.unusedSimpArgs false
set_option linter.unusedVariables false
set_option linter.unnecessarySimpa false
open Go.RowKit
/-- A node. -/
structure Nd where
  tag : Int
  k0 : Int
  k1 : Int
  k2 : Int
  k3 : Int
  a : Int
  b : Int
def Nd.zero : Nd := ⟨0, 0, 0, 0, 0, 0, 0⟩
/-- What an arena holds. -/
structure Ar where
  size : Nat
  node : Nat → Nd
  count : Nat → Int
  used : Nat → Bool
  wait : List Nat
  busy : Int
  made : Int
def upd {α : Type} (f : Nat → α) (i : Nat) (v : α) : Nat → α := fun j => if j = i then v else f j
def u64 (x : Int) : Int := IntKind.u64.wrap x
def imin (a b : Int) : Int := if a < b then a else b
def imax (a b : Int) : Int := if a < b then b else a
/-- The rounds that a loop or a recursion may take. -/
def rounds : Nat := 10000
/-! ### arena -/
def Ar.new (size : Nat) : Ar := ⟨size, fun _ => Nd.zero, fun _ => 0, fun _ => false, [], 0, 0⟩
def Ar.cnt (s : Ar) (h : Int) : Int := if 1 ≤ h ∧ h ≤ s.size then s.count h.toNat else 0
def Ar.has (s : Ar) (h : Int) : Bool := decide (1 ≤ h) && (decide (h ≤ s.size) && s.used h.toNat)
def Ar.get (s : Ar) (h : Int) : Nd := if s.has h then s.node h.toNat else Nd.zero
def Ar.keep (s : Ar) (h : Int) : Ar := if s.cnt h = 0 then s else { s with count := upd s.count h.toNat (wrap64 (s.cnt h + 1)) }
def Ar.drop (s : Ar) (h : Int) : Ar :=
  if s.cnt h = 0 then s
  else { s with count := upd s.count h.toNat (wrap64 (s.cnt h - 1)), wait := if wrap64 (s.cnt h - 1) = 0 then s.wait ++ [h.toNat] else s.wait }
/-- What Keep and Drop tell. -/
def Ar.cntE (s : Ar) (h : Int) : Int := if s.cnt h = 0 then 9 else 0
def Ar.dropAll (s : Ar) (l : List Int) : Ar := l.foldl Ar.drop s
def freeFrom (used : Nat → Bool) (size : Nat) : Nat → Nat → Int
  | 0, _ => 0
  | d + 1, h => if used h then freeFrom used size d (h + 1) else h
def Ar.free (s : Ar) : Int := freeFrom s.used s.size s.size 1
def Nd.kids (n : Nd) : List Int := [n.k0, n.k1, n.k2, n.k3]
def Ar.bad (s : Ar) (l : List Int) : Bool := l.any fun k => k != 0 && s.cnt k == 0
def incAll (c : Nat → Int) : List Int → Nat → Int
  | [] => c
  | k :: l => incAll (if k = 0 then c else upd c k.toNat (wrap64 (c k.toNat + 1))) l
/-- Make: the handle, the error, the arena. -/
def Ar.make (s : Ar) (n : Nd) : Int × Int × Ar :=
  if n.tag < 1 ∨ 6 < n.tag then (0, 1, s)
  else if s.bad n.kids then (0, 9, s)
  else if s.free = 0 then (0, 2, s)
  else (s.free, 0, { s with node := upd s.node s.free.toNat n, count := upd (incAll s.count n.kids) s.free.toNat 1, used := upd s.used s.free.toNat true, busy := wrap64 (s.busy + 1), made := wrap64 (s.made + 1) })
def Ar.workL : Nat → Ar → Int → Int → Option (Int × Ar)
  | 0, _, _, _ => none
  | k + 1, s, most, n =>
    if most ≤ n then some (n, s)
    else match s.wait with
      | [] => some (n, s)
      | h :: l => Ar.workL k (({ s with wait := l, node := upd s.node h Nd.zero, used := upd s.used h false, busy := wrap64 (s.busy - 1) } : Ar).dropAll (s.node h).kids) most (wrap64 (n + 1))
def Ar.work (s : Ar) (most : Int) : Option (Int × Ar) := Ar.workL rounds s most 0
/-! ### a leaf's functions at whatever leaf there may be -/
def lfOk (a b : Int) : Bool := decide (Rt a.toNat b)
def lfL (a b : Int) : List Bool := if Rt a.toNat b then unpack a.toNat b.toNat else []
def rankL (l : List Bool) (i : Int) : Int := (l.take i.toNat).count true
def insOk (ok : Bool) (l : List Bool) (i : Int) : Bool := ok && (decide (0 ≤ i) && (decide (i ≤ l.length) && decide ((l.length : Int) < 64)))
def insR (ok : Bool) (l : List Bool) (i : Int) (one : Bool) : List Bool := if insOk ok l i then insL l i.toNat one else []
def delOk (ok : Bool) (l : List Bool) (i : Int) : Bool := ok && (decide (0 ≤ i) && decide (i < l.length))
def delR (ok : Bool) (l : List Bool) (i : Int) : List Bool := if delOk ok l i then l.eraseIdx i.toNat else []
/-! ### bits -/
def bIs (s : Ar) (h : Int) : Bool := s.has h && (decide (0 < s.cnt h) && (decide ((s.get h).tag = 1) || decide ((s.get h).tag = 2)))
def bLen (s : Ar) (h : Int) : Int := if bIs s h then (if (s.get h).tag = 1 then wrap64 (s.get h).b else wrap64 (s.get h).a) else 0
def lfB (n : Nd) : List Bool := lfL n.a (wrap64 n.b)
def lfK (n : Nd) : Bool := lfOk n.a (wrap64 n.b)
def bOnes (s : Ar) (h : Int) : Int := if bIs s h then (if (s.get h).tag = 1 then rankL (lfB (s.get h)) (wrap64 (s.get h).b) else wrap64 (s.get h).b) else 0
def bGetL : Nat → Ar → Int → Int → Option Bool
  | 0, _, _, _ => none
  | k + 1, s, h, i =>
    if (s.get h).tag = 1 then some (getL (lfB (s.get h)) i)
    else if bLen s (s.get h).k0 ≤ i then bGetL k s (s.get h).k1 (wrap64 (i - bLen s (s.get h).k0))
    else bGetL k s (s.get h).k0 i
/-- Get: the bit, and whether there is one. -/
def bGet (s : Ar) (h i : Int) : Option (Bool × Bool) := if i < 0 ∨ bLen s h ≤ i then some (false, false) else (bGetL rounds s h i).bind fun b => some (b, true)
def bRankL : Nat → Ar → Int → Int → Int → Option Int
  | 0, _, _, _, _ => none
  | k + 1, s, h, i, ahead =>
    if (s.get h).tag = 1 then some (wrap64 (ahead + rankL (lfB (s.get h)) i))
    else if bLen s (s.get h).k0 < i then bRankL k s (s.get h).k1 (wrap64 (i - bLen s (s.get h).k0)) (wrap64 (ahead + bOnes s (s.get h).k0))
    else bRankL k s (s.get h).k0 i ahead
def bRank (s : Ar) (h i : Int) : Option Int := if imin (imax i 0) (bLen s h) = 0 then some 0 else bRankL rounds s h (imin (imax i 0) (bLen s h)) 0
def bAlike (s : Ar) (h : Int) (one : Bool) : Int := if one then bOnes s h else wrap64 (bLen s h - bOnes s h)
/-- f from i on, d times. -/
def eachO {α : Type} (f : Int → Option α) : Nat → Int → Option (List α)
  | 0, _ => some []
  | d + 1, i => (f i).bind fun x => (eachO f d (i + 1)).bind fun l => some (x :: l)
def bAll (s : Ar) (h : Int) : Option (List Bool) := eachO (fun i => (bGet s h i).map (·.1)) (bLen s h).toNat 0
/-- A tree that makes nodes: its arena, its error. -/
structure Tb where
  s : Ar
  e : Int
def Tb.drops (t : Tb) (l : List Int) : Tb := { t with s := t.s.dropAll l }
def Tb.keep (t : Tb) (h : Int) : Tb := { t with s := t.s.keep h }
/-- A node of kids that are handed over; what is dropped behind it. -/
def Tb.nodeD (t : Tb) (n : Nd) (l : List Int) : Int × Tb :=
  if t.e = 0 then ((t.s.make n).1, ⟨(t.s.make n).2.2.dropAll l, (t.s.make n).2.1⟩) else (0, t.drops l)
def Tb.node (t : Tb) (n : Nd) : Int × Tb := t.nodeD n n.kids
def Tb.leaf (t : Tb) (l : List Bool) : Int × Tb := t.node ⟨1, 0, 0, 0, 0, pack l, l.length⟩
def Tb.pair (t : Tb) (x y : Int) : Int × Tb :=
  t.node ⟨2, x, y, 0, 0, u64 (wrap64 (bLen t.s x + bLen t.s y)), u64 (wrap64 (bOnes t.s x + bOnes t.s y))⟩
def bHigh : Nat → Ar → Int → Option Int
  | 0, _, _ => none
  | k + 1, s, h =>
    if bIs s h then
      if (s.get h).tag = 1 then some 1
      else (bHigh k s (s.get h).k0).bind fun p => (bHigh k s (s.get h).k1).bind fun q => some (wrap64 (1 + imax p q))
    else some 0
/-- Both kids of a fork that is handed over: the tree behind it. -/
def Tb.opened (t : Tb) (h : Int) : Tb := ⟨((t.s.keep (t.s.get h).k0).keep (t.s.get h).k1).drop h, t.e⟩
def Tb.fork (t : Tb) (x y : Int) : Option (Int × Tb) :=
  if t.e = 0 then
    (bHigh rounds t.s x).bind fun p => (bHigh rounds t.s y).bind fun q =>
    if wrap64 (q + 1) < p then
      let n := t.s.get x; let t1 := t.opened x
      (bHigh rounds t1.s n.k0).bind fun a => (bHigh rounds t1.s n.k1).bind fun b =>
      if b ≤ a then some ((t1.pair n.k1 y).2.pair n.k0 (t1.pair n.k1 y).1)
      else
        let m := t1.s.get n.k1; let t2 := t1.opened n.k1
        let r := t2.pair n.k0 m.k0; let r' := r.2.pair m.k1 y
        some (r'.2.pair r.1 r'.1)
    else if wrap64 (p + 1) < q then
      let n := t.s.get y; let t1 := t.opened y
      (bHigh rounds t1.s n.k1).bind fun a => (bHigh rounds t1.s n.k0).bind fun b =>
      if b ≤ a then some ((t1.pair x n.k0).2.pair (t1.pair x n.k0).1 n.k1)
      else
        let m := t1.s.get n.k0; let t2 := t1.opened n.k0
        let r := t2.pair x m.k0; let r' := r.2.pair m.k1 n.k1
        some (r'.2.pair r.1 r'.1)
    else some (t.pair x y)
  else some (0, t.drops [x, y])
def Tb.pairOr (t : Tb) (x y : Int) : Int × Tb := if t.e = 0 then t.pair x y else (0, t.drops [x, y])
def Tb.two (t : Tb) (a b : List Bool) : Int × Tb := (t.leaf a).2.leaf b |> fun r => r.2.pairOr (t.leaf a).1 r.1
def Tb.halves (t : Tb) (a b : List Bool) : Int × Tb :=
  if (a.length : Int) + b.length ≤ 64 then t.leaf (a ++ b) else t.two ((a ++ b).take ((a.length + b.length + 1) / 2)) ((a ++ b).drop ((a.length + b.length + 1) / 2))
def Tb.insert : Nat → Tb → Int → Int → Bool → Option (Int × Tb)
  | 0, _, _, _, _ => none
  | k + 1, t, h, i, one =>
    if bIs t.s h then
      let n := t.s.get h
      if n.tag = 1 then
        if insOk (lfK n) (lfB n) i then some (t.leaf (insR (lfK n) (lfB n) i one))
        else
          let a := (lfB n).take 32; let b := (lfB n).drop 32
          if i ≤ a.length then some (t.two (insR true a i one) b) else some (t.two a (insR true b (wrap64 (i - a.length)) one))
      else if bLen t.s n.k0 < i then ((t.keep n.k0).insert k n.k1 (wrap64 (i - bLen t.s n.k0)) one).bind fun r => r.2.fork n.k0 r.1
      else (t.insert k n.k0 i one).bind fun r => (r.2.keep n.k1).fork r.1 n.k1
    else some (t.leaf (insR true [] 0 one))
def Tb.small (s : Ar) (h : Int) : Bool := bIs s h && (decide ((s.get h).tag = 1) && decide ((s.get h).b < 16))
def Tb.pour : Nat → Tb → Int → Int → Bool → Option (Int × Tb)
  | 0, _, _, _, _ => none
  | k + 1, t, h, small, ahead =>
    let n := t.s.get h; let m := t.s.get small
    if n.tag = 1 then some (if ahead then (t.drops [h, small]).halves (lfB m) (lfB n) else (t.drops [h, small]).halves (lfB n) (lfB m))
    else if ahead then ((t.opened h).pour k n.k0 small ahead).bind fun r => r.2.fork r.1 n.k1
    else ((t.opened h).pour k n.k1 small ahead).bind fun r => r.2.fork n.k0 r.1
def Tb.both (t : Tb) (x y : Int) : Option (Int × Tb) :=
  if t.e = 0 then
    if x = 0 then some (y, t) else if y = 0 then some (x, t)
    else if Tb.small t.s x then t.pour rounds y x true
    else if Tb.small t.s y then t.pour rounds x y false
    else t.fork x y
  else some (0, t.drops [x, y])
def Tb.cut : Nat → Tb → Int → Int → Option (Int × Tb)
  | 0, _, _, _ => none
  | k + 1, t, h, i =>
    let n := t.s.get h
    if n.tag = 1 then (if delR (lfK n) (lfB n) i = [] then some (0, t) else some (t.leaf (delR (lfK n) (lfB n) i)))
    else if bLen t.s n.k0 ≤ i then ((t.keep n.k0).cut k n.k1 (wrap64 (i - bLen t.s n.k0))).bind fun r => r.2.both n.k0 r.1
    else (t.cut k n.k0 i).bind fun r => (r.2.keep n.k1).both r.1 n.k1
/-- What was made, or an error. -/
def Tb.told (r : Int × Tb) : Int × Int × Ar := if r.2.e = 0 then (r.1, 0, r.2.s) else (0, r.2.e, r.2.s)
def bInsert (s : Ar) (h i : Int) (one : Bool) : Option (Int × Int × Ar) :=
  if i < 0 ∨ bLen s h < i then some (0, 3, s) else (Tb.insert rounds ⟨s, 0⟩ h i one).map Tb.told
def bDelete (s : Ar) (h i : Int) : Option (Int × Int × Ar) :=
  if i < 0 ∨ bLen s h ≤ i then some (0, 3, s) else (Tb.cut rounds ⟨s, 0⟩ h i).map Tb.told
/-! ### wave -/
def wIsR (s : Ar) (h : Int) : Bool := s.has h && (decide (0 < s.cnt h) && decide ((s.get h).tag = 3))
def symBit (s level : Int) : Bool := decide (0 ≤ s) && decide (s < 257) && decide (0 ≤ level) && decide (level < 9) && s.toNat.testBit (8 - level).toNat
def wIs (s : Int) : Bool := decide (0 ≤ s) && decide (s < 257)
def Nd.kid (n : Nd) (one : Bool) : Int := if one then n.k2 else n.k1
def wAlike (s : Ar) (h i : Int) (one : Bool) : Option Int :=
  (bRank s h (imin (imax i 0) (bLen s h))).map fun r => if one then r else wrap64 (imin (imax i 0) (bLen s h) - r)
def wLen (s : Ar) (h : Int) : Int := bLen s (s.get h).k0
def wGetL : Nat → Ar → Int → Int → Int → Option Int
  | 0, _, _, _, x => some x
  | d + 1, s, h, i, x => (bGet s (s.get h).k0 i).bind fun o => (wAlike s (s.get h).k0 i o.1).bind fun j =>
    wGetL d s ((s.get h).kid o.1) j (if o.1 then wrap64 (wrap64 (x * 2) + 1) else wrap64 (x * 2))
def wGet (s : Ar) (h i : Int) : Option (Int × Bool) := if i < 0 ∨ wLen s h ≤ i then some (0, false) else (wGetL 9 s h i 0).map fun x => (x, true)
/-- d: the levels that are left. -/
def wRankL : Nat → Ar → Int → Int → Int → Option Int
  | 0, _, _, _, i => some i
  | d + 1, s, h, x, i => (wAlike s (s.get h).k0 i (symBit x (8 - d))).bind fun j =>
    if 0 < j then wRankL d s ((s.get h).kid (symBit x (8 - d))) x j else some j
def wRank (s : Ar) (h x i : Int) : Option Int := if wIs x then wRankL 9 s h x i else some 0
def wBeforeL : Nat → Ar → Int → Int → Int → Option Int
  | 0, _, _, _, ahead => some ahead
  | d + 1, s, h, x, ahead =>
    if symBit x (8 - d) then (wAlike s (s.get h).k0 (bLen s (s.get h).k0) false).bind fun j => wBeforeL d s ((s.get h).kid true) x (wrap64 (ahead + j))
    else wBeforeL d s ((s.get h).kid false) x ahead
def wBefore (s : Ar) (h x : Int) : Option Int := if x < 0 then some 0 else if 257 ≤ x then some (wLen s h) else wBeforeL 9 s h x 0
def wAll (s : Ar) (h : Int) : Option (List Int) := eachO (fun i => (wGet s h i).map (·.1)) (wLen s h).toNat 0
def wMade (s : Ar) (n : Nd) (e : Int) : Int × Int × Ar :=
  if e = 0 ∧ n.k0 ≠ 0 then ((s.make n).1, (s.make n).2.1, (s.make n).2.2.dropAll n.kids) else (0, e, s.dropAll n.kids)
/-- d: the levels that are left. -/
def wInsertL : Nat → Ar → Int → Int → Int → Option (Int × Int × Ar)
  | 0, s, _, _, _ => some (0, 0, s)
  | d + 1, s, h, i, x =>
    let n := s.get h; let one := symBit x (8 - d)
    (wAlike s n.k0 i one).bind fun j => (wInsertL d s (n.kid one) j x).bind fun u =>
    if u.2.1 = 0 then
      (bInsert (u.2.2.keep (n.kid !one)) n.k0 i one).bind fun r =>
      some (wMade r.2.2 ⟨3, r.1, if one then n.k1 else u.1, if one then u.1 else n.k2, 0, 0, 0⟩ r.2.1)
    else some (0, u.2.1, u.2.2)
def wCutL : Nat → Ar → Int → Int → Option (Int × Int × Ar)
  | 0, s, _, _ => some (0, 0, s)
  | d + 1, s, h, i =>
    let n := s.get h
    (bGet s n.k0 i).bind fun o => (wAlike s n.k0 i o.1).bind fun j => (wCutL d s (n.kid o.1) j).bind fun u =>
    if u.2.1 = 0 then
      (bDelete (u.2.2.keep (n.kid !o.1)) n.k0 i).bind fun r =>
      some (wMade r.2.2 ⟨3, r.1, if o.1 then n.k1 else u.1, if o.1 then u.1 else n.k2, 0, 0, 0⟩ r.2.1)
    else some (0, u.2.1, u.2.2)
def wInsert (s : Ar) (h i x : Int) : Option (Int × Int × Ar) :=
  if wIs x then (if i < 0 ∨ wLen s h < i then some (0, 3, s) else wInsertL 9 s h i x) else some (0, 1, s)
def wDelete (s : Ar) (h i : Int) : Option (Int × Int × Ar) := if i < 0 ∨ wLen s h ≤ i then some (0, 3, s) else wCutL 9 s h i
/-! ### list -/
def lIs (s : Ar) (h : Int) : Bool := s.has h && (decide (0 < s.cnt h) && (decide ((s.get h).tag = 4) || decide ((s.get h).tag = 5)))
def lLen (s : Ar) (h : Int) : Int := if lIs s h then (if (s.get h).tag = 4 then 1 else wrap64 (s.get h).a) else 0
def lGetL : Nat → Ar → Int → Int → Option (Int × Int)
  | 0, _, _, _ => none
  | k + 1, s, h, i =>
    if (s.get h).tag = 5 then
      if lLen s (s.get h).k0 ≤ i then lGetL k s (s.get h).k1 (wrap64 (i - lLen s (s.get h).k0)) else lGetL k s (s.get h).k0 i
    else some (wrap64 (s.get h).a, wrap64 (s.get h).b)
def lGet (s : Ar) (h i : Int) : Option ((Int × Int) × Bool) := if i < 0 ∨ lLen s h ≤ i then some ((0, 0), false) else (lGetL rounds s h i).map fun x => (x, true)
def lAll (s : Ar) (h : Int) : Option (List (Int × Int)) := eachO (fun i => (lGet s h i).map (·.1)) (lLen s h).toNat 0
def Tb.lnode (t : Tb) (n : Nd) : Int × Tb := t.nodeD n [n.k0, n.k1]
def Tb.item (t : Tb) (x : Int × Int) : Int × Tb := t.lnode ⟨4, 0, 0, 0, 0, u64 x.1, u64 x.2⟩
def Tb.lpair (t : Tb) (x y : Int) : Int × Tb := t.lnode ⟨5, x, y, 0, 0, u64 (wrap64 (lLen t.s x + lLen t.s y)), 0⟩
def lHigh : Nat → Ar → Int → Option Int
  | 0, _, _ => none
  | k + 1, s, h =>
    if lIs s h then
      if (s.get h).tag = 4 then some 1
      else (lHigh k s (s.get h).k0).bind fun p => (lHigh k s (s.get h).k1).bind fun q => some (wrap64 (1 + imax p q))
    else some 0
def Tb.join (t : Tb) (x y : Int) : Option (Int × Tb) :=
  (lHigh rounds t.s x).bind fun p => (lHigh rounds t.s y).bind fun q =>
  if t.e = 0 then
    if x = 0 ∨ y = 0 then some (wrap64 (x + y), t)
    else if wrap64 (q + 1) < p then
      let n := t.s.get x; let t1 := t.opened x
      (lHigh rounds t1.s n.k0).bind fun a => (lHigh rounds t1.s n.k1).bind fun b =>
      if b ≤ a then some ((t1.lpair n.k1 y).2.lpair n.k0 (t1.lpair n.k1 y).1)
      else
        let m := t1.s.get n.k1; let t2 := t1.opened n.k1
        let r := t2.lpair n.k0 m.k0; let r' := r.2.lpair m.k1 y
        some (r'.2.lpair r.1 r'.1)
    else if wrap64 (p + 1) < q then
      let n := t.s.get y; let t1 := t.opened y
      (lHigh rounds t1.s n.k1).bind fun a => (lHigh rounds t1.s n.k0).bind fun b =>
      if b ≤ a then some ((t1.lpair x n.k0).2.lpair (t1.lpair x n.k0).1 n.k1)
      else
        let m := t1.s.get n.k0; let t2 := t1.opened n.k0
        let r := t2.lpair x m.k0; let r' := r.2.lpair m.k1 n.k1
        some (r'.2.lpair r.1 r'.1)
    else some (t.lpair x y)
  else some (0, t.drops [x, y])
def Tb.change (one : Tb → Int → Option (Int × Tb)) : Nat → Tb → Int → Int → Option (Int × Tb)
  | 0, _, _, _ => none
  | k + 1, t, h, i =>
    if lIs t.s h = false ∨ (t.s.get h).tag = 4 then one t h
    else if lLen t.s (t.s.get h).k0 ≤ i then (Tb.change one k (t.keep (t.s.get h).k0) (t.s.get h).k1 (wrap64 (i - lLen t.s (t.s.get h).k0))).bind fun r => r.2.join (t.s.get h).k0 r.1
    else (Tb.change one k t (t.s.get h).k0 i).bind fun r => (r.2.keep (t.s.get h).k1).join r.1 (t.s.get h).k1
def lMay (x : Int × Int) (i most : Int) : Int := if x.1 < 0 ∨ x.2 < 0 then 1 else if i < 0 ∨ most < i then 3 else 0
def lInsOne (n i : Int) (x : Int × Int) (t : Tb) (h : Int) : Option (Int × Tb) :=
  let r := t.item x
  if n = 0 then some r else if i = n then (r.2.keep h).join h r.1 else (r.2.keep h).join r.1 h
def lInsert (s : Ar) (h i : Int) (x : Int × Int) : Option (Int × Int × Ar) :=
  if lMay x i (lLen s h) = 0 then (Tb.change (lInsOne (lLen s h) i x) rounds ⟨s, 0⟩ h (imin i (imax (wrap64 (lLen s h - 1)) 0))).map Tb.told
  else some (0, lMay x i (lLen s h), s)
def lDelete (s : Ar) (h i : Int) : Option (Int × Int × Ar) :=
  if i < 0 ∨ lLen s h ≤ i then some (0, 3, s) else (Tb.change (fun t _ => some (0, t)) rounds ⟨s, 0⟩ h i).map Tb.told
/-! ### table, version -/
def placeIn (id : Int) : List (Int × Int) → Int → Int × Bool
  | [], _ => (0, false)
  | x :: l, i => if x.1 = id then (i, true) else placeIn id l (i + 1)
def tPlace (s : Ar) (h id : Int) : Option (Int × Bool) := (lAll s h).map fun l => placeIn id l 0
def tAdd (s : Ar) (h id len : Int) : Option (Int × Int × Ar) :=
  (tPlace s h id).bind fun p =>
  if id < 1 ∨ p.2 = true ∨ len < 0 ∨ 40 < len then some (0, 1, s)
  else if 10 ≤ lLen s h then some (0, 8, s)
  else lInsert s h (lLen s h) (id, len)
def tCut (s : Ar) (h id : Int) : Option (Int × Int × Ar) := (tPlace s h id).bind fun p => if p.2 then lDelete s h p.1 else some (0, 4, s)
structure Parts where
  wave : Int
  marks : Int
  spots : Int
  table : Int
def Parts.zero : Parts := ⟨0, 0, 0, 0⟩
def vMake (s : Ar) (p : Parts) : Int × Int × Ar :=
  if p.wave = 0 ∧ p.marks = 0 ∧ p.spots = 0 ∧ p.table = 0 then (0, 0, s) else s.make ⟨6, p.wave, p.marks, p.spots, p.table, 0, 0⟩
def vIs (s : Ar) (h : Int) : Bool := decide (h = 0) || (s.has h && (!decide (s.cnt h = 0) && decide ((s.get h).tag = 6)))
def vOf (s : Ar) (h : Int) : Parts := if h ≠ 0 ∧ vIs s h then ⟨(s.get h).k0, (s.get h).k1, (s.get h).k2, (s.get h).k3⟩ else Parts.zero
def vRows (s : Ar) (h : Int) : Int := wLen s (vOf s h).wave
def vDocs (s : Ar) (h : Int) : Int := lLen s (vOf s h).table
def vNext (s : Ar) (h i : Int) : Option (Int × Bool) :=
  (wGet s (vOf s h).wave i).bind fun x =>
  if x.2 = false ∨ x.1 = 0 then some (0, false)
  else (wBefore s (vOf s h).wave x.1).bind fun p => (wRank s (vOf s h).wave x.1 i).bind fun q => some (wrap64 (p + q), true)
end Go.Proofs.Ytkgabbenmoocgaa
