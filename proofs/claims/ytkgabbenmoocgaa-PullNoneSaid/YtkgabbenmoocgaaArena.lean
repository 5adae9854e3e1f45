/- An arena in memory: what its blocks hold, and what a call on it leaves as it was. -/
import Derived.Test.YtkgabbenmoocgaaRows2
import Derived.Test.YtkgabbenmoocgaaModelWq
namespace Go.Proofs.Ytkgabbenmoocgaa
set_option linter.unusedSimpArgs false
set_option linter.unusedVariables false
set_option linter.unnecessarySimpa false
open Go.RowKit
/-- A row of n values. -/
def ofF (n : Nat) (f : Nat → Value) : Array Value := Array.ofFn (n := n) fun i => f i
def updF (f : Nat → Value) (i : Nat) (v : Value) : Nat → Value := fun j => if j = i then v else f j
theorem ofF_get (n : Nat) (f : Nat → Value) (i : Nat) (h : i < n) : (ofF n f)[i]? = some (f i) := by simp [ofF, h]
theorem ofF_set (n : Nat) (f : Nat → Value) (i : Nat) (v : Value) : (ofF n f).setIfInBounds i v = ofF n (updF f i v) := by
  apply Array.ext_getElem?
  intro j
  simp only [Array.getElem?_setIfInBounds, ofF, Array.size_ofFn, Array.getElem?_ofFn, updF]
  by_cases hj : i = j
  · subst hj
    by_cases h : i < n <;> simp [h]
  · have hj' : j ≠ i := fun h => hj h.symm
    simp [hj, hj']
theorem ofF_congr {n : Nat} {f g : Nat → Value} (h : ∀ i, i < n → f i = g i) : ofF n f = ofF n g := by
  unfold ofF; congr 1; funext i; exact h i i.2
theorem ofF_size (n : Nat) (f : Nat → Value) : (ofF n f).size = n := by simp [ofF]
def Nd.cell (n : Nd) : Nat → Value
  | 0 => .int .i64 n.tag
  | 1 => .int .i64 n.k0
  | 2 => .int .i64 n.k1
  | 3 => .int .i64 n.k2
  | 4 => .int .i64 n.k3
  | 5 => .int .u64 n.a
  | _ => .int .u64 n.b
def Nd.cells (n : Nd) : Array Value := #[.int .i64 n.tag, .int .i64 n.k0, .int .i64 n.k1, .int .i64 n.k2, .int .i64 n.k3, .int .u64 n.a, .int .u64 n.b]
def Nd.val (n : Nd) : Value := .agg #[.int .i64 n.tag, .int .i64 n.k0, .int .i64 n.k1, .int .i64 n.k2, .int .i64 n.k3, .int .u64 n.a, .int .u64 n.b]
/-- A slice that holds a list of handles, and may be appended to. -/
def Wt (w : World) (v : Value) (l : List Nat) : Prop :=
  (v = .slice none 0 0 ∧ l = []) ∨
  ∃ g off cap c, v = .slice (some ⟨g, off, none⟩) l.length cap ∧ w.heap[g]? = some (.cells c 3 (0, 0)) ∧ l.length ≤ cap ∧ off + cap ≤ c.size ∧ off + cap ≤ maxLen ∧ ∀ i (h : i < l.length), c[off + i]? = some (.int .i64 (l[i] : Int))
def nodeF (s : Ar) (i : Nat) : Value := (s.node (i / 7)).cell (i % 7)
def countF (s : Ar) (i : Nat) : Value := .int .i64 (s.count i)
def usedF (s : Ar) (i : Nat) : Value := .bool (s.used i)
def ArC (size nb cb ub : Nat) (wv : Value) (busy made : Int) : Array Value := #[.slice (some ⟨nb, 0, none⟩) (size + 1) (size + 1), .slice (some ⟨cb, 0, none⟩) (size + 1) (size + 1), .slice (some ⟨ub, 0, none⟩) (size + 1) (size + 1), wv, .int .i64 busy, .int .i64 made]
/-- An arena's blocks, whatever stands in them; O: blocks that are the arena's own. -/
structure Raw (w : World) (p size nb cb ub : Nat) (wv : Value) (fN fC fU : Nat → Value) (busy made : Int) (wait : List Nat) (O : Nat → Prop) : Prop where
  hp : w.heap[p]? = some (.cells (ArC size nb cb ub wv busy made) 60 (0, 0))
  hn : w.heap[nb]? = some (.cells (ofF ((size + 1) * 7) fN) 47 (0, 0))
  hc : w.heap[cb]? = some (.cells (ofF (size + 1) fC) 3 (0, 0))
  hu : w.heap[ub]? = some (.cells (ofF (size + 1) fU) 4 (0, 0))
  hw : Wt w wv wait
  ncw : wv.ownBlock ≠ some cb
  op : O p
  on : O nb
  oc : O cb
  ou : O ub
  ow : ∀ g, wv.ownBlock = some g → O g
  lt : ∀ b, O b → b < w.heap.size
/-- The pointer ap holds an arena; nil is one of no nodes. -/
def AP (w : World) (ap : Value) (s : Ar) (O : Nat → Prop) : Prop :=
  s.Wq ∧ ((ap = .pointer .none ∧ s = Ar.none ∧ (∀ b, O b → b < w.heap.size)) ∨ ∃ p nb cb ub wv, ap = .pointer (some ⟨p, 0, .none⟩) ∧ Raw w p s.size nb cb ub wv (nodeF s) (countF s) (usedF s) s.busy s.made s.wait O)
/-- What calls on an arena leave as it was: all but the arena's own blocks, and those of X. -/
structure Fr (X O O' : Nat → Prop) (w w' : World) : Prop where
  os : w'.os = w.os
  tape : w'.tape = w.tape
  output : w'.output = w.output
  size : w.heap.size ≤ w'.heap.size
  block : ∀ b, b < w.heap.size → ¬ O b → ¬ X b → w'.heap[b]? = w.heap[b]?
  own : ∀ b, O' b → O b ∨ w.heap.size ≤ b
def noX : Nat → Prop := fun _ => False
def oneX (t : Nat) : Nat → Prop := fun b => b = t
section
variable {X O O' O'' : Nat → Prop} {a b c w w' : World}
theorem Fr.refl (X O : Nat → Prop) (w : World) : Fr X O O w w := ⟨rfl, rfl, rfl, Nat.le_refl _, fun _ _ _ _ => rfl, fun _ h => .inl h⟩
theorem Fr.trans (h : Fr X O O' a b) (k : Fr X O' O'' b c) : Fr X O O'' a c := by
  refine ⟨k.os.trans h.os, k.tape.trans h.tape, k.output.trans h.output, Nat.le_trans h.size k.size, fun x hx ho hX => ?_, fun x hx => ?_⟩
  · refine (k.block x (Nat.lt_of_lt_of_le hx h.size) (fun ho' => ?_) hX).trans (h.block x hx ho hX)
    rcases h.own x ho' with g | g
    · exact ho g
    · omega
  · rcases k.own x hx with g | g
    · exact h.own x g
    · exact .inr (Nat.le_trans h.size g)
theorem Fr.trans_new (h : Fr X O O' a b) {B : Nat} (k : Fr (oneX B) O' O'' b c) (hB : a.heap.size ≤ B) : Fr X O O'' a c := by
  refine ⟨k.os.trans h.os, k.tape.trans h.tape, k.output.trans h.output, Nat.le_trans h.size k.size, fun x hx ho hX => ?_, fun x hx => ?_⟩
  · refine (k.block x (Nat.lt_of_lt_of_le hx h.size) (fun ho' => ?_) (fun e => ?_)).trans (h.block x hx ho hX)
    · rcases h.own x ho' with g | g
      · exact ho g
      · omega
    · unfold oneX at e; omega
  · rcases k.own x hx with g | g
    · exact h.own x g
    · exact .inr (Nat.le_trans h.size g)
theorem Fr.mono {Y : Nat → Prop} (h : Fr X O O' a b) (hXY : ∀ x, X x → Y x) : Fr Y O O' a b :=
  ⟨h.os, h.tape, h.output, h.size, fun x hx ho hY => h.block x hx ho (fun g => hY (hXY x g)), h.own⟩
theorem Fr.widen {Y : Nat → Prop} (h : Fr noX O O' a b) : Fr Y O O' a b := h.mono fun _ h => h.elim
theorem Fr.of_below (h : Below a.heap.size a b) : Fr X O O a b :=
  ⟨h.os, h.tape, h.output, h.size, fun x hx _ _ => h.block x hx, fun _ hx => .inl hx⟩
theorem Fr.below (h : Fr X O O' a b) (k : Below b.heap.size b c) : Fr X O O' a c := h.trans (Fr.of_below k)
theorem Fr.alloc (h : Fr X O O' a b) (o : Obj) : Fr X O O' a (b.alloc o) := h.below (below_box _ _)
theorem Fr.drewN (h : Fr X O O' a b) (n : Nat) : Fr X O O' a (b.drewN n) := ⟨h.os, h.tape, h.output, h.size, h.block, h.own⟩
theorem Fr.drew (h : Fr X O O' a b) : Fr X O O' a b.drew := ⟨h.os, h.tape, h.output, h.size, h.block, h.own⟩
/-- A store into a block that is the call's own. -/
theorem Fr.set (h : Fr X O O' a b) {q : Addr} (hq : a.heap.size ≤ q.block ∨ X q.block) (v : Value) : Fr X O O' a (b.setCell q v) := by
  refine ⟨h.os, h.tape, h.output, by rw [siz_set]; exact h.size, fun x hx hx' hX => ?_, h.own⟩
  rw [blk_far]
  · exact h.block x hx hx' hX
  · rintro rfl
    rcases hq with hq | hq
    · omega
    · exact hX hq
/-- A store into a block that is the arena's own. -/
theorem Fr.ownSet (h : Fr X O O' a b) {q : Addr} (hq : O' q.block) (v : Value) : Fr X O O' a (b.setCell q v) := by
  refine ⟨h.os, h.tape, h.output, by rw [siz_set]; exact h.size, fun x hx hx' hX => ?_, h.own⟩
  rw [blk_far]
  · exact h.block x hx hx' hX
  · rintro rfl
    rcases h.own _ hq with g | g
    · exact hx' g
    · omega
/-- What holds of a block that is the call's own behind a call on the arena. -/
theorem Fr.keep (h : Fr X O O' w w') {x : Nat} {o : Obj} (hk : w.heap[x]? = some o) (ho : ¬ O x) (hX : ¬ X x) : w'.heap[x]? = some o := (h.block x (lt_of hk) ho hX).trans hk
theorem Fr.not_own (h : Fr X O O' w w') {x : Nat} (hx : x < w.heap.size) (ho : ¬ O x) : ¬ O' x := fun g => by
  rcases h.own x g with k | k
  · exact ho k
  · omega
theorem Wt.same {v : Value} {l : List Nat} (h : Wt w v l) (hb : ∀ b, v.ownBlock = some b → w'.heap[b]? = w.heap[b]?) : Wt w' v l := by
  rcases h with h | ⟨g, off, cap, c, rfl, hg, h⟩
  · exact .inl h
  · exact .inr ⟨g, off, cap, c, rfl, (hb g rfl).trans hg, h⟩
theorem Wt.far {wv : Value} {l : List Nat} (h : Wt w wv l) {q : Addr} (hq : wv.ownBlock ≠ some q.block) (v : Value) : Wt (w.setCell q v) wv l :=
  h.same fun x hx => blk_far w q x v (fun e => hq (e ▸ hx))
theorem Wt.type {wv : Value} {l : List Nat} (h : Wt w wv l) {x : Nat} (hx : wv.ownBlock = some x) : ∃ c, w.heap[x]? = some (.cells c 3 (0, 0)) := by
  rcases h with ⟨rfl, _⟩ | ⟨g, off, cap, c, rfl, hg, _⟩
  · simp [Value.ownBlock] at hx
  · simp [Value.ownBlock] at hx; subst hx; exact ⟨c, hg⟩
theorem ne_types {a b : Nat} {c c' : Array Value} {t t' : TypeId} {f f' : Nat × Nat} (h : w.heap[a]? = some (.cells c t f)) (h' : w.heap[b]? = some (.cells c' t' f')) (hne : t ≠ t') : a ≠ b := by
  rintro rfl
  rw [h] at h'
  injection h' with h'
  injection h' with _ ht
  exact hne ht
end
section
variable {w : World} {p size nb cb ub : Nat} {wv : Value} {fN fC fU : Nat → Value} {b m : Int} {l : List Nat} {O : Nat → Prop}
theorem Raw.wn (h : Raw w p size nb cb ub wv fN fC fU b m l O) : wv.ownBlock ≠ some nb := fun e => by
  obtain ⟨c, hc⟩ := h.hw.type e; exact ne_types hc h.hn (by decide) rfl
theorem Raw.wu (h : Raw w p size nb cb ub wv fN fC fU b m l O) : wv.ownBlock ≠ some ub := fun e => by
  obtain ⟨c, hc⟩ := h.hw.type e; exact ne_types hc h.hu (by decide) rfl
theorem Raw.wp (h : Raw w p size nb cb ub wv fN fC fU b m l O) : wv.ownBlock ≠ some p := fun e => by
  obtain ⟨c, hc⟩ := h.hw.type e; exact ne_types hc h.hp (by decide) rfl
theorem Raw.pn (h : Raw w p size nb cb ub wv fN fC fU b m l O) : p ≠ nb := ne_types h.hp h.hn (by decide)
theorem Raw.pc (h : Raw w p size nb cb ub wv fN fC fU b m l O) : p ≠ cb := ne_types h.hp h.hc (by decide)
theorem Raw.pu (h : Raw w p size nb cb ub wv fN fC fU b m l O) : p ≠ ub := ne_types h.hp h.hu (by decide)
theorem Raw.nc (h : Raw w p size nb cb ub wv fN fC fU b m l O) : nb ≠ cb := ne_types h.hn h.hc (by decide)
theorem Raw.nu (h : Raw w p size nb cb ub wv fN fC fU b m l O) : nb ≠ ub := ne_types h.hn h.hu (by decide)
theorem Raw.cu (h : Raw w p size nb cb ub wv fN fC fU b m l O) : cb ≠ ub := ne_types h.hc h.hu (by decide)
/-- What leaves an arena's own blocks alone leaves the arena. -/
theorem Raw.same {w' : World} (h : Raw w p size nb cb ub wv fN fC fU b m l O) (hs : w.heap.size ≤ w'.heap.size) (hb : ∀ x, O x → w'.heap[x]? = w.heap[x]?) : Raw w' p size nb cb ub wv fN fC fU b m l O :=
  ⟨(hb p h.op).trans h.hp, (hb nb h.on).trans h.hn, (hb cb h.oc).trans h.hc, (hb ub h.ou).trans h.hu, h.hw.same fun x hx => hb x (h.ow x hx), h.ncw, h.op, h.on, h.oc, h.ou, h.ow, fun x hx => Nat.lt_of_lt_of_le (h.lt x hx) hs⟩
theorem Raw.lt_set {q : Addr} {v : Value} (h : Raw w p size nb cb ub wv fN fC fU b m l O) : ∀ b, O b → b < (w.setCell q v).heap.size := fun x hx => by rw [siz_set]; exact h.lt x hx
theorem Raw.setN (h : Raw w p size nb cb ub wv fN fC fU b m l O) (i : Nat) (v : Value) : Raw (w.setCell ⟨nb, i, .none⟩ v) p size nb cb ub wv (updF fN i v) fC fU b m l O :=
  ⟨by rw [blk_far _ _ _ _ h.pn]; exact h.hp, by rw [blk_set, h.hn, Option.map_some, setAt_cells, ofF_set], by rw [blk_far _ _ _ _ (Ne.symm h.nc)]; exact h.hc, by rw [blk_far _ _ _ _ (Ne.symm h.nu)]; exact h.hu, h.hw.far h.wn v, h.ncw, h.op, h.on, h.oc, h.ou, h.ow, h.lt_set⟩
theorem Raw.setC (h : Raw w p size nb cb ub wv fN fC fU b m l O) (i : Nat) (v : Value) : Raw (w.setCell ⟨cb, i, .none⟩ v) p size nb cb ub wv fN (updF fC i v) fU b m l O :=
  ⟨by rw [blk_far _ _ _ _ h.pc]; exact h.hp, by rw [blk_far _ _ _ _ h.nc]; exact h.hn, by rw [blk_set, h.hc, Option.map_some, setAt_cells, ofF_set], by rw [blk_far _ _ _ _ (Ne.symm h.cu)]; exact h.hu, h.hw.far h.ncw v, h.ncw, h.op, h.on, h.oc, h.ou, h.ow, h.lt_set⟩
theorem Raw.setU (h : Raw w p size nb cb ub wv fN fC fU b m l O) (i : Nat) (v : Value) : Raw (w.setCell ⟨ub, i, .none⟩ v) p size nb cb ub wv fN fC (updF fU i v) b m l O :=
  ⟨by rw [blk_far _ _ _ _ h.pu]; exact h.hp, by rw [blk_far _ _ _ _ h.nu]; exact h.hn, by rw [blk_far _ _ _ _ h.cu]; exact h.hc, by rw [blk_set, h.hu, Option.map_some, setAt_cells, ofF_set], h.hw.far h.wu v, h.ncw, h.op, h.on, h.oc, h.ou, h.ow, h.lt_set⟩
theorem Raw.setB (h : Raw w p size nb cb ub wv fN fC fU b m l O) (x : Int) : Raw (w.setCell ⟨p, 4, .none⟩ (.int .i64 x)) p size nb cb ub wv fN fC fU x m l O :=
  ⟨by rw [blk_set, h.hp]; rfl, by rw [blk_far _ _ _ _ (Ne.symm h.pn)]; exact h.hn, by rw [blk_far _ _ _ _ (Ne.symm h.pc)]; exact h.hc, by rw [blk_far _ _ _ _ (Ne.symm h.pu)]; exact h.hu, h.hw.far h.wp _, h.ncw, h.op, h.on, h.oc, h.ou, h.ow, h.lt_set⟩
theorem Raw.setM (h : Raw w p size nb cb ub wv fN fC fU b m l O) (x : Int) : Raw (w.setCell ⟨p, 5, .none⟩ (.int .i64 x)) p size nb cb ub wv fN fC fU b x l O :=
  ⟨by rw [blk_set, h.hp]; rfl, by rw [blk_far _ _ _ _ (Ne.symm h.pn)]; exact h.hn, by rw [blk_far _ _ _ _ (Ne.symm h.pc)]; exact h.hc, by rw [blk_far _ _ _ _ (Ne.symm h.pu)]; exact h.hu, h.hw.far h.wp _, h.ncw, h.op, h.on, h.oc, h.ou, h.ow, h.lt_set⟩
theorem Raw.setW (h : Raw w p size nb cb ub wv fN fC fU b m l O) (v : Value) (l' : List Nat) (hv : Wt w v l') (hn : v.ownBlock ≠ some cb) (hvp : v.ownBlock ≠ some p) (hO : ∀ g, v.ownBlock = some g → O g) : Raw (w.setCell ⟨p, 3, .none⟩ v) p size nb cb ub v fN fC fU b m l' O :=
  ⟨by rw [blk_set, h.hp]; rfl, by rw [blk_far _ _ _ _ (Ne.symm h.pn)]; exact h.hn, by rw [blk_far _ _ _ _ (Ne.symm h.pc)]; exact h.hc, by rw [blk_far _ _ _ _ (Ne.symm h.pu)]; exact h.hu, hv.far hvp _, hn, h.op, h.on, h.oc, h.ou, hO, h.lt_set⟩
theorem Raw.drew (h : Raw w p size nb cb ub wv fN fC fU b m l O) : Raw w.drew p size nb cb ub wv fN fC fU b m l O := h.same (Nat.le_refl _) fun _ _ => rfl
theorem Raw.drewN (h : Raw w p size nb cb ub wv fN fC fU b m l O) (n : Nat) : Raw (w.drewN n) p size nb cb ub wv fN fC fU b m l O := h.same (Nat.le_refl _) fun _ _ => rfl
theorem Raw.below {w' : World} (h : Raw w p size nb cb ub wv fN fC fU b m l O) (hb : Below w.heap.size w w') : Raw w' p size nb cb ub wv fN fC fU b m l O :=
  h.same hb.size fun x hx => hb.block x (h.lt x hx)
theorem Raw.alloc (h : Raw w p size nb cb ub wv fN fC fU b m l O) (o : Obj) : Raw (w.alloc o) p size nb cb ub wv fN fC fU b m l O := h.below (below_box _ _)
/-- A store into a block that is not the arena's. -/
theorem Raw.other (h : Raw w p size nb cb ub wv fN fC fU b m l O) {q : Addr} (hq : ¬ O q.block) (v : Value) : Raw (w.setCell q v) p size nb cb ub wv fN fC fU b m l O :=
  h.same (by rw [siz_set]; exact Nat.le_refl _) fun x hx => blk_far _ _ _ _ (fun e => hq (e ▸ hx))
theorem Raw.congr {fN' fC' fU' : Nat → Value} (h : Raw w p size nb cb ub wv fN fC fU b m l O) (hn : ∀ i, i < (size + 1) * 7 → fN i = fN' i) (hc : ∀ i, i < size + 1 → fC i = fC' i) (hu : ∀ i, i < size + 1 → fU i = fU' i) : Raw w p size nb cb ub wv fN' fC' fU' b m l O :=
  ⟨h.hp, by rw [h.hn, ofF_congr hn], by rw [h.hc, ofF_congr hc], by rw [h.hu, ofF_congr hu], h.hw, h.ncw, h.op, h.on, h.oc, h.ou, h.ow, h.lt⟩
/-- A step that writes only into the arena's own blocks. -/
theorem Fr.own_step {X O' : Nat → Prop} {w' : World} {size' : Nat} {wv' : Value} {fN' fC' fU' : Nat → Value} {b' m' : Int} {l' : List Nat}
    (_ : Raw w p size nb cb ub wv fN fC fU b m l O) (_ : Raw w' p size' nb cb ub wv' fN' fC' fU' b' m' l' O') (hos : w'.os = w.os) (htp : w'.tape = w.tape) (hout : w'.output = w.output) (hz : w.heap.size ≤ w'.heap.size)
    (hb : ∀ x, x < w.heap.size → ¬ O x → w'.heap[x]? = w.heap[x]?) (hv : ∀ x, O' x → O x ∨ w.heap.size ≤ x) : Fr X O O' w w' :=
  ⟨hos, htp, hout, hz, fun x hx ho _ => hb x hx ho, hv⟩
end
section
variable {w w' : World} {ap : Value} {s : Ar} {O : Nat → Prop}
theorem AP.lt (h : AP w ap s O) {b : Nat} (hb : O b) : b < w.heap.size := by
  rcases h.2 with ⟨_, _, h⟩ | ⟨p, nb, cb, ub, wv, _, h⟩
  · exact h b hb
  · exact h.lt b hb
theorem AP.new (h : AP w ap s O) {b : Nat} (hb : w.heap.size ≤ b) : ¬ O b := fun ho => by have := h.lt ho; omega
theorem AP.same (h : AP w ap s O) (hs : w.heap.size ≤ w'.heap.size) (hb : ∀ x, O x → w'.heap[x]? = w.heap[x]?) : AP w' ap s O := by
  refine ⟨h.1, ?_⟩
  rcases h.2 with ⟨h1, h2, k⟩ | ⟨p, nb, cb, ub, wv, h1, k⟩
  · exact .inl ⟨h1, h2, fun b hb => Nat.lt_of_lt_of_le (k b hb) hs⟩
  · exact .inr ⟨p, nb, cb, ub, wv, h1, k.same hs hb⟩
theorem AP.below (h : AP w ap s O) (hb : Below w.heap.size w w') : AP w' ap s O := h.same hb.size fun x hx => hb.block x (h.lt hx)
theorem AP.alloc (h : AP w ap s O) (o : Obj) : AP (w.alloc o) ap s O := h.below (below_box _ _)
theorem AP.drew (h : AP w ap s O) : AP w.drew ap s O := h.same (Nat.le_refl _) fun _ _ => rfl
theorem AP.drewN (h : AP w ap s O) (n : Nat) : AP (w.drewN n) ap s O := h.same (Nat.le_refl _) fun _ _ => rfl
theorem AP.set (h : AP w ap s O) {q : Addr} (hq : ¬ O q.block) (v : Value) : AP (w.setCell q v) ap s O :=
  h.same (by rw [siz_set]; exact Nat.le_refl _) fun x hx => blk_far _ _ _ _ (fun e => hq (e ▸ hx))
/-- An arena behind something that leaves its blocks alone. -/
theorem AP.fr {X : Nat → Prop} {O₁ O₂ : Nat → Prop} (h : AP w ap s O) (hf : Fr X O₁ O₂ w w') (h1 : ∀ b, O b → ¬ O₁ b) (h2 : ∀ b, O b → ¬ X b) : AP w' ap s O :=
  h.same hf.size fun x hx => hf.block x (h.lt hx) (h1 x hx) (h2 x hx)
end
/-- What a walk reads of an arena. -/
structure ArenaC (w : World) (p : Nat) (s : Ar) (nb cb ub : Nat) (wv : Value) : Prop where
  cp : ∀ o, w.cell? ⟨p, o, none⟩ = #[.slice (some ⟨nb, 0, none⟩) (s.size + 1) (s.size + 1), .slice (some ⟨cb, 0, none⟩) (s.size + 1) (s.size + 1), .slice (some ⟨ub, 0, none⟩) (s.size + 1) (s.size + 1), wv, .int .i64 s.busy, .int .i64 s.made][o]?
  cc : ∀ h, h ≤ s.size → w.cell? ⟨cb, h, none⟩ = some (.int .i64 (s.count h))
  cu : ∀ h, h ≤ s.size → w.cell? ⟨ub, h, none⟩ = some (.bool (s.used h))
  n0 : ∀ h, h ≤ s.size → w.cell? ⟨nb, h * 7, none⟩ = some (.int .i64 (s.node h).tag)
  n1 : ∀ h, h ≤ s.size → w.cell? ⟨nb, h * 7 + 1, none⟩ = some (.int .i64 (s.node h).k0)
  n2 : ∀ h, h ≤ s.size → w.cell? ⟨nb, h * 7 + 2, none⟩ = some (.int .i64 (s.node h).k1)
  n3 : ∀ h, h ≤ s.size → w.cell? ⟨nb, h * 7 + 3, none⟩ = some (.int .i64 (s.node h).k2)
  n4 : ∀ h, h ≤ s.size → w.cell? ⟨nb, h * 7 + 4, none⟩ = some (.int .i64 (s.node h).k3)
  n5 : ∀ h, h ≤ s.size → w.cell? ⟨nb, h * 7 + 5, none⟩ = some (.int .u64 (s.node h).a)
  n6 : ∀ h, h ≤ s.size → w.cell? ⟨nb, h * 7 + 6, none⟩ = some (.int .u64 (s.node h).b)
def RawS (w : World) (p : Nat) (s : Ar) (nb cb ub : Nat) (wv : Value) (O : Nat → Prop) : Prop := Raw w p s.size nb cb ub wv (nodeF s) (countF s) (usedF s) s.busy s.made s.wait O
theorem node_cell {w : World} {p : Nat} {s : Ar} {nb cb ub : Nat} {wv : Value} {O : Nat → Prop} (hA : RawS w p s nb cb ub wv O) (h j : Nat) (hh : h ≤ s.size) (hj : j < 7) : w.cell? ⟨nb, h * 7 + j, none⟩ = some ((s.node h).cell j) := by
  rw [cells_of hA.hn, ofF_get _ _ _ (by omega)]
  unfold nodeF
  rw [show (h * 7 + j) / 7 = h by omega, show (h * 7 + j) % 7 = j by omega]
theorem RawS.reads {w : World} {p : Nat} {s : Ar} {nb cb ub : Nat} {wv : Value} {O : Nat → Prop} (hA : RawS w p s nb cb ub wv O) : ArenaC w p s nb cb ub wv :=
  ⟨cells_of hA.hp, fun h hh => by rw [cells_of hA.hc, ofF_get _ _ _ (by omega)]; rfl, fun h hh => by rw [cells_of hA.hu, ofF_get _ _ _ (by omega)]; rfl,
    fun h hh => node_cell hA h 0 hh (by omega), fun h hh => node_cell hA h 1 hh (by omega), fun h hh => node_cell hA h 2 hh (by omega), fun h hh => node_cell hA h 3 hh (by omega),
    fun h hh => node_cell hA h 4 hh (by omega), fun h hh => node_cell hA h 5 hh (by omega), fun h hh => node_cell hA h 6 hh (by omega)⟩
/-- A node is stored, cell by cell. -/
theorem nodeF_upd (s : Ar) (f : Nat) (n : Nd) (i : Nat) :
    updF (updF (updF (updF (updF (updF (updF (nodeF s) (f * 7) (.int .i64 n.tag)) (f * 7 + 1) (.int .i64 n.k0)) (f * 7 + 2) (.int .i64 n.k1)) (f * 7 + 3) (.int .i64 n.k2)) (f * 7 + 4) (.int .i64 n.k3)) (f * 7 + 5) (.int .u64 n.a)) (f * 7 + 6) (.int .u64 n.b) i
      = nodeF { s with node := upd s.node f n } i := by
  unfold updF nodeF upd
  dsimp only
  by_cases hq : i / 7 = f
  · have hm : i = f * 7 ∨ i = f * 7 + 1 ∨ i = f * 7 + 2 ∨ i = f * 7 + 3 ∨ i = f * 7 + 4 ∨ i = f * 7 + 5 ∨ i = f * 7 + 6 := by omega
    rw [if_pos hq]
    rcases hm with h | h | h | h | h | h | h
    · rw [show i % 7 = 0 by omega]; simp [h, Nd.cell]
    · rw [show i % 7 = 1 by omega]; simp [h, Nd.cell]
    · rw [show i % 7 = 2 by omega]; simp [h, Nd.cell]
    · rw [show i % 7 = 3 by omega]; simp [h, Nd.cell]
    · rw [show i % 7 = 4 by omega]; simp [h, Nd.cell]
    · rw [show i % 7 = 5 by omega]; simp [h, Nd.cell]
    · rw [show i % 7 = 6 by omega]; simp [h, Nd.cell]
  · rw [if_neg hq, if_neg (by omega), if_neg (by omega), if_neg (by omega), if_neg (by omega), if_neg (by omega), if_neg (by omega), if_neg (by omega)]
theorem AP.of_raw {w : World} {p : Nat} {s : Ar} {nb cb ub : Nat} {wv : Value} {O : Nat → Prop} (hA : RawS w p s nb cb ub wv O) (hq : s.Wq) : AP w (.pointer (some ⟨p, 0, none⟩)) s O := ⟨hq, .inr ⟨p, nb, cb, ub, wv, rfl, hA⟩⟩
/-- An arena of nodes lies in memory. -/
theorem AP.raw {w : World} {ap : Value} {s : Ar} {O : Nat → Prop} (h : AP w ap s O) (hs : s.size ≠ 0) : ∃ p nb cb ub wv, ap = .pointer (some ⟨p, 0, none⟩) ∧ RawS w p s nb cb ub wv O := by
  rcases h.2 with ⟨_, h, _⟩ | h
  · subst h; exact absurd rfl hs
  · exact h
theorem nA {V v : World} {ap : Value} {s : Ar} {O : Nat → Prop} (e : V = v) (h : AP v ap s O := by (repeat' first | with_reducible exact hA | with_reducible refine AP.alloc ?_ _ | with_reducible refine AP.drew ?_ | with_reducible refine AP.drewN ?_ _ | with_reducible refine AP.set ?_ ?_ _ | with_reducible assumption | exact hA.new (Nat.le_refl _) | exact hA.new (by (try dsimp only); omega))) : AP V ap s O := by rw [e]; exact h
theorem nF {X O O' : Nat → Prop} {w V v : World} (e : V = v) (h : Fr X O O' w v := by (repeat' first | with_reducible exact hF | with_reducible exact Fr.refl _ _ _ | with_reducible refine Fr.alloc ?_ _ | with_reducible refine Fr.drew ?_ | with_reducible refine Fr.drewN ?_ _ | with_reducible refine Fr.set ?_ ?_ _ | exact .inl (Nat.le_refl _) | exact .inl (by (try dsimp only); omega) | exact .inr rfl | exact .inr (Or.inl rfl) | exact .inr (Or.inr rfl) | assumption)) : Fr X O O' w V := by rw [e]; exact h
end Go.Proofs.Ytkgabbenmoocgaa
