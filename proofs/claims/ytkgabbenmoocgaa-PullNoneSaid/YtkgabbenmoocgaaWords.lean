/- Words that all walks of this seat use; no program here. -/
import Derived.WalkKit
import Derived.Lib.Hide
import Derived.Deep.QuietTactic
import Derived.BigQuiet
import Derived.Deep.RegionHeld3
import Derived.Deep.DrawnRows
import Derived.Lib.QuietBelow
import Derived.ScopeJumps
import Derived.Deep.LoopGhost
namespace Go.Proofs.Ytkgabbenmoocgaa
set_option linter.unusedSimpArgs false
set_option linter.unusedVariables false
set_option linter.unnecessarySimpa false
open Go.RowKit
theorem quiet_left {P : Program} {f : FuncId} {args : Array Value} {w : World} {n : Nat} {v : Value}
    (h : Calls P f args (w.drewN n) fun e w' => e = .returned v ∧ w.drewN n = w') : Calls P f args (w.drewN n) fun e w'' => e = .returned v ∧ ∃ m, w'' = w.drewN m :=
  h.mono fun _ _ ⟨he, hm⟩ => ⟨he, n, hm.symm⟩
theorem below_drewN {B : Nat} {a w : World} (h : Below B a w) (n : Nat) : Below B a (w.drewN n) := ⟨h.os, h.tape, h.output, h.size, h.block⟩
theorem ret_int {k : IntKind} {a b : Int} (h : a = b) : Ending.returned (.int k a) = .returned (.int k b) := by rw [h]
theorem ret_bool {a b : Bool} (h : a = b) : Ending.returned (.bool a) = .returned (.bool b) := by rw [h]
theorem bcell {W w1 : World} (hb : Below W.heap.size W w1) : (∀ b o, b < W.heap.size → w1.cell? ⟨b, o, none⟩ = W.cell? ⟨b, o, none⟩) ∧ (∀ b o, b < W.heap.size → w1.frozen? ⟨b, o, none⟩ = W.frozen? ⟨b, o, none⟩) :=
  ⟨fun b o h => hb.cell (p := ⟨b, o, none⟩) h, fun b o h => hb.frozen (p := ⟨b, o, none⟩) h⟩

theorem below_step {w w1 w2 : World} (h1 : Below w.heap.size w w1) (h2 : Below w1.heap.size w1 w2) : Below w.heap.size w w2 := h1.trans (h2.mono h1.size)
theorem below_box (w : World) (o : Obj) : Below w.heap.size w (w.alloc o) := (Below.refl _ _).alloc (Nat.le_refl _) _

theorem lt_s2 (n : Nat) : (n < n + 1 + 1) = True := eq_true (by omega)
theorem lt_s3 (n : Nat) : (n < n + 1 + 1 + 1) = True := eq_true (by omega)
theorem lt_s4 (n : Nat) : (n < n + 1 + 1 + 1 + 1) = True := eq_true (by omega)
theorem lt_s5 (n : Nat) : (n < n + 1 + 1 + 1 + 1 + 1) = True := eq_true (by omega)
theorem lt_s6 (n : Nat) : (n < n + 1 + 1 + 1 + 1 + 1 + 1) = True := eq_true (by omega)
theorem lt_s7 (n : Nat) : (n < n + 1 + 1 + 1 + 1 + 1 + 1 + 1) = True := eq_true (by omega)
theorem lt_s8 (n : Nat) : (n < n + 1 + 1 + 1 + 1 + 1 + 1 + 1 + 1) = True := eq_true (by omega)
theorem lt_s9 (n : Nat) : (n < n + 1 + 1 + 1 + 1 + 1 + 1 + 1 + 1 + 1) = True := eq_true (by omega)
theorem lt_s10 (n : Nat) : (n < n + 1 + 1 + 1 + 1 + 1 + 1 + 1 + 1 + 1 + 1) = True := eq_true (by omega)
theorem lt_s11 (n : Nat) : (n < n + 1 + 1 + 1 + 1 + 1 + 1 + 1 + 1 + 1 + 1 + 1) = True := eq_true (by omega)
theorem lt_s12 (n : Nat) : (n < n + 1 + 1 + 1 + 1 + 1 + 1 + 1 + 1 + 1 + 1 + 1 + 1) = True := eq_true (by omega)
theorem ne_s2 (n : Nat) : (n = n + 1 + 1) = False := eq_false (by omega)
theorem ne_t2 (n : Nat) : (n + 1 + 1 = n) = False := eq_false (by omega)
theorem ne_s3 (n : Nat) : (n = n + 1 + 1 + 1) = False := eq_false (by omega)
theorem ne_t3 (n : Nat) : (n + 1 + 1 + 1 = n) = False := eq_false (by omega)
theorem ne_s4 (n : Nat) : (n = n + 1 + 1 + 1 + 1) = False := eq_false (by omega)
theorem ne_t4 (n : Nat) : (n + 1 + 1 + 1 + 1 = n) = False := eq_false (by omega)
theorem ne_s5 (n : Nat) : (n = n + 1 + 1 + 1 + 1 + 1) = False := eq_false (by omega)
theorem ne_t5 (n : Nat) : (n + 1 + 1 + 1 + 1 + 1 = n) = False := eq_false (by omega)
theorem ne_s6 (n : Nat) : (n = n + 1 + 1 + 1 + 1 + 1 + 1) = False := eq_false (by omega)
theorem ne_t6 (n : Nat) : (n + 1 + 1 + 1 + 1 + 1 + 1 = n) = False := eq_false (by omega)
theorem ne_s7 (n : Nat) : (n = n + 1 + 1 + 1 + 1 + 1 + 1 + 1) = False := eq_false (by omega)
theorem ne_t7 (n : Nat) : (n + 1 + 1 + 1 + 1 + 1 + 1 + 1 = n) = False := eq_false (by omega)
theorem ne_s8 (n : Nat) : (n = n + 1 + 1 + 1 + 1 + 1 + 1 + 1 + 1) = False := eq_false (by omega)
theorem ne_t8 (n : Nat) : (n + 1 + 1 + 1 + 1 + 1 + 1 + 1 + 1 = n) = False := eq_false (by omega)
theorem ne_s9 (n : Nat) : (n = n + 1 + 1 + 1 + 1 + 1 + 1 + 1 + 1 + 1) = False := eq_false (by omega)
theorem ne_t9 (n : Nat) : (n + 1 + 1 + 1 + 1 + 1 + 1 + 1 + 1 + 1 = n) = False := eq_false (by omega)
theorem ne_s10 (n : Nat) : (n = n + 1 + 1 + 1 + 1 + 1 + 1 + 1 + 1 + 1 + 1) = False := eq_false (by omega)
theorem ne_t10 (n : Nat) : (n + 1 + 1 + 1 + 1 + 1 + 1 + 1 + 1 + 1 + 1 = n) = False := eq_false (by omega)
theorem ne_s11 (n : Nat) : (n = n + 1 + 1 + 1 + 1 + 1 + 1 + 1 + 1 + 1 + 1 + 1) = False := eq_false (by omega)
theorem ne_t11 (n : Nat) : (n + 1 + 1 + 1 + 1 + 1 + 1 + 1 + 1 + 1 + 1 + 1 = n) = False := eq_false (by omega)
theorem ne_s12 (n : Nat) : (n = n + 1 + 1 + 1 + 1 + 1 + 1 + 1 + 1 + 1 + 1 + 1 + 1) = False := eq_false (by omega)
theorem ne_t12 (n : Nat) : (n + 1 + 1 + 1 + 1 + 1 + 1 + 1 + 1 + 1 + 1 + 1 + 1 = n) = False := eq_false (by omega)
theorem calls_gen {P : Program} {f : FuncId} {args : Array Value} {w : World} {R : Ending → World → Prop} (h : ∀ v, v = w → Calls P f args v R) : Calls P f args w R := h w rfl
/-- A block with one cell turned. -/
def setAt (i : Nat) (v : Value) : Obj → Obj
  | .cells c t f => .cells (c.setIfInBounds i v) t f
  | o => o
theorem setAt_cells (i : Nat) (v : Value) (c : Array Value) (t : TypeId) (f : Nat × Nat) : setAt i v (.cells c t f) = .cells (c.setIfInBounds i v) t f := rfl
theorem blk_new (w : World) (o : Obj) (n : Nat) (h : n = w.heap.size) : (w.alloc o).heap[n]? = some o := by subst h; exact heap_alloc_new w o
theorem blk_old (w : World) (o : Obj) (n : Nat) (h : n < w.heap.size) : (w.alloc o).heap[n]? = w.heap[n]? := Below.heap_alloc w o n h
theorem blk_set (w : World) (b i : Nat) (v : Value) : (w.setCell ⟨b, i, none⟩ v).heap[b]? = (w.heap[b]?).map (setAt i v) := by
  simp only [World.setCell, Array.getElem?_modify, if_true]
  cases w.heap[b]? with
  | none => rfl
  | some o => cases o <;> rfl
theorem blk_far (w : World) (a : Addr) (n : Nat) (v : Value) (h : n ≠ a.block) : (w.setCell a v).heap[n]? = w.heap[n]? := Below.heap_setCell w a v n h
theorem blk_drew (w : World) : w.drew.heap = w.heap := rfl
theorem blk_drewN (w : World) (n : Nat) : (w.drewN n).heap = w.heap := rfl
theorem siz_alloc (w : World) (o : Obj) : (w.alloc o).heap.size = w.heap.size + 1 := by simp
theorem siz_set (w : World) (a : Addr) (v : Value) : (w.setCell a v).heap.size = w.heap.size := by simp [World.setCell]
theorem lt_succ_of {a b : Nat} (h : a < b) : (a < b + 1) = True := eq_true (by omega)
theorem ne_of_lt1 {a b : Nat} (h : a < b) : (a = b) = False := eq_false (by omega)
theorem ne_of_lt2 {a b : Nat} (h : b < a) : (a = b) = False := eq_false (by omega)
theorem lt_of {w : World} {b : Nat} {o : Obj} (h : w.heap[b]? = some o) : b < w.heap.size := (Array.getElem?_eq_some_iff.1 h).1
theorem cells_of {w : World} {b : Nat} {c : Array Value} {t : TypeId} {f : Nat × Nat} (h : w.heap[b]? = some (.cells c t f)) (o : Nat) : w.cell? ⟨b, o, none⟩ = c[o]? := by simp [World.cell?, h]
theorem free_of {w : World} {b : Nat} {c : Array Value} {t : TypeId} (h : w.heap[b]? = some (.cells c t (0, 0))) (o : Nat) : w.frozen? ⟨b, o, none⟩ = false := by simp [World.frozen?, h]
theorem keep_blk {w w' : World} {b : Nat} {o : Obj} (hb : Below w.heap.size w w') (h : w.heap[b]? = some o) : w'.heap[b]? = some o := (hb.block _ (lt_of h)).trans h
theorem wp_gen {P : Program} {c : Code} {Q : Exit → Act → World → Prop} {a : Act} {w : World} (h : ∀ v, v = w → c.wp P Q a v) : c.wp P Q a w := h w rfl
theorem grown_cells {w : World} {b : Nat} {c : Array Value} {t : TypeId} {f : Nat × Nat} (h : w.heap[b]? = some (.cells c t f)) (d : Nat) (os : Array Obj) (o : Nat) :
    (Sort.grow (redrawn w d) os).cell? ⟨b, o, none⟩ = c[o]? := ((below_regrown w d os).cell (p := ⟨b, o, none⟩) (lt_of h)).trans (cells_of h o)
theorem below_of_regrown {w v : World} (h : ∃ p : Regrown, v = Sort.grow (redrawn w p.d) p.os) : Below w.heap.size w v := by
  obtain ⟨p, rfl⟩ := h; exact below_regrown _ _ _
/-- A scope in which the run jumps back to one label: the relation bears a number that every pass lowers. -/
theorem wp_scope_ghost {P : Program} {a : Act} {w : World} {Q : Exit → Act → World → Prop} {c rest : Code} (l : Nat) (I : Nat → Act → World → Prop) (hf : findLabel c l = some (Code.skip.seq rest))
    (first : (∀ n a w, I n a w → rest.wp P (Exit.jump l (fun a w => ∃ n, I n a w) Q) a w) → c.wp P (Exit.jump l (fun a w => ∃ n, I n a w) Q) a w)
    (pass : ∀ n a w, I n a w → ∀ J : Act → World → Prop, (∀ a' w', (∃ m, m < n ∧ I m a' w') → J a' w') → rest.wp P (Exit.jump l J Q) a w) : (Code.scope c).wp P Q a w := by
  have imp : ∀ {J J' : Act → World → Prop}, (∀ a w, J a w → J' a w) → ∀ e a w, Exit.jump l J Q e a w → Exit.jump l J' Q e a w := by
    intro J J' h e a w hq
    cases e with
    | goto l' => exact ⟨hq.1, h _ _ hq.2⟩
    | _ => exact hq
  refine wp_scope_jumps l (fun a w => ∃ n, I n a w) (fun a w => leastOf (fun n => I n a w)) hf (first fun n a w h => wp_mono (pass n a w h _ fun _ _ h => h) (imp fun _ _ ⟨m, _, h⟩ => ⟨m, h⟩)) ?_
  intro a w hI
  refine wp_seq_k fun K hK => wp_skip (hK _ _ ?_)
  refine wp_mono (pass _ a w (leastOf_spec hI).1 _ fun _ _ h => h) (imp ?_)
  rintro a' w' ⟨m, hlt, h⟩
  exact ⟨⟨m, h⟩, Nat.lt_of_le_of_lt ((leastOf_spec ⟨m, h⟩).2 m h) hlt⟩
theorem wf_u64 {n : Int} (h : (Lit.int .u64 n).wf = true) : 0 ≤ n ∧ n < 18446744073709551616 := by
  simp [Lit.wf, IntKind.min, IntKind.max, IntKind.bits, IntKind.signed] at h; omega
theorem wf_i64 {n : Int} (h : (Lit.int .i64 n).wf = true) : -9223372036854775808 ≤ n ∧ n ≤ 9223372036854775807 := by
  simp [Lit.wf, IntKind.min, IntKind.max, IntKind.bits, IntKind.signed] at h; omega
theorem om_some (f : Obj → Obj) (x : Obj) : Option.map f (some x) = some (f x) := rfl
theorem sb_cells (l : List Value) (i : Nat) (v : Value) : l.toArray.setIfInBounds i v = (l.set i v).toArray := by simp
theorem sc_zero (a v : Value) (l : List Value) : (a :: l).set 0 v = v :: l := rfl
theorem sc_succ (a v : Value) (l : List Value) (n : Nat) : (a :: l).set (n + 1) v = a :: l.set n v := rfl
theorem sc_nil (v : Value) (n : Nat) : ([] : List Value).set n v = [] := rfl
theorem ne_nat (a b : Nat) : (a ≠ b) = ¬ (a = b) := rfl
theorem nat_arc (m k n : Nat) : (m + n = k + n) = (m = k) := propext (by omega)
theorem nat_alc (m k n : Nat) : (n + m = n + k) = (m = k) := propext (by omega)
theorem nat_sns (n : Nat) : (n + 1 = n) = False := eq_false (by omega)
/-- What a look at a block of a world goes by, together. -/
theorem BK : (∀ (w : World) (o : Obj) (n : Nat), n = w.heap.size → (w.alloc o).heap[n]? = some o) ∧ (∀ (w : World) (o : Obj) (n : Nat), n < w.heap.size → (w.alloc o).heap[n]? = w.heap[n]?) ∧ (∀ (w : World) (a : Addr) (n : Nat) (v : Value), n ≠ a.block → (w.setCell a v).heap[n]? = w.heap[n]?) ∧ (∀ {a b : Nat}, a < b → (a < b + 1) = True) ∧ (∀ {a b : Nat}, a < b → (a = b) = False) ∧ (∀ {a b : Nat}, b < a → (a = b) = False) ∧ (∀ (w : World) (b i : Nat) (v : Value), (w.setCell ⟨b, i, none⟩ v).heap[b]? = (w.heap[b]?).map (setAt i v)) ∧ (∀ w : World, w.drew.heap = w.heap) ∧ (∀ (w : World) (n : Nat), (w.drewN n).heap = w.heap) ∧ (∀ (w : World) (o : Obj), (w.alloc o).heap.size = w.heap.size + 1) ∧ (∀ (w : World) (a : Addr) (v : Value), (w.setCell a v).heap.size = w.heap.size) ∧ (∀ (i : Nat) (v : Value) (c : Array Value) (t : TypeId) (f : Nat × Nat), setAt i v (.cells c t f) = .cells (c.setIfInBounds i v) t f) ∧ (∀ (f : Obj → Obj) (x : Obj), Option.map f (some x) = some (f x)) ∧ (∀ (l : List Value) (i : Nat) (v : Value), l.toArray.setIfInBounds i v = (l.set i v).toArray) ∧ (∀ (a v : Value) (l : List Value), (a :: l).set 0 v = v :: l) ∧ (∀ (a v : Value) (l : List Value) (n : Nat), (a :: l).set (n + 1) v = a :: l.set n v) ∧ (∀ (v : Value) (n : Nat), ([] : List Value).set n v = []) ∧ (∀ (a b : Nat), (a ≠ b) = ¬ (a = b)) ∧ (∀ n : Nat, n < n + 1) ∧ (∀ (m k n : Nat), (m + n = k + n) = (m = k)) ∧ (∀ (m k n : Nat), (n + m = n + k) = (m = k)) ∧ (∀ n : Nat, (n < n + 1 + 1) = True) ∧ (∀ n : Nat, (n = n + 1 + 1) = False) ∧ (∀ n : Nat, (n + 1 + 1 = n) = False) ∧ (∀ n : Nat, (n < n + 1 + 1 + 1) = True) ∧ (∀ n : Nat, (n = n + 1 + 1 + 1) = False) ∧ (∀ n : Nat, (n + 1 + 1 + 1 = n) = False) ∧ (∀ n : Nat, (n < n + 1 + 1 + 1 + 1) = True) ∧ (∀ n : Nat, (n = n + 1 + 1 + 1 + 1) = False) ∧ (∀ n : Nat, (n + 1 + 1 + 1 + 1 = n) = False) ∧ (∀ n : Nat, (n < n + 1 + 1 + 1 + 1 + 1) = True) ∧ (∀ n : Nat, (n = n + 1 + 1 + 1 + 1 + 1) = False) ∧ (∀ n : Nat, (n + 1 + 1 + 1 + 1 + 1 = n) = False) ∧ (∀ n : Nat, (n < n + 1 + 1 + 1 + 1 + 1 + 1) = True) ∧ (∀ n : Nat, (n = n + 1 + 1 + 1 + 1 + 1 + 1) = False) ∧ (∀ n : Nat, (n + 1 + 1 + 1 + 1 + 1 + 1 = n) = False) ∧ (∀ n : Nat, (n < n + 1 + 1 + 1 + 1 + 1 + 1 + 1) = True) ∧ (∀ n : Nat, (n = n + 1 + 1 + 1 + 1 + 1 + 1 + 1) = False) ∧ (∀ n : Nat, (n + 1 + 1 + 1 + 1 + 1 + 1 + 1 = n) = False) ∧ (∀ n : Nat, (n < n + 1 + 1 + 1 + 1 + 1 + 1 + 1 + 1) = True) ∧ (∀ n : Nat, (n = n + 1 + 1 + 1 + 1 + 1 + 1 + 1 + 1) = False) ∧ (∀ n : Nat, (n + 1 + 1 + 1 + 1 + 1 + 1 + 1 + 1 = n) = False) ∧ (∀ n : Nat, (n + 1 = n) = False) ∧ (∀ n : Nat, ¬ n < n) := And.intro @blk_new (And.intro @blk_old (And.intro @blk_far (And.intro @lt_succ_of (And.intro @ne_of_lt1 (And.intro @ne_of_lt2 (And.intro @blk_set (And.intro @blk_drew (And.intro @blk_drewN (And.intro @siz_alloc (And.intro @siz_set (And.intro @setAt_cells (And.intro @om_some (And.intro @sb_cells (And.intro @sc_zero (And.intro @sc_succ (And.intro @sc_nil (And.intro @ne_nat (And.intro @Nat.lt_add_one (And.intro @nat_arc (And.intro @nat_alc (And.intro @lt_s2 (And.intro @ne_s2 (And.intro @ne_t2 (And.intro @lt_s3 (And.intro @ne_s3 (And.intro @ne_t3 (And.intro @lt_s4 (And.intro @ne_s4 (And.intro @ne_t4 (And.intro @lt_s5 (And.intro @ne_s5 (And.intro @ne_t5 (And.intro @lt_s6 (And.intro @ne_s6 (And.intro @ne_t6 (And.intro @lt_s7 (And.intro @ne_s7 (And.intro @ne_t7 (And.intro @lt_s8 (And.intro @ne_s8 (And.intro @ne_t8 (And.intro @nat_sns (@Nat.lt_irrefl)))))))))))))))))))))))))))))))))))))))))))
theorem put_some (a : Act) (d : Nat) (v : Value) : a.put (some d) v = { a with tmps := a.tmps.setIfInBounds d v } := rfl
theorem put_none (a : Act) (v : Value) : a.put none v = a := rfl
theorem PT : (∀ (a : Act) (d : Nat) (v : Value), a.put (some d) v = { a with tmps := a.tmps.setIfInBounds d v }) ∧ (∀ (a : Act) (v : Value), a.put none v = a) ∧ (∀ (l : List Value) (i : Nat) (v : Value), l.toArray.setIfInBounds i v = (l.set i v).toArray) ∧ (∀ (a v : Value) (l : List Value), (a :: l).set 0 v = v :: l) ∧ (∀ (a v : Value) (l : List Value) (n : Nat), (a :: l).set (n + 1) v = a :: l.set n v) := And.intro @put_some (And.intro @put_none (And.intro @sb_cells (And.intro @sc_zero (@sc_succ))))
theorem SZ : (∀ (w : World) (o : Obj), (w.alloc o).heap.size = w.heap.size + 1) ∧ (∀ (w : World) (a : Addr) (v : Value), (w.setCell a v).heap.size = w.heap.size) ∧ (∀ w : World, w.drew.heap = w.heap) ∧ (∀ (w : World) (n : Nat), (w.drewN n).heap = w.heap) := And.intro @siz_alloc (And.intro @siz_set (And.intro @blk_drew (@blk_drewN)))
theorem nB {B : Nat} {w V v : World} (e : V = v) (h : Below B w v := by (repeat' first | with_reducible assumption | with_reducible exact Below.refl _ _ | with_reducible refine Below.alloc ?_ ?_ _ | with_reducible refine Below.setCell ?_ ?_ _ | with_reducible refine below_drewN ?_ _ | with_reducible refine Below.drew ?_ | exact Nat.le_refl _ | ((try dsimp only); omega) | (simp only [siz_alloc, siz_set]; omega))) : Below B w V := by rw [e]; exact h
end Go.Proofs.Ytkgabbenmoocgaa
