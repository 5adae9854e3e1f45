/- Loops whose rounds hand on a number of their own; rows of two cells an element. -/
import Derived.Test.YtkgabbenmoocgaaHeld
import Derived.Test.YtkgabbenmoocgaaRows2
namespace Go.Proofs.Ytkgabbenmoocgaa
set_option linter.unusedSimpArgs false
set_option linter.unusedVariables false
set_option linter.unnecessarySimpa false
open Go.RowKit
theorem handed_gen {J : Nat → Act → World → Prop} {n : Nat} {a : Act} {w : World} (h : ∀ v, v = w → Handed J n a v) : Handed J n a w := h w rfl
/-- A slice value that reads as a row of cells, so many an element. -/
def Rx (w : World) (size : Nat) (v : Value) (n : Nat) (xs : List Value) : Prop :=
  xs.length = n * size ∧ ∃ A cap, v = .slice A n cap ∧ (0 < n → ∃ g, A = some ⟨g, 0, none⟩ ∧ g < w.heap.size ∧ ∀ j, j < n * size → w.cell? ⟨g, j, none⟩ = xs[j]?)
theorem Rx.below {w w' : World} {size n : Nat} {v : Value} {xs : List Value} (h : Rx w size v n xs) (hb : Below w.heap.size w w') : Rx w' size v n xs := by
  obtain ⟨h1, A, cap, rfl, h2⟩ := h
  refine ⟨h1, A, cap, rfl, fun hn => ?_⟩
  obtain ⟨g, rfl, hg, hc⟩ := h2 hn
  exact ⟨g, rfl, Nat.lt_of_lt_of_le hg hb.size, fun j hj => (hb.cell (by exact hg)).trans (hc j hj)⟩
theorem Rx.of_own {w : World} {base : Nat} {e : TypeId} {size n : Nat} {v : Value} {xs : List Value} (h : w.ownsRow base e size v n xs) : Rx w size v n xs := by
  rcases h.2 with ⟨rfl, h0⟩ | ⟨g, cap, cur, rfl, hg, hc, hcap, hs, hx⟩
  · subst h0; exact ⟨h.1, none, 0, rfl, fun h => absurd h (by omega)⟩
  · refine ⟨h.1, some ⟨g, 0, none⟩, cap, rfl, fun _ => ⟨g, rfl, lt_of hc, fun j hj => h.cellAt j hj⟩⟩
end Go.Proofs.Ytkgabbenmoocgaa
