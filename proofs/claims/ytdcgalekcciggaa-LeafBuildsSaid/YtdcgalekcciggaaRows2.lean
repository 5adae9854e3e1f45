/- Slices that read as lists. -/
import Derived.Test.YtdcgalekcciggaaWords
import Derived.Laws.OwnMore
import Derived.Deep.AppendLies
import Derived.Maps.AppendAt
import Derived.Deep.Grids
import Derived.ChangeOld
namespace Go.Proofs.Ytdcgalekcciggaa
set_option linter.unusedSimpArgs false
set_option linter.unusedVariables false
set_option linter.unnecessarySimpa false
open Go.RowKit
theorem block_of_add (a : Addr) (n : Nat) : (a.add n).block = a.block := by unfold Addr.add; split <;> rfl
/-- A slice's address, its length, and what is in its cells (one cell an element). -/
def Rd (w : World) (A : Option Addr) (n : Nat) (xs : List Value) : Prop :=
  xs.length = n ∧ (0 < n → ∃ ad, A = some ad ∧ ad.block < w.heap.size ∧ ∀ j u, xs[j]? = some u → w.cell? (ad.add j) = some u)
theorem Rd.below {w w' : World} {A : Option Addr} {n : Nat} {xs : List Value} (h : Rd w A n xs) (hb : Below w.heap.size w w') : Rd w' A n xs :=
  ⟨h.1, fun hn => by
    obtain ⟨ad, e, hl, hc⟩ := h.2 hn
    exact ⟨ad, e, Nat.lt_of_lt_of_le hl hb.size, fun j u hu => (hb.cell (by rw [block_of_add]; exact hl)).trans (hc j u hu)⟩⟩
theorem Rd.at_ {w : World} {A : Option Addr} {n : Nat} {xs : List Value} (h : Rd w A n xs) {k : Nat} (hk : k < n) : ∃ ad, A = some ad ∧ ∀ u, xs[k]? = some u → w.cell? (ad.add k) = some u := by
  obtain ⟨ad, e, _, hc⟩ := h.2 (by omega)
  exact ⟨ad, e, fun u hu => hc k u hu⟩
theorem read_bools {H : Type} {enc : TypeId × Value → H} {P : Program} {w : World} {held : Bool} {t e : TypeId} {A : Option Addr} {len cap : Nat} {d : DataW H} {p : List MemPlace} (ht : P.underlying t = some (.slice e)) (he : P.underlying e = some .bool) (hc : P.cellsOf e = 1)
    (h : DataW.Trod enc P w 0 (fun _ => true) held t (.slice A len cap) d p) : ∃ l : List Bool, l.length = len ∧ Rd w A len (l.map .bool) := by
  obtain ⟨m, hm⟩ := h
  have hlt := DataW.trod_lt m _ _ _ hm
  simp only [Value.cells] at hm
  rcases Deep.open_bools ht he hc hm with ⟨h1, _⟩ | ⟨a, l', c', B, h1, _, hl, _, hx, hcell⟩
  · simp only [List.cons.injEq, Value.slice.injEq, and_true] at h1
    obtain ⟨rfl, rfl, rfl⟩ := h1
    exact ⟨[], rfl, rfl, fun h => absurd h (by omega)⟩
  · simp only [List.cons.injEq, Value.slice.injEq, and_true] at h1
    obtain ⟨rfl, rfl, rfl⟩ := h1
    refine ⟨(List.range len).map B, by simp, by simp, fun hn => ⟨a, rfl, ?_, fun j u hu => ?_⟩⟩
    · simp only [Prod.mk.injEq] at hx
      exact hlt (.cell a.block a.off) (by rw [hx.2]; exact MemPlace.mem_row.2 ⟨0, by omega, by simp⟩)
    · simp only [List.map_map, List.getElem?_map, Option.map_eq_some_iff] at hu
      obtain ⟨i, hi, rfl⟩ := hu
      obtain ⟨h2, h3⟩ := List.getElem?_eq_some_iff.1 hi
      simp at h2 h3
      subst h3
      exact hcell j (by omega)
end Go.Proofs.Ytdcgalekcciggaa
