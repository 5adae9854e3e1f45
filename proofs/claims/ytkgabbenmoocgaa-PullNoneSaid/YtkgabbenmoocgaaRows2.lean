/- Slices that read as lists. -/
import Derived.Test.YtkgabbenmoocgaaWords
import Derived.Laws.OwnMore
import Derived.Deep.AppendLies
import Derived.Maps.AppendAt
import Derived.Deep.Grids
import Derived.ChangeOld
namespace Go.Proofs.Ytkgabbenmoocgaa
set_option linter.unusedSimpArgs false
set_option linter.unusedVariables false
set_option linter.unnecessarySimpa false
open Go.RowKit
theorem block_of_add (a : Addr) (n : Nat) : (a.add n).block = a.block := by unfold Addr.add; split <;> rfl
/-- A slice's address, its length, and what is in its cells (one cell an element). -/
def Rd (w : World) (A : Option Addr) (n : Nat) (xs : List Value) : Prop :=
  xs.length = n ∧ (0 < n → ∃ ad, A = some ad ∧ ad.block < w.heap.size ∧ ∀ j u, xs[j]? = some u → w.cell? (ad.add j) = some u)
theorem Rd.below {w w' : World} {A : Option Addr} {n : Nat} {xs : List Value} (h : Rd w A n xs) (hb : Below w.heap.size w w') : Rd w' A n xs :=
  ⟨h.1, fun hn => by
    obtain ⟨ad, e, hl, hc⟩ := h.2 hn
    exact ⟨ad, e, Nat.lt_of_lt_of_le hl hb.size, fun j u hu => (hb.cell (by rw [block_of_add]; exact hl)).trans (hc j u hu)⟩⟩
theorem Rd.at_ {w : World} {A : Option Addr} {n : Nat} {xs : List Value} (h : Rd w A n xs) {k : Nat} (hk : k < n) : ∃ ad, A = some ad ∧ ∀ u, xs[k]? = some u → w.cell? (ad.add k) = some u := by
  obtain ⟨ad, e, _, hc⟩ := h.2 (by omega)
  exact ⟨ad, e, fun u hu => hc k u hu⟩
theorem read_bools {H : Type} {enc : TypeId × Value → H} {P : Program} {w : World} {held : Bool} {t e : TypeId} {A : Option Addr} {len cap : Nat} {d : DataW H} {p : List MemPlace} (ht : P.underlying t = some (.slice e)) (he : P.underlying e = some .bool) (hc : P.cellsOf e = 1)
    (h : DataW.Trod enc P w 0 (fun _ => true) held t (.slice A len cap) d p) : ∃ l : List Bool, l.length = len ∧ Rd w A len (l.map .bool) := by
  obtain ⟨m, hm⟩ := h
  have hlt := DataW.trod_lt m _ _ _ hm
  simp only [Value.cells] at hm
  rcases Deep.open_bools ht he hc hm with ⟨h1, _⟩ | ⟨a, l', c', B, h1, _, hl, _, hx, hcell⟩
  · simp only [List.cons.injEq, Value.slice.injEq, and_true] at h1
    obtain ⟨rfl, rfl, rfl⟩ := h1
    exact ⟨[], rfl, rfl, fun h => absurd h (by omega)⟩
  · simp only [List.cons.injEq, Value.slice.injEq, and_true] at h1
    obtain ⟨rfl, rfl, rfl⟩ := h1
    refine ⟨(List.range len).map B, by simp, by simp, fun hn => ⟨a, rfl, ?_, fun j u hu => ?_⟩⟩
    · simp only [Prod.mk.injEq] at hx
      exact hlt (.cell a.block a.off) (by rw [hx.2]; exact MemPlace.mem_row.2 ⟨0, by omega, by simp⟩)
    · simp only [List.map_map, List.getElem?_map, Option.map_eq_some_iff] at hu
      obtain ⟨i, hi, rfl⟩ := hu
      obtain ⟨h2, h3⟩ := List.getElem?_eq_some_iff.1 hi
      simp at h2 h3
      subst h3
      exact hcell j (by omega)
/-- An append of one element onto a row of the call's own: nothing below 'base' turns. -/
theorem wpList_push {P : Program} {ops : Array Oper} {rest : List Oper} {o : Oper} {a : Act} {Q : Exit → Act → World → Prop} (w : World) (hgd : o.guard = none) (s x : Operand) (t : TypeId)
    (ho : o.op = .call { callee := .builtin .append, args := #[s, x], argTypes := #[t, t] })
    (base : Nat) (e : TypeId) (z : Value) (size bytes : Nat) (ht : P.underlying t = some (.slice e)) (hi : (P.info? e).map (fun i => (i.zero, i.size, i.bytes)) = some (some z, size, bytes))
    (hzs : z.cells.size = size) (hsz : 0 < size) (v : Value) (n : Nat) (xs : List Value) (hs : a.eval s = v) (hown : w.ownsRow base e size v n xs)
    (news : Array Value) (hl : news.size = size) (hx : a.eval x = .slice (some ⟨w.heap.size, 0, none⟩) 1 1) (h1 : ∀ u ∈ news.toList, u.oneCell' = true) (h63 : n + 1 ≤ maxLen) (hbytes : (n + 1) * bytes ≤ 140737488355328) (hbase : base ≤ w.heap.size)
    (h : ∀ g cap w', w'.ownsRow base e size (.slice (some ⟨g, 0, none⟩) (n + 1) cap) (n + 1) (xs ++ news.toList) → Below base w w' → g < w'.heap.size → wpList P ops Q rest (a.put o.dst (.slice (some ⟨g, 0, none⟩) (n + 1) cap)) w') :
    wpList P ops Q (o :: rest) a (w.alloc (.cells news e)) := by
  obtain ⟨i0, hi0, hz0, hz1, hz2⟩ := info_parts hi
  refine wpList_append_lies _ hgd s x t ho base e i0 z size bytes ht hi0 hz0 hz1 hz2 hzs hsz v n xs hs (hown.alloc _) ⟨w.heap.size, 0, none⟩ 1 1 news.toList hx (by simpa using hl) ?_ h1 (by omega) h63 hbytes (by simp; omega) (w.heap.size + 1) (by simp) ?_
  · intro j u hu
    have hk := cells_of (blk_new w (.cells news e) w.heap.size rfl) j
    rw [show (⟨w.heap.size, 0, none⟩ : Addr).add j = ⟨w.heap.size, j, none⟩ by unfold Addr.add; split <;> simp_all]
    rw [hk]; simpa using hu
  · intro g cap w' h2 hg hat hlt
    refine h g cap w' h2 ?_ hlt
    refine ((Below.refl base w).alloc hbase _).grown hg (by simp; omega) ?_
    intro k hk
    rcases hown.2 with ⟨rfl, _⟩ | ⟨g', cap', cur, rfl, hge, _⟩
    · simp [Value.ownBlock] at hk
    · simp [Value.ownBlock] at hk; omega
theorem own_below {w w' : World} {base : Nat} {e : TypeId} {size n : Nat} {v : Value} {xs : List Value} (h : w.ownsRow base e size v n xs) (hb : Below w.heap.size w w') : w'.ownsRow base e size v n xs := by
  refine ⟨h.1, ?_⟩
  rcases h.2 with h0 | ⟨g, cap, cur, hv, hg, hc, hh⟩
  · exact .inl h0
  · exact .inr ⟨g, cap, cur, hv, hg, keep_blk hb hc, hh⟩
theorem own_nil (w : World) (base : Nat) (e : TypeId) (size : Nat) : w.ownsRow base e size (.slice none 0 0) 0 [] := ⟨by simp, .inl ⟨rfl, rfl⟩⟩
theorem low_step {w w1 w2 : World} {base : Nat} (h1 : Below w.heap.size w w1) (hb : w.heap.size ≤ base) (h2 : Below base w1 w2) : Below w.heap.size w w2 := h1.trans (h2.mono hb)
theorem keep_low {w w' : World} {b base : Nat} {o : Obj} (hb : Below base w w') (hlt : b < base) (h : w.heap[b]? = some o) : w'.heap[b]? = some o := (hb.block _ hlt).trans h
end Go.Proofs.Ytkgabbenmoocgaa
