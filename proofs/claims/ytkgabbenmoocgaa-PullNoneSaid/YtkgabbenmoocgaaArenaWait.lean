/- An append onto the arena's list of those that wait. -/
import Derived.Test.YtkgabbenmoocgaaArena
import Derived.ArgAppend
namespace Go.Proofs.Ytkgabbenmoocgaa
set_option linter.unusedSimpArgs false
set_option linter.unusedVariables false
set_option linter.unnecessarySimpa false
open Go.RowKit
theorem wt_of_own {w : World} {base : Nat} {v : Value} {l : List Nat} (h : w.ownsRow base 3 1 v l.length (l.map fun n : Nat => Value.int .i64 (n : Int))) : Wt w v l := by
  rcases h.2 with ⟨rfl, h0⟩ | ⟨g, cap, cur, rfl, hg, hc, hn, hm, hsz, hx⟩
  · exact .inl ⟨rfl, List.eq_nil_of_length_eq_zero h0⟩
  · refine .inr ⟨g, 0, cap, cur, rfl, hc, hn, by omega, by omega, fun i hi => ?_⟩
    have := congrArg (·[i]?) hx
    simp only [Nat.mul_one, List.getElem?_take_of_lt hi, List.getElem?_map, List.getElem?_eq_getElem hi, Option.map_some] at this
    simpa using this
structure WaitStep (w : World) (wv : Value) (l : List Nat) (w' : World) (wv' : Value) : Prop where
  wt : Wt w' wv' l
  os : w'.os = w.os
  tape : w'.tape = w.tape
  output : w'.output = w.output
  size : w.heap.size ≤ w'.heap.size
  block : ∀ b, b < w.heap.size → wv.ownBlock ≠ some b → w'.heap[b]? = w.heap[b]?
  own : ∀ b, wv'.ownBlock = some b → wv.ownBlock = some b ∨ w.heap.size ≤ b
theorem wpList_wait {P : Program} (w : World) {ops : Array Oper} {rest : List Oper} {o : Oper} {a : Act} {Q : Exit → Act → World → Prop} (hgd : o.guard = none) (s x : Operand) (t : TypeId)
    (hop : o.op = Op.call { callee := Callee.builtin Builtin.append, args := #[s, x], argTypes := #[t, t] }) (ht : P.underlying t = some (.slice 3))
    (hi : (P.info? 3).map (fun i => (i.zero, i.size, i.bytes)) = some (some (.int .i64 0), 1, 8)) (wv : Value) (l : List Nat) (h : Nat) (hs : a.eval s = wv) (hw : Wt w wv l)
    (n : Nat) (hn : n = w.heap.size) (hx : a.eval x = .slice (some ⟨n, 0, none⟩) 1 1) (hl : l.length ≤ 60000)
    (hk : ∀ A n c w', WaitStep w wv (l ++ [h]) w' (.slice A n c) → wpList P ops Q rest (a.put o.dst (.slice A n c)) w') :
    wpList P ops Q (o :: rest) a (w.alloc (.cells #[.int .i64 (h : Int)] 3)) := by
  subst hn
  replace hk : ∀ wv' w', WaitStep w wv (l ++ [h]) w' wv' → wpList P ops Q rest (a.put o.dst wv') w' := by
    intro wv' w' hst
    rcases hst.wt with ⟨rfl, _⟩ | ⟨g, off, cap, c, rfl, _⟩
    · exact hk _ _ _ _ hst
    · exact hk _ _ _ _ hst
  obtain ⟨i0, hi0, hz0, hz1, hz2⟩ := info_parts hi
  have hnews : ∀ j u, [Value.int .i64 (h : Int)][j]? = some u → (w.alloc (.cells #[.int .i64 (h : Int)] 3)).cell? ((⟨w.heap.size, 0, none⟩ : Addr).add j) = some u := by
    intro j u hu
    rw [show (⟨w.heap.size, 0, none⟩ : Addr).add j = ⟨w.heap.size, j, none⟩ by unfold Addr.add; split <;> simp_all, cells_of (blk_new w _ w.heap.size rfl) j]
    simpa using hu
  have fin : ∀ v' w', w'.ownsRow (w.alloc (.cells #[.int .i64 (h : Int)] 3)).heap.size 3 1 v' (l.length + 1) ((l.map fun n : Nat => Value.int .i64 (n : Int)) ++ [.int .i64 (h : Int)]) → (w.alloc (.cells #[.int .i64 (h : Int)] 3)).grownBy w' none → WaitStep w wv (l ++ [h]) w' v' := by
    intro v' w' hown hg
    refine ⟨wt_of_own (base := (w.alloc (.cells #[.int .i64 (h : Int)] 3)).heap.size) (by simpa using hown), hg.os, hg.tape, hg.output, by have := hg.size; simp at this; omega, fun b hb _ => ?_, fun b hb => .inr ?_⟩
    · rw [hg.block b (by simp; omega) (by simp), blk_old _ _ _ hb]
    · rcases hown.2 with ⟨_, h0⟩ | ⟨g, cap, cur, rfl, hge, _⟩
      · omega
      · simp [Value.ownBlock] at hb; simp at hge; omega
  rcases hw with ⟨rfl, rfl⟩ | ⟨g, off, cap, c, rfl, hg, hlc, hoc, hom, hcell⟩
  · refine wpList_append_grows _ hgd s x t hop 3 i0 _ 1 8 ht hi0 hz0 hz1 hz2 rfl (by omega) none 0 0 [] hs (fun _ => ⟨rfl, rfl⟩) rfl (fun _ h => by cases h) ⟨w.heap.size, 0, none⟩ 1 1 [.int .i64 (h : Int)] hx rfl hnews (by simp [Value.oneCell']) (by omega) (by simp [maxLen]) (by omega) ?_
    intro v' w' hown hgr
    exact hk v' w' (fin v' w' (by simpa using hown) hgr)
  · have hgl := lt_of hg
    have hg' : (w.alloc (.cells #[.int .i64 (h : Int)] 3)).heap[g]? = some (.cells c 3 (0, 0)) := by rw [blk_old _ _ _ hgl]; exact hg
    refine wpList_append_arg _ hgd s x t hop 3 i0 _ 1 8 ht hi0 hz0 hz1 hz2 rfl (by omega) g off l.length cap (l.map fun n : Nat => Value.int .i64 (n : Int)) hs (by simp) ?_ ⟨w.heap.size, 0, none⟩ 1 1 [.int .i64 (h : Int)] hx rfl hnews (by simp [Value.oneCell']) ?_ (by unfold maxLen; omega) (by omega) ?_ ?_
    · intro j u hu
      rw [cells_of hg']
      simp only [List.getElem?_map, Option.map_eq_some_iff] at hu
      obtain ⟨n, hn, rfl⟩ := hu
      obtain ⟨hj, rfl⟩ := List.getElem?_eq_some_iff.1 hn
      exact hcell j hj
    · intro hr j hj
      simp at hj
      subst hj
      rw [cells_of hg', free_of hg']
      refine ⟨?_, rfl⟩
      rw [Array.getElem?_eq_getElem (show off + l.length * 1 + 0 < c.size by omega)]; rfl
    · intro hr
      refine hk _ _ ⟨.inr ⟨g, off, cap, c.setIfInBounds (off + l.length) (.int .i64 (h : Int)), by simp, ?_, by simp; omega, by simpa using hoc, hom, fun i hi => ?_⟩, rfl, rfl, rfl, ?_, fun b hb hne => ?_, fun b hb => .inl hb⟩
      · simp only [World.setCells, Nat.mul_one]
        rw [blk_set, hg', Option.map_some, setAt_cells]
      · simp at hi
        by_cases h1 : i = l.length
        · subst h1
          rw [Array.getElem?_setIfInBounds_self_of_lt (by omega)]; simp
        · rw [Array.getElem?_setIfInBounds_ne (by omega), hcell i (by omega), List.getElem_append_left (by omega)]
      · simp only [World.setCells]; rw [siz_set]; simp
      · simp only [World.setCells]
        rw [blk_far _ _ _ _ (fun e => hne (by rw [e]; rfl)), blk_old _ _ _ hb]
    · intro hfull v' w' hown hgr
      exact hk v' w' (fin v' w' hown hgr)
end Go.Proofs.Ytkgabbenmoocgaa
