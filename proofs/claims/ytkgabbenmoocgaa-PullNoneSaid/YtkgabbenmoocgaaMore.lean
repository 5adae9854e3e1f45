/- Appends of slices onto rows of the call's own, in a region that draws; elements of any size. -/
import Derived.Test.YtkgabbenmoocgaaRight
namespace Go.Proofs.Ytkgabbenmoocgaa
set_option linter.unusedSimpArgs false
set_option linter.unusedVariables false
set_option linter.unnecessarySimpa false
open Go.RowKit
/-- A slice's address, its length, and what is in its cells, so many an element. -/
def Rds (w : World) (A : Option Addr) (n size : Nat) (xs : List Value) : Prop :=
  xs.length = n * size ∧ (0 < n → ∃ ad, A = some ad ∧ ad.block < w.heap.size ∧ ∀ j u, xs[j]? = some u → w.cell? (ad.add j) = some u)
theorem Rds.below {w w' : World} {A : Option Addr} {n size : Nat} {xs : List Value} (h : Rds w A n size xs) (hb : Below w.heap.size w w') : Rds w' A n size xs :=
  ⟨h.1, fun hn => by
    obtain ⟨ad, e, hl, hc⟩ := h.2 hn
    exact ⟨ad, e, Nat.lt_of_lt_of_le hl hb.size, fun j u hu => (hb.cell (by rw [block_of_add]; exact hl)).trans (hc j u hu)⟩⟩
theorem add_zero_off (g j : Nat) : (⟨g, 0, none⟩ : Addr).add j = ⟨g, j, none⟩ := by unfold Addr.add; split <;> simp_all
theorem Rds.of_own {w : World} {base cap : Nat} {A : Option Addr} {e : TypeId} {size n : Nat} {xs : List Value} (h : w.ownsRow base e size (.slice A n cap) n xs) : Rds w A n size xs := by
  refine ⟨h.1, fun hn => ?_⟩
  obtain ⟨-, A', cap', hv, h2⟩ := Rx.of_own h
  obtain ⟨g, rfl, hg, hc⟩ := h2 hn
  obtain ⟨rfl, -, rfl⟩ := Value.slice.inj hv
  refine ⟨_, rfl, hg, fun j u hu => ?_⟩
  rw [add_zero_off, hc j (by have := (List.getElem?_eq_some_iff.1 hu).1; have := h.1; omega)]
  exact hu
theorem Rds.part {w : World} {A : Option Addr} {n size : Nat} {xs : List Value} (h : Rds w A n size xs) (k : Nat) (hk : k ≤ n) : Rds w A k size (xs.take (k * size)) := by
  have hm : k * size ≤ n * size := Nat.mul_le_mul_right _ hk
  refine ⟨by have := h.1; simp; omega, fun h0 => ?_⟩
  obtain ⟨ad, e, hl, hc⟩ := h.2 (by omega)
  refine ⟨ad, e, hl, fun j u hu => hc j u ?_⟩
  simp only [List.getElem?_take] at hu
  split at hu
  · exact hu
  · cases hu
theorem Rds.behind {w : World} {A A' : Option Addr} {n size : Nat} {xs : List Value} (h : Rds w A n size xs) (k m : Nat) (hk : k ≤ n) (hm : m = n - k) (hA : k < n → A' = A.map (·.add (k * size))) : Rds w A' m size (xs.drop (k * size)) := by
  subst hm
  have hm : k * size ≤ n * size := Nat.mul_le_mul_right _ hk
  refine ⟨by have := h.1; rw [List.length_drop, this, Nat.sub_mul], fun h0 => ?_⟩
  obtain ⟨ad, e, hl, hc⟩ := h.2 (by omega)
  refine ⟨ad.add (k * size), by rw [hA (by omega), e]; rfl, by rw [block_of_add]; exact hl, fun j u hu => ?_⟩
  have := hc (k * size + j) u (by rw [List.getElem?_drop] at hu; exact hu)
  rw [← this]
  congr 1
  generalize k * size = q
  obtain ⟨bb, oo, pp⟩ := ad
  unfold Addr.add
  rcases Nat.eq_zero_or_pos q with rfl | h1
  · simp
  · rcases Nat.eq_zero_or_pos j with rfl | h2
    · simp
    · rw [if_neg (by omega), if_neg (by omega), if_neg (by omega)]
      cases pp <;> simp <;> omega
/-- One element in a block of its own. -/
theorem rds_one (w : World) (cs : Array Value) (e : TypeId) (size : Nat) (hs : cs.size = size) : Rds (w.alloc (.cells cs e)) (some ⟨w.heap.size, 0, none⟩) 1 size cs.toList := by
  refine ⟨by simp [hs], fun _ => ⟨_, rfl, by simp, fun j x hx => ?_⟩⟩
  rw [add_zero_off, cells_of (blk_new w (.cells cs e) w.heap.size rfl) j]
  simpa using hx
theorem step_moreN {P : Program} {ops : Array Oper} {o : Oper} {a : Act} {K : Act → World → Prop} {Q : Exit → Act → World → Prop} {E : Prop} {w : World} (hwant : Region.wanted o (yielded ops a.tmps) = true) (s x : Operand) (t : TypeId)
    (ho : o.op = .call { callee := .builtin .append, args := #[s, x], argTypes := #[t, t] })
    {base : Nat} {e : TypeId} (z : Value) (size bytes : Nat) (hsz : 0 < size) (ht : P.underlying t = some (.slice e)) (hi : (P.info? e).map (fun i => (i.zero, i.size, i.bytes)) = some (some z, size, bytes)) (hzs : z.cells.size = size)
    {v : Value} {n : Nat} {xs : List Value} (hs : a.eval s = v) (hown : w.ownsRow base e size v n xs)
    {A : Option Addr} {m c : Nat} {news : List Value} (hx : a.eval x = .slice A m c) (hr : Rds w A m size news) (h1 : ∀ u ∈ news, u.oneCell' = true)
    {nm : Nat} (hnm : nm = n + m) (h63 : nm ≤ 60000) (hby : bytes ≤ 60000) (hbase : base ≤ w.heap.size)
    (h : ∀ A' c' w', w'.ownsRow base e size (.slice A' nm c') nm (xs ++ news) → Below base w w' → (∀ B, B ≤ w.heap.size → (∀ k, v.ownBlock = some k → B ≤ k) → Below B w w') → K (a.put o.dst (.slice A' nm c')) w') :
    if Region.wanted o (yielded ops a.tmps) = true then Oper.wp P o a w K Q else E := by
  subst hnm
  rw [if_pos hwant]
  have hb : (n + m) * bytes ≤ 140737488355328 := Nat.le_trans (Nat.mul_le_mul h63 hby) (by omega)
  obtain ⟨i0, hi0, hz0, hz1, hz2⟩ := info_parts hi
  have key : ∃ v' w', (Builtin.append_ #[t, t] o.type #[v, .slice A m c]).run P w = .ok v' w' ∧ w'.ownsRow base e size v' (n + m) (xs ++ news) ∧ Below base w w' ∧ (∀ B, B ≤ w.heap.size → (∀ k, v.ownBlock = some k → B ≤ k) → Below B w w') := by
    rcases A with _ | ad
    · have h0 : m = 0 := by
        rcases Nat.eq_zero_or_pos m with h0 | h0
        · exact h0
        · obtain ⟨ad, h, _⟩ := hr.2 h0
          cases h
      subst h0
      have hn : news = [] := List.eq_nil_of_length_eq_zero (by have := hr.1; omega)
      subst hn
      refine ⟨v, w, ?_, by simpa using hown, Below.refl _ _, fun B _ _ => Below.refl _ _⟩
      rcases hown.2 with ⟨rfl, rfl⟩ | ⟨g, cap, cur, rfl, _, _, hnc, _⟩
      · simp [Builtin.append_, run_underlying ht, sizeOf, typeInfo, hi0, Builtin.lenOf, Builtin.firstCells]
      · simp [Builtin.append_, run_underlying ht, sizeOf, typeInfo, hi0, Builtin.lenOf, Builtin.firstCells, hnc, storeCells]
    · have hc : ∀ j u, news[j]? = some u → w.cell? (ad.add j) = some u := by
        intro j u hu
        rcases Nat.eq_zero_or_pos m with h0 | h0
        · subst h0
          have hn : news = [] := List.eq_nil_of_length_eq_zero (by have := hr.1; omega)
          subst hn
          simp at hu
        · obtain ⟨ad', h, _, hc⟩ := hr.2 h0
          injection h with h
          subst h
          exact hc j u hu
      obtain ⟨v', w', hrun, h2, hg, _, h5⟩ := run_append_own_at (P := P) w base t o.type e i0 z size bytes ht hi0 hz0 hz1 hz2 hzs hsz v n xs hown ad m c news (by simpa using hr.1) hc h1 (by unfold maxLen; omega) hb hbase
      refine ⟨v', w', hrun, h2, (Below.refl base w).grown hg hbase fun k hk => ?_, fun B hB hk => (Below.refl B w).grown hg hB hk⟩
      rcases hown.2 with ⟨rfl, _⟩ | ⟨g', cap', cur, rfl, hge, _⟩
      · simp [Value.ownBlock] at hk
      · simp [Value.ownBlock] at hk; omega
  obtain ⟨v', w', hrun, h2, h3, h4⟩ := key
  obtain ⟨-, A', c', rfl, -⟩ := Rx.of_own h2
  unfold Oper.wp execOp
  simp only [ho, resolve, invoke, builtin, Sem.run_bind, Sem.run_pure, Result.andThen_ok, List.map_toArray, List.map_cons, List.map_nil, hs, hx, hrun]
  exact h A' c' w' h2 h3 h4
theorem own_cap {w : World} {base n cap size : Nat} {A : Option Addr} {e : TypeId} {xs : List Value} (h : w.ownsRow base e size (.slice A n cap) n xs) : n ≤ cap := by
  rcases h.2 with ⟨hv, h0⟩ | ⟨g, cap', cur, hv, hg, hc, hcap, -⟩
  · omega
  · obtain ⟨-, -, rfl⟩ := Value.slice.inj hv; exact hcap
/-- What a region that draws keeps: all that lies below its beginning. -/
abbrev HeldB (W v : World) : Prop := Below W.heap.size W v ∧ (W.heap.size ≤ v.heap.size) ∧ ∀ b o, b < W.heap.size → v.cell? ⟨b, o, none⟩ = W.cell? ⟨b, o, none⟩
theorem HeldB.of {W v : World} (h : Below W.heap.size W v) : HeldB W v := ⟨h, h.size, (bcell h).1⟩
theorem HeldB.start (W : World) : HeldB W W.drew := HeldB.of (Below.refl _ _).drew
theorem HeldB.low {W u v : World} (h : HeldB W u) (hb : Below W.heap.size u v) : HeldB W v := HeldB.of (h.1.trans hb)
theorem HeldB.call {W u v : World} (h : HeldB W u) (hb : Below u.heap.size u v) : HeldB W v := HeldB.of (h.1.trans (hb.mono h.2.1))
theorem HeldB.alloc {W u : World} (h : HeldB W u) (o : Obj) : HeldB W (u.alloc o) := HeldB.of (h.1.alloc h.2.1 o)
/-! ### the document's own order of rows, as plain functions -/
def rowsOf (ts : List (List UInt8)) (d : Nat) : List (Nat × Nat) := (List.range ((ts.getD d []).length + 1)).map fun a => (d, a)
/-- The rows ahead of a place. -/
def upto (ts : List (List UInt8)) (d a : Nat) : List (Nat × Nat) := (List.range d).flatMap (rowsOf ts) ++ (List.range a).map fun a => (d, a)
def refLess (ts : List (List UInt8)) (a b : Nat × Nat) : Bool := lessL (decide (a.1 < b.1)) ((ts.getD a.1 []).drop a.2) ((ts.getD b.1 []).drop b.2)
def refAt (ts : List (List UInt8)) (out : List (Nat × Nat)) (r : Nat × Nat) : Nat := (out.takeWhile (fun x => refLess ts x r)).length
def refIns (ts : List (List UInt8)) (out : List (Nat × Nat)) (r : Nat × Nat) : List (Nat × Nat) := out.take (refAt ts out r) ++ r :: out.drop (refAt ts out r)
def refFold (ts : List (List UInt8)) (l : List (Nat × Nat)) : List (Nat × Nat) := l.foldl (refIns ts) []
def refSorted (ts : List (List UInt8)) : List (Nat × Nat) := if refRight ts then refFold ts (upto ts ts.length 0) else []
def rowInts (l : List (Nat × Nat)) : List (Int × Int) := l.map fun r => ((r.1 : Int), (r.2 : Int))
def rowCells (l : List (Nat × Nat)) : List Value := itemCells (rowInts l)
theorem upto_zero (ts : List (List UInt8)) : upto ts 0 0 = [] := rfl
theorem upto_snoc (ts : List (List UInt8)) (d a : Nat) : upto ts d (a + 1) = upto ts d a ++ [(d, a)] := by
  unfold upto
  rw [List.range_succ, List.map_append, List.append_assoc]; rfl
theorem upto_next (ts : List (List UInt8)) (d : Nat) : upto ts d ((ts.getD d []).length + 1) = upto ts (d + 1) 0 := by
  unfold upto
  rw [show List.range (d + 1) = List.range d ++ [d] from List.range_succ, List.flatMap_append]
  simp [rowsOf]
theorem refFold_snoc (ts : List (List UInt8)) (l : List (Nat × Nat)) (r : Nat × Nat) : refFold ts (l ++ [r]) = refIns ts (refFold ts l) r := by
  unfold refFold; rw [List.foldl_append]; rfl
theorem refAt_le (ts : List (List UInt8)) (out : List (Nat × Nat)) (r : Nat × Nat) : refAt ts out r ≤ out.length := by
  unfold refAt; exact (List.takeWhile_prefix _).length_le
theorem refIns_mem (ts : List (List UInt8)) (out : List (Nat × Nat)) (r x : Nat × Nat) : x ∈ refIns ts out r ↔ x = r ∨ x ∈ out := by
  unfold refIns
  rw [List.mem_append, List.mem_cons]
  have : x ∈ out ↔ x ∈ out.take (refAt ts out r) ∨ x ∈ out.drop (refAt ts out r) := by rw [← List.mem_append, List.take_append_drop]
  rw [this]
  constructor
  · rintro (h | h | h)
    · exact .inr (.inl h)
    · exact .inl h
    · exact .inr (.inr h)
  · rintro (h | h | h)
    · exact .inr (.inl h)
    · exact .inl h
    · exact .inr (.inr h)
theorem refIns_length (ts : List (List UInt8)) (out : List (Nat × Nat)) (r : Nat × Nat) : (refIns ts out r).length = out.length + 1 := by
  unfold refIns
  have := refAt_le ts out r
  simp; omega
theorem fold_mem (ts : List (List UInt8)) : ∀ (l out : List (Nat × Nat)) (x : Nat × Nat), x ∈ l.foldl (refIns ts) out ↔ x ∈ l ∨ x ∈ out
  | [], out, x => by simp
  | r :: l, out, x => by
    rw [List.foldl_cons, fold_mem ts l, refIns_mem, List.mem_cons]
    constructor
    · rintro (h | h | h)
      · exact .inl (.inr h)
      · exact .inl (.inl h)
      · exact .inr h
    · rintro ((h | h) | h)
      · exact .inr (.inl h)
      · exact .inl h
      · exact .inr (.inr h)
theorem refFold_mem (ts : List (List UInt8)) (l : List (Nat × Nat)) (x : Nat × Nat) : x ∈ refFold ts l ↔ x ∈ l := by
  unfold refFold; rw [fold_mem]; simp
theorem fold_length (ts : List (List UInt8)) : ∀ (l out : List (Nat × Nat)), (l.foldl (refIns ts) out).length = l.length + out.length
  | [], out => by simp
  | r :: l, out => by rw [List.foldl_cons, fold_length ts l, refIns_length, List.length_cons]; omega
theorem refFold_length (ts : List (List UInt8)) (l : List (Nat × Nat)) : (refFold ts l).length = l.length := by
  unfold refFold; rw [fold_length]; simp
theorem getD_at {ts : List (List UInt8)} {d : Nat} {t : List UInt8} (h : ts[d]? = some t) : ts.getD d [] = t := by simp [List.getD, h]
theorem upto_mem {ts : List (List UInt8)} {d a : Nat} {x : Nat × Nat} (h : x ∈ upto ts d a) : (x.1 < d ∧ x.2 ≤ (ts.getD x.1 []).length) ∨ (x.1 = d ∧ x.2 < a) := by
  unfold upto rowsOf at h
  rw [List.mem_append] at h
  rcases h with h | h
  · obtain ⟨e, he, h⟩ := List.mem_flatMap.1 h
    obtain ⟨b, hb, rfl⟩ := List.mem_map.1 h
    rw [List.mem_range] at he hb
    exact .inl ⟨he, by show b ≤ (ts.getD e []).length; omega⟩
  · obtain ⟨b, hb, rfl⟩ := List.mem_map.1 h
    rw [List.mem_range] at hb
    exact .inr ⟨rfl, hb⟩
theorem right_len {ts : List (List UInt8)} (h : refRight ts = true) : ts.length ≤ 10 ∧ ∀ d, (ts.getD d []).length ≤ 40 := by
  unfold refRight at h
  simp only [Bool.and_eq_true, decide_eq_true_eq, List.all_eq_true] at h
  refine ⟨h.2, fun d => ?_⟩
  by_cases hd : d < ts.length
  · rw [getD_at (List.getElem?_eq_getElem hd)]; exact h.1 _ (List.getElem_mem hd)
  · simp [List.getD, List.getElem?_eq_none (Nat.le_of_not_lt hd)]
theorem flat_length (ts : List (List UInt8)) (h : ∀ d, (ts.getD d []).length ≤ 40) : ∀ d, ((List.range d).flatMap (rowsOf ts)).length ≤ d * 41
  | 0 => by simp
  | d + 1 => by
    have := flat_length ts h d
    have := h d
    rw [List.range_succ, List.flatMap_append, List.length_append]
    have e : ((List.flatMap (rowsOf ts) [d])).length = (ts.getD d []).length + 1 := by simp [rowsOf]
    omega
theorem upto_length {ts : List (List UInt8)} (h : ∀ d, (ts.getD d []).length ≤ 40) (d a : Nat) : (upto ts d a).length ≤ d * 41 + a := by
  unfold upto
  have := flat_length ts h d
  rw [List.length_append, List.length_map, List.length_range]; omega
theorem refAt_of {ts : List (List UInt8)} : ∀ {out : List (Nat × Nat)} {r : Nat × Nat} {j : Nat}, j ≤ out.length → (∀ i x, i < j → out[i]? = some x → refLess ts x r = true) → (∀ x, out[j]? = some x → refLess ts x r = false) → refAt ts out r = j
  | [], r, j, h, _, _ => by unfold refAt; simp at h ⊢; omega
  | y :: out, r, 0, h, h1, h2 => by
    unfold refAt
    rw [List.takeWhile_cons, if_neg (by rw [h2 y rfl]; simp)]; rfl
  | y :: out, r, j + 1, h, h1, h2 => by
    unfold refAt
    rw [List.takeWhile_cons, if_pos (h1 0 y (by omega) rfl), List.length_cons]
    have := refAt_of (ts := ts) (out := out) (r := r) (j := j) (by simpa using h) (fun i x hi hx => h1 (i + 1) x (by omega) (by simpa using hx)) (fun x hx => h2 x (by simpa using hx))
    unfold refAt at this
    rw [this]
theorem fold_small {ts : List (List UInt8)} (h : refRight ts = true) (d a : Nat) (hd : d ≤ 10) (ha : a ≤ 41) : (refFold ts (upto ts d a)).length ≤ 500 := by
  rw [refFold_length]
  have := upto_length (right_len h).2 d a
  omega
theorem fold_valid {ts : List (List UInt8)} (d a : Nat) (t : List UInt8) (ht : ts[d]? = some t) (ha : a ≤ t.length) (x : Nat × Nat) (hx : x ∈ refFold ts (upto ts d a)) : ∃ t', ts[x.1]? = some t' ∧ x.2 ≤ t'.length := by
  rw [refFold_mem] at hx
  have hd := (List.getElem?_eq_some_iff.1 ht).1
  rcases upto_mem hx with ⟨h1, h2⟩ | ⟨h1, h2⟩
  · obtain ⟨t', ht'⟩ := at_some (show x.1 < ts.length by omega)
    rw [getD_at ht'] at h2
    exact ⟨t', ht', h2⟩
  · exact ⟨t, by rw [h1]; exact ht, by omega⟩
end Go.Proofs.Ytkgabbenmoocgaa
