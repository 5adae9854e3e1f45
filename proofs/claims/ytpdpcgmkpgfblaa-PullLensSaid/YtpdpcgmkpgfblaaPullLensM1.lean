/- Part 1 of what PullLens needs: the walks of the program's functions, and plain facts. -/
import Derived.Test.YtpdpcgmkpgfblaaCoreM8
/- Two rows of a call's own; an append to one of them. -/
namespace Go.Proofs.Ytpdpcgmkpgfblaa
set_option linter.unusedSimpArgs false
set_option linter.unusedVariables false
set_option linter.unnecessarySimpa false
open Go.RowKit
theorem wpList_push2 {P : Program} {ops : Array Oper} {rest : List Oper} {o : Oper} {a : Act} {Q : Exit → Act → World → Prop} (w : World) (hgd : o.guard = none) (s x : Operand) (t : TypeId)
    (ho : o.op = .call { callee := .builtin .append, args := #[s, x], argTypes := #[t, t] })
    (base : Nat) (e : TypeId) (z : Value) (size bytes : Nat) (ht : P.underlying t = some (.slice e)) (hi : (P.info? e).map (fun i => (i.zero, i.size, i.bytes)) = some (some z, size, bytes))
    (hzs : z.cells.size = size) (hsz : 0 < size) (v : Value) (n : Nat) (xs : List Value) (hs : a.eval s = v) (hown : w.ownsRow base e size v n xs)
    (news : Array Value) (hl : news.size = size) (hx : a.eval x = .slice (some ⟨w.heap.size, 0, none⟩) 1 1) (h1 : ∀ u ∈ news.toList, u.oneCell' = true) (h63 : n + 1 ≤ maxLen) (hbytes : (n + 1) * bytes ≤ 140737488355328) (hbase : base ≤ w.heap.size)
    (h : ∀ g cap w', w'.ownsRow base e size (.slice (some ⟨g, 0, none⟩) (n + 1) cap) (n + 1) (xs ++ news.toList) → Below base w w' → g < w'.heap.size → w.grownBy w' v.ownBlock → (v.ownBlock = some g ∨ w.heap.size ≤ g) → wpList P ops Q rest (a.put o.dst (.slice (some ⟨g, 0, none⟩) (n + 1) cap)) w') :
    wpList P ops Q (o :: rest) a (w.alloc (.cells news e)) := by
  obtain ⟨i0, hi0, hz0, hz1, hz2⟩ := info_parts hi
  refine wpList_append_lies _ hgd s x t ho base e i0 z size bytes ht hi0 hz0 hz1 hz2 hzs hsz v n xs hs (hown.alloc _) ⟨w.heap.size, 0, none⟩ 1 1 news.toList hx (by simpa using hl) ?_ h1 (by omega) h63 hbytes (by simp; omega) (w.heap.size + 1) (by simp) ?_
  · intro j u hu
    have hk := cells_of (blk_new w (.cells news e) w.heap.size rfl) j
    rw [show (⟨w.heap.size, 0, none⟩ : Addr).add j = ⟨w.heap.size, j, none⟩ by unfold Addr.add; split <;> simp_all]
    rw [hk]; simpa using hu
  · intro g cap w' h2 hg hat hlt
    have h0 := World.grownBy_alloc w (.cells news e) v.ownBlock
    refine h g cap w' h2 ?_ hlt ⟨hg.os.trans h0.os, hg.tape.trans h0.tape, hg.output.trans h0.output, Nat.le_trans h0.size hg.size, fun k hk hne => (hg.block k (Nat.lt_of_lt_of_le hk h0.size) hne).trans (h0.block k hk hne)⟩ (hat.imp id fun q => by omega)
    refine ((Below.refl base w).alloc hbase _).grown hg (by simp; omega) ?_
    intro k hk
    rcases hown.2 with ⟨rfl, _⟩ | ⟨g', cap', cur, rfl, hge, _⟩
    · simp [Value.ownBlock] at hk
    · simp [Value.ownBlock] at hk; omega
theorem step_push2 {P : Program} {ops : Array Oper} {o : Oper} {a : Act} {K : Act → World → Prop} {Q : Exit → Act → World → Prop} {E : Prop} (w : World) (hwant : Region.wanted o (yielded ops a.tmps) = true) (s x : Operand) (t : TypeId)
    (ho : o.op = .call { callee := .builtin .append, args := #[s, x], argTypes := #[t, t] })
    (base : Nat) (e : TypeId) (z : Value) (size bytes : Nat) (ht : P.underlying t = some (.slice e)) (hi : (P.info? e).map (fun i => (i.zero, i.size, i.bytes)) = some (some z, size, bytes))
    (hzs : z.cells.size = size) (hsz : 0 < size) (v : Value) (n : Nat) (xs : List Value) (hs : a.eval s = v) (hown : w.ownsRow base e size v n xs)
    (news : Array Value) (hl : news.size = size) (hx : a.eval x = .slice (some ⟨w.heap.size, 0, none⟩) 1 1) (h1 : ∀ u ∈ news.toList, u.oneCell' = true) (h63 : n + 1 ≤ maxLen) (hbytes : (n + 1) * bytes ≤ 140737488355328) (hbase : base ≤ w.heap.size)
    (h : ∀ g cap w', w'.ownsRow base e size (.slice (some ⟨g, 0, none⟩) (n + 1) cap) (n + 1) (xs ++ news.toList) → Below base w w' → g < w'.heap.size → w.grownBy w' v.ownBlock → (v.ownBlock = some g ∨ w.heap.size ≤ g) → K (a.put o.dst (.slice (some ⟨g, 0, none⟩) (n + 1) cap)) w') :
    if Region.wanted o (yielded ops a.tmps) = true then Oper.wp P o a (w.alloc (.cells news e)) K Q else E := by
  rw [if_pos hwant]
  obtain ⟨i0, hi0, hz0, hz1, hz2⟩ := info_parts hi
  refine wp_append_lies _ s x t ho base e i0 z size bytes ht hi0 hz0 hz1 hz2 hzs hsz v n xs hs (hown.alloc _) ⟨w.heap.size, 0, none⟩ 1 1 news.toList hx (by simpa using hl) ?_ h1 (by omega) h63 hbytes (by simp; omega) (w.heap.size + 1) (by simp) ?_
  · intro j u hu
    have hk := cells_of (blk_new w (.cells news e) w.heap.size rfl) j
    rw [show (⟨w.heap.size, 0, none⟩ : Addr).add j = ⟨w.heap.size, j, none⟩ by unfold Addr.add; split <;> simp_all]
    rw [hk]; simpa using hu
  · intro g cap w' h2 hg hat hlt
    have h0 := World.grownBy_alloc w (.cells news e) v.ownBlock
    refine h g cap w' h2 ?_ hlt ⟨hg.os.trans h0.os, hg.tape.trans h0.tape, hg.output.trans h0.output, Nat.le_trans h0.size hg.size, fun k hk hne => (hg.block k (Nat.lt_of_lt_of_le hk h0.size) hne).trans (h0.block k hk hne)⟩ (hat.imp id fun q => by omega)
    refine ((Below.refl base w).alloc hbase _).grown hg (by simp; omega) ?_
    intro k hk
    rcases hown.2 with ⟨rfl, _⟩ | ⟨g', cap', cur, rfl, hge, _⟩
    · simp [Value.ownBlock] at hk
    · simp [Value.ownBlock] at hk; omega
/-- Two rows apart. -/
structure Ow2 (w : World) (base : Nat) (e1 : TypeId) (s1 : Nat) (v1 : Value) (n1 : Nat) (x1 : List Value) (e2 : TypeId) (s2 : Nat) (v2 : Value) (n2 : Nat) (x2 : List Value) : Prop where
  a : w.ownsRow base e1 s1 v1 n1 x1
  b : w.ownsRow base e2 s2 v2 n2 x2
  ne : ∀ k, v1.ownBlock = some k → v2.ownBlock ≠ some k
section
variable {w w' : World} {base : Nat} {e1 e2 : TypeId} {s1 s2 n1 n2 : Nat} {v1 v2 : Value} {x1 x2 : List Value}
theorem Ow2.nil (w : World) (base : Nat) (e1 : TypeId) (s1 : Nat) (e2 : TypeId) (s2 : Nat) : Ow2 w base e1 s1 (.slice none 0 0) 0 [] e2 s2 (.slice none 0 0) 0 [] := ⟨own_nil _ _ _ _, own_nil _ _ _ _, fun k h => by simp [Value.ownBlock] at h⟩
theorem Ow2.below (h : Ow2 w base e1 s1 v1 n1 x1 e2 s2 v2 n2 x2) (hb : Below w.heap.size w w') : Ow2 w' base e1 s1 v1 n1 x1 e2 s2 v2 n2 x2 := ⟨own_below h.a hb, own_below h.b hb, h.ne⟩
theorem Ow2.swap (h : Ow2 w base e1 s1 v1 n1 x1 e2 s2 v2 n2 x2) : Ow2 w base e2 s2 v2 n2 x2 e1 s1 v1 n1 x1 := ⟨h.b, h.a, fun k h2 h1 => h.ne k h1 h2⟩
/-- The first one has more. -/
theorem Ow2.push (h : Ow2 w base e1 s1 v1 n1 x1 e2 s2 v2 n2 x2) {g c m : Nat} {x : List Value} (ho : w'.ownsRow base e1 s1 (.slice (some ⟨g, 0, none⟩) m c) m x) (hg : w.grownBy w' v1.ownBlock) (hat : v1.ownBlock = some g ∨ w.heap.size ≤ g) : Ow2 w' base e1 s1 (.slice (some ⟨g, 0, none⟩) m c) m x e2 s2 v2 n2 x2 := by
  refine ⟨ho, h.b.kept hg ?_, fun k hk h2 => ?_⟩
  · cases h2 : v2.ownBlock with
    | none => exact .inl rfl
    | some k => exact .inr fun e => h.ne k e.symm h2
  · simp [Value.ownBlock] at hk
    subst hk
    rcases hat with hat | hat
    · exact h.ne g hat h2
    · have := (h.b.lt g h2).2; omega
end
end Go.Proofs.Ytpdpcgmkpgfblaa
/- pull.Lens: the documents' numbers and lengths. -/
namespace Go.Proofs.Ytpdpcgmkpgfblaa
set_option linter.unusedSimpArgs false
set_option linter.unusedVariables false
set_option linter.unnecessarySimpa false
open Go.RowKit
attribute [local go_sem ↓] Go.wp_at_zero Go.wp_at_succ
attribute [local go_sem] str_len
theorem step_lies {P : Program} {ops : Array Oper} {o : Oper} {a : Act} {K : Act → World → Prop} {Q : Exit → Act → World → Prop} {E : Prop} {w : World} (hwant : Region.wanted o (yielded ops a.tmps) = true) (s x : Operand) (t : TypeId)
    (ho : o.op = .call { callee := .builtin .append, args := #[s, x], argTypes := #[t, t] })
    (base : Nat) (e : TypeId) (z : Value) (size bytes : Nat) (ht : P.underlying t = some (.slice e)) (hi : (P.info? e).map (fun i => (i.zero, i.size, i.bytes)) = some (some z, size, bytes))
    (hzs : z.cells.size = size) (hsz : 0 < size) (v : Value) (n : Nat) (xs : List Value) (hs : a.eval s = v) (hown : w.ownsRow base e size v n xs)
    (ad : Addr) (c : Nat) (news : List Value) (hx : a.eval x = .slice (some ad) 1 c) (hl : news.length = 1 * size) (hnews : ∀ j u, news[j]? = some u → w.cell? (ad.add j) = some u) (h1 : ∀ u ∈ news, u.oneCell' = true)
    (h63 : n + 1 ≤ maxLen) (hbytes : (n + 1) * bytes ≤ 140737488355328) (hbase : base ≤ w.heap.size)
    (h : ∀ g cap w', w'.ownsRow base e size (.slice (some ⟨g, 0, none⟩) (n + 1) cap) (n + 1) (xs ++ news) → w.grownBy w' v.ownBlock → (v.ownBlock = some g ∨ g = w.heap.size) → g < w'.heap.size → K (a.put o.dst (.slice (some ⟨g, 0, none⟩) (n + 1) cap)) w') :
    if Region.wanted o (yielded ops a.tmps) = true then Oper.wp P o a w K Q else E := by
  rw [if_pos hwant]
  obtain ⟨i0, hi0, hz0, hz1, hz2⟩ := info_parts hi
  exact wp_append_lies w s x t ho base e i0 z size bytes ht hi0 hz0 hz1 hz2 hzs hsz v n xs hs hown ad 1 c news hx hl hnews h1 (by omega) h63 hbytes hbase _ rfl h
/-- Where Lens stands in a round: its two rows, the item's box B. -/
structure LS (base : Nat) (w v : World) (B : Nat) (x : Int × Int) (p1 : Value) (n1 : Nat) (l1 : List Value) (p2 : Value) (n2 : Nat) (l2 : List Value) : Prop where
  rows : Ow2 v base 3 1 p1 n1 l1 3 1 p2 n2 l2
  low : Below base w v
  hb : base ≤ B
  lt : B < v.heap.size
  ne1 : ∀ k, p1.ownBlock = some k → k ≠ B
  ne2 : ∀ k, p2.ownBlock = some k → k ≠ B
  c0 : v.cell? ⟨B, 0, none⟩ = some (.int .i64 x.1)
  c1 : v.cell? ⟨B, 1, none⟩ = some (.int .i64 x.2)
/-- A box besides. -/
structure Bx (v : World) (b : Nat) (x : Value) (p1 p2 : Value) : Prop where
  lt : b < v.heap.size
  c : v.cell? ⟨b, 0, none⟩ = some x
  ne1 : ∀ k, p1.ownBlock = some k → k ≠ b
  ne2 : ∀ k, p2.ownBlock = some k → k ≠ b
section
variable {base B b : Nat} {w v v' : World} {x : Int × Int} {y : Value} {p1 p2 : Value} {n1 n2 : Nat} {l1 l2 : List Value}
theorem LS.swap (h : LS base w v B x p1 n1 l1 p2 n2 l2) : LS base w v B x p2 n2 l2 p1 n1 l1 := ⟨h.rows.swap, h.low, h.hb, h.lt, h.ne2, h.ne1, h.c0, h.c1⟩
theorem Bx.swap (h : Bx v b y p1 p2) : Bx v b y p2 p1 := ⟨h.lt, h.c, h.ne2, h.ne1⟩
theorem LS.drew (h : LS base w v B x p1 n1 l1 p2 n2 l2) : LS base w v.drew B x p1 n1 l1 p2 n2 l2 :=
  have hb : Below v.heap.size v v.drew := (Below.refl _ _).drew
  ⟨h.rows.below hb, h.low.drew, h.hb, h.lt, h.ne1, h.ne2, h.c0, h.c1⟩
theorem LS.box (h : LS base w v B x p1 n1 l1 p2 n2 l2) (o : Obj) (hv : v' = v.alloc o) : LS base w v' B x p1 n1 l1 p2 n2 l2 := by
  have hb : Below v.heap.size v v' := by rw [hv]; exact below_box v o
  have hlt := h.lt
  refine ⟨h.rows.below hb, by rw [hv]; exact h.low.alloc (by have := h.hb; omega) _, h.hb, Nat.lt_of_lt_of_le hlt hb.size, h.ne1, h.ne2, (hb.cell (by exact hlt)).trans h.c0, (hb.cell (by exact hlt)).trans h.c1⟩
theorem LS.new (h : LS base w v B x p1 n1 l1 p2 n2 l2) (y : Value) (T : TypeId) (hv : v' = v.alloc (.cells #[y] T)) : Bx v' v.heap.size y p1 p2 := by
  subst hv
  refine ⟨by simp, ?_, fun k hk => by have := (h.rows.a.lt k hk).2; omega, fun k hk => by have := (h.rows.b.lt k hk).2; omega⟩
  rw [cells_of (blk_new _ _ _ rfl)]; rfl
theorem Bx.box (h : Bx v b y p1 p2) (o : Obj) (hv : v' = v.alloc o) : Bx v' b y p1 p2 := by
  have hb : Below v.heap.size v v' := by rw [hv]; exact below_box v o
  exact ⟨Nat.lt_of_lt_of_le h.lt hb.size, (hb.cell (by exact h.lt)).trans h.c, h.ne1, h.ne2⟩
theorem LS.push (h : LS base w v B x p1 n1 l1 p2 n2 l2) {g c m : Nat} {l : List Value} (ho : v'.ownsRow base 3 1 (.slice (some ⟨g, 0, none⟩) m c) m l) (hg : v.grownBy v' p1.ownBlock) (hat : p1.ownBlock = some g ∨ g = v.heap.size) :
    LS base w v' B x (.slice (some ⟨g, 0, none⟩) m c) m l p2 n2 l2 := by
  have hlt := h.lt
  have hblk := hg.block B hlt (fun e => h.ne1 B e.symm rfl)
  refine ⟨h.rows.push ho hg (hat.imp id fun e => by omega), h.low.grown hg (by have := h.hb; omega) ?_, h.hb, Nat.lt_of_lt_of_le hlt hg.size, fun k hk => ?_, h.ne2, (World.cell?_of_block hblk).trans h.c0, (World.cell?_of_block hblk).trans h.c1⟩
  · intro k hk
    exact (h.rows.a.lt k hk).1
  · simp [Value.ownBlock] at hk
    subst hk
    rcases hat with e | e
    · exact h.ne1 _ e
    · omega
theorem Bx.push (h : Bx v b y p1 p2) {g c m : Nat} (hg : v.grownBy v' p1.ownBlock) (hat : p1.ownBlock = some g ∨ g = v.heap.size) : Bx v' b y (.slice (some ⟨g, 0, none⟩) m c) p2 := by
  have hlt := h.lt
  have hblk := hg.block b hlt (fun e => h.ne1 b e.symm rfl)
  refine ⟨Nat.lt_of_lt_of_le hlt hg.size, (World.cell?_of_block hblk).trans h.c, fun k hk => ?_, h.ne2⟩
  simp [Value.ownBlock] at hk
  subst hk
  rcases hat with e | e
  · exact h.ne1 _ e
  · omega
theorem Bx.at (h : Bx v b y p1 p2) : ∀ j u, [y][j]? = some u → v.cell? ((⟨b, 0, none⟩ : Addr).add j) = some u := by
  intro j u hu
  obtain rfl : j = 0 := by have := (List.getElem?_eq_some_iff.1 hu).1; simp at this; omega
  obtain rfl : y = u := by simpa using hu
  exact h.c
end
def intsA (l : List (Int × Int)) : List Value := l.map fun x => .int .i64 x.1
def intsB (l : List (Int × Int)) : List Value := l.map fun x => .int .i64 x.2
variable {ap : Value} {s : Ar} {O : Nat → Prop}
set_option maxRecDepth 100000 in
set_option maxHeartbeats 8000000 in
theorem lens_calls (root : Int) (l : List (Int × Int)) (hl : lAll s (vOf s root).table = some l) (hll : l.length ≤ 50000) (w : World) (hA : AP w ap s O) :
    Calls Try.prog 15 #[ap, .int .i64 root] w fun e w' => ∃ v1 v2, e = .returned (.tuple #[v1, v2]) ∧ Ow2 w' w.heap.size 3 1 v1 l.length (intsA l) 3 1 v2 l.length (intsB l) ∧ Below w.heap.size w w' := by
  go_enter Try.func15, Try.ntmps15
  go_wp2_with fail
  refine calls_gen fun V hV_V => ?_
  have hB : Below w.heap.size w V := nB hV_V
  replace hA : AP V ap s O := nA hV_V
  have z_V := zS hV_V
  clear hV_V
  refine (pall_calls root l hl hll _ hA).mono ?_
  rintro e1 W1 ⟨v, rfl, hown, hb1⟩
  obtain ⟨hx1, A, cap, rfl, hx2⟩ := Rx.of_own hown
  have HB1 := Lib.hid (below_step hB hb1)
  have HX := Lib.hid hx2
  clear hown hB hb1 hx1 hx2 hA
  go_wp2_with fail
  go_loopg [6, 7, 14] l.length (fun k p1 p2 p wr => ∃ i : Nat, p = .int .i64 (i : Int) ∧ i + k = l.length ∧ Hid (Ow2 wr W1.heap.size 3 1 p1 i (intsA (l.take i)) 3 1 p2 i (intsB (l.take i))) ∧ Hid (Below W1.heap.size W1 wr))
  case atStart => exact ⟨0, rfl, by omega, Lib.hid (Ow2.nil _ _ _ _ _ _), Lib.hid (Below.refl _ _)⟩
  case round =>
    obtain ⟨i, rfl, hk, HRow, HB⟩ := hrel
    by_cases hlt : i < l.length
    · have d1 : decide ((i : Int) < (l.length : Int)) = true := by simpa using hlt
      obtain ⟨k, rfl⟩ : ∃ k, gk = k + 1 := ⟨gk - 1, by omega⟩
      obtain ⟨g, rfl, hg, hc⟩ := HX.out (by omega)
      obtain ⟨x, hx⟩ := at_some hlt
      have c1 : wr.cell? ⟨g, i * 2, none⟩ = some (.int .i64 x.1) := ((HB.out.cell (by exact hg)).trans (hc _ (by omega))).trans (itemCells_at l i x hx).1
      have c2 : wr.cell? ⟨g, i * 2 + 1, none⟩ = some (.int .i64 x.2) := ((HB.out.cell (by exact hg)).trans (hc _ (by omega))).trans (itemCells_at l i x hx).2
      have Htk : Hid (intsA (l.take (i + 1)) = intsA (l.take i) ++ [.int .i64 x.1] ∧ intsB (l.take (i + 1)) = intsB (l.take i) ++ [.int .i64 x.2]) := Lib.hid (by
        rw [List.take_succ_eq_append_getElem hlt, (List.getElem_eq_iff hlt).2 hx]; unfold intsA intsB; rw [List.map_append, List.map_append]; exact ⟨rfl, rfl⟩)
      have e3 : wrap64 ((i : Int) + 1) = (i : Int) + 1 := IntWalk.wrap64_in _ (by omega)
      have hi5 : i + 1 ≤ 50000 := by omega
      clear hc hx
      go_wp2_with fail
      refine wp_gen fun V3 hV3 => ?_
      have k3 : V3.heap[wr.heap.size]? = some (.cells #[.int .i64 x.1, .int .i64 x.2] 69 (0, 0)) := by rw [hV3]; exact blk_new _ _ _ rfl
      have hb3 : Below wr.heap.size wr V3 := by rw [hV3]; exact below_box _ _
      have HS0 : Hid (LS W1.heap.size W1 V3 wr.heap.size x u6 i (intsA (l.take i)) u7 i (intsB (l.take i))) := Lib.hid ⟨HRow.out.below hb3, HB.out.trans (hb3.mono HB.out.size), HB.out.size, lt_of k3, fun k hk => by have := (HRow.out.a.lt k hk).2; omega, fun k hk => by have := (HRow.out.b.lt k hk).2; omega, by rw [cells_of k3]; rfl, by rw [cells_of k3]; rfl⟩
      clear hV3 k3 hb3 c1 c2
      refine wp_region_noPanic ?_
      refine wp_region_held_drew (S := fun v => v.cell? ⟨wr.heap.size, 0, none⟩ = some (.int .i64 x.1) ∧ v.cell? ⟨wr.heap.size, 1, none⟩ = some (.int .i64 x.2)) (by kernel_rfl) ⟨HS0.out.drew.c0, HS0.out.drew.c1⟩ (fun hHeld => ?_)
      have HS := Lib.hid HS0.out.drew
      generalize V3.drew = v0 at HS hHeld ⊢
      clear HS0
      refine tz 0 rfl hHeld ?_
      try simp only [PT]
      refine tz 1 rfl hHeld ?_
      try simp only [PT]
      refine tz 2 rfl hHeld ?_
      try simp only [PT]
      refine tz 5 rfl hHeld ?_
      try simp only [PT]
      refine tz 6 rfl hHeld ?_
      try simp only [PT]
      refine tz 7 rfl hHeld ?_
      try simp only [PT]
      refine wpAnyH_ready (rs := [3, 8]) (by kernel_rfl) (by simp) (ready_at (i := 3) rfl (fun K hK => ?_) (ready_at (i := 8) rfl (fun K hK => ?_) AllReadyH.nil))
      · skip
        go_simp
        refine gen_app (K := K) (fun v1 hv1 => ?_)
        have HN3 := Lib.hid (HS.out.new _ _ hv1)
        replace HS := Lib.hid (HS.out.box _ hv1)
        clear hv1 hHeld
        refine hK.out _ _ ⟨HS.out.c0, HS.out.c1⟩ (fun hHeld => ?_)
        clear hK K
        try simp only [PT]
        refine wpAnyH_ready (rs := [4, 8]) (by kernel_rfl) (by simp) (ready_at (i := 4) rfl (fun K hK => ?_) (ready_at (i := 8) rfl (fun K hK => ?_) AllReadyH.nil))
        · skip
          refine step_lies (by rfl) _ _ 42 (by rfl) W1.heap.size 3 (.int .i64 0) 1 8 Try.underlying42 (by kernel_rfl) (by rfl) (by omega) _ _ _ (by rfl) HS.out.rows.a _ _ _ (by rfl) (by rfl) HN3.out.at (by simp [Value.oneCell']) (by unfold maxLen; omega) (by omega) (by have h1 := HS.out.hb; have h2 := HS.out.lt; omega) ?_
          intro g4 c4 v2 ho hgr hat hgl
          replace HS := Lib.hid (HS.out.push ho hgr hat)
          clear HN3 ho hgr hat hgl hHeld
          refine hK.out _ _ ⟨HS.out.c0, HS.out.c1⟩ (fun hHeld => ?_)
          clear hK K
          try simp only [PT]
          refine rd 8 rfl fun K hK => ?_
          go_simp
          refine gen_app (K := K) (fun v3 hv3 => ?_)
          have HN8 := Lib.hid (HS.out.new _ _ hv3)
          replace HS := Lib.hid (HS.out.box _ hv3)
          clear hv3 hHeld
          refine hK.out _ _ ⟨HS.out.c0, HS.out.c1⟩ (fun hHeld => ?_)
          clear hK K
          try simp only [PT]
          refine rd 9 rfl fun K hK => ?_
          refine step_lies (by rfl) _ _ 42 (by rfl) W1.heap.size 3 (.int .i64 0) 1 8 Try.underlying42 (by kernel_rfl) (by rfl) (by omega) _ _ _ (by rfl) HS.out.rows.b _ _ _ (by rfl) (by rfl) HN8.out.at (by simp [Value.oneCell']) (by unfold maxLen; omega) (by omega) (by have h1 := HS.out.hb; have h2 := HS.out.lt; omega) ?_
          intro g9 c9 v4 ho hgr hat hgl
          replace HS := Lib.hid ((HS.out.swap.push ho hgr hat).swap)
          clear HN8 ho hgr hat hgl hHeld
          refine hK.out _ _ ⟨HS.out.c0, HS.out.c1⟩ (fun hHeld => ?_)
          clear hK K
          try simp only [PT]
          refine rd 10 rfl fun K hK => ?_
          go_simp
          refine hK.out _ _ hHeld (fun hHeld => ?_)
          clear hK K
          try simp only [PT]
          refine rd 11 rfl fun K hK => ?_
          go_simp
          refine hK.out _ _ hHeld (fun hHeld => ?_)
          clear hK K
          try simp only [PT]
          refine wpAnyH_done (by kernel_rfl) ?_ _
          refine NoPanic.normal ?_
          have HF := Lib.hid (show Ow2 v4 W1.heap.size 3 1 _ (i + 1) (intsA (l.take (i + 1))) 3 1 _ (i + 1) (intsB (l.take (i + 1))) by rw [Htk.out.1, Htk.out.2]; exact HS.out.rows)
          have HFB := Lib.hid HS.out.low
          clear HS HRow HB hHeld
          go_wp2_with fail
          go_roundg k
          case measure => omega
          case rel => exact ⟨i + 1, by first | rfl | (rw [e3]; rfl), by omega, HF, HFB⟩
        · skip
          go_simp
          refine gen_app (K := K) (fun v2 hv2 => ?_)
          have HN8 := Lib.hid (HS.out.new _ _ hv2)
          replace HN3 := Lib.hid (HN3.out.box _ hv2)
          replace HS := Lib.hid (HS.out.box _ hv2)
          clear hv2 hHeld
          refine hK.out _ _ ⟨HS.out.c0, HS.out.c1⟩ (fun hHeld => ?_)
          clear hK K
          try simp only [PT]
          refine rd 4 rfl fun K hK => ?_
          refine step_lies (by rfl) _ _ 42 (by rfl) W1.heap.size 3 (.int .i64 0) 1 8 Try.underlying42 (by kernel_rfl) (by rfl) (by omega) _ _ _ (by rfl) HS.out.rows.a _ _ _ (by rfl) (by rfl) HN3.out.at (by simp [Value.oneCell']) (by unfold maxLen; omega) (by omega) (by have h1 := HS.out.hb; have h2 := HS.out.lt; omega) ?_
          intro g4 c4 v3 ho hgr hat hgl
          replace HS := Lib.hid (HS.out.push ho hgr hat)
          replace HN8 := Lib.hid (HN8.out.push (m := i + 1) (c := c4) hgr hat)
          clear HN3 ho hgr hat hgl hHeld
          refine hK.out _ _ ⟨HS.out.c0, HS.out.c1⟩ (fun hHeld => ?_)
          clear hK K
          try simp only [PT]
          refine rd 9 rfl fun K hK => ?_
          refine step_lies (by rfl) _ _ 42 (by rfl) W1.heap.size 3 (.int .i64 0) 1 8 Try.underlying42 (by kernel_rfl) (by rfl) (by omega) _ _ _ (by rfl) HS.out.rows.b _ _ _ (by rfl) (by rfl) HN8.out.at (by simp [Value.oneCell']) (by unfold maxLen; omega) (by omega) (by have h1 := HS.out.hb; have h2 := HS.out.lt; omega) ?_
          intro g9 c9 v4 ho hgr hat hgl
          replace HS := Lib.hid ((HS.out.swap.push ho hgr hat).swap)
          clear HN8 ho hgr hat hgl hHeld
          refine hK.out _ _ ⟨HS.out.c0, HS.out.c1⟩ (fun hHeld => ?_)
          clear hK K
          try simp only [PT]
          refine rd 10 rfl fun K hK => ?_
          go_simp
          refine hK.out _ _ hHeld (fun hHeld => ?_)
          clear hK K
          try simp only [PT]
          refine rd 11 rfl fun K hK => ?_
          go_simp
          refine hK.out _ _ hHeld (fun hHeld => ?_)
          clear hK K
          try simp only [PT]
          refine wpAnyH_done (by kernel_rfl) ?_ _
          refine NoPanic.normal ?_
          have HF := Lib.hid (show Ow2 v4 W1.heap.size 3 1 _ (i + 1) (intsA (l.take (i + 1))) 3 1 _ (i + 1) (intsB (l.take (i + 1))) by rw [Htk.out.1, Htk.out.2]; exact HS.out.rows)
          have HFB := Lib.hid HS.out.low
          clear HS HRow HB hHeld
          go_wp2_with fail
          go_roundg k
          case measure => omega
          case rel => exact ⟨i + 1, by first | rfl | (rw [e3]; rfl), by omega, HF, HFB⟩
      · skip
        go_simp
        refine gen_app (K := K) (fun v1 hv1 => ?_)
        have HN8 := Lib.hid (HS.out.new _ _ hv1)
        replace HS := Lib.hid (HS.out.box _ hv1)
        clear hv1 hHeld
        refine hK.out _ _ ⟨HS.out.c0, HS.out.c1⟩ (fun hHeld => ?_)
        clear hK K
        try simp only [PT]
        refine rd 3 rfl fun K hK => ?_
        go_simp
        refine gen_app (K := K) (fun v2 hv2 => ?_)
        have HN3 := Lib.hid (HS.out.new _ _ hv2)
        replace HN8 := Lib.hid (HN8.out.box _ hv2)
        replace HS := Lib.hid (HS.out.box _ hv2)
        clear hv2 hHeld
        refine hK.out _ _ ⟨HS.out.c0, HS.out.c1⟩ (fun hHeld => ?_)
        clear hK K
        try simp only [PT]
        refine rd 4 rfl fun K hK => ?_
        refine step_lies (by rfl) _ _ 42 (by rfl) W1.heap.size 3 (.int .i64 0) 1 8 Try.underlying42 (by kernel_rfl) (by rfl) (by omega) _ _ _ (by rfl) HS.out.rows.a _ _ _ (by rfl) (by rfl) HN3.out.at (by simp [Value.oneCell']) (by unfold maxLen; omega) (by omega) (by have h1 := HS.out.hb; have h2 := HS.out.lt; omega) ?_
        intro g4 c4 v3 ho hgr hat hgl
        replace HS := Lib.hid (HS.out.push ho hgr hat)
        replace HN8 := Lib.hid (HN8.out.push (m := i + 1) (c := c4) hgr hat)
        clear HN3 ho hgr hat hgl hHeld
        refine hK.out _ _ ⟨HS.out.c0, HS.out.c1⟩ (fun hHeld => ?_)
        clear hK K
        try simp only [PT]
        refine rd 9 rfl fun K hK => ?_
        refine step_lies (by rfl) _ _ 42 (by rfl) W1.heap.size 3 (.int .i64 0) 1 8 Try.underlying42 (by kernel_rfl) (by rfl) (by omega) _ _ _ (by rfl) HS.out.rows.b _ _ _ (by rfl) (by rfl) HN8.out.at (by simp [Value.oneCell']) (by unfold maxLen; omega) (by omega) (by have h1 := HS.out.hb; have h2 := HS.out.lt; omega) ?_
        intro g9 c9 v4 ho hgr hat hgl
        replace HS := Lib.hid ((HS.out.swap.push ho hgr hat).swap)
        clear HN8 ho hgr hat hgl hHeld
        refine hK.out _ _ ⟨HS.out.c0, HS.out.c1⟩ (fun hHeld => ?_)
        clear hK K
        try simp only [PT]
        refine rd 10 rfl fun K hK => ?_
        go_simp
        refine hK.out _ _ hHeld (fun hHeld => ?_)
        clear hK K
        try simp only [PT]
        refine rd 11 rfl fun K hK => ?_
        go_simp
        refine hK.out _ _ hHeld (fun hHeld => ?_)
        clear hK K
        try simp only [PT]
        refine wpAnyH_done (by kernel_rfl) ?_ _
        refine NoPanic.normal ?_
        have HF := Lib.hid (show Ow2 v4 W1.heap.size 3 1 _ (i + 1) (intsA (l.take (i + 1))) 3 1 _ (i + 1) (intsB (l.take (i + 1))) by rw [Htk.out.1, Htk.out.2]; exact HS.out.rows)
        have HFB := Lib.hid HS.out.low
        clear HS HRow HB hHeld
        go_wp2_with fail
        go_roundg k
        case measure => omega
        case rel => exact ⟨i + 1, by first | rfl | (rw [e3]; rfl), by omega, HF, HFB⟩
    · have d1 : decide ((i : Int) < (l.length : Int)) = false := by simpa using hlt
      have hi : i = l.length := by omega
      have HR2 : Hid (Ow2 wr w.heap.size 3 1 u6 l.length (intsA l) 3 1 u7 l.length (intsB l)) := Lib.hid (by
        have h := HRow.out
        rw [hi, List.take_length] at h
        exact ⟨own_mono h.a HB1.out.size, own_mono h.b HB1.out.size, h.ne⟩)
      have HB2 := Lib.hid (below_step HB1.out HB.out)
      clear HRow HB hi
      go_wp2_with fail
      go_ret2
      exact ⟨_, _, rfl, HR2.out, HB2.out⟩
end Go.Proofs.Ytpdpcgmkpgfblaa
/- PullLens: the lengths that are told are the documents'. -/
namespace Go.Proofs.Ytpdpcgmkpgfblaa
set_option linter.unusedSimpArgs false
set_option linter.unusedVariables false
set_option linter.unnecessarySimpa false
open Go.RowKit
attribute [local go_sem ↓] Go.wp_at_zero Go.wp_at_succ
attribute [local go_sem] str_len
theorem told_nil : Told (Ar.new 6000) 0 [] :=
  VR.told (rate := 1) (Inv.new 6000 (by omega)) ⟨.inl ⟨rfl, rfl⟩, fun h => absurd rfl h⟩ ⟨by decide, (fun d h => absurd h (by simp)), List.nodup_nil⟩
/-- Build of documents, however few. -/
theorem bldAny_calls (q : Option Addr) {O : Nat → Prop} (rate : Int) (hr1 : 1 ≤ rate) (hr2 : rate ≤ 1000) (ds : Docs) (hR : Right ds) (htot : tot ds ≤ 60) (A : Option Addr) (cap : Nat) (w0 w : World) (hb : Below w0.heap.size w0 w) (hD : Rd2 w0 (.slice A ds.length cap) ds) (hO : ∀ b, O b → w0.heap.size ≤ b) (hA : AP w (.pointer q) (Ar.new 6000) O) :
    Calls Try.prog 9 #[.pointer q, .int .i64 rate, .slice A ds.length cap] w fun e w' => ∃ root s' O', e = .returned (.tuple #[.int .i64 root, .bool true]) ∧ AP w' (.pointer q) s' O' ∧ Below w0.heap.size w0 w' ∧ Told s' root ds := by
  by_cases hne : ds = []
  · subst hne
    refine (bldnil_calls q rate A 0 cap rfl w).mono ?_
    rintro e w' ⟨he, h⟩
    exact ⟨0, _, O, he, hA.below h, below_step hb h, told_nil⟩
  · obtain ⟨A', c', hv, h2⟩ := id hD
    obtain ⟨rfl, -, rfl⟩ := Value.slice.inj hv
    obtain ⟨ad, rfl, hlt, -⟩ := h2 (List.length_pos_iff.2 hne)
    refine (bld_calls rate hr1 hr2 ds hR htot hne ad cap w (hD.below hb) (fun h => absurd (hO _ h) (by omega)) hA).mono ?_
    rintro e w' ⟨root, s', O', he, a, b, t⟩
    exact ⟨root, s', O', he, a, below_fr hb b hO, t⟩
theorem tot_snoc {ds : Docs} {i : Nat} {d : Int × List UInt8} (h : ds[i]? = some d) : tot (ds.take (i + 1)) = tot (ds.take i) + d.2.length := by
  obtain ⟨h1, h2⟩ := List.getElem?_eq_some_iff.1 h
  unfold tot
  rw [List.take_succ_eq_append_getElem h1, List.map_append, List.sum_append, h2]
  simp
theorem tot_le (ds : Docs) (i : Nat) : tot (ds.take i) ≤ tot ds := by
  have h : tot ds = tot (ds.take i) + tot (ds.drop i) := by
    unfold tot
    rw [← List.sum_append, ← List.map_append, List.take_append_drop]
  omega
set_option maxRecDepth 100000 in
set_option maxHeartbeats 4000000 in
theorem pullLens_walk (A : Option Addr) (cap : Nat) (ds : Docs) (rate : Int) (hl : ds.length ≤ maxLen) (hid : IdOk ds) (w : World) (h : Rd2 w (.slice A ds.length cap) ds) :
    Calls Try.prog 5 #[.slice A ds.length cap, .int .i64 rate] w fun e w' => e = .returned (.bool true) ∧ Below w.heap.size w w' := by
  have HK := Lib.hid h; clear h
  cases hf : few ds with
  | false =>
    have Hf := Lib.hid hf; clear hf
    go_enter Try.func5, Try.ntmps5
    go_wp2_with fail
    refine (few_calls _ ds hl _ HK.out).mono ?_
    rintro e0 W0 ⟨rfl, hb0⟩
    rw [Hf.out]
    have HB0 := Lib.hid hb0; clear hb0
    go_wp2_with fail
    refine (alive16_calls _).mono ?_
    rintro e1 W1 ⟨rfl, hb1⟩
    have HB1 := Lib.hid (below_step HB0.out hb1); clear hb1
    go_wp2_with fail
    go_ret
    exact ⟨rfl, HB1.out⟩
  | true =>
    obtain ⟨hR, htot, hl10⟩ := few_right hf hid
    have Hf := Lib.hid hf; clear hf
    by_cases hr1 : rate < 1
    · have d1 : decide (rate < 1) = true := by simpa using hr1
      clear htot hl10 hr1
      go_enter Try.func5, Try.ntmps5
      go_wp2_with fail
      refine (few_calls _ ds hl _ HK.out).mono ?_
      rintro e0 W0 ⟨rfl, hb0⟩
      rw [Hf.out]
      have HB0 := Lib.hid hb0; clear hb0
      go_wp2_with fail
      refine (alive16_calls _).mono ?_
      rintro e1 W1 ⟨rfl, hb1⟩
      have HB1 := Lib.hid (below_step HB0.out hb1); clear hb1
      go_wp2_with fail
      go_ret
      exact ⟨rfl, HB1.out⟩
    have d1 : decide (rate < 1) = false := by simpa using hr1
    by_cases hr2 : 16 < rate
    · have d2 : decide (16 < rate) = true := by simpa using hr2
      clear htot hl10 hr1 hr2
      go_enter Try.func5, Try.ntmps5
      go_wp2_with fail
      refine (few_calls _ ds hl _ HK.out).mono ?_
      rintro e0 W0 ⟨rfl, hb0⟩
      rw [Hf.out]
      have HB0 := Lib.hid hb0; clear hb0
      go_wp2_with fail
      refine (alive16_calls _).mono ?_
      rintro e1 W1 ⟨rfl, hb1⟩
      have HB1 := Lib.hid (below_step HB0.out hb1); clear hb1
      go_wp2_with fail
      go_ret
      exact ⟨rfl, HB1.out⟩
    have d2 : decide (16 < rate) = false := by simpa using hr2
    have HR := Lib.hid hR; have Htot := Lib.hid htot; have Hl10 := Lib.hid hl10; have Hr1 := Lib.hid hr1; have Hr2 := Lib.hid hr2
    clear hR htot hl10 hr1 hr2
    go_enter Try.func5, Try.ntmps5
    go_wp2_with fail
    refine (few_calls _ ds hl _ HK.out).mono ?_
    rintro e0 W0 ⟨rfl, hb0⟩
    rw [Hf.out]
    have HB0 := Lib.hid hb0; clear hb0
    go_wp2_with fail
    refine (alive16_calls _).mono ?_
    rintro e1 W1 ⟨rfl, hb1⟩
    have HB1 := Lib.hid (below_step HB0.out hb1); clear hb1
    go_wp2_with fail
    refine (new_calls 6000 (by omega) (by omega) _).mono ?_
    rintro e2 W2 ⟨p, O, rfl, hA, hO, hb2⟩
    have HA2 := Lib.hid hA; have HB2 := Lib.hid (below_step HB1.out hb2)
    have HO := Lib.hid (fun b hb => Nat.le_trans HB1.out.size (hO b hb) : ∀ b, O b → w.heap.size ≤ b)
    clear hA hO hb2
    go_wp2_with fail
    refine (bldAny_calls _ rate (by have := Hr1.out; omega) (by have := Hr2.out; omega) ds HR.out Htot.out A cap w _ HB2.out HK.out HO.out HA2.out).mono ?_
    rintro e3 W3 ⟨root, s', O', rfl, hA3, hB3, hT⟩
    have HA3 := Lib.hid hA3; have HB3 := Lib.hid hB3; have HT := Lib.hid hT
    clear hA3 hB3 hT
    go_wp2_with fail
    have hdl : (docsM ds).length = ds.length := by unfold docsM; simp
    refine (lens_calls root (docsM ds) HT.out.all (by rw [hdl]; have := Hl10.out; omega) _ HA3.out).mono ?_
    rintro e4 W4 ⟨v1, v2, rfl, hrow, hb4⟩
    rw [hdl] at hrow
    obtain ⟨-, A1, c1, rfl, hx1⟩ := Rk.of_own hrow.a
    obtain ⟨-, A2, c2, rfl, hx2⟩ := Rk.of_own hrow.b
    have HX1 := Lib.hid hx1; have HX2 := Lib.hid hx2
    have HA4 := Lib.hid (HA3.out.below hb4); have HB4 := Lib.hid (below_step HB3.out hb4)
    clear hrow hb4 hx1 hx2 hdl
    go_wp2_with fail
    go_loopg [10, 63] ds.length (fun k n p wr => ∃ i N : Nat, n = .int .i64 (N : Int) ∧ N = ds.length + tot (ds.take i) ∧ p = .int .i64 (i : Int) ∧ i + k = ds.length ∧ Hid (Below W4.heap.size W4 wr))
    case atStart => exact ⟨0, ds.length, rfl, by simp [tot], rfl, by omega, Lib.hid (Below.refl _ _)⟩
    case round =>
      obtain ⟨i, N, rfl, hN, rfl, hk, HB⟩ := hrel
      by_cases hlt : i < ds.length
      · obtain ⟨k, rfl⟩ : ∃ k, gk = k + 1 := ⟨gk - 1, by omega⟩
        have n1 : decide ((i : Int) < (ds.length : Int)) = true := by simpa using hlt
        have n2 : (i : Int) < (ds.length : Int) := by omega
        have e3 : wrap64 ((i : Int) + 1) = (i : Int) + 1 := IntWalk.wrap64_in _ (by have := Hl10.out; omega)
        obtain ⟨d, hd⟩ := at_some hlt
        obtain ⟨g1, cs1, T1, rfl, kg1, hc1⟩ := HX1.out (by omega)
        obtain ⟨g2, cs2, T2, rfl, kg2, hc2⟩ := HX2.out (by omega)
        have c1a : cs1[i]? = some (.int .i64 d.1) := by rw [hc1 _ (by omega)]; unfold intsA docsM; rw [List.map_map, List.getElem?_map, hd]; rfl
        have c2a : cs2[i]? = some (.int .i64 (d.2.length : Int)) := by rw [hc2 _ (by omega)]; unfold intsB docsM; rw [List.map_map, List.getElem?_map, hd]; rfl
        replace kg1 := keep_blk HB.out kg1
        replace kg2 := keep_blk HB.out kg2
        obtain ⟨q1, q2⟩ : ∃ ad, A = some ad ∧ wr.cell? (ad.add (i * 2)) = some (.int .i64 d.1) ∧ wr.cell? ⟨(ad.add (i * 2)).block, (ad.add (i * 2)).off + 1, none⟩ = some (.string ⟨d.2.toArray⟩) := by
          obtain ⟨A', c', hv, h2⟩ := (HK.out.below HB4.out).below HB.out
          obtain ⟨rfl, -, rfl⟩ := Value.slice.inj hv
          obtain ⟨ad', ha, -, hc⟩ := h2 (by omega)
          exact ⟨ad', ha, (hc i d hd).2⟩
        obtain ⟨rfl, q2, q3⟩ := q2
        have HN : Hid (N + d.2.length = ds.length + tot (ds.take (i + 1)) ∧ N + d.2.length ≤ 70) := Lib.hid (by
          have h1 := tot_snoc hd
          have h2 := tot_le ds (i + 1)
          have h3 := Htot.out
          have h4 := Hl10.out
          omega)
        have e4 : wrap64 ((N : Int) + (d.2.length : Int)) = (N : Int) + (d.2.length : Int) := IntWalk.wrap64_in _ (by have := HN.out; omega)
        clear hN
        have Hd := Lib.hid hd
        clear hc1 hc2 hd
        obtain ⟨c_kg1, f_kg1, l_kg1_wr⟩ := f3 kg1
        obtain ⟨c_kg2, f_kg2, l_kg2_wr⟩ := f3 kg2
        go_wp2_with fail
        rw [show Value.string ⟨d.2.toArray⟩ = strOf d.2 from rfl]
        refine wp_gen fun V3 hV3 => ?_
        have kd : V3.heap[wr.heap.size]? = some (.cells #[.int .i64 d.1, strOf d.2] 30 (0, 0)) := by rw [hV3]; exact blk_new _ _ _ rfl
        have hb3 : Below wr.heap.size wr V3 := by rw [hV3]; exact below_box _ _
        clear c_kg1 f_kg1 c_kg2 f_kg2 q2 q3 hV3
        replace kg1 := keep_blk hb3 kg1
        replace kg2 := keep_blk hb3 kg2
        have HBV := Lib.hid (below_step HB.out hb3)
        clear hb3
        obtain ⟨c_kd, f_kd, l_kd_V3⟩ := f3 kd
        obtain ⟨c_kg1, f_kg1, l_kg1_V3⟩ := f3 kg1
        obtain ⟨c_kg2, f_kg2, l_kg2_V3⟩ := f3 kg2
        refine wp_region_noPanic ?_
        refine wp_region_held_drew (S := fun v => Below V3.heap.size V3 v ∧ (V3.heap.size ≤ v.heap.size) ∧ ∀ b o, b < V3.heap.size → v.cell? ⟨b, o, none⟩ = V3.cell? ⟨b, o, none⟩) (by kernel_rfl) (HeldB.start V3) (fun hHeld => ?_)
        have hB_d : Below V3.heap.size V3 V3.drew := (Below.refl _ _).drew
        generalize V3.drew = V3d at hHeld hB_d ⊢
        refine tz 0 rfl hHeld ?_
        try simp only [PT]
        refine tz 1 rfl hHeld ?_
        try simp only [PT]
        refine tz 2 rfl hHeld ?_
        try simp only [PT]
        refine tz 3 rfl hHeld ?_
        try simp only [PT]
        refine tz 4 rfl hHeld ?_
        try simp only [PT]
        refine tz 5 rfl hHeld ?_
        try simp only [PT]
        refine tz 6 rfl hHeld ?_
        try simp only [PT]
        refine tz 7 rfl hHeld ?_
        try simp only [PT]
        refine tz 8 rfl hHeld ?_
        try simp only [PT]
        refine tz 9 rfl hHeld ?_
        try simp only [PT]
        refine tz 10 rfl hHeld ?_
        try simp only [PT]
        refine tz 11 rfl hHeld ?_
        try simp only [PT]
        refine tz 12 rfl hHeld ?_
        try simp only [PT]
        refine tz 13 rfl hHeld ?_
        try simp only [PT]
        refine tz 14 rfl hHeld ?_
        try simp only [PT]
        refine tz 15 rfl hHeld ?_
        try simp only [PT]
        refine tz 16 rfl hHeld ?_
        try simp only [PT]
        refine wpAnyH_done (by kernel_rfl) ?_ _
        refine NoPanic.normal ?_
        have HBF := Lib.hid (below_step HBV.out hHeld.1)
        have kg3 := keep_blk hHeld.1 kg2
        clear hHeld hB_d c_kd f_kd c_kg1 f_kg1 c_kg2 f_kg2 kd kg1 kg2
        obtain ⟨c_kg3, f_kg3, l_kg3_V3d⟩ := f3 kg3
        go_wp2_with fail
        go_roundg k
        case measure => omega
        case rel => exact ⟨i + 1, N + d.2.length, by first | rfl | (rw [e4]; rfl), HN.out.1, by first | rfl | (rw [e3]; rfl), by omega, HBF⟩
      · have n1 : decide ((i : Int) < (ds.length : Int)) = false := by simpa using hlt
        have hi : i = ds.length := by omega
        have hN2 : N = tot ds + ds.length := by rw [hN, hi, List.take_length]; omega
        have HRw := Lib.hid (HT.out.rows); have HDw := Lib.hid (HT.out.docs)
        clear hN hi
        have e6 : ((tot ds : Int) + (ds.length : Int) == (N : Int)) = true := by rw [hN2]; simp
        have e7 : ((ds.length : Int) == (ds.length : Int)) = true := by simp
        clear hN2
        go_wp2_with fail
        refine (vRows_calls root _ (HA4.out.below HB.out)).mono ?_
        rintro e5 W5 ⟨rfl, hb5⟩
        have HB5 := Lib.hid (below_step HB.out hb5)
        clear hb5
        rw [HRw.out]
        go_wp2_with fail
        refine (vDocs_calls root _ (HA4.out.below HB5.out)).mono ?_
        rintro e8 W6 ⟨rfl, hb6⟩
        have HB6 := Lib.hid (below_step HB4.out (below_step HB5.out hb6))
        clear hb6
        rw [HDw.out]
        go_wp2_with fail
        go_ret
        exact ⟨rfl, HB6.out⟩
end Go.Proofs.Ytpdpcgmkpgfblaa
