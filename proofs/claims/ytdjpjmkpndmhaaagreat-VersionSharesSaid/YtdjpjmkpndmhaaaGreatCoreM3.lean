/- Part 3 of what these laws needs: the walks of the program's functions, and plain facts. -/
import Derived.Test.YtdjpjmkpndmhaaaGreatCoreM2
import Derived.Test.YtdjpjmkpndmhaaaGreatProg
/- The laws' helper Build: what it makes; no program here. -/
namespace Go.Proofs.YtdjpjmkpndmhaaaGreat
set_option linter.unusedSimpArgs false
set_option linter.unusedVariables false
set_option linter.unnecessarySimpa false
open Go.RowKit
def HasW (s : Ar) (h : Int) (l : List Int) : Prop := ∃ t, Rep s h t ∧ WaveT 9 t l
def HasB (s : Ar) (h : Int) (l : List Bool) : Prop := ∃ t, Rep s h t ∧ BitsR t l
def HasL (s : Ar) (h : Int) (l : List (Int × Int)) : Prop := ∃ t, Rep s h t ∧ ListR t l
theorem HasW.grow {s s' : Ar} {h : Int} {l : List Int} (hg : Grow s s') (x : HasW s h l) : HasW s' h l := by obtain ⟨t, a, b⟩ := x; exact ⟨t, a.grow hg, b⟩
theorem HasB.grow {s s' : Ar} {h : Int} {l : List Bool} (hg : Grow s s') (x : HasB s h l) : HasB s' h l := by obtain ⟨t, a, b⟩ := x; exact ⟨t, a.grow hg, b⟩
theorem HasL.grow {s s' : Ar} {h : Int} {l : List (Int × Int)} (hg : Grow s s') (x : HasL s h l) : HasL s' h l := by obtain ⟨t, a, b⟩ := x; exact ⟨t, a.grow hg, b⟩
theorem HasW.stay {s s' : Ar} {h : Int} {l : List Int} {H : List Int} (hs : Stay s s' H) (hh : h ∈ H) (x : HasW s h l) : HasW s' h l := by obtain ⟨t, a, b⟩ := x; exact ⟨t, a.held hs hh, b⟩
theorem HasB.stay {s s' : Ar} {h : Int} {l : List Bool} {H : List Int} (hs : Stay s s' H) (hh : h ∈ H) (x : HasB s h l) : HasB s' h l := by obtain ⟨t, a, b⟩ := x; exact ⟨t, a.held hs hh, b⟩
theorem HasL.stay {s s' : Ar} {h : Int} {l : List (Int × Int)} {H : List Int} (hs : Stay s s' H) (hh : h ∈ H) (x : HasL s h l) : HasL s' h l := by obtain ⟨t, a, b⟩ := x; exact ⟨t, a.held hs hh, b⟩
/-- A part that is replaced by what was told: H1, H2 are held besides. -/
theorem nextA_T {s : Ar} {H1 H2 : List Int} {h : Int} {r : Int × Int × Ar} {c : Nat} {P : Tr → Prop} (ok : Bool) (hr : Rs s r (H1 ++ h :: H2) c P) :
    Inv (nextA ok h r).2.2 (H1 ++ (nextA ok h r).1 :: H2) ∧ Grow s (nextA ok h r).2.2 ∧ (nextA ok h r).2.2.busyN ≤ s.busyN + c ∧
    (((nextA ok h r).2.1 = ok ∧ ∃ t', Rep (nextA ok h r).2.2 (nextA ok h r).1 t' ∧ P t') ∨ ((nextA ok h r).2.1 = false ∧ (nextA ok h r).1 = h ∧ s.size < s.busyN + c)) := by
  unfold nextA
  rcases hr.res with ⟨e, t', a, b⟩ | ⟨e, e1, e2⟩
  · rw [if_pos e]
    dsimp only
    have hd : (if h = 0 then r.2.2 else r.2.2.drop h) = r.2.2.drop h := by
      split
      · rename_i q; rw [q, drop_zero]
      · rfl
    rw [hd]
    have hp : Inv r.2.2 (h :: (H1 ++ r.1 :: H2)) := hr.inv.perm (by
      refine (List.Perm.cons _ List.perm_middle).trans ?_
      refine (List.Perm.swap _ _ _).trans (List.Perm.cons _ ?_)
      exact List.perm_middle.symm)
    have hg := Grow.drop r.2.2 h
    exact ⟨hp.drop, hr.grow.trans hg, by rw [busyN_drop]; exact hr.cost, .inl ⟨rfl, t', a.grow hg, b⟩⟩
  · rw [if_neg (by omega)]
    dsimp only
    have := hr.inv
    rw [e1] at this
    exact ⟨this.tail_zero, hr.grow, hr.cost, .inr ⟨rfl, rfl, e2⟩⟩
/-- What Build holds: a row of symbols, marks, their places, documents. -/
structure Bp (b : Bst) (lw : List Int) (lm : List Bool) (ls lt : List (Int × Int)) : Prop where
  inv : Inv b.s [b.p.wave, b.p.marks, b.p.spots, b.p.table]
  w : HasW b.s b.p.wave lw
  m : HasB b.s b.p.marks lm
  sp : HasL b.s b.p.spots ls
  t : HasL b.s b.p.table lt
  sy : Sy lw
theorem Bp.wr {b : Bst} {lw : List Int} {lm : List Bool} {ls lt : List (Int × Int)} (h : Bp b lw lm ls lt) (hl : lw.length ≤ 9000) : WR b.s 9 b.p.wave lw := ⟨h.w, fun h0 => h.inv.pos (by simp) h0, hl, h.sy⟩
/-- Where nothing waits: no more nodes than these. -/
theorem Bp.busy {b : Bst} {lw : List Int} {lm : List Bool} {ls lt : List (Int × Int)} (h : Bp b lw lm ls lt) (hw : b.s.wait = []) : 8 * b.s.busyN ≤ 2040 + 39 * lw.length + lm.length + 16 * ls.length + 16 * lt.length := by
  obtain ⟨t1, a1, b1⟩ := h.w
  obtain ⟨t2, a2, b2⟩ := h.m
  obtain ⟨t3, a3, b3⟩ := h.sp
  obtain ⟨t4, a4, b4⟩ := h.t
  have := h.inv.busy_le hw (T := [t1, t2, t3, t4]) ⟨a1, a2, a3, a4, trivial⟩
  simp only [sizes, List.map_cons, List.map_nil, List.sum_cons, List.sum_nil] at this
  have := b1.size; have := b2.size; have := b3.size; have := b4.size
  omega
theorem sy_ins {l : List Int} (h : Sy l) (i : Nat) {x : Int} (hx : 0 ≤ x ∧ x < 257) : Sy (insA l i x) := fun y hy => by
  unfold insA at hy
  rcases List.mem_append.1 hy with hy | hy
  · exact h y (List.mem_of_mem_take hy)
  · rcases List.mem_cons.1 hy with rfl | hy
    · exact hx
    · exact h y (List.mem_of_mem_drop hy)
theorem insA_end {α : Type} (l : List α) (x : α) : insA l l.length x = l ++ [x] := by unfold insA; simp
theorem insL_end (l : List Bool) (x : Bool) : insL l l.length x = l ++ [x] := by unfold insL; simp
def XOk (x : Int × Int × Int) : Prop := (1 ≤ x.1 ∧ x.1 < 9223372036854775808) ∧ (0 ≤ x.2.1 ∧ x.2.1 ≤ 1000) ∧ 0 ≤ x.2.2 ∧ x.2.2 < 257
/-- One row more. -/
theorem bStep_T {b : Bst} {lw : List Int} {lm : List Bool} {ls lt : List (Int × Int)} (h : Bp b lw lm ls lt) (rate : Int) {x : Int × Int × Int} (hx : XOk x)
    (hlw : lw.length ≤ 600) (hlm : lm.length = lw.length) (hls : ls.length ≤ lw.length) (hn : b.n = ls.length) (hok : b.ok = true) :
    ∃ b', bStep rate (lw.length : Int) x b = some b' ∧ b'.s.wait = [] ∧ b'.s.size = b.s.size ∧ b'.p.table = b.p.table ∧
      ((b'.ok = true ∧ Bp b' (lw ++ [x.2.2]) (lm ++ [mkd rate x]) (if mkd rate x then ls ++ [(x.1, x.2.1)] else ls) lt ∧ b'.n = (if mkd rate x then ls ++ [(x.1, x.2.1)] else ls).length) ∨
       (b'.ok = false ∧ b.s.size < b.s.busyN + 13 * lw.length + 50 ∧ ∃ lw' lm' ls', Bp b' lw' lm' ls' lt)) := by
  have hb := h.wr (by omega)
  obtain ⟨r1, e1, R1⟩ := wInsert_R h.inv (by simp) hb (lw.length : Int) x.2.2 (by omega) (by omega) ⟨hx.2.2.1, hx.2.2.2⟩
  rw [Int.toNat_natCast, insA_end] at R1
  obtain ⟨i1, g1, c1, q1⟩ := nextA_T (H1 := []) (H2 := [b.p.marks, b.p.spots, b.p.table]) b.ok R1
  obtain ⟨lw1, hw1, sy1, ql1⟩ : ∃ lw1, HasW (nextA b.ok b.p.wave r1).2.2 (nextA b.ok b.p.wave r1).1 lw1 ∧ Sy lw1 ∧ (((nextA b.ok b.p.wave r1).2.1 = true ∧ lw1 = lw ++ [x.2.2]) ∨ ((nextA b.ok b.p.wave r1).2.1 = false ∧ b.s.size < b.s.busyN + 9 * (lw.length + 4))) := by
    rcases q1 with ⟨a, t', p, q⟩ | ⟨a, a1, a2⟩
    · exact ⟨lw ++ [x.2.2], ⟨t', p, q⟩, by rw [← insA_end]; exact sy_ins h.sy _ ⟨hx.2.2.1, hx.2.2.2⟩, .inl ⟨a.trans hok, rfl⟩⟩
    · exact ⟨lw, by rw [a1]; exact h.w.grow g1, h.sy, .inr ⟨a, a2⟩⟩
  generalize hT1 : nextA b.ok b.p.wave r1 = t1 at *
  have hbm : BR t1.2.2 b.p.marks lm := ⟨h.m.grow g1, fun h0 => i1.pos (by simp) h0, by omega⟩
  obtain ⟨r2, e2, R2⟩ := bInsert_R i1 (by simp) hbm (lw.length : Int) (mkd rate x) (by omega) (by omega)
  rw [Int.toNat_natCast, ← hlm, insL_end] at R2
  obtain ⟨i2, g2, c2, q2⟩ := nextA_T (H1 := [t1.1]) (H2 := [b.p.spots, b.p.table]) t1.2.1 R2
  obtain ⟨lm1, hm1, ql2⟩ : ∃ lm1, HasB (nextA t1.2.1 b.p.marks r2).2.2 (nextA t1.2.1 b.p.marks r2).1 lm1 ∧ (((nextA t1.2.1 b.p.marks r2).2.1 = t1.2.1 ∧ lm1 = lm ++ [mkd rate x]) ∨ ((nextA t1.2.1 b.p.marks r2).2.1 = false ∧ t1.2.2.size < t1.2.2.busyN + (lm.length + 3))) := by
    rcases q2 with ⟨a, t', p, q⟩ | ⟨a, a1, a2⟩
    · exact ⟨_, ⟨t', p, q⟩, .inl ⟨a, rfl⟩⟩
    · exact ⟨lm, by rw [a1]; exact h.m.grow (g1.trans g2), .inr ⟨a, a2⟩⟩
  generalize hT2 : nextA t1.2.1 b.p.marks r2 = t2 at *
  have hs1 := g1.size
  have hs2 := g2.size
  by_cases hk : x.2.1 % rate = 0
  · have hmk : mkd rate x = true := decide_eq_true hk
    have hbs : LR t2.2.2 b.p.spots ls := ⟨h.sp.grow (g1.trans g2), fun h0 => i2.pos (by simp) h0, by omega⟩
    obtain ⟨r3, e3, R3⟩ := lInsert_R i2 (by simp) hbs b.n (x := (x.1, x.2.1)) ⟨⟨by have := hx.1; dsimp only; omega, hx.1.2⟩, by have := hx.2.1; dsimp only; omega⟩ (by omega) (by omega)
    rw [hn, Int.toNat_natCast, insA_end] at R3
    obtain ⟨i3, g3, c3, q3⟩ := nextA_T (H1 := [t1.1, t2.1]) (H2 := [b.p.table]) t2.2.1 R3
    obtain ⟨ls1, hsp1, ql3⟩ : ∃ ls1, HasL (nextA t2.2.1 b.p.spots r3).2.2 (nextA t2.2.1 b.p.spots r3).1 ls1 ∧ (((nextA t2.2.1 b.p.spots r3).2.1 = t2.2.1 ∧ ls1 = ls ++ [(x.1, x.2.1)]) ∨ ((nextA t2.2.1 b.p.spots r3).2.1 = false ∧ t2.2.2.size < t2.2.2.busyN + (3 * ls.length + 4))) := by
      rcases q3 with ⟨a, t', p, q⟩ | ⟨a, a1, a2⟩
      · exact ⟨_, ⟨t', p, q⟩, .inl ⟨a, rfl⟩⟩
      · exact ⟨ls, by rw [a1]; exact h.sp.grow ((g1.trans g2).trans g3), .inr ⟨a, a2⟩⟩
    generalize hT3 : nextA t2.2.1 b.p.spots r3 = t3 at *
    obtain ⟨u, w1, w2, w3, w4, w5⟩ := i3.work (by simp) 1073741824
    have hs3 := g3.size
    have hus := w3.size
    have hBp : Bp ⟨u.2, t3.2.1, ⟨t1.1, t2.1, t3.1, b.p.table⟩, wrap64 (b.n + 1)⟩ lw1 lm1 ls1 lt :=
      ⟨w2, (hw1.grow (g2.trans g3)).stay w3 (by simp), (hm1.grow g3).stay w3 (by simp), hsp1.stay w3 (by simp), (h.t.grow ((g1.trans g2).trans g3)).stay w3 (by simp), sy1⟩
    refine ⟨⟨u.2, t3.2.1, ⟨t1.1, t2.1, t3.1, b.p.table⟩, wrap64 (b.n + 1)⟩, ?_, w5 (by omega), by dsimp only; omega, rfl, ?_⟩
    · unfold bStep
      rw [e1, Option.bind_some]
      dsimp only
      rw [hT1, show decide (x.2.1 % rate = 0) = mkd rate x from rfl, e2, Option.bind_some, hT2, if_pos hk, e3, Option.bind_some, hT3, w1]; rfl
    · dsimp only
      rw [if_pos hmk]
      have hcs := R1.cost
      rcases ql1 with ⟨o1, rfl⟩ | ⟨o1, f1⟩
      · rcases ql2 with ⟨o2, rfl⟩ | ⟨o2, f2⟩
        · rcases ql3 with ⟨o3, rfl⟩ | ⟨o3, f3⟩
          · exact .inl ⟨by rw [o3, o2, o1], hBp, by rw [hn, w64 (by omega) (by omega)]; simp⟩
          · exact .inr ⟨o3, by omega, _, _, _, hBp⟩
        · refine .inr ⟨?_, by omega, _, _, _, hBp⟩
          rcases ql3 with ⟨o3, -⟩ | ⟨o3, -⟩
          · rw [o3, o2]
          · exact o3
      · refine .inr ⟨?_, by omega, _, _, _, hBp⟩
        have o2' : t2.2.1 = false := by
          rcases ql2 with ⟨o2, -⟩ | ⟨o2, -⟩
          · rw [o2, o1]
          · exact o2
        rcases ql3 with ⟨o3, -⟩ | ⟨o3, -⟩
        · rw [o3, o2']
        · exact o3
  · have hmk : ¬ mkd rate x = true := fun h => hk (of_decide_eq_true h)
    obtain ⟨u, w1, w2, w3, w4, w5⟩ := i2.work (by simp) 1073741824
    have hus := w3.size
    have hBp : Bp ⟨u.2, t2.2.1, ⟨t1.1, t2.1, b.p.spots, b.p.table⟩, b.n⟩ lw1 lm1 ls lt :=
      ⟨w2, (hw1.grow g2).stay w3 (by simp), hm1.stay w3 (by simp), (h.sp.grow (g1.trans g2)).stay w3 (by simp), (h.t.grow (g1.trans g2)).stay w3 (by simp), sy1⟩
    refine ⟨⟨u.2, t2.2.1, ⟨t1.1, t2.1, b.p.spots, b.p.table⟩, b.n⟩, ?_, w5 (by omega), by dsimp only; omega, rfl, ?_⟩
    · unfold bStep
      rw [e1, Option.bind_some]
      dsimp only
      rw [hT1, show decide (x.2.1 % rate = 0) = mkd rate x from rfl, e2, Option.bind_some, hT2, if_neg hk, w1]; rfl
    · dsimp only
      rw [if_neg hmk]
      rcases ql1 with ⟨o1, rfl⟩ | ⟨o1, f1⟩
      · rcases ql2 with ⟨o2, rfl⟩ | ⟨o2, f2⟩
        · exact .inl ⟨by rw [o2, o1], hBp, hn⟩
        · exact .inr ⟨o2, by omega, _, _, _, hBp⟩
      · refine .inr ⟨?_, by omega, _, _, _, hBp⟩
        rcases ql2 with ⟨o2, -⟩ | ⟨o2, -⟩
        · rw [o2, o1]
        · exact o2
/-- All rows. -/
theorem bRows_T (rate : Int) : ∀ (l X : List (Int × Int × Int)) {b : Bst} {lt : List (Int × Int)}, Bp b (rowW X) (rowM rate X) (rowS rate X) lt → (∀ x ∈ X ++ l, XOk x) → (X ++ l).length ≤ 500 → b.n = (rowS rate X).length → b.ok = true → b.s.wait = [] →
    ∃ b', bRows rate l (X.length : Int) b = some b' ∧ b'.s.wait = [] ∧ b'.s.size = b.s.size ∧
      ((b'.ok = true ∧ Bp b' (rowW (X ++ l)) (rowM rate (X ++ l)) (rowS rate (X ++ l)) lt) ∨
       (b'.ok = false ∧ 8 * b.s.size < 2440 + 160 * (X ++ l).length + 16 * lt.length ∧ ∃ lw' lm' ls', Bp b' lw' lm' ls' lt))
  | [], X, b, lt, h, _, _, _, hok, hw => ⟨b, rfl, hw, rfl, .inl ⟨hok, by simpa using h⟩⟩
  | x :: l, X, b, lt, h, hX, hl, hn, hok, hw => by
    unfold bRows
    rw [if_pos hok]
    have hsl := rowS_length rate X
    have hlen : (X ++ x :: l).length = X.length + (l.length + 1) := by rw [List.length_append, List.length_cons]
    have hwl : (rowW X).length = X.length := by unfold rowW; rw [List.length_map]
    have hml : (rowM rate X).length = X.length := by unfold rowM; rw [List.length_map]
    have hbusy := h.busy hw
    obtain ⟨b1, e1, w1, z1, p1, q1⟩ := bStep_T h rate (hX x (by simp)) (by omega) (by omega) (by omega) hn hok
    rw [hwl] at e1
    rw [e1, Option.bind_some]
    have hcat : X ++ x :: l = (X ++ [x]) ++ l := by simp
    have r1 : rowW (X ++ [x]) = rowW X ++ [x.2.2] := by unfold rowW; simp
    have r2 : rowM rate (X ++ [x]) = rowM rate X ++ [mkd rate x] := by unfold rowM; simp
    have r3 : rowS rate (X ++ [x]) = if mkd rate x then rowS rate X ++ [(x.1, x.2.1)] else rowS rate X := by
      unfold rowS
      rw [List.filter_append]
      by_cases hm : mkd rate x = true
      · rw [if_pos hm, List.filter_cons_of_pos hm]; simp
      · rw [if_neg hm, List.filter_cons_of_neg hm]; simp
    rcases q1 with ⟨o, hB, hn1⟩ | ⟨o, f, lw', lm', ls', hB⟩
    · rw [← r1, ← r2, ← r3] at hB
      rw [← r3] at hn1
      have hle : ((X ++ [x]).length : Int) = (X.length : Int) + 1 := by simp
      obtain ⟨b', e', w', z', q'⟩ := bRows_T rate l (X ++ [x]) hB (by rw [← hcat]; exact hX) (by rw [← hcat]; exact hl) hn1 o w1
      rw [hle] at e'
      rw [e']
      refine ⟨b', rfl, w', by omega, ?_⟩
      rw [hcat]
      rcases q' with q' | ⟨a, b2, c⟩
      · exact .inl q'
      · exact .inr ⟨a, by omega, c⟩
    · refine ⟨b1, ?_, w1, z1, .inr ⟨o, by omega, lw', lm', ls', hB⟩⟩
      cases l with
      | nil => rfl
      | cons y l => unfold bRows; rw [if_neg (by rw [o]; decide)]
end Go.Proofs.YtdjpjmkpndmhaaaGreat
/- The laws' helper Build: its documents, its end, the whole; no program here. -/
namespace Go.Proofs.YtdjpjmkpndmhaaaGreat
set_option linter.unusedSimpArgs false
set_option linter.unusedVariables false
set_option linter.unnecessarySimpa false
open Go.RowKit
theorem placeIn_none (id : Int) : ∀ (l : List (Int × Int)) (i : Int), (∀ y ∈ l, y.1 ≠ id) → placeIn id l i = (0, false)
  | [], _, _ => rfl
  | x :: l, i, h => by
    unfold placeIn
    rw [if_neg (h x (by simp))]
    exact placeIn_none id l (i + 1) fun y hy => h y (by simp [hy])
theorem tAdd_R {s : Ar} {H : List Int} (hI : Inv s H) (hH : H.length ≤ 900000) {h : Int} {l : List (Int × Int)} (hb : LR s h l) {x : Int × Int} (hx : 1 ≤ x.1 ∧ x.1 < 9223372036854775808 ∧ 0 ≤ x.2 ∧ x.2 ≤ 40) (hn : ∀ y ∈ l, y.1 ≠ x.1) (hl : l.length ≤ 9) :
    ∃ r, tAdd s h x.1 x.2 = some r ∧ Rs s r H (3 * l.length + 4) fun t => ListR t (l ++ [x]) := by
  unfold tAdd tPlace
  rw [hb.all hI, Option.map_some, Option.bind_some, placeIn_none x.1 l 0 hn, hb.len hI, if_neg (by simp; omega), if_neg (by omega)]
  obtain ⟨r, a, b⟩ := lInsert_R hI hH hb (l.length : Int) (x := x) ⟨by omega, by omega⟩ (by omega) (by omega)
  rw [Int.toNat_natCast, insA_end] at b
  exact ⟨r, a, b⟩
def DOk (x : Int × Int) : Prop := 1 ≤ x.1 ∧ x.1 < 9223372036854775808 ∧ 0 ≤ x.2 ∧ x.2 ≤ 40
theorem bTable_T : ∀ (l D : List (Int × Int)) {b : Bst} {lw : List Int} {lm : List Bool} {ls lt : List (Int × Int)}, Bp b lw lm ls lt → (∀ x ∈ D ++ l, DOk x) → ((D ++ l).map (·.1)).Nodup → (D ++ l).length ≤ 10 → (∀ y ∈ lt, y ∈ D) → lt.length ≤ D.length → (b.ok = true → lt = D) →
    ∃ b' lt', bTable l b = some b' ∧ Bp b' lw lm ls lt' ∧ b'.s.size = b.s.size ∧ b'.s.busyN ≤ b.s.busyN + 34 * l.length ∧ b'.p.wave = b.p.wave ∧ b'.p.marks = b.p.marks ∧ b'.p.spots = b.p.spots ∧ lt'.length ≤ 10 ∧
      ((b'.ok = true ∧ b.ok = true ∧ lt' = D ++ l) ∨ (b'.ok = false ∧ (b.ok = true → b.s.size < b.s.busyN + 34 * l.length)))
  | [], D, b, lw, lm, ls, lt, h, hx, hd, hl, h1, h2, h3 => by
    refine ⟨b, lt, rfl, h, rfl, by simp, rfl, rfl, rfl, by simp at hl; omega, ?_⟩
    cases ho : b.ok with
    | true => exact .inl ⟨rfl, rfl, by rw [h3 ho, List.append_nil]⟩
    | false => exact .inr ⟨rfl, fun h => by cases h⟩
  | x :: l, D, b, lw, lm, ls, lt, h, hx, hd, hl, h1, h2, h3 => by
    rw [List.length_append, List.length_cons] at hl
    have hcat : D ++ x :: l = (D ++ [x]) ++ l := by simp
    have hlr : LR b.s b.p.table lt := ⟨h.t, fun h0 => h.inv.pos (by simp) h0, by omega⟩
    have hxo := hx x (by simp)
    have hnot : ∀ y ∈ lt, y.1 ≠ x.1 := fun y hy e => by
      rw [List.map_append, List.map_cons] at hd
      obtain ⟨-, -, hdis⟩ := List.nodup_append.1 hd
      exact hdis y.1 (List.mem_map.2 ⟨y, h1 y hy, rfl⟩) x.1 (by simp) e
    obtain ⟨r, e, R⟩ := tAdd_R h.inv (by simp) hlr hxo hnot (by omega)
    obtain ⟨i1, g1, c1, q1⟩ := nextA_T (H1 := [b.p.wave, b.p.marks, b.p.spots]) (H2 := []) b.ok R
    unfold bTable
    rw [hlr.all h.inv, Option.bind_some, if_pos (by omega), e, Option.bind_some]
    obtain ⟨lt1, ht1, hm1, hl1, ql⟩ : ∃ lt1, HasL (nextA b.ok b.p.table r).2.2 (nextA b.ok b.p.table r).1 lt1 ∧ (∀ y ∈ lt1, y ∈ D ++ [x]) ∧ lt1.length ≤ (D ++ [x]).length ∧ (((nextA b.ok b.p.table r).2.1 = b.ok ∧ lt1 = lt ++ [x]) ∨ ((nextA b.ok b.p.table r).2.1 = false ∧ b.s.size < b.s.busyN + (3 * lt.length + 4))) := by
      rcases q1 with ⟨a, t', p, q⟩ | ⟨a, a1, a2⟩
      · refine ⟨lt ++ [x], ⟨t', p, q⟩, fun y hy => ?_, by simp; omega, .inl ⟨a, rfl⟩⟩
        rcases List.mem_append.1 hy with hy | hy
        · exact List.mem_append.2 (.inl (h1 y hy))
        · exact List.mem_append.2 (.inr hy)
      · exact ⟨lt, by rw [a1]; exact h.t.grow g1, fun y hy => List.mem_append.2 (.inl (h1 y hy)), by simp; omega, .inr ⟨a, a2⟩⟩
    generalize nextA b.ok b.p.table r = t1 at *
    have hBp : Bp ⟨t1.2.2, t1.2.1, ⟨b.p.wave, b.p.marks, b.p.spots, t1.1⟩, b.n⟩ lw lm ls lt1 := ⟨i1, h.w.grow g1, h.m.grow g1, h.sp.grow g1, ht1, h.sy⟩
    obtain ⟨b', lt', e', B', z', c', p1, p2, p3, l', q'⟩ := bTable_T l (D ++ [x]) hBp (by rw [← hcat]; exact hx) (by rw [← hcat]; exact hd) (by rw [← hcat, List.length_append, List.length_cons]; exact hl) hm1 hl1 (fun ho => by
      rcases ql with ⟨a, b⟩ | ⟨a, -⟩
      · rw [b, h3 (a ▸ ho)]
      · dsimp only at ho; rw [a] at ho; cases ho)
    have hz := g1.size
    dsimp only at z' c' p1 p2 p3 q'
    refine ⟨b', lt', e', B', by omega, by rw [List.length_cons]; omega, p1, p2, p3, l', ?_⟩
    rcases q' with ⟨a1, a2, a3⟩ | ⟨a1, a2⟩
    · rcases ql with ⟨o, -⟩ | ⟨o, -⟩
      · exact .inl ⟨a1, o ▸ a2, by rw [a3, hcat]⟩
      · rw [o] at a2; cases a2
    · refine .inr ⟨a1, fun hbo => ?_⟩
      rw [List.length_cons]
      rcases ql with ⟨o, -⟩ | ⟨o, f⟩
      · have := a2 (o.trans hbo); omega
      · omega
theorem dropP_eq (s : Ar) (h : Int) : dropP s h = s.drop h := by
  unfold dropP
  split
  · rename_i q; rw [q, drop_zero]
  · rfl
/-- Its end. -/
theorem bEnd_T {b : Bst} {lw : List Int} {lm : List Bool} {ls lt : List (Int × Int)} (h : Bp b lw lm ls lt) (ht : lt ≠ []) :
    ∃ r, bEnd b = some r ∧ Inv r.2.2 [r.1] ∧ r.2.2.wait = [] ∧ r.2.2.size = b.s.size ∧
      ((r.2.1 = true ∧ b.ok = true ∧ ∃ t, Rep r.2.2 r.1 t ∧ ∃ tw tm tsp tt, t = .nd 6 0 0 tw tm tsp tt ∧ WaveT 9 tw lw ∧ BitsR tm lm ∧ ListR tsp ls ∧ ListR tt lt) ∨
       (r.2.1 = false ∧ r.1 = 0 ∧ (b.ok = true → b.s.busyN = b.s.size))) := by
  unfold bEnd
  dsimp only
  simp only [dropP_eq]
  have fin : ∀ (root : Int) (ok : Bool) (s : Ar), Inv s (root :: [b.p.wave, b.p.marks, b.p.spots, b.p.table]) → (ok = false → root = 0) →
      ∃ u, Option.map (fun u : Int × Ar => (root, ok, if ok = false ∧ root ≠ 0 then u.2.drop root else u.2)) (((((s.drop b.p.wave).drop b.p.marks).drop b.p.spots).drop b.p.table).work 1073741824) = some (root, ok, u) ∧ Inv u [root] ∧ u.wait = [] ∧ u.size = s.size ∧ Stay s u [root] := fun root ok s hi hz => by
    have hi' : Inv s ([b.p.wave, b.p.marks, b.p.spots, b.p.table] ++ [root]) := hi.perm (by
      have : (root :: [b.p.wave, b.p.marks, b.p.spots, b.p.table]) = [root] ++ [b.p.wave, b.p.marks, b.p.spots, b.p.table] := rfl
      rw [this]; exact List.perm_append_comm)
    have hd := Inv.dropAll hi'
    have hg := Grow.dropAll [b.p.wave, b.p.marks, b.p.spots, b.p.table] s
    obtain ⟨u, w1, w2, w3, -, w5⟩ := hd.work (by simp) 1073741824
    refine ⟨u.2, ?_, w2, w5 (by omega), w3.size.trans hg.size, ?_⟩
    · have : (((s.drop b.p.wave).drop b.p.marks).drop b.p.spots).drop b.p.table = s.dropAll [b.p.wave, b.p.marks, b.p.spots, b.p.table] := rfl
      rw [this, w1, Option.map_some, if_neg (fun q => q.2 (hz q.1))]
    · refine ⟨w3.size.trans hg.size, fun x hx => ?_⟩
      have hxs : s.has x = true := (hi.rc (hx.mono (fun y hy _ => by simp at hy; simp [hy]))).1
      have hx' : Rc (s.dropAll [b.p.wave, b.p.marks, b.p.spots, b.p.table]) [root] x := (hg.stay (hi.perm (List.Perm.refl _)) |>.mono (H := [root]) (fun y hy _ => by simp at hy; simp [hy])).rc hx
      obtain ⟨a, c⟩ := w3.same x hx'
      exact ⟨a, c.trans (hg.has hxs).2⟩
  cases ho : b.ok with
  | false =>
    rw [if_neg (by decide)]
    obtain ⟨u, e, i, w, z, -⟩ := fin 0 false b.s (h.inv.zero_cons (by simp)) (fun _ => rfl)
    exact ⟨_, e, i, w, z, .inr ⟨rfl, rfl, fun h => by cases h⟩⟩
  | true =>
    rw [if_pos rfl]
    obtain ⟨tt, ht1, ht2⟩ := h.t
    have htn : b.p.table ≠ 0 := by
      rcases ht2 with ⟨-, q⟩ | ht2
      · exact absurd q ht
      · exact ht1.ne_ofL ht2
    have hmk : vMake b.s b.p = b.s.make ⟨6, b.p.wave, b.p.marks, b.p.spots, b.p.table, 0, 0⟩ := by
      unfold vMake; rw [if_neg (fun q => htn q.2.2.2)]
    rw [hmk]
    rcases h.inv.make (by simp) ⟨6, b.p.wave, b.p.marks, b.p.spots, b.p.table, 0, 0⟩ ⟨by dsimp only; omega, by dsimp only; omega⟩ U64.zero (fun k hk h0 => h.inv.pos hk h0) with ⟨m1, m2⟩ | ⟨f, f1, f2, f3, m1, m2, m3, m4, m5, m6, m7⟩
    · rw [m1]
      have hn : nextA true 0 ((0 : Int), (2 : Int), b.s) = (0, false, b.s) := rfl
      rw [hn]
      obtain ⟨u, e, i, w, z, -⟩ := fin 0 false b.s (h.inv.zero_cons (by simp)) (fun _ => rfl)
      exact ⟨_, e, i, w, z, .inr ⟨rfl, rfl, fun _ => m2⟩⟩
    · generalize b.s.make ⟨6, b.p.wave, b.p.marks, b.p.spots, b.p.table, 0, 0⟩ = r at *
      have hn : nextA true 0 r = (r.1, true, r.2.2) := by unfold nextA; rw [if_pos m2, if_pos rfl]
      rw [hn, m1]
      obtain ⟨u, e, i, w, z, st⟩ := fin (f : Int) true r.2.2 m3 (fun h => by cases h)
      refine ⟨_, e, i, w, z.trans m4.size, .inl ⟨rfl, rfl, ?_⟩⟩
      obtain ⟨tw, w1, w2⟩ := h.w
      obtain ⟨tm, n1, n2⟩ := h.m
      obtain ⟨tsp, s1, s2⟩ := h.sp
      have hfh : r.2.2.has (f : Int) = true := has_iff.2 ⟨by omega, by rw [m4.size]; omega, by simpa using m5⟩
      have hrep : Rep r.2.2 (f : Int) (.nd 6 0 0 tw tm tsp tt) := .nd hfh (by rw [get_nat hfh, Int.toNat_natCast, m6]) (w1.grow m4) (n1.grow m4) (s1.grow m4) (ht1.grow m4)
      exact ⟨_, hrep.held st (by simp), tw, tm, tsp, tt, rfl, w2, n2, s2, ht2⟩
/-! ### the whole -/
theorem docs_length {ts : List (List UInt8)} : ∀ n, n ≤ ts.length → (docs ts n).length = ((ts.take n).map fun t => t.length + 1).sum
  | 0, _ => rfl
  | n + 1, h => by
    obtain ⟨t, ht⟩ := at_some (show n < ts.length by omega)
    obtain ⟨h1, h2⟩ := List.getElem?_eq_some_iff.1 ht
    rw [docs_succ, List.length_append, docs_length n (by omega), List.take_succ_eq_append_getElem h1, List.map_append, List.sum_append, h2]
    unfold rowsOf
    rw [getD_at ht]; simp
/-- How many bytes documents have. -/
def tot (ds : Docs) : Nat := (ds.map fun d => d.2.length).sum
theorem rows_tot {ds : Docs} (h : Right ds) : (rowsM ds).length = tot ds + ds.length := by
  rw [rowsM_length, right_all h, (all_docs _).length_eq, docs_length _ (Nat.le_refl _), List.take_length, List.map_map]
  unfold tot
  clear h
  induction ds with
  | nil => rfl
  | cons d ds ih => simp only [List.map_cons, List.sum_cons, List.length_cons, Function.comp] at ih ⊢; omega
theorem rows_ok {ds : Docs} (h : Right ds) : ∀ x ∈ rowsM ds, XOk x := fun x hx => by
  unfold rowsM at hx
  obtain ⟨r, hr, rfl⟩ := List.mem_map.1 hx
  obtain ⟨t, ht, hrt⟩ := sorted_valid hr
  have hb := sym_bound (ts := ds.map (·.2)) r
  have h40 := (right_len h.right).2 r.1
  rw [getD_at ht] at h40
  rw [List.getElem?_map] at ht
  obtain ⟨d, hd, hdt⟩ := Option.map_eq_some_iff.1 ht
  have hid := h.id d (List.mem_of_getElem? hd)
  refine ⟨?_, ⟨by dsimp only; omega, by dsimp only; omega⟩, hb⟩
  have : ds.getD r.1 (0, []) = d := by simp [List.getD, hd]
  rw [this]; exact hid
theorem docs_ok {ds : Docs} (h : Right ds) : ∀ x ∈ docsM ds, DOk x := fun x hx => by
  unfold docsM at hx
  obtain ⟨d, hd, rfl⟩ := List.mem_map.1 hx
  have hid := h.id d hd
  obtain ⟨i, hi⟩ := List.getElem?_of_mem hd
  have ht : (txt ds)[i]? = some d.2 := by rw [List.getElem?_map, hi]; rfl
  have h40 := (right_len h.right).2 i
  rw [getD_at ht] at h40
  exact ⟨hid.1, hid.2, by dsimp only; omega, by dsimp only; omega⟩
theorem bBuild_T {s : Ar} (hI : Inv s []) (hw : s.wait = []) {ds : Docs} (h : Right ds) (rate : Int) :
    ∃ r, bBuild s rate (rowsM ds) (docsM ds) = some r ∧ Inv r.2.2 [r.1] ∧ r.2.2.wait = [] ∧ r.2.2.size = s.size ∧ (r.1 = 0 → ds = [] ∨ r.2.1 = false) ∧
      ((r.2.1 = true ∧ VR r.2.2 r.1 ds rate) ∨ (r.2.1 = false ∧ r.1 = 0 ∧ 8 * s.size < 10000 + 160 * (rowsM ds).length)) := by
  unfold bBuild
  by_cases hd : ds = []
  · subst hd
    rw [if_pos (show docsM [] = [] from rfl)]
    exact ⟨_, rfl, hI.zero_cons (by simp), hw, rfl, fun _ => .inl rfl, .inl ⟨rfl, .inl ⟨rfl, rfl⟩, fun h => absurd rfl h⟩⟩
  have hdn : docsM ds ≠ [] := by unfold docsM; simpa using hd
  rw [if_neg hdn]
  have hlen := h.len
  have hN := rowsM_small ds
  have b0 : Bp ⟨s, true, Parts.zero, 0⟩ (rowW []) (rowM rate []) (rowS rate []) [] :=
    ⟨(((hI.zero_cons (by simp)).zero_cons (by simp)).zero_cons (by simp)).zero_cons (by simp), ⟨.nil, .nil, .nil⟩, ⟨.nil, .nil, .inl ⟨rfl, rfl⟩⟩, ⟨.nil, .nil, .inl ⟨rfl, rfl⟩⟩, ⟨.nil, .nil, .inl ⟨rfl, rfl⟩⟩, fun x hx => by simp [rowW] at hx⟩
  obtain ⟨b1, e1, w1, z1, q1⟩ := bRows_T rate (rowsM ds) [] b0 (by simpa using rows_ok h) (by simpa using hN) rfl rfl hw
  rw [show (([] : List (Int × Int × Int)).length : Int) = 0 from rfl] at e1
  rw [List.nil_append] at q1
  rw [e1, Option.bind_some]
  dsimp only at z1 q1
  have hdl : (docsM ds).length = ds.length := by unfold docsM; simp
  have hnd : ((docsM ds).map (·.1)).Nodup := by
    have : (docsM ds).map (·.1) = ds.map (·.1) := by unfold docsM; rw [List.map_map]; rfl
    rw [this]; exact h.nodup
  rcases q1 with ⟨o1, B1⟩ | ⟨o1, f1, lw', lm', ls', B1⟩
  · obtain ⟨b2, lt2, e2, B2, z2, c2, -, -, -, l2, q2⟩ := bTable_T (docsM ds) [] B1 (by simpa using docs_ok h) (by simpa using hnd) (by simp [hdl, hlen]) (by simp) (by simp) (fun _ => rfl)
    rw [e2, Option.bind_some]
    have hb1 := B1.busy w1
    have r1 : (rowW (rowsM ds)).length = (rowsM ds).length := by unfold rowW; simp
    have r2 : (rowM rate (rowsM ds)).length = (rowsM ds).length := by unfold rowM; simp
    have r3 := rowS_length rate (rowsM ds)
    rw [List.length_nil] at hb1
    rcases q2 with ⟨o2, -, l3⟩ | ⟨o2, f2⟩
    · rw [List.nil_append] at l3
      subst l3
      obtain ⟨r, e3, i3, w3, z3, q3⟩ := bEnd_T B2 hdn
      refine ⟨r, e3, i3, w3, by omega, ?_, ?_⟩
      · intro hr0
        rcases q3 with ⟨o3, -, t, ht, tw, tm, tsp, tt, rfl, -⟩ | ⟨o3, -⟩
        · exact absurd hr0 ht.ne
        · exact .inr o3
      · rcases q3 with ⟨o3, -, t, ht, hv⟩ | ⟨o3, r0, f3⟩
        · exact .inl ⟨o3, .inr ⟨t, ht, hv⟩, fun h0 => i3.pos (by simp) h0⟩
        · have := f3 o2
          exact .inr ⟨o3, r0, by omega⟩
    · have hlt2 : ∃ r, bEnd b2 = some r ∧ Inv r.2.2 [r.1] ∧ r.2.2.wait = [] ∧ r.2.2.size = b2.s.size ∧ r.2.1 = false ∧ r.1 = 0 := by
        unfold bEnd
        dsimp only
        simp only [dropP_eq]
        rw [o2, if_neg (by decide)]
        have hi' : Inv b2.s ([b2.p.wave, b2.p.marks, b2.p.spots, b2.p.table] ++ []) := B2.inv
        have hdd := Inv.dropAll hi'
        have hg := Grow.dropAll [b2.p.wave, b2.p.marks, b2.p.spots, b2.p.table] b2.s
        obtain ⟨u, u1, u2, u3, -, u5⟩ := hdd.work (by simp) 1073741824
        have he : (((b2.s.drop b2.p.wave).drop b2.p.marks).drop b2.p.spots).drop b2.p.table = b2.s.dropAll [b2.p.wave, b2.p.marks, b2.p.spots, b2.p.table] := rfl
        rw [he, u1, Option.map_some]
        exact ⟨_, rfl, u2.zero_cons (by simp), u5 (by omega), u3.size.trans hg.size, rfl, rfl⟩
      obtain ⟨r, e3, i3, w3, z3, o3, r0⟩ := hlt2
      have := f2 o1
      exact ⟨r, e3, i3, w3, by omega, fun _ => .inr o3, .inr ⟨o3, r0, by omega⟩⟩
  · obtain ⟨b2, lt2, e2, B2, z2, c2, -, -, -, l2, q2⟩ := bTable_T (docsM ds) [] B1 (by simpa using docs_ok h) (by simpa using hnd) (by simp [hdl, hlen]) (by simp) (by simp) (fun ho => by simp [o1] at ho)
    rw [e2, Option.bind_some]
    have o2 : b2.ok = false := by
      rcases q2 with ⟨-, q, -⟩ | ⟨q, -⟩
      · rw [o1] at q; cases q
      · exact q
    have hlt2 : ∃ r, bEnd b2 = some r ∧ Inv r.2.2 [r.1] ∧ r.2.2.wait = [] ∧ r.2.2.size = b2.s.size ∧ r.2.1 = false ∧ r.1 = 0 := by
      unfold bEnd
      dsimp only
      simp only [dropP_eq]
      rw [o2, if_neg (by decide)]
      have hi' : Inv b2.s ([b2.p.wave, b2.p.marks, b2.p.spots, b2.p.table] ++ []) := B2.inv
      have hdd := Inv.dropAll hi'
      have hg := Grow.dropAll [b2.p.wave, b2.p.marks, b2.p.spots, b2.p.table] b2.s
      obtain ⟨u, u1, u2, u3, -, u5⟩ := hdd.work (by simp) 1073741824
      have he : (((b2.s.drop b2.p.wave).drop b2.p.marks).drop b2.p.spots).drop b2.p.table = b2.s.dropAll [b2.p.wave, b2.p.marks, b2.p.spots, b2.p.table] := rfl
      rw [he, u1, Option.map_some]
      exact ⟨_, rfl, u2.zero_cons (by simp), u5 (by omega), u3.size.trans hg.size, rfl, rfl⟩
    obtain ⟨r, e3, i3, w3, z3, o3, r0⟩ := hlt2
    rw [List.length_nil] at f1
    exact ⟨r, e3, i3, w3, by omega, fun _ => .inr o3, .inr ⟨o3, r0, by omega⟩⟩
theorem Inv.new (n : Nat) (h : n ≤ 6000) : Inv (Ar.new n) [] :=
  ⟨Ar.Wq.new n h, by simp, fun m _ _ hm => by simp [Ar.new] at hm, fun m _ _ hm => by simp [Ar.new] at hm, fun m _ _ hm => by simp [Ar.new] at hm, by simp, ⟨fun _ => 0, fun m _ _ hm => by simp [Ar.new] at hm⟩, by
    have : (Ar.new n).busyN = 0 := usedTo_none _ _ fun _ _ _ => rfl
    rw [this]
    rfl⟩
end Go.Proofs.YtdjpjmkpndmhaaaGreat
/- Which documents may be, as plain functions; no program here. -/
namespace Go.Proofs.YtdjpjmkpndmhaaaGreat
set_option linter.unusedSimpArgs false
set_option linter.unusedVariables false
set_option linter.unnecessarySimpa false
open Go.RowKit
def placeZ (id : Int) : Docs → Int → Int
  | [], _ => -1
  | d :: l, i => if d.1 = id then i else placeZ id l (i + 1)
def mrFrom (ds : Docs) : Docs → Int → Bool
  | [], _ => decide (ds.length ≤ 10)
  | d :: l, i => decide (1 ≤ d.1) && (decide (d.2.length ≤ 40) && (decide (placeZ d.1 ds 0 = i) && mrFrom ds l (i + 1)))
def mRight (ds : Docs) : Bool := mrFrom ds ds 0
def sumW : Docs → Int → Int
  | [], n => n
  | d :: l, n => sumW l (wrap64 (n + d.2.length))
def few (ds : Docs) : Bool := decide (ds.length ≤ 12) && (decide (sumW ds 0 ≤ 60) && mRight ds)
theorem wrap_len {n i : Nat} (h : n ≤ maxLen) (hi : i < n) : wrap64 ((i : Int) + 1) = (i : Int) + 1 := IntWalk.wrap64_in _ (by unfold maxLen at h; omega)
theorem mrFrom_all (ds : Docs) : ∀ (l : Docs) (i : Nat), mrFrom ds l (i : Int) = true → (∀ k d, l[k]? = some d → 1 ≤ d.1 ∧ d.2.length ≤ 40 ∧ placeZ d.1 ds 0 = ((i + k : Nat) : Int)) ∧ ds.length ≤ 10
  | [], i, h => ⟨fun k d hd => by simp at hd, by unfold mrFrom at h; simpa using h⟩
  | x :: l, i, h => by
    unfold mrFrom at h
    simp only [Bool.and_eq_true, decide_eq_true_eq] at h
    obtain ⟨h1, h2, h3, h4⟩ := h
    obtain ⟨h5, h6⟩ := mrFrom_all ds l (i + 1) h4
    refine ⟨fun k d hd => ?_, h6⟩
    cases k with
    | zero => cases hd; exact ⟨h1, h2, by rw [h3]; rfl⟩
    | succ k =>
      obtain ⟨a, b, c⟩ := h5 k d hd
      exact ⟨a, b, by rw [c]; congr 1; omega⟩
theorem sumW_eq : ∀ (l : Docs) (n : Nat), (∀ d ∈ l, d.2.length ≤ 40) → n + 40 * l.length < 100000 → sumW l n = ((n + tot l : Nat) : Int)
  | [], n, _, _ => by unfold sumW tot; simp
  | d :: l, n, h, hn => by
    have hd := h d (by simp)
    simp only [List.length_cons] at hn
    unfold sumW
    rw [IntWalk.wrap64_in _ (by omega)]
    have := sumW_eq l (n + d.2.length) (fun x hx => h x (by simp [hx])) (by omega)
    rw [show (n : Int) + (d.2.length : Int) = ((n + d.2.length : Nat) : Int) by omega, this]
    congr 1
    unfold tot
    simp only [List.map_cons, List.sum_cons]
    omega
theorem placeZ_ge (id : Int) : ∀ (l : Docs) (i : Int), 0 ≤ i → placeZ id l i = -1 ∨ i ≤ placeZ id l i
  | [], i, _ => .inl rfl
  | d :: l, i, h => by
    unfold placeZ
    split
    · exact .inr (by omega)
    · rcases placeZ_ge id l (i + 1) (by omega) with h2 | h2
      · exact .inl h2
      · exact .inr (by omega)
theorem few_right {ds : Docs} (h : few ds = true) (hid : ∀ d ∈ ds, (Lit.int .i64 d.1).wf = true) : Right ds ∧ tot ds ≤ 60 ∧ ds.length ≤ 10 := by
  unfold few mRight at h
  simp only [Bool.and_eq_true, decide_eq_true_eq] at h
  obtain ⟨h1, h2, h3⟩ := h
  obtain ⟨h4, h5⟩ := mrFrom_all ds ds 0 h3
  have h40 : ∀ d ∈ ds, d.2.length ≤ 40 := fun d hd => by
    obtain ⟨k, hk⟩ := List.getElem?_of_mem hd
    exact (h4 k d hk).2.1
  rw [show (0 : Int) = ((0 : Nat) : Int) from rfl, sumW_eq ds 0 h40 (by omega)] at h2
  refine ⟨⟨?_, fun d hd => ?_, ?_⟩, by omega, h5⟩
  · unfold refRight
    simp only [Bool.and_eq_true, List.all_eq_true, decide_eq_true_eq, List.length_map]
    exact ⟨fun t ht => by obtain ⟨d, hd, rfl⟩ := List.mem_map.1 ht; exact h40 d hd, h5⟩
  · obtain ⟨k, hk⟩ := List.getElem?_of_mem hd
    exact ⟨(h4 k d hk).1, by have := hid d hd; simp [Lit.wf, IntKind.min, IntKind.max, IntKind.bits, IntKind.signed] at this; omega⟩
  · refine List.pairwise_iff_getElem.2 fun i j hi hj hij hc => ?_
    simp only [List.length_map] at hi hj
    simp only [List.getElem_map] at hc
    have a := (h4 i _ (List.getElem?_eq_getElem hi)).2.2
    have b := (h4 j _ (List.getElem?_eq_getElem hj)).2.2
    rw [hc, b] at a
    omega
end Go.Proofs.YtdjpjmkpndmhaaaGreat
/- Which documents may be, and where one is: the document's own. -/
namespace Go.Proofs.YtdjpjmkpndmhaaaGreat
set_option linter.unusedSimpArgs false
set_option linter.unusedVariables false
set_option linter.unnecessarySimpa false
open Go.RowKit
attribute [local go_sem ↓] Go.wp_at_zero Go.wp_at_succ
attribute [local go_sem] str_len
set_option maxRecDepth 100000 in
set_option maxHeartbeats 2000000 in
theorem place_calls (v : Value) (ds : Docs) (id : Int) (hl : ds.length ≤ 50000) (w : World) (h : Rd2 w v ds) :
    Calls Tryz.prog 29 #[v, .int .i64 id] w fun e w' => e = .returned (.int .i64 (placeZ id ds 0)) ∧ Below w.heap.size w w' := by
  obtain ⟨R, hR⟩ : ∃ R, placeZ id ds 0 = R := ⟨_, rfl⟩
  rw [hR]
  have HR := Lib.hid hR; clear hR
  have HK := Lib.hid h
  obtain ⟨A, cap, rfl, h2⟩ := h
  clear h2
  go_enter Tryz.func29, Tryz.ntmps29
  go_wp2_with fail
  go_loopg [5] ds.length (fun k p wr => ∃ i : Nat, p = .int .i64 (i : Int) ∧ i + k = ds.length ∧ Hid (placeZ id (ds.drop i) i = R) ∧ Below w.heap.size w wr)
  case atStart => exact ⟨0, rfl, by omega, HR, Below.refl _ _⟩
  case round =>
    obtain ⟨i, rfl, hk, Hl, hB⟩ := hrel
    by_cases hlt : i < ds.length
    · obtain ⟨k, rfl⟩ : ∃ k, gk = k + 1 := ⟨gk - 1, by omega⟩
      obtain ⟨d, hd⟩ := at_some hlt
      have hl2 := Hl.out
      rw [drop_at hd, placeZ] at hl2
      obtain ⟨A', cap', hv, h2⟩ := HK.out.below hB
      obtain ⟨ad, rfl, hg, hc⟩ := h2 (by omega)
      obtain ⟨rfl, -, rfl⟩ := Value.slice.inj hv
      obtain ⟨-, c1, c2⟩ := hc i d hd
      have n1 : decide ((i : Int) < (ds.length : Int)) = true := by simpa using hlt
      have n2 : (i : Int) < (ds.length : Int) := by omega
      have e3 : wrap64 ((i : Int) + 1) = (i : Int) + 1 := IntWalk.wrap64_in _ (by omega)
      clear hc c2 h2 hv Hl hd
      by_cases he : d.1 = id
      · have d1 : (d.1 == id) = true := by simpa using he
        rw [if_pos he] at hl2
        have HL := Lib.hid hl2
        clear hl2 he
        go_wp2_with fail
        go_ret
        exact ⟨by rw [← HL.out]; rfl, hB⟩
      · have d1 : (d.1 == id) = false := by simpa using he
        rw [if_neg he] at hl2
        have HL := Lib.hid hl2
        clear hl2 he
        go_wp2_with fail
        go_roundg k
        case measure => omega
        case rel => exact ⟨i + 1, by first | rfl | (rw [e3]; rfl), by omega, HL, hB⟩
    · have hi : i = ds.length := by omega
      have hl2 := Hl.out
      rw [hi, List.drop_length, placeZ] at hl2
      have HL := Lib.hid hl2
      have n1 : decide ((i : Int) < (ds.length : Int)) = false := by simpa using hlt
      clear hl2 Hl
      go_wp2_with fail
      go_ret
      exact ⟨by rw [← HL.out]; rfl, hB⟩
set_option maxRecDepth 100000 in
set_option maxHeartbeats 4000000 in
theorem mright_calls (v : Value) (ds : Docs) (hl : ds.length ≤ 50000) (w : World) (h : Rd2 w v ds) :
    Calls Tryz.prog 58 #[v] w fun e w' => e = .returned (.bool (mRight ds)) ∧ Below w.heap.size w w' := by
  obtain ⟨R, hR⟩ : ∃ R, mRight ds = R := ⟨_, rfl⟩
  rw [hR]
  have HR := Lib.hid hR; clear hR
  have HK := Lib.hid h
  obtain ⟨A, cap, rfl, h2⟩ := h
  clear h2
  go_enter Tryz.func58, Tryz.ntmps58
  go_wp2_with fail
  go_loopg [3] ds.length (fun k p wr => ∃ i : Nat, p = .int .i64 (i : Int) ∧ i + k = ds.length ∧ Hid (mrFrom ds (ds.drop i) i = R) ∧ Hid (Below w.heap.size w wr))
  case atStart => exact ⟨0, rfl, by omega, HR, Lib.hid (Below.refl _ _)⟩
  case round =>
    obtain ⟨i, rfl, hk, Hl, HB⟩ := hrel
    by_cases hlt : i < ds.length
    · obtain ⟨k, rfl⟩ : ∃ k, gk = k + 1 := ⟨gk - 1, by omega⟩
      obtain ⟨d, hd⟩ := at_some hlt
      have hl2 := Hl.out
      rw [drop_at hd, mrFrom] at hl2
      have HR2 := Lib.hid (HK.out.below HB.out)
      obtain ⟨A', cap', hv, h2⟩ := HR2.out
      obtain ⟨ad, rfl, hg, hc⟩ := h2 (by omega)
      obtain ⟨rfl, -, rfl⟩ := Value.slice.inj hv
      obtain ⟨-, c1, c2⟩ := hc i d hd
      have n1 : decide ((i : Int) < (ds.length : Int)) = true := by simpa using hlt
      have n2 : (i : Int) < (ds.length : Int) := by omega
      have e3 : wrap64 ((i : Int) + 1) = (i : Int) + 1 := IntWalk.wrap64_in _ (by omega)
      clear hc h2 hv Hl hd
      replace c2 : wr.cell? ⟨(ad.add (i * 2)).block, (ad.add (i * 2)).off + 1, none⟩ = some (strOf d.2) := c2
      have hend : ∀ W2, Below wr.heap.size wr W2 → Below w.heap.size w W2 := fun W2 hb => below_step HB.out hb
      by_cases g1 : 1 ≤ d.1
      · have d1 : decide (d.1 < 1) = false := by simp; omega
        rw [decide_eq_true g1, Bool.true_and] at hl2
        by_cases g2 : d.2.length ≤ 40
        · have d2 : decide ((40 : Int) < (d.2.length : Int)) = false := by simp; omega
          rw [decide_eq_true g2, Bool.true_and] at hl2
          by_cases g3 : placeZ d.1 ds 0 = (i : Int)
          · have d3 : (placeZ d.1 ds 0 == (i : Int)) = true := by simpa using g3
            rw [decide_eq_true g3, Bool.true_and] at hl2
            have HL := Lib.hid hl2
            clear hl2 g1 g2 g3
            go_wp2_with fail
            refine (place_calls _ ds _ hl _ HR2.out).mono ?_
            rintro e1 W1 ⟨rfl, hb1⟩
            have HB1 := Lib.hid (hend _ hb1); clear hb1
            go_wp2_with fail
            go_roundg k
            case measure => omega
            case rel => exact ⟨i + 1, by first | rfl | (rw [e3]; rfl), by omega, HL, HB1⟩
          · have d3 : (placeZ d.1 ds 0 == (i : Int)) = false := by simpa using g3
            rw [decide_eq_false g3, Bool.false_and] at hl2
            have HL := Lib.hid hl2
            clear hl2 g1 g2 g3
            go_wp2_with fail
            refine (place_calls _ ds _ hl _ HR2.out).mono ?_
            rintro e1 W1 ⟨rfl, hb1⟩
            have HB1 := Lib.hid (hend _ hb1); clear hb1
            go_wp2_with fail
            go_ret
            exact ⟨by rw [← HL.out]; rfl, HB1.out⟩
        · have d2 : decide ((40 : Int) < (d.2.length : Int)) = true := by simp; omega
          rw [decide_eq_false g2, Bool.false_and] at hl2
          have HL := Lib.hid hl2
          clear hl2 g1 g2
          go_wp2_with fail
          go_ret
          exact ⟨by rw [← HL.out]; rfl, HB.out⟩
      · have d1 : decide (d.1 < 1) = true := by simp; omega
        rw [decide_eq_false g1, Bool.false_and] at hl2
        have HL := Lib.hid hl2
        clear hl2 g1
        go_wp2_with fail
        go_ret
        exact ⟨by rw [← HL.out]; rfl, HB.out⟩
    · have hi : i = ds.length := by omega
      have hl2 := Hl.out
      rw [hi, List.drop_length, mrFrom] at hl2
      have HL := Lib.hid hl2
      have n1 : decide ((i : Int) < (ds.length : Int)) = false := by simpa using hlt
      clear hl2 Hl
      go_wp2_with fail
      go_ret
      exact ⟨by rw [← HL.out]; first | rfl | (show Ending.returned (Value.bool (decide ((ds.length : Int) ≤ 10))) = _; congr 2; exact decide_eq_decide.2 (by omega)), HB.out⟩
set_option maxRecDepth 100000 in
set_option maxHeartbeats 4000000 in
theorem few_calls (v : Value) (ds : Docs) (hl : ds.length ≤ maxLen) (w : World) (h : Rd2 w v ds) :
    Calls Tryz.prog 15 #[v] w fun e w' => e = .returned (.bool (few ds)) ∧ Below w.heap.size w w' := by
  obtain ⟨R, hR⟩ : ∃ R, few ds = R := ⟨_, rfl⟩
  rw [hR]
  have HR := Lib.hid hR; clear hR
  have HK := Lib.hid h
  have HM := Lib.hid hl
  clear hl
  obtain ⟨A, cap, rfl, h2⟩ := h
  clear h2
  go_enter Tryz.func15, Tryz.ntmps15
  go_wp2_with fail
  go_loopg [3, 7] ds.length (fun k p q wr => ∃ (i : Nat) (n : Int), p = .int .i64 n ∧ q = .int .i64 (i : Int) ∧ i + k = ds.length ∧ Hid (sumW (ds.drop i) n = sumW ds 0) ∧ Below w.heap.size w wr)
  case atStart => exact ⟨0, 0, rfl, rfl, by omega, Lib.hid rfl, Below.refl _ _⟩
  case round =>
    obtain ⟨i, n, rfl, rfl, hk, Hl, hB⟩ := hrel
    by_cases hlt : i < ds.length
    · obtain ⟨k, rfl⟩ : ∃ k, gk = k + 1 := ⟨gk - 1, by omega⟩
      obtain ⟨d, hd⟩ := at_some hlt
      have hl2 := Hl.out
      rw [drop_at hd, sumW] at hl2
      obtain ⟨A', cap', hv, h2⟩ := HK.out.below hB
      obtain ⟨ad, rfl, hg, hc⟩ := h2 (by omega)
      obtain ⟨rfl, -, rfl⟩ := Value.slice.inj hv
      obtain ⟨-, c1, c2⟩ := hc i d hd
      have n1 : decide ((i : Int) < (ds.length : Int)) = true := by simpa using hlt
      have n2 : (i : Int) < (ds.length : Int) := by omega
      have e3 : wrap64 ((i : Int) + 1) = (i : Int) + 1 := wrap_len HM.out hlt
      replace c2 : wr.cell? ⟨(ad.add (i * 2)).block, (ad.add (i * 2)).off + 1, none⟩ = some (strOf d.2) := c2
      have HL := Lib.hid hl2
      clear hc c1 h2 hv Hl hd hl2
      go_wp2_with fail
      go_roundg k
      case measure => omega
      case rel => exact ⟨i + 1, _, rfl, by first | rfl | (rw [e3]; rfl), by omega, HL, hB⟩
    · have hi : i = ds.length := by omega
      have hl2 := Hl.out
      rw [hi, List.drop_length, sumW] at hl2
      have n1 : decide ((i : Int) < (ds.length : Int)) = false := by simpa using hlt
      have HB := Lib.hid hB
      clear Hl hB
      have hr := HR.out
      unfold few at hr
      rw [← hl2] at hr
      by_cases g1 : ds.length ≤ 12
      · have d1 : decide ((ds.length : Int) ≤ 12) = true := by simp; omega
        rw [decide_eq_true g1, Bool.true_and] at hr
        by_cases g2 : n ≤ 60
        · have d2 : decide (n ≤ 60) = true := by simpa using g2
          rw [d2, Bool.true_and] at hr
          have hl5 := Lib.hid (show ds.length ≤ 50000 by omega)
          have HR2 := Lib.hid hr
          clear g1 g2 hl2 hr
          go_wp2_with fail
          refine (mright_calls _ ds hl5.out _ (HK.out.below HB.out)).mono ?_
          rintro e1 W1 ⟨rfl, hb1⟩
          have HB1 := Lib.hid (below_step HB.out hb1); clear hb1
          go_wp2_with fail
          go_ret
          exact ⟨by rw [← HR2.out]; rfl, HB1.out⟩
        · have d2 : decide (n ≤ 60) = false := by simpa using g2
          rw [d2, Bool.false_and] at hr
          have HR2 := Lib.hid hr
          clear g1 g2 hl2 hr
          go_wp2_with fail
          go_ret
          exact ⟨by rw [← HR2.out]; rfl, HB.out⟩
      · have d1 : decide ((ds.length : Int) ≤ 12) = false := by simp; omega
        rw [decide_eq_false g1, Bool.false_and] at hr
        have HR2 := Lib.hid hr
        clear g1 hl2 hr
        go_wp2_with fail
        go_ret
        exact ⟨by rw [← HR2.out]; rfl, HB.out⟩
end Go.Proofs.YtdjpjmkpndmhaaaGreat
/- Build's parts, as its walk asks for them; no program here. -/
namespace Go.Proofs.YtdjpjmkpndmhaaaGreat
set_option linter.unusedSimpArgs false
set_option linter.unusedVariables false
set_option linter.unnecessarySimpa false
open Go.RowKit
theorem bTable_ok : ∀ {l : List (Int × Int)} {b b' : Bst}, bTable l b = some b' → b'.ok = true → b.ok = true
  | [], b, b', h, ho => by cases h; exact ho
  | x :: l, b, b', h, ho => by
    unfold bTable at h
    cases ha : lAll b.s b.p.table with
    | none => rw [ha] at h; cases h
    | some a =>
      rw [ha, Option.bind_some] at h
      split at h
      · cases hr : tAdd b.s b.p.table x.1 x.2 with
        | none => rw [hr] at h; cases h
        | some r =>
          rw [hr, Option.bind_some] at h
          have := bTable_ok h ho
          simp only [nextA] at this
          split at this
          · exact this
          · cases this
      · cases h
theorem bEnd_ok {b : Bst} {r : Int × Bool × Ar} (h : bEnd b = some r) (ho : r.2.1 = true) : b.ok = true := by
  cases hb : b.ok with
  | true => rfl
  | false =>
    unfold bEnd at h
    rw [hb] at h
    simp only [Bool.false_eq_true, if_false] at h
    cases hw : (dropP (dropP (dropP (dropP b.s b.p.wave) b.p.marks) b.p.spots) b.p.table).work 1073741824 with
    | none => rw [hw] at h; cases h
    | some u => rw [hw] at h; cases h; cases ho
/-- Where there is room, all parts go well. -/
theorem build_partsW {s : Ar} (hI : Inv s []) (hw : s.wait = []) {ds : Docs} (h : Right ds) (hne : ds ≠ []) (rate : Int) (hs : 10000 + 160 * (tot ds + ds.length) ≤ 8 * s.size) :
    ∃ B1 B2 root s', bRows rate (rowsM ds) 0 ⟨s, true, Parts.zero, 0⟩ = some B1 ∧ B1.ok = true ∧ bTable (docsM ds) B1 = some B2 ∧ B2.ok = true ∧ bEnd B2 = some (root, true, s') ∧ Inv s' [root] ∧ s'.size = s.size ∧ root ≠ 0 ∧ VR s' root ds rate ∧ s'.wait = [] := by
  obtain ⟨⟨root, ok, s'⟩, h1, h2, hwt, h3, h4, h5⟩ := bBuild_T hI hw h rate
  have hr := rows_tot h
  rcases h5 with ⟨rfl, hv⟩ | ⟨-, -, hlt⟩
  · have hd : docsM ds ≠ [] := fun e => hne (by unfold docsM at e; simpa using e)
    unfold bBuild at h1
    rw [if_neg hd] at h1
    cases e1 : bRows rate (rowsM ds) 0 ⟨s, true, Parts.zero, 0⟩ with
    | none => rw [e1] at h1; cases h1
    | some B1 =>
      rw [e1, Option.bind_some] at h1
      cases e2 : bTable (docsM ds) B1 with
      | none => rw [e2] at h1; cases h1
      | some B2 =>
        rw [e2, Option.bind_some] at h1
        have o2 := bEnd_ok h1 rfl
        exact ⟨B1, B2, root, s', rfl, bTable_ok e2 o2, e2, o2, h1, h2, h3, fun e => (h4 e).elim hne (fun h => by cases h), hv, hwt⟩
  · omega
theorem build_parts {s : Ar} (hI : Inv s []) (hw : s.wait = []) {ds : Docs} (h : Right ds) (hne : ds ≠ []) (rate : Int) (hs : 10000 + 160 * (tot ds + ds.length) ≤ 8 * s.size) :
    ∃ B1 B2 root s', bRows rate (rowsM ds) 0 ⟨s, true, Parts.zero, 0⟩ = some B1 ∧ B1.ok = true ∧ bTable (docsM ds) B1 = some B2 ∧ B2.ok = true ∧ bEnd B2 = some (root, true, s') ∧ Inv s' [root] ∧ s'.size = s.size ∧ root ≠ 0 ∧ VR s' root ds rate := by
  obtain ⟨B1, B2, root, s', h1, h2, h3, h4, h5, h6, h7, h8, h9, -⟩ := build_partsW hI hw h hne rate hs
  exact ⟨B1, B2, root, s', h1, h2, h3, h4, h5, h6, h7, h8, h9⟩
end Go.Proofs.YtdjpjmkpndmhaaaGreat
/- The nodes of rows of bits, of rows of symbols, of lists. -/
namespace Go.Proofs.YtdjpjmkpndmhaaaGreat
set_option linter.unusedSimpArgs false
set_option linter.unusedVariables false
set_option linter.unnecessarySimpa false
open Go.RowKit
attribute [local go_sem ↓] Go.wp_at_zero Go.wp_at_succ
attribute [local go_sem] lt_s2 lt_s3 lt_s4
variable {ap : Value} {s : Ar} {O : Nat → Prop}
set_option maxRecDepth 100000 in
set_option maxHeartbeats 800000 in
theorem bRow_no (h : Int) (h1 : s.has h = false) (w : World) (hA : AP w ap s O) :
  Calls Tryz.prog 83 #[ap, .int .i64 h] w fun e w' => e = .returned (.tuple #[(s.get h).val, .bool false]) ∧ Below w.heap.size w w' := by
 unfold Nd.val
 go_enter Tryz.func83, Tryz.ntmps83
 go_wp2_with fail
 refine calls_gen fun V hV_V => ?_
 have n_k0 := hbk hV_V (w.heap.size)
 simp (maxDischargeDepth := 9) only [BK, not_false_eq_true, reduceCtorEq] at n_k0
 have o_k0 : ¬ O (w.heap.size) := by first | exact hA.new (Nat.le_refl _) | exact hA.new (by omega)
 have hB : Below w.heap.size w V := nB hV_V
 replace hA : AP V ap s O := nA hV_V
 have z_V := zS hV_V
 clear hV_V
 have k0 := n_k0; clear n_k0
 obtain ⟨c_k0, f_k0, l_k0_V⟩ := f3 k0
 refine (aget_calls _ _ hA).mono ?_
 rintro e_w1 w1 ⟨rfl, hb_w1⟩
 replace hA := hA.below hb_w1
 replace hB := below_step hB hb_w1
 replace k0 := keep_blk hb_w1 k0
 have z_w1 := hb_w1.size
 clear hb_w1 c_k0 f_k0
 obtain ⟨c_k0, f_k0, l_k0_w1⟩ := f3 k0
 unfold Nd.val
 go_wp2_with fail
 refine wp_gen fun V1 hV_V1 => ?_
 have n_k1 := hbk hV_V1 (w1.heap.size)
 simp (maxDischargeDepth := 9) only [BK, not_false_eq_true, reduceCtorEq, k0, l_k0_V, l_k0_w1] at n_k1
 have o_k1 : ¬ O (w1.heap.size) := by first | exact hA.new (Nat.le_refl _) | exact hA.new (by omega)
 replace k0 := kK hV_V1 k0
 replace hB : Below w.heap.size w V1 := nB hV_V1
 replace hA : AP V1 ap s O := nA hV_V1
 have z_V1 := zS hV_V1
 clear hV_V1 c_k0 f_k0
 obtain ⟨c_k0, f_k0, l_k0_V1⟩ := f3 k0
 have k1 := n_k1; clear n_k1
 obtain ⟨c_k1, f_k1, l_k1_V1⟩ := f3 k1
 refine wp_region_noPanic ?_
 refine wp_region_held_drew (S := fun v => (∀ o, v.cell? ⟨w1.heap.size, o, none⟩ = V1.cell? ⟨w1.heap.size, o, none⟩) ∧ (V1.heap.size ≤ v.heap.size) ∧ AP v ap s O) (by kernel_rfl) ⟨(fun _ => rfl), (Nat.le_refl _), hA.drew⟩ (fun hHeld => ?_)
 generalize hV_V1d : V1.drew = V1d at hHeld ⊢
 have d_k0 := dK hV_V1d k0
 have d_k1 := dK hV_V1d k1
 clear c_k0 f_k0 c_k1 f_k1
 replace hA := hA.drew; rw [hV_V1d] at hA
 replace hB := hB.drew; rw [hV_V1d] at hB
 have z_V1d := dZ hV_V1d
 have v_k1 := cells_of k1
 clear k0; have k0 := d_k0; clear d_k0
 clear k1; have k1 := d_k1; clear d_k1
 obtain ⟨c_k0, f_k0, l_k0_V1d⟩ := f3 k0
 obtain ⟨c_k1, f_k1, l_k1_V1d⟩ := f3 k1
 clear hV_V1d
 refine tz 0 rfl hHeld ?_
 try simp only [PT]
 refine tz 1 rfl hHeld ?_
 try simp only [PT]
 refine tz 2 rfl hHeld ?_
 try simp only [PT]
 refine take_no (i := 3) rfl (by kernel_rfl) (by kernel_rfl) (by kernel_rfl) (fun _ _ _ h => h) (by rfl) hHeld ?_
 try simp only [PT]
 refine take_no (i := 4) rfl (by kernel_rfl) (by kernel_rfl) (by kernel_rfl) (fun _ _ _ h => h) (by rfl) hHeld ?_
 try simp only [PT]
 refine take_no (i := 5) rfl (by kernel_rfl) (by kernel_rfl) (by kernel_rfl) (fun _ _ _ h => h) (by rfl) hHeld ?_
 try simp only [PT]
 refine take_no (i := 6) rfl (by kernel_rfl) (by kernel_rfl) (by kernel_rfl) (fun _ _ _ h => h) (by rfl) hHeld ?_
 try simp only [PT]
 refine tz 7 rfl hHeld ?_
 try simp only [PT]
 refine tz 8 rfl hHeld ?_
 try simp only [PT]
 refine take_no (i := 9) rfl (by kernel_rfl) (by kernel_rfl) (by kernel_rfl) (fun _ _ _ h => h) (by rfl) hHeld ?_
 try simp only [PT]
 refine take_no (i := 10) rfl (by kernel_rfl) (by kernel_rfl) (by kernel_rfl) (fun _ _ _ h => h) (by rfl) hHeld ?_
 try simp only [PT]
 refine take_no (i := 11) rfl (by kernel_rfl) (by kernel_rfl) (by kernel_rfl) (fun _ _ _ h => h) (by rfl) hHeld ?_
 try simp only [PT]
 refine take_no (i := 12) rfl (by kernel_rfl) (by kernel_rfl) (by kernel_rfl) (fun _ _ _ h => h) (by rfl) hHeld ?_
 try simp only [PT]
 refine take_no (i := 13) rfl (by kernel_rfl) (by kernel_rfl) (by kernel_rfl) (fun _ _ _ h => h) (by rfl) hHeld ?_
 try simp only [PT]
 refine take_no (i := 14) rfl (by kernel_rfl) (by kernel_rfl) (by kernel_rfl) (fun _ _ _ h => h) (by rfl) hHeld ?_
 try simp only [PT]
 refine take_no (i := 15) rfl (by kernel_rfl) (by kernel_rfl) (by kernel_rfl) (fun _ _ _ h => h) (by rfl) hHeld ?_
 try simp only [PT]
 refine take_no (i := 16) rfl (by kernel_rfl) (by kernel_rfl) (by kernel_rfl) (fun _ _ _ h => h) (by rfl) hHeld ?_
 try simp only [PT]
 refine tz 17 rfl hHeld ?_
 try simp only [PT]
 refine rd 18 rfl fun K hK => ?_
 go_simp
 refine gen_app (K := K) (fun D hV_D => ?_)
 replace k0 := kK hV_D k0
 replace k1 := kK hV_D k1
 replace hB : Below w.heap.size w D := nB hV_D
 replace hA : AP D ap s O := nA hV_D
 have z_D := zS hV_D
 clear hV_D c_k0 f_k0 c_k1 f_k1
 obtain ⟨c_k0, f_k0, l_k0_D⟩ := f3 k0
 obtain ⟨c_k1, f_k1, l_k1_D⟩ := f3 k1
 refine hK.out _ _ ⟨(fun o => (c_k1 o).trans (v_k1 o).symm), (by omega), hA⟩ (fun hHeld => ?_)
 clear hK K
 try simp only [PT]
 refine rd 19 rfl fun K hK => ?_
 go_simp
 refine hK.out _ _ hHeld (fun hHeld => ?_)
 clear hK K
 try simp only [PT]
 refine wpAnyH_done (by kernel_rfl) ?_ _
 refine NoPanic.normal ?_
 go_wp2_with fail
 refine bodyPost_ret (v := .tuple #[(s.get h).val, .bool false]) (by simp [results, Tryz.results83, go_sem, Nd.val, *]) rfl ⟨rfl, hB⟩
set_option maxRecDepth 100000 in
set_option maxHeartbeats 800000 in
theorem bRow_dead (h : Int) (h1 : s.has h = true) (h2 : ¬ 0 < s.cnt h) (w : World) (hA : AP w ap s O) :
  Calls Tryz.prog 83 #[ap, .int .i64 h] w fun e w' => e = .returned (.tuple #[(s.get h).val, .bool false]) ∧ Below w.heap.size w w' := by
 unfold Nd.val
 have d1 : decide (0 < s.cnt h) = false := by simpa using h2
 clear h2
 go_enter Tryz.func83, Tryz.ntmps83
 go_wp2_with fail
 refine calls_gen fun V hV_V => ?_
 have n_k0 := hbk hV_V (w.heap.size)
 simp (maxDischargeDepth := 9) only [BK, not_false_eq_true, reduceCtorEq] at n_k0
 have o_k0 : ¬ O (w.heap.size) := by first | exact hA.new (Nat.le_refl _) | exact hA.new (by omega)
 have hB : Below w.heap.size w V := nB hV_V
 replace hA : AP V ap s O := nA hV_V
 have z_V := zS hV_V
 clear hV_V
 have k0 := n_k0; clear n_k0
 obtain ⟨c_k0, f_k0, l_k0_V⟩ := f3 k0
 refine (aget_calls _ _ hA).mono ?_
 rintro e_w1 w1 ⟨rfl, hb_w1⟩
 replace hA := hA.below hb_w1
 replace hB := below_step hB hb_w1
 replace k0 := keep_blk hb_w1 k0
 have z_w1 := hb_w1.size
 clear hb_w1 c_k0 f_k0
 obtain ⟨c_k0, f_k0, l_k0_w1⟩ := f3 k0
 unfold Nd.val
 go_wp2_with fail
 refine wp_gen fun V1 hV_V1 => ?_
 have n_k1 := hbk hV_V1 (w1.heap.size)
 simp (maxDischargeDepth := 9) only [BK, not_false_eq_true, reduceCtorEq, k0, l_k0_V, l_k0_w1] at n_k1
 have o_k1 : ¬ O (w1.heap.size) := by first | exact hA.new (Nat.le_refl _) | exact hA.new (by omega)
 replace k0 := kK hV_V1 k0
 replace hB : Below w.heap.size w V1 := nB hV_V1
 replace hA : AP V1 ap s O := nA hV_V1
 have z_V1 := zS hV_V1
 clear hV_V1 c_k0 f_k0
 obtain ⟨c_k0, f_k0, l_k0_V1⟩ := f3 k0
 have k1 := n_k1; clear n_k1
 obtain ⟨c_k1, f_k1, l_k1_V1⟩ := f3 k1
 refine wp_region_noPanic ?_
 refine wp_region_held_drew (S := fun v => (∀ o, v.cell? ⟨w1.heap.size, o, none⟩ = V1.cell? ⟨w1.heap.size, o, none⟩) ∧ (V1.heap.size ≤ v.heap.size) ∧ AP v ap s O) (by kernel_rfl) ⟨(fun _ => rfl), (Nat.le_refl _), hA.drew⟩ (fun hHeld => ?_)
 generalize hV_V1d : V1.drew = V1d at hHeld ⊢
 have d_k0 := dK hV_V1d k0
 have d_k1 := dK hV_V1d k1
 clear c_k0 f_k0 c_k1 f_k1
 replace hA := hA.drew; rw [hV_V1d] at hA
 replace hB := hB.drew; rw [hV_V1d] at hB
 have z_V1d := dZ hV_V1d
 have v_k1 := cells_of k1
 clear k0; have k0 := d_k0; clear d_k0
 clear k1; have k1 := d_k1; clear d_k1
 obtain ⟨c_k0, f_k0, l_k0_V1d⟩ := f3 k0
 obtain ⟨c_k1, f_k1, l_k1_V1d⟩ := f3 k1
 clear hV_V1d
 refine tz 0 rfl hHeld ?_
 try simp only [PT]
 refine tz 1 rfl hHeld ?_
 try simp only [PT]
 refine tz 2 rfl hHeld ?_
 try simp only [PT]
 refine tz 3 rfl hHeld ?_
 try simp only [PT]
 refine tz 4 rfl hHeld ?_
 try simp only [PT]
 refine take_call (i := 5) (f := ?_) (args := ?_) (v := ?_) rfl (by kernel_rfl) (by kernel_rfl) (by kernel_rfl) (fun _ _ _ h => h) (by rfl) hHeld ?_ (fun v hSv => ?_) ?_
 rotate_left 3
 focus (intro v hSv; go_simp; constructor <;> with_reducible rfl)
 focus (obtain ⟨c0, zs, hAv⟩ := hSv; exact count_calls _ v hAv)
 try simp only [PT]
 refine tz 6 rfl hHeld ?_
 try simp only [PT]
 refine tz 7 rfl hHeld ?_
 try simp only [PT]
 refine tz 8 rfl hHeld ?_
 try simp only [PT]
 refine take_no (i := 9) rfl (by kernel_rfl) (by kernel_rfl) (by kernel_rfl) (fun _ _ _ h => h) (by rfl) hHeld ?_
 try simp only [PT]
 refine take_no (i := 10) rfl (by kernel_rfl) (by kernel_rfl) (by kernel_rfl) (fun _ _ _ h => h) (by rfl) hHeld ?_
 try simp only [PT]
 refine take_no (i := 11) rfl (by kernel_rfl) (by kernel_rfl) (by kernel_rfl) (fun _ _ _ h => h) (by rfl) hHeld ?_
 try simp only [PT]
 refine take_no (i := 12) rfl (by kernel_rfl) (by kernel_rfl) (by kernel_rfl) (fun _ _ _ h => h) (by rfl) hHeld ?_
 try simp only [PT]
 refine take_no (i := 13) rfl (by kernel_rfl) (by kernel_rfl) (by kernel_rfl) (fun _ _ _ h => h) (by rfl) hHeld ?_
 try simp only [PT]
 refine take_no (i := 14) rfl (by kernel_rfl) (by kernel_rfl) (by kernel_rfl) (fun _ _ _ h => h) (by rfl) hHeld ?_
 try simp only [PT]
 refine take_no (i := 15) rfl (by kernel_rfl) (by kernel_rfl) (by kernel_rfl) (fun _ _ _ h => h) (by rfl) hHeld ?_
 try simp only [PT]
 refine take_no (i := 16) rfl (by kernel_rfl) (by kernel_rfl) (by kernel_rfl) (fun _ _ _ h => h) (by rfl) hHeld ?_
 try simp only [PT]
 refine tz 17 rfl hHeld ?_
 try simp only [PT]
 refine rd 18 rfl fun K hK => ?_
 go_simp
 refine gen_app (K := K) (fun D hV_D => ?_)
 replace k0 := kK hV_D k0
 replace k1 := kK hV_D k1
 replace hB : Below w.heap.size w D := nB hV_D
 replace hA : AP D ap s O := nA hV_D
 have z_D := zS hV_D
 clear hV_D c_k0 f_k0 c_k1 f_k1
 obtain ⟨c_k0, f_k0, l_k0_D⟩ := f3 k0
 obtain ⟨c_k1, f_k1, l_k1_D⟩ := f3 k1
 refine hK.out _ _ ⟨(fun o => (c_k1 o).trans (v_k1 o).symm), (by omega), hA⟩ (fun hHeld => ?_)
 clear hK K
 try simp only [PT]
 refine rd 19 rfl fun K hK => ?_
 go_simp
 refine hK.out _ _ hHeld (fun hHeld => ?_)
 clear hK K
 try simp only [PT]
 refine wpAnyH_done (by kernel_rfl) ?_ _
 refine NoPanic.normal ?_
 go_wp2_with fail
 refine bodyPost_ret (v := .tuple #[(s.get h).val, .bool false]) (by simp [results, Tryz.results83, go_sem, Nd.val, *]) rfl ⟨rfl, hB⟩
set_option maxRecDepth 100000 in
set_option maxHeartbeats 800000 in
theorem bRow_t1 (h : Int) (h1 : s.has h = true) (h2 : 0 < s.cnt h) (h3 : (s.get h).tag = 1) (w : World) (hA : AP w ap s O) :
  Calls Tryz.prog 83 #[ap, .int .i64 h] w fun e w' => e = .returned (.tuple #[(s.get h).val, .bool true]) ∧ Below w.heap.size w w' := by
 unfold Nd.val
 have d1 : decide (0 < s.cnt h) = true := by simpa using h2
 have d2 : ((s.get h).tag == 1) = true := by simpa using h3
 clear h2 h3
 go_enter Tryz.func83, Tryz.ntmps83
 go_wp2_with fail
 refine calls_gen fun V hV_V => ?_
 have n_k0 := hbk hV_V (w.heap.size)
 simp (maxDischargeDepth := 9) only [BK, not_false_eq_true, reduceCtorEq] at n_k0
 have o_k0 : ¬ O (w.heap.size) := by first | exact hA.new (Nat.le_refl _) | exact hA.new (by omega)
 have hB : Below w.heap.size w V := nB hV_V
 replace hA : AP V ap s O := nA hV_V
 have z_V := zS hV_V
 clear hV_V
 have k0 := n_k0; clear n_k0
 obtain ⟨c_k0, f_k0, l_k0_V⟩ := f3 k0
 refine (aget_calls _ _ hA).mono ?_
 rintro e_w1 w1 ⟨rfl, hb_w1⟩
 replace hA := hA.below hb_w1
 replace hB := below_step hB hb_w1
 replace k0 := keep_blk hb_w1 k0
 have z_w1 := hb_w1.size
 clear hb_w1 c_k0 f_k0
 obtain ⟨c_k0, f_k0, l_k0_w1⟩ := f3 k0
 unfold Nd.val
 go_wp2_with fail
 refine wp_gen fun V1 hV_V1 => ?_
 have n_k1 := hbk hV_V1 (w1.heap.size)
 simp (maxDischargeDepth := 9) only [BK, not_false_eq_true, reduceCtorEq, k0, l_k0_V, l_k0_w1] at n_k1
 have o_k1 : ¬ O (w1.heap.size) := by first | exact hA.new (Nat.le_refl _) | exact hA.new (by omega)
 replace k0 := kK hV_V1 k0
 replace hB : Below w.heap.size w V1 := nB hV_V1
 replace hA : AP V1 ap s O := nA hV_V1
 have z_V1 := zS hV_V1
 clear hV_V1 c_k0 f_k0
 obtain ⟨c_k0, f_k0, l_k0_V1⟩ := f3 k0
 have k1 := n_k1; clear n_k1
 obtain ⟨c_k1, f_k1, l_k1_V1⟩ := f3 k1
 refine wp_region_noPanic ?_
 refine wp_region_held_drew (S := fun v => (∀ o, v.cell? ⟨w1.heap.size, o, none⟩ = V1.cell? ⟨w1.heap.size, o, none⟩) ∧ (V1.heap.size ≤ v.heap.size) ∧ AP v ap s O) (by kernel_rfl) ⟨(fun _ => rfl), (Nat.le_refl _), hA.drew⟩ (fun hHeld => ?_)
 generalize hV_V1d : V1.drew = V1d at hHeld ⊢
 have d_k0 := dK hV_V1d k0
 have d_k1 := dK hV_V1d k1
 clear c_k0 f_k0 c_k1 f_k1
 replace hA := hA.drew; rw [hV_V1d] at hA
 replace hB := hB.drew; rw [hV_V1d] at hB
 have z_V1d := dZ hV_V1d
 have v_k1 := cells_of k1
 clear k0; have k0 := d_k0; clear d_k0
 clear k1; have k1 := d_k1; clear d_k1
 obtain ⟨c_k0, f_k0, l_k0_V1d⟩ := f3 k0
 obtain ⟨c_k1, f_k1, l_k1_V1d⟩ := f3 k1
 clear hV_V1d
 refine tz 0 rfl hHeld ?_
 try simp only [PT]
 refine tz 1 rfl hHeld ?_
 try simp only [PT]
 refine tz 2 rfl hHeld ?_
 try simp only [PT]
 refine tz 3 rfl hHeld ?_
 try simp only [PT]
 refine tz 4 rfl hHeld ?_
 try simp only [PT]
 refine take_call (i := 5) (f := ?_) (args := ?_) (v := ?_) rfl (by kernel_rfl) (by kernel_rfl) (by kernel_rfl) (fun _ _ _ h => h) (by rfl) hHeld ?_ (fun v hSv => ?_) ?_
 rotate_left 3
 focus (intro v hSv; go_simp; constructor <;> with_reducible rfl)
 focus (obtain ⟨c0, zs, hAv⟩ := hSv; exact count_calls _ v hAv)
 try simp only [PT]
 refine tz 6 rfl hHeld ?_
 try simp only [PT]
 refine tz 7 rfl hHeld ?_
 try simp only [PT]
 refine tz 8 rfl hHeld ?_
 try simp only [PT]
 refine tz 9 rfl hHeld ?_
 try simp only [PT]
 refine tz 10 rfl hHeld ?_
 try simp only [PT]
 refine tz 11 rfl hHeld ?_
 try simp only [PT]
 refine tz 12 rfl hHeld ?_
 try simp only [PT]
 refine take_no (i := 13) rfl (by kernel_rfl) (by kernel_rfl) (by kernel_rfl) (fun _ _ _ h => h) (by rfl) hHeld ?_
 try simp only [PT]
 refine take_no (i := 14) rfl (by kernel_rfl) (by kernel_rfl) (by kernel_rfl) (fun _ _ _ h => h) (by rfl) hHeld ?_
 try simp only [PT]
 refine take_no (i := 15) rfl (by kernel_rfl) (by kernel_rfl) (by kernel_rfl) (fun _ _ _ h => h) (by rfl) hHeld ?_
 try simp only [PT]
 refine tz 16 rfl hHeld ?_
 try simp only [PT]
 refine tz 17 rfl hHeld ?_
 try simp only [PT]
 refine rd 18 rfl fun K hK => ?_
 go_simp
 refine gen_app (K := K) (fun D hV_D => ?_)
 replace k0 := kK hV_D k0
 replace k1 := kK hV_D k1
 replace hB : Below w.heap.size w D := nB hV_D
 replace hA : AP D ap s O := nA hV_D
 have z_D := zS hV_D
 clear hV_D c_k0 f_k0 c_k1 f_k1
 obtain ⟨c_k0, f_k0, l_k0_D⟩ := f3 k0
 obtain ⟨c_k1, f_k1, l_k1_D⟩ := f3 k1
 refine hK.out _ _ ⟨(fun o => (c_k1 o).trans (v_k1 o).symm), (by omega), hA⟩ (fun hHeld => ?_)
 clear hK K
 try simp only [PT]
 refine rd 19 rfl fun K hK => ?_
 go_simp
 refine hK.out _ _ hHeld (fun hHeld => ?_)
 clear hK K
 try simp only [PT]
 refine wpAnyH_done (by kernel_rfl) ?_ _
 refine NoPanic.normal ?_
 go_wp2_with fail
 refine bodyPost_ret (v := .tuple #[(s.get h).val, .bool true]) (by simp [results, Tryz.results83, go_sem, Nd.val, *]) rfl ⟨rfl, hB⟩
set_option maxRecDepth 100000 in
set_option maxHeartbeats 800000 in
theorem bRow_t2 (h : Int) (h1 : s.has h = true) (h2 : 0 < s.cnt h) (h3 : (s.get h).tag = 2) (w : World) (hA : AP w ap s O) :
  Calls Tryz.prog 83 #[ap, .int .i64 h] w fun e w' => e = .returned (.tuple #[(s.get h).val, .bool true]) ∧ Below w.heap.size w w' := by
 unfold Nd.val
 have d1 : decide (0 < s.cnt h) = true := by simpa using h2
 have d2 : ((s.get h).tag == 1) = false := by simp [h3]
 have d3 : ((s.get h).tag == 2) = true := by simpa using h3
 clear h2 h3
 go_enter Tryz.func83, Tryz.ntmps83
 go_wp2_with fail
 refine calls_gen fun V hV_V => ?_
 have n_k0 := hbk hV_V (w.heap.size)
 simp (maxDischargeDepth := 9) only [BK, not_false_eq_true, reduceCtorEq] at n_k0
 have o_k0 : ¬ O (w.heap.size) := by first | exact hA.new (Nat.le_refl _) | exact hA.new (by omega)
 have hB : Below w.heap.size w V := nB hV_V
 replace hA : AP V ap s O := nA hV_V
 have z_V := zS hV_V
 clear hV_V
 have k0 := n_k0; clear n_k0
 obtain ⟨c_k0, f_k0, l_k0_V⟩ := f3 k0
 refine (aget_calls _ _ hA).mono ?_
 rintro e_w1 w1 ⟨rfl, hb_w1⟩
 replace hA := hA.below hb_w1
 replace hB := below_step hB hb_w1
 replace k0 := keep_blk hb_w1 k0
 have z_w1 := hb_w1.size
 clear hb_w1 c_k0 f_k0
 obtain ⟨c_k0, f_k0, l_k0_w1⟩ := f3 k0
 unfold Nd.val
 go_wp2_with fail
 refine wp_gen fun V1 hV_V1 => ?_
 have n_k1 := hbk hV_V1 (w1.heap.size)
 simp (maxDischargeDepth := 9) only [BK, not_false_eq_true, reduceCtorEq, k0, l_k0_V, l_k0_w1] at n_k1
 have o_k1 : ¬ O (w1.heap.size) := by first | exact hA.new (Nat.le_refl _) | exact hA.new (by omega)
 replace k0 := kK hV_V1 k0
 replace hB : Below w.heap.size w V1 := nB hV_V1
 replace hA : AP V1 ap s O := nA hV_V1
 have z_V1 := zS hV_V1
 clear hV_V1 c_k0 f_k0
 obtain ⟨c_k0, f_k0, l_k0_V1⟩ := f3 k0
 have k1 := n_k1; clear n_k1
 obtain ⟨c_k1, f_k1, l_k1_V1⟩ := f3 k1
 refine wp_region_noPanic ?_
 refine wp_region_held_drew (S := fun v => (∀ o, v.cell? ⟨w1.heap.size, o, none⟩ = V1.cell? ⟨w1.heap.size, o, none⟩) ∧ (V1.heap.size ≤ v.heap.size) ∧ AP v ap s O) (by kernel_rfl) ⟨(fun _ => rfl), (Nat.le_refl _), hA.drew⟩ (fun hHeld => ?_)
 generalize hV_V1d : V1.drew = V1d at hHeld ⊢
 have d_k0 := dK hV_V1d k0
 have d_k1 := dK hV_V1d k1
 clear c_k0 f_k0 c_k1 f_k1
 replace hA := hA.drew; rw [hV_V1d] at hA
 replace hB := hB.drew; rw [hV_V1d] at hB
 have z_V1d := dZ hV_V1d
 have v_k1 := cells_of k1
 clear k0; have k0 := d_k0; clear d_k0
 clear k1; have k1 := d_k1; clear d_k1
 obtain ⟨c_k0, f_k0, l_k0_V1d⟩ := f3 k0
 obtain ⟨c_k1, f_k1, l_k1_V1d⟩ := f3 k1
 clear hV_V1d
 refine tz 0 rfl hHeld ?_
 try simp only [PT]
 refine tz 1 rfl hHeld ?_
 try simp only [PT]
 refine tz 2 rfl hHeld ?_
 try simp only [PT]
 refine tz 3 rfl hHeld ?_
 try simp only [PT]
 refine tz 4 rfl hHeld ?_
 try simp only [PT]
 refine take_call (i := 5) (f := ?_) (args := ?_) (v := ?_) rfl (by kernel_rfl) (by kernel_rfl) (by kernel_rfl) (fun _ _ _ h => h) (by rfl) hHeld ?_ (fun v hSv => ?_) ?_
 rotate_left 3
 focus (intro v hSv; go_simp; constructor <;> with_reducible rfl)
 focus (obtain ⟨c0, zs, hAv⟩ := hSv; exact count_calls _ v hAv)
 try simp only [PT]
 refine tz 6 rfl hHeld ?_
 try simp only [PT]
 refine tz 7 rfl hHeld ?_
 try simp only [PT]
 refine tz 8 rfl hHeld ?_
 try simp only [PT]
 refine tz 9 rfl hHeld ?_
 try simp only [PT]
 refine tz 10 rfl hHeld ?_
 try simp only [PT]
 refine tz 11 rfl hHeld ?_
 try simp only [PT]
 refine tz 12 rfl hHeld ?_
 try simp only [PT]
 refine tz 13 rfl hHeld ?_
 try simp only [PT]
 refine tz 14 rfl hHeld ?_
 try simp only [PT]
 refine tz 15 rfl hHeld ?_
 try simp only [PT]
 refine tz 16 rfl hHeld ?_
 try simp only [PT]
 refine tz 17 rfl hHeld ?_
 try simp only [PT]
 refine rd 18 rfl fun K hK => ?_
 go_simp
 refine gen_app (K := K) (fun D hV_D => ?_)
 replace k0 := kK hV_D k0
 replace k1 := kK hV_D k1
 replace hB : Below w.heap.size w D := nB hV_D
 replace hA : AP D ap s O := nA hV_D
 have z_D := zS hV_D
 clear hV_D c_k0 f_k0 c_k1 f_k1
 obtain ⟨c_k0, f_k0, l_k0_D⟩ := f3 k0
 obtain ⟨c_k1, f_k1, l_k1_D⟩ := f3 k1
 refine hK.out _ _ ⟨(fun o => (c_k1 o).trans (v_k1 o).symm), (by omega), hA⟩ (fun hHeld => ?_)
 clear hK K
 try simp only [PT]
 refine rd 19 rfl fun K hK => ?_
 go_simp
 refine hK.out _ _ hHeld (fun hHeld => ?_)
 clear hK K
 try simp only [PT]
 refine wpAnyH_done (by kernel_rfl) ?_ _
 refine NoPanic.normal ?_
 go_wp2_with fail
 refine bodyPost_ret (v := .tuple #[(s.get h).val, .bool true]) (by simp [results, Tryz.results83, go_sem, Nd.val, *]) rfl ⟨rfl, hB⟩
set_option maxRecDepth 100000 in
set_option maxHeartbeats 800000 in
theorem bRow_t3 (h : Int) (h1 : s.has h = true) (h2 : 0 < s.cnt h) (h3 : (s.get h).tag ≠ 1) (h4 : (s.get h).tag ≠ 2) (w : World) (hA : AP w ap s O) :
  Calls Tryz.prog 83 #[ap, .int .i64 h] w fun e w' => e = .returned (.tuple #[(s.get h).val, .bool false]) ∧ Below w.heap.size w w' := by
 unfold Nd.val
 have d1 : decide (0 < s.cnt h) = true := by simpa using h2
 have d2 : ((s.get h).tag == 1) = false := by simpa using h3
 have d3 : ((s.get h).tag == 2) = false := by simpa using h4
 clear h2 h3 h4
 go_enter Tryz.func83, Tryz.ntmps83
 go_wp2_with fail
 refine calls_gen fun V hV_V => ?_
 have n_k0 := hbk hV_V (w.heap.size)
 simp (maxDischargeDepth := 9) only [BK, not_false_eq_true, reduceCtorEq] at n_k0
 have o_k0 : ¬ O (w.heap.size) := by first | exact hA.new (Nat.le_refl _) | exact hA.new (by omega)
 have hB : Below w.heap.size w V := nB hV_V
 replace hA : AP V ap s O := nA hV_V
 have z_V := zS hV_V
 clear hV_V
 have k0 := n_k0; clear n_k0
 obtain ⟨c_k0, f_k0, l_k0_V⟩ := f3 k0
 refine (aget_calls _ _ hA).mono ?_
 rintro e_w1 w1 ⟨rfl, hb_w1⟩
 replace hA := hA.below hb_w1
 replace hB := below_step hB hb_w1
 replace k0 := keep_blk hb_w1 k0
 have z_w1 := hb_w1.size
 clear hb_w1 c_k0 f_k0
 obtain ⟨c_k0, f_k0, l_k0_w1⟩ := f3 k0
 unfold Nd.val
 go_wp2_with fail
 refine wp_gen fun V1 hV_V1 => ?_
 have n_k1 := hbk hV_V1 (w1.heap.size)
 simp (maxDischargeDepth := 9) only [BK, not_false_eq_true, reduceCtorEq, k0, l_k0_V, l_k0_w1] at n_k1
 have o_k1 : ¬ O (w1.heap.size) := by first | exact hA.new (Nat.le_refl _) | exact hA.new (by omega)
 replace k0 := kK hV_V1 k0
 replace hB : Below w.heap.size w V1 := nB hV_V1
 replace hA : AP V1 ap s O := nA hV_V1
 have z_V1 := zS hV_V1
 clear hV_V1 c_k0 f_k0
 obtain ⟨c_k0, f_k0, l_k0_V1⟩ := f3 k0
 have k1 := n_k1; clear n_k1
 obtain ⟨c_k1, f_k1, l_k1_V1⟩ := f3 k1
 refine wp_region_noPanic ?_
 refine wp_region_held_drew (S := fun v => (∀ o, v.cell? ⟨w1.heap.size, o, none⟩ = V1.cell? ⟨w1.heap.size, o, none⟩) ∧ (V1.heap.size ≤ v.heap.size) ∧ AP v ap s O) (by kernel_rfl) ⟨(fun _ => rfl), (Nat.le_refl _), hA.drew⟩ (fun hHeld => ?_)
 generalize hV_V1d : V1.drew = V1d at hHeld ⊢
 have d_k0 := dK hV_V1d k0
 have d_k1 := dK hV_V1d k1
 clear c_k0 f_k0 c_k1 f_k1
 replace hA := hA.drew; rw [hV_V1d] at hA
 replace hB := hB.drew; rw [hV_V1d] at hB
 have z_V1d := dZ hV_V1d
 have v_k1 := cells_of k1
 clear k0; have k0 := d_k0; clear d_k0
 clear k1; have k1 := d_k1; clear d_k1
 obtain ⟨c_k0, f_k0, l_k0_V1d⟩ := f3 k0
 obtain ⟨c_k1, f_k1, l_k1_V1d⟩ := f3 k1
 clear hV_V1d
 refine tz 0 rfl hHeld ?_
 try simp only [PT]
 refine tz 1 rfl hHeld ?_
 try simp only [PT]
 refine tz 2 rfl hHeld ?_
 try simp only [PT]
 refine tz 3 rfl hHeld ?_
 try simp only [PT]
 refine tz 4 rfl hHeld ?_
 try simp only [PT]
 refine take_call (i := 5) (f := ?_) (args := ?_) (v := ?_) rfl (by kernel_rfl) (by kernel_rfl) (by kernel_rfl) (fun _ _ _ h => h) (by rfl) hHeld ?_ (fun v hSv => ?_) ?_
 rotate_left 3
 focus (intro v hSv; go_simp; constructor <;> with_reducible rfl)
 focus (obtain ⟨c0, zs, hAv⟩ := hSv; exact count_calls _ v hAv)
 try simp only [PT]
 refine tz 6 rfl hHeld ?_
 try simp only [PT]
 refine tz 7 rfl hHeld ?_
 try simp only [PT]
 refine tz 8 rfl hHeld ?_
 try simp only [PT]
 refine tz 9 rfl hHeld ?_
 try simp only [PT]
 refine tz 10 rfl hHeld ?_
 try simp only [PT]
 refine tz 11 rfl hHeld ?_
 try simp only [PT]
 refine tz 12 rfl hHeld ?_
 try simp only [PT]
 refine tz 13 rfl hHeld ?_
 try simp only [PT]
 refine tz 14 rfl hHeld ?_
 try simp only [PT]
 refine tz 15 rfl hHeld ?_
 try simp only [PT]
 refine tz 16 rfl hHeld ?_
 try simp only [PT]
 refine tz 17 rfl hHeld ?_
 try simp only [PT]
 refine rd 18 rfl fun K hK => ?_
 go_simp
 refine gen_app (K := K) (fun D hV_D => ?_)
 replace k0 := kK hV_D k0
 replace k1 := kK hV_D k1
 replace hB : Below w.heap.size w D := nB hV_D
 replace hA : AP D ap s O := nA hV_D
 have z_D := zS hV_D
 clear hV_D c_k0 f_k0 c_k1 f_k1
 obtain ⟨c_k0, f_k0, l_k0_D⟩ := f3 k0
 obtain ⟨c_k1, f_k1, l_k1_D⟩ := f3 k1
 refine hK.out _ _ ⟨(fun o => (c_k1 o).trans (v_k1 o).symm), (by omega), hA⟩ (fun hHeld => ?_)
 clear hK K
 try simp only [PT]
 refine rd 19 rfl fun K hK => ?_
 go_simp
 refine hK.out _ _ hHeld (fun hHeld => ?_)
 clear hK K
 try simp only [PT]
 refine wpAnyH_done (by kernel_rfl) ?_ _
 refine NoPanic.normal ?_
 go_wp2_with fail
 refine bodyPost_ret (v := .tuple #[(s.get h).val, .bool false]) (by simp [results, Tryz.results83, go_sem, Nd.val, *]) rfl ⟨rfl, hB⟩
theorem bRow_calls (h : Int) (w : World) (hA : AP w ap s O) :
  Calls Tryz.prog 83 #[ap, .int .i64 h] w fun e w' => e = .returned (.tuple #[(s.get h).val, .bool (bIs s h)]) ∧ Below w.heap.size w w' := by
 cases h1 : s.has h with
 | false => unfold bIs; rw [h1]; exact bRow_no h h1 w hA
 | true =>
  by_cases h2 : 0 < s.cnt h
  ·
   by_cases h3 : (s.get h).tag = 1
   ·
    have e : bIs s h = true := by unfold bIs; rw [h1]; simp [h2, h3]
    rw [e]; exact bRow_t1 h h1 h2 h3 w hA
   ·
    by_cases h4 : (s.get h).tag = 2
    ·
     have e : bIs s h = true := by unfold bIs; rw [h1]; simp [h2, h4]
     rw [e]; exact bRow_t2 h h1 h2 h4 w hA
    ·
     have e : bIs s h = false := by unfold bIs; rw [h1]; simp [h3, h4]
     rw [e]; exact bRow_t3 h h1 h2 h3 h4 w hA
  ·
   have e : bIs s h = false := by unfold bIs; rw [h1]; simp [h2]
   rw [e]; exact bRow_dead h h1 h2 w hA
set_option maxRecDepth 100000 in
set_option maxHeartbeats 800000 in
theorem lRow_no (h : Int) (h1 : s.has h = false) (w : World) (hA : AP w ap s O) :
  Calls Tryz.prog 86 #[ap, .int .i64 h] w fun e w' => e = .returned (.tuple #[(s.get h).val, .bool false]) ∧ Below w.heap.size w w' := by
 unfold Nd.val
 go_enter Tryz.func86, Tryz.ntmps86
 go_wp2_with fail
 refine calls_gen fun V hV_V => ?_
 have n_k0 := hbk hV_V (w.heap.size)
 simp (maxDischargeDepth := 9) only [BK, not_false_eq_true, reduceCtorEq] at n_k0
 have o_k0 : ¬ O (w.heap.size) := by first | exact hA.new (Nat.le_refl _) | exact hA.new (by omega)
 have hB : Below w.heap.size w V := nB hV_V
 replace hA : AP V ap s O := nA hV_V
 have z_V := zS hV_V
 clear hV_V
 have k0 := n_k0; clear n_k0
 obtain ⟨c_k0, f_k0, l_k0_V⟩ := f3 k0
 refine (aget_calls _ _ hA).mono ?_
 rintro e_w1 w1 ⟨rfl, hb_w1⟩
 replace hA := hA.below hb_w1
 replace hB := below_step hB hb_w1
 replace k0 := keep_blk hb_w1 k0
 have z_w1 := hb_w1.size
 clear hb_w1 c_k0 f_k0
 obtain ⟨c_k0, f_k0, l_k0_w1⟩ := f3 k0
 unfold Nd.val
 go_wp2_with fail
 refine wp_gen fun V1 hV_V1 => ?_
 have n_k1 := hbk hV_V1 (w1.heap.size)
 simp (maxDischargeDepth := 9) only [BK, not_false_eq_true, reduceCtorEq, k0, l_k0_V, l_k0_w1] at n_k1
 have o_k1 : ¬ O (w1.heap.size) := by first | exact hA.new (Nat.le_refl _) | exact hA.new (by omega)
 replace k0 := kK hV_V1 k0
 replace hB : Below w.heap.size w V1 := nB hV_V1
 replace hA : AP V1 ap s O := nA hV_V1
 have z_V1 := zS hV_V1
 clear hV_V1 c_k0 f_k0
 obtain ⟨c_k0, f_k0, l_k0_V1⟩ := f3 k0
 have k1 := n_k1; clear n_k1
 obtain ⟨c_k1, f_k1, l_k1_V1⟩ := f3 k1
 refine wp_region_noPanic ?_
 refine wp_region_held_drew (S := fun v => (∀ o, v.cell? ⟨w1.heap.size, o, none⟩ = V1.cell? ⟨w1.heap.size, o, none⟩) ∧ (V1.heap.size ≤ v.heap.size) ∧ AP v ap s O) (by kernel_rfl) ⟨(fun _ => rfl), (Nat.le_refl _), hA.drew⟩ (fun hHeld => ?_)
 generalize hV_V1d : V1.drew = V1d at hHeld ⊢
 have d_k0 := dK hV_V1d k0
 have d_k1 := dK hV_V1d k1
 clear c_k0 f_k0 c_k1 f_k1
 replace hA := hA.drew; rw [hV_V1d] at hA
 replace hB := hB.drew; rw [hV_V1d] at hB
 have z_V1d := dZ hV_V1d
 have v_k1 := cells_of k1
 clear k0; have k0 := d_k0; clear d_k0
 clear k1; have k1 := d_k1; clear d_k1
 obtain ⟨c_k0, f_k0, l_k0_V1d⟩ := f3 k0
 obtain ⟨c_k1, f_k1, l_k1_V1d⟩ := f3 k1
 clear hV_V1d
 refine tz 0 rfl hHeld ?_
 try simp only [PT]
 refine tz 1 rfl hHeld ?_
 try simp only [PT]
 refine tz 2 rfl hHeld ?_
 try simp only [PT]
 refine take_no (i := 3) rfl (by kernel_rfl) (by kernel_rfl) (by kernel_rfl) (fun _ _ _ h => h) (by rfl) hHeld ?_
 try simp only [PT]
 refine take_no (i := 4) rfl (by kernel_rfl) (by kernel_rfl) (by kernel_rfl) (fun _ _ _ h => h) (by rfl) hHeld ?_
 try simp only [PT]
 refine take_no (i := 5) rfl (by kernel_rfl) (by kernel_rfl) (by kernel_rfl) (fun _ _ _ h => h) (by rfl) hHeld ?_
 try simp only [PT]
 refine take_no (i := 6) rfl (by kernel_rfl) (by kernel_rfl) (by kernel_rfl) (fun _ _ _ h => h) (by rfl) hHeld ?_
 try simp only [PT]
 refine tz 7 rfl hHeld ?_
 try simp only [PT]
 refine tz 8 rfl hHeld ?_
 try simp only [PT]
 refine take_no (i := 9) rfl (by kernel_rfl) (by kernel_rfl) (by kernel_rfl) (fun _ _ _ h => h) (by rfl) hHeld ?_
 try simp only [PT]
 refine take_no (i := 10) rfl (by kernel_rfl) (by kernel_rfl) (by kernel_rfl) (fun _ _ _ h => h) (by rfl) hHeld ?_
 try simp only [PT]
 refine take_no (i := 11) rfl (by kernel_rfl) (by kernel_rfl) (by kernel_rfl) (fun _ _ _ h => h) (by rfl) hHeld ?_
 try simp only [PT]
 refine take_no (i := 12) rfl (by kernel_rfl) (by kernel_rfl) (by kernel_rfl) (fun _ _ _ h => h) (by rfl) hHeld ?_
 try simp only [PT]
 refine take_no (i := 13) rfl (by kernel_rfl) (by kernel_rfl) (by kernel_rfl) (fun _ _ _ h => h) (by rfl) hHeld ?_
 try simp only [PT]
 refine take_no (i := 14) rfl (by kernel_rfl) (by kernel_rfl) (by kernel_rfl) (fun _ _ _ h => h) (by rfl) hHeld ?_
 try simp only [PT]
 refine take_no (i := 15) rfl (by kernel_rfl) (by kernel_rfl) (by kernel_rfl) (fun _ _ _ h => h) (by rfl) hHeld ?_
 try simp only [PT]
 refine take_no (i := 16) rfl (by kernel_rfl) (by kernel_rfl) (by kernel_rfl) (fun _ _ _ h => h) (by rfl) hHeld ?_
 try simp only [PT]
 refine tz 17 rfl hHeld ?_
 try simp only [PT]
 refine rd 18 rfl fun K hK => ?_
 go_simp
 refine gen_app (K := K) (fun D hV_D => ?_)
 replace k0 := kK hV_D k0
 replace k1 := kK hV_D k1
 replace hB : Below w.heap.size w D := nB hV_D
 replace hA : AP D ap s O := nA hV_D
 have z_D := zS hV_D
 clear hV_D c_k0 f_k0 c_k1 f_k1
 obtain ⟨c_k0, f_k0, l_k0_D⟩ := f3 k0
 obtain ⟨c_k1, f_k1, l_k1_D⟩ := f3 k1
 refine hK.out _ _ ⟨(fun o => (c_k1 o).trans (v_k1 o).symm), (by omega), hA⟩ (fun hHeld => ?_)
 clear hK K
 try simp only [PT]
 refine rd 19 rfl fun K hK => ?_
 go_simp
 refine hK.out _ _ hHeld (fun hHeld => ?_)
 clear hK K
 try simp only [PT]
 refine wpAnyH_done (by kernel_rfl) ?_ _
 refine NoPanic.normal ?_
 go_wp2_with fail
 refine bodyPost_ret (v := .tuple #[(s.get h).val, .bool false]) (by simp [results, Tryz.results86, go_sem, Nd.val, *]) rfl ⟨rfl, hB⟩
set_option maxRecDepth 100000 in
set_option maxHeartbeats 800000 in
theorem lRow_dead (h : Int) (h1 : s.has h = true) (h2 : ¬ 0 < s.cnt h) (w : World) (hA : AP w ap s O) :
  Calls Tryz.prog 86 #[ap, .int .i64 h] w fun e w' => e = .returned (.tuple #[(s.get h).val, .bool false]) ∧ Below w.heap.size w w' := by
 unfold Nd.val
 have d1 : decide (0 < s.cnt h) = false := by simpa using h2
 clear h2
 go_enter Tryz.func86, Tryz.ntmps86
 go_wp2_with fail
 refine calls_gen fun V hV_V => ?_
 have n_k0 := hbk hV_V (w.heap.size)
 simp (maxDischargeDepth := 9) only [BK, not_false_eq_true, reduceCtorEq] at n_k0
 have o_k0 : ¬ O (w.heap.size) := by first | exact hA.new (Nat.le_refl _) | exact hA.new (by omega)
 have hB : Below w.heap.size w V := nB hV_V
 replace hA : AP V ap s O := nA hV_V
 have z_V := zS hV_V
 clear hV_V
 have k0 := n_k0; clear n_k0
 obtain ⟨c_k0, f_k0, l_k0_V⟩ := f3 k0
 refine (aget_calls _ _ hA).mono ?_
 rintro e_w1 w1 ⟨rfl, hb_w1⟩
 replace hA := hA.below hb_w1
 replace hB := below_step hB hb_w1
 replace k0 := keep_blk hb_w1 k0
 have z_w1 := hb_w1.size
 clear hb_w1 c_k0 f_k0
 obtain ⟨c_k0, f_k0, l_k0_w1⟩ := f3 k0
 unfold Nd.val
 go_wp2_with fail
 refine wp_gen fun V1 hV_V1 => ?_
 have n_k1 := hbk hV_V1 (w1.heap.size)
 simp (maxDischargeDepth := 9) only [BK, not_false_eq_true, reduceCtorEq, k0, l_k0_V, l_k0_w1] at n_k1
 have o_k1 : ¬ O (w1.heap.size) := by first | exact hA.new (Nat.le_refl _) | exact hA.new (by omega)
 replace k0 := kK hV_V1 k0
 replace hB : Below w.heap.size w V1 := nB hV_V1
 replace hA : AP V1 ap s O := nA hV_V1
 have z_V1 := zS hV_V1
 clear hV_V1 c_k0 f_k0
 obtain ⟨c_k0, f_k0, l_k0_V1⟩ := f3 k0
 have k1 := n_k1; clear n_k1
 obtain ⟨c_k1, f_k1, l_k1_V1⟩ := f3 k1
 refine wp_region_noPanic ?_
 refine wp_region_held_drew (S := fun v => (∀ o, v.cell? ⟨w1.heap.size, o, none⟩ = V1.cell? ⟨w1.heap.size, o, none⟩) ∧ (V1.heap.size ≤ v.heap.size) ∧ AP v ap s O) (by kernel_rfl) ⟨(fun _ => rfl), (Nat.le_refl _), hA.drew⟩ (fun hHeld => ?_)
 generalize hV_V1d : V1.drew = V1d at hHeld ⊢
 have d_k0 := dK hV_V1d k0
 have d_k1 := dK hV_V1d k1
 clear c_k0 f_k0 c_k1 f_k1
 replace hA := hA.drew; rw [hV_V1d] at hA
 replace hB := hB.drew; rw [hV_V1d] at hB
 have z_V1d := dZ hV_V1d
 have v_k1 := cells_of k1
 clear k0; have k0 := d_k0; clear d_k0
 clear k1; have k1 := d_k1; clear d_k1
 obtain ⟨c_k0, f_k0, l_k0_V1d⟩ := f3 k0
 obtain ⟨c_k1, f_k1, l_k1_V1d⟩ := f3 k1
 clear hV_V1d
 refine tz 0 rfl hHeld ?_
 try simp only [PT]
 refine tz 1 rfl hHeld ?_
 try simp only [PT]
 refine tz 2 rfl hHeld ?_
 try simp only [PT]
 refine tz 3 rfl hHeld ?_
 try simp only [PT]
 refine tz 4 rfl hHeld ?_
 try simp only [PT]
 refine take_call (i := 5) (f := ?_) (args := ?_) (v := ?_) rfl (by kernel_rfl) (by kernel_rfl) (by kernel_rfl) (fun _ _ _ h => h) (by rfl) hHeld ?_ (fun v hSv => ?_) ?_
 rotate_left 3
 focus (intro v hSv; go_simp; constructor <;> with_reducible rfl)
 focus (obtain ⟨c0, zs, hAv⟩ := hSv; exact count_calls _ v hAv)
 try simp only [PT]
 refine tz 6 rfl hHeld ?_
 try simp only [PT]
 refine tz 7 rfl hHeld ?_
 try simp only [PT]
 refine tz 8 rfl hHeld ?_
 try simp only [PT]
 refine take_no (i := 9) rfl (by kernel_rfl) (by kernel_rfl) (by kernel_rfl) (fun _ _ _ h => h) (by rfl) hHeld ?_
 try simp only [PT]
 refine take_no (i := 10) rfl (by kernel_rfl) (by kernel_rfl) (by kernel_rfl) (fun _ _ _ h => h) (by rfl) hHeld ?_
 try simp only [PT]
 refine take_no (i := 11) rfl (by kernel_rfl) (by kernel_rfl) (by kernel_rfl) (fun _ _ _ h => h) (by rfl) hHeld ?_
 try simp only [PT]
 refine take_no (i := 12) rfl (by kernel_rfl) (by kernel_rfl) (by kernel_rfl) (fun _ _ _ h => h) (by rfl) hHeld ?_
 try simp only [PT]
 refine take_no (i := 13) rfl (by kernel_rfl) (by kernel_rfl) (by kernel_rfl) (fun _ _ _ h => h) (by rfl) hHeld ?_
 try simp only [PT]
 refine take_no (i := 14) rfl (by kernel_rfl) (by kernel_rfl) (by kernel_rfl) (fun _ _ _ h => h) (by rfl) hHeld ?_
 try simp only [PT]
 refine take_no (i := 15) rfl (by kernel_rfl) (by kernel_rfl) (by kernel_rfl) (fun _ _ _ h => h) (by rfl) hHeld ?_
 try simp only [PT]
 refine take_no (i := 16) rfl (by kernel_rfl) (by kernel_rfl) (by kernel_rfl) (fun _ _ _ h => h) (by rfl) hHeld ?_
 try simp only [PT]
 refine tz 17 rfl hHeld ?_
 try simp only [PT]
 refine rd 18 rfl fun K hK => ?_
 go_simp
 refine gen_app (K := K) (fun D hV_D => ?_)
 replace k0 := kK hV_D k0
 replace k1 := kK hV_D k1
 replace hB : Below w.heap.size w D := nB hV_D
 replace hA : AP D ap s O := nA hV_D
 have z_D := zS hV_D
 clear hV_D c_k0 f_k0 c_k1 f_k1
 obtain ⟨c_k0, f_k0, l_k0_D⟩ := f3 k0
 obtain ⟨c_k1, f_k1, l_k1_D⟩ := f3 k1
 refine hK.out _ _ ⟨(fun o => (c_k1 o).trans (v_k1 o).symm), (by omega), hA⟩ (fun hHeld => ?_)
 clear hK K
 try simp only [PT]
 refine rd 19 rfl fun K hK => ?_
 go_simp
 refine hK.out _ _ hHeld (fun hHeld => ?_)
 clear hK K
 try simp only [PT]
 refine wpAnyH_done (by kernel_rfl) ?_ _
 refine NoPanic.normal ?_
 go_wp2_with fail
 refine bodyPost_ret (v := .tuple #[(s.get h).val, .bool false]) (by simp [results, Tryz.results86, go_sem, Nd.val, *]) rfl ⟨rfl, hB⟩
set_option maxRecDepth 100000 in
set_option maxHeartbeats 800000 in
theorem lRow_t1 (h : Int) (h1 : s.has h = true) (h2 : 0 < s.cnt h) (h3 : (s.get h).tag = 4) (w : World) (hA : AP w ap s O) :
  Calls Tryz.prog 86 #[ap, .int .i64 h] w fun e w' => e = .returned (.tuple #[(s.get h).val, .bool true]) ∧ Below w.heap.size w w' := by
 unfold Nd.val
 have d1 : decide (0 < s.cnt h) = true := by simpa using h2
 have d2 : ((s.get h).tag == 4) = true := by simpa using h3
 clear h2 h3
 go_enter Tryz.func86, Tryz.ntmps86
 go_wp2_with fail
 refine calls_gen fun V hV_V => ?_
 have n_k0 := hbk hV_V (w.heap.size)
 simp (maxDischargeDepth := 9) only [BK, not_false_eq_true, reduceCtorEq] at n_k0
 have o_k0 : ¬ O (w.heap.size) := by first | exact hA.new (Nat.le_refl _) | exact hA.new (by omega)
 have hB : Below w.heap.size w V := nB hV_V
 replace hA : AP V ap s O := nA hV_V
 have z_V := zS hV_V
 clear hV_V
 have k0 := n_k0; clear n_k0
 obtain ⟨c_k0, f_k0, l_k0_V⟩ := f3 k0
 refine (aget_calls _ _ hA).mono ?_
 rintro e_w1 w1 ⟨rfl, hb_w1⟩
 replace hA := hA.below hb_w1
 replace hB := below_step hB hb_w1
 replace k0 := keep_blk hb_w1 k0
 have z_w1 := hb_w1.size
 clear hb_w1 c_k0 f_k0
 obtain ⟨c_k0, f_k0, l_k0_w1⟩ := f3 k0
 unfold Nd.val
 go_wp2_with fail
 refine wp_gen fun V1 hV_V1 => ?_
 have n_k1 := hbk hV_V1 (w1.heap.size)
 simp (maxDischargeDepth := 9) only [BK, not_false_eq_true, reduceCtorEq, k0, l_k0_V, l_k0_w1] at n_k1
 have o_k1 : ¬ O (w1.heap.size) := by first | exact hA.new (Nat.le_refl _) | exact hA.new (by omega)
 replace k0 := kK hV_V1 k0
 replace hB : Below w.heap.size w V1 := nB hV_V1
 replace hA : AP V1 ap s O := nA hV_V1
 have z_V1 := zS hV_V1
 clear hV_V1 c_k0 f_k0
 obtain ⟨c_k0, f_k0, l_k0_V1⟩ := f3 k0
 have k1 := n_k1; clear n_k1
 obtain ⟨c_k1, f_k1, l_k1_V1⟩ := f3 k1
 refine wp_region_noPanic ?_
 refine wp_region_held_drew (S := fun v => (∀ o, v.cell? ⟨w1.heap.size, o, none⟩ = V1.cell? ⟨w1.heap.size, o, none⟩) ∧ (V1.heap.size ≤ v.heap.size) ∧ AP v ap s O) (by kernel_rfl) ⟨(fun _ => rfl), (Nat.le_refl _), hA.drew⟩ (fun hHeld => ?_)
 generalize hV_V1d : V1.drew = V1d at hHeld ⊢
 have d_k0 := dK hV_V1d k0
 have d_k1 := dK hV_V1d k1
 clear c_k0 f_k0 c_k1 f_k1
 replace hA := hA.drew; rw [hV_V1d] at hA
 replace hB := hB.drew; rw [hV_V1d] at hB
 have z_V1d := dZ hV_V1d
 have v_k1 := cells_of k1
 clear k0; have k0 := d_k0; clear d_k0
 clear k1; have k1 := d_k1; clear d_k1
 obtain ⟨c_k0, f_k0, l_k0_V1d⟩ := f3 k0
 obtain ⟨c_k1, f_k1, l_k1_V1d⟩ := f3 k1
 clear hV_V1d
 refine tz 0 rfl hHeld ?_
 try simp only [PT]
 refine tz 1 rfl hHeld ?_
 try simp only [PT]
 refine tz 2 rfl hHeld ?_
 try simp only [PT]
 refine tz 3 rfl hHeld ?_
 try simp only [PT]
 refine tz 4 rfl hHeld ?_
 try simp only [PT]
 refine take_call (i := 5) (f := ?_) (args := ?_) (v := ?_) rfl (by kernel_rfl) (by kernel_rfl) (by kernel_rfl) (fun _ _ _ h => h) (by rfl) hHeld ?_ (fun v hSv => ?_) ?_
 rotate_left 3
 focus (intro v hSv; go_simp; constructor <;> with_reducible rfl)
 focus (obtain ⟨c0, zs, hAv⟩ := hSv; exact count_calls _ v hAv)
 try simp only [PT]
 refine tz 6 rfl hHeld ?_
 try simp only [PT]
 refine tz 7 rfl hHeld ?_
 try simp only [PT]
 refine tz 8 rfl hHeld ?_
 try simp only [PT]
 refine tz 9 rfl hHeld ?_
 try simp only [PT]
 refine tz 10 rfl hHeld ?_
 try simp only [PT]
 refine tz 11 rfl hHeld ?_
 try simp only [PT]
 refine tz 12 rfl hHeld ?_
 try simp only [PT]
 refine take_no (i := 13) rfl (by kernel_rfl) (by kernel_rfl) (by kernel_rfl) (fun _ _ _ h => h) (by rfl) hHeld ?_
 try simp only [PT]
 refine take_no (i := 14) rfl (by kernel_rfl) (by kernel_rfl) (by kernel_rfl) (fun _ _ _ h => h) (by rfl) hHeld ?_
 try simp only [PT]
 refine take_no (i := 15) rfl (by kernel_rfl) (by kernel_rfl) (by kernel_rfl) (fun _ _ _ h => h) (by rfl) hHeld ?_
 try simp only [PT]
 refine tz 16 rfl hHeld ?_
 try simp only [PT]
 refine tz 17 rfl hHeld ?_
 try simp only [PT]
 refine rd 18 rfl fun K hK => ?_
 go_simp
 refine gen_app (K := K) (fun D hV_D => ?_)
 replace k0 := kK hV_D k0
 replace k1 := kK hV_D k1
 replace hB : Below w.heap.size w D := nB hV_D
 replace hA : AP D ap s O := nA hV_D
 have z_D := zS hV_D
 clear hV_D c_k0 f_k0 c_k1 f_k1
 obtain ⟨c_k0, f_k0, l_k0_D⟩ := f3 k0
 obtain ⟨c_k1, f_k1, l_k1_D⟩ := f3 k1
 refine hK.out _ _ ⟨(fun o => (c_k1 o).trans (v_k1 o).symm), (by omega), hA⟩ (fun hHeld => ?_)
 clear hK K
 try simp only [PT]
 refine rd 19 rfl fun K hK => ?_
 go_simp
 refine hK.out _ _ hHeld (fun hHeld => ?_)
 clear hK K
 try simp only [PT]
 refine wpAnyH_done (by kernel_rfl) ?_ _
 refine NoPanic.normal ?_
 go_wp2_with fail
 refine bodyPost_ret (v := .tuple #[(s.get h).val, .bool true]) (by simp [results, Tryz.results86, go_sem, Nd.val, *]) rfl ⟨rfl, hB⟩
set_option maxRecDepth 100000 in
set_option maxHeartbeats 800000 in
theorem lRow_t2 (h : Int) (h1 : s.has h = true) (h2 : 0 < s.cnt h) (h3 : (s.get h).tag = 5) (w : World) (hA : AP w ap s O) :
  Calls Tryz.prog 86 #[ap, .int .i64 h] w fun e w' => e = .returned (.tuple #[(s.get h).val, .bool true]) ∧ Below w.heap.size w w' := by
 unfold Nd.val
 have d1 : decide (0 < s.cnt h) = true := by simpa using h2
 have d2 : ((s.get h).tag == 4) = false := by simp [h3]
 have d3 : ((s.get h).tag == 5) = true := by simpa using h3
 clear h2 h3
 go_enter Tryz.func86, Tryz.ntmps86
 go_wp2_with fail
 refine calls_gen fun V hV_V => ?_
 have n_k0 := hbk hV_V (w.heap.size)
 simp (maxDischargeDepth := 9) only [BK, not_false_eq_true, reduceCtorEq] at n_k0
 have o_k0 : ¬ O (w.heap.size) := by first | exact hA.new (Nat.le_refl _) | exact hA.new (by omega)
 have hB : Below w.heap.size w V := nB hV_V
 replace hA : AP V ap s O := nA hV_V
 have z_V := zS hV_V
 clear hV_V
 have k0 := n_k0; clear n_k0
 obtain ⟨c_k0, f_k0, l_k0_V⟩ := f3 k0
 refine (aget_calls _ _ hA).mono ?_
 rintro e_w1 w1 ⟨rfl, hb_w1⟩
 replace hA := hA.below hb_w1
 replace hB := below_step hB hb_w1
 replace k0 := keep_blk hb_w1 k0
 have z_w1 := hb_w1.size
 clear hb_w1 c_k0 f_k0
 obtain ⟨c_k0, f_k0, l_k0_w1⟩ := f3 k0
 unfold Nd.val
 go_wp2_with fail
 refine wp_gen fun V1 hV_V1 => ?_
 have n_k1 := hbk hV_V1 (w1.heap.size)
 simp (maxDischargeDepth := 9) only [BK, not_false_eq_true, reduceCtorEq, k0, l_k0_V, l_k0_w1] at n_k1
 have o_k1 : ¬ O (w1.heap.size) := by first | exact hA.new (Nat.le_refl _) | exact hA.new (by omega)
 replace k0 := kK hV_V1 k0
 replace hB : Below w.heap.size w V1 := nB hV_V1
 replace hA : AP V1 ap s O := nA hV_V1
 have z_V1 := zS hV_V1
 clear hV_V1 c_k0 f_k0
 obtain ⟨c_k0, f_k0, l_k0_V1⟩ := f3 k0
 have k1 := n_k1; clear n_k1
 obtain ⟨c_k1, f_k1, l_k1_V1⟩ := f3 k1
 refine wp_region_noPanic ?_
 refine wp_region_held_drew (S := fun v => (∀ o, v.cell? ⟨w1.heap.size, o, none⟩ = V1.cell? ⟨w1.heap.size, o, none⟩) ∧ (V1.heap.size ≤ v.heap.size) ∧ AP v ap s O) (by kernel_rfl) ⟨(fun _ => rfl), (Nat.le_refl _), hA.drew⟩ (fun hHeld => ?_)
 generalize hV_V1d : V1.drew = V1d at hHeld ⊢
 have d_k0 := dK hV_V1d k0
 have d_k1 := dK hV_V1d k1
 clear c_k0 f_k0 c_k1 f_k1
 replace hA := hA.drew; rw [hV_V1d] at hA
 replace hB := hB.drew; rw [hV_V1d] at hB
 have z_V1d := dZ hV_V1d
 have v_k1 := cells_of k1
 clear k0; have k0 := d_k0; clear d_k0
 clear k1; have k1 := d_k1; clear d_k1
 obtain ⟨c_k0, f_k0, l_k0_V1d⟩ := f3 k0
 obtain ⟨c_k1, f_k1, l_k1_V1d⟩ := f3 k1
 clear hV_V1d
 refine tz 0 rfl hHeld ?_
 try simp only [PT]
 refine tz 1 rfl hHeld ?_
 try simp only [PT]
 refine tz 2 rfl hHeld ?_
 try simp only [PT]
 refine tz 3 rfl hHeld ?_
 try simp only [PT]
 refine tz 4 rfl hHeld ?_
 try simp only [PT]
 refine take_call (i := 5) (f := ?_) (args := ?_) (v := ?_) rfl (by kernel_rfl) (by kernel_rfl) (by kernel_rfl) (fun _ _ _ h => h) (by rfl) hHeld ?_ (fun v hSv => ?_) ?_
 rotate_left 3
 focus (intro v hSv; go_simp; constructor <;> with_reducible rfl)
 focus (obtain ⟨c0, zs, hAv⟩ := hSv; exact count_calls _ v hAv)
 try simp only [PT]
 refine tz 6 rfl hHeld ?_
 try simp only [PT]
 refine tz 7 rfl hHeld ?_
 try simp only [PT]
 refine tz 8 rfl hHeld ?_
 try simp only [PT]
 refine tz 9 rfl hHeld ?_
 try simp only [PT]
 refine tz 10 rfl hHeld ?_
 try simp only [PT]
 refine tz 11 rfl hHeld ?_
 try simp only [PT]
 refine tz 12 rfl hHeld ?_
 try simp only [PT]
 refine tz 13 rfl hHeld ?_
 try simp only [PT]
 refine tz 14 rfl hHeld ?_
 try simp only [PT]
 refine tz 15 rfl hHeld ?_
 try simp only [PT]
 refine tz 16 rfl hHeld ?_
 try simp only [PT]
 refine tz 17 rfl hHeld ?_
 try simp only [PT]
 refine rd 18 rfl fun K hK => ?_
 go_simp
 refine gen_app (K := K) (fun D hV_D => ?_)
 replace k0 := kK hV_D k0
 replace k1 := kK hV_D k1
 replace hB : Below w.heap.size w D := nB hV_D
 replace hA : AP D ap s O := nA hV_D
 have z_D := zS hV_D
 clear hV_D c_k0 f_k0 c_k1 f_k1
 obtain ⟨c_k0, f_k0, l_k0_D⟩ := f3 k0
 obtain ⟨c_k1, f_k1, l_k1_D⟩ := f3 k1
 refine hK.out _ _ ⟨(fun o => (c_k1 o).trans (v_k1 o).symm), (by omega), hA⟩ (fun hHeld => ?_)
 clear hK K
 try simp only [PT]
 refine rd 19 rfl fun K hK => ?_
 go_simp
 refine hK.out _ _ hHeld (fun hHeld => ?_)
 clear hK K
 try simp only [PT]
 refine wpAnyH_done (by kernel_rfl) ?_ _
 refine NoPanic.normal ?_
 go_wp2_with fail
 refine bodyPost_ret (v := .tuple #[(s.get h).val, .bool true]) (by simp [results, Tryz.results86, go_sem, Nd.val, *]) rfl ⟨rfl, hB⟩
set_option maxRecDepth 100000 in
set_option maxHeartbeats 800000 in
theorem lRow_t3 (h : Int) (h1 : s.has h = true) (h2 : 0 < s.cnt h) (h3 : (s.get h).tag ≠ 4) (h4 : (s.get h).tag ≠ 5) (w : World) (hA : AP w ap s O) :
  Calls Tryz.prog 86 #[ap, .int .i64 h] w fun e w' => e = .returned (.tuple #[(s.get h).val, .bool false]) ∧ Below w.heap.size w w' := by
 unfold Nd.val
 have d1 : decide (0 < s.cnt h) = true := by simpa using h2
 have d2 : ((s.get h).tag == 4) = false := by simpa using h3
 have d3 : ((s.get h).tag == 5) = false := by simpa using h4
 clear h2 h3 h4
 go_enter Tryz.func86, Tryz.ntmps86
 go_wp2_with fail
 refine calls_gen fun V hV_V => ?_
 have n_k0 := hbk hV_V (w.heap.size)
 simp (maxDischargeDepth := 9) only [BK, not_false_eq_true, reduceCtorEq] at n_k0
 have o_k0 : ¬ O (w.heap.size) := by first | exact hA.new (Nat.le_refl _) | exact hA.new (by omega)
 have hB : Below w.heap.size w V := nB hV_V
 replace hA : AP V ap s O := nA hV_V
 have z_V := zS hV_V
 clear hV_V
 have k0 := n_k0; clear n_k0
 obtain ⟨c_k0, f_k0, l_k0_V⟩ := f3 k0
 refine (aget_calls _ _ hA).mono ?_
 rintro e_w1 w1 ⟨rfl, hb_w1⟩
 replace hA := hA.below hb_w1
 replace hB := below_step hB hb_w1
 replace k0 := keep_blk hb_w1 k0
 have z_w1 := hb_w1.size
 clear hb_w1 c_k0 f_k0
 obtain ⟨c_k0, f_k0, l_k0_w1⟩ := f3 k0
 unfold Nd.val
 go_wp2_with fail
 refine wp_gen fun V1 hV_V1 => ?_
 have n_k1 := hbk hV_V1 (w1.heap.size)
 simp (maxDischargeDepth := 9) only [BK, not_false_eq_true, reduceCtorEq, k0, l_k0_V, l_k0_w1] at n_k1
 have o_k1 : ¬ O (w1.heap.size) := by first | exact hA.new (Nat.le_refl _) | exact hA.new (by omega)
 replace k0 := kK hV_V1 k0
 replace hB : Below w.heap.size w V1 := nB hV_V1
 replace hA : AP V1 ap s O := nA hV_V1
 have z_V1 := zS hV_V1
 clear hV_V1 c_k0 f_k0
 obtain ⟨c_k0, f_k0, l_k0_V1⟩ := f3 k0
 have k1 := n_k1; clear n_k1
 obtain ⟨c_k1, f_k1, l_k1_V1⟩ := f3 k1
 refine wp_region_noPanic ?_
 refine wp_region_held_drew (S := fun v => (∀ o, v.cell? ⟨w1.heap.size, o, none⟩ = V1.cell? ⟨w1.heap.size, o, none⟩) ∧ (V1.heap.size ≤ v.heap.size) ∧ AP v ap s O) (by kernel_rfl) ⟨(fun _ => rfl), (Nat.le_refl _), hA.drew⟩ (fun hHeld => ?_)
 generalize hV_V1d : V1.drew = V1d at hHeld ⊢
 have d_k0 := dK hV_V1d k0
 have d_k1 := dK hV_V1d k1
 clear c_k0 f_k0 c_k1 f_k1
 replace hA := hA.drew; rw [hV_V1d] at hA
 replace hB := hB.drew; rw [hV_V1d] at hB
 have z_V1d := dZ hV_V1d
 have v_k1 := cells_of k1
 clear k0; have k0 := d_k0; clear d_k0
 clear k1; have k1 := d_k1; clear d_k1
 obtain ⟨c_k0, f_k0, l_k0_V1d⟩ := f3 k0
 obtain ⟨c_k1, f_k1, l_k1_V1d⟩ := f3 k1
 clear hV_V1d
 refine tz 0 rfl hHeld ?_
 try simp only [PT]
 refine tz 1 rfl hHeld ?_
 try simp only [PT]
 refine tz 2 rfl hHeld ?_
 try simp only [PT]
 refine tz 3 rfl hHeld ?_
 try simp only [PT]
 refine tz 4 rfl hHeld ?_
 try simp only [PT]
 refine take_call (i := 5) (f := ?_) (args := ?_) (v := ?_) rfl (by kernel_rfl) (by kernel_rfl) (by kernel_rfl) (fun _ _ _ h => h) (by rfl) hHeld ?_ (fun v hSv => ?_) ?_
 rotate_left 3
 focus (intro v hSv; go_simp; constructor <;> with_reducible rfl)
 focus (obtain ⟨c0, zs, hAv⟩ := hSv; exact count_calls _ v hAv)
 try simp only [PT]
 refine tz 6 rfl hHeld ?_
 try simp only [PT]
 refine tz 7 rfl hHeld ?_
 try simp only [PT]
 refine tz 8 rfl hHeld ?_
 try simp only [PT]
 refine tz 9 rfl hHeld ?_
 try simp only [PT]
 refine tz 10 rfl hHeld ?_
 try simp only [PT]
 refine tz 11 rfl hHeld ?_
 try simp only [PT]
 refine tz 12 rfl hHeld ?_
 try simp only [PT]
 refine tz 13 rfl hHeld ?_
 try simp only [PT]
 refine tz 14 rfl hHeld ?_
 try simp only [PT]
 refine tz 15 rfl hHeld ?_
 try simp only [PT]
 refine tz 16 rfl hHeld ?_
 try simp only [PT]
 refine tz 17 rfl hHeld ?_
 try simp only [PT]
 refine rd 18 rfl fun K hK => ?_
 go_simp
 refine gen_app (K := K) (fun D hV_D => ?_)
 replace k0 := kK hV_D k0
 replace k1 := kK hV_D k1
 replace hB : Below w.heap.size w D := nB hV_D
 replace hA : AP D ap s O := nA hV_D
 have z_D := zS hV_D
 clear hV_D c_k0 f_k0 c_k1 f_k1
 obtain ⟨c_k0, f_k0, l_k0_D⟩ := f3 k0
 obtain ⟨c_k1, f_k1, l_k1_D⟩ := f3 k1
 refine hK.out _ _ ⟨(fun o => (c_k1 o).trans (v_k1 o).symm), (by omega), hA⟩ (fun hHeld => ?_)
 clear hK K
 try simp only [PT]
 refine rd 19 rfl fun K hK => ?_
 go_simp
 refine hK.out _ _ hHeld (fun hHeld => ?_)
 clear hK K
 try simp only [PT]
 refine wpAnyH_done (by kernel_rfl) ?_ _
 refine NoPanic.normal ?_
 go_wp2_with fail
 refine bodyPost_ret (v := .tuple #[(s.get h).val, .bool false]) (by simp [results, Tryz.results86, go_sem, Nd.val, *]) rfl ⟨rfl, hB⟩
theorem lRow_calls (h : Int) (w : World) (hA : AP w ap s O) :
  Calls Tryz.prog 86 #[ap, .int .i64 h] w fun e w' => e = .returned (.tuple #[(s.get h).val, .bool (lIs s h)]) ∧ Below w.heap.size w w' := by
 cases h1 : s.has h with
 | false => unfold lIs; rw [h1]; exact lRow_no h h1 w hA
 | true =>
  by_cases h2 : 0 < s.cnt h
  ·
   by_cases h3 : (s.get h).tag = 4
   ·
    have e : lIs s h = true := by unfold lIs; rw [h1]; simp [h2, h3]
    rw [e]; exact lRow_t1 h h1 h2 h3 w hA
   ·
    by_cases h4 : (s.get h).tag = 5
    ·
     have e : lIs s h = true := by unfold lIs; rw [h1]; simp [h2, h4]
     rw [e]; exact lRow_t2 h h1 h2 h4 w hA
    ·
     have e : lIs s h = false := by unfold lIs; rw [h1]; simp [h3, h4]
     rw [e]; exact lRow_t3 h h1 h2 h3 h4 w hA
  ·
   have e : lIs s h = false := by unfold lIs; rw [h1]; simp [h2]
   rw [e]; exact lRow_dead h h1 h2 w hA
set_option maxRecDepth 100000 in
set_option maxHeartbeats 800000 in
theorem wRow_no (h : Int) (h1 : s.has h = false) (w : World) (hA : AP w ap s O) :
  Calls Tryz.prog 126 #[ap, .int .i64 h] w fun e w' => e = .returned (.tuple #[(s.get h).val, .bool false]) ∧ Below w.heap.size w w' := by
 unfold Nd.val
 go_enter Tryz.func126, Tryz.ntmps126
 go_wp2_with fail
 refine calls_gen fun V hV_V => ?_
 have n_k0 := hbk hV_V (w.heap.size)
 simp (maxDischargeDepth := 9) only [BK, not_false_eq_true, reduceCtorEq] at n_k0
 have o_k0 : ¬ O (w.heap.size) := by first | exact hA.new (Nat.le_refl _) | exact hA.new (by omega)
 have hB : Below w.heap.size w V := nB hV_V
 replace hA : AP V ap s O := nA hV_V
 have z_V := zS hV_V
 clear hV_V
 have k0 := n_k0; clear n_k0
 obtain ⟨c_k0, f_k0, l_k0_V⟩ := f3 k0
 refine (aget_calls _ _ hA).mono ?_
 rintro e_w1 w1 ⟨rfl, hb_w1⟩
 replace hA := hA.below hb_w1
 replace hB := below_step hB hb_w1
 replace k0 := keep_blk hb_w1 k0
 have z_w1 := hb_w1.size
 clear hb_w1 c_k0 f_k0
 obtain ⟨c_k0, f_k0, l_k0_w1⟩ := f3 k0
 unfold Nd.val
 go_wp2_with fail
 refine wp_gen fun V1 hV_V1 => ?_
 have n_k1 := hbk hV_V1 (w1.heap.size)
 simp (maxDischargeDepth := 9) only [BK, not_false_eq_true, reduceCtorEq, k0, l_k0_V, l_k0_w1] at n_k1
 have o_k1 : ¬ O (w1.heap.size) := by first | exact hA.new (Nat.le_refl _) | exact hA.new (by omega)
 replace k0 := kK hV_V1 k0
 replace hB : Below w.heap.size w V1 := nB hV_V1
 replace hA : AP V1 ap s O := nA hV_V1
 have z_V1 := zS hV_V1
 clear hV_V1 c_k0 f_k0
 obtain ⟨c_k0, f_k0, l_k0_V1⟩ := f3 k0
 have k1 := n_k1; clear n_k1
 obtain ⟨c_k1, f_k1, l_k1_V1⟩ := f3 k1
 refine wp_region_noPanic ?_
 refine wp_region_held_drew (S := fun v => (∀ o, v.cell? ⟨w1.heap.size, o, none⟩ = V1.cell? ⟨w1.heap.size, o, none⟩) ∧ (V1.heap.size ≤ v.heap.size) ∧ AP v ap s O) (by kernel_rfl) ⟨(fun _ => rfl), (Nat.le_refl _), hA.drew⟩ (fun hHeld => ?_)
 generalize hV_V1d : V1.drew = V1d at hHeld ⊢
 have d_k0 := dK hV_V1d k0
 have d_k1 := dK hV_V1d k1
 clear c_k0 f_k0 c_k1 f_k1
 replace hA := hA.drew; rw [hV_V1d] at hA
 replace hB := hB.drew; rw [hV_V1d] at hB
 have z_V1d := dZ hV_V1d
 have v_k1 := cells_of k1
 clear k0; have k0 := d_k0; clear d_k0
 clear k1; have k1 := d_k1; clear d_k1
 obtain ⟨c_k0, f_k0, l_k0_V1d⟩ := f3 k0
 obtain ⟨c_k1, f_k1, l_k1_V1d⟩ := f3 k1
 clear hV_V1d
 refine tz 0 rfl hHeld ?_
 try simp only [PT]
 refine tz 1 rfl hHeld ?_
 try simp only [PT]
 refine tz 2 rfl hHeld ?_
 try simp only [PT]
 refine take_no (i := 3) rfl (by kernel_rfl) (by kernel_rfl) (by kernel_rfl) (fun _ _ _ h => h) (by rfl) hHeld ?_
 try simp only [PT]
 refine take_no (i := 4) rfl (by kernel_rfl) (by kernel_rfl) (by kernel_rfl) (fun _ _ _ h => h) (by rfl) hHeld ?_
 try simp only [PT]
 refine take_no (i := 5) rfl (by kernel_rfl) (by kernel_rfl) (by kernel_rfl) (fun _ _ _ h => h) (by rfl) hHeld ?_
 try simp only [PT]
 refine take_no (i := 6) rfl (by kernel_rfl) (by kernel_rfl) (by kernel_rfl) (fun _ _ _ h => h) (by rfl) hHeld ?_
 try simp only [PT]
 refine tz 7 rfl hHeld ?_
 try simp only [PT]
 refine tz 8 rfl hHeld ?_
 try simp only [PT]
 refine take_no (i := 9) rfl (by kernel_rfl) (by kernel_rfl) (by kernel_rfl) (fun _ _ _ h => h) (by rfl) hHeld ?_
 try simp only [PT]
 refine take_no (i := 10) rfl (by kernel_rfl) (by kernel_rfl) (by kernel_rfl) (fun _ _ _ h => h) (by rfl) hHeld ?_
 try simp only [PT]
 refine take_no (i := 11) rfl (by kernel_rfl) (by kernel_rfl) (by kernel_rfl) (fun _ _ _ h => h) (by rfl) hHeld ?_
 try simp only [PT]
 refine tz 12 rfl hHeld ?_
 try simp only [PT]
 refine rd 13 rfl fun K hK => ?_
 go_simp
 refine gen_app (K := K) (fun D hV_D => ?_)
 replace k0 := kK hV_D k0
 replace k1 := kK hV_D k1
 replace hB : Below w.heap.size w D := nB hV_D
 replace hA : AP D ap s O := nA hV_D
 have z_D := zS hV_D
 clear hV_D c_k0 f_k0 c_k1 f_k1
 obtain ⟨c_k0, f_k0, l_k0_D⟩ := f3 k0
 obtain ⟨c_k1, f_k1, l_k1_D⟩ := f3 k1
 refine hK.out _ _ ⟨(fun o => (c_k1 o).trans (v_k1 o).symm), (by omega), hA⟩ (fun hHeld => ?_)
 clear hK K
 try simp only [PT]
 refine rd 14 rfl fun K hK => ?_
 go_simp
 refine hK.out _ _ hHeld (fun hHeld => ?_)
 clear hK K
 try simp only [PT]
 refine wpAnyH_done (by kernel_rfl) ?_ _
 refine NoPanic.normal ?_
 go_wp2_with fail
 refine bodyPost_ret (v := .tuple #[(s.get h).val, .bool false]) (by simp [results, Tryz.results126, go_sem, Nd.val, *]) rfl ⟨rfl, hB⟩
set_option maxRecDepth 100000 in
set_option maxHeartbeats 800000 in
theorem wRow_dead (h : Int) (h1 : s.has h = true) (h2 : ¬ 0 < s.cnt h) (w : World) (hA : AP w ap s O) :
  Calls Tryz.prog 126 #[ap, .int .i64 h] w fun e w' => e = .returned (.tuple #[(s.get h).val, .bool false]) ∧ Below w.heap.size w w' := by
 unfold Nd.val
 have d1 : decide (0 < s.cnt h) = false := by simpa using h2
 clear h2
 go_enter Tryz.func126, Tryz.ntmps126
 go_wp2_with fail
 refine calls_gen fun V hV_V => ?_
 have n_k0 := hbk hV_V (w.heap.size)
 simp (maxDischargeDepth := 9) only [BK, not_false_eq_true, reduceCtorEq] at n_k0
 have o_k0 : ¬ O (w.heap.size) := by first | exact hA.new (Nat.le_refl _) | exact hA.new (by omega)
 have hB : Below w.heap.size w V := nB hV_V
 replace hA : AP V ap s O := nA hV_V
 have z_V := zS hV_V
 clear hV_V
 have k0 := n_k0; clear n_k0
 obtain ⟨c_k0, f_k0, l_k0_V⟩ := f3 k0
 refine (aget_calls _ _ hA).mono ?_
 rintro e_w1 w1 ⟨rfl, hb_w1⟩
 replace hA := hA.below hb_w1
 replace hB := below_step hB hb_w1
 replace k0 := keep_blk hb_w1 k0
 have z_w1 := hb_w1.size
 clear hb_w1 c_k0 f_k0
 obtain ⟨c_k0, f_k0, l_k0_w1⟩ := f3 k0
 unfold Nd.val
 go_wp2_with fail
 refine wp_gen fun V1 hV_V1 => ?_
 have n_k1 := hbk hV_V1 (w1.heap.size)
 simp (maxDischargeDepth := 9) only [BK, not_false_eq_true, reduceCtorEq, k0, l_k0_V, l_k0_w1] at n_k1
 have o_k1 : ¬ O (w1.heap.size) := by first | exact hA.new (Nat.le_refl _) | exact hA.new (by omega)
 replace k0 := kK hV_V1 k0
 replace hB : Below w.heap.size w V1 := nB hV_V1
 replace hA : AP V1 ap s O := nA hV_V1
 have z_V1 := zS hV_V1
 clear hV_V1 c_k0 f_k0
 obtain ⟨c_k0, f_k0, l_k0_V1⟩ := f3 k0
 have k1 := n_k1; clear n_k1
 obtain ⟨c_k1, f_k1, l_k1_V1⟩ := f3 k1
 refine wp_region_noPanic ?_
 refine wp_region_held_drew (S := fun v => (∀ o, v.cell? ⟨w1.heap.size, o, none⟩ = V1.cell? ⟨w1.heap.size, o, none⟩) ∧ (V1.heap.size ≤ v.heap.size) ∧ AP v ap s O) (by kernel_rfl) ⟨(fun _ => rfl), (Nat.le_refl _), hA.drew⟩ (fun hHeld => ?_)
 generalize hV_V1d : V1.drew = V1d at hHeld ⊢
 have d_k0 := dK hV_V1d k0
 have d_k1 := dK hV_V1d k1
 clear c_k0 f_k0 c_k1 f_k1
 replace hA := hA.drew; rw [hV_V1d] at hA
 replace hB := hB.drew; rw [hV_V1d] at hB
 have z_V1d := dZ hV_V1d
 have v_k1 := cells_of k1
 clear k0; have k0 := d_k0; clear d_k0
 clear k1; have k1 := d_k1; clear d_k1
 obtain ⟨c_k0, f_k0, l_k0_V1d⟩ := f3 k0
 obtain ⟨c_k1, f_k1, l_k1_V1d⟩ := f3 k1
 clear hV_V1d
 refine tz 0 rfl hHeld ?_
 try simp only [PT]
 refine tz 1 rfl hHeld ?_
 try simp only [PT]
 refine tz 2 rfl hHeld ?_
 try simp only [PT]
 refine tz 3 rfl hHeld ?_
 try simp only [PT]
 refine tz 4 rfl hHeld ?_
 try simp only [PT]
 refine take_call (i := 5) (f := ?_) (args := ?_) (v := ?_) rfl (by kernel_rfl) (by kernel_rfl) (by kernel_rfl) (fun _ _ _ h => h) (by rfl) hHeld ?_ (fun v hSv => ?_) ?_
 rotate_left 3
 focus (intro v hSv; go_simp; constructor <;> with_reducible rfl)
 focus (obtain ⟨c0, zs, hAv⟩ := hSv; exact count_calls _ v hAv)
 try simp only [PT]
 refine tz 6 rfl hHeld ?_
 try simp only [PT]
 refine tz 7 rfl hHeld ?_
 try simp only [PT]
 refine tz 8 rfl hHeld ?_
 try simp only [PT]
 refine take_no (i := 9) rfl (by kernel_rfl) (by kernel_rfl) (by kernel_rfl) (fun _ _ _ h => h) (by rfl) hHeld ?_
 try simp only [PT]
 refine take_no (i := 10) rfl (by kernel_rfl) (by kernel_rfl) (by kernel_rfl) (fun _ _ _ h => h) (by rfl) hHeld ?_
 try simp only [PT]
 refine take_no (i := 11) rfl (by kernel_rfl) (by kernel_rfl) (by kernel_rfl) (fun _ _ _ h => h) (by rfl) hHeld ?_
 try simp only [PT]
 refine tz 12 rfl hHeld ?_
 try simp only [PT]
 refine rd 13 rfl fun K hK => ?_
 go_simp
 refine gen_app (K := K) (fun D hV_D => ?_)
 replace k0 := kK hV_D k0
 replace k1 := kK hV_D k1
 replace hB : Below w.heap.size w D := nB hV_D
 replace hA : AP D ap s O := nA hV_D
 have z_D := zS hV_D
 clear hV_D c_k0 f_k0 c_k1 f_k1
 obtain ⟨c_k0, f_k0, l_k0_D⟩ := f3 k0
 obtain ⟨c_k1, f_k1, l_k1_D⟩ := f3 k1
 refine hK.out _ _ ⟨(fun o => (c_k1 o).trans (v_k1 o).symm), (by omega), hA⟩ (fun hHeld => ?_)
 clear hK K
 try simp only [PT]
 refine rd 14 rfl fun K hK => ?_
 go_simp
 refine hK.out _ _ hHeld (fun hHeld => ?_)
 clear hK K
 try simp only [PT]
 refine wpAnyH_done (by kernel_rfl) ?_ _
 refine NoPanic.normal ?_
 go_wp2_with fail
 refine bodyPost_ret (v := .tuple #[(s.get h).val, .bool false]) (by simp [results, Tryz.results126, go_sem, Nd.val, *]) rfl ⟨rfl, hB⟩
set_option maxRecDepth 100000 in
set_option maxHeartbeats 800000 in
theorem wRow_t1 (h : Int) (h1 : s.has h = true) (h2 : 0 < s.cnt h) (h3 : (s.get h).tag = 3) (w : World) (hA : AP w ap s O) :
  Calls Tryz.prog 126 #[ap, .int .i64 h] w fun e w' => e = .returned (.tuple #[(s.get h).val, .bool true]) ∧ Below w.heap.size w w' := by
 unfold Nd.val
 have d1 : decide (0 < s.cnt h) = true := by simpa using h2
 have d2 : ((s.get h).tag == 3) = true := by simpa using h3
 clear h2 h3
 go_enter Tryz.func126, Tryz.ntmps126
 go_wp2_with fail
 refine calls_gen fun V hV_V => ?_
 have n_k0 := hbk hV_V (w.heap.size)
 simp (maxDischargeDepth := 9) only [BK, not_false_eq_true, reduceCtorEq] at n_k0
 have o_k0 : ¬ O (w.heap.size) := by first | exact hA.new (Nat.le_refl _) | exact hA.new (by omega)
 have hB : Below w.heap.size w V := nB hV_V
 replace hA : AP V ap s O := nA hV_V
 have z_V := zS hV_V
 clear hV_V
 have k0 := n_k0; clear n_k0
 obtain ⟨c_k0, f_k0, l_k0_V⟩ := f3 k0
 refine (aget_calls _ _ hA).mono ?_
 rintro e_w1 w1 ⟨rfl, hb_w1⟩
 replace hA := hA.below hb_w1
 replace hB := below_step hB hb_w1
 replace k0 := keep_blk hb_w1 k0
 have z_w1 := hb_w1.size
 clear hb_w1 c_k0 f_k0
 obtain ⟨c_k0, f_k0, l_k0_w1⟩ := f3 k0
 unfold Nd.val
 go_wp2_with fail
 refine wp_gen fun V1 hV_V1 => ?_
 have n_k1 := hbk hV_V1 (w1.heap.size)
 simp (maxDischargeDepth := 9) only [BK, not_false_eq_true, reduceCtorEq, k0, l_k0_V, l_k0_w1] at n_k1
 have o_k1 : ¬ O (w1.heap.size) := by first | exact hA.new (Nat.le_refl _) | exact hA.new (by omega)
 replace k0 := kK hV_V1 k0
 replace hB : Below w.heap.size w V1 := nB hV_V1
 replace hA : AP V1 ap s O := nA hV_V1
 have z_V1 := zS hV_V1
 clear hV_V1 c_k0 f_k0
 obtain ⟨c_k0, f_k0, l_k0_V1⟩ := f3 k0
 have k1 := n_k1; clear n_k1
 obtain ⟨c_k1, f_k1, l_k1_V1⟩ := f3 k1
 refine wp_region_noPanic ?_
 refine wp_region_held_drew (S := fun v => (∀ o, v.cell? ⟨w1.heap.size, o, none⟩ = V1.cell? ⟨w1.heap.size, o, none⟩) ∧ (V1.heap.size ≤ v.heap.size) ∧ AP v ap s O) (by kernel_rfl) ⟨(fun _ => rfl), (Nat.le_refl _), hA.drew⟩ (fun hHeld => ?_)
 generalize hV_V1d : V1.drew = V1d at hHeld ⊢
 have d_k0 := dK hV_V1d k0
 have d_k1 := dK hV_V1d k1
 clear c_k0 f_k0 c_k1 f_k1
 replace hA := hA.drew; rw [hV_V1d] at hA
 replace hB := hB.drew; rw [hV_V1d] at hB
 have z_V1d := dZ hV_V1d
 have v_k1 := cells_of k1
 clear k0; have k0 := d_k0; clear d_k0
 clear k1; have k1 := d_k1; clear d_k1
 obtain ⟨c_k0, f_k0, l_k0_V1d⟩ := f3 k0
 obtain ⟨c_k1, f_k1, l_k1_V1d⟩ := f3 k1
 clear hV_V1d
 refine tz 0 rfl hHeld ?_
 try simp only [PT]
 refine tz 1 rfl hHeld ?_
 try simp only [PT]
 refine tz 2 rfl hHeld ?_
 try simp only [PT]
 refine tz 3 rfl hHeld ?_
 try simp only [PT]
 refine tz 4 rfl hHeld ?_
 try simp only [PT]
 refine take_call (i := 5) (f := ?_) (args := ?_) (v := ?_) rfl (by kernel_rfl) (by kernel_rfl) (by kernel_rfl) (fun _ _ _ h => h) (by rfl) hHeld ?_ (fun v hSv => ?_) ?_
 rotate_left 3
 focus (intro v hSv; go_simp; constructor <;> with_reducible rfl)
 focus (obtain ⟨c0, zs, hAv⟩ := hSv; exact count_calls _ v hAv)
 try simp only [PT]
 refine tz 6 rfl hHeld ?_
 try simp only [PT]
 refine tz 7 rfl hHeld ?_
 try simp only [PT]
 refine tz 8 rfl hHeld ?_
 try simp only [PT]
 refine tz 9 rfl hHeld ?_
 try simp only [PT]
 refine tz 10 rfl hHeld ?_
 try simp only [PT]
 refine tz 11 rfl hHeld ?_
 try simp only [PT]
 refine tz 12 rfl hHeld ?_
 try simp only [PT]
 refine rd 13 rfl fun K hK => ?_
 go_simp
 refine gen_app (K := K) (fun D hV_D => ?_)
 replace k0 := kK hV_D k0
 replace k1 := kK hV_D k1
 replace hB : Below w.heap.size w D := nB hV_D
 replace hA : AP D ap s O := nA hV_D
 have z_D := zS hV_D
 clear hV_D c_k0 f_k0 c_k1 f_k1
 obtain ⟨c_k0, f_k0, l_k0_D⟩ := f3 k0
 obtain ⟨c_k1, f_k1, l_k1_D⟩ := f3 k1
 refine hK.out _ _ ⟨(fun o => (c_k1 o).trans (v_k1 o).symm), (by omega), hA⟩ (fun hHeld => ?_)
 clear hK K
 try simp only [PT]
 refine rd 14 rfl fun K hK => ?_
 go_simp
 refine hK.out _ _ hHeld (fun hHeld => ?_)
 clear hK K
 try simp only [PT]
 refine wpAnyH_done (by kernel_rfl) ?_ _
 refine NoPanic.normal ?_
 go_wp2_with fail
 refine bodyPost_ret (v := .tuple #[(s.get h).val, .bool true]) (by simp [results, Tryz.results126, go_sem, Nd.val, *]) rfl ⟨rfl, hB⟩
set_option maxRecDepth 100000 in
set_option maxHeartbeats 800000 in
theorem wRow_t3 (h : Int) (h1 : s.has h = true) (h2 : 0 < s.cnt h) (h3 : (s.get h).tag ≠ 3) (w : World) (hA : AP w ap s O) :
  Calls Tryz.prog 126 #[ap, .int .i64 h] w fun e w' => e = .returned (.tuple #[(s.get h).val, .bool false]) ∧ Below w.heap.size w w' := by
 unfold Nd.val
 have d1 : decide (0 < s.cnt h) = true := by simpa using h2
 have d2 : ((s.get h).tag == 3) = false := by simpa using h3
 clear h2 h3
 go_enter Tryz.func126, Tryz.ntmps126
 go_wp2_with fail
 refine calls_gen fun V hV_V => ?_
 have n_k0 := hbk hV_V (w.heap.size)
 simp (maxDischargeDepth := 9) only [BK, not_false_eq_true, reduceCtorEq] at n_k0
 have o_k0 : ¬ O (w.heap.size) := by first | exact hA.new (Nat.le_refl _) | exact hA.new (by omega)
 have hB : Below w.heap.size w V := nB hV_V
 replace hA : AP V ap s O := nA hV_V
 have z_V := zS hV_V
 clear hV_V
 have k0 := n_k0; clear n_k0
 obtain ⟨c_k0, f_k0, l_k0_V⟩ := f3 k0
 refine (aget_calls _ _ hA).mono ?_
 rintro e_w1 w1 ⟨rfl, hb_w1⟩
 replace hA := hA.below hb_w1
 replace hB := below_step hB hb_w1
 replace k0 := keep_blk hb_w1 k0
 have z_w1 := hb_w1.size
 clear hb_w1 c_k0 f_k0
 obtain ⟨c_k0, f_k0, l_k0_w1⟩ := f3 k0
 unfold Nd.val
 go_wp2_with fail
 refine wp_gen fun V1 hV_V1 => ?_
 have n_k1 := hbk hV_V1 (w1.heap.size)
 simp (maxDischargeDepth := 9) only [BK, not_false_eq_true, reduceCtorEq, k0, l_k0_V, l_k0_w1] at n_k1
 have o_k1 : ¬ O (w1.heap.size) := by first | exact hA.new (Nat.le_refl _) | exact hA.new (by omega)
 replace k0 := kK hV_V1 k0
 replace hB : Below w.heap.size w V1 := nB hV_V1
 replace hA : AP V1 ap s O := nA hV_V1
 have z_V1 := zS hV_V1
 clear hV_V1 c_k0 f_k0
 obtain ⟨c_k0, f_k0, l_k0_V1⟩ := f3 k0
 have k1 := n_k1; clear n_k1
 obtain ⟨c_k1, f_k1, l_k1_V1⟩ := f3 k1
 refine wp_region_noPanic ?_
 refine wp_region_held_drew (S := fun v => (∀ o, v.cell? ⟨w1.heap.size, o, none⟩ = V1.cell? ⟨w1.heap.size, o, none⟩) ∧ (V1.heap.size ≤ v.heap.size) ∧ AP v ap s O) (by kernel_rfl) ⟨(fun _ => rfl), (Nat.le_refl _), hA.drew⟩ (fun hHeld => ?_)
 generalize hV_V1d : V1.drew = V1d at hHeld ⊢
 have d_k0 := dK hV_V1d k0
 have d_k1 := dK hV_V1d k1
 clear c_k0 f_k0 c_k1 f_k1
 replace hA := hA.drew; rw [hV_V1d] at hA
 replace hB := hB.drew; rw [hV_V1d] at hB
 have z_V1d := dZ hV_V1d
 have v_k1 := cells_of k1
 clear k0; have k0 := d_k0; clear d_k0
 clear k1; have k1 := d_k1; clear d_k1
 obtain ⟨c_k0, f_k0, l_k0_V1d⟩ := f3 k0
 obtain ⟨c_k1, f_k1, l_k1_V1d⟩ := f3 k1
 clear hV_V1d
 refine tz 0 rfl hHeld ?_
 try simp only [PT]
 refine tz 1 rfl hHeld ?_
 try simp only [PT]
 refine tz 2 rfl hHeld ?_
 try simp only [PT]
 refine tz 3 rfl hHeld ?_
 try simp only [PT]
 refine tz 4 rfl hHeld ?_
 try simp only [PT]
 refine take_call (i := 5) (f := ?_) (args := ?_) (v := ?_) rfl (by kernel_rfl) (by kernel_rfl) (by kernel_rfl) (fun _ _ _ h => h) (by rfl) hHeld ?_ (fun v hSv => ?_) ?_
 rotate_left 3
 focus (intro v hSv; go_simp; constructor <;> with_reducible rfl)
 focus (obtain ⟨c0, zs, hAv⟩ := hSv; exact count_calls _ v hAv)
 try simp only [PT]
 refine tz 6 rfl hHeld ?_
 try simp only [PT]
 refine tz 7 rfl hHeld ?_
 try simp only [PT]
 refine tz 8 rfl hHeld ?_
 try simp only [PT]
 refine tz 9 rfl hHeld ?_
 try simp only [PT]
 refine tz 10 rfl hHeld ?_
 try simp only [PT]
 refine tz 11 rfl hHeld ?_
 try simp only [PT]
 refine tz 12 rfl hHeld ?_
 try simp only [PT]
 refine rd 13 rfl fun K hK => ?_
 go_simp
 refine gen_app (K := K) (fun D hV_D => ?_)
 replace k0 := kK hV_D k0
 replace k1 := kK hV_D k1
 replace hB : Below w.heap.size w D := nB hV_D
 replace hA : AP D ap s O := nA hV_D
 have z_D := zS hV_D
 clear hV_D c_k0 f_k0 c_k1 f_k1
 obtain ⟨c_k0, f_k0, l_k0_D⟩ := f3 k0
 obtain ⟨c_k1, f_k1, l_k1_D⟩ := f3 k1
 refine hK.out _ _ ⟨(fun o => (c_k1 o).trans (v_k1 o).symm), (by omega), hA⟩ (fun hHeld => ?_)
 clear hK K
 try simp only [PT]
 refine rd 14 rfl fun K hK => ?_
 go_simp
 refine hK.out _ _ hHeld (fun hHeld => ?_)
 clear hK K
 try simp only [PT]
 refine wpAnyH_done (by kernel_rfl) ?_ _
 refine NoPanic.normal ?_
 go_wp2_with fail
 refine bodyPost_ret (v := .tuple #[(s.get h).val, .bool false]) (by simp [results, Tryz.results126, go_sem, Nd.val, *]) rfl ⟨rfl, hB⟩
theorem wRow_calls (h : Int) (w : World) (hA : AP w ap s O) :
  Calls Tryz.prog 126 #[ap, .int .i64 h] w fun e w' => e = .returned (.tuple #[(s.get h).val, .bool (wIsR s h)]) ∧ Below w.heap.size w w' := by
 cases h1 : s.has h with
 | false => unfold wIsR; rw [h1]; exact wRow_no h h1 w hA
 | true =>
  by_cases h2 : 0 < s.cnt h
  ·
   by_cases h3 : (s.get h).tag = 3
   ·
    have e : wIsR s h = true := by unfold wIsR; rw [h1]; simp [h2, h3]
    rw [e]; exact wRow_t1 h h1 h2 h3 w hA
   ·
    have e : wIsR s h = false := by unfold wIsR; rw [h1]; simp [h3]
    rw [e]; exact wRow_t3 h h1 h2 h3 w hA
  ·
   have e : wIsR s h = false := by unfold wIsR; rw [h1]; simp [h2]
   rw [e]; exact wRow_dead h h1 h2 w hA
end Go.Proofs.YtdjpjmkpndmhaaaGreat
/- What the functions of package leaf compute, each walked once: on a row of bits that a leaf holds. -/
namespace Go.Proofs.YtdjpjmkpndmhaaaGreat
set_option linter.unusedSimpArgs false
set_option linter.unusedVariables false
set_option linter.unnecessarySimpa false
open Go.RowKit
attribute [local go_sem ↓] Go.wp_at_zero Go.wp_at_succ
attribute [local go_sem] lt_s2 ne_s2 ne_t2 lt_s3 ne_s3 ne_t3 lt_s4 ne_s4 ne_t4 lt_s5 ne_s5 ne_t5 lt_s6 ne_s6 ne_t6 lt_s7 ne_s7 ne_t7 lt_s8 ne_s8 ne_t8 lt_s9 ne_s9 ne_t9 lt_s10 ne_s10 ne_t10 lt_s11 ne_s11 ne_t11 lt_s12 ne_s12 ne_t12
set_option maxHeartbeats 400000 in
theorem first_any (n : Nat) (hn : n ≤ 64) (w : World) :
    Calls Tryz.prog 132 #[.int .i64 (n : Int)] w fun e w' => e = .returned (.int .u64 ((2 ^ n - 1 : Nat) : Int)) ∧ w = w' := by
  by_cases h : 64 ≤ n
  · obtain rfl : n = 64 := by omega
    go_enter Tryz.func132, Tryz.ntmps132
    go_wp2
    go_ret
    exact ⟨rfl, rfl⟩
  · go_enter Tryz.func132, Tryz.ntmps132
    go_wp2
    go_ret
    exact ⟨by rw [wrap_first n (by omega)]; rfl, rfl⟩

set_option maxHeartbeats 400000 in
theorem right_nat (b n : Nat) (hn : n ≤ 64) (hb : b < 2 ^ 64) (w : World) :
    Calls Tryz.prog 130 #[.agg #[.int .u64 (b : Int), .int .i64 (n : Int)]] w fun e w' => e = .returned (.bool (decide (b < 2 ^ n))) ∧ Below w.heap.size w w' := by
  have ha := Lib.hid (andNot_first b n hb hn)
  have d1 : (0:Int) ≤ (n:Int) := by omega
  have d2 : (n:Int) ≤ 64 := by omega
  go_enter Tryz.func130, Tryz.ntmps130
  go_wp2
  go_quiet ((go_at_call 132; exact quiet_left (first_any _ (by omega) _)))
  go_wp2
  go_ret
  refine ⟨ret_bool ?_, below_drewN ((Below.refl _ _).alloc (Nat.le_refl _) _) _⟩
  rw [ha.out, Bool.eq_iff_iff]
  have hp : 0 < 2 ^ n := Nat.two_pow_pos n
  have hm : b % 2 ^ n ≤ b := Nat.mod_le _ _
  simp only [beq_iff_eq, decide_eq_true_eq]
  constructor
  · intro h; have : b % 2 ^ n = b := by omega
    rw [← this]; exact Nat.mod_lt _ hp
  · intro h; rw [Nat.mod_eq_of_lt h]; omega
set_option maxHeartbeats 400000 in
theorem right_out (b n : Int) (hn : n < 0 ∨ 64 < n) (w : World) :
    Calls Tryz.prog 130 #[.agg #[.int .u64 b, .int .i64 n]] w fun e w' => e = .returned (.bool false) ∧ Below w.heap.size w w' := by
  rcases hn with hn | hn
  · have d1 : decide ((0:Int) ≤ n) = false := by simp; omega
    go_enter Tryz.func130, Tryz.ntmps130
    go_wp2
    go_quiet (fail)
    go_wp2
    go_ret
    exact ⟨rfl, below_drewN ((Below.refl _ _).alloc (Nat.le_refl _) _) _⟩
  · have d1 : (0:Int) ≤ n := by omega
    have d2 : decide (n ≤ (64:Int)) = false := by simp; omega
    go_enter Tryz.func130, Tryz.ntmps130
    go_wp2
    go_quiet (fail)
    go_wp2
    go_ret
    exact ⟨rfl, below_drewN ((Below.refl _ _).alloc (Nat.le_refl _) _) _⟩
theorem right_yes (l : List Bool) (hl : l.length ≤ 64) (w : World) :
    Calls Tryz.prog 130 #[.agg #[.int .u64 (pack l : Int), .int .i64 (l.length : Int)]] w fun e w' => e = .returned (.bool true) ∧ Below w.heap.size w w' :=
  (right_nat _ _ hl (pack_lt64 hl) w).mono fun _ _ ⟨he, h⟩ => ⟨by rw [he, decide_eq_true (pack_lt l)], h⟩
theorem right_no (b : Nat) (n : Int) (hb : b < 2 ^ 64) (h : ¬ Rt b n) (w : World) :
    Calls Tryz.prog 130 #[.agg #[.int .u64 (b : Int), .int .i64 n]] w fun e w' => e = .returned (.bool false) ∧ Below w.heap.size w w' := by
  by_cases hn : n < 0 ∨ 64 < n
  · exact right_out _ _ hn w
  · obtain ⟨m, rfl⟩ := Int.eq_ofNat_of_zero_le (show 0 ≤ n by omega)
    refine (right_nat b m (by omega) hb w).mono fun _ _ ⟨he, h'⟩ => ⟨?_, h'⟩
    rw [he, decide_eq_false]
    intro hlt
    exact h ⟨by omega, by omega, by simpa using hlt⟩

set_option maxHeartbeats 400000 in
theorem ones_pack_calls (l : List Bool) (hl : l.length ≤ 64) (w : World) :
    Calls Tryz.prog 131 #[.int .u64 (pack l : Int)] w fun e w' => e = .returned (.int .i64 (l.count true : Int)) ∧ w = w' := by
  go_enter Tryz.func131, Tryz.ntmps131
  go_wp2
  go_ret
  refine ⟨?_, rfl⟩
  refine ret_int ?_
  obtain ⟨_, _, _, hc, hh⟩ := ones_pack l hl
  obtain ⟨e1, e2, e3⟩ := ones_steps l hl
  obtain ⟨e4, e5, e6, e7, e8⟩ := ones_end _ _ hc hh
  rw [e1, e2, e3, e4, e5, e6]
  have hw : ∀ n : Nat, n < 9223372036854775808 → wrap64 (n : Int) = n := fun n h => by unfold wrap64; omega
  rw [hw _ e7]
  exact e8

set_option maxHeartbeats 400000 in
theorem rank_list (l : List Bool) (hl : l.length ≤ 64) (i : Int) (w : World) :
    Calls Tryz.prog 87 #[.agg #[.int .u64 (pack l : Int), .int .i64 (l.length : Int)], .int .i64 i] w fun e w' => e = .returned (.int .i64 ((l.take i.toNat).count true : Int)) ∧ Below w.heap.size w w' := by
  obtain ⟨k, hk, hkl, ht, -, -⟩ := clamp_to l i
  have hm := Lib.hid (and_first (pack l) k (pack_lt64 hl) (by omega))
  have hp := Lib.hid (pack_mod l k)
  have ht' := Lib.hid ht
  clear ht
  have hl2 : (l.take k).length ≤ 64 := by rw [List.length_take]; omega
  go_enter Tryz.func87, Tryz.ntmps87
  go_wp2_with fail
  refine (right_yes l hl _).mono ?_
  rintro e w1 ⟨rfl, hb⟩
  obtain ⟨hc, hf⟩ := bcell hb
  go_wp2_with fail
  go_quiet (first
    | (go_at_call 132; exact quiet_left (first_any _ (by omega) _))
    | (go_at_call 131; rw [hm.out, hp.out]; exact quiet_left (ones_pack_calls _ hl2 _)))
  go_wp2
  all_goals (go_ret; exact ⟨ret_int (by rw [ht'.out]), below_drewN (below_step (below_box _ _) hb) _⟩)
set_option maxHeartbeats 400000 in
theorem rank_no (b : Nat) (n i : Int) (hb : b < 2 ^ 64) (h : ¬ Rt b n) (w : World) :
    Calls Tryz.prog 87 #[.agg #[.int .u64 (b : Int), .int .i64 n], .int .i64 i] w fun e w' => e = .returned (.int .i64 0) ∧ Below w.heap.size w w' := by
  go_enter Tryz.func87, Tryz.ntmps87
  go_wp2_with fail
  refine (right_no b n hb h _).mono ?_
  rintro e w1 ⟨rfl, hb⟩
  go_wp2_with fail
  go_ret
  exact ⟨rfl, below_step (below_box _ _) hb⟩
/-- A bit of a row. -/
theorem shr_bit (l : List Bool) (hl : l.length ≤ 64) (i : Nat) : (Go.bits .and .u64 (((pack l / 2 ^ i : Nat)) : Int) 1 == 1) = l.getD i false := by
  rw [← testBit_pack, show (1 : Int) = ((1 : Nat) : Int) by rfl, and_mask _ _ (Nat.lt_of_le_of_lt (Nat.div_le_self _ _) (pack_lt64 hl)) (by omega), Nat.and_one_is_mod]
  rw [Nat.testBit_eq_decide_div_mod_eq, Bool.eq_iff_iff]
  simp only [beq_iff_eq, decide_eq_true_eq]
  omega
set_option maxHeartbeats 400000 in
theorem get_in (l : List Bool) (hl : l.length ≤ 64) (i : Nat) (hi : i < l.length) (w : World) :
    Calls Tryz.prog 84 #[.agg #[.int .u64 (pack l : Int), .int .i64 (l.length : Int)], .int .i64 (i : Int)] w fun e w' => e = .returned (.bool (l.getD i false)) ∧ Below w.heap.size w w' := by
  have d1 : (0:Int) ≤ (i:Int) := by omega
  have d2 : (i:Int) < (l.length:Int) := by omega
  go_enter Tryz.func84, Tryz.ntmps84
  go_wp2_with fail
  refine (right_yes l hl _).mono ?_
  rintro e w1 ⟨rfl, hb⟩
  obtain ⟨hc, hf⟩ := bcell hb
  go_wp2_with fail
  go_ret
  refine ⟨ret_bool ?_, below_step (below_box _ _) hb⟩
  rw [← shr_bit l hl i]
  norm_cast
theorem getL_nat (l : List Bool) (i : Nat) : getL l (i : Int) = l.getD i false := by simp [getL]
set_option maxHeartbeats 400000 in
theorem get_out (l : List Bool) (hl : l.length ≤ 64) (i : Int) (hi : i < 0 ∨ l.length ≤ i) (w : World) :
    Calls Tryz.prog 84 #[.agg #[.int .u64 (pack l : Int), .int .i64 (l.length : Int)], .int .i64 i] w fun e w' => e = .returned (.bool false) ∧ Below w.heap.size w w' := by
  rcases hi with hi | hi
  · have d1 : decide ((0:Int) ≤ i) = false := by simp; omega
    go_enter Tryz.func84, Tryz.ntmps84
    go_wp2_with fail
    refine (right_yes l hl _).mono ?_
    rintro e w1 ⟨rfl, hb⟩
    obtain ⟨hc, hf⟩ := bcell hb
    go_wp2_with fail
    go_ret
    exact ⟨rfl, below_step (below_box _ _) hb⟩
  · have d1 : (0:Int) ≤ i := by omega
    have d2 : decide (i < (l.length : Int)) = false := by simp; omega
    go_enter Tryz.func84, Tryz.ntmps84
    go_wp2_with fail
    refine (right_yes l hl _).mono ?_
    rintro e w1 ⟨rfl, hb⟩
    obtain ⟨hc, hf⟩ := bcell hb
    go_wp2_with fail
    go_ret
    exact ⟨rfl, below_step (below_box _ _) hb⟩
theorem getL_out (l : List Bool) (i : Int) (hi : i < 0 ∨ l.length ≤ i) : getL l i = false := by
  unfold getL
  rcases hi with hi | hi
  · simp; omega
  · rw [List.getD_eq_getElem?_getD, List.getElem?_eq_none (by omega)]; simp
theorem get_list (l : List Bool) (hl : l.length ≤ 64) (i : Int) (w : World) :
    Calls Tryz.prog 84 #[.agg #[.int .u64 (pack l : Int), .int .i64 (l.length : Int)], .int .i64 i] w fun e w' => e = .returned (.bool (getL l i)) ∧ Below w.heap.size w w' := by
  by_cases h : i < 0 ∨ l.length ≤ i
  · rw [getL_out l i h]; exact get_out l hl i h w
  · obtain ⟨m, rfl⟩ := Int.eq_ofNat_of_zero_le (show 0 ≤ i by omega)
    rw [getL_nat]; exact get_in l hl m (by omega) w
set_option maxHeartbeats 400000 in
theorem get_no (b : Nat) (n i : Int) (hb : b < 2 ^ 64) (h : ¬ Rt b n) (w : World) :
    Calls Tryz.prog 84 #[.agg #[.int .u64 (b : Int), .int .i64 n], .int .i64 i] w fun e w' => e = .returned (.bool false) ∧ Below w.heap.size w w' := by
  go_enter Tryz.func84, Tryz.ntmps84
  go_wp2_with fail
  refine (right_no b n hb h _).mono ?_
  rintro e w1 ⟨rfl, hb⟩
  go_wp2_with fail
  go_ret
  exact ⟨rfl, below_step (below_box _ _) hb⟩
set_option maxHeartbeats 400000 in
theorem split_list (l : List Bool) (hl : l.length ≤ 64) (i : Int) (w : World) :
    Calls Tryz.prog 143 #[.agg #[.int .u64 (pack l : Int), .int .i64 (l.length : Int)], .int .i64 i] w fun e w' =>
      e = .returned (.tuple #[.agg #[.int .u64 (pack (l.take i.toNat) : Int), .int .i64 ((l.take i.toNat).length : Int)], .agg #[.int .u64 (pack (l.drop i.toNat) : Int), .int .i64 ((l.drop i.toNat).length : Int)]]) ∧ Below w.heap.size w w' := by
  obtain ⟨k, hk, hkl, ht, hd, -⟩ := clamp_to l i
  have hm := Lib.hid (and_first (pack l) k (pack_lt64 hl) (by omega))
  have hp := Lib.hid (pack_mod l k)
  have hp2 := Lib.hid (pack_div l k)
  have ht' := Lib.hid ht
  have hd' := Lib.hid hd
  clear ht hd
  have d1 : (0:Int) ≤ (k:Int) := by omega
  have d2 : (k:Int) ≤ (l.length:Int) := by omega
  have HV : Hid (Value.tuple #[.agg #[.int .u64 (Go.bits .and .u64 (pack l : Int) ((2 ^ k - 1 : Nat) : Int)), .int .i64 (k : Int)], .agg #[.int .u64 ((pack l : Int) / 2 ^ k), .int .i64 ((l.length : Int) - (k : Int))]] =
      .tuple #[.agg #[.int .u64 (pack (l.take i.toNat) : Int), .int .i64 ((l.take i.toNat).length : Int)], .agg #[.int .u64 (pack (l.drop i.toNat) : Int), .int .i64 ((l.drop i.toNat).length : Int)]]) := by
    show _ = _
    rw [hm.out, hp.out, ht'.out, show ((pack l : Int) / 2 ^ k) = ((pack l / 2 ^ k : Nat) : Int) by norm_cast, hp2.out, hd'.out, ← ht'.out, ← hd'.out]
    simp; omega
  go_enter Tryz.func143, Tryz.ntmps143
  go_wp2_with fail
  refine (right_yes l hl _).mono ?_
  rintro e w1 ⟨rfl, hb⟩
  obtain ⟨hc, hf⟩ := bcell hb
  go_wp2_with fail
  all_goals
    go_region_held3 (fun w' => w'.cell? ⟨w.heap.size, 0, none⟩ = some (.int .u64 (pack l : Int)) ∧ w'.cell? ⟨w.heap.size, 1, none⟩ = some (.int .i64 (l.length : Int))) (simp [go_sem, *, World.cell?_setCell_far])
      (first | (go_at_call 132; refine (first_any _ (by omega) _).mono ?_; rintro e w' ⟨rfl, rfl⟩))
    go_wp2
    refine bodyPost_ret (v := .tuple #[.agg #[.int .u64 (Go.bits .and .u64 (pack l : Int) ((2 ^ k - 1 : Nat) : Int)), .int .i64 (k : Int)], .agg #[.int .u64 ((pack l : Int) / 2 ^ k), .int .i64 ((l.length : Int) - (k : Int))]]) (by simp [results, Tryz.results143, go_sem, hc, hf]; rw [IntKind.wrap_i64]; omega) rfl ⟨congrArg _ HV.out, ?_⟩
    exact (((((below_step (((below_box _ _).alloc (by simp) _).alloc (by simp; omega) _) hb).setCell (by simp) _).setCell (by simp) _).setCell (by simp; omega) _).setCell (by simp; omega) _).drew
set_option maxHeartbeats 400000 in
theorem split_no (b : Nat) (n i : Int) (hb : b < 2 ^ 64) (h : ¬ Rt b n) (w : World) :
    Calls Tryz.prog 143 #[.agg #[.int .u64 (b : Int), .int .i64 n], .int .i64 i] w fun e w' =>
      e = .returned (.tuple #[.agg #[.int .u64 0, .int .i64 0], .agg #[.int .u64 0, .int .i64 0]]) ∧ Below w.heap.size w w' := by
  go_enter Tryz.func143, Tryz.ntmps143
  go_wp2_with fail
  refine (right_no b n hb h _).mono ?_
  rintro e w1 ⟨rfl, hb⟩
  obtain ⟨hc, hf⟩ := bcell hb
  have hsz := hb.size
  simp at hsz
  go_wp2_with fail
  refine bodyPost_ret (v := .tuple #[.agg #[.int .u64 0, .int .i64 0], .agg #[.int .u64 0, .int .i64 0]]) (by simp [results, Tryz.results143, go_sem, hc, hf]) rfl ⟨rfl, ?_⟩
  exact ((((below_step (((below_box _ _).alloc (by simp) _).alloc (by simp; omega) _) hb).setCell (by simp) _).setCell (by simp) _).setCell (by simp; omega) _).setCell (by simp; omega) _
theorem join_value (a b : List Bool) (h : a.length + b.length ≤ 64) :
    Go.bits .or .u64 (pack a : Int) (IntKind.u64.wrap ((pack b : Int) * 2 ^ a.length)) = (pack (a ++ b) : Int) ∧ IntKind.i64.wrap ((a.length : Int) + (b.length : Int)) = ((a ++ b).length : Int) := by
  have hlt := pack_lt64 (l := a ++ b) (by simpa using h)
  rw [pack_append] at hlt
  have hz : 2 ^ a.length * pack b < 2 ^ 64 := Nat.lt_of_le_of_lt (Nat.le_add_left _ _) hlt
  have e : ((pack b : Int) * 2 ^ a.length) = ((2 ^ a.length * pack b : Nat) : Int) := by rw [Nat.mul_comm]; norm_cast
  refine ⟨?_, by rw [IntKind.wrap_i64]; simp; omega⟩
  rw [e, wrap_u64 (by omega) (by omega), or_shift _ _ _ (pack_lt a) hlt, pack_append]
set_option maxHeartbeats 400000 in
theorem join_yes (a b : List Bool) (h : a.length + b.length ≤ 64) (w : World) :
    Calls Tryz.prog 168 #[.agg #[.int .u64 (pack a : Int), .int .i64 (a.length : Int)], .agg #[.int .u64 (pack b : Int), .int .i64 (b.length : Int)]] w fun e w' =>
      e = .returned (.tuple #[.agg #[.int .u64 (pack (a ++ b) : Int), .int .i64 ((a ++ b).length : Int)], .bool true]) ∧ Below w.heap.size w w' := by
  have hv := Lib.hid (join_value a b h)
  have d2 : decide ((64:Int) < (a.length : Int) + (b.length : Int)) = false := by simp; omega
  go_enter Tryz.func168, Tryz.ntmps168
  go_wp2_with fail
  refine calls_gen fun V1 hV_V1 => ?_
  have n_k0 := congrArg (fun v : World => v.heap[w.heap.size]?) hV_V1
  have n_k1 := congrArg (fun v : World => v.heap[w.heap.size + 1]?) hV_V1
  have n_k2 := congrArg (fun v : World => v.heap[w.heap.size + 1 + 1]?) hV_V1
  simp (maxDischargeDepth := 9) only [BK, not_false_eq_true, reduceCtorEq] at n_k0
  simp (maxDischargeDepth := 9) only [BK, not_false_eq_true, reduceCtorEq] at n_k1
  simp (maxDischargeDepth := 9) only [BK, not_false_eq_true, reduceCtorEq] at n_k2
  have n_b : Below w.heap.size w V1 := by rw [hV_V1]; (repeat' first | with_reducible assumption | with_reducible exact Below.refl _ _ | with_reducible refine Below.alloc ?_ ?_ _ | with_reducible refine Below.setCell ?_ ?_ _ | with_reducible refine below_drewN ?_ _ | with_reducible refine Below.drew ?_ | exact Nat.le_refl _ | ((try dsimp only); omega) | (simp only [siz_alloc, siz_set]; omega))
  have k0 := n_k0; clear n_k0
  have k1 := n_k1; clear n_k1
  have k2 := n_k2; clear n_k2
  clear hV_V1
  refine (right_yes a (by omega) _).mono ?_
  rintro e_W1 W1 ⟨rfl, hb_W1⟩
  have b1 := below_step n_b hb_W1; clear n_b
  replace k0 := keep_blk hb_W1 k0
  obtain ⟨c_k0, f_k0, l_k0_W1⟩ := f3 k0
  replace k1 := keep_blk hb_W1 k1
  obtain ⟨c_k1, f_k1, l_k1_W1⟩ := f3 k1
  replace k2 := keep_blk hb_W1 k2
  obtain ⟨c_k2, f_k2, l_k2_W1⟩ := f3 k2
  have z_W1 := b1.size
  clear hb_W1
  go_wp2_with fail
  refine calls_gen fun V2 hV_V2 => ?_
  have n_k0 := congrArg (fun v : World => v.heap[w.heap.size]?) hV_V2
  have n_k1 := congrArg (fun v : World => v.heap[w.heap.size + 1]?) hV_V2
  have n_k2 := congrArg (fun v : World => v.heap[w.heap.size + 1 + 1]?) hV_V2
  simp (maxDischargeDepth := 9) only [BK, not_false_eq_true, reduceCtorEq, k0, k1, k2, l_k0_W1, l_k1_W1, l_k2_W1] at n_k0
  simp (maxDischargeDepth := 9) only [BK, not_false_eq_true, reduceCtorEq, k0, k1, k2, l_k0_W1, l_k1_W1, l_k2_W1] at n_k1
  simp (maxDischargeDepth := 9) only [BK, not_false_eq_true, reduceCtorEq, k0, k1, k2, l_k0_W1, l_k1_W1, l_k2_W1] at n_k2
  have n_b : Below w.heap.size w V2 := by rw [hV_V2]; (repeat' first | with_reducible assumption | with_reducible exact Below.refl _ _ | with_reducible refine Below.alloc ?_ ?_ _ | with_reducible refine Below.setCell ?_ ?_ _ | with_reducible refine below_drewN ?_ _ | with_reducible refine Below.drew ?_ | exact Nat.le_refl _ | ((try dsimp only); omega) | (simp only [siz_alloc, siz_set]; omega))
  clear k0 c_k0 f_k0
  clear k1 c_k1 f_k1
  clear k2 c_k2 f_k2
  have k0 := n_k0; clear n_k0
  have k1 := n_k1; clear n_k1
  have k2 := n_k2; clear n_k2
  clear hV_V2
  refine (right_yes b (by omega) _).mono ?_
  rintro e_W2 W2 ⟨rfl, hb_W2⟩
  have b2 := below_step n_b hb_W2; clear n_b
  replace k0 := keep_blk hb_W2 k0
  obtain ⟨c_k0, f_k0, l_k0_W2⟩ := f3 k0
  replace k1 := keep_blk hb_W2 k1
  obtain ⟨c_k1, f_k1, l_k1_W2⟩ := f3 k1
  replace k2 := keep_blk hb_W2 k2
  obtain ⟨c_k2, f_k2, l_k2_W2⟩ := f3 k2
  have z_W2 := b2.size
  clear hb_W2
  go_wp2_with fail
  go_region_held3 (fun v => (∀ o, v.cell? ⟨w.heap.size, o, none⟩ = W2.cell? ⟨w.heap.size, o, none⟩) ∧ (∀ o, v.cell? ⟨w.heap.size + 1, o, none⟩ = W2.cell? ⟨w.heap.size + 1, o, none⟩)) (refine ⟨?_, ?_⟩ <;> intro o <;> simp [go_sem, *, World.cell?_setCell_far])
    (fail)
  go_wp2
  refine bodyPost_ret (v := .tuple #[.agg #[.int .u64 (Go.bits .or .u64 (pack a : Int) (IntKind.u64.wrap ((pack b : Int) * 2 ^ a.length))), .int .i64 (IntKind.i64.wrap ((a.length : Int) + (b.length : Int)))], .bool true]) (by simp [results, Tryz.results168, go_sem, *]) rfl ⟨by rw [hv.out.1, hv.out.2], ?_⟩
  (repeat' first | with_reducible assumption | with_reducible exact Below.refl _ _ | with_reducible refine Below.alloc ?_ ?_ _ | with_reducible refine Below.setCell ?_ ?_ _ | with_reducible refine below_drewN ?_ _ | with_reducible refine Below.drew ?_ | exact Nat.le_refl _ | ((try dsimp only); omega) | (simp only [siz_alloc, siz_set]; omega))
set_option maxHeartbeats 400000 in
theorem join_long (a b : List Bool) (ha : a.length ≤ 64) (hb : b.length ≤ 64) (h : 64 < a.length + b.length) (w : World) :
    Calls Tryz.prog 168 #[.agg #[.int .u64 (pack a : Int), .int .i64 (a.length : Int)], .agg #[.int .u64 (pack b : Int), .int .i64 (b.length : Int)]] w fun e w' =>
      e = .returned (.tuple #[.agg #[.int .u64 0, .int .i64 0], .bool false]) ∧ Below w.heap.size w w' := by
  have d2 : decide ((64:Int) < (a.length : Int) + (b.length : Int)) = true := by simp; omega
  go_enter Tryz.func168, Tryz.ntmps168
  go_wp2_with fail
  refine calls_gen fun V1 hV_V1 => ?_
  have n_k0 := congrArg (fun v : World => v.heap[w.heap.size]?) hV_V1
  have n_k1 := congrArg (fun v : World => v.heap[w.heap.size + 1]?) hV_V1
  have n_k2 := congrArg (fun v : World => v.heap[w.heap.size + 1 + 1]?) hV_V1
  simp (maxDischargeDepth := 9) only [BK, not_false_eq_true, reduceCtorEq] at n_k0
  simp (maxDischargeDepth := 9) only [BK, not_false_eq_true, reduceCtorEq] at n_k1
  simp (maxDischargeDepth := 9) only [BK, not_false_eq_true, reduceCtorEq] at n_k2
  have n_b : Below w.heap.size w V1 := by rw [hV_V1]; (repeat' first | with_reducible assumption | with_reducible exact Below.refl _ _ | with_reducible refine Below.alloc ?_ ?_ _ | with_reducible refine Below.setCell ?_ ?_ _ | with_reducible refine below_drewN ?_ _ | with_reducible refine Below.drew ?_ | exact Nat.le_refl _ | ((try dsimp only); omega) | (simp only [siz_alloc, siz_set]; omega))
  have k0 := n_k0; clear n_k0
  have k1 := n_k1; clear n_k1
  have k2 := n_k2; clear n_k2
  clear hV_V1
  refine (right_yes a ha _).mono ?_
  rintro e_W1 W1 ⟨rfl, hb_W1⟩
  have b1 := below_step n_b hb_W1; clear n_b
  replace k0 := keep_blk hb_W1 k0
  obtain ⟨c_k0, f_k0, l_k0_W1⟩ := f3 k0
  replace k1 := keep_blk hb_W1 k1
  obtain ⟨c_k1, f_k1, l_k1_W1⟩ := f3 k1
  replace k2 := keep_blk hb_W1 k2
  obtain ⟨c_k2, f_k2, l_k2_W1⟩ := f3 k2
  have z_W1 := b1.size
  clear hb_W1
  go_wp2_with fail
  refine calls_gen fun V2 hV_V2 => ?_
  have n_k0 := congrArg (fun v : World => v.heap[w.heap.size]?) hV_V2
  have n_k1 := congrArg (fun v : World => v.heap[w.heap.size + 1]?) hV_V2
  have n_k2 := congrArg (fun v : World => v.heap[w.heap.size + 1 + 1]?) hV_V2
  simp (maxDischargeDepth := 9) only [BK, not_false_eq_true, reduceCtorEq, k0, k1, k2, l_k0_W1, l_k1_W1, l_k2_W1] at n_k0
  simp (maxDischargeDepth := 9) only [BK, not_false_eq_true, reduceCtorEq, k0, k1, k2, l_k0_W1, l_k1_W1, l_k2_W1] at n_k1
  simp (maxDischargeDepth := 9) only [BK, not_false_eq_true, reduceCtorEq, k0, k1, k2, l_k0_W1, l_k1_W1, l_k2_W1] at n_k2
  have n_b : Below w.heap.size w V2 := by rw [hV_V2]; (repeat' first | with_reducible assumption | with_reducible exact Below.refl _ _ | with_reducible refine Below.alloc ?_ ?_ _ | with_reducible refine Below.setCell ?_ ?_ _ | with_reducible refine below_drewN ?_ _ | with_reducible refine Below.drew ?_ | exact Nat.le_refl _ | ((try dsimp only); omega) | (simp only [siz_alloc, siz_set]; omega))
  clear k0 c_k0 f_k0
  clear k1 c_k1 f_k1
  clear k2 c_k2 f_k2
  have k0 := n_k0; clear n_k0
  have k1 := n_k1; clear n_k1
  have k2 := n_k2; clear n_k2
  clear hV_V2
  refine (right_yes b hb _).mono ?_
  rintro e_W2 W2 ⟨rfl, hb_W2⟩
  have b2 := below_step n_b hb_W2; clear n_b
  replace k0 := keep_blk hb_W2 k0
  obtain ⟨c_k0, f_k0, l_k0_W2⟩ := f3 k0
  replace k1 := keep_blk hb_W2 k1
  obtain ⟨c_k1, f_k1, l_k1_W2⟩ := f3 k1
  replace k2 := keep_blk hb_W2 k2
  obtain ⟨c_k2, f_k2, l_k2_W2⟩ := f3 k2
  have z_W2 := b2.size
  clear hb_W2
  go_wp2
  refine bodyPost_ret (v := .tuple #[.agg #[.int .u64 0, .int .i64 0], .bool false]) (by simp [results, Tryz.results168, go_sem, *]) rfl ⟨rfl, ?_⟩
  (repeat' first | with_reducible assumption | with_reducible exact Below.refl _ _ | with_reducible refine Below.alloc ?_ ?_ _ | with_reducible refine Below.setCell ?_ ?_ _ | with_reducible refine below_drewN ?_ _ | with_reducible refine Below.drew ?_ | exact Nat.le_refl _ | ((try dsimp only); omega) | (simp only [siz_alloc, siz_set]; omega))
set_option maxHeartbeats 400000 in
theorem join_no1 (b : Nat) (n : Int) (hb : b < 2 ^ 64) (h : ¬ Rt b n) (x y : Int) (w : World) :
    Calls Tryz.prog 168 #[.agg #[.int .u64 (b : Int), .int .i64 n], .agg #[.int .u64 x, .int .i64 y]] w fun e w' =>
      e = .returned (.tuple #[.agg #[.int .u64 0, .int .i64 0], .bool false]) ∧ Below w.heap.size w w' := by
  go_enter Tryz.func168, Tryz.ntmps168
  go_wp2_with fail
  refine calls_gen fun V1 hV_V1 => ?_
  have n_k0 := congrArg (fun v : World => v.heap[w.heap.size]?) hV_V1
  have n_k1 := congrArg (fun v : World => v.heap[w.heap.size + 1]?) hV_V1
  have n_k2 := congrArg (fun v : World => v.heap[w.heap.size + 1 + 1]?) hV_V1
  simp (maxDischargeDepth := 9) only [BK, not_false_eq_true, reduceCtorEq] at n_k0
  simp (maxDischargeDepth := 9) only [BK, not_false_eq_true, reduceCtorEq] at n_k1
  simp (maxDischargeDepth := 9) only [BK, not_false_eq_true, reduceCtorEq] at n_k2
  have n_b : Below w.heap.size w V1 := by rw [hV_V1]; (repeat' first | with_reducible assumption | with_reducible exact Below.refl _ _ | with_reducible refine Below.alloc ?_ ?_ _ | with_reducible refine Below.setCell ?_ ?_ _ | with_reducible refine below_drewN ?_ _ | with_reducible refine Below.drew ?_ | exact Nat.le_refl _ | ((try dsimp only); omega) | (simp only [siz_alloc, siz_set]; omega))
  have k0 := n_k0; clear n_k0
  have k1 := n_k1; clear n_k1
  have k2 := n_k2; clear n_k2
  clear hV_V1
  refine (right_no b n hb h _).mono ?_
  rintro e_W1 W1 ⟨rfl, hb_W1⟩
  have b1 := below_step n_b hb_W1; clear n_b
  replace k0 := keep_blk hb_W1 k0
  obtain ⟨c_k0, f_k0, l_k0_W1⟩ := f3 k0
  replace k1 := keep_blk hb_W1 k1
  obtain ⟨c_k1, f_k1, l_k1_W1⟩ := f3 k1
  replace k2 := keep_blk hb_W1 k2
  obtain ⟨c_k2, f_k2, l_k2_W1⟩ := f3 k2
  have z_W1 := b1.size
  clear hb_W1
  go_wp2
  refine bodyPost_ret (v := .tuple #[.agg #[.int .u64 0, .int .i64 0], .bool false]) (by simp [results, Tryz.results168, go_sem, *]) rfl ⟨rfl, ?_⟩
  (repeat' first | with_reducible assumption | with_reducible exact Below.refl _ _ | with_reducible refine Below.alloc ?_ ?_ _ | with_reducible refine Below.setCell ?_ ?_ _ | with_reducible refine below_drewN ?_ _ | with_reducible refine Below.drew ?_ | exact Nat.le_refl _ | ((try dsimp only); omega) | (simp only [siz_alloc, siz_set]; omega))
set_option maxHeartbeats 400000 in
theorem join_no2 (a : List Bool) (ha : a.length ≤ 64) (b : Nat) (n : Int) (hb : b < 2 ^ 64) (h : ¬ Rt b n) (w : World) :
    Calls Tryz.prog 168 #[.agg #[.int .u64 (pack a : Int), .int .i64 (a.length : Int)], .agg #[.int .u64 (b : Int), .int .i64 n]] w fun e w' =>
      e = .returned (.tuple #[.agg #[.int .u64 0, .int .i64 0], .bool false]) ∧ Below w.heap.size w w' := by
  go_enter Tryz.func168, Tryz.ntmps168
  go_wp2_with fail
  refine calls_gen fun V1 hV_V1 => ?_
  have n_k0 := congrArg (fun v : World => v.heap[w.heap.size]?) hV_V1
  have n_k1 := congrArg (fun v : World => v.heap[w.heap.size + 1]?) hV_V1
  have n_k2 := congrArg (fun v : World => v.heap[w.heap.size + 1 + 1]?) hV_V1
  simp (maxDischargeDepth := 9) only [BK, not_false_eq_true, reduceCtorEq] at n_k0
  simp (maxDischargeDepth := 9) only [BK, not_false_eq_true, reduceCtorEq] at n_k1
  simp (maxDischargeDepth := 9) only [BK, not_false_eq_true, reduceCtorEq] at n_k2
  have n_b : Below w.heap.size w V1 := by rw [hV_V1]; (repeat' first | with_reducible assumption | with_reducible exact Below.refl _ _ | with_reducible refine Below.alloc ?_ ?_ _ | with_reducible refine Below.setCell ?_ ?_ _ | with_reducible refine below_drewN ?_ _ | with_reducible refine Below.drew ?_ | exact Nat.le_refl _ | ((try dsimp only); omega) | (simp only [siz_alloc, siz_set]; omega))
  have k0 := n_k0; clear n_k0
  have k1 := n_k1; clear n_k1
  have k2 := n_k2; clear n_k2
  clear hV_V1
  refine (right_yes a ha _).mono ?_
  rintro e_W1 W1 ⟨rfl, hb_W1⟩
  have b1 := below_step n_b hb_W1; clear n_b
  replace k0 := keep_blk hb_W1 k0
  obtain ⟨c_k0, f_k0, l_k0_W1⟩ := f3 k0
  replace k1 := keep_blk hb_W1 k1
  obtain ⟨c_k1, f_k1, l_k1_W1⟩ := f3 k1
  replace k2 := keep_blk hb_W1 k2
  obtain ⟨c_k2, f_k2, l_k2_W1⟩ := f3 k2
  have z_W1 := b1.size
  clear hb_W1
  go_wp2_with fail
  refine calls_gen fun V2 hV_V2 => ?_
  have n_k0 := congrArg (fun v : World => v.heap[w.heap.size]?) hV_V2
  have n_k1 := congrArg (fun v : World => v.heap[w.heap.size + 1]?) hV_V2
  have n_k2 := congrArg (fun v : World => v.heap[w.heap.size + 1 + 1]?) hV_V2
  simp (maxDischargeDepth := 9) only [BK, not_false_eq_true, reduceCtorEq, k0, k1, k2, l_k0_W1, l_k1_W1, l_k2_W1] at n_k0
  simp (maxDischargeDepth := 9) only [BK, not_false_eq_true, reduceCtorEq, k0, k1, k2, l_k0_W1, l_k1_W1, l_k2_W1] at n_k1
  simp (maxDischargeDepth := 9) only [BK, not_false_eq_true, reduceCtorEq, k0, k1, k2, l_k0_W1, l_k1_W1, l_k2_W1] at n_k2
  have n_b : Below w.heap.size w V2 := by rw [hV_V2]; (repeat' first | with_reducible assumption | with_reducible exact Below.refl _ _ | with_reducible refine Below.alloc ?_ ?_ _ | with_reducible refine Below.setCell ?_ ?_ _ | with_reducible refine below_drewN ?_ _ | with_reducible refine Below.drew ?_ | exact Nat.le_refl _ | ((try dsimp only); omega) | (simp only [siz_alloc, siz_set]; omega))
  clear k0 c_k0 f_k0
  clear k1 c_k1 f_k1
  clear k2 c_k2 f_k2
  have k0 := n_k0; clear n_k0
  have k1 := n_k1; clear n_k1
  have k2 := n_k2; clear n_k2
  clear hV_V2
  refine (right_no b n hb h _).mono ?_
  rintro e_W2 W2 ⟨rfl, hb_W2⟩
  have b2 := below_step n_b hb_W2; clear n_b
  replace k0 := keep_blk hb_W2 k0
  obtain ⟨c_k0, f_k0, l_k0_W2⟩ := f3 k0
  replace k1 := keep_blk hb_W2 k1
  obtain ⟨c_k1, f_k1, l_k1_W2⟩ := f3 k1
  replace k2 := keep_blk hb_W2 k2
  obtain ⟨c_k2, f_k2, l_k2_W2⟩ := f3 k2
  have z_W2 := b2.size
  clear hb_W2
  go_wp2
  refine bodyPost_ret (v := .tuple #[.agg #[.int .u64 0, .int .i64 0], .bool false]) (by simp [results, Tryz.results168, go_sem, *]) rfl ⟨rfl, ?_⟩
  (repeat' first | with_reducible assumption | with_reducible exact Below.refl _ _ | with_reducible refine Below.alloc ?_ ?_ _ | with_reducible refine Below.setCell ?_ ?_ _ | with_reducible refine below_drewN ?_ _ | with_reducible refine Below.drew ?_ | exact Nat.le_refl _ | ((try dsimp only); omega) | (simp only [siz_alloc, siz_set]; omega))
theorem split_at (l : List Bool) (hl : l.length ≤ 64) (x y : List Bool) (i : Int) (hx : x = l.take i.toNat) (hy : y = l.drop i.toNat) (A n : Int) (hA : A = pack l) (hn : n = l.length) (w : World) :
    Calls Tryz.prog 143 #[.agg #[.int .u64 A, .int .i64 n], .int .i64 i] w fun e w' =>
      e = .returned (.tuple #[.agg #[.int .u64 (pack x : Int), .int .i64 (x.length : Int)], .agg #[.int .u64 (pack y : Int), .int .i64 (y.length : Int)]]) ∧ Below w.heap.size w w' := by
  subst hx hy hA hn; exact split_list l hl i w
theorem join_at (a b c : List Bool) (h : a.length + b.length ≤ 64) (A n B m : Int) (hA : A = pack a) (hn : n = a.length) (hB : B = pack b) (hm : m = b.length) (hc : c = a ++ b) (w : World) :
    Calls Tryz.prog 168 #[.agg #[.int .u64 A, .int .i64 n], .agg #[.int .u64 B, .int .i64 m]] w fun e w' =>
      e = .returned (.tuple #[.agg #[.int .u64 (pack c : Int), .int .i64 (c.length : Int)], .bool true]) ∧ Below w.heap.size w w' := by
  subst hA hn hB hm hc; exact join_yes a b h w
theorem pack_snoc (l : List Bool) (one : Bool) : pack (l ++ [one]) = pack l + 2 ^ l.length * one.toNat := by rw [pack_append]; simp [pack]
theorem or_bit (l : List Bool) (h : l.length < 64) : Go.bits .or .u64 (pack l : Int) (IntKind.u64.wrap (2 ^ l.length)) = (pack (l ++ [true]) : Int) := by
  have h1 := pack_lt64 (l := l ++ [true]) (by simp; omega)
  rw [pack_snoc] at h1 ⊢
  have e : (2 : Int) ^ l.length = ((2 ^ l.length * 1 : Nat) : Int) := by simp
  simp only [Bool.toNat_true] at h1 ⊢
  rw [e, wrap_u64 (by omega) (by omega), or_shift _ _ _ (pack_lt l) h1]
/-- A row with a bit more. -/
theorem insL_length (l : List Bool) (i : Nat) (one : Bool) : (insL l i one).length = l.length + 1 := by simp [insL]; omega
set_option maxHeartbeats 400000 in
theorem insert_yes (l : List Bool) (i : Nat) (one : Bool) (hi : i ≤ l.length) (hl : l.length < 64) (w : World) :
    Calls Tryz.prog 141 #[.agg #[.int .u64 (pack l : Int), .int .i64 (l.length : Int)], .int .i64 (i : Int), .bool one] w fun e w' =>
      e = .returned (.tuple #[.agg #[.int .u64 (pack (insL l i one) : Int), .int .i64 ((insL l i one).length : Int)], .bool true]) ∧ Below w.heap.size w w' := by
  have d1 : decide ((i : Int) < 0) = false := by simp
  have d2 : decide ((l.length : Int) < (i : Int)) = false := by simp; omega
  have d3 : ((l.length : Int) == 64) = false := by simp; omega
  obtain ⟨x, hx⟩ : ∃ x, x = l.take i := ⟨_, rfl⟩
  obtain ⟨y, hy⟩ : ∃ y, y = l.drop i := ⟨_, rfl⟩
  obtain ⟨c, hc⟩ : ∃ c, c = insL l i one := ⟨_, rfl⟩
  have hxl : x.length = i := by rw [hx]; simp; omega
  have hsum : x.length + y.length = l.length := by rw [hx, hy]; simp; omega
  have HX := Lib.hid hx; have HY := Lib.hid hy
  have HC : Hid (c = (x ++ [one]) ++ y) := by show _ = _; rw [hc, hx, hy]; simp [insL]
  rw [← hc]
  have hs1 : x.length ≤ 63 := by omega
  have hs2 : x.length + 1 + y.length ≤ 64 := by omega
  have hu := Lib.hid (or_bit x (by omega))
  have hxi := Lib.hid hxl
  have e0 := Lib.hid (pack_snoc x false)
  clear hx hy hc hsum hxl
  cases one
  · go_enter Tryz.func141, Tryz.ntmps141
    go_wp2_with fail
    refine calls_gen fun V1 hV_V1 => ?_
    have n_k0 := congrArg (fun v : World => v.heap[w.heap.size]?) hV_V1
    have n_k1 := congrArg (fun v : World => v.heap[w.heap.size + 1]?) hV_V1
    simp (maxDischargeDepth := 9) only [BK, not_false_eq_true, reduceCtorEq] at n_k0
    simp (maxDischargeDepth := 9) only [BK, not_false_eq_true, reduceCtorEq] at n_k1
    have n_b : Below w.heap.size w V1 := by rw [hV_V1]; (repeat' first | with_reducible assumption | with_reducible exact Below.refl _ _ | with_reducible refine Below.alloc ?_ ?_ _ | with_reducible refine Below.setCell ?_ ?_ _ | with_reducible refine below_drewN ?_ _ | with_reducible refine Below.drew ?_ | exact Nat.le_refl _ | ((try dsimp only); omega) | (simp only [siz_alloc, siz_set]; omega))
    have k0 := n_k0; clear n_k0
    have k1 := n_k1; clear n_k1
    clear hV_V1
    refine (right_yes l (by omega) _).mono ?_
    rintro e_W1 W1 ⟨rfl, hb_W1⟩
    have b1 := below_step n_b hb_W1; clear n_b
    replace k0 := keep_blk hb_W1 k0
    obtain ⟨c_k0, f_k0, l_k0_W1⟩ := f3 k0
    replace k1 := keep_blk hb_W1 k1
    obtain ⟨c_k1, f_k1, l_k1_W1⟩ := f3 k1
    have z_W1 := b1.size
    clear hb_W1
    go_wp2_with fail
    refine calls_gen fun V2 hV_V2 => ?_
    have n_k0 := congrArg (fun v : World => v.heap[w.heap.size]?) hV_V2
    have n_k1 := congrArg (fun v : World => v.heap[w.heap.size + 1]?) hV_V2
    simp (maxDischargeDepth := 9) only [BK, not_false_eq_true, reduceCtorEq, k0, k1, l_k0_W1, l_k1_W1] at n_k0
    simp (maxDischargeDepth := 9) only [BK, not_false_eq_true, reduceCtorEq, k0, k1, l_k0_W1, l_k1_W1] at n_k1
    have n_b : Below w.heap.size w V2 := by rw [hV_V2]; (repeat' first | with_reducible assumption | with_reducible exact Below.refl _ _ | with_reducible refine Below.alloc ?_ ?_ _ | with_reducible refine Below.setCell ?_ ?_ _ | with_reducible refine below_drewN ?_ _ | with_reducible refine Below.drew ?_ | exact Nat.le_refl _ | ((try dsimp only); omega) | (simp only [siz_alloc, siz_set]; omega))
    clear k0 c_k0 f_k0
    clear k1 c_k1 f_k1
    have k0 := n_k0; clear n_k0
    have k1 := n_k1; clear n_k1
    clear hV_V2
    refine (split_at l (by omega) x y _ (by rw [HX.out]; simp) (by rw [HY.out]; simp) _ _ rfl rfl _).mono ?_
    rintro e_W2 W2 ⟨rfl, hb_W2⟩
    have b2 := below_step n_b hb_W2; clear n_b
    replace k0 := keep_blk hb_W2 k0
    obtain ⟨c_k0, f_k0, l_k0_W2⟩ := f3 k0
    replace k1 := keep_blk hb_W2 k1
    obtain ⟨c_k1, f_k1, l_k1_W2⟩ := f3 k1
    have z_W2 := b2.size
    clear hb_W2
    go_wp2_with fail
    refine calls_gen fun V3 hV_V3 => ?_
    have n_k0 := congrArg (fun v : World => v.heap[w.heap.size]?) hV_V3
    have n_k1 := congrArg (fun v : World => v.heap[w.heap.size + 1]?) hV_V3
    simp (maxDischargeDepth := 9) only [BK, not_false_eq_true, reduceCtorEq, k0, k1, l_k0_W1, l_k1_W1, l_k0_W2, l_k1_W2] at n_k0
    simp (maxDischargeDepth := 9) only [BK, not_false_eq_true, reduceCtorEq, k0, k1, l_k0_W1, l_k1_W1, l_k0_W2, l_k1_W2] at n_k1
    have n_b : Below w.heap.size w V3 := by rw [hV_V3]; (repeat' first | with_reducible assumption | with_reducible exact Below.refl _ _ | with_reducible refine Below.alloc ?_ ?_ _ | with_reducible refine Below.setCell ?_ ?_ _ | with_reducible refine below_drewN ?_ _ | with_reducible refine Below.drew ?_ | exact Nat.le_refl _ | ((try dsimp only); omega) | (simp only [siz_alloc, siz_set]; omega))
    clear k0 c_k0 f_k0
    clear k1 c_k1 f_k1
    have k0 := n_k0; clear n_k0
    have k1 := n_k1; clear n_k1
    clear hV_V3
    refine (join_at (x ++ [false]) y c (by simp; omega) _ _ _ _ (by rw [e0.out]; simp) (by simp) rfl rfl HC.out _).mono ?_
    rintro e_W3 W3 ⟨rfl, hb_W3⟩
    have b3 := below_step n_b hb_W3; clear n_b
    replace k0 := keep_blk hb_W3 k0
    obtain ⟨c_k0, f_k0, l_k0_W3⟩ := f3 k0
    replace k1 := keep_blk hb_W3 k1
    obtain ⟨c_k1, f_k1, l_k1_W3⟩ := f3 k1
    have z_W3 := b3.size
    clear hb_W3
    go_wp2
    refine bodyPost_ret (v := .tuple #[.agg #[.int .u64 (pack c : Int), .int .i64 (c.length : Int)], .bool true]) (by simp [results, Tryz.results141, go_sem, *]) rfl ⟨rfl, ?_⟩
    (repeat' first | with_reducible assumption | with_reducible exact Below.refl _ _ | with_reducible refine Below.alloc ?_ ?_ _ | with_reducible refine Below.setCell ?_ ?_ _ | with_reducible refine below_drewN ?_ _ | with_reducible refine Below.drew ?_ | exact Nat.le_refl _ | ((try dsimp only); omega) | (simp only [siz_alloc, siz_set]; omega))
  · go_enter Tryz.func141, Tryz.ntmps141
    go_wp2_with fail
    refine calls_gen fun V1 hV_V1 => ?_
    have n_k0 := congrArg (fun v : World => v.heap[w.heap.size]?) hV_V1
    have n_k1 := congrArg (fun v : World => v.heap[w.heap.size + 1]?) hV_V1
    simp (maxDischargeDepth := 9) only [BK, not_false_eq_true, reduceCtorEq] at n_k0
    simp (maxDischargeDepth := 9) only [BK, not_false_eq_true, reduceCtorEq] at n_k1
    have n_b : Below w.heap.size w V1 := by rw [hV_V1]; (repeat' first | with_reducible assumption | with_reducible exact Below.refl _ _ | with_reducible refine Below.alloc ?_ ?_ _ | with_reducible refine Below.setCell ?_ ?_ _ | with_reducible refine below_drewN ?_ _ | with_reducible refine Below.drew ?_ | exact Nat.le_refl _ | ((try dsimp only); omega) | (simp only [siz_alloc, siz_set]; omega))
    have k0 := n_k0; clear n_k0
    have k1 := n_k1; clear n_k1
    clear hV_V1
    refine (right_yes l (by omega) _).mono ?_
    rintro e_W1 W1 ⟨rfl, hb_W1⟩
    have b1 := below_step n_b hb_W1; clear n_b
    replace k0 := keep_blk hb_W1 k0
    obtain ⟨c_k0, f_k0, l_k0_W1⟩ := f3 k0
    replace k1 := keep_blk hb_W1 k1
    obtain ⟨c_k1, f_k1, l_k1_W1⟩ := f3 k1
    have z_W1 := b1.size
    clear hb_W1
    go_wp2_with fail
    refine calls_gen fun V2 hV_V2 => ?_
    have n_k0 := congrArg (fun v : World => v.heap[w.heap.size]?) hV_V2
    have n_k1 := congrArg (fun v : World => v.heap[w.heap.size + 1]?) hV_V2
    simp (maxDischargeDepth := 9) only [BK, not_false_eq_true, reduceCtorEq, k0, k1, l_k0_W1, l_k1_W1] at n_k0
    simp (maxDischargeDepth := 9) only [BK, not_false_eq_true, reduceCtorEq, k0, k1, l_k0_W1, l_k1_W1] at n_k1
    have n_b : Below w.heap.size w V2 := by rw [hV_V2]; (repeat' first | with_reducible assumption | with_reducible exact Below.refl _ _ | with_reducible refine Below.alloc ?_ ?_ _ | with_reducible refine Below.setCell ?_ ?_ _ | with_reducible refine below_drewN ?_ _ | with_reducible refine Below.drew ?_ | exact Nat.le_refl _ | ((try dsimp only); omega) | (simp only [siz_alloc, siz_set]; omega))
    clear k0 c_k0 f_k0
    clear k1 c_k1 f_k1
    have k0 := n_k0; clear n_k0
    have k1 := n_k1; clear n_k1
    clear hV_V2
    refine (split_at l (by omega) x y _ (by rw [HX.out]; simp) (by rw [HY.out]; simp) _ _ rfl rfl _).mono ?_
    rintro e_W2 W2 ⟨rfl, hb_W2⟩
    have b2 := below_step n_b hb_W2; clear n_b
    replace k0 := keep_blk hb_W2 k0
    obtain ⟨c_k0, f_k0, l_k0_W2⟩ := f3 k0
    replace k1 := keep_blk hb_W2 k1
    obtain ⟨c_k1, f_k1, l_k1_W2⟩ := f3 k1
    have z_W2 := b2.size
    clear hb_W2
    go_wp2_with fail
    go_region
    go_wp2_with fail
    refine calls_gen fun V3 hV_V3 => ?_
    have n_k0 := congrArg (fun v : World => v.heap[w.heap.size]?) hV_V3
    have n_k1 := congrArg (fun v : World => v.heap[w.heap.size + 1]?) hV_V3
    simp (maxDischargeDepth := 9) only [BK, not_false_eq_true, reduceCtorEq, k0, k1, l_k0_W1, l_k1_W1, l_k0_W2, l_k1_W2] at n_k0
    simp (maxDischargeDepth := 9) only [BK, not_false_eq_true, reduceCtorEq, k0, k1, l_k0_W1, l_k1_W1, l_k0_W2, l_k1_W2] at n_k1
    have n_b : Below w.heap.size w V3 := by rw [hV_V3]; (repeat' first | with_reducible assumption | with_reducible exact Below.refl _ _ | with_reducible refine Below.alloc ?_ ?_ _ | with_reducible refine Below.setCell ?_ ?_ _ | with_reducible refine below_drewN ?_ _ | with_reducible refine Below.drew ?_ | exact Nat.le_refl _ | ((try dsimp only); omega) | (simp only [siz_alloc, siz_set]; omega))
    clear k0 c_k0 f_k0
    clear k1 c_k1 f_k1
    have k0 := n_k0; clear n_k0
    have k1 := n_k1; clear n_k1
    clear hV_V3
    refine (join_at (x ++ [true]) y c (by simp; omega) _ _ _ _ (by rw [← hu.out, hxi.out]) (by simp) rfl rfl HC.out _).mono ?_
    rintro e_W3 W3 ⟨rfl, hb_W3⟩
    have b3 := below_step n_b hb_W3; clear n_b
    replace k0 := keep_blk hb_W3 k0
    obtain ⟨c_k0, f_k0, l_k0_W3⟩ := f3 k0
    replace k1 := keep_blk hb_W3 k1
    obtain ⟨c_k1, f_k1, l_k1_W3⟩ := f3 k1
    have z_W3 := b3.size
    clear hb_W3
    go_wp2
    refine bodyPost_ret (v := .tuple #[.agg #[.int .u64 (pack c : Int), .int .i64 (c.length : Int)], .bool true]) (by simp [results, Tryz.results141, go_sem, *]) rfl ⟨rfl, ?_⟩
    (repeat' first | with_reducible assumption | with_reducible exact Below.refl _ _ | with_reducible refine Below.alloc ?_ ?_ _ | with_reducible refine Below.setCell ?_ ?_ _ | with_reducible refine below_drewN ?_ _ | with_reducible refine Below.drew ?_ | exact Nat.le_refl _ | ((try dsimp only); omega) | (simp only [siz_alloc, siz_set]; omega))
set_option maxHeartbeats 400000 in
theorem insert_out (l : List Bool) (hl : l.length ≤ 64) (i : Int) (one : Bool) (hi : i < 0 ∨ l.length < i ∨ l.length = 64) (w : World) :
    Calls Tryz.prog 141 #[.agg #[.int .u64 (pack l : Int), .int .i64 (l.length : Int)], .int .i64 i, .bool one] w fun e w' =>
      e = .returned (.tuple #[.agg #[.int .u64 0, .int .i64 0], .bool false]) ∧ Below w.heap.size w w' := by
  by_cases h1 : i < 0
  · have d1 : decide (i < 0) = true := by simpa using h1
    go_enter Tryz.func141, Tryz.ntmps141
    go_wp2_with fail
    refine calls_gen fun V1 hV_V1 => ?_
    have n_k0 := congrArg (fun v : World => v.heap[w.heap.size]?) hV_V1
    have n_k1 := congrArg (fun v : World => v.heap[w.heap.size + 1]?) hV_V1
    simp (maxDischargeDepth := 9) only [BK, not_false_eq_true, reduceCtorEq] at n_k0
    simp (maxDischargeDepth := 9) only [BK, not_false_eq_true, reduceCtorEq] at n_k1
    have n_b : Below w.heap.size w V1 := by rw [hV_V1]; (repeat' first | with_reducible assumption | with_reducible exact Below.refl _ _ | with_reducible refine Below.alloc ?_ ?_ _ | with_reducible refine Below.setCell ?_ ?_ _ | with_reducible refine below_drewN ?_ _ | with_reducible refine Below.drew ?_ | exact Nat.le_refl _ | ((try dsimp only); omega) | (simp only [siz_alloc, siz_set]; omega))
    have k0 := n_k0; clear n_k0
    have k1 := n_k1; clear n_k1
    clear hV_V1
    refine (right_yes l hl _).mono ?_
    rintro e_W1 W1 ⟨rfl, hb_W1⟩
    have b1 := below_step n_b hb_W1; clear n_b
    replace k0 := keep_blk hb_W1 k0
    obtain ⟨c_k0, f_k0, l_k0_W1⟩ := f3 k0
    replace k1 := keep_blk hb_W1 k1
    obtain ⟨c_k1, f_k1, l_k1_W1⟩ := f3 k1
    have z_W1 := b1.size
    clear hb_W1
    go_wp2
    refine bodyPost_ret (v := .tuple #[.agg #[.int .u64 0, .int .i64 0], .bool false]) (by simp [results, Tryz.results141, go_sem, *]) rfl ⟨rfl, ?_⟩
    (repeat' first | with_reducible assumption | with_reducible exact Below.refl _ _ | with_reducible refine Below.alloc ?_ ?_ _ | with_reducible refine Below.setCell ?_ ?_ _ | with_reducible refine below_drewN ?_ _ | with_reducible refine Below.drew ?_ | exact Nat.le_refl _ | ((try dsimp only); omega) | (simp only [siz_alloc, siz_set]; omega))
  · have d1 : decide (i < 0) = false := by simp; omega
    by_cases h2 : l.length < i
    · have d2 : decide ((l.length : Int) < i) = true := by simpa using h2
      go_enter Tryz.func141, Tryz.ntmps141
      go_wp2_with fail
      refine calls_gen fun V1 hV_V1 => ?_
      have n_k0 := congrArg (fun v : World => v.heap[w.heap.size]?) hV_V1
      have n_k1 := congrArg (fun v : World => v.heap[w.heap.size + 1]?) hV_V1
      simp (maxDischargeDepth := 9) only [BK, not_false_eq_true, reduceCtorEq] at n_k0
      simp (maxDischargeDepth := 9) only [BK, not_false_eq_true, reduceCtorEq] at n_k1
      have n_b : Below w.heap.size w V1 := by rw [hV_V1]; (repeat' first | with_reducible assumption | with_reducible exact Below.refl _ _ | with_reducible refine Below.alloc ?_ ?_ _ | with_reducible refine Below.setCell ?_ ?_ _ | with_reducible refine below_drewN ?_ _ | with_reducible refine Below.drew ?_ | exact Nat.le_refl _ | ((try dsimp only); omega) | (simp only [siz_alloc, siz_set]; omega))
      have k0 := n_k0; clear n_k0
      have k1 := n_k1; clear n_k1
      clear hV_V1
      refine (right_yes l hl _).mono ?_
      rintro e_W1 W1 ⟨rfl, hb_W1⟩
      have b1 := below_step n_b hb_W1; clear n_b
      replace k0 := keep_blk hb_W1 k0
      obtain ⟨c_k0, f_k0, l_k0_W1⟩ := f3 k0
      replace k1 := keep_blk hb_W1 k1
      obtain ⟨c_k1, f_k1, l_k1_W1⟩ := f3 k1
      have z_W1 := b1.size
      clear hb_W1
      go_wp2
      refine bodyPost_ret (v := .tuple #[.agg #[.int .u64 0, .int .i64 0], .bool false]) (by simp [results, Tryz.results141, go_sem, *]) rfl ⟨rfl, ?_⟩
      (repeat' first | with_reducible assumption | with_reducible exact Below.refl _ _ | with_reducible refine Below.alloc ?_ ?_ _ | with_reducible refine Below.setCell ?_ ?_ _ | with_reducible refine below_drewN ?_ _ | with_reducible refine Below.drew ?_ | exact Nat.le_refl _ | ((try dsimp only); omega) | (simp only [siz_alloc, siz_set]; omega))
    · have d2 : decide ((l.length : Int) < i) = false := by simp; omega
      have d3 : ((l.length : Int) == 64) = true := by simp; omega
      clear hi
      go_enter Tryz.func141, Tryz.ntmps141
      go_wp2_with fail
      refine calls_gen fun V1 hV_V1 => ?_
      have n_k0 := congrArg (fun v : World => v.heap[w.heap.size]?) hV_V1
      have n_k1 := congrArg (fun v : World => v.heap[w.heap.size + 1]?) hV_V1
      simp (maxDischargeDepth := 9) only [BK, not_false_eq_true, reduceCtorEq] at n_k0
      simp (maxDischargeDepth := 9) only [BK, not_false_eq_true, reduceCtorEq] at n_k1
      have n_b : Below w.heap.size w V1 := by rw [hV_V1]; (repeat' first | with_reducible assumption | with_reducible exact Below.refl _ _ | with_reducible refine Below.alloc ?_ ?_ _ | with_reducible refine Below.setCell ?_ ?_ _ | with_reducible refine below_drewN ?_ _ | with_reducible refine Below.drew ?_ | exact Nat.le_refl _ | ((try dsimp only); omega) | (simp only [siz_alloc, siz_set]; omega))
      have k0 := n_k0; clear n_k0
      have k1 := n_k1; clear n_k1
      clear hV_V1
      refine (right_yes l hl _).mono ?_
      rintro e_W1 W1 ⟨rfl, hb_W1⟩
      have b1 := below_step n_b hb_W1; clear n_b
      replace k0 := keep_blk hb_W1 k0
      obtain ⟨c_k0, f_k0, l_k0_W1⟩ := f3 k0
      replace k1 := keep_blk hb_W1 k1
      obtain ⟨c_k1, f_k1, l_k1_W1⟩ := f3 k1
      have z_W1 := b1.size
      clear hb_W1
      go_wp2
      refine bodyPost_ret (v := .tuple #[.agg #[.int .u64 0, .int .i64 0], .bool false]) (by simp [results, Tryz.results141, go_sem, *]) rfl ⟨rfl, ?_⟩
      (repeat' first | with_reducible assumption | with_reducible exact Below.refl _ _ | with_reducible refine Below.alloc ?_ ?_ _ | with_reducible refine Below.setCell ?_ ?_ _ | with_reducible refine below_drewN ?_ _ | with_reducible refine Below.drew ?_ | exact Nat.le_refl _ | ((try dsimp only); omega) | (simp only [siz_alloc, siz_set]; omega))
set_option maxHeartbeats 400000 in
theorem insert_no (b : Nat) (n : Int) (hb : b < 2 ^ 64) (h : ¬ Rt b n) (i : Int) (one : Bool) (w : World) :
    Calls Tryz.prog 141 #[.agg #[.int .u64 (b : Int), .int .i64 n], .int .i64 i, .bool one] w fun e w' =>
      e = .returned (.tuple #[.agg #[.int .u64 0, .int .i64 0], .bool false]) ∧ Below w.heap.size w w' := by
  go_enter Tryz.func141, Tryz.ntmps141
  go_wp2_with fail
  refine calls_gen fun V1 hV_V1 => ?_
  have n_k0 := congrArg (fun v : World => v.heap[w.heap.size]?) hV_V1
  have n_k1 := congrArg (fun v : World => v.heap[w.heap.size + 1]?) hV_V1
  simp (maxDischargeDepth := 9) only [BK, not_false_eq_true, reduceCtorEq] at n_k0
  simp (maxDischargeDepth := 9) only [BK, not_false_eq_true, reduceCtorEq] at n_k1
  have n_b : Below w.heap.size w V1 := by rw [hV_V1]; (repeat' first | with_reducible assumption | with_reducible exact Below.refl _ _ | with_reducible refine Below.alloc ?_ ?_ _ | with_reducible refine Below.setCell ?_ ?_ _ | with_reducible refine below_drewN ?_ _ | with_reducible refine Below.drew ?_ | exact Nat.le_refl _ | ((try dsimp only); omega) | (simp only [siz_alloc, siz_set]; omega))
  have k0 := n_k0; clear n_k0
  have k1 := n_k1; clear n_k1
  clear hV_V1
  refine (right_no b n hb h _).mono ?_
  rintro e_W1 W1 ⟨rfl, hb_W1⟩
  have b1 := below_step n_b hb_W1; clear n_b
  replace k0 := keep_blk hb_W1 k0
  obtain ⟨c_k0, f_k0, l_k0_W1⟩ := f3 k0
  replace k1 := keep_blk hb_W1 k1
  obtain ⟨c_k1, f_k1, l_k1_W1⟩ := f3 k1
  have z_W1 := b1.size
  clear hb_W1
  go_wp2
  refine bodyPost_ret (v := .tuple #[.agg #[.int .u64 0, .int .i64 0], .bool false]) (by simp [results, Tryz.results141, go_sem, *]) rfl ⟨rfl, ?_⟩
  (repeat' first | with_reducible assumption | with_reducible exact Below.refl _ _ | with_reducible refine Below.alloc ?_ ?_ _ | with_reducible refine Below.setCell ?_ ?_ _ | with_reducible refine below_drewN ?_ _ | with_reducible refine Below.drew ?_ | exact Nat.le_refl _ | ((try dsimp only); omega) | (simp only [siz_alloc, siz_set]; omega))
set_option maxHeartbeats 400000 in
theorem delete_yes (l : List Bool) (i : Nat) (hi : i < l.length) (hl : l.length ≤ 64) (w : World) :
    Calls Tryz.prog 188 #[.agg #[.int .u64 (pack l : Int), .int .i64 (l.length : Int)], .int .i64 (i : Int)] w fun e w' =>
      e = .returned (.tuple #[.agg #[.int .u64 (pack (l.eraseIdx i) : Int), .int .i64 ((l.eraseIdx i).length : Int)], .bool true]) ∧ Below w.heap.size w w' := by
  have d1 : decide ((i : Int) < 0) = false := by simp
  have d2 : decide ((l.length : Int) ≤ (i : Int)) = false := by simp; omega
  obtain ⟨x, hx⟩ : ∃ x, x = l.take i := ⟨_, rfl⟩
  obtain ⟨y, hy⟩ : ∃ y, y = l.drop i := ⟨_, rfl⟩
  obtain ⟨y0, hy0⟩ : ∃ y0, y0 = y.take 1 := ⟨_, rfl⟩
  obtain ⟨y1, hy1⟩ : ∃ y1, y1 = y.drop 1 := ⟨_, rfl⟩
  obtain ⟨c, hc⟩ : ∃ c, c = l.eraseIdx i := ⟨_, rfl⟩
  have hyl : y.length ≤ 64 := by rw [hy]; simp; omega
  have hs : x.length + y1.length ≤ 64 := by rw [hx, hy1, hy]; simp; omega
  have HX := Lib.hid hx; have HY := Lib.hid hy; have HY0 := Lib.hid hy0; have HY1 := Lib.hid hy1
  have HC : Hid (c = x ++ y1) := by show _ = _; rw [hc, hx, hy1, hy, List.drop_drop, List.eraseIdx_eq_take_drop_succ]
  rw [← hc]
  clear hx hy hy0 hy1 hc
  go_enter Tryz.func188, Tryz.ntmps188
  go_wp2_with fail
  refine calls_gen fun V1 hV_V1 => ?_
  have n_k0 := congrArg (fun v : World => v.heap[w.heap.size]?) hV_V1
  have n_k1 := congrArg (fun v : World => v.heap[w.heap.size + 1]?) hV_V1
  simp (maxDischargeDepth := 9) only [BK, not_false_eq_true, reduceCtorEq] at n_k0
  simp (maxDischargeDepth := 9) only [BK, not_false_eq_true, reduceCtorEq] at n_k1
  have n_b : Below w.heap.size w V1 := by rw [hV_V1]; (repeat' first | with_reducible assumption | with_reducible exact Below.refl _ _ | with_reducible refine Below.alloc ?_ ?_ _ | with_reducible refine Below.setCell ?_ ?_ _ | with_reducible refine below_drewN ?_ _ | with_reducible refine Below.drew ?_ | exact Nat.le_refl _ | ((try dsimp only); omega) | (simp only [siz_alloc, siz_set]; omega))
  have k0 := n_k0; clear n_k0
  have k1 := n_k1; clear n_k1
  clear hV_V1
  refine (right_yes l hl _).mono ?_
  rintro e_W1 W1 ⟨rfl, hb_W1⟩
  have b1 := below_step n_b hb_W1; clear n_b
  replace k0 := keep_blk hb_W1 k0
  obtain ⟨c_k0, f_k0, l_k0_W1⟩ := f3 k0
  replace k1 := keep_blk hb_W1 k1
  obtain ⟨c_k1, f_k1, l_k1_W1⟩ := f3 k1
  have z_W1 := b1.size
  clear hb_W1
  go_wp2_with fail
  refine calls_gen fun V2 hV_V2 => ?_
  have n_k0 := congrArg (fun v : World => v.heap[w.heap.size]?) hV_V2
  have n_k1 := congrArg (fun v : World => v.heap[w.heap.size + 1]?) hV_V2
  simp (maxDischargeDepth := 9) only [BK, not_false_eq_true, reduceCtorEq, k0, k1, l_k0_W1, l_k1_W1] at n_k0
  simp (maxDischargeDepth := 9) only [BK, not_false_eq_true, reduceCtorEq, k0, k1, l_k0_W1, l_k1_W1] at n_k1
  have n_b : Below w.heap.size w V2 := by rw [hV_V2]; (repeat' first | with_reducible assumption | with_reducible exact Below.refl _ _ | with_reducible refine Below.alloc ?_ ?_ _ | with_reducible refine Below.setCell ?_ ?_ _ | with_reducible refine below_drewN ?_ _ | with_reducible refine Below.drew ?_ | exact Nat.le_refl _ | ((try dsimp only); omega) | (simp only [siz_alloc, siz_set]; omega))
  clear k0 c_k0 f_k0
  clear k1 c_k1 f_k1
  have k0 := n_k0; clear n_k0
  have k1 := n_k1; clear n_k1
  clear hV_V2
  refine (split_at l hl x y _ (by rw [HX.out]; simp) (by rw [HY.out]; simp) _ _ rfl rfl _).mono ?_
  rintro e_W2 W2 ⟨rfl, hb_W2⟩
  have b2 := below_step n_b hb_W2; clear n_b
  replace k0 := keep_blk hb_W2 k0
  obtain ⟨c_k0, f_k0, l_k0_W2⟩ := f3 k0
  replace k1 := keep_blk hb_W2 k1
  obtain ⟨c_k1, f_k1, l_k1_W2⟩ := f3 k1
  have z_W2 := b2.size
  clear hb_W2
  go_wp2_with fail
  refine calls_gen fun V3 hV_V3 => ?_
  have n_k0 := congrArg (fun v : World => v.heap[w.heap.size]?) hV_V3
  have n_k1 := congrArg (fun v : World => v.heap[w.heap.size + 1]?) hV_V3
  have n_k2 := congrArg (fun v : World => v.heap[W2.heap.size]?) hV_V3
  have n_k3 := congrArg (fun v : World => v.heap[W2.heap.size + 1]?) hV_V3
  simp (maxDischargeDepth := 9) only [BK, not_false_eq_true, reduceCtorEq, k0, k1, l_k0_W1, l_k1_W1, l_k0_W2, l_k1_W2] at n_k0
  simp (maxDischargeDepth := 9) only [BK, not_false_eq_true, reduceCtorEq, k0, k1, l_k0_W1, l_k1_W1, l_k0_W2, l_k1_W2] at n_k1
  simp (maxDischargeDepth := 9) only [BK, not_false_eq_true, reduceCtorEq, k0, k1, l_k0_W1, l_k1_W1, l_k0_W2, l_k1_W2] at n_k2
  simp (maxDischargeDepth := 9) only [BK, not_false_eq_true, reduceCtorEq, k0, k1, l_k0_W1, l_k1_W1, l_k0_W2, l_k1_W2] at n_k3
  have n_b : Below w.heap.size w V3 := by rw [hV_V3]; (repeat' first | with_reducible assumption | with_reducible exact Below.refl _ _ | with_reducible refine Below.alloc ?_ ?_ _ | with_reducible refine Below.setCell ?_ ?_ _ | with_reducible refine below_drewN ?_ _ | with_reducible refine Below.drew ?_ | exact Nat.le_refl _ | ((try dsimp only); omega) | (simp only [siz_alloc, siz_set]; omega))
  clear k0 c_k0 f_k0
  clear k1 c_k1 f_k1
  have k0 := n_k0; clear n_k0
  have k1 := n_k1; clear n_k1
  have k2 := n_k2; clear n_k2
  have k3 := n_k3; clear n_k3
  clear hV_V3
  refine (split_at y hyl y0 y1 1 HY0.out HY1.out _ _ rfl rfl _).mono ?_
  rintro e_W3 W3 ⟨rfl, hb_W3⟩
  have b3 := below_step n_b hb_W3; clear n_b
  replace k0 := keep_blk hb_W3 k0
  obtain ⟨c_k0, f_k0, l_k0_W3⟩ := f3 k0
  replace k1 := keep_blk hb_W3 k1
  obtain ⟨c_k1, f_k1, l_k1_W3⟩ := f3 k1
  replace k2 := keep_blk hb_W3 k2
  obtain ⟨c_k2, f_k2, l_k2_W3⟩ := f3 k2
  replace k3 := keep_blk hb_W3 k3
  obtain ⟨c_k3, f_k3, l_k3_W3⟩ := f3 k3
  have z_W3 := b3.size
  clear hb_W3
  go_wp2_with fail
  refine calls_gen fun V4 hV_V4 => ?_
  have n_k0 := congrArg (fun v : World => v.heap[w.heap.size]?) hV_V4
  have n_k1 := congrArg (fun v : World => v.heap[w.heap.size + 1]?) hV_V4
  simp (maxDischargeDepth := 9) only [BK, not_false_eq_true, reduceCtorEq, k0, k1, k2, k3, l_k0_W1, l_k1_W1, l_k0_W2, l_k1_W2, l_k0_W3, l_k1_W3, l_k2_W3, l_k3_W3] at n_k0
  simp (maxDischargeDepth := 9) only [BK, not_false_eq_true, reduceCtorEq, k0, k1, k2, k3, l_k0_W1, l_k1_W1, l_k0_W2, l_k1_W2, l_k0_W3, l_k1_W3, l_k2_W3, l_k3_W3] at n_k1
  have n_b : Below w.heap.size w V4 := by rw [hV_V4]; (repeat' first | with_reducible assumption | with_reducible exact Below.refl _ _ | with_reducible refine Below.alloc ?_ ?_ _ | with_reducible refine Below.setCell ?_ ?_ _ | with_reducible refine below_drewN ?_ _ | with_reducible refine Below.drew ?_ | exact Nat.le_refl _ | ((try dsimp only); omega) | (simp only [siz_alloc, siz_set]; omega))
  clear k0 c_k0 f_k0
  clear k1 c_k1 f_k1
  clear k2 c_k2 f_k2
  clear k3 c_k3 f_k3
  have k0 := n_k0; clear n_k0
  have k1 := n_k1; clear n_k1
  clear hV_V4
  refine (join_at x y1 c hs _ _ _ _ rfl rfl rfl rfl HC.out _).mono ?_
  rintro e_W4 W4 ⟨rfl, hb_W4⟩
  have b4 := below_step n_b hb_W4; clear n_b
  replace k0 := keep_blk hb_W4 k0
  obtain ⟨c_k0, f_k0, l_k0_W4⟩ := f3 k0
  replace k1 := keep_blk hb_W4 k1
  obtain ⟨c_k1, f_k1, l_k1_W4⟩ := f3 k1
  have z_W4 := b4.size
  clear hb_W4
  go_wp2
  refine bodyPost_ret (v := .tuple #[.agg #[.int .u64 (pack c : Int), .int .i64 (c.length : Int)], .bool true]) (by simp [results, Tryz.results188, go_sem, *]) rfl ⟨rfl, ?_⟩
  (repeat' first | with_reducible assumption | with_reducible exact Below.refl _ _ | with_reducible refine Below.alloc ?_ ?_ _ | with_reducible refine Below.setCell ?_ ?_ _ | with_reducible refine below_drewN ?_ _ | with_reducible refine Below.drew ?_ | exact Nat.le_refl _ | ((try dsimp only); omega) | (simp only [siz_alloc, siz_set]; omega))
set_option maxHeartbeats 400000 in
theorem delete_out (l : List Bool) (hl : l.length ≤ 64) (i : Int) (hi : i < 0 ∨ l.length ≤ i) (w : World) :
    Calls Tryz.prog 188 #[.agg #[.int .u64 (pack l : Int), .int .i64 (l.length : Int)], .int .i64 i] w fun e w' =>
      e = .returned (.tuple #[.agg #[.int .u64 0, .int .i64 0], .bool false]) ∧ Below w.heap.size w w' := by
  by_cases h1 : i < 0
  · have d1 : decide (i < 0) = true := by simpa using h1
    go_enter Tryz.func188, Tryz.ntmps188
    go_wp2_with fail
    refine calls_gen fun V1 hV_V1 => ?_
    have n_k0 := congrArg (fun v : World => v.heap[w.heap.size]?) hV_V1
    have n_k1 := congrArg (fun v : World => v.heap[w.heap.size + 1]?) hV_V1
    simp (maxDischargeDepth := 9) only [BK, not_false_eq_true, reduceCtorEq] at n_k0
    simp (maxDischargeDepth := 9) only [BK, not_false_eq_true, reduceCtorEq] at n_k1
    have n_b : Below w.heap.size w V1 := by rw [hV_V1]; (repeat' first | with_reducible assumption | with_reducible exact Below.refl _ _ | with_reducible refine Below.alloc ?_ ?_ _ | with_reducible refine Below.setCell ?_ ?_ _ | with_reducible refine below_drewN ?_ _ | with_reducible refine Below.drew ?_ | exact Nat.le_refl _ | ((try dsimp only); omega) | (simp only [siz_alloc, siz_set]; omega))
    have k0 := n_k0; clear n_k0
    have k1 := n_k1; clear n_k1
    clear hV_V1
    refine (right_yes l hl _).mono ?_
    rintro e_W1 W1 ⟨rfl, hb_W1⟩
    have b1 := below_step n_b hb_W1; clear n_b
    replace k0 := keep_blk hb_W1 k0
    obtain ⟨c_k0, f_k0, l_k0_W1⟩ := f3 k0
    replace k1 := keep_blk hb_W1 k1
    obtain ⟨c_k1, f_k1, l_k1_W1⟩ := f3 k1
    have z_W1 := b1.size
    clear hb_W1
    go_wp2
    refine bodyPost_ret (v := .tuple #[.agg #[.int .u64 0, .int .i64 0], .bool false]) (by simp [results, Tryz.results188, go_sem, *]) rfl ⟨rfl, ?_⟩
    (repeat' first | with_reducible assumption | with_reducible exact Below.refl _ _ | with_reducible refine Below.alloc ?_ ?_ _ | with_reducible refine Below.setCell ?_ ?_ _ | with_reducible refine below_drewN ?_ _ | with_reducible refine Below.drew ?_ | exact Nat.le_refl _ | ((try dsimp only); omega) | (simp only [siz_alloc, siz_set]; omega))
  · have d1 : decide (i < 0) = false := by simp; omega
    have d2 : decide ((l.length : Int) ≤ i) = true := by simp; omega
    go_enter Tryz.func188, Tryz.ntmps188
    go_wp2_with fail
    refine calls_gen fun V1 hV_V1 => ?_
    have n_k0 := congrArg (fun v : World => v.heap[w.heap.size]?) hV_V1
    have n_k1 := congrArg (fun v : World => v.heap[w.heap.size + 1]?) hV_V1
    simp (maxDischargeDepth := 9) only [BK, not_false_eq_true, reduceCtorEq] at n_k0
    simp (maxDischargeDepth := 9) only [BK, not_false_eq_true, reduceCtorEq] at n_k1
    have n_b : Below w.heap.size w V1 := by rw [hV_V1]; (repeat' first | with_reducible assumption | with_reducible exact Below.refl _ _ | with_reducible refine Below.alloc ?_ ?_ _ | with_reducible refine Below.setCell ?_ ?_ _ | with_reducible refine below_drewN ?_ _ | with_reducible refine Below.drew ?_ | exact Nat.le_refl _ | ((try dsimp only); omega) | (simp only [siz_alloc, siz_set]; omega))
    have k0 := n_k0; clear n_k0
    have k1 := n_k1; clear n_k1
    clear hV_V1
    refine (right_yes l hl _).mono ?_
    rintro e_W1 W1 ⟨rfl, hb_W1⟩
    have b1 := below_step n_b hb_W1; clear n_b
    replace k0 := keep_blk hb_W1 k0
    obtain ⟨c_k0, f_k0, l_k0_W1⟩ := f3 k0
    replace k1 := keep_blk hb_W1 k1
    obtain ⟨c_k1, f_k1, l_k1_W1⟩ := f3 k1
    have z_W1 := b1.size
    clear hb_W1
    go_wp2
    refine bodyPost_ret (v := .tuple #[.agg #[.int .u64 0, .int .i64 0], .bool false]) (by simp [results, Tryz.results188, go_sem, *]) rfl ⟨rfl, ?_⟩
    (repeat' first | with_reducible assumption | with_reducible exact Below.refl _ _ | with_reducible refine Below.alloc ?_ ?_ _ | with_reducible refine Below.setCell ?_ ?_ _ | with_reducible refine below_drewN ?_ _ | with_reducible refine Below.drew ?_ | exact Nat.le_refl _ | ((try dsimp only); omega) | (simp only [siz_alloc, siz_set]; omega))
set_option maxHeartbeats 400000 in
theorem delete_no (b : Nat) (n : Int) (hb : b < 2 ^ 64) (h : ¬ Rt b n) (i : Int) (w : World) :
    Calls Tryz.prog 188 #[.agg #[.int .u64 (b : Int), .int .i64 n], .int .i64 i] w fun e w' =>
      e = .returned (.tuple #[.agg #[.int .u64 0, .int .i64 0], .bool false]) ∧ Below w.heap.size w w' := by
  go_enter Tryz.func188, Tryz.ntmps188
  go_wp2_with fail
  refine calls_gen fun V1 hV_V1 => ?_
  have n_k0 := congrArg (fun v : World => v.heap[w.heap.size]?) hV_V1
  have n_k1 := congrArg (fun v : World => v.heap[w.heap.size + 1]?) hV_V1
  simp (maxDischargeDepth := 9) only [BK, not_false_eq_true, reduceCtorEq] at n_k0
  simp (maxDischargeDepth := 9) only [BK, not_false_eq_true, reduceCtorEq] at n_k1
  have n_b : Below w.heap.size w V1 := by rw [hV_V1]; (repeat' first | with_reducible assumption | with_reducible exact Below.refl _ _ | with_reducible refine Below.alloc ?_ ?_ _ | with_reducible refine Below.setCell ?_ ?_ _ | with_reducible refine below_drewN ?_ _ | with_reducible refine Below.drew ?_ | exact Nat.le_refl _ | ((try dsimp only); omega) | (simp only [siz_alloc, siz_set]; omega))
  have k0 := n_k0; clear n_k0
  have k1 := n_k1; clear n_k1
  clear hV_V1
  refine (right_no b n hb h _).mono ?_
  rintro e_W1 W1 ⟨rfl, hb_W1⟩
  have b1 := below_step n_b hb_W1; clear n_b
  replace k0 := keep_blk hb_W1 k0
  obtain ⟨c_k0, f_k0, l_k0_W1⟩ := f3 k0
  replace k1 := keep_blk hb_W1 k1
  obtain ⟨c_k1, f_k1, l_k1_W1⟩ := f3 k1
  have z_W1 := b1.size
  clear hb_W1
  go_wp2
  refine bodyPost_ret (v := .tuple #[.agg #[.int .u64 0, .int .i64 0], .bool false]) (by simp [results, Tryz.results188, go_sem, *]) rfl ⟨rfl, ?_⟩
  (repeat' first | with_reducible assumption | with_reducible exact Below.refl _ _ | with_reducible refine Below.alloc ?_ ?_ _ | with_reducible refine Below.setCell ?_ ?_ _ | with_reducible refine below_drewN ?_ _ | with_reducible refine Below.drew ?_ | exact Nat.le_refl _ | ((try dsimp only); omega) | (simp only [siz_alloc, siz_set]; omega))
theorem insert_at (l c : List Bool) (i : Int) (one : Bool) (hi : 0 ≤ i) (hi2 : i ≤ l.length) (hl : l.length < 64) (A n : Int) (hA : A = pack l) (hn : n = l.length) (hc : c = insL l i.toNat one) (w : World) :
    Calls Tryz.prog 141 #[.agg #[.int .u64 A, .int .i64 n], .int .i64 i, .bool one] w fun e w' =>
      e = .returned (.tuple #[.agg #[.int .u64 (pack c : Int), .int .i64 (c.length : Int)], .bool true]) ∧ Below w.heap.size w w' := by
  obtain ⟨i, rfl⟩ := Int.eq_ofNat_of_zero_le hi
  subst hA hn hc; exact insert_yes l i one (by omega) hl w
theorem rank_at (l : List Bool) (hl : l.length ≤ 64) (i : Int) (A n r : Int) (hA : A = pack l) (hn : n = l.length) (hr : r = (l.take i.toNat).count true) (w : World) :
    Calls Tryz.prog 87 #[.agg #[.int .u64 A, .int .i64 n], .int .i64 i] w fun e w' => e = .returned (.int .i64 r) ∧ Below w.heap.size w w' := by
  subst hA hn hr; exact rank_list l hl i w
theorem get_at (l : List Bool) (hl : l.length ≤ 64) (i : Int) (A n : Int) (r : Bool) (hA : A = pack l) (hn : n = l.length) (hr : r = getL l i) (w : World) :
    Calls Tryz.prog 84 #[.agg #[.int .u64 A, .int .i64 n], .int .i64 i] w fun e w' => e = .returned (.bool r) ∧ Below w.heap.size w w' := by
  subst hA hn hr; exact get_list l hl i w
theorem delete_at (l c : List Bool) (i : Int) (hi : 0 ≤ i) (hi2 : i < l.length) (hl : l.length ≤ 64) (A n : Int) (hA : A = pack l) (hn : n = l.length) (hc : c = l.eraseIdx i.toNat) (w : World) :
    Calls Tryz.prog 188 #[.agg #[.int .u64 A, .int .i64 n], .int .i64 i] w fun e w' =>
      e = .returned (.tuple #[.agg #[.int .u64 (pack c : Int), .int .i64 (c.length : Int)], .bool true]) ∧ Below w.heap.size w w' := by
  obtain ⟨i, rfl⟩ := Int.eq_ofNat_of_zero_le hi
  subst hA hn hc; exact delete_yes l i (by omega) hl w
end Go.Proofs.YtdjpjmkpndmhaaaGreat
