/- A symbol's byte; slices.Reverse of bytes. -/
import Derived.Test.YtkgabbenmoocgaaLoops
import Derived.Test.YtkgabbenmoocgaaModelPull
import Derived.Test.YtkgabbenmoocgaaArenaGet
namespace Go.Proofs.Ytkgabbenmoocgaa
set_option linter.unusedSimpArgs false
set_option linter.unusedVariables false
set_option linter.unnecessarySimpa false
open Go.RowKit
attribute [local go_sem ↓] Go.wp_at_zero Go.wp_at_succ
theorem symByte_calls (x : Int) (w : World) : Calls Try.prog 41 #[.int .i64 x] w fun e w' => e = .returned (.tuple #[.int .u8 ((if symOk x then symU x else 0).toNat : Int), .bool (symOk x)]) ∧ w = w' := by
  by_cases h1 : x < 1
  · have d1 : decide (x < 1) = true := by simpa using h1
    have e : symOk x = false := by unfold symOk; simp; omega
    rw [e]
    go_enter Try.func41, Try.ntmps41
    go_wp2_with fail
    go_ret2
    exact ⟨rfl, rfl⟩
  · have d1 : decide (x < 1) = false := by simpa using h1
    by_cases h2 : 257 ≤ x
    · have d2 : decide (257 ≤ x) = true := by simpa using h2
      have e : symOk x = false := by unfold symOk; simp; omega
      rw [e]
      go_enter Try.func41, Try.ntmps41
      go_wp2_with fail
      go_ret2
      exact ⟨rfl, rfl⟩
    · have d2 : decide (257 ≤ x) = false := by simpa using h2
      have e : symOk x = true := by unfold symOk; simp; omega
      have e2 : wrap64 (x - 1) = x - 1 := IntWalk.wrap64_in _ (by omega)
      have e3 : (IntKind.u8).wrap (x - 1) = ((symU x).toNat : Int) := by
        unfold symU
        rw [show IntKind.u8.wrap (x - 1) = (x - 1) % 256 by simp [IntKind.wrap, IntKind.bits, IntKind.signed]]
        rw [UInt8.toNat_ofNat']
        omega
      have e4 : x - 1 = ((symU x).toNat : Int) := by unfold symU; rw [UInt8.toNat_ofNat']; omega
      rw [e, if_pos rfl, ← e4]
      clear e3 e4 e
      go_enter Try.func41, Try.ntmps41
      go_wp2_with fail
      go_ret2
      exact ⟨rfl, rfl⟩
/-- The cells of a row of bytes. -/
def byteCells (l : List UInt8) : List Value := l.map fun b => .int .u8 (b.toNat : Int)
theorem byteCells_at {l : List UInt8} {i : Nat} {b : UInt8} (h : l[i]? = some b) : (byteCells l)[i]? = some (.int .u8 (b.toNat : Int)) := by simp [byteCells, h]
theorem byteCells_set (l : List UInt8) (i : Nat) (b : UInt8) : (byteCells l).set i (.int .u8 (b.toNat : Int)) = byteCells (l.set i b) := by simp [byteCells, List.map_set]
/-- A row whose first and last i are exchanged. -/
def RevTo (l m : List UInt8) (i : Nat) : Prop := m.length = l.length ∧ ∀ p, p < l.length → m[p]? = if p < i ∨ l.length ≤ p + i then l[l.length - 1 - p]? else l[p]?
theorem RevTo.step {l m : List UInt8} {i : Nat} (h : RevTo l m i) (hi : 2 * i + 1 < l.length) {a b : UInt8} (ha : l[i]? = some a) (hb : l[l.length - 1 - i]? = some b) :
    RevTo l ((m.set i b).set (l.length - 1 - i) a) (i + 1) := by
  refine ⟨by simp [h.1], fun p hp => ?_⟩
  rw [List.getElem?_set, List.getElem?_set]
  by_cases h1 : l.length - 1 - i = p
  · rw [if_pos h1, if_pos (by simp [h.1]; omega), if_pos (by omega), show l.length - 1 - p = i by omega, ha]
  · rw [if_neg h1]
    by_cases h2 : i = p
    · rw [if_pos h2, if_pos (by rw [h.1]; omega), if_pos (by omega), ← h2, hb]
    · rw [if_neg h2, h.2 p hp]
      by_cases h3 : p < i ∨ l.length ≤ p + i
      · rw [if_pos h3, if_pos (by omega)]
      · rw [if_neg h3, if_neg (by omega)]
theorem RevTo.fin {l m : List UInt8} {i : Nat} (h : RevTo l m i) (hi : l.length ≤ 2 * i + 1) (h0 : i ≤ l.length) : m = l.reverse := by
  apply List.ext_getElem?
  intro p
  by_cases hp : p < l.length
  · rw [h.2 p hp, List.getElem?_reverse hp]
    by_cases h3 : p < i ∨ l.length ≤ p + i
    · rw [if_pos h3]
    · rw [if_neg h3, show l.length - 1 - p = p by omega]
  · rw [List.getElem?_eq_none (by rw [h.1]; omega), List.getElem?_eq_none (by simp; omega)]
theorem rev_down (n i j : Nat) (h : j = n - 1 - i) (h2 : 2 * i + 1 < n) (h3 : n ≤ 50000) : wrap64 ((j : Int) - 1) = (n : Int) - 1 - ((i + 1 : Nat) : Int) := by
  subst h
  rw [IntWalk.wrap64_in _ (by omega)]
  omega
set_option maxRecDepth 100000 in
set_option maxHeartbeats 2000000 in
theorem reverse_calls (base : Nat) (v : Value) (l : List UInt8) (hl : l.length ≤ 50000) (w : World) (hb : base ≤ w.heap.size) (hown : w.ownsRow base 5 1 v l.length (byteCells l)) :
    Calls Try.prog 43 #[v] w fun e w' => e = .returned (.tuple #[]) ∧ w'.ownsRow base 5 1 v l.length (byteCells l.reverse) ∧ Below base w w' ∧ w.heap.size ≤ w'.heap.size := by
  obtain ⟨hx1, A, cap, rfl, hx2⟩ := Rx.of_own hown
  have Hown := Lib.hid hown; clear hown hx1
  have e0 : wrap64 ((l.length : Int) - 1) = (l.length : Int) - 1 := IntWalk.wrap64_in _ (by omega)
  go_enter Try.func43, Try.ntmps43
  go_wp2_with fail
  go_loopg [2, 3] l.length (fun k p q wr => ∃ (i : Nat) (m : List UInt8), p = .int .i64 (i : Int) ∧ q = .int .i64 ((l.length : Int) - 1 - i) ∧ k = l.length - i ∧ i ≤ l.length ∧ Hid (RevTo l m i) ∧ Hid (wr.ownsRow base 5 1 (.slice A l.length cap) l.length (byteCells m)) ∧ Hid (Below base w wr) ∧ w.heap.size ≤ wr.heap.size)
  case atStart => exact ⟨0, l, rfl, by simp, by omega, by omega, Lib.hid ⟨rfl, fun p hp => by rw [if_neg (by omega)]⟩, Hown, Lib.hid (Below.refl _ _), Nat.le_refl _⟩
  case round =>
    obtain ⟨i, m, rfl, rfl, hk, hi, Hm, Hown2, HB, hsz⟩ := hrel
    by_cases hlt : 2 * i + 1 < l.length
    · have d1 : decide ((i : Int) < (l.length : Int) - 1 - (i : Int)) = true := by simp; omega
      obtain ⟨g, rfl, hg, -⟩ := hx2 (by omega)
      obtain ⟨j, hj⟩ : ∃ j : Nat, j = l.length - 1 - i := ⟨_, rfl⟩
      have ej : (l.length : Int) - 1 - (i : Int) = (j : Int) := by omega
      obtain ⟨a, ha⟩ : ∃ a, l[i]? = some a := ⟨l[i]'(by omega), by rw [List.getElem?_eq_getElem]⟩
      obtain ⟨b, hb2⟩ : ∃ b, l[j]? = some b := ⟨l[j]'(by omega), by rw [List.getElem?_eq_getElem]⟩
      have hma : m[i]? = some a := by rw [Hm.out.2 i (by omega), if_neg (by omega), ha]
      have hmb : m[j]? = some b := by rw [Hm.out.2 j (by omega), if_neg (by omega), hb2]
      have hge : base ≤ g := (Hown2.out.lt g rfl).1
      have c1 : wr.cell? ⟨g, i, none⟩ = some (.int .u8 (a.toNat : Int)) := (Hown2.out.cellAt i (by omega)).trans (byteCells_at hma)
      have c2 : wr.cell? ⟨g, j, none⟩ = some (.int .u8 (b.toNat : Int)) := (Hown2.out.cellAt j (by omega)).trans (byteCells_at hmb)
      have f1 := Hown2.out.frozenAt i
      have f2 := Hown2.out.frozenAt j
      have n1 : (i : Int) < (l.length : Int) := by omega
      have n2 : (j : Int) < (l.length : Int) := by omega
      have n3 : i ≠ j := by omega
      have s0 : wr.drew.ownsRow base 5 1 (.slice (some ⟨g, 0, none⟩) l.length cap) l.length (byteCells m) := Hown2.out.drew
      have s1 := (s0.stored i (.int .u8 (b.toNat : Int))).1
      have s2 := (s1.stored j (.int .u8 (a.toNat : Int))).1
      rw [byteCells_set, byteCells_set] at s2
      have S2 := Lib.hid s2; clear s0 s1 s2
      have hm2 := Hm.out.step hlt ha (by rw [← hj]; exact hb2)
      rw [← hj] at hm2
      have HM := Lib.hid hm2
      have e1 : wrap64 ((i : Int) + 1) = ((i + 1 : Nat) : Int) := by rw [IntWalk.wrap64_in _ (by omega)]; rfl
      have e2 := rev_down l.length i j hj hlt hl
      have HJ := Lib.hid hj
      rw [ej] at d1 ⊢
      have HE1 := Lib.hid e1; have HE2 := Lib.hid e2; have Hlt := Lib.hid hlt; have Hk := Lib.hid hk; have Hi := Lib.hid hi
      clear hma hmb ha hb2 Hm Hown2 hj hm2 e1 e2 ej e0 hlt hk hi hx2
      go_wp2_with fail
      rotate_left
      · exfalso; have h1 := HJ.out; have h2 := Hlt.out; omega
      refine wp_region_noPanic ?_
      refine wp_region_held_drew (S := fun _ => True) (by kernel_rfl) trivial (fun hHeld => ?_)
      generalize hD : wr.drew = D at hHeld ⊢
      replace c1 : D.cell? ⟨g, i, none⟩ = some (.int .u8 (a.toNat : Int)) := by rw [← hD]; exact c1
      replace c2 : D.cell? ⟨g, j, none⟩ = some (.int .u8 (b.toNat : Int)) := by rw [← hD]; exact c2
      replace f1 : D.frozen? ⟨g, i, none⟩ = false := by rw [← hD]; exact f1
      replace f2 : D.frozen? ⟨g, j, none⟩ = false := by rw [← hD]; exact f2
      have HBD : Hid (Below base w D) := Lib.hid (by rw [← hD]; exact HB.out.drew)
      have hszD : w.heap.size ≤ D.heap.size := by rw [← hD]; exact hsz
      rw [hD] at S2
      clear hD
      refine ty (i := 0) (v := ?_) rfl hHeld ?_ ?_
      rotate_left
      focus (intro w hSw; go_simp; (try simp only [IntWalk.i64_left]); try (with_reducible rfl))
      try simp only [PT]
      refine ty (i := 1) (v := ?_) rfl hHeld ?_ ?_
      rotate_left
      focus (intro w hSw; go_simp; (try simp only [IntWalk.i64_left]); try (with_reducible rfl))
      try simp only [PT]
      refine ty (i := 2) (v := ?_) rfl hHeld ?_ ?_
      rotate_left
      focus (intro w hSw; go_simp; (try simp only [IntWalk.i64_left]); try (with_reducible rfl))
      try simp only [PT]
      refine ty (i := 3) (v := ?_) rfl hHeld ?_ ?_
      rotate_left
      focus (intro w hSw; go_simp; (try simp only [IntWalk.i64_left]); try (with_reducible rfl))
      try simp only [PT]
      refine ty (i := 4) (v := ?_) rfl hHeld ?_ ?_
      rotate_left
      focus (intro w hSw; go_simp; (try simp only [IntWalk.i64_left]); try (with_reducible rfl))
      try simp only [PT]
      refine ty (i := 5) (v := ?_) rfl hHeld ?_ ?_
      rotate_left
      focus (intro w hSw; go_simp; (try simp only [IntWalk.i64_left]); try (with_reducible rfl))
      try simp only [PT]
      refine ty (i := 6) (v := ?_) rfl hHeld ?_ ?_
      rotate_left
      focus (intro w hSw; go_simp; (try simp only [IntWalk.i64_left]); try (with_reducible rfl))
      try simp only [PT]
      refine ty (i := 8) (v := ?_) rfl hHeld ?_ ?_
      rotate_left
      focus (intro w hSw; go_simp; (try simp only [IntWalk.i64_left]); try (with_reducible rfl))
      try simp only [PT]
      refine ty (i := 9) (v := ?_) rfl hHeld ?_ ?_
      rotate_left
      focus (intro w hSw; go_simp; (try simp only [IntWalk.i64_left]); try (with_reducible rfl))
      try simp only [PT]
      refine ty (i := 10) (v := ?_) rfl hHeld ?_ ?_
      rotate_left
      focus (intro w hSw; go_simp; (try simp only [IntWalk.i64_left]); try (with_reducible rfl))
      try simp only [PT]
      refine wpAnyH_ready (rs := [7, 11]) (by kernel_rfl) (by simp) ?_
      refine ready_at rfl (fun K hK => ?_) (ready_at rfl (fun K hK => ?_) AllReadyH.nil)
      · go_simp
        refine hK.out _ _ trivial (fun hHeld => ?_)
        clear hK K
        try simp only [PT]
        refine wpAnyH_ready (rs := [11]) (by kernel_rfl) (by simp) ?_
        refine ready_at rfl (fun K hK => ?_) AllReadyH.nil
        go_simp
        refine hK.out _ _ trivial (fun hHeld => ?_)
        clear hK K
        try simp only [PT]
        refine ty (i := 12) (v := ?_) rfl hHeld ?_ ?_
        rotate_left
        focus (intro w hSw; go_simp; (try simp only [IntWalk.i64_left]); try (with_reducible rfl))
        try simp only [PT]
        refine wpAnyH_ready (rs := [13]) (by kernel_rfl) (by simp) ?_
        refine ready_at rfl (fun K hK => ?_) AllReadyH.nil
        go_simp
        refine hK.out _ _ trivial (fun hHeld => ?_)
        clear hK K
        try simp only [PT]
        refine ty (i := 14) (v := ?_) rfl hHeld ?_ ?_
        rotate_left
        focus (intro w hSw; go_simp; (try simp only [IntWalk.i64_left]); try (with_reducible rfl))
        try simp only [PT]
        refine wpAnyH_ready (rs := [15]) (by kernel_rfl) (by simp) ?_
        refine ready_at rfl (fun K hK => ?_) AllReadyH.nil
        go_simp
        refine hK.out _ _ trivial (fun hHeld => ?_)
        clear hK K
        try simp only [PT]
        refine wpAnyH_done (by kernel_rfl) ?_ _
        refine NoPanic.normal ?_
        have Hfin : Hid (Below base w ((D.setCell ⟨g, i, none⟩ (.int .u8 (b.toNat : Int))).setCell ⟨g, j, none⟩ (.int .u8 (a.toNat : Int)))) := Lib.hid ((HBD.out.setCell hge _).setCell hge _)
        clear c1 c2 f1 f2
        go_wp2_with fail
        go_roundg (l.length - (i + 1))
        case measure => have h1 := Hk.out; have h2 := Hlt.out; omega
        case rel => exact ⟨i + 1, _, by rfl, by have h1 := HJ.out; have h2 := Hlt.out; congr 1; omega, by rfl, by have := Hlt.out; omega, HM, S2, Hfin, by simp only [siz_set]; omega⟩
      · go_simp
        refine hK.out _ _ trivial (fun hHeld => ?_)
        clear hK K
        try simp only [PT]
        refine wpAnyH_ready (rs := [7]) (by kernel_rfl) (by simp) ?_
        refine ready_at rfl (fun K hK => ?_) AllReadyH.nil
        go_simp
        refine hK.out _ _ trivial (fun hHeld => ?_)
        clear hK K
        try simp only [PT]
        refine ty (i := 12) (v := ?_) rfl hHeld ?_ ?_
        rotate_left
        focus (intro w hSw; go_simp; (try simp only [IntWalk.i64_left]); try (with_reducible rfl))
        try simp only [PT]
        refine wpAnyH_ready (rs := [13]) (by kernel_rfl) (by simp) ?_
        refine ready_at rfl (fun K hK => ?_) AllReadyH.nil
        go_simp
        refine hK.out _ _ trivial (fun hHeld => ?_)
        clear hK K
        try simp only [PT]
        refine ty (i := 14) (v := ?_) rfl hHeld ?_ ?_
        rotate_left
        focus (intro w hSw; go_simp; (try simp only [IntWalk.i64_left]); try (with_reducible rfl))
        try simp only [PT]
        refine wpAnyH_ready (rs := [15]) (by kernel_rfl) (by simp) ?_
        refine ready_at rfl (fun K hK => ?_) AllReadyH.nil
        go_simp
        refine hK.out _ _ trivial (fun hHeld => ?_)
        clear hK K
        try simp only [PT]
        refine wpAnyH_done (by kernel_rfl) ?_ _
        refine NoPanic.normal ?_
        have Hfin : Hid (Below base w ((D.setCell ⟨g, i, none⟩ (.int .u8 (b.toNat : Int))).setCell ⟨g, j, none⟩ (.int .u8 (a.toNat : Int)))) := Lib.hid ((HBD.out.setCell hge _).setCell hge _)
        clear c1 c2 f1 f2
        go_wp2_with fail
        go_roundg (l.length - (i + 1))
        case measure => have h1 := Hk.out; have h2 := Hlt.out; omega
        case rel => exact ⟨i + 1, _, by rfl, by have h1 := HJ.out; have h2 := Hlt.out; congr 1; omega, by rfl, by have := Hlt.out; omega, HM, S2, Hfin, by simp only [siz_set]; omega⟩
    · have d1 : decide ((i : Int) < (l.length : Int) - 1 - (i : Int)) = false := by simp; omega
      have hm := Hm.out.fin (by omega) hi
      go_wp2_with fail
      go_end0
      exact ⟨rfl, by rw [← hm]; exact Hown2.out, HB.out, hsz⟩
end Go.Proofs.Ytkgabbenmoocgaa
