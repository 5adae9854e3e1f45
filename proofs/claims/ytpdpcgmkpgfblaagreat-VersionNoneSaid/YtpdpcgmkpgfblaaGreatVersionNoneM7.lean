/- Part 7 of what VersionNone needs: the walks of the program's functions, and plain facts. -/
import Derived.Test.YtpdpcgmkpgfblaaGreatVersionNoneM6
/- Rows of symbols in an arena: how often a symbol is among the first ones; how many are less. -/
namespace Go.Proofs.YtpdpcgmkpgfblaaGreat
set_option linter.unusedSimpArgs false
set_option linter.unusedVariables false
set_option linter.unnecessarySimpa false
open Go.RowKit
attribute [local go_sem ↓] Go.wp_at_zero Go.wp_at_succ
attribute [local go_sem] lt_s2 lt_s3 lt_s4
variable {ap : Value} {s : Ar} {O : Nat → Prop}
set_option maxRecDepth 100000 in
set_option maxHeartbeats 4000000 in
theorem wRank_calls (h c i r : Int) (hr : wRank s h c i = some r) (w : World) (hA : AP w ap s O) :
    Calls Tryz.prog 50 #[ap, .int .i64 h, .int .i64 c, .int .i64 i] w fun e w' => e = .returned (.int .i64 r) ∧ Below w.heap.size w w' := by
  unfold wRank at hr
  cases h1 : wIs c with
  | false =>
    rw [h1, if_neg (by decide)] at hr
    cases hr
    go_enter Tryz.func50, Tryz.ntmps50
    go_wp2_with fail
    go_step3
    go_wp2_with fail
    refine calls_gen fun V hV_V => ?_
    have n_B : Below w.heap.size w V := nB hV_V
    have n_A : AP V ap s O := nA hV_V
    have z_V := Nat.le_of_eq (congrArg (fun v : World => v.heap.size) hV_V).symm
    try simp only [SZ] at z_V
    clear hV_V
    clear hA
    have hA := n_A
    clear n_A
    skip
    have hB := n_B
    clear n_B
    refine (wIs_calls _ _).mono ?_
    rintro e_q w_q ⟨rfl, rfl⟩
    go_wp2_with fail
    simp only [Exit.noGoto_ret]
    go_ret
    exact ⟨rfl, by (repeat' first | with_reducible assumption | with_reducible exact Below.refl _ _ | with_reducible refine Below.alloc ?_ ?_ _ | with_reducible refine Below.setCell ?_ ?_ _ | with_reducible refine below_drewN ?_ _ | with_reducible refine Below.drew ?_ | exact Nat.le_refl _ | ((try dsimp only); omega) | (simp only [siz_alloc, siz_set]; omega))⟩
  | true =>
    rw [h1, if_pos rfl] at hr
    have hb' := Lib.hid hr; clear hr
    go_enter Tryz.func50, Tryz.ntmps50
    go_wp2_with fail
    refine wp_scope_ghost 0 (fun n a' wr => ∃ x y l, (Below w.heap.size w wr ∧ 1 ≤ n ∧ n ≤ 9 ∧ l = 9 - (n : Int) ∧ Hid (wRankL n s x c y = some r)) ∧ ∃ u4 u5 u6 u7 u8 u10 u11 u12 u13 u14 u15 u16 u17 u18 u19 u20 u21 u22 u23 u24 u25 u26 u27 u28 u29 u30 u31 u32 u33 u34 u35 u36 u37 u38 u39 u40 u41 u42 u43 : Value, a' = { tmps := #[(ap : Value), (.int .i64 x : Value), (.int .i64 c : Value), (.int .i64 y : Value), u4, u5, u6, u7, u8, (.int .i64 l : Value), u10, u11, u12, u13, u14, u15, u16, u17, u18, u19, u20, u21, u22, u23, u24, u25, u26, u27, u28, u29, u30, u31, u32, u33, u34, u35, u36, u37, u38, u39, u40, u41, u42, u43], defers := [] }) (by rfl) ?first ?pass
    case first =>
      intro hrest
      go_wp2_with fail
      refine calls_gen fun V hV_V => ?_
      have n_B : Below w.heap.size w V := nB hV_V
      have n_A : AP V ap s O := nA hV_V
      have z_V := Nat.le_of_eq (congrArg (fun v : World => v.heap.size) hV_V).symm
      try simp only [SZ] at z_V
      clear hV_V
      clear hA
      have hA := n_A
      clear n_A
      skip
      have hB := n_B
      clear n_B
      refine (wIs_calls _ _).mono ?_
      rintro e_q w_q ⟨rfl, rfl⟩
      go_wp2_with fail
      go_step3
      go_step
      go_step
      refine hrest 9 _ _ ⟨h, i, 0, ⟨hB, by omega, by omega, by omega, hb'⟩, ?_⟩
      exact ⟨_, _, _, _, _, _, _, _, _, _, _, _, _, _, _, _, _, _, _, _, _, _, _, _, _, _, _, _, _, _, _, _, _, _, _, _, _, _, _, rfl⟩
    case pass =>
      rintro n a' wr ⟨x, y, l, ⟨hB, hn1, hn2, hl, hb'⟩, u4, u5, u6, u7, u8, u10, u11, u12, u13, u14, u15, u16, u17, u18, u19, u20, u21, u22, u23, u24, u25, u26, u27, u28, u29, u30, u31, u32, u33, u34, u35, u36, u37, u38, u39, u40, u41, u42, u43, rfl⟩ J hJ
      have hA := hA.below hB
      have z_r := hB.size
      have hb := hb'.out
      clear hb'
      obtain ⟨n, rfl⟩ : ∃ m, n = m + 1 := ⟨n - 1, by omega⟩
      unfold wRankL at hb
      have e8 : (8 - (n : Int)) = l := by omega
      rw [e8] at hb
      obtain ⟨j, hj, hb⟩ := Option.bind_eq_some_iff.1 hb
      have Hj := Lib.hid hj; clear hj
      have hl' : l + 1 = 9 - (n : Int) := by omega
      have hl1 : 0 ≤ l := by omega
      have hl2 : l ≤ 9 := by omega
      have Hl := Lib.hid hl'
      clear hl' hl e8
      generalize ho : symBit c l = one at *
      have Ho := Lib.hid ho; clear ho
      by_cases hj0 : 0 < j
      · rw [if_pos hj0] at hb
        have d4 : decide (0 < j) = true := by simpa using hj0
        have Hb := Lib.hid hb; clear hb hj0
        by_cases hn : 1 ≤ n
        · have d3 : decide (l + 1 < 9) = true := by have := Hl.out; simp; omega
          go_wp2_with fail
          refine calls_gen fun V1 hV_V1 => ?_
          have n_B : Below w.heap.size w V1 := nB hV_V1
          have n_A : AP V1 ap s O := nA hV_V1
          have z_V1 := Nat.le_of_eq (congrArg (fun v : World => v.heap.size) hV_V1).symm
          try simp only [SZ] at z_V1
          clear hV_V1
          clear hA
          have hA := n_A
          clear n_A
          clear hB
          have hB := n_B
          clear n_B
          refine (wRow_calls _ _ hA).mono ?_
          rintro e_w2 w2 ⟨rfl, hb_w2⟩
          replace hA := hA.below hb_w2
          replace hB := below_step hB hb_w2
          have z_w2 := hb_w2.size
          clear hb_w2
          unfold Nd.val
          go_wp2_with fail
          refine calls_gen fun V2 hV_V2 => ?_
          have n_k0 := congrArg (fun v : World => v.heap[w2.heap.size]?) hV_V2
          simp (maxDischargeDepth := 9) only [BK, not_false_eq_true, reduceCtorEq] at n_k0
          have o_k0 : ¬ O (w2.heap.size) := by first | exact hA.new (Nat.le_refl _) | exact hA.new (by omega)
          have n_B : Below w.heap.size w V2 := nB hV_V2
          have n_A : AP V2 ap s O := nA hV_V2
          have z_V2 := Nat.le_of_eq (congrArg (fun v : World => v.heap.size) hV_V2).symm
          try simp only [SZ] at z_V2
          clear hV_V2
          clear hA
          have hA := n_A
          clear n_A
          clear hB
          have hB := n_B
          clear n_B
          have k0 := n_k0; clear n_k0
          have c_k0 := cells_of k0
          have f_k0 := free_of k0
          have l_k0_V2 := lt_of k0
          refine (symBit_calls _ _ _).mono ?_
          rintro e_q w_q ⟨rfl, rfl⟩
          rw [Ho.out]
          go_wp2_with fail
          refine calls_gen fun V3 hV_V3 => ?_
          have n_k0 := congrArg (fun v : World => v.heap[w2.heap.size]?) hV_V3
          simp (maxDischargeDepth := 9) only [BK, not_false_eq_true, reduceCtorEq, k0, l_k0_V2] at n_k0
          have n_B : Below w.heap.size w V3 := nB hV_V3
          have n_A : AP V3 ap s O := nA hV_V3
          have z_V3 := Nat.le_of_eq (congrArg (fun v : World => v.heap.size) hV_V3).symm
          try simp only [SZ] at z_V3
          clear k0 c_k0 f_k0
          clear hV_V3
          clear hA
          have hA := n_A
          clear n_A
          clear hB
          have hB := n_B
          clear n_B
          have k0 := n_k0; clear n_k0
          have c_k0 := cells_of k0
          have f_k0 := free_of k0
          have l_k0_V3 := lt_of k0
          refine (wAlike_calls _ _ _ _ Hj.out _ hA).mono ?_
          rintro e_w4 w4 ⟨rfl, hb_w4⟩
          replace hA := hA.below hb_w4
          replace hB := below_step hB hb_w4
          replace k0 := keep_blk hb_w4 k0
          have c_k0 := cells_of k0
          have f_k0 := free_of k0
          have l_k0_w4 := lt_of k0
          have z_w4 := hb_w4.size
          clear hb_w4
          go_wp2_with fail
          refine calls_gen fun V4 hV_V4 => ?_
          have n_k0 := congrArg (fun v : World => v.heap[w2.heap.size]?) hV_V4
          simp (maxDischargeDepth := 9) only [BK, not_false_eq_true, reduceCtorEq, k0, l_k0_V2, l_k0_V3, l_k0_w4] at n_k0
          have n_B : Below w.heap.size w V4 := nB hV_V4
          have n_A : AP V4 ap s O := nA hV_V4
          have z_V4 := Nat.le_of_eq (congrArg (fun v : World => v.heap.size) hV_V4).symm
          try simp only [SZ] at z_V4
          clear k0 c_k0 f_k0
          clear hV_V4
          clear hA
          have hA := n_A
          clear n_A
          clear hB
          have hB := n_B
          clear n_B
          have k0 := n_k0; clear n_k0
          have c_k0 := cells_of k0
          have f_k0 := free_of k0
          have l_k0_V4 := lt_of k0
          refine (wKid_calls (s.get x) _ _).mono ?_
          rintro e_w5 w5 ⟨rfl, hb_w5⟩
          replace hA := hA.below hb_w5
          replace hB := below_step hB hb_w5
          replace k0 := keep_blk hb_w5 k0
          have c_k0 := cells_of k0
          have f_k0 := free_of k0
          have l_k0_w5 := lt_of k0
          have z_w5 := hb_w5.size
          clear hb_w5
          go_wp2_with fail
          go_step3
          refine ⟨rfl, hJ _ _ ⟨n, by omega, _, _, _, ⟨by (repeat' first | with_reducible assumption | with_reducible exact Below.refl _ _ | with_reducible refine Below.alloc ?_ ?_ _ | with_reducible refine Below.setCell ?_ ?_ _ | with_reducible refine below_drewN ?_ _ | with_reducible refine Below.drew ?_ | exact Nat.le_refl _ | ((try dsimp only); omega) | (simp only [siz_alloc, siz_set]; omega)), hn, by omega, Hl.out, Hb⟩, ?_⟩⟩
          exact ⟨_, _, _, _, _, _, _, _, _, _, _, _, _, _, _, _, _, _, _, _, _, _, _, _, _, _, _, _, _, _, _, _, _, _, _, _, _, _, _, rfl⟩
        · obtain rfl : n = 0 := by omega
          have d3 : decide (l + 1 < 9) = false := by have := Hl.out; simp; omega
          go_wp2_with fail
          refine calls_gen fun V1 hV_V1 => ?_
          have n_B : Below w.heap.size w V1 := nB hV_V1
          have n_A : AP V1 ap s O := nA hV_V1
          have z_V1 := Nat.le_of_eq (congrArg (fun v : World => v.heap.size) hV_V1).symm
          try simp only [SZ] at z_V1
          clear hV_V1
          clear hA
          have hA := n_A
          clear n_A
          clear hB
          have hB := n_B
          clear n_B
          refine (wRow_calls _ _ hA).mono ?_
          rintro e_w2 w2 ⟨rfl, hb_w2⟩
          replace hA := hA.below hb_w2
          replace hB := below_step hB hb_w2
          have z_w2 := hb_w2.size
          clear hb_w2
          unfold Nd.val
          go_wp2_with fail
          refine calls_gen fun V2 hV_V2 => ?_
          have n_k0 := congrArg (fun v : World => v.heap[w2.heap.size]?) hV_V2
          simp (maxDischargeDepth := 9) only [BK, not_false_eq_true, reduceCtorEq] at n_k0
          have o_k0 : ¬ O (w2.heap.size) := by first | exact hA.new (Nat.le_refl _) | exact hA.new (by omega)
          have n_B : Below w.heap.size w V2 := nB hV_V2
          have n_A : AP V2 ap s O := nA hV_V2
          have z_V2 := Nat.le_of_eq (congrArg (fun v : World => v.heap.size) hV_V2).symm
          try simp only [SZ] at z_V2
          clear hV_V2
          clear hA
          have hA := n_A
          clear n_A
          clear hB
          have hB := n_B
          clear n_B
          have k0 := n_k0; clear n_k0
          have c_k0 := cells_of k0
          have f_k0 := free_of k0
          have l_k0_V2 := lt_of k0
          refine (symBit_calls _ _ _).mono ?_
          rintro e_q w_q ⟨rfl, rfl⟩
          rw [Ho.out]
          go_wp2_with fail
          refine calls_gen fun V3 hV_V3 => ?_
          have n_k0 := congrArg (fun v : World => v.heap[w2.heap.size]?) hV_V3
          simp (maxDischargeDepth := 9) only [BK, not_false_eq_true, reduceCtorEq, k0, l_k0_V2] at n_k0
          have n_B : Below w.heap.size w V3 := nB hV_V3
          have n_A : AP V3 ap s O := nA hV_V3
          have z_V3 := Nat.le_of_eq (congrArg (fun v : World => v.heap.size) hV_V3).symm
          try simp only [SZ] at z_V3
          clear k0 c_k0 f_k0
          clear hV_V3
          clear hA
          have hA := n_A
          clear n_A
          clear hB
          have hB := n_B
          clear n_B
          have k0 := n_k0; clear n_k0
          have c_k0 := cells_of k0
          have f_k0 := free_of k0
          have l_k0_V3 := lt_of k0
          refine (wAlike_calls _ _ _ _ Hj.out _ hA).mono ?_
          rintro e_w4 w4 ⟨rfl, hb_w4⟩
          replace hA := hA.below hb_w4
          replace hB := below_step hB hb_w4
          replace k0 := keep_blk hb_w4 k0
          have c_k0 := cells_of k0
          have f_k0 := free_of k0
          have l_k0_w4 := lt_of k0
          have z_w4 := hb_w4.size
          clear hb_w4
          go_wp2_with fail
          refine calls_gen fun V4 hV_V4 => ?_
          have n_k0 := congrArg (fun v : World => v.heap[w2.heap.size]?) hV_V4
          simp (maxDischargeDepth := 9) only [BK, not_false_eq_true, reduceCtorEq, k0, l_k0_V2, l_k0_V3, l_k0_w4] at n_k0
          have n_B : Below w.heap.size w V4 := nB hV_V4
          have n_A : AP V4 ap s O := nA hV_V4
          have z_V4 := Nat.le_of_eq (congrArg (fun v : World => v.heap.size) hV_V4).symm
          try simp only [SZ] at z_V4
          clear k0 c_k0 f_k0
          clear hV_V4
          clear hA
          have hA := n_A
          clear n_A
          clear hB
          have hB := n_B
          clear n_B
          have k0 := n_k0; clear n_k0
          have c_k0 := cells_of k0
          have f_k0 := free_of k0
          have l_k0_V4 := lt_of k0
          refine (wKid_calls (s.get x) _ _).mono ?_
          rintro e_w5 w5 ⟨rfl, hb_w5⟩
          replace hA := hA.below hb_w5
          replace hB := below_step hB hb_w5
          replace k0 := keep_blk hb_w5 k0
          have c_k0 := cells_of k0
          have f_k0 := free_of k0
          have l_k0_w5 := lt_of k0
          have z_w5 := hb_w5.size
          clear hb_w5
          go_wp2_with fail
          simp only [Exit.jump]
          go_ret
          exact ⟨by rw [← Option.some.inj Hb.out]; rfl, by (repeat' first | with_reducible assumption | with_reducible exact Below.refl _ _ | with_reducible refine Below.alloc ?_ ?_ _ | with_reducible refine Below.setCell ?_ ?_ _ | with_reducible refine below_drewN ?_ _ | with_reducible refine Below.drew ?_ | exact Nat.le_refl _ | ((try dsimp only); omega) | (simp only [siz_alloc, siz_set]; omega))⟩
      · rw [if_neg hj0] at hb
        have d4 : decide (0 < j) = false := by simpa using hj0
        obtain rfl := Option.some.inj hb
        clear hb hj0
        by_cases hn : 1 ≤ n
        all_goals
          first
          | have d3 : decide (l + 1 < 9) = true := by have := Hl.out; simp; omega
          | have d3 : decide (l + 1 < 9) = false := by have := Hl.out; simp; omega
          go_wp2_with fail
          refine calls_gen fun V1 hV_V1 => ?_
          have n_B : Below w.heap.size w V1 := nB hV_V1
          have n_A : AP V1 ap s O := nA hV_V1
          have z_V1 := Nat.le_of_eq (congrArg (fun v : World => v.heap.size) hV_V1).symm
          try simp only [SZ] at z_V1
          clear hV_V1
          clear hA
          have hA := n_A
          clear n_A
          clear hB
          have hB := n_B
          clear n_B
          refine (wRow_calls _ _ hA).mono ?_
          rintro e_w2 w2 ⟨rfl, hb_w2⟩
          replace hA := hA.below hb_w2
          replace hB := below_step hB hb_w2
          have z_w2 := hb_w2.size
          clear hb_w2
          unfold Nd.val
          go_wp2_with fail
          refine calls_gen fun V2 hV_V2 => ?_
          have n_k0 := congrArg (fun v : World => v.heap[w2.heap.size]?) hV_V2
          simp (maxDischargeDepth := 9) only [BK, not_false_eq_true, reduceCtorEq] at n_k0
          have o_k0 : ¬ O (w2.heap.size) := by first | exact hA.new (Nat.le_refl _) | exact hA.new (by omega)
          have n_B : Below w.heap.size w V2 := nB hV_V2
          have n_A : AP V2 ap s O := nA hV_V2
          have z_V2 := Nat.le_of_eq (congrArg (fun v : World => v.heap.size) hV_V2).symm
          try simp only [SZ] at z_V2
          clear hV_V2
          clear hA
          have hA := n_A
          clear n_A
          clear hB
          have hB := n_B
          clear n_B
          have k0 := n_k0; clear n_k0
          have c_k0 := cells_of k0
          have f_k0 := free_of k0
          have l_k0_V2 := lt_of k0
          refine (symBit_calls _ _ _).mono ?_
          rintro e_q w_q ⟨rfl, rfl⟩
          rw [Ho.out]
          go_wp2_with fail
          refine calls_gen fun V3 hV_V3 => ?_
          have n_k0 := congrArg (fun v : World => v.heap[w2.heap.size]?) hV_V3
          simp (maxDischargeDepth := 9) only [BK, not_false_eq_true, reduceCtorEq, k0, l_k0_V2] at n_k0
          have n_B : Below w.heap.size w V3 := nB hV_V3
          have n_A : AP V3 ap s O := nA hV_V3
          have z_V3 := Nat.le_of_eq (congrArg (fun v : World => v.heap.size) hV_V3).symm
          try simp only [SZ] at z_V3
          clear k0 c_k0 f_k0
          clear hV_V3
          clear hA
          have hA := n_A
          clear n_A
          clear hB
          have hB := n_B
          clear n_B
          have k0 := n_k0; clear n_k0
          have c_k0 := cells_of k0
          have f_k0 := free_of k0
          have l_k0_V3 := lt_of k0
          refine (wAlike_calls _ _ _ _ Hj.out _ hA).mono ?_
          rintro e_w4 w4 ⟨rfl, hb_w4⟩
          replace hA := hA.below hb_w4
          replace hB := below_step hB hb_w4
          replace k0 := keep_blk hb_w4 k0
          have c_k0 := cells_of k0
          have f_k0 := free_of k0
          have l_k0_w4 := lt_of k0
          have z_w4 := hb_w4.size
          clear hb_w4
          go_wp2_with fail
          refine calls_gen fun V4 hV_V4 => ?_
          have n_k0 := congrArg (fun v : World => v.heap[w2.heap.size]?) hV_V4
          simp (maxDischargeDepth := 9) only [BK, not_false_eq_true, reduceCtorEq, k0, l_k0_V2, l_k0_V3, l_k0_w4] at n_k0
          have n_B : Below w.heap.size w V4 := nB hV_V4
          have n_A : AP V4 ap s O := nA hV_V4
          have z_V4 := Nat.le_of_eq (congrArg (fun v : World => v.heap.size) hV_V4).symm
          try simp only [SZ] at z_V4
          clear k0 c_k0 f_k0
          clear hV_V4
          clear hA
          have hA := n_A
          clear n_A
          clear hB
          have hB := n_B
          clear n_B
          have k0 := n_k0; clear n_k0
          have c_k0 := cells_of k0
          have f_k0 := free_of k0
          have l_k0_V4 := lt_of k0
          refine (wKid_calls (s.get x) _ _).mono ?_
          rintro e_w5 w5 ⟨rfl, hb_w5⟩
          replace hA := hA.below hb_w5
          replace hB := below_step hB hb_w5
          replace k0 := keep_blk hb_w5 k0
          have c_k0 := cells_of k0
          have f_k0 := free_of k0
          have l_k0_w5 := lt_of k0
          have z_w5 := hb_w5.size
          clear hb_w5
          go_wp2_with fail
          simp only [Exit.jump]
          go_ret
          exact ⟨rfl, by (repeat' first | with_reducible assumption | with_reducible exact Below.refl _ _ | with_reducible refine Below.alloc ?_ ?_ _ | with_reducible refine Below.setCell ?_ ?_ _ | with_reducible refine below_drewN ?_ _ | with_reducible refine Below.drew ?_ | exact Nat.le_refl _ | ((try dsimp only); omega) | (simp only [siz_alloc, siz_set]; omega))⟩
end Go.Proofs.YtpdpcgmkpgfblaaGreat
/- Rows of symbols in an arena: how many are less than a symbol. -/
namespace Go.Proofs.YtpdpcgmkpgfblaaGreat
set_option linter.unusedSimpArgs false
set_option linter.unusedVariables false
set_option linter.unnecessarySimpa false
open Go.RowKit
attribute [local go_sem ↓] Go.wp_at_zero Go.wp_at_succ
attribute [local go_sem] lt_s2 lt_s3 lt_s4
variable {ap : Value} {s : Ar} {O : Nat → Prop}
set_option maxRecDepth 100000 in
set_option maxHeartbeats 4000000 in
theorem wBefore_calls (h c r : Int) (hr : wBefore s h c = some r) (w : World) (hA : AP w ap s O) :
    Calls Tryz.prog 49 #[ap, .int .i64 h, .int .i64 c] w fun e w' => e = .returned (.int .i64 r) ∧ Below w.heap.size w w' := by
  unfold wBefore at hr
  by_cases h1 : c < 0
  · have d1 : decide (c < 0) = true := by simpa using h1
    rw [if_pos h1] at hr
    cases hr
    clear h1
    go_enter Tryz.func49, Tryz.ntmps49
    go_wp2_with fail
    go_step3
    go_wp2_with fail
    simp only [Exit.noGoto_ret]
    go_ret
    exact ⟨rfl, by (repeat' first | with_reducible assumption | with_reducible exact Below.refl _ _ | with_reducible refine Below.alloc ?_ ?_ _ | with_reducible refine Below.setCell ?_ ?_ _ | with_reducible refine below_drewN ?_ _ | with_reducible refine Below.drew ?_ | exact Nat.le_refl _ | ((try dsimp only); omega) | (simp only [siz_alloc, siz_set]; omega))⟩
  · have d1 : decide (c < 0) = false := by simpa using h1
    rw [if_neg h1] at hr
    by_cases h2 : 257 ≤ c
    · have d2 : decide (257 ≤ c) = true := by simpa using h2
      rw [if_pos h2] at hr
      cases hr
      clear h1 h2
      go_enter Tryz.func49, Tryz.ntmps49
      go_wp2_with fail
      go_step3
      go_wp2_with fail
      refine calls_gen fun V hV_V => ?_
      have n_B : Below w.heap.size w V := nB hV_V
      have n_A : AP V ap s O := nA hV_V
      have z_V := Nat.le_of_eq (congrArg (fun v : World => v.heap.size) hV_V).symm
      try simp only [SZ] at z_V
      clear hV_V
      clear hA
      have hA := n_A
      clear n_A
      skip
      have hB := n_B
      clear n_B
      refine (wLen_calls _ _ hA).mono ?_
      rintro e_w1 w1 ⟨rfl, hb_w1⟩
      replace hA := hA.below hb_w1
      replace hB := below_step hB hb_w1
      have z_w1 := hb_w1.size
      clear hb_w1
      go_wp2_with fail
      simp only [Exit.noGoto_ret]
      go_ret
      exact ⟨rfl, by (repeat' first | with_reducible assumption | with_reducible exact Below.refl _ _ | with_reducible refine Below.alloc ?_ ?_ _ | with_reducible refine Below.setCell ?_ ?_ _ | with_reducible refine below_drewN ?_ _ | with_reducible refine Below.drew ?_ | exact Nat.le_refl _ | ((try dsimp only); omega) | (simp only [siz_alloc, siz_set]; omega))⟩
    · have d2 : decide (257 ≤ c) = false := by simpa using h2
      rw [if_neg h2] at hr
      have hb' := Lib.hid hr; clear hr h1 h2
      go_enter Tryz.func49, Tryz.ntmps49
      go_wp2_with fail
      refine wp_scope_ghost 0 (fun n a' wr => ∃ x z l, (Below w.heap.size w wr ∧ 1 ≤ n ∧ n ≤ 9 ∧ l = 9 - (n : Int) ∧ Hid (wBeforeL n s x c z = some r)) ∧ ∃ u3 u4 u5 u6 u9 u10 u11 u12 u13 u14 u15 u16 u17 u18 u19 u20 u21 u22 u23 u24 u25 u26 u27 u28 u29 u30 u31 u32 u33 u34 u35 u36 u37 u38 u39 u40 u41 u42 u43 u44 u45 u46 u47 u48 u49 u50 : Value, a' = { tmps := #[(ap : Value), (.int .i64 x : Value), (.int .i64 c : Value), u3, u4, u5, u6, (.int .i64 z : Value), (.int .i64 l : Value), u9, u10, u11, u12, u13, u14, u15, u16, u17, u18, u19, u20, u21, u22, u23, u24, u25, u26, u27, u28, u29, u30, u31, u32, u33, u34, u35, u36, u37, u38, u39, u40, u41, u42, u43, u44, u45, u46, u47, u48, u49, u50], defers := [] }) (by rfl) ?first ?pass
      case first =>
        intro hrest
        go_wp2_with fail
        go_step3
        go_step
        go_step
        refine hrest 9 _ _ ⟨h, 0, 0, ⟨Below.refl _ _, by omega, by omega, by omega, hb'⟩, ?_⟩
        exact ⟨_, _, _, _, _, _, _, _, _, _, _, _, _, _, _, _, _, _, _, _, _, _, _, _, _, _, _, _, _, _, _, _, _, _, _, _, _, _, _, _, _, _, _, _, _, _, rfl⟩
      case pass =>
        rintro n a' wr ⟨x, z, l, ⟨hB, hn1, hn2, hl, hb'⟩, u3, u4, u5, u6, u9, u10, u11, u12, u13, u14, u15, u16, u17, u18, u19, u20, u21, u22, u23, u24, u25, u26, u27, u28, u29, u30, u31, u32, u33, u34, u35, u36, u37, u38, u39, u40, u41, u42, u43, u44, u45, u46, u47, u48, u49, u50, rfl⟩ J hJ
        have hA := hA.below hB
        have z_r := hB.size
        have hb := hb'.out
        clear hb'
        obtain ⟨n, rfl⟩ : ∃ m, n = m + 1 := ⟨n - 1, by omega⟩
        unfold wBeforeL at hb
        have e8 : (8 - (n : Int)) = l := by omega
        rw [e8] at hb
        have hl' : l + 1 = 9 - (n : Int) := by omega
        have hl1 : 0 ≤ l := by omega
        have hl2 : l ≤ 9 := by omega
        have Hl := Lib.hid hl'
        clear hl' hl e8
        cases ho : symBit c l with
        | true =>
          rw [ho, if_pos rfl] at hb
          obtain ⟨j, hj, hb⟩ := Option.bind_eq_some_iff.1 hb
          have Hj := Lib.hid hj; clear hj
          have Hb := Lib.hid hb; clear hb
          have Ho := Lib.hid ho; clear ho
          by_cases hn : 1 ≤ n
          all_goals
            first
            | have d3 : decide (l + 1 < 9) = true := by have := Hl.out; simp; omega
            | have d3 : decide (l + 1 < 9) = false := by have := Hl.out; simp; omega
            go_wp2_with fail
            refine calls_gen fun V1 hV_V1 => ?_
            have n_B : Below w.heap.size w V1 := nB hV_V1
            have n_A : AP V1 ap s O := nA hV_V1
            have z_V1 := Nat.le_of_eq (congrArg (fun v : World => v.heap.size) hV_V1).symm
            try simp only [SZ] at z_V1
            clear hV_V1
            clear hA
            have hA := n_A
            clear n_A
            clear hB
            have hB := n_B
            clear n_B
            refine (wRow_calls _ _ hA).mono ?_
            rintro e_w2 w2 ⟨rfl, hb_w2⟩
            replace hA := hA.below hb_w2
            replace hB := below_step hB hb_w2
            have z_w2 := hb_w2.size
            clear hb_w2
            unfold Nd.val
            go_wp2_with fail
            refine calls_gen fun V2 hV_V2 => ?_
            have n_k0 := congrArg (fun v : World => v.heap[w2.heap.size]?) hV_V2
            simp (maxDischargeDepth := 9) only [BK, not_false_eq_true, reduceCtorEq] at n_k0
            have o_k0 : ¬ O (w2.heap.size) := by first | exact hA.new (Nat.le_refl _) | exact hA.new (by omega)
            have n_B : Below w.heap.size w V2 := nB hV_V2
            have n_A : AP V2 ap s O := nA hV_V2
            have z_V2 := Nat.le_of_eq (congrArg (fun v : World => v.heap.size) hV_V2).symm
            try simp only [SZ] at z_V2
            clear hV_V2
            clear hA
            have hA := n_A
            clear n_A
            clear hB
            have hB := n_B
            clear n_B
            have k0 := n_k0; clear n_k0
            have c_k0 := cells_of k0
            have f_k0 := free_of k0
            have l_k0_V2 := lt_of k0
            refine (symBit_calls _ _ _).mono ?_
            rintro e_q w_q ⟨rfl, rfl⟩
            rw [Ho.out]
            go_wp2_with fail
            refine wp_gen fun V3 hV_V3 => ?_
            have n_k0 := congrArg (fun v : World => v.heap[w2.heap.size]?) hV_V3
            simp (maxDischargeDepth := 9) only [BK, not_false_eq_true, reduceCtorEq, k0, l_k0_V2] at n_k0
            have n_B : Below w.heap.size w V3 := nB hV_V3
            have n_A : AP V3 ap s O := nA hV_V3
            have z_V3 := Nat.le_of_eq (congrArg (fun v : World => v.heap.size) hV_V3).symm
            try simp only [SZ] at z_V3
            clear k0 c_k0 f_k0
            clear hV_V3
            clear hA
            have hA := n_A
            clear n_A
            clear hB
            have hB := n_B
            clear n_B
            have k0 := n_k0; clear n_k0
            have c_k0 := cells_of k0
            have f_k0 := free_of k0
            have l_k0_V3 := lt_of k0
            refine wp_region_noPanic ?_
            refine wp_region_held_drew (S := fun v => (∀ o, v.cell? ⟨w2.heap.size, o, none⟩ = V3.cell? ⟨w2.heap.size, o, none⟩) ∧ (V3.heap.size ≤ v.heap.size) ∧ AP v ap s O) (by kernel_rfl) ⟨(fun _ => rfl), (Nat.le_refl _), hA.drew⟩ (fun hHeld => ?_)
            generalize hV_V3d : V3.drew = V3d at hHeld ⊢
            have n_k0 : V3d.heap[w2.heap.size]? = V3.heap[w2.heap.size]? := by rw [← hV_V3d]; rfl
            have d_k0 := n_k0.trans k0
            clear n_k0 c_k0 f_k0
            have n_A : AP V3d ap s O := by rw [← hV_V3d]; exact hA.drew
            clear hA; have hA := n_A; clear n_A
            have n_B : Below w.heap.size w V3d := by rw [← hV_V3d]; exact hB.drew
            clear hB; have hB := n_B; clear n_B
            have z_V3d : V3.heap.size ≤ V3d.heap.size := by rw [← hV_V3d]; exact Nat.le_refl _
            have v_k0 := cells_of k0
            clear k0; have k0 := d_k0; clear d_k0
            have c_k0 := cells_of k0
            have f_k0 := free_of k0
            have l_k0_V3d := lt_of k0
            clear hV_V3d
            refine ty (i := 0) (v := ?_) rfl hHeld ?_ ?_
            rotate_left
            focus (intro w hSw; go_simp; (try simp only [IntWalk.i64_left]); try (with_reducible rfl))
            try simp only [PT]
            refine ty (i := 1) (v := ?_) rfl hHeld ?_ ?_
            rotate_left
            focus (intro w hSw; go_simp; (try simp only [IntWalk.i64_left]); try (with_reducible rfl))
            try simp only [PT]
            refine ty (i := 2) (v := ?_) rfl hHeld ?_ ?_
            rotate_left
            focus (intro w hSw; go_simp; (try simp only [IntWalk.i64_left]); try (with_reducible rfl))
            try simp only [PT]
            refine ty (i := 3) (v := ?_) rfl hHeld ?_ ?_
            rotate_left
            focus (intro w hSw; go_simp; (try simp only [IntWalk.i64_left]); try (with_reducible rfl))
            try simp only [PT]
            refine ty (i := 4) (v := ?_) rfl hHeld ?_ ?_
            rotate_left
            focus (intro w hSw; go_simp; (try simp only [IntWalk.i64_left]); try (with_reducible rfl))
            try simp only [PT]
            refine ty (i := 5) (v := ?_) rfl hHeld ?_ ?_
            rotate_left
            focus (intro w hSw; go_simp; (try simp only [IntWalk.i64_left]); try (with_reducible rfl))
            try simp only [PT]
            refine ty (i := 6) (v := ?_) rfl hHeld ?_ ?_
            rotate_left
            focus (intro w hSw; go_simp; (try simp only [IntWalk.i64_left]); try (with_reducible rfl))
            try simp only [PT]
            refine ty (i := 7) (v := ?_) rfl hHeld ?_ ?_
            rotate_left
            focus (intro w hSw; go_simp; (try simp only [IntWalk.i64_left]); try (with_reducible rfl))
            try simp only [PT]
            refine ty (i := 8) (v := ?_) rfl hHeld ?_ ?_
            rotate_left
            focus (intro w hSw; go_simp; (try simp only [IntWalk.i64_left]); try (with_reducible rfl))
            try simp only [PT]
            refine wpAnyH_ready (rs := [9]) (by kernel_rfl) (by simp) ?_
            refine ready_at rfl (fun K hK => ?_) AllReadyH.nil
            go_simp
            try simp only [IntWalk.i64_left]
            refine (bLen_calls _ _ hA).mono ?_
            rintro e_w3 w3 ⟨rfl, hb_w3⟩
            replace hA := hA.below hb_w3
            replace hB := below_step hB hb_w3
            replace k0 := keep_blk hb_w3 k0
            have c_k0 := cells_of k0
            have f_k0 := free_of k0
            have l_k0_w3 := lt_of k0
            have z_w3 := hb_w3.size
            clear hb_w3
            refine hK.out _ _ ⟨(fun o => (c_k0 o).trans (v_k0 o).symm), (by omega), hA⟩ (fun hHeld => ?_)
            clear hK K
            try simp only [PT]
            refine wpAnyH_ready (rs := [10]) (by kernel_rfl) (by simp) ?_
            refine ready_at rfl (fun K hK => ?_) AllReadyH.nil
            go_simp
            try simp only [IntWalk.i64_left]
            refine (wAlike_calls _ _ _ _ Hj.out _ hA).mono ?_
            rintro e_w4 w4 ⟨rfl, hb_w4⟩
            replace hA := hA.below hb_w4
            replace hB := below_step hB hb_w4
            replace k0 := keep_blk hb_w4 k0
            have c_k0 := cells_of k0
            have f_k0 := free_of k0
            have l_k0_w4 := lt_of k0
            have z_w4 := hb_w4.size
            clear hb_w4
            refine hK.out _ _ ⟨(fun o => (c_k0 o).trans (v_k0 o).symm), (by omega), hA⟩ (fun hHeld => ?_)
            clear hK K
            try simp only [PT]
            refine ty (i := 11) (v := ?_) rfl hHeld ?_ ?_
            rotate_left
            focus (intro w hSw; go_simp; (try simp only [IntWalk.i64_left]); try (with_reducible rfl))
            try simp only [PT]
            refine wpAnyH_ready (rs := [12]) (by kernel_rfl) (by simp) ?_
            refine ready_at rfl (fun K hK => ?_) AllReadyH.nil
            go_simp
            refine hK.out _ _ hHeld (fun hHeld => ?_)
            clear hK K
            try simp only [PT]
            refine wpAnyH_done (by kernel_rfl) ?_ _
            refine NoPanic.normal ?_
            go_wp2_with fail
            refine calls_gen fun V4 hV_V4 => ?_
            have n_k0 := congrArg (fun v : World => v.heap[w2.heap.size]?) hV_V4
            simp (maxDischargeDepth := 9) only [BK, not_false_eq_true, reduceCtorEq, k0, l_k0_V2, l_k0_V3, l_k0_V3d, l_k0_w3, l_k0_w4] at n_k0
            have n_B : Below w.heap.size w V4 := nB hV_V4
            have n_A : AP V4 ap s O := nA hV_V4
            have z_V4 := Nat.le_of_eq (congrArg (fun v : World => v.heap.size) hV_V4).symm
            try simp only [SZ] at z_V4
            clear k0 c_k0 f_k0
            clear hV_V4
            clear hA
            have hA := n_A
            clear n_A
            clear hB
            have hB := n_B
            clear n_B
            have k0 := n_k0; clear n_k0
            have c_k0 := cells_of k0
            have f_k0 := free_of k0
            have l_k0_V4 := lt_of k0
            refine (wKid_calls (s.get x) _ _).mono ?_
            rintro e_w5 w5 ⟨rfl, hb_w5⟩
            replace hA := hA.below hb_w5
            replace hB := below_step hB hb_w5
            replace k0 := keep_blk hb_w5 k0
            have c_k0 := cells_of k0
            have f_k0 := free_of k0
            have l_k0_w5 := lt_of k0
            have z_w5 := hb_w5.size
            clear hb_w5
            go_wp2_with fail
            first
            | (go_step3; refine ⟨rfl, hJ _ _ ⟨n, by omega, _, _, _, ⟨by (repeat' first | with_reducible assumption | with_reducible exact Below.refl _ _ | with_reducible refine Below.alloc ?_ ?_ _ | with_reducible refine Below.setCell ?_ ?_ _ | with_reducible refine below_drewN ?_ _ | with_reducible refine Below.drew ?_ | exact Nat.le_refl _ | ((try dsimp only); omega) | (simp only [siz_alloc, siz_set]; omega)), hn, by omega, Hl.out, Hb⟩, ?_⟩⟩; exact ⟨_, _, _, _, _, _, _, _, _, _, _, _, _, _, _, _, _, _, _, _, _, _, _, _, _, _, _, _, _, _, _, _, _, _, _, _, _, _, _, _, _, _, _, _, _, _, rfl⟩)
            | (simp only [Exit.jump]; go_ret; obtain rfl : n = 0 := (by omega); exact ⟨by first | (rw [← Option.some.inj Hb.out]; done) | (rw [← Option.some.inj Hb.out]; rfl) | (have e := Option.some.inj Hb.out; subst e; rfl), by (repeat' first | with_reducible assumption | with_reducible exact Below.refl _ _ | with_reducible refine Below.alloc ?_ ?_ _ | with_reducible refine Below.setCell ?_ ?_ _ | with_reducible refine below_drewN ?_ _ | with_reducible refine Below.drew ?_ | exact Nat.le_refl _ | ((try dsimp only); omega) | (simp only [siz_alloc, siz_set]; omega))⟩)
        | false =>
          rw [ho, if_neg (by decide)] at hb
          have Hb := Lib.hid hb; clear hb
          have Ho := Lib.hid ho; clear ho
          by_cases hn : 1 ≤ n
          all_goals
            first
            | have d3 : decide (l + 1 < 9) = true := by have := Hl.out; simp; omega
            | have d3 : decide (l + 1 < 9) = false := by have := Hl.out; simp; omega
            go_wp2_with fail
            refine calls_gen fun V1 hV_V1 => ?_
            have n_B : Below w.heap.size w V1 := nB hV_V1
            have n_A : AP V1 ap s O := nA hV_V1
            have z_V1 := Nat.le_of_eq (congrArg (fun v : World => v.heap.size) hV_V1).symm
            try simp only [SZ] at z_V1
            clear hV_V1
            clear hA
            have hA := n_A
            clear n_A
            clear hB
            have hB := n_B
            clear n_B
            refine (wRow_calls _ _ hA).mono ?_
            rintro e_w2 w2 ⟨rfl, hb_w2⟩
            replace hA := hA.below hb_w2
            replace hB := below_step hB hb_w2
            have z_w2 := hb_w2.size
            clear hb_w2
            unfold Nd.val
            go_wp2_with fail
            refine calls_gen fun V2 hV_V2 => ?_
            have n_k0 := congrArg (fun v : World => v.heap[w2.heap.size]?) hV_V2
            simp (maxDischargeDepth := 9) only [BK, not_false_eq_true, reduceCtorEq] at n_k0
            have o_k0 : ¬ O (w2.heap.size) := by first | exact hA.new (Nat.le_refl _) | exact hA.new (by omega)
            have n_B : Below w.heap.size w V2 := nB hV_V2
            have n_A : AP V2 ap s O := nA hV_V2
            have z_V2 := Nat.le_of_eq (congrArg (fun v : World => v.heap.size) hV_V2).symm
            try simp only [SZ] at z_V2
            clear hV_V2
            clear hA
            have hA := n_A
            clear n_A
            clear hB
            have hB := n_B
            clear n_B
            have k0 := n_k0; clear n_k0
            have c_k0 := cells_of k0
            have f_k0 := free_of k0
            have l_k0_V2 := lt_of k0
            refine (symBit_calls _ _ _).mono ?_
            rintro e_q w_q ⟨rfl, rfl⟩
            rw [Ho.out]
            go_wp2_with fail
            refine calls_gen fun V4 hV_V4 => ?_
            have n_k0 := congrArg (fun v : World => v.heap[w2.heap.size]?) hV_V4
            simp (maxDischargeDepth := 9) only [BK, not_false_eq_true, reduceCtorEq, k0, l_k0_V2] at n_k0
            have n_B : Below w.heap.size w V4 := nB hV_V4
            have n_A : AP V4 ap s O := nA hV_V4
            have z_V4 := Nat.le_of_eq (congrArg (fun v : World => v.heap.size) hV_V4).symm
            try simp only [SZ] at z_V4
            clear k0 c_k0 f_k0
            clear hV_V4
            clear hA
            have hA := n_A
            clear n_A
            clear hB
            have hB := n_B
            clear n_B
            have k0 := n_k0; clear n_k0
            have c_k0 := cells_of k0
            have f_k0 := free_of k0
            have l_k0_V4 := lt_of k0
            refine (wKid_calls (s.get x) _ _).mono ?_
            rintro e_w5 w5 ⟨rfl, hb_w5⟩
            replace hA := hA.below hb_w5
            replace hB := below_step hB hb_w5
            replace k0 := keep_blk hb_w5 k0
            have c_k0 := cells_of k0
            have f_k0 := free_of k0
            have l_k0_w5 := lt_of k0
            have z_w5 := hb_w5.size
            clear hb_w5
            go_wp2_with fail
            first
            | (go_step3; refine ⟨rfl, hJ _ _ ⟨n, by omega, _, _, _, ⟨by (repeat' first | with_reducible assumption | with_reducible exact Below.refl _ _ | with_reducible refine Below.alloc ?_ ?_ _ | with_reducible refine Below.setCell ?_ ?_ _ | with_reducible refine below_drewN ?_ _ | with_reducible refine Below.drew ?_ | exact Nat.le_refl _ | ((try dsimp only); omega) | (simp only [siz_alloc, siz_set]; omega)), hn, by omega, Hl.out, Hb⟩, ?_⟩⟩; exact ⟨_, _, _, _, _, _, _, _, _, _, _, _, _, _, _, _, _, _, _, _, _, _, _, _, _, _, _, _, _, _, _, _, _, _, _, _, _, _, _, _, _, _, _, _, _, _, rfl⟩)
            | (simp only [Exit.jump]; go_ret; obtain rfl : n = 0 := (by omega); exact ⟨by first | (rw [← Option.some.inj Hb.out]; done) | (rw [← Option.some.inj Hb.out]; rfl) | (have e := Option.some.inj Hb.out; subst e; rfl), by (repeat' first | with_reducible assumption | with_reducible exact Below.refl _ _ | with_reducible refine Below.alloc ?_ ?_ _ | with_reducible refine Below.setCell ?_ ?_ _ | with_reducible refine below_drewN ?_ _ | with_reducible refine Below.drew ?_ | exact Nat.le_refl _ | ((try dsimp only); omega) | (simp only [siz_alloc, siz_set]; omega))⟩)
end Go.Proofs.YtpdpcgmkpgfblaaGreat
/- Versions. -/
namespace Go.Proofs.YtpdpcgmkpgfblaaGreat
set_option linter.unusedSimpArgs false
set_option linter.unusedVariables false
set_option linter.unnecessarySimpa false
open Go.RowKit
attribute [local go_sem ↓] Go.wp_at_zero Go.wp_at_succ
attribute [local go_sem] lt_s2 lt_s3 lt_s4
attribute [local go_sem] idx0 idx1 idx2 idx3
variable {ap : Value} {s : Ar} {O : Nat → Prop}
def Parts.val (p : Parts) : Value := .agg #[.int .i64 p.wave, .int .i64 p.marks, .int .i64 p.spots, .int .i64 p.table]
set_option maxRecDepth 100000 in
set_option maxHeartbeats 2000000 in
theorem vOf_calls (h : Int) (w : World) (hA : AP w ap s O) :
    Calls Tryz.prog 18 #[ap, .int .i64 h] w fun e w' => e = .returned (.tuple #[(vOf s h).val, .bool (vIs s h)]) ∧ Below w.heap.size w w' := by
  unfold Parts.val
  by_cases h1 : h = 0
  · have E1 : vOf s h = Parts.zero := by unfold vOf; rw [if_neg (by simp [h1])]
    have E2 : vIs s h = true := by unfold vIs; simp [h1]
    rw [E1, E2]
    have d1 : (h == 0) = true := by simpa using h1
    clear h1 E1 E2
    go_enter Tryz.func18, Tryz.ntmps18
    go_wp2_with fail
    refine bodyPost_ret (v := .tuple #[.agg #[.int .i64 0, .int .i64 0, .int .i64 0, .int .i64 0], .bool true]) (by simp [results, Tryz.results18, go_sem, *]) rfl ⟨rfl, by (repeat' first | with_reducible assumption | with_reducible exact Below.refl _ _ | with_reducible refine Below.alloc ?_ ?_ _ | with_reducible refine Below.setCell ?_ ?_ _ | with_reducible refine below_drewN ?_ _ | with_reducible refine Below.drew ?_ | exact Nat.le_refl _ | ((try dsimp only); omega) | (simp only [siz_alloc, siz_set]; omega))⟩
  · have d1 : (h == 0) = false := by simpa using h1
    cases h2 : s.has h with
    | false =>
      have E2 : vIs s h = false := by unfold vIs; simp [h1, h2]
      have E1 : vOf s h = Parts.zero := by unfold vOf; rw [if_neg (by simp [E2])]
      rw [E1, E2]
      clear h1 E1 E2
      go_enter Tryz.func18, Tryz.ntmps18
      go_wp2_with fail
      refine calls_gen fun V hV_V => ?_
      have n_kr := congrArg (fun v : World => v.heap[w.heap.size]?) hV_V
      simp (maxDischargeDepth := 9) only [BK, not_false_eq_true, reduceCtorEq] at n_kr
      have o_kr : ¬ O (w.heap.size) := by first | exact hA.new (Nat.le_refl _) | exact hA.new (by omega)
      have n_B : Below w.heap.size w V := nB hV_V
      have n_A : AP V ap s O := nA hV_V
      have z_V := Nat.le_of_eq (congrArg (fun v : World => v.heap.size) hV_V).symm
      try simp only [SZ] at z_V
      clear hV_V
      clear hA
      have hA := n_A
      clear n_A
      skip
      have hB := n_B
      clear n_B
      have kr := n_kr; clear n_kr
      have c_kr := cells_of kr
      have f_kr := free_of kr
      have l_kr_V := lt_of kr
      refine (aget_calls _ _ hA).mono ?_
      rintro e_W1 W1 ⟨rfl, hb_W1⟩
      replace hA := hA.below hb_W1
      replace hB := below_step hB hb_W1
      replace kr := keep_blk hb_W1 kr
      have c_kr := cells_of kr
      have f_kr := free_of kr
      have l_kr_W1 := lt_of kr
      have z_W1 := hb_W1.size
      clear hb_W1
      rw [h2]
      unfold Nd.val
      go_wp2_with fail
      refine bodyPost_ret (v := .tuple #[.agg #[.int .i64 0, .int .i64 0, .int .i64 0, .int .i64 0], .bool false]) (by simp [results, Tryz.results18, go_sem, *]) rfl ⟨rfl, by (repeat' first | with_reducible assumption | with_reducible exact Below.refl _ _ | with_reducible refine Below.alloc ?_ ?_ _ | with_reducible refine Below.setCell ?_ ?_ _ | with_reducible refine below_drewN ?_ _ | with_reducible refine Below.drew ?_ | exact Nat.le_refl _ | ((try dsimp only); omega) | (simp only [siz_alloc, siz_set]; omega))⟩
    | true =>
      by_cases h3 : s.cnt h = 0
      · have E2 : vIs s h = false := by unfold vIs; simp [h1, h2, h3]
        have E1 : vOf s h = Parts.zero := by unfold vOf; rw [if_neg (by simp [E2])]
        rw [E1, E2]
        have d3 : (s.cnt h == 0) = true := by simpa using h3
        clear h1 E1 E2 h3
        go_enter Tryz.func18, Tryz.ntmps18
        go_wp2_with fail
        refine calls_gen fun V hV_V => ?_
        have n_kr := congrArg (fun v : World => v.heap[w.heap.size]?) hV_V
        simp (maxDischargeDepth := 9) only [BK, not_false_eq_true, reduceCtorEq] at n_kr
        have o_kr : ¬ O (w.heap.size) := by first | exact hA.new (Nat.le_refl _) | exact hA.new (by omega)
        have n_B : Below w.heap.size w V := nB hV_V
        have n_A : AP V ap s O := nA hV_V
        have z_V := Nat.le_of_eq (congrArg (fun v : World => v.heap.size) hV_V).symm
        try simp only [SZ] at z_V
        clear hV_V
        clear hA
        have hA := n_A
        clear n_A
        skip
        have hB := n_B
        clear n_B
        have kr := n_kr; clear n_kr
        have c_kr := cells_of kr
        have f_kr := free_of kr
        have l_kr_V := lt_of kr
        refine (aget_calls _ _ hA).mono ?_
        rintro e_W1 W1 ⟨rfl, hb_W1⟩
        replace hA := hA.below hb_W1
        replace hB := below_step hB hb_W1
        replace kr := keep_blk hb_W1 kr
        have c_kr := cells_of kr
        have f_kr := free_of kr
        have l_kr_W1 := lt_of kr
        have z_W1 := hb_W1.size
        clear hb_W1
        rw [h2]
        unfold Nd.val
        go_wp2_with fail
        refine calls_gen fun V1 hV_V1 => ?_
        have n_kr := congrArg (fun v : World => v.heap[w.heap.size]?) hV_V1
        simp (maxDischargeDepth := 9) only [BK, not_false_eq_true, reduceCtorEq, kr, l_kr_V, l_kr_W1] at n_kr
        have n_kn := congrArg (fun v : World => v.heap[W1.heap.size]?) hV_V1
        simp (maxDischargeDepth := 9) only [BK, not_false_eq_true, reduceCtorEq, kr, l_kr_V, l_kr_W1] at n_kn
        have o_kn : ¬ O (W1.heap.size) := by first | exact hA.new (Nat.le_refl _) | exact hA.new (by omega)
        have n_B : Below w.heap.size w V1 := nB hV_V1
        have n_A : AP V1 ap s O := nA hV_V1
        have z_V1 := Nat.le_of_eq (congrArg (fun v : World => v.heap.size) hV_V1).symm
        try simp only [SZ] at z_V1
        clear kr c_kr f_kr
        clear hV_V1
        clear hA
        have hA := n_A
        clear n_A
        clear hB
        have hB := n_B
        clear n_B
        have kr := n_kr; clear n_kr
        have c_kr := cells_of kr
        have f_kr := free_of kr
        have l_kr_V1 := lt_of kr
        have kn := n_kn; clear n_kn
        have c_kn := cells_of kn
        have f_kn := free_of kn
        have l_kn_V1 := lt_of kn
        refine (count_calls _ _ hA).mono ?_
        rintro e_q w_q ⟨rfl, rfl⟩
        go_wp2_with fail
        refine bodyPost_ret (v := .tuple #[.agg #[.int .i64 0, .int .i64 0, .int .i64 0, .int .i64 0], .bool false]) (by simp [results, Tryz.results18, go_sem, *]) rfl ⟨rfl, by (repeat' first | with_reducible assumption | with_reducible exact Below.refl _ _ | with_reducible refine Below.alloc ?_ ?_ _ | with_reducible refine Below.setCell ?_ ?_ _ | with_reducible refine below_drewN ?_ _ | with_reducible refine Below.drew ?_ | exact Nat.le_refl _ | ((try dsimp only); omega) | (simp only [siz_alloc, siz_set]; omega))⟩
      · have d3 : (s.cnt h == 0) = false := by simpa using h3
        by_cases h4 : (s.get h).tag = 6
        · have E2 : vIs s h = true := by unfold vIs; simp [h1, h2, h3, h4]
          have E1 : vOf s h = ⟨(s.get h).k0, (s.get h).k1, (s.get h).k2, (s.get h).k3⟩ := by unfold vOf; rw [if_pos ⟨h1, E2⟩]
          rw [E1, E2]
          have d4 : ((s.get h).tag != 6) = false := by simp [h4]
          clear h1 E1 E2 h3 h4
          go_enter Tryz.func18, Tryz.ntmps18
          go_wp2_with fail
          refine calls_gen fun V hV_V => ?_
          have n_kr := congrArg (fun v : World => v.heap[w.heap.size]?) hV_V
          simp (maxDischargeDepth := 9) only [BK, not_false_eq_true, reduceCtorEq] at n_kr
          have o_kr : ¬ O (w.heap.size) := by first | exact hA.new (Nat.le_refl _) | exact hA.new (by omega)
          have n_B : Below w.heap.size w V := nB hV_V
          have n_A : AP V ap s O := nA hV_V
          have z_V := Nat.le_of_eq (congrArg (fun v : World => v.heap.size) hV_V).symm
          try simp only [SZ] at z_V
          clear hV_V
          clear hA
          have hA := n_A
          clear n_A
          skip
          have hB := n_B
          clear n_B
          have kr := n_kr; clear n_kr
          have c_kr := cells_of kr
          have f_kr := free_of kr
          have l_kr_V := lt_of kr
          refine (aget_calls _ _ hA).mono ?_
          rintro e_W1 W1 ⟨rfl, hb_W1⟩
          replace hA := hA.below hb_W1
          replace hB := below_step hB hb_W1
          replace kr := keep_blk hb_W1 kr
          have c_kr := cells_of kr
          have f_kr := free_of kr
          have l_kr_W1 := lt_of kr
          have z_W1 := hb_W1.size
          clear hb_W1
          rw [h2]
          unfold Nd.val
          go_wp2_with fail
          refine calls_gen fun V1 hV_V1 => ?_
          have n_kr := congrArg (fun v : World => v.heap[w.heap.size]?) hV_V1
          simp (maxDischargeDepth := 9) only [BK, not_false_eq_true, reduceCtorEq, kr, l_kr_V, l_kr_W1] at n_kr
          have n_kn := congrArg (fun v : World => v.heap[W1.heap.size]?) hV_V1
          simp (maxDischargeDepth := 9) only [BK, not_false_eq_true, reduceCtorEq, kr, l_kr_V, l_kr_W1] at n_kn
          have o_kn : ¬ O (W1.heap.size) := by first | exact hA.new (Nat.le_refl _) | exact hA.new (by omega)
          have n_B : Below w.heap.size w V1 := nB hV_V1
          have n_A : AP V1 ap s O := nA hV_V1
          have z_V1 := Nat.le_of_eq (congrArg (fun v : World => v.heap.size) hV_V1).symm
          try simp only [SZ] at z_V1
          clear kr c_kr f_kr
          clear hV_V1
          clear hA
          have hA := n_A
          clear n_A
          clear hB
          have hB := n_B
          clear n_B
          have kr := n_kr; clear n_kr
          have c_kr := cells_of kr
          have f_kr := free_of kr
          have l_kr_V1 := lt_of kr
          have kn := n_kn; clear n_kn
          have c_kn := cells_of kn
          have f_kn := free_of kn
          have l_kn_V1 := lt_of kn
          refine (count_calls _ _ hA).mono ?_
          rintro e_q w_q ⟨rfl, rfl⟩
          go_wp2_with fail
          refine bodyPost_ret (v := .tuple #[.agg #[.int .i64 (s.get h).k0, .int .i64 (s.get h).k1, .int .i64 (s.get h).k2, .int .i64 (s.get h).k3], .bool true]) (by simp [results, Tryz.results18, go_sem, *]) rfl ⟨rfl, by (repeat' first | with_reducible assumption | with_reducible exact Below.refl _ _ | with_reducible refine Below.alloc ?_ ?_ _ | with_reducible refine Below.setCell ?_ ?_ _ | with_reducible refine below_drewN ?_ _ | with_reducible refine Below.drew ?_ | exact Nat.le_refl _ | ((try dsimp only); omega) | (simp only [siz_alloc, siz_set]; omega))⟩
        · have E2 : vIs s h = false := by unfold vIs; simp [h1, h2, h3, h4]
          have E1 : vOf s h = Parts.zero := by unfold vOf; rw [if_neg (by simp [E2])]
          rw [E1, E2]
          have d4 : ((s.get h).tag != 6) = true := by simp [h4]
          clear h1 E1 E2 h3 h4
          go_enter Tryz.func18, Tryz.ntmps18
          go_wp2_with fail
          refine calls_gen fun V hV_V => ?_
          have n_kr := congrArg (fun v : World => v.heap[w.heap.size]?) hV_V
          simp (maxDischargeDepth := 9) only [BK, not_false_eq_true, reduceCtorEq] at n_kr
          have o_kr : ¬ O (w.heap.size) := by first | exact hA.new (Nat.le_refl _) | exact hA.new (by omega)
          have n_B : Below w.heap.size w V := nB hV_V
          have n_A : AP V ap s O := nA hV_V
          have z_V := Nat.le_of_eq (congrArg (fun v : World => v.heap.size) hV_V).symm
          try simp only [SZ] at z_V
          clear hV_V
          clear hA
          have hA := n_A
          clear n_A
          skip
          have hB := n_B
          clear n_B
          have kr := n_kr; clear n_kr
          have c_kr := cells_of kr
          have f_kr := free_of kr
          have l_kr_V := lt_of kr
          refine (aget_calls _ _ hA).mono ?_
          rintro e_W1 W1 ⟨rfl, hb_W1⟩
          replace hA := hA.below hb_W1
          replace hB := below_step hB hb_W1
          replace kr := keep_blk hb_W1 kr
          have c_kr := cells_of kr
          have f_kr := free_of kr
          have l_kr_W1 := lt_of kr
          have z_W1 := hb_W1.size
          clear hb_W1
          rw [h2]
          unfold Nd.val
          go_wp2_with fail
          refine calls_gen fun V1 hV_V1 => ?_
          have n_kr := congrArg (fun v : World => v.heap[w.heap.size]?) hV_V1
          simp (maxDischargeDepth := 9) only [BK, not_false_eq_true, reduceCtorEq, kr, l_kr_V, l_kr_W1] at n_kr
          have n_kn := congrArg (fun v : World => v.heap[W1.heap.size]?) hV_V1
          simp (maxDischargeDepth := 9) only [BK, not_false_eq_true, reduceCtorEq, kr, l_kr_V, l_kr_W1] at n_kn
          have o_kn : ¬ O (W1.heap.size) := by first | exact hA.new (Nat.le_refl _) | exact hA.new (by omega)
          have n_B : Below w.heap.size w V1 := nB hV_V1
          have n_A : AP V1 ap s O := nA hV_V1
          have z_V1 := Nat.le_of_eq (congrArg (fun v : World => v.heap.size) hV_V1).symm
          try simp only [SZ] at z_V1
          clear kr c_kr f_kr
          clear hV_V1
          clear hA
          have hA := n_A
          clear n_A
          clear hB
          have hB := n_B
          clear n_B
          have kr := n_kr; clear n_kr
          have c_kr := cells_of kr
          have f_kr := free_of kr
          have l_kr_V1 := lt_of kr
          have kn := n_kn; clear n_kn
          have c_kn := cells_of kn
          have f_kn := free_of kn
          have l_kn_V1 := lt_of kn
          refine (count_calls _ _ hA).mono ?_
          rintro e_q w_q ⟨rfl, rfl⟩
          go_wp2_with fail
          refine bodyPost_ret (v := .tuple #[.agg #[.int .i64 0, .int .i64 0, .int .i64 0, .int .i64 0], .bool false]) (by simp [results, Tryz.results18, go_sem, *]) rfl ⟨rfl, by (repeat' first | with_reducible assumption | with_reducible exact Below.refl _ _ | with_reducible refine Below.alloc ?_ ?_ _ | with_reducible refine Below.setCell ?_ ?_ _ | with_reducible refine below_drewN ?_ _ | with_reducible refine Below.drew ?_ | exact Nat.le_refl _ | ((try dsimp only); omega) | (simp only [siz_alloc, siz_set]; omega))⟩
set_option maxRecDepth 100000 in
set_option maxHeartbeats 800000 in
theorem vRows_calls (h : Int) (w : World) (hA : AP w ap s O) :
    Calls Tryz.prog 15 #[ap, .int .i64 h] w fun e w' => e = .returned (.int .i64 (vRows s h)) ∧ Below w.heap.size w w' := by
  go_enter Tryz.func15, Tryz.ntmps15
  go_wp2_with fail
  refine calls_gen fun V hV_V => ?_
  have n_B : Below w.heap.size w V := nB hV_V
  have n_A : AP V ap s O := nA hV_V
  have z_V := Nat.le_of_eq (congrArg (fun v : World => v.heap.size) hV_V).symm
  try simp only [SZ] at z_V
  clear hV_V
  clear hA
  have hA := n_A
  clear n_A
  skip
  have hB := n_B
  clear n_B
  refine (vOf_calls _ _ hA).mono ?_
  rintro e_W1 W1 ⟨rfl, hb_W1⟩
  replace hA := hA.below hb_W1
  replace hB := below_step hB hb_W1
  have z_W1 := hb_W1.size
  clear hb_W1
  unfold Parts.val
  go_wp2_with fail
  refine calls_gen fun V1 hV_V1 => ?_
  have n_kp := congrArg (fun v : World => v.heap[W1.heap.size]?) hV_V1
  simp (maxDischargeDepth := 9) only [BK, not_false_eq_true, reduceCtorEq] at n_kp
  have o_kp : ¬ O (W1.heap.size) := by first | exact hA.new (Nat.le_refl _) | exact hA.new (by omega)
  have n_B : Below w.heap.size w V1 := nB hV_V1
  have n_A : AP V1 ap s O := nA hV_V1
  have z_V1 := Nat.le_of_eq (congrArg (fun v : World => v.heap.size) hV_V1).symm
  try simp only [SZ] at z_V1
  clear hV_V1
  clear hA
  have hA := n_A
  clear n_A
  clear hB
  have hB := n_B
  clear n_B
  have kp := n_kp; clear n_kp
  have c_kp := cells_of kp
  have f_kp := free_of kp
  have l_kp_V1 := lt_of kp
  refine (wLen_calls _ _ hA).mono ?_
  rintro e_W2 W2 ⟨rfl, hb_W2⟩
  replace hA := hA.below hb_W2
  replace hB := below_step hB hb_W2
  replace kp := keep_blk hb_W2 kp
  have c_kp := cells_of kp
  have f_kp := free_of kp
  have l_kp_W2 := lt_of kp
  have z_W2 := hb_W2.size
  clear hb_W2
  go_wp2_with fail
  go_ret
  exact ⟨rfl, hB⟩
set_option maxRecDepth 100000 in
set_option maxHeartbeats 800000 in
theorem vDocs_calls (h : Int) (w : World) (hA : AP w ap s O) :
    Calls Tryz.prog 19 #[ap, .int .i64 h] w fun e w' => e = .returned (.int .i64 (vDocs s h)) ∧ Below w.heap.size w w' := by
  go_enter Tryz.func19, Tryz.ntmps19
  go_wp2_with fail
  refine calls_gen fun V hV_V => ?_
  have n_B : Below w.heap.size w V := nB hV_V
  have n_A : AP V ap s O := nA hV_V
  have z_V := Nat.le_of_eq (congrArg (fun v : World => v.heap.size) hV_V).symm
  try simp only [SZ] at z_V
  clear hV_V
  clear hA
  have hA := n_A
  clear n_A
  skip
  have hB := n_B
  clear n_B
  refine (vOf_calls _ _ hA).mono ?_
  rintro e_W1 W1 ⟨rfl, hb_W1⟩
  replace hA := hA.below hb_W1
  replace hB := below_step hB hb_W1
  have z_W1 := hb_W1.size
  clear hb_W1
  unfold Parts.val
  go_wp2_with fail
  refine calls_gen fun V1 hV_V1 => ?_
  have n_kp := congrArg (fun v : World => v.heap[W1.heap.size]?) hV_V1
  simp (maxDischargeDepth := 9) only [BK, not_false_eq_true, reduceCtorEq] at n_kp
  have o_kp : ¬ O (W1.heap.size) := by first | exact hA.new (Nat.le_refl _) | exact hA.new (by omega)
  have n_B : Below w.heap.size w V1 := nB hV_V1
  have n_A : AP V1 ap s O := nA hV_V1
  have z_V1 := Nat.le_of_eq (congrArg (fun v : World => v.heap.size) hV_V1).symm
  try simp only [SZ] at z_V1
  clear hV_V1
  clear hA
  have hA := n_A
  clear n_A
  clear hB
  have hB := n_B
  clear n_B
  have kp := n_kp; clear n_kp
  have c_kp := cells_of kp
  have f_kp := free_of kp
  have l_kp_V1 := lt_of kp
  refine (tLen_calls _ _ hA).mono ?_
  rintro e_W2 W2 ⟨rfl, hb_W2⟩
  replace hA := hA.below hb_W2
  replace hB := below_step hB hb_W2
  replace kp := keep_blk hb_W2 kp
  have c_kp := cells_of kp
  have f_kp := free_of kp
  have l_kp_W2 := lt_of kp
  have z_W2 := hb_W2.size
  clear hb_W2
  go_wp2_with fail
  go_ret
  exact ⟨rfl, hB⟩
set_option maxRecDepth 100000 in
set_option maxHeartbeats 2000000 in
theorem vNext_calls (h i : Int) (r : Int × Bool) (hr : vNext s h i = some r) (w : World) (hA : AP w ap s O) :
    Calls Tryz.prog 16 #[ap, .int .i64 h, .int .i64 i] w fun e w' => e = .returned (.tuple #[.int .i64 r.1, .bool r.2]) ∧ Below w.heap.size w w' := by
  unfold vNext at hr
  obtain ⟨x, h_b, h_r⟩ := Option.bind_eq_some_iff.1 hr
  have Hx := Lib.hid h_b; clear h_b hr; have hr := h_r; clear h_r
  cases h1 : x.2 with
  | false =>
    rw [if_pos (.inl h1)] at hr
    obtain rfl := Option.some.inj hr
    clear hr
    go_enter Tryz.func16, Tryz.ntmps16
    go_wp2_with fail
    refine calls_gen fun V hV_V => ?_
    have n_B : Below w.heap.size w V := nB hV_V
    have n_A : AP V ap s O := nA hV_V
    have z_V := Nat.le_of_eq (congrArg (fun v : World => v.heap.size) hV_V).symm
    try simp only [SZ] at z_V
    clear hV_V
    clear hA
    have hA := n_A
    clear n_A
    skip
    have hB := n_B
    clear n_B
    refine (vOf_calls _ _ hA).mono ?_
    rintro e_W1 W1 ⟨rfl, hb_W1⟩
    replace hA := hA.below hb_W1
    replace hB := below_step hB hb_W1
    have z_W1 := hb_W1.size
    clear hb_W1
    unfold Parts.val
    go_wp2_with fail
    refine calls_gen fun V1 hV_V1 => ?_
    have n_kp := congrArg (fun v : World => v.heap[W1.heap.size]?) hV_V1
    simp (maxDischargeDepth := 9) only [BK, not_false_eq_true, reduceCtorEq] at n_kp
    have o_kp : ¬ O (W1.heap.size) := by first | exact hA.new (Nat.le_refl _) | exact hA.new (by omega)
    have n_B : Below w.heap.size w V1 := nB hV_V1
    have n_A : AP V1 ap s O := nA hV_V1
    have z_V1 := Nat.le_of_eq (congrArg (fun v : World => v.heap.size) hV_V1).symm
    try simp only [SZ] at z_V1
    clear hV_V1
    clear hA
    have hA := n_A
    clear n_A
    clear hB
    have hB := n_B
    clear n_B
    have kp := n_kp; clear n_kp
    have c_kp := cells_of kp
    have f_kp := free_of kp
    have l_kp_V1 := lt_of kp
    refine (wGet_calls _ _ _ Hx.out _ hA).mono ?_
    rintro e_W2 W2 ⟨rfl, hb_W2⟩
    replace hA := hA.below hb_W2
    replace hB := below_step hB hb_W2
    replace kp := keep_blk hb_W2 kp
    have c_kp := cells_of kp
    have f_kp := free_of kp
    have l_kp_W2 := lt_of kp
    have z_W2 := hb_W2.size
    clear hb_W2
    rw [h1]
    go_wp2_with fail
    go_ret2
    exact ⟨rfl, hB⟩
  | true =>
    by_cases h2 : x.1 = 0
    · rw [if_pos (.inr h2)] at hr
      obtain rfl := Option.some.inj hr
      have d2 : (x.1 == 0) = true := by simpa using h2
      clear hr h2
      go_enter Tryz.func16, Tryz.ntmps16
      go_wp2_with fail
      refine calls_gen fun V hV_V => ?_
      have n_B : Below w.heap.size w V := nB hV_V
      have n_A : AP V ap s O := nA hV_V
      have z_V := Nat.le_of_eq (congrArg (fun v : World => v.heap.size) hV_V).symm
      try simp only [SZ] at z_V
      clear hV_V
      clear hA
      have hA := n_A
      clear n_A
      skip
      have hB := n_B
      clear n_B
      refine (vOf_calls _ _ hA).mono ?_
      rintro e_W1 W1 ⟨rfl, hb_W1⟩
      replace hA := hA.below hb_W1
      replace hB := below_step hB hb_W1
      have z_W1 := hb_W1.size
      clear hb_W1
      unfold Parts.val
      go_wp2_with fail
      refine calls_gen fun V1 hV_V1 => ?_
      have n_kp := congrArg (fun v : World => v.heap[W1.heap.size]?) hV_V1
      simp (maxDischargeDepth := 9) only [BK, not_false_eq_true, reduceCtorEq] at n_kp
      have o_kp : ¬ O (W1.heap.size) := by first | exact hA.new (Nat.le_refl _) | exact hA.new (by omega)
      have n_B : Below w.heap.size w V1 := nB hV_V1
      have n_A : AP V1 ap s O := nA hV_V1
      have z_V1 := Nat.le_of_eq (congrArg (fun v : World => v.heap.size) hV_V1).symm
      try simp only [SZ] at z_V1
      clear hV_V1
      clear hA
      have hA := n_A
      clear n_A
      clear hB
      have hB := n_B
      clear n_B
      have kp := n_kp; clear n_kp
      have c_kp := cells_of kp
      have f_kp := free_of kp
      have l_kp_V1 := lt_of kp
      refine (wGet_calls _ _ _ Hx.out _ hA).mono ?_
      rintro e_W2 W2 ⟨rfl, hb_W2⟩
      replace hA := hA.below hb_W2
      replace hB := below_step hB hb_W2
      replace kp := keep_blk hb_W2 kp
      have c_kp := cells_of kp
      have f_kp := free_of kp
      have l_kp_W2 := lt_of kp
      have z_W2 := hb_W2.size
      clear hb_W2
      rw [h1]
      go_wp2_with fail
      go_ret2
      exact ⟨rfl, hB⟩
    · rw [if_neg (by rw [h1]; simp [h2])] at hr
      have d2 : (x.1 == 0) = false := by simpa using h2
      clear h2
      obtain ⟨p, h_b, h_r⟩ := Option.bind_eq_some_iff.1 hr
      have Hp := Lib.hid h_b; clear h_b hr; have hr := h_r; clear h_r
      obtain ⟨q, h_b, h_r⟩ := Option.bind_eq_some_iff.1 hr
      have Hq := Lib.hid h_b; clear h_b hr; have hr := h_r; clear h_r
      obtain rfl := Option.some.inj hr
      clear hr
      go_enter Tryz.func16, Tryz.ntmps16
      go_wp2_with fail
      refine calls_gen fun V hV_V => ?_
      have n_B : Below w.heap.size w V := nB hV_V
      have n_A : AP V ap s O := nA hV_V
      have z_V := Nat.le_of_eq (congrArg (fun v : World => v.heap.size) hV_V).symm
      try simp only [SZ] at z_V
      clear hV_V
      clear hA
      have hA := n_A
      clear n_A
      skip
      have hB := n_B
      clear n_B
      refine (vOf_calls _ _ hA).mono ?_
      rintro e_W1 W1 ⟨rfl, hb_W1⟩
      replace hA := hA.below hb_W1
      replace hB := below_step hB hb_W1
      have z_W1 := hb_W1.size
      clear hb_W1
      unfold Parts.val
      go_wp2_with fail
      refine calls_gen fun V1 hV_V1 => ?_
      have n_kp := congrArg (fun v : World => v.heap[W1.heap.size]?) hV_V1
      simp (maxDischargeDepth := 9) only [BK, not_false_eq_true, reduceCtorEq] at n_kp
      have o_kp : ¬ O (W1.heap.size) := by first | exact hA.new (Nat.le_refl _) | exact hA.new (by omega)
      have n_B : Below w.heap.size w V1 := nB hV_V1
      have n_A : AP V1 ap s O := nA hV_V1
      have z_V1 := Nat.le_of_eq (congrArg (fun v : World => v.heap.size) hV_V1).symm
      try simp only [SZ] at z_V1
      clear hV_V1
      clear hA
      have hA := n_A
      clear n_A
      clear hB
      have hB := n_B
      clear n_B
      have kp := n_kp; clear n_kp
      have c_kp := cells_of kp
      have f_kp := free_of kp
      have l_kp_V1 := lt_of kp
      refine (wGet_calls _ _ _ Hx.out _ hA).mono ?_
      rintro e_W2 W2 ⟨rfl, hb_W2⟩
      replace hA := hA.below hb_W2
      replace hB := below_step hB hb_W2
      replace kp := keep_blk hb_W2 kp
      have c_kp := cells_of kp
      have f_kp := free_of kp
      have l_kp_W2 := lt_of kp
      have z_W2 := hb_W2.size
      clear hb_W2
      rw [h1]
      go_wp2_with fail
      refine wp_gen fun V2 hV_V2 => ?_
      have n_kp := congrArg (fun v : World => v.heap[W1.heap.size]?) hV_V2
      simp (maxDischargeDepth := 9) only [BK, not_false_eq_true, reduceCtorEq, kp, l_kp_V1, l_kp_W2] at n_kp
      have n_B : Below w.heap.size w V2 := nB hV_V2
      have n_A : AP V2 ap s O := nA hV_V2
      have z_V2 := Nat.le_of_eq (congrArg (fun v : World => v.heap.size) hV_V2).symm
      try simp only [SZ] at z_V2
      clear kp c_kp f_kp
      clear hV_V2
      clear hA
      have hA := n_A
      clear n_A
      clear hB
      have hB := n_B
      clear n_B
      have kp := n_kp; clear n_kp
      have c_kp := cells_of kp
      have f_kp := free_of kp
      have l_kp_V2 := lt_of kp
      refine wp_region_noPanic ?_
      refine wp_region_held_drew (S := fun v => (∀ o, v.cell? ⟨W1.heap.size, o, none⟩ = V2.cell? ⟨W1.heap.size, o, none⟩) ∧ (V2.heap.size ≤ v.heap.size) ∧ AP v ap s O) (by kernel_rfl) ⟨(fun _ => rfl), (Nat.le_refl _), hA.drew⟩ (fun hHeld => ?_)
      generalize hV_V2d : V2.drew = V2d at hHeld ⊢
      have n_kp : V2d.heap[W1.heap.size]? = V2.heap[W1.heap.size]? := by rw [← hV_V2d]; rfl
      have d_kp := n_kp.trans kp
      clear n_kp c_kp f_kp
      have n_A : AP V2d ap s O := by rw [← hV_V2d]; exact hA.drew
      clear hA; have hA := n_A; clear n_A
      have n_B : Below w.heap.size w V2d := by rw [← hV_V2d]; exact hB.drew
      clear hB; have hB := n_B; clear n_B
      have z_V2d : V2.heap.size ≤ V2d.heap.size := by rw [← hV_V2d]; exact Nat.le_refl _
      have v_kp := cells_of kp
      clear kp; have kp := d_kp; clear d_kp
      have c_kp := cells_of kp
      have f_kp := free_of kp
      have l_kp_V2d := lt_of kp
      clear hV_V2d
      refine ty (i := 0) (v := ?_) rfl hHeld ?_ ?_
      rotate_left
      focus (intro w hSw; go_simp; (try simp only [IntWalk.i64_left]); try (with_reducible rfl))
      try simp only [PT]
      refine ty (i := 1) (v := ?_) rfl hHeld ?_ ?_
      rotate_left
      focus (intro w hSw; go_simp; (try simp only [IntWalk.i64_left]); try (with_reducible rfl))
      try simp only [PT]
      refine ty (i := 2) (v := ?_) rfl hHeld ?_ ?_
      rotate_left
      focus (intro w hSw; go_simp; (try simp only [IntWalk.i64_left]); try (with_reducible rfl))
      try simp only [PT]
      refine ty (i := 3) (v := ?_) rfl hHeld ?_ ?_
      rotate_left
      focus (intro w hSw; go_simp; (try simp only [IntWalk.i64_left]); try (with_reducible rfl))
      try simp only [PT]
      refine ty (i := 5) (v := ?_) rfl hHeld ?_ ?_
      rotate_left
      focus (intro w hSw; go_simp; (try simp only [IntWalk.i64_left]); try (with_reducible rfl))
      try simp only [PT]
      refine ty (i := 6) (v := ?_) rfl hHeld ?_ ?_
      rotate_left
      focus (intro w hSw; go_simp; (try simp only [IntWalk.i64_left]); try (with_reducible rfl))
      try simp only [PT]
      refine ty (i := 7) (v := ?_) rfl hHeld ?_ ?_
      rotate_left
      focus (intro w hSw; go_simp; (try simp only [IntWalk.i64_left]); try (with_reducible rfl))
      try simp only [PT]
      refine ty (i := 8) (v := ?_) rfl hHeld ?_ ?_
      rotate_left
      focus (intro w hSw; go_simp; (try simp only [IntWalk.i64_left]); try (with_reducible rfl))
      try simp only [PT]
      refine ty (i := 9) (v := ?_) rfl hHeld ?_ ?_
      rotate_left
      focus (intro w hSw; go_simp; (try simp only [IntWalk.i64_left]); try (with_reducible rfl))
      try simp only [PT]
      refine wpAnyH_ready (rs := [4]) (by kernel_rfl) (by simp) ?_
      refine ready_at rfl (fun K hK => ?_) AllReadyH.nil
      go_simp
      try simp only [IntWalk.i64_left]
      refine (wBefore_calls _ _ _ Hp.out _ hA).mono ?_
      rintro e_W3 W3 ⟨rfl, hb_W3⟩
      replace hA := hA.below hb_W3
      replace hB := below_step hB hb_W3
      replace kp := keep_blk hb_W3 kp
      have c_kp := cells_of kp
      have f_kp := free_of kp
      have l_kp_W3 := lt_of kp
      have z_W3 := hb_W3.size
      clear hb_W3
      refine hK.out _ _ ⟨(fun o => (c_kp o).trans (v_kp o).symm), (by omega), hA⟩ (fun hHeld => ?_)
      clear hK K
      try simp only [PT]
      refine wpAnyH_ready (rs := [10]) (by kernel_rfl) (by simp) ?_
      refine ready_at rfl (fun K hK => ?_) AllReadyH.nil
      go_simp
      try simp only [IntWalk.i64_left]
      refine (wRank_calls _ _ _ _ Hq.out _ hA).mono ?_
      rintro e_W4 W4 ⟨rfl, hb_W4⟩
      replace hA := hA.below hb_W4
      replace hB := below_step hB hb_W4
      replace kp := keep_blk hb_W4 kp
      have c_kp := cells_of kp
      have f_kp := free_of kp
      have l_kp_W4 := lt_of kp
      have z_W4 := hb_W4.size
      clear hb_W4
      refine hK.out _ _ ⟨(fun o => (c_kp o).trans (v_kp o).symm), (by omega), hA⟩ (fun hHeld => ?_)
      clear hK K
      try simp only [PT]
      refine ty (i := 11) (v := ?_) rfl hHeld ?_ ?_
      rotate_left
      focus (intro w hSw; go_simp; (try simp only [IntWalk.i64_left]); try (with_reducible rfl))
      try simp only [PT]
      refine wpAnyH_ready (rs := [12]) (by kernel_rfl) (by simp) ?_
      refine ready_at rfl (fun K hK => ?_) AllReadyH.nil
      go_simp
      refine hK.out _ _ hHeld (fun hHeld => ?_)
      clear hK K
      try simp only [PT]
      refine wpAnyH_ready (rs := [13]) (by kernel_rfl) (by simp) ?_
      refine ready_at rfl (fun K hK => ?_) AllReadyH.nil
      go_simp
      refine hK.out _ _ hHeld (fun hHeld => ?_)
      clear hK K
      try simp only [PT]
      refine wpAnyH_done (by kernel_rfl) ?_ _
      refine NoPanic.normal ?_
      go_wp2_with fail
      go_ret2
      exact ⟨by simp only [IntWalk.i64_left]; rfl, hB⟩
end Go.Proofs.YtpdpcgmkpgfblaaGreat
/- The laws' helper Build: its closure. -/
namespace Go.Proofs.YtpdpcgmkpgfblaaGreat
set_option linter.unusedSimpArgs false
set_option linter.unusedVariables false
set_option linter.unnecessarySimpa false
open Go.RowKit
attribute [local go_sem ↓] Go.wp_at_zero Go.wp_at_succ
variable {ap : Value} {s : Ar} {O : Nat → Prop}
/-- The cell that holds whether all went well. -/
structure NB (w : World) (bo : Nat) (ap : Value) (s : Ar) (ok : Bool) (O : Nat → Prop) : Prop where
  hA : AP w ap s O
  blk : w.heap[bo]? = some (.cells #[.bool ok] 4 (0, 0))
  no : ¬ O bo
set_option maxRecDepth 100000 in
set_option maxHeartbeats 1600000 in
theorem next_calls (bo ba : Nat) (ok : Bool) (h : Int) (r : Int × Int × Ar) (w : World) (hA : AP w ap r.2.2 O) (ko : w.heap[bo]? = some (.cells #[.bool ok] 4 (0, 0))) (ka : w.heap[ba]? = some (.cells #[ap] 25 (0, 0))) (o_ko : ¬ O bo) (o_ka : ¬ O ba) (hne : ba ≠ bo) :
    Calls Tryz.prog 37 #[.int .i64 h, .int .i64 r.1, .int .i64 r.2.1, .pointer (some ⟨bo, 0, none⟩), .pointer (some ⟨ba, 0, none⟩)] w fun e w' => e = .returned (.int .i64 (nextA ok h r).1) ∧ ∃ O', NB w' bo ap (nextA ok h r).2.2 (nextA ok h r).2.1 O' ∧ Fr (oneX bo) O O' w w' := by
  by_cases h1 : r.2.1 = 0
  · have d1 : (r.2.1 != 0) = false := by simp [h1]
    by_cases h2 : h = 0
    · have d2 : (h != 0) = false := by simp [h2]
      have E : Hid (nextA ok h r = (r.1, ok, r.2.2)) := Lib.hid (by unfold nextA; rw [if_pos h1, if_pos h2])
      clear h1 h2
      go_enter Tryz.func37, Tryz.ntmps37
      go_wp2_with fail
      go_ret
      rw [E.out]
      exact ⟨rfl, O, ⟨hA, ko, o_ko⟩, Fr.refl _ _ _⟩
    · have d2 : (h != 0) = true := by simp [h2]
      have E : Hid (nextA ok h r = (r.1, ok, r.2.2.drop h)) := Lib.hid (by unfold nextA; rw [if_pos h1, if_neg h2])
      clear h1 h2
      go_enter Tryz.func37, Tryz.ntmps37
      have c_ko := cells_of ko
      have f_ko := free_of ko
      have l_ko_w := lt_of ko
      have c_ka := cells_of ka
      have f_ka := free_of ka
      have l_ka_w := lt_of ka
      go_wp2_with fail
      refine calls_gen fun V hV_V => ?_
      have n_ko := congrArg (fun v : World => v.heap[bo]?) hV_V
      simp (maxDischargeDepth := 9) only [BK, not_false_eq_true, reduceCtorEq, ko, ka, l_ko_w, l_ka_w] at n_ko
      have n_ka := congrArg (fun v : World => v.heap[ba]?) hV_V
      simp (maxDischargeDepth := 9) only [BK, not_false_eq_true, reduceCtorEq, ko, ka, l_ko_w, l_ka_w] at n_ka
      have n_F : Fr ((oneX bo)) O O w V := nF hV_V
      have n_A : AP V ap r.2.2 O := nA hV_V
      have z_V := Nat.le_of_eq (congrArg (fun v : World => v.heap.size) hV_V).symm
      try simp only [SZ] at z_V
      clear ko c_ko f_ko
      clear ka c_ka f_ka
      clear hV_V
      clear hA
      have hA := n_A
      clear n_A
      skip
      have hF := n_F
      clear n_F
      have ko := n_ko; clear n_ko
      have c_ko := cells_of ko
      have f_ko := free_of ko
      have l_ko_V := lt_of ko
      have ka := n_ka; clear n_ka
      have c_ka := cells_of ka
      have f_ka := free_of ka
      have l_ka_V := lt_of ka
      refine (drop_calls _ _ hA).mono ?_
      rintro e_W1 W1 ⟨rfl, O1, hA_W1, hf_W1⟩
      have q_ko := hf_W1.keep ko o_ko (fun h => h)
      have q_ka := hf_W1.keep ka o_ka (fun h => h)
      replace o_ko := hf_W1.not_own (lt_of ko) o_ko
      clear ko; have ko := q_ko; clear q_ko
      have c_ko := cells_of ko
      have f_ko := free_of ko
      have l_ko_W1 := lt_of ko
      replace o_ka := hf_W1.not_own (lt_of ka) o_ka
      clear ka; have ka := q_ka; clear q_ka
      have c_ka := cells_of ka
      have f_ka := free_of ka
      have l_ka_W1 := lt_of ka
      replace hF := hF.trans hf_W1.widen
      have z_W1 := hf_W1.size
      clear hA hf_W1; have hA := hA_W1; clear hA_W1
      go_wp2_with fail
      go_ret
      rw [E.out]
      exact ⟨rfl, O1, ⟨hA, ko, o_ko⟩, hF⟩
  · have d1 : (r.2.1 != 0) = true := by simp [h1]
    have E : Hid (nextA ok h r = (h, false, r.2.2)) := Lib.hid (by unfold nextA; rw [if_neg h1])
    clear h1
    go_enter Tryz.func37, Tryz.ntmps37
    have c_ko := cells_of ko
    have f_ko := free_of ko
    have l_ko_w := lt_of ko
    have c_ka := cells_of ka
    have f_ka := free_of ka
    have l_ka_w := lt_of ka
    go_wp2_with fail
    go_ret
    rw [E.out]
    refine ⟨rfl, O, ⟨hA.set o_ko _, ?_, o_ko⟩, (Fr.refl (oneX bo) O w).set (q := ⟨bo, 0, none⟩) (.inr (by show oneX bo bo; rfl)) _⟩
    rw [blk_set, ko]; rfl
theorem next_t (bo ba : Nat) (ok : Bool) (h : Int) (r : Int × Int × Ar) (t : Int × Bool × Ar) (ht : nextA ok h r = t) (w : World) (hA : AP w ap r.2.2 O) (ko : w.heap[bo]? = some (.cells #[.bool ok] 4 (0, 0))) (ka : w.heap[ba]? = some (.cells #[ap] 25 (0, 0))) (o_ko : ¬ O bo) (o_ka : ¬ O ba) (hne : ba ≠ bo) :
    Calls Tryz.prog 37 #[.int .i64 h, .int .i64 r.1, .int .i64 r.2.1, .pointer (some ⟨bo, 0, none⟩), .pointer (some ⟨ba, 0, none⟩)] w fun e w' => e = .returned (.int .i64 t.1) ∧ ∃ O', NB w' bo ap t.2.2 t.2.1 O' ∧ Fr (oneX bo) O O' w w' := by
  subst ht; exact next_calls bo ba ok h r w hA ko ka o_ko o_ka hne
def twoX (a b : Nat) : Nat → Prop := fun x => x = a ∨ x = b
/-- A frame that may spare blocks that are the call's own. -/
theorem Fr.trans_own {X Y O O' O'' : Nat → Prop} {a b c : World} (h : Fr X O O' a b) (k : Fr Y O' O'' b c) (hY : ∀ x, Y x → a.heap.size ≤ x) : Fr X O O'' a c := by
  refine ⟨k.os.trans h.os, k.tape.trans h.tape, k.output.trans h.output, Nat.le_trans h.size k.size, fun x hx ho hX => ?_, fun x hx => ?_⟩
  · refine (k.block x (Nat.lt_of_lt_of_le hx h.size) (fun ho' => ?_) (fun e => ?_)).trans (h.block x hx ho hX)
    · rcases h.own x ho' with g | g
      · exact ho g
      · omega
    · have := hY x e; omega
  · rcases k.own x hx with g | g
    · exact h.own x g
    · exact .inr (Nat.le_trans h.size g)
set_option maxRecDepth 100000 in
set_option maxHeartbeats 1600000 in
theorem vMake_calls (p : Parts) (w : World) (hA : AP w ap s O) :
    Calls Tryz.prog 44 #[ap, p.val] w fun e w' => e = .returned (.tuple #[.int .i64 (vMake s p).1, .int .i64 (vMake s p).2.1]) ∧ Did noX ap (vMake s p).2.2 O w w' := by
  unfold Parts.val
  by_cases h : p.wave = 0 ∧ p.marks = 0 ∧ p.spots = 0 ∧ p.table = 0
  · obtain ⟨a, b, c, d⟩ := p
    obtain ⟨rfl, rfl, rfl, rfl⟩ := h
    have E : Hid (vMake s ⟨0, 0, 0, 0⟩ = (0, 0, s)) := Lib.hid (by unfold vMake; rw [if_pos ⟨rfl, rfl, rfl, rfl⟩])
    go_enter Tryz.func44, Tryz.ntmps44
    go_wp2_with fail
    go_ret2
    rw [E.out]
    exact ⟨rfl, O, by first | exact hA | exact hA.alloc _, by first | exact Fr.refl _ _ _ | exact (Fr.refl _ _ _).alloc _⟩
  · have E : Hid (vMake s p = s.make ⟨6, p.wave, p.marks, p.spots, p.table, 0, 0⟩) := Lib.hid (by unfold vMake; rw [if_neg h])
    obtain ⟨f1, f2, f3, f4, hf⟩ : ∃ f1 f2 f3 f4 : Bool, (p.wave == 0) = f1 ∧ (p.marks == 0) = f2 ∧ (p.spots == 0) = f3 ∧ (p.table == 0) = f4 := ⟨_, _, _, _, rfl, rfl, rfl, rfl⟩
    obtain ⟨g1, g2, g3, g4⟩ := hf
    have hn : ¬ (f1 = true ∧ f2 = true ∧ f3 = true ∧ f4 = true) := by
      rintro ⟨rfl, rfl, rfl, rfl⟩
      exact h ⟨by simpa using g1, by simpa using g2, by simpa using g3, by simpa using g4⟩
    clear h
    cases f1 <;> cases f2 <;> cases f3 <;> cases f4 <;> first | exact absurd ⟨rfl, rfl, rfl, rfl⟩ hn | skip
    all_goals
      clear hn
      go_enter Tryz.func44, Tryz.ntmps44
      go_wp2_with fail
      refine calls_gen fun V hV_V => ?_
      have n_kp := congrArg (fun v : World => v.heap[w.heap.size]?) hV_V
      simp (maxDischargeDepth := 9) only [BK, not_false_eq_true, reduceCtorEq] at n_kp
      have o_kp : ¬ O (w.heap.size) := by first | exact hA.new (Nat.le_refl _) | exact hA.new (by omega)
      have n_F : Fr (noX) O O w V := nF hV_V
      have n_A : AP V ap s O := nA hV_V
      have z_V := Nat.le_of_eq (congrArg (fun v : World => v.heap.size) hV_V).symm
      try simp only [SZ] at z_V
      clear hV_V
      clear hA
      have hA := n_A
      clear n_A
      skip
      have hF := n_F
      clear n_F
      have kp := n_kp; clear n_kp
      have c_kp := cells_of kp
      have f_kp := free_of kp
      have l_kp_V := lt_of kp
      refine (make_calls (⟨6, p.wave, p.marks, p.spots, p.table, 0, 0⟩ : Nd) U64.zero _ hA).mono ?_
      rintro e_W1 W1 ⟨rfl, O1, hA_W1, hf_W1⟩
      have q_kp := hf_W1.keep kp o_kp (fun h => h)
      replace o_kp := hf_W1.not_own (lt_of kp) o_kp
      clear kp; have kp := q_kp; clear q_kp
      have c_kp := cells_of kp
      have f_kp := free_of kp
      have l_kp_W1 := lt_of kp
      replace hF := hF.trans hf_W1.widen
      have z_W1 := hf_W1.size
      clear hA hf_W1; have hA := hA_W1; clear hA_W1
      go_wp2_with fail
      go_ret2
      rw [E.out]
      exact ⟨rfl, O1, hA, hF⟩
end Go.Proofs.YtpdpcgmkpgfblaaGreat
/- The document's own order of rows, as plain functions; no program here. -/
namespace Go.Proofs.YtpdpcgmkpgfblaaGreat
set_option linter.unusedSimpArgs false
set_option linter.unusedVariables false
set_option linter.unnecessarySimpa false
open Go.RowKit
/-- Which of two texts is less; d: what is told of two that are alike. -/
def lessL (d : Bool) : List UInt8 → List UInt8 → Bool
  | [], [] => d
  | [], _ :: _ => true
  | _ :: _, [] => false
  | x :: s, y :: t => if x = y then lessL d s t else decide (x.toNat < y.toNat)
theorem drop_at {α : Type} {l : List α} {i : Nat} {x : α} (h : l[i]? = some x) : l.drop i = x :: l.drop (i + 1) := by
  obtain ⟨h1, rfl⟩ := List.getElem?_eq_some_iff.1 h
  exact List.drop_eq_getElem_cons h1
theorem at_some {α : Type} {l : List α} {i : Nat} (h : i < l.length) : ∃ x, l[i]? = some x := ⟨l[i], List.getElem?_eq_getElem h⟩
def refRight (ts : List (List UInt8)) : Bool := ts.all (fun t => decide (t.length ≤ 40)) && decide (ts.length ≤ 10)
/-! ### the document's own order of rows, as plain functions -/
def rowsOf (ts : List (List UInt8)) (d : Nat) : List (Nat × Nat) := (List.range ((ts.getD d []).length + 1)).map fun a => (d, a)
/-- The rows ahead of a place. -/
def upto (ts : List (List UInt8)) (d a : Nat) : List (Nat × Nat) := (List.range d).flatMap (rowsOf ts) ++ (List.range a).map fun a => (d, a)
def refLess (ts : List (List UInt8)) (a b : Nat × Nat) : Bool := lessL (decide (a.1 < b.1)) ((ts.getD a.1 []).drop a.2) ((ts.getD b.1 []).drop b.2)
def refAt (ts : List (List UInt8)) (out : List (Nat × Nat)) (r : Nat × Nat) : Nat := (out.takeWhile (fun x => refLess ts x r)).length
def refIns (ts : List (List UInt8)) (out : List (Nat × Nat)) (r : Nat × Nat) : List (Nat × Nat) := out.take (refAt ts out r) ++ r :: out.drop (refAt ts out r)
def refFold (ts : List (List UInt8)) (l : List (Nat × Nat)) : List (Nat × Nat) := l.foldl (refIns ts) []
def refSorted (ts : List (List UInt8)) : List (Nat × Nat) := if refRight ts then refFold ts (upto ts ts.length 0) else []
def rowInts (l : List (Nat × Nat)) : List (Int × Int) := l.map fun r => ((r.1 : Int), (r.2 : Int))
theorem upto_zero (ts : List (List UInt8)) : upto ts 0 0 = [] := rfl
theorem upto_snoc (ts : List (List UInt8)) (d a : Nat) : upto ts d (a + 1) = upto ts d a ++ [(d, a)] := by
  unfold upto
  rw [List.range_succ, List.map_append, List.append_assoc]; rfl
theorem upto_next (ts : List (List UInt8)) (d : Nat) : upto ts d ((ts.getD d []).length + 1) = upto ts (d + 1) 0 := by
  unfold upto
  rw [show List.range (d + 1) = List.range d ++ [d] from List.range_succ, List.flatMap_append]
  simp [rowsOf]
theorem refFold_snoc (ts : List (List UInt8)) (l : List (Nat × Nat)) (r : Nat × Nat) : refFold ts (l ++ [r]) = refIns ts (refFold ts l) r := by
  unfold refFold; rw [List.foldl_append]; rfl
theorem refAt_le (ts : List (List UInt8)) (out : List (Nat × Nat)) (r : Nat × Nat) : refAt ts out r ≤ out.length := by
  unfold refAt; exact (List.takeWhile_prefix _).length_le
theorem refIns_mem (ts : List (List UInt8)) (out : List (Nat × Nat)) (r x : Nat × Nat) : x ∈ refIns ts out r ↔ x = r ∨ x ∈ out := by
  unfold refIns
  rw [List.mem_append, List.mem_cons]
  have : x ∈ out ↔ x ∈ out.take (refAt ts out r) ∨ x ∈ out.drop (refAt ts out r) := by rw [← List.mem_append, List.take_append_drop]
  rw [this]
  constructor
  · rintro (h | h | h)
    · exact .inr (.inl h)
    · exact .inl h
    · exact .inr (.inr h)
  · rintro (h | h | h)
    · exact .inr (.inl h)
    · exact .inl h
    · exact .inr (.inr h)
theorem refIns_length (ts : List (List UInt8)) (out : List (Nat × Nat)) (r : Nat × Nat) : (refIns ts out r).length = out.length + 1 := by
  unfold refIns
  have := refAt_le ts out r
  simp; omega
theorem fold_mem (ts : List (List UInt8)) : ∀ (l out : List (Nat × Nat)) (x : Nat × Nat), x ∈ l.foldl (refIns ts) out ↔ x ∈ l ∨ x ∈ out
  | [], out, x => by simp
  | r :: l, out, x => by
    rw [List.foldl_cons, fold_mem ts l, refIns_mem, List.mem_cons]
    constructor
    · rintro (h | h | h)
      · exact .inl (.inr h)
      · exact .inl (.inl h)
      · exact .inr h
    · rintro ((h | h) | h)
      · exact .inr (.inl h)
      · exact .inl h
      · exact .inr (.inr h)
theorem refFold_mem (ts : List (List UInt8)) (l : List (Nat × Nat)) (x : Nat × Nat) : x ∈ refFold ts l ↔ x ∈ l := by
  unfold refFold; rw [fold_mem]; simp
theorem fold_length (ts : List (List UInt8)) : ∀ (l out : List (Nat × Nat)), (l.foldl (refIns ts) out).length = l.length + out.length
  | [], out => by simp
  | r :: l, out => by rw [List.foldl_cons, fold_length ts l, refIns_length, List.length_cons]; omega
theorem refFold_length (ts : List (List UInt8)) (l : List (Nat × Nat)) : (refFold ts l).length = l.length := by
  unfold refFold; rw [fold_length]; simp
theorem getD_at {ts : List (List UInt8)} {d : Nat} {t : List UInt8} (h : ts[d]? = some t) : ts.getD d [] = t := by simp [List.getD, h]
theorem upto_mem {ts : List (List UInt8)} {d a : Nat} {x : Nat × Nat} (h : x ∈ upto ts d a) : (x.1 < d ∧ x.2 ≤ (ts.getD x.1 []).length) ∨ (x.1 = d ∧ x.2 < a) := by
  unfold upto rowsOf at h
  rw [List.mem_append] at h
  rcases h with h | h
  · obtain ⟨e, he, h⟩ := List.mem_flatMap.1 h
    obtain ⟨b, hb, rfl⟩ := List.mem_map.1 h
    rw [List.mem_range] at he hb
    exact .inl ⟨he, by show b ≤ (ts.getD e []).length; omega⟩
  · obtain ⟨b, hb, rfl⟩ := List.mem_map.1 h
    rw [List.mem_range] at hb
    exact .inr ⟨rfl, hb⟩
theorem right_len {ts : List (List UInt8)} (h : refRight ts = true) : ts.length ≤ 10 ∧ ∀ d, (ts.getD d []).length ≤ 40 := by
  unfold refRight at h
  simp only [Bool.and_eq_true, decide_eq_true_eq, List.all_eq_true] at h
  refine ⟨h.2, fun d => ?_⟩
  by_cases hd : d < ts.length
  · rw [getD_at (List.getElem?_eq_getElem hd)]; exact h.1 _ (List.getElem_mem hd)
  · simp [List.getD, List.getElem?_eq_none (Nat.le_of_not_lt hd)]
theorem flat_length (ts : List (List UInt8)) (h : ∀ d, (ts.getD d []).length ≤ 40) : ∀ d, ((List.range d).flatMap (rowsOf ts)).length ≤ d * 41
  | 0 => by simp
  | d + 1 => by
    have := flat_length ts h d
    have := h d
    rw [List.range_succ, List.flatMap_append, List.length_append]
    have e : ((List.flatMap (rowsOf ts) [d])).length = (ts.getD d []).length + 1 := by simp [rowsOf]
    omega
theorem upto_length {ts : List (List UInt8)} (h : ∀ d, (ts.getD d []).length ≤ 40) (d a : Nat) : (upto ts d a).length ≤ d * 41 + a := by
  unfold upto
  have := flat_length ts h d
  rw [List.length_append, List.length_map, List.length_range]; omega
theorem refAt_of {ts : List (List UInt8)} : ∀ {out : List (Nat × Nat)} {r : Nat × Nat} {j : Nat}, j ≤ out.length → (∀ i x, i < j → out[i]? = some x → refLess ts x r = true) → (∀ x, out[j]? = some x → refLess ts x r = false) → refAt ts out r = j
  | [], r, j, h, _, _ => by unfold refAt; simp at h ⊢; omega
  | y :: out, r, 0, h, h1, h2 => by
    unfold refAt
    rw [List.takeWhile_cons, if_neg (by rw [h2 y rfl]; simp)]; rfl
  | y :: out, r, j + 1, h, h1, h2 => by
    unfold refAt
    rw [List.takeWhile_cons, if_pos (h1 0 y (by omega) rfl), List.length_cons]
    have := refAt_of (ts := ts) (out := out) (r := r) (j := j) (by simpa using h) (fun i x hi hx => h1 (i + 1) x (by omega) (by simpa using hx)) (fun x hx => h2 x (by simpa using hx))
    unfold refAt at this
    rw [this]
theorem fold_small {ts : List (List UInt8)} (h : refRight ts = true) (d a : Nat) (hd : d ≤ 10) (ha : a ≤ 41) : (refFold ts (upto ts d a)).length ≤ 500 := by
  rw [refFold_length]
  have := upto_length (right_len h).2 d a
  omega
theorem fold_valid {ts : List (List UInt8)} (d a : Nat) (t : List UInt8) (ht : ts[d]? = some t) (ha : a ≤ t.length) (x : Nat × Nat) (hx : x ∈ refFold ts (upto ts d a)) : ∃ t', ts[x.1]? = some t' ∧ x.2 ≤ t'.length := by
  rw [refFold_mem] at hx
  have hd := (List.getElem?_eq_some_iff.1 ht).1
  rcases upto_mem hx with ⟨h1, h2⟩ | ⟨h1, h2⟩
  · obtain ⟨t', ht'⟩ := at_some (show x.1 < ts.length by omega)
    rw [getD_at ht'] at h2
    exact ⟨t', ht', h2⟩
  · exact ⟨t, by rw [h1]; exact ht, by omega⟩
/-- The symbol of a row: the byte ahead of it, or 0. -/
def symOf (ts : List (List UInt8)) (r : Nat × Nat) : Int := if r.2 = 0 then 0 else (((ts.getD r.1 []).getD (r.2 - 1) 0).toNat : Int) + 1
theorem sorted_valid {ts : List (List UInt8)} {x : Nat × Nat} (h : x ∈ refSorted ts) : ∃ t, ts[x.1]? = some t ∧ x.2 ≤ t.length := by
  unfold refSorted at h
  split at h
  · rw [refFold_mem] at h
    rcases upto_mem h with ⟨h1, h2⟩ | ⟨h1, h2⟩
    · obtain ⟨t, ht⟩ := at_some h1
      rw [getD_at ht] at h2
      exact ⟨t, ht, h2⟩
    · omega
  · cases h
theorem sorted_small (ts : List (List UInt8)) : (refSorted ts).length ≤ 500 := by
  unfold refSorted
  split
  · rename_i h
    exact fold_small h _ _ (right_len h).1 (by omega)
  · simp
def rowsM (ds : List (Int × List UInt8)) : List (Int × Int × Int) := (refSorted (ds.map (·.2))).map fun r => ((ds.getD r.1 (0, [])).1, (r.2 : Int), symOf (ds.map (·.2)) r)
def docsM (ds : List (Int × List UInt8)) : List (Int × Int) := ds.map fun d => (d.1, (d.2.length : Int))
end Go.Proofs.YtpdpcgmkpgfblaaGreat
/- The document's own: which rows there are, which is less. -/
namespace Go.Proofs.YtpdpcgmkpgfblaaGreat
set_option linter.unusedSimpArgs false
set_option linter.unusedVariables false
set_option linter.unnecessarySimpa false
open Go.RowKit
attribute [local go_sem ↓] Go.wp_at_zero Go.wp_at_succ
attribute [local go_sem] str_len
/-- A slice value of the call's own blocks that reads as a row of cells. -/
def Rk (w : World) (size : Nat) (v : Value) (n : Nat) (xs : List Value) : Prop :=
 xs.length = n * size ∧ ∃ A cap, v = .slice A n cap ∧ (0 < n → ∃ g cs T, A = some ⟨g, 0, none⟩ ∧ w.heap[g]? = some (.cells cs T (0, 0)) ∧ ∀ j, j < n * size → cs[j]? = xs[j]?)
theorem Rk.below {w w' : World} {size n : Nat} {v : Value} {xs : List Value} (h : Rk w size v n xs) (hb : Below w.heap.size w w') : Rk w' size v n xs := by
 obtain ⟨h1, A, cap, rfl, h2⟩ := h
 refine ⟨h1, A, cap, rfl, fun hn => ?_⟩
 obtain ⟨g, cs, T, rfl, hg, hc⟩ := h2 hn
 exact ⟨g, cs, T, rfl, keep_blk hb hg, hc⟩
theorem Rk.of_own {w : World} {base : Nat} {e : TypeId} {size n : Nat} {v : Value} {xs : List Value} (h : w.ownsRow base e size v n xs) : Rk w size v n xs := by
 rcases h.2 with ⟨rfl, h0⟩ | ⟨g, cap, cur, rfl, hg, hc, hcap, hm, hs, hx⟩
 ·
  subst h0; exact ⟨h.1, none, 0, rfl, fun h => absurd h (by omega)⟩
 ·
  refine ⟨h.1, some ⟨g, 0, none⟩, cap, rfl, fun _ => ⟨g, cur, _, rfl, hc, fun j hj => ?_⟩⟩
  rw [← h.cellAt j hj, cells_of hc]
theorem str_from (l : List UInt8) (a : Nat) (h2 : a ≤ l.length) (w : World) :
  (Instr.slice 9 (strOf l) (some (.int .i64 (a : Int))) none none).run Tryz.prog w = .ok (strOf (l.drop a)) w := by
 unfold strOf
 have h3 : (⟨l.toArray⟩ : ByteArray).size = l.length := by simp [ByteArray.size]
 have := run_slice_string_from_if w 9 ⟨l.toArray⟩ .i64 (a : Int) (P := Tryz.prog) (by kernel_rfl)
 rw [this, if_pos ⟨by omega, by rw [h3]; omega⟩, h3, Int.toNat_natCast, ByteArray.extract_mk]
 rw [List.take_of_length_le (by simp)]
set_option maxRecDepth 100000 in
set_option maxHeartbeats 2000000 in
theorem rrow_calls (v : Value) (ts : List (List UInt8)) (d a : Nat) (t : List UInt8) (ht : ts[d]? = some t) (ha : a ≤ t.length) (w : World) (h : Rk w 1 v ts.length (ts.map strOf)) :
  Calls Tryz.prog 93 #[v, .agg #[.int .i64 (d : Int), .int .i64 (a : Int)]] w fun e w' => e = .returned (.bool true) ∧ Below w.heap.size w w' := by
 obtain ⟨hd, -⟩ := List.getElem?_eq_some_iff.1 ht
 obtain ⟨h1, A, cap, rfl, h2⟩ := h
 obtain ⟨g, cs, T, rfl, kg, hcs⟩ := h2 (by omega)
 have hci : cs[d]? = some (strOf t) := by rw [hcs d (by omega), List.getElem?_map, ht]; rfl
 have n1 : (d : Int) < (ts.length : Int) := by omega
 have n2 : (a : Int) ≤ (t.length : Int) := by omega
 clear h1 h2 hcs ht
 go_enter Tryz.func93, Tryz.ntmps93
 have c_kg := cells_of kg
 have f_kg := free_of kg
 have l_kg_w := lt_of kg
 go_wp2_with fail
 refine wp_gen fun V hV_V => ?_
 have n_kg := congrArg (fun v : World => v.heap[g]?) hV_V
 simp (maxDischargeDepth := 9) only [BK, not_false_eq_true, reduceCtorEq, kg, l_kg_w] at n_kg
 have n_kr := congrArg (fun v : World => v.heap[w.heap.size]?) hV_V
 simp (maxDischargeDepth := 9) only [BK, not_false_eq_true, reduceCtorEq, kg, l_kg_w] at n_kr
 have n_B : Below w.heap.size w V := nB hV_V
 have z_V := Nat.le_of_eq (congrArg (fun v : World => v.heap.size) hV_V).symm
 try simp only [SZ] at z_V
 clear kg c_kg f_kg
 clear hV_V
 skip
 have hB := n_B
 clear n_B
 have kg := n_kg; clear n_kg
 have c_kg := cells_of kg
 have f_kg := free_of kg
 have l_kg_V := lt_of kg
 have kr := n_kr; clear n_kr
 have c_kr := cells_of kr
 have f_kr := free_of kr
 have l_kr_V := lt_of kr
 refine wp_region_noPanic ?_
 refine wp_region_held_drew (S := fun v => (∀ o, v.cell? ⟨g, o, none⟩ = V.cell? ⟨g, o, none⟩) ∧ (∀ o, v.cell? ⟨w.heap.size, o, none⟩ = V.cell? ⟨w.heap.size, o, none⟩) ∧ (V.heap.size ≤ v.heap.size) ∧ True) (by kernel_rfl) ⟨(fun _ => rfl), (fun _ => rfl), (Nat.le_refl _), trivial⟩ (fun hHeld => ?_)
 generalize hV_Vd : V.drew = Vd at hHeld ⊢
 have n_kg : Vd.heap[g]? = V.heap[g]? := by rw [← hV_Vd]; rfl
 have d_kg := n_kg.trans kg
 clear n_kg c_kg f_kg
 have n_kr : Vd.heap[w.heap.size]? = V.heap[w.heap.size]? := by rw [← hV_Vd]; rfl
 have d_kr := n_kr.trans kr
 clear n_kr c_kr f_kr
 have n_B : Below w.heap.size w Vd := by rw [← hV_Vd]; exact hB.drew
 clear hB; have hB := n_B; clear n_B
 have z_Vd : V.heap.size ≤ Vd.heap.size := by rw [← hV_Vd]; exact Nat.le_refl _
 have v_kg := cells_of kg
 have v_kr := cells_of kr
 clear kg; have kg := d_kg; clear d_kg
 clear kr; have kr := d_kr; clear d_kr
 have c_kg := cells_of kg
 have f_kg := free_of kg
 have l_kg_Vd := lt_of kg
 have c_kr := cells_of kr
 have f_kr := free_of kr
 have l_kr_Vd := lt_of kr
 clear hV_Vd
 refine ty (i := 0) (v := ?_) rfl hHeld ?_ ?_
 rotate_left
 focus (intro w hSw; go_simp; (try simp only [IntWalk.i64_left]); try (with_reducible rfl))
 try simp only [PT]
 refine ty (i := 1) (v := ?_) rfl hHeld ?_ ?_
 rotate_left
 focus (intro w hSw; go_simp; (try simp only [IntWalk.i64_left]); try (with_reducible rfl))
 try simp only [PT]
 refine ty (i := 2) (v := ?_) rfl hHeld ?_ ?_
 rotate_left
 focus (intro w hSw; go_simp; (try simp only [IntWalk.i64_left]); try (with_reducible rfl))
 try simp only [PT]
 refine ty (i := 3) (v := ?_) rfl hHeld ?_ ?_
 rotate_left
 focus (intro w hSw; go_simp; (try simp only [IntWalk.i64_left]); try (with_reducible rfl))
 try simp only [PT]
 refine ty (i := 4) (v := ?_) rfl hHeld ?_ ?_
 rotate_left
 focus (intro w hSw; go_simp; (try simp only [IntWalk.i64_left]); try (with_reducible rfl))
 try simp only [PT]
 refine ty (i := 5) (v := ?_) rfl hHeld ?_ ?_
 rotate_left
 focus (intro w hSw; go_simp; (try simp only [IntWalk.i64_left]); try (with_reducible rfl))
 try simp only [PT]
 refine ty (i := 6) (v := ?_) rfl hHeld ?_ ?_
 rotate_left
 focus (intro w hSw; go_simp; (try simp only [IntWalk.i64_left]); try (with_reducible rfl))
 try simp only [PT]
 refine ty (i := 7) (v := ?_) rfl hHeld ?_ ?_
 rotate_left
 focus (intro w hSw; go_simp; (try simp only [IntWalk.i64_left]); try (with_reducible rfl))
 try simp only [PT]
 refine ty (i := 8) (v := ?_) rfl hHeld ?_ ?_
 rotate_left
 focus (intro w hSw; go_simp; (try simp only [IntWalk.i64_left]); try (with_reducible rfl))
 try simp only [PT]
 refine ty (i := 9) (v := ?_) rfl hHeld ?_ ?_
 rotate_left
 focus (intro w hSw; go_simp; (try simp only [IntWalk.i64_left]); try (with_reducible rfl))
 try simp only [PT]
 refine ty (i := 10) (v := ?_) rfl hHeld ?_ ?_
 rotate_left
 focus (intro w hSw; go_simp; (try simp only [IntWalk.i64_left]); try (with_reducible rfl))
 try simp only [PT]
 refine ty (i := 11) (v := ?_) rfl hHeld ?_ ?_
 rotate_left
 focus (intro w hSw; go_simp; (try simp only [IntWalk.i64_left]); try (with_reducible rfl))
 try simp only [PT]
 refine ty (i := 12) (v := ?_) rfl hHeld ?_ ?_
 rotate_left
 focus (intro w hSw; go_simp; (try simp only [IntWalk.i64_left]); try (with_reducible rfl))
 try simp only [PT]
 refine ty (i := 13) (v := ?_) rfl hHeld ?_ ?_
 rotate_left
 focus (intro w hSw; go_simp; (try simp only [IntWalk.i64_left]); try (with_reducible rfl))
 try simp only [PT]
 refine ty (i := 14) (v := ?_) rfl hHeld ?_ ?_
 rotate_left
 focus (intro w hSw; go_simp; (try simp only [IntWalk.i64_left]); try (with_reducible rfl))
 try simp only [PT]
 refine ty (i := 15) (v := ?_) rfl hHeld ?_ ?_
 rotate_left
 focus (intro w hSw; go_simp; (try simp only [IntWalk.i64_left]); try (with_reducible rfl))
 try simp only [PT]
 refine ty (i := 16) (v := ?_) rfl hHeld ?_ ?_
 rotate_left
 focus (intro w hSw; go_simp; (try simp only [IntWalk.i64_left]); try (with_reducible rfl))
 try simp only [PT]
 refine ty (i := 17) (v := ?_) rfl hHeld ?_ ?_
 rotate_left
 focus (intro w hSw; go_simp; (try simp only [IntWalk.i64_left]); try (with_reducible rfl))
 try simp only [PT]
 refine ty (i := 18) (v := ?_) rfl hHeld ?_ ?_
 rotate_left
 focus (intro w hSw; go_simp; (try simp only [IntWalk.i64_left]); try (with_reducible rfl))
 try simp only [PT]
 refine ty (i := 19) (v := ?_) rfl hHeld ?_ ?_
 rotate_left
 focus (intro w hSw; go_simp; (try simp only [IntWalk.i64_left]); try (with_reducible rfl))
 try simp only [PT]
 refine ty (i := 20) (v := ?_) rfl hHeld ?_ ?_
 rotate_left
 focus (intro w hSw; go_simp; (try simp only [IntWalk.i64_left]); try (with_reducible rfl))
 try simp only [PT]
 refine ty (i := 21) (v := ?_) rfl hHeld ?_ ?_
 rotate_left
 focus (intro w hSw; go_simp; (try simp only [IntWalk.i64_left]); try (with_reducible rfl))
 try simp only [PT]
 refine ty (i := 22) (v := ?_) rfl hHeld ?_ ?_
 rotate_left
 focus (intro w hSw; go_simp; (try simp only [IntWalk.i64_left]); try (with_reducible rfl))
 try simp only [PT]
 refine ty (i := 23) (v := ?_) rfl hHeld ?_ ?_
 rotate_left
 focus (intro w hSw; go_simp; (try simp only [IntWalk.i64_left]); try (with_reducible rfl))
 try simp only [PT]
 refine ty (i := 24) (v := ?_) rfl hHeld ?_ ?_
 rotate_left
 focus (intro w hSw; go_simp; (try simp only [IntWalk.i64_left]); try (with_reducible rfl))
 try simp only [PT]
 refine ty (i := 25) (v := ?_) rfl hHeld ?_ ?_
 rotate_left
 focus (intro w hSw; go_simp; (try simp only [IntWalk.i64_left]); try (with_reducible rfl))
 try simp only [PT]
 refine wpAnyH_ready (rs := [26]) (by kernel_rfl) (by simp) ?_
 refine ready_at rfl (fun K hK => ?_) AllReadyH.nil
 go_simp
 refine hK.out _ _ hHeld (fun hHeld => ?_)
 clear hK K
 try simp only [PT]
 refine wpAnyH_done (by kernel_rfl) ?_ _
 refine NoPanic.normal ?_
 go_wp2_with fail
 go_ret
 exact ⟨rfl, hB⟩
set_option maxRecDepth 100000 in
set_option maxHeartbeats 4000000 in
theorem less_calls (v : Value) (ts : List (List UInt8)) (d1 a1 d2 a2 : Nat) (t1 t2 : List UInt8) (ht1 : ts[d1]? = some t1) (ha1 : a1 ≤ t1.length) (ht2 : ts[d2]? = some t2) (ha2 : a2 ≤ t2.length) (hl1 : t1.length ≤ 50000) (r : Bool) (hr : lessL (decide (d1 < d2)) (t1.drop a1) (t2.drop a2) = r) (w : World) (h : Rk w 1 v ts.length (ts.map strOf)) :
  Calls Tryz.prog 46 #[v, .agg #[.int .i64 (d1 : Int), .int .i64 (a1 : Int)], .agg #[.int .i64 (d2 : Int), .int .i64 (a2 : Int)]] w fun e w' => e = .returned (.bool r) ∧ Below w.heap.size w w' := by
 obtain ⟨hd1, -⟩ := List.getElem?_eq_some_iff.1 ht1
 obtain ⟨hd2, -⟩ := List.getElem?_eq_some_iff.1 ht2
 obtain ⟨h1, A, cap, rfl, h2⟩ := h
 obtain ⟨g, cs, T, rfl, kg, hcs⟩ := h2 (by omega)
 have hc1 : cs[d1]? = some (strOf t1) := by rw [hcs d1 (by omega), List.getElem?_map, ht1]; rfl
 have hc2 : cs[d2]? = some (strOf t2) := by rw [hcs d2 (by omega), List.getElem?_map, ht2]; rfl
 have n1 : (d1 : Int) < (ts.length : Int) := by omega
 have n2 : (d2 : Int) < (ts.length : Int) := by omega
 have f1 := str_from t1 a1 ha1
 have f2 := str_from t2 a2 ha2
 have HR := Lib.hid hr; clear hr
 have Hcs := Lib.hid hcs; have H1 := Lib.hid h1; have HT1 := Lib.hid ht1; have HT2 := Lib.hid ht2; have HA1 := Lib.hid ha1; have HA2 := Lib.hid ha2
 clear h1 h2 hcs ht1 ht2 hd1 hd2 ha1 ha2
 go_enter Tryz.func46, Tryz.ntmps46
 have c_kg := cells_of kg
 have f_kg := free_of kg
 have l_kg_w := lt_of kg
 go_wp2_with fail
 refine calls_gen fun V hV_V => ?_
 have n_kg := congrArg (fun v : World => v.heap[g]?) hV_V
 simp (maxDischargeDepth := 9) only [BK, not_false_eq_true, reduceCtorEq, kg, l_kg_w] at n_kg
 have n_ka := congrArg (fun v : World => v.heap[w.heap.size]?) hV_V
 simp (maxDischargeDepth := 9) only [BK, not_false_eq_true, reduceCtorEq, kg, l_kg_w] at n_ka
 have n_kb := congrArg (fun v : World => v.heap[w.heap.size + 1]?) hV_V
 simp (maxDischargeDepth := 9) only [BK, not_false_eq_true, reduceCtorEq, kg, l_kg_w] at n_kb
 have n_B : Below w.heap.size w V := nB hV_V
 have z_V := Nat.le_of_eq (congrArg (fun v : World => v.heap.size) hV_V).symm
 try simp only [SZ] at z_V
 clear kg c_kg f_kg
 clear hV_V
 skip
 have hB := n_B
 clear n_B
 have kg := n_kg; clear n_kg
 have c_kg := cells_of kg
 have f_kg := free_of kg
 have l_kg_V := lt_of kg
 have ka := n_ka; clear n_ka
 have c_ka := cells_of ka
 have f_ka := free_of ka
 have l_ka_V := lt_of ka
 have kb := n_kb; clear n_kb
 have c_kb := cells_of kb
 have f_kb := free_of kb
 have l_kb_V := lt_of kb
 refine (rrow_calls _ ts d1 a1 t1 HT1.out HA1.out _ ⟨H1.out, _, _, rfl, fun _ => ⟨g, cs, T, rfl, kg, Hcs.out⟩⟩).mono ?_
 rintro e_W1 W1 ⟨rfl, hb_W1⟩
 replace hB := below_step hB hb_W1
 replace kg := keep_blk hb_W1 kg
 have c_kg := cells_of kg
 have f_kg := free_of kg
 have l_kg_W1 := lt_of kg
 replace ka := keep_blk hb_W1 ka
 have c_ka := cells_of ka
 have f_ka := free_of ka
 have l_ka_W1 := lt_of ka
 replace kb := keep_blk hb_W1 kb
 have c_kb := cells_of kb
 have f_kb := free_of kb
 have l_kb_W1 := lt_of kb
 have z_W1 := hb_W1.size
 clear hb_W1
 go_wp2_with fail
 refine calls_gen fun V1 hV_V1 => ?_
 have n_kg := congrArg (fun v : World => v.heap[g]?) hV_V1
 simp (maxDischargeDepth := 9) only [BK, not_false_eq_true, reduceCtorEq, kg, ka, kb, l_kg_w, l_kg_V, l_ka_V, l_kb_V, l_kg_W1, l_ka_W1, l_kb_W1] at n_kg
 have n_ka := congrArg (fun v : World => v.heap[w.heap.size]?) hV_V1
 simp (maxDischargeDepth := 9) only [BK, not_false_eq_true, reduceCtorEq, kg, ka, kb, l_kg_w, l_kg_V, l_ka_V, l_kb_V, l_kg_W1, l_ka_W1, l_kb_W1] at n_ka
 have n_kb := congrArg (fun v : World => v.heap[w.heap.size + 1]?) hV_V1
 simp (maxDischargeDepth := 9) only [BK, not_false_eq_true, reduceCtorEq, kg, ka, kb, l_kg_w, l_kg_V, l_ka_V, l_kb_V, l_kg_W1, l_ka_W1, l_kb_W1] at n_kb
 have n_B : Below w.heap.size w V1 := nB hV_V1
 have z_V1 := Nat.le_of_eq (congrArg (fun v : World => v.heap.size) hV_V1).symm
 try simp only [SZ] at z_V1
 clear kg c_kg f_kg
 clear ka c_ka f_ka
 clear kb c_kb f_kb
 clear hV_V1
 clear hB
 have hB := n_B
 clear n_B
 have kg := n_kg; clear n_kg
 have c_kg := cells_of kg
 have f_kg := free_of kg
 have l_kg_V1 := lt_of kg
 have ka := n_ka; clear n_ka
 have c_ka := cells_of ka
 have f_ka := free_of ka
 have l_ka_V1 := lt_of ka
 have kb := n_kb; clear n_kb
 have c_kb := cells_of kb
 have f_kb := free_of kb
 have l_kb_V1 := lt_of kb
 refine (rrow_calls _ ts d2 a2 t2 HT2.out HA2.out _ ⟨H1.out, _, _, rfl, fun _ => ⟨g, cs, T, rfl, kg, Hcs.out⟩⟩).mono ?_
 rintro e_W2 W2 ⟨rfl, hb_W2⟩
 replace hB := below_step hB hb_W2
 replace kg := keep_blk hb_W2 kg
 have c_kg := cells_of kg
 have f_kg := free_of kg
 have l_kg_W2 := lt_of kg
 replace ka := keep_blk hb_W2 ka
 have c_ka := cells_of ka
 have f_ka := free_of ka
 have l_ka_W2 := lt_of ka
 replace kb := keep_blk hb_W2 kb
 have c_kb := cells_of kb
 have f_kb := free_of kb
 have l_kb_W2 := lt_of kb
 have z_W2 := hb_W2.size
 clear hb_W2
 go_wp2_with fail
 refine wp_gen fun V2 hV_V2 => ?_
 have n_kg := congrArg (fun v : World => v.heap[g]?) hV_V2
 simp (maxDischargeDepth := 9) only [BK, not_false_eq_true, reduceCtorEq, kg, ka, kb, l_kg_w, l_kg_V, l_ka_V, l_kb_V, l_kg_W1, l_ka_W1, l_kb_W1, l_kg_V1, l_ka_V1, l_kb_V1, l_kg_W2, l_ka_W2, l_kb_W2] at n_kg
 have n_ka := congrArg (fun v : World => v.heap[w.heap.size]?) hV_V2
 simp (maxDischargeDepth := 9) only [BK, not_false_eq_true, reduceCtorEq, kg, ka, kb, l_kg_w, l_kg_V, l_ka_V, l_kb_V, l_kg_W1, l_ka_W1, l_kb_W1, l_kg_V1, l_ka_V1, l_kb_V1, l_kg_W2, l_ka_W2, l_kb_W2] at n_ka
 have n_kb := congrArg (fun v : World => v.heap[w.heap.size + 1]?) hV_V2
 simp (maxDischargeDepth := 9) only [BK, not_false_eq_true, reduceCtorEq, kg, ka, kb, l_kg_w, l_kg_V, l_ka_V, l_kb_V, l_kg_W1, l_ka_W1, l_kb_W1, l_kg_V1, l_ka_V1, l_kb_V1, l_kg_W2, l_ka_W2, l_kb_W2] at n_kb
 have n_B : Below w.heap.size w V2 := nB hV_V2
 have z_V2 := Nat.le_of_eq (congrArg (fun v : World => v.heap.size) hV_V2).symm
 try simp only [SZ] at z_V2
 clear kg c_kg f_kg
 clear ka c_ka f_ka
 clear kb c_kb f_kb
 clear hV_V2
 clear hB
 have hB := n_B
 clear n_B
 have kg := n_kg; clear n_kg
 have c_kg := cells_of kg
 have f_kg := free_of kg
 have l_kg_V2 := lt_of kg
 have ka := n_ka; clear n_ka
 have c_ka := cells_of ka
 have f_ka := free_of ka
 have l_ka_V2 := lt_of ka
 have kb := n_kb; clear n_kb
 have c_kb := cells_of kb
 have f_kb := free_of kb
 have l_kb_V2 := lt_of kb
 refine wp_region_noPanic ?_
 refine wp_region_held_drew (S := fun v => (∀ o, v.cell? ⟨g, o, none⟩ = V2.cell? ⟨g, o, none⟩) ∧ (∀ o, v.cell? ⟨w.heap.size, o, none⟩ = V2.cell? ⟨w.heap.size, o, none⟩) ∧ (∀ o, v.cell? ⟨w.heap.size + 1, o, none⟩ = V2.cell? ⟨w.heap.size + 1, o, none⟩) ∧ (V2.heap.size ≤ v.heap.size) ∧ True) (by kernel_rfl) ⟨(fun _ => rfl), (fun _ => rfl), (fun _ => rfl), (Nat.le_refl _), trivial⟩ (fun hHeld => ?_)
 generalize hV_V2d : V2.drew = V2d at hHeld ⊢
 have n_kg : V2d.heap[g]? = V2.heap[g]? := by rw [← hV_V2d]; rfl
 have d_kg := n_kg.trans kg
 clear n_kg c_kg f_kg
 have n_ka : V2d.heap[w.heap.size]? = V2.heap[w.heap.size]? := by rw [← hV_V2d]; rfl
 have d_ka := n_ka.trans ka
 clear n_ka c_ka f_ka
 have n_kb : V2d.heap[w.heap.size + 1]? = V2.heap[w.heap.size + 1]? := by rw [← hV_V2d]; rfl
 have d_kb := n_kb.trans kb
 clear n_kb c_kb f_kb
 have n_B : Below w.heap.size w V2d := by rw [← hV_V2d]; exact hB.drew
 clear hB; have hB := n_B; clear n_B
 have z_V2d : V2.heap.size ≤ V2d.heap.size := by rw [← hV_V2d]; exact Nat.le_refl _
 have v_kg := cells_of kg
 have v_ka := cells_of ka
 have v_kb := cells_of kb
 clear kg; have kg := d_kg; clear d_kg
 clear ka; have ka := d_ka; clear d_ka
 clear kb; have kb := d_kb; clear d_kb
 have c_kg := cells_of kg
 have f_kg := free_of kg
 have l_kg_V2d := lt_of kg
 have c_ka := cells_of ka
 have f_ka := free_of ka
 have l_ka_V2d := lt_of ka
 have c_kb := cells_of kb
 have f_kb := free_of kb
 have l_kb_V2d := lt_of kb
 clear hV_V2d
 refine ty (i := 0) (v := ?_) rfl hHeld ?_ ?_
 rotate_left
 focus (intro w hSw; go_simp; (try simp only [IntWalk.i64_left]); try (with_reducible rfl))
 try simp only [PT]
 refine ty (i := 1) (v := ?_) rfl hHeld ?_ ?_
 rotate_left
 focus (intro w hSw; go_simp; (try simp only [IntWalk.i64_left]); try (with_reducible rfl))
 try simp only [PT]
 refine ty (i := 2) (v := ?_) rfl hHeld ?_ ?_
 rotate_left
 focus (intro w hSw; go_simp; (try simp only [IntWalk.i64_left]); try (with_reducible rfl))
 try simp only [PT]
 refine ty (i := 3) (v := ?_) rfl hHeld ?_ ?_
 rotate_left
 focus (intro w hSw; go_simp; (try simp only [IntWalk.i64_left]); try (with_reducible rfl))
 try simp only [PT]
 refine ty (i := 4) (v := ?_) rfl hHeld ?_ ?_
 rotate_left
 focus (intro w hSw; go_simp; (try simp only [IntWalk.i64_left]); try (with_reducible rfl))
 try simp only [PT]
 refine ty (i := 5) (v := ?_) rfl hHeld ?_ ?_
 rotate_left
 focus (intro w hSw; go_simp; (try simp only [IntWalk.i64_left]); try (with_reducible rfl))
 try simp only [PT]
 refine ty (i := 6) (v := ?_) rfl hHeld ?_ ?_
 rotate_left
 focus (intro w hSw; go_simp; (try simp only [IntWalk.i64_left]); try (with_reducible rfl))
 try simp only [PT]
 refine ty (i := 7) (v := ?_) rfl hHeld ?_ ?_
 rotate_left
 focus (intro w hSw; go_simp; (try simp only [IntWalk.i64_left]); try (with_reducible rfl))
 try simp only [PT]
 refine ty (i := 8) (v := ?_) rfl hHeld ?_ ?_
 rotate_left
 focus (intro w hSw; go_simp; (try simp only [IntWalk.i64_left]); try (with_reducible rfl))
 try simp only [PT]
 refine ty (i := 9) (v := ?_) rfl hHeld ?_ ?_
 rotate_left
 focus (intro w hSw; go_simp; (try simp only [IntWalk.i64_left]); try (with_reducible rfl))
 try simp only [PT]
 refine ty (i := 10) (v := ?_) rfl hHeld ?_ ?_
 rotate_left
 focus (intro w hSw; go_simp; (try simp only [IntWalk.i64_left]); try (with_reducible rfl))
 try simp only [PT]
 refine ty (i := 11) (v := ?_) rfl hHeld ?_ ?_
 rotate_left
 focus (intro w hSw; go_simp; (try simp only [IntWalk.i64_left]); try (with_reducible rfl))
 try simp only [PT]
 refine ty (i := 12) (v := ?_) rfl hHeld ?_ ?_
 rotate_left
 focus (intro w hSw; go_simp; (try simp only [IntWalk.i64_left]); try (with_reducible rfl))
 try simp only [PT]
 refine ty (i := 13) (v := ?_) rfl hHeld ?_ ?_
 rotate_left
 focus (intro w hSw; go_simp; (try simp only [IntWalk.i64_left]); try (with_reducible rfl))
 try simp only [PT]
 refine ty (i := 14) (v := ?_) rfl hHeld ?_ ?_
 rotate_left
 focus (intro w hSw; go_simp; (try simp only [IntWalk.i64_left]); try (with_reducible rfl))
 try simp only [PT]
 refine ty (i := 15) (v := ?_) rfl hHeld ?_ ?_
 rotate_left
 focus (intro w hSw; go_simp; (try simp only [IntWalk.i64_left]); try (with_reducible rfl))
 try simp only [PT]
 refine wpAnyH_ready (rs := [16]) (by kernel_rfl) (by simp) ?_
 refine ready_at rfl (fun K hK => ?_) AllReadyH.nil
 go_simp
 refine hK.out _ _ hHeld (fun hHeld => ?_)
 clear hK K
 try simp only [PT]
 refine wpAnyH_ready (rs := [17]) (by kernel_rfl) (by simp) ?_
 refine ready_at rfl (fun K hK => ?_) AllReadyH.nil
 go_simp
 refine hK.out _ _ hHeld (fun hHeld => ?_)
 clear hK K
 try simp only [PT]
 refine wpAnyH_done (by kernel_rfl) ?_ _
 refine NoPanic.normal ?_
 clear f1 f2 hc1 hc2 n1 n2 Hcs H1 HT1 HT2 HA1 HA2
 go_wp2_with fail
 refine wp_gen fun V3 hV_V3 => ?_
 have n_ka := congrArg (fun v : World => v.heap[w.heap.size]?) hV_V3
 simp (maxDischargeDepth := 9) only [BK, not_false_eq_true, reduceCtorEq, kg, ka, kb, l_kg_w, l_kg_V, l_ka_V, l_kb_V, l_kg_W1, l_ka_W1, l_kb_W1, l_kg_V1, l_ka_V1, l_kb_V1, l_kg_W2, l_ka_W2, l_kb_W2, l_kg_V2, l_ka_V2, l_kb_V2, l_kg_V2d, l_ka_V2d, l_kb_V2d] at n_ka
 have n_kb := congrArg (fun v : World => v.heap[w.heap.size + 1]?) hV_V3
 simp (maxDischargeDepth := 9) only [BK, not_false_eq_true, reduceCtorEq, kg, ka, kb, l_kg_w, l_kg_V, l_ka_V, l_kb_V, l_kg_W1, l_ka_W1, l_kb_W1, l_kg_V1, l_ka_V1, l_kb_V1, l_kg_W2, l_ka_W2, l_kb_W2, l_kg_V2, l_ka_V2, l_kb_V2, l_kg_V2d, l_ka_V2d, l_kb_V2d] at n_kb
 have n_B : Below w.heap.size w V3 := nB hV_V3
 have z_V3 := Nat.le_of_eq (congrArg (fun v : World => v.heap.size) hV_V3).symm
 try simp only [SZ] at z_V3
 clear kg c_kg f_kg
 clear ka c_ka f_ka
 clear kb c_kb f_kb
 clear hV_V3
 clear hB
 have hB := n_B
 clear n_B
 have ka := n_ka; clear n_ka
 have c_ka := cells_of ka
 have f_ka := free_of ka
 have l_ka_V3 := lt_of ka
 have kb := n_kb; clear n_kb
 have c_kb := cells_of kb
 have f_kb := free_of kb
 have l_kb_V3 := lt_of kb
 have hs0 : (t1.drop a1).length ≤ 50000 := by rw [List.length_drop]; omega
 generalize t1.drop a1 = s at HR hs0 ⊢
 generalize t2.drop a2 = t at HR ⊢
 go_loopg [9] (s.length + 1) (fun k p wr => ∃ i : Nat, p = .int .i64 (i : Int) ∧ i + k = s.length + 1 ∧ i ≤ s.length ∧ i ≤ t.length ∧ Hid (lessL (decide (d1 < d2)) (s.drop i) (t.drop i) = r) ∧ wr.heap[w.heap.size]? = some (.cells #[.int .i64 (d1 : Int), .int .i64 (a1 : Int)] 36 (0, 0)) ∧ wr.heap[w.heap.size + 1]? = some (.cells #[.int .i64 (d2 : Int), .int .i64 (a2 : Int)] 36 (0, 0)) ∧ Below w.heap.size w wr)
 case atStart => exact ⟨0, rfl, by omega, by omega, by omega, HR, ka, kb, hB⟩
 case round =>
  clear ka kb c_ka c_kb f_ka f_kb hB HR
  obtain ⟨i, rfl, hk, hi1, hi2, Hl, ka, kb, hB⟩ := hrel
  have c_ka := cells_of ka
  have f_ka := free_of ka
  have l_ka_wr := lt_of ka
  have c_kb := cells_of kb
  have f_kb := free_of kb
  have l_kb_wr := lt_of kb
  by_cases c1 : i = s.length
  ·
   have e1 : s.drop i = [] := by rw [c1]; simp
   by_cases c2 : i = t.length
   ·
    have e2 : t.drop i = [] := by rw [c2]; simp
    have hl := Hl.out
    rw [e1, e2] at hl
    unfold lessL at hl
    have hL := Lib.hid hl
    have q1 : ((i : Int) == (s.length : Int)) = true := by rw [c1]; exact beq_self_eq_true _
    have q2 : ((i : Int) == (t.length : Int)) = true := by rw [c2]; exact beq_self_eq_true _
    clear hl Hl e1 e2 hk hi1 hi2 c1 c2
    go_wp2_with fail
    go_ret
    exact ⟨by rw [← hL.out]; first | rfl | simp, by (repeat' first | with_reducible assumption | with_reducible exact Below.refl _ _ | with_reducible refine Below.alloc ?_ ?_ _ | with_reducible refine Below.setCell ?_ ?_ _ | with_reducible refine below_drewN ?_ _ | with_reducible refine Below.drew ?_ | exact Nat.le_refl _ | ((try dsimp only); omega) | (simp only [siz_alloc, siz_set]; omega))⟩
   ·
    obtain ⟨y, hy⟩ := at_some (show i < t.length by omega)
    have e2 := drop_at hy
    clear hy
    have hl := Hl.out
    rw [e1, e2] at hl
    unfold lessL at hl
    have hL := Lib.hid hl
    have q1 : ((i : Int) == (s.length : Int)) = true := by rw [c1]; exact beq_self_eq_true _
    have q2 : ((i : Int) == (t.length : Int)) = false := by rw [beq_eq_false_iff_ne]; omega
    clear hl Hl e1 e2 hk hi1 hi2 c1 c2
    go_wp2_with fail
    go_ret
    exact ⟨by rw [← hL.out]; rfl, by (repeat' first | with_reducible assumption | with_reducible exact Below.refl _ _ | with_reducible refine Below.alloc ?_ ?_ _ | with_reducible refine Below.setCell ?_ ?_ _ | with_reducible refine below_drewN ?_ _ | with_reducible refine Below.drew ?_ | exact Nat.le_refl _ | ((try dsimp only); omega) | (simp only [siz_alloc, siz_set]; omega))⟩
  ·
   have q1 : ((i : Int) == (s.length : Int)) = false := by rw [beq_eq_false_iff_ne]; omega
   obtain ⟨x, hx⟩ := at_some (show i < s.length by omega)
   have e1 := drop_at hx
   by_cases c2 : i = t.length
   ·
    have e2 : t.drop i = [] := by rw [c2]; simp
    have hl := Hl.out
    rw [e1, e2] at hl
    unfold lessL at hl
    have hL := Lib.hid hl
    have q2 : ((i : Int) == (t.length : Int)) = true := by rw [c2]; exact beq_self_eq_true _
    clear hl Hl e1 e2 hk hi1 hi2 c1 c2 hx
    go_wp2_with fail
    go_ret
    exact ⟨by rw [← hL.out]; rfl, by (repeat' first | with_reducible assumption | with_reducible exact Below.refl _ _ | with_reducible refine Below.alloc ?_ ?_ _ | with_reducible refine Below.setCell ?_ ?_ _ | with_reducible refine below_drewN ?_ _ | with_reducible refine Below.drew ?_ | exact Nat.le_refl _ | ((try dsimp only); omega) | (simp only [siz_alloc, siz_set]; omega))⟩
   ·
    have q2 : ((i : Int) == (t.length : Int)) = false := by rw [beq_eq_false_iff_ne]; omega
    obtain ⟨y, hy⟩ := at_some (show i < t.length by omega)
    have e2 := drop_at hy
    have g1 := str_index s i x hx
    have g2 := str_index t i y hy
    have hl := Hl.out
    rw [e1, e2] at hl
    unfold lessL at hl
    have hi1' : i < s.length := by omega
    have hi2' : i < t.length := by omega
    clear Hl e1 e2 hx hy c1 c2
    by_cases c3 : x = y
    ·
     rw [if_pos c3] at hl
     subst c3
     have hL := Lib.hid hl
     have Hk := Lib.hid hk; have Hi := Lib.hid (And.intro hi1' hi2')
     have e3 : wrap64 ((i : Int) + 1) = (i : Int) + 1 := IntWalk.wrap64_in _ (by omega)
     clear hl hk hi1 hi2 hi1' hi2'
     go_wp2_with fail
     refine wp_gen fun V4 hV_V4 => ?_
     have n_ka := congrArg (fun v : World => v.heap[w.heap.size]?) hV_V4
     simp (maxDischargeDepth := 9) only [BK, not_false_eq_true, reduceCtorEq, ka, kb, l_ka_wr, l_kb_wr] at n_ka
     have n_kb := congrArg (fun v : World => v.heap[w.heap.size + 1]?) hV_V4
     simp (maxDischargeDepth := 9) only [BK, not_false_eq_true, reduceCtorEq, ka, kb, l_ka_wr, l_kb_wr] at n_kb
     have n_B : Below w.heap.size w V4 := nB hV_V4
     have z_V4 := Nat.le_of_eq (congrArg (fun v : World => v.heap.size) hV_V4).symm
     try simp only [SZ] at z_V4
     clear ka c_ka f_ka
     clear kb c_kb f_kb
     clear hV_V4
     clear hB
     have hB := n_B
     clear n_B
     have ka := n_ka; clear n_ka
     have c_ka := cells_of ka
     have f_ka := free_of ka
     have l_ka_V4 := lt_of ka
     have kb := n_kb; clear n_kb
     have c_kb := cells_of kb
     have f_kb := free_of kb
     have l_kb_V4 := lt_of kb
     refine wp_region_noPanic ?_
     refine wp_region_held_drew (S := fun v => (∀ o, v.cell? ⟨w.heap.size, o, none⟩ = V4.cell? ⟨w.heap.size, o, none⟩) ∧ (∀ o, v.cell? ⟨w.heap.size + 1, o, none⟩ = V4.cell? ⟨w.heap.size + 1, o, none⟩) ∧ (V4.heap.size ≤ v.heap.size) ∧ True) (by kernel_rfl) ⟨(fun _ => rfl), (fun _ => rfl), (Nat.le_refl _), trivial⟩ (fun hHeld => ?_)
     generalize hV_V4d : V4.drew = V4d at hHeld ⊢
     have n_ka : V4d.heap[w.heap.size]? = V4.heap[w.heap.size]? := by rw [← hV_V4d]; rfl
     have d_ka := n_ka.trans ka
     clear n_ka c_ka f_ka
     have n_kb : V4d.heap[w.heap.size + 1]? = V4.heap[w.heap.size + 1]? := by rw [← hV_V4d]; rfl
     have d_kb := n_kb.trans kb
     clear n_kb c_kb f_kb
     have n_B : Below w.heap.size w V4d := by rw [← hV_V4d]; exact hB.drew
     clear hB; have hB := n_B; clear n_B
     have z_V4d : V4.heap.size ≤ V4d.heap.size := by rw [← hV_V4d]; exact Nat.le_refl _
     have v_ka := cells_of ka
     have v_kb := cells_of kb
     clear ka; have ka := d_ka; clear d_ka
     clear kb; have kb := d_kb; clear d_kb
     have c_ka := cells_of ka
     have f_ka := free_of ka
     have l_ka_V4d := lt_of ka
     have c_kb := cells_of kb
     have f_kb := free_of kb
     have l_kb_V4d := lt_of kb
     clear hV_V4d
     refine ty (i := 0) (v := ?_) rfl hHeld ?_ ?_
     rotate_left
     focus (intro w hSw; go_simp; (try simp only [IntWalk.i64_left]); try (with_reducible rfl))
     try simp only [PT]
     refine ty (i := 1) (v := ?_) rfl hHeld ?_ ?_
     rotate_left
     focus (intro w hSw; go_simp; (try simp only [IntWalk.i64_left]); try (with_reducible rfl))
     try simp only [PT]
     refine ty (i := 2) (v := ?_) rfl hHeld ?_ ?_
     rotate_left
     focus (intro w hSw; go_simp; (try simp only [IntWalk.i64_left]); try (with_reducible rfl))
     try simp only [PT]
     refine ty (i := 3) (v := ?_) rfl hHeld ?_ ?_
     rotate_left
     focus (intro w hSw; go_simp; (try simp only [IntWalk.i64_left]); try (with_reducible rfl))
     try simp only [PT]
     refine ty (i := 4) (v := ?_) rfl hHeld ?_ ?_
     rotate_left
     focus (intro w hSw; go_simp; (try simp only [IntWalk.i64_left]); try (with_reducible rfl))
     try simp only [PT]
     refine ty (i := 5) (v := ?_) rfl hHeld ?_ ?_
     rotate_left
     focus (intro w hSw; go_simp; (try simp only [IntWalk.i64_left]); try (with_reducible rfl))
     try simp only [PT]
     refine ty (i := 6) (v := ?_) rfl hHeld ?_ ?_
     rotate_left
     focus (intro w hSw; go_simp; (try simp only [IntWalk.i64_left]); try (with_reducible rfl))
     try simp only [PT]
     refine wpAnyH_done (by kernel_rfl) ?_ _
     refine NoPanic.normal ?_
     go_wp2_with fail
     refine handed_gen fun V5 hV_V5 => ?_
     have n_ka := congrArg (fun v : World => v.heap[w.heap.size]?) hV_V5
     simp (maxDischargeDepth := 9) only [BK, not_false_eq_true, reduceCtorEq, ka, kb, l_ka_wr, l_kb_wr, l_ka_V4, l_kb_V4, l_ka_V4d, l_kb_V4d] at n_ka
     have n_kb := congrArg (fun v : World => v.heap[w.heap.size + 1]?) hV_V5
     simp (maxDischargeDepth := 9) only [BK, not_false_eq_true, reduceCtorEq, ka, kb, l_ka_wr, l_kb_wr, l_ka_V4, l_kb_V4, l_ka_V4d, l_kb_V4d] at n_kb
     have n_B : Below w.heap.size w V5 := nB hV_V5
     have z_V5 := Nat.le_of_eq (congrArg (fun v : World => v.heap.size) hV_V5).symm
     try simp only [SZ] at z_V5
     clear ka c_ka f_ka
     clear kb c_kb f_kb
     clear hV_V5
     clear hB
     have hB := n_B
     clear n_B
     have ka := n_ka; clear n_ka
     have c_ka := cells_of ka
     have f_ka := free_of ka
     have l_ka_V5 := lt_of ka
     have kb := n_kb; clear n_kb
     have c_kb := cells_of kb
     have f_kb := free_of kb
     have l_kb_V5 := lt_of kb
     go_roundg (s.length - i)
     case measure => have := Hk.out; have := Hi.out; omega
     case rel => exact ⟨i + 1, by rw [e3]; rfl, by have := Hk.out; have := Hi.out; omega, by have := Hi.out; omega, by have := Hi.out; omega, hL, ka, kb, hB⟩
    ·
     rw [if_neg c3] at hl
     have hL := Lib.hid hl
     have q3 : ((x.toNat : Int) == (y.toNat : Int)) = false := by
      rw [beq_eq_false_iff_ne]; intro h; exact c3 (UInt8.toNat_inj.1 (by omega))
     clear hl hk hi1 hi2 hi1' hi2' c3
     go_wp2_with fail
     refine wp_gen fun V4 hV_V4 => ?_
     have n_ka := congrArg (fun v : World => v.heap[w.heap.size]?) hV_V4
     simp (maxDischargeDepth := 9) only [BK, not_false_eq_true, reduceCtorEq, ka, kb, l_ka_wr, l_kb_wr] at n_ka
     have n_kb := congrArg (fun v : World => v.heap[w.heap.size + 1]?) hV_V4
     simp (maxDischargeDepth := 9) only [BK, not_false_eq_true, reduceCtorEq, ka, kb, l_ka_wr, l_kb_wr] at n_kb
     have n_B : Below w.heap.size w V4 := nB hV_V4
     have z_V4 := Nat.le_of_eq (congrArg (fun v : World => v.heap.size) hV_V4).symm
     try simp only [SZ] at z_V4
     clear ka c_ka f_ka
     clear kb c_kb f_kb
     clear hV_V4
     clear hB
     have hB := n_B
     clear n_B
     have ka := n_ka; clear n_ka
     have c_ka := cells_of ka
     have f_ka := free_of ka
     have l_ka_V4 := lt_of ka
     have kb := n_kb; clear n_kb
     have c_kb := cells_of kb
     have f_kb := free_of kb
     have l_kb_V4 := lt_of kb
     refine wp_region_noPanic ?_
     refine wp_region_held_drew (S := fun v => (∀ o, v.cell? ⟨w.heap.size, o, none⟩ = V4.cell? ⟨w.heap.size, o, none⟩) ∧ (∀ o, v.cell? ⟨w.heap.size + 1, o, none⟩ = V4.cell? ⟨w.heap.size + 1, o, none⟩) ∧ (V4.heap.size ≤ v.heap.size) ∧ True) (by kernel_rfl) ⟨(fun _ => rfl), (fun _ => rfl), (Nat.le_refl _), trivial⟩ (fun hHeld => ?_)
     generalize hV_V4d : V4.drew = V4d at hHeld ⊢
     have n_ka : V4d.heap[w.heap.size]? = V4.heap[w.heap.size]? := by rw [← hV_V4d]; rfl
     have d_ka := n_ka.trans ka
     clear n_ka c_ka f_ka
     have n_kb : V4d.heap[w.heap.size + 1]? = V4.heap[w.heap.size + 1]? := by rw [← hV_V4d]; rfl
     have d_kb := n_kb.trans kb
     clear n_kb c_kb f_kb
     have n_B : Below w.heap.size w V4d := by rw [← hV_V4d]; exact hB.drew
     clear hB; have hB := n_B; clear n_B
     have z_V4d : V4.heap.size ≤ V4d.heap.size := by rw [← hV_V4d]; exact Nat.le_refl _
     have v_ka := cells_of ka
     have v_kb := cells_of kb
     clear ka; have ka := d_ka; clear d_ka
     clear kb; have kb := d_kb; clear d_kb
     have c_ka := cells_of ka
     have f_ka := free_of ka
     have l_ka_V4d := lt_of ka
     have c_kb := cells_of kb
     have f_kb := free_of kb
     have l_kb_V4d := lt_of kb
     clear hV_V4d
     refine ty (i := 0) (v := ?_) rfl hHeld ?_ ?_
     rotate_left
     focus (intro w hSw; go_simp; (try simp only [IntWalk.i64_left]); try (with_reducible rfl))
     try simp only [PT]
     refine ty (i := 1) (v := ?_) rfl hHeld ?_ ?_
     rotate_left
     focus (intro w hSw; go_simp; (try simp only [IntWalk.i64_left]); try (with_reducible rfl))
     try simp only [PT]
     refine ty (i := 2) (v := ?_) rfl hHeld ?_ ?_
     rotate_left
     focus (intro w hSw; go_simp; (try simp only [IntWalk.i64_left]); try (with_reducible rfl))
     try simp only [PT]
     refine ty (i := 3) (v := ?_) rfl hHeld ?_ ?_
     rotate_left
     focus (intro w hSw; go_simp; (try simp only [IntWalk.i64_left]); try (with_reducible rfl))
     try simp only [PT]
     refine ty (i := 4) (v := ?_) rfl hHeld ?_ ?_
     rotate_left
     focus (intro w hSw; go_simp; (try simp only [IntWalk.i64_left]); try (with_reducible rfl))
     try simp only [PT]
     refine ty (i := 5) (v := ?_) rfl hHeld ?_ ?_
     rotate_left
     focus (intro w hSw; go_simp; (try simp only [IntWalk.i64_left]); try (with_reducible rfl))
     try simp only [PT]
     refine ty (i := 6) (v := ?_) rfl hHeld ?_ ?_
     rotate_left
     focus (intro w hSw; go_simp; (try simp only [IntWalk.i64_left]); try (with_reducible rfl))
     try simp only [PT]
     refine wpAnyH_done (by kernel_rfl) ?_ _
     refine NoPanic.normal ?_
     go_wp2_with fail
     refine wp_gen fun V5 hV_V5 => ?_
     have n_ka := congrArg (fun v : World => v.heap[w.heap.size]?) hV_V5
     simp (maxDischargeDepth := 9) only [BK, not_false_eq_true, reduceCtorEq, ka, kb, l_ka_wr, l_kb_wr, l_ka_V4, l_kb_V4, l_ka_V4d, l_kb_V4d] at n_ka
     have n_kb := congrArg (fun v : World => v.heap[w.heap.size + 1]?) hV_V5
     simp (maxDischargeDepth := 9) only [BK, not_false_eq_true, reduceCtorEq, ka, kb, l_ka_wr, l_kb_wr, l_ka_V4, l_kb_V4, l_ka_V4d, l_kb_V4d] at n_kb
     have n_B : Below w.heap.size w V5 := nB hV_V5
     have z_V5 := Nat.le_of_eq (congrArg (fun v : World => v.heap.size) hV_V5).symm
     try simp only [SZ] at z_V5
     clear ka c_ka f_ka
     clear kb c_kb f_kb
     clear hV_V5
     clear hB
     have hB := n_B
     clear n_B
     have ka := n_ka; clear n_ka
     have c_ka := cells_of ka
     have f_ka := free_of ka
     have l_ka_V5 := lt_of ka
     have kb := n_kb; clear n_kb
     have c_kb := cells_of kb
     have f_kb := free_of kb
     have l_kb_V5 := lt_of kb
     refine wp_region_noPanic ?_
     refine wp_region_held_drew (S := fun v => (∀ o, v.cell? ⟨w.heap.size, o, none⟩ = V5.cell? ⟨w.heap.size, o, none⟩) ∧ (∀ o, v.cell? ⟨w.heap.size + 1, o, none⟩ = V5.cell? ⟨w.heap.size + 1, o, none⟩) ∧ (V5.heap.size ≤ v.heap.size) ∧ True) (by kernel_rfl) ⟨(fun _ => rfl), (fun _ => rfl), (Nat.le_refl _), trivial⟩ (fun hHeld => ?_)
     generalize hV_V5d : V5.drew = V5d at hHeld ⊢
     have n_ka : V5d.heap[w.heap.size]? = V5.heap[w.heap.size]? := by rw [← hV_V5d]; rfl
     have d_ka := n_ka.trans ka
     clear n_ka c_ka f_ka
     have n_kb : V5d.heap[w.heap.size + 1]? = V5.heap[w.heap.size + 1]? := by rw [← hV_V5d]; rfl
     have d_kb := n_kb.trans kb
     clear n_kb c_kb f_kb
     have n_B : Below w.heap.size w V5d := by rw [← hV_V5d]; exact hB.drew
     clear hB; have hB := n_B; clear n_B
     have z_V5d : V5.heap.size ≤ V5d.heap.size := by rw [← hV_V5d]; exact Nat.le_refl _
     have v_ka := cells_of ka
     have v_kb := cells_of kb
     clear ka; have ka := d_ka; clear d_ka
     clear kb; have kb := d_kb; clear d_kb
     have c_ka := cells_of ka
     have f_ka := free_of ka
     have l_ka_V5d := lt_of ka
     have c_kb := cells_of kb
     have f_kb := free_of kb
     have l_kb_V5d := lt_of kb
     clear hV_V5d
     refine ty (i := 0) (v := ?_) rfl hHeld ?_ ?_
     rotate_left
     focus (intro w hSw; go_simp; (try simp only [IntWalk.i64_left]); try (with_reducible rfl))
     try simp only [PT]
     refine ty (i := 1) (v := ?_) rfl hHeld ?_ ?_
     rotate_left
     focus (intro w hSw; go_simp; (try simp only [IntWalk.i64_left]); try (with_reducible rfl))
     try simp only [PT]
     refine ty (i := 2) (v := ?_) rfl hHeld ?_ ?_
     rotate_left
     focus (intro w hSw; go_simp; (try simp only [IntWalk.i64_left]); try (with_reducible rfl))
     try simp only [PT]
     refine ty (i := 3) (v := ?_) rfl hHeld ?_ ?_
     rotate_left
     focus (intro w hSw; go_simp; (try simp only [IntWalk.i64_left]); try (with_reducible rfl))
     try simp only [PT]
     refine ty (i := 4) (v := ?_) rfl hHeld ?_ ?_
     rotate_left
     focus (intro w hSw; go_simp; (try simp only [IntWalk.i64_left]); try (with_reducible rfl))
     try simp only [PT]
     refine ty (i := 5) (v := ?_) rfl hHeld ?_ ?_
     rotate_left
     focus (intro w hSw; go_simp; (try simp only [IntWalk.i64_left]); try (with_reducible rfl))
     try simp only [PT]
     refine ty (i := 6) (v := ?_) rfl hHeld ?_ ?_
     rotate_left
     focus (intro w hSw; go_simp; (try simp only [IntWalk.i64_left]); try (with_reducible rfl))
     try simp only [PT]
     refine wpAnyH_ready (rs := [7]) (by kernel_rfl) (by simp) ?_
     refine ready_at rfl (fun K hK => ?_) AllReadyH.nil
     go_simp
     refine hK.out _ _ hHeld (fun hHeld => ?_)
     clear hK K
     try simp only [PT]
     refine wpAnyH_done (by kernel_rfl) ?_ _
     refine NoPanic.normal ?_
     go_wp2_with fail
     go_ret

     exact ⟨by rw [← hL.out]; first | rfl | simp, by (repeat' first | with_reducible assumption | with_reducible exact Below.refl _ _ | with_reducible refine Below.alloc ?_ ?_ _ | with_reducible refine Below.setCell ?_ ?_ _ | with_reducible refine below_drewN ?_ _ | with_reducible refine Below.drew ?_ | exact Nat.le_refl _ | ((try dsimp only); omega) | (simp only [siz_alloc, siz_set]; omega))⟩
end Go.Proofs.YtpdpcgmkpgfblaaGreat
/- The document's own: which texts may be; the texts of documents. -/
namespace Go.Proofs.YtpdpcgmkpgfblaaGreat
set_option linter.unusedSimpArgs false
set_option linter.unusedVariables false
set_option linter.unnecessarySimpa false
open Go.RowKit
attribute [local go_sem ↓] Go.wp_at_zero Go.wp_at_succ
attribute [local go_sem] str_len
set_option maxRecDepth 100000 in
set_option maxHeartbeats 2000000 in
theorem rright_calls (v : Value) (ts : List (List UInt8)) (hl : ts.length ≤ 50000) (w : World) (h : Rk w 1 v ts.length (ts.map strOf)) :
    Calls Tryz.prog 45 #[v] w fun e w' => e = .returned (.bool (refRight ts)) ∧ Below w.heap.size w w' := by
  obtain ⟨R, hR⟩ : ∃ R, refRight ts = R := ⟨_, rfl⟩
  rw [hR]
  have HR := Lib.hid hR; clear hR
  have HK := Lib.hid h
  obtain ⟨h1, A, cap, rfl, h2⟩ := h
  clear h1 h2
  go_enter Tryz.func45, Tryz.ntmps45
  go_wp2_with fail
  go_loopg [3] ts.length (fun k p wr => ∃ i : Nat, p = .int .i64 (i : Int) ∧ i + k = ts.length ∧ Hid (((ts.drop i).all (fun t => decide (t.length ≤ 40)) && decide (ts.length ≤ 10)) = R) ∧ Below w.heap.size w wr)
  case atStart => exact ⟨0, rfl, by omega, HR, Below.refl _ _⟩
  case round =>
    obtain ⟨i, rfl, hk, Hl, hB⟩ := hrel
    by_cases hlt : i < ts.length
    · obtain ⟨k, rfl⟩ : ∃ k, gk = k + 1 := ⟨gk - 1, by omega⟩
      have hrk := HK.out.below hB
      obtain ⟨t, ht⟩ := at_some hlt
      have hl2 := Hl.out
      rw [drop_at ht, List.all_cons] at hl2
      obtain ⟨h1, A', cap', hv, h2⟩ := hrk
      obtain ⟨g, cs, T, rfl, kg, hcs⟩ := h2 (by omega)
      obtain ⟨rfl, -, rfl⟩ := Value.slice.inj hv
      have hci : cs[i]? = some (strOf t) := by rw [hcs i (by omega), List.getElem?_map, ht]; rfl
      have n1 : decide ((i : Int) < (ts.length : Int)) = true := by simpa using hlt
      have n2 : (i : Int) < (ts.length : Int) := by omega
      have e3 : wrap64 ((i : Int) + 1) = (i : Int) + 1 := IntWalk.wrap64_in _ (by omega)

      have c_kg := cells_of kg
      have f_kg := free_of kg
      have l_kg_wr := lt_of kg
      by_cases h40 : t.length ≤ 40
      · have d1 : decide ((40 : Int) < (t.length : Int)) = false := by simp; omega
        rw [decide_eq_true h40, Bool.true_and] at hl2
        have HL := Lib.hid hl2
        clear hl2 h40 ht hv h1 h2 hcs Hl
        go_wp2_with fail
        go_roundg k
        case measure => omega
        case rel => exact ⟨i + 1, by first | rfl | (rw [e3]; rfl), by omega, HL, hB⟩
      · have d1 : decide ((40 : Int) < (t.length : Int)) = true := by simp; omega
        rw [decide_eq_false h40] at hl2
        simp only [Bool.false_and] at hl2
        have HL := Lib.hid hl2
        clear hl2 h40 ht hv h1 h2 hcs Hl
        go_wp2_with fail
        go_ret
        exact ⟨by rw [← HL.out]; rfl, hB⟩
    · have hi : i = ts.length := by omega
      have hl2 := Hl.out
      rw [hi, List.drop_length, List.all_nil, Bool.true_and] at hl2
      have HL := Lib.hid hl2
      have n1 : decide ((i : Int) < (ts.length : Int)) = false := by simpa using hlt
      clear hl2 Hl
      go_wp2_with fail
      go_ret
      exact ⟨by rw [← HL.out]; first | rfl | (show Ending.returned (Value.bool (decide ((ts.length : Int) ≤ 10))) = _; congr 2; exact decide_eq_decide.2 (by omega)), hB⟩
/-- A slice value that reads as a row of documents, wherever it lies. -/
def Rd2 (w : World) (v : Value) (ds : List (Int × List UInt8)) : Prop :=
  ∃ A cap, v = .slice A ds.length cap ∧ (0 < ds.length → ∃ ad, A = some ad ∧ ad.block < w.heap.size ∧ ∀ i d, ds[i]? = some d → (ad.add (i * 2)).block < w.heap.size ∧ w.cell? (ad.add (i * 2)) = some (.int .i64 d.1) ∧ w.cell? ⟨(ad.add (i * 2)).block, (ad.add (i * 2)).off + 1, none⟩ = some (strOf d.2))
theorem Rd2.below {w w' : World} {v : Value} {ds : List (Int × List UInt8)} (h : Rd2 w v ds) (hb : Below w.heap.size w w') : Rd2 w' v ds := by
  obtain ⟨A, cap, rfl, h2⟩ := h
  refine ⟨A, cap, rfl, fun hn => ?_⟩
  obtain ⟨ad, rfl, hg, hc⟩ := h2 hn
  refine ⟨ad, rfl, Nat.lt_of_lt_of_le hg hb.size, fun i d hd => ?_⟩
  obtain ⟨h0, h1, h2⟩ := hc i d hd
  exact ⟨Nat.lt_of_lt_of_le h0 hb.size, (hb.cell h0).trans h1, (hb.cell (by exact h0)).trans h2⟩
set_option maxRecDepth 100000 in
set_option maxHeartbeats 2000000 in
theorem texts_calls (v : Value) (ds : List (Int × List UInt8)) (hl : ds.length ≤ 50000) (w : World) (h : Rd2 w v ds) :
    Calls Tryz.prog 14 #[v] w fun e w' => ∃ v', e = .returned v' ∧ w'.ownsRow w.heap.size 9 1 v' ds.length ((ds.map (·.2)).map strOf) ∧ Below w.heap.size w w' := by
  have HK := Lib.hid h
  obtain ⟨A, cap, rfl, h2⟩ := h
  clear h2
  go_enter Tryz.func14, Tryz.ntmps14
  go_wp2_with fail
  go_loopg [3, 4] ds.length (fun k p q wr => ∃ i : Nat, q = .int .i64 (i : Int) ∧ i + k = ds.length ∧ Hid (wr.ownsRow w.heap.size 9 1 p i (((ds.take i).map (·.2)).map strOf)) ∧ Hid (Below w.heap.size w wr))
  case atStart => exact ⟨0, rfl, by omega, Lib.hid (own_nil _ _ _ _), Lib.hid (Below.refl _ _)⟩
  case round =>
    obtain ⟨i, rfl, hk, Hown, HB⟩ := hrel
    by_cases hlt : i < ds.length
    · obtain ⟨k, rfl⟩ : ∃ k, gk = k + 1 := ⟨gk - 1, by omega⟩
      obtain ⟨d, hd⟩ := at_some hlt
      obtain ⟨A', cap', hv, h2⟩ := HK.out.below HB.out
      obtain ⟨ad, rfl, hg, hc⟩ := h2 (by omega)
      obtain ⟨rfl, -, rfl⟩ := Value.slice.inj hv
      obtain ⟨-, c1, c2⟩ := hc i d hd
      have n1 : decide ((i : Int) < (ds.length : Int)) = true := by simpa using hlt
      have n2 : (i : Int) < (ds.length : Int) := by omega
      have e3 : wrap64 ((i : Int) + 1) = (i : Int) + 1 := IntWalk.wrap64_in _ (by omega)
      have htake : Hid (((ds.take (i + 1)).map (·.2)).map strOf = ((ds.take i).map (·.2)).map strOf ++ [strOf d.2]) := Lib.hid (by
        rw [List.take_succ_eq_append_getElem hlt, List.map_append, List.map_append, (List.getElem_eq_iff hlt).2 hd]; rfl)
      have hw0 := HB.out.size
      clear h2 hc hv hd
      replace c2 : wr.cell? ⟨(ad.add (i * 2)).block, (ad.add (i * 2)).off + 1, none⟩ = some (.string ⟨d.2.toArray⟩) := c2
      go_wp2_with (at_builtin; refine wpList_push _ (by rfl) _ _ 31 (by rfl) (w.heap.size) 9 (.string ⟨#[]⟩) 1 16 Tryz.underlying31 (by kernel_rfl) (by rfl) (by omega) _ _ _ (by rfl) Hown.out _ (by rfl) (by rfl) (by simp [Value.oneCell', strOf]) (by unfold maxLen; omega) (by omega) (by omega) ?_; intro g_W c_W W5 hown_W hlow_W hlt_W)
      go_wp2_with fail
      go_roundg k
      case measure => omega
      case rel => exact ⟨i + 1, by first | rfl | (rw [e3]; rfl), by omega, Lib.hid (by rw [htake.out]; exact hown_W), Lib.hid (low_step HB.out (Nat.le_refl _) hlow_W)⟩
    · have hi : i = ds.length := by omega
      have n1 : decide ((i : Int) < (ds.length : Int)) = false := by simpa using hlt
      have hown := Hown.out
      rw [hi, List.take_length] at hown
      have HO := Lib.hid hown
      clear hown Hown
      go_wp2_with fail
      go_ret
      exact ⟨u3, rfl, HO.out, HB.out⟩
end Go.Proofs.YtpdpcgmkpgfblaaGreat
/- Appends of slices onto rows of the call's own, in a region that draws; elements of any size. -/
namespace Go.Proofs.YtpdpcgmkpgfblaaGreat
set_option linter.unusedSimpArgs false
set_option linter.unusedVariables false
set_option linter.unnecessarySimpa false
open Go.RowKit
/-- A slice's address, its length, and what is in its cells, so many an element. -/
def Rds (w : World) (A : Option Addr) (n size : Nat) (xs : List Value) : Prop :=
  xs.length = n * size ∧ (0 < n → ∃ ad, A = some ad ∧ ad.block < w.heap.size ∧ ∀ j u, xs[j]? = some u → w.cell? (ad.add j) = some u)
theorem Rds.below {w w' : World} {A : Option Addr} {n size : Nat} {xs : List Value} (h : Rds w A n size xs) (hb : Below w.heap.size w w') : Rds w' A n size xs :=
  ⟨h.1, fun hn => by
    obtain ⟨ad, e, hl, hc⟩ := h.2 hn
    exact ⟨ad, e, Nat.lt_of_lt_of_le hl hb.size, fun j u hu => (hb.cell (by rw [block_of_add]; exact hl)).trans (hc j u hu)⟩⟩
theorem add_zero_off (g j : Nat) : (⟨g, 0, none⟩ : Addr).add j = ⟨g, j, none⟩ := by unfold Addr.add; split <;> simp_all
theorem Rds.of_own {w : World} {base cap : Nat} {A : Option Addr} {e : TypeId} {size n : Nat} {xs : List Value} (h : w.ownsRow base e size (.slice A n cap) n xs) : Rds w A n size xs := by
  refine ⟨h.1, fun hn => ?_⟩
  obtain ⟨-, A', cap', hv, h2⟩ := Rx.of_own h
  obtain ⟨g, rfl, hg, hc⟩ := h2 hn
  obtain ⟨rfl, -, rfl⟩ := Value.slice.inj hv
  refine ⟨_, rfl, hg, fun j u hu => ?_⟩
  rw [add_zero_off, hc j (by have := (List.getElem?_eq_some_iff.1 hu).1; have := h.1; omega)]
  exact hu
theorem Rds.part {w : World} {A : Option Addr} {n size : Nat} {xs : List Value} (h : Rds w A n size xs) (k : Nat) (hk : k ≤ n) : Rds w A k size (xs.take (k * size)) := by
  have hm : k * size ≤ n * size := Nat.mul_le_mul_right _ hk
  refine ⟨by have := h.1; simp; omega, fun h0 => ?_⟩
  obtain ⟨ad, e, hl, hc⟩ := h.2 (by omega)
  refine ⟨ad, e, hl, fun j u hu => hc j u ?_⟩
  simp only [List.getElem?_take] at hu
  split at hu
  · exact hu
  · cases hu
theorem Rds.behind {w : World} {A A' : Option Addr} {n size : Nat} {xs : List Value} (h : Rds w A n size xs) (k m : Nat) (hk : k ≤ n) (hm : m = n - k) (hA : k < n → A' = A.map (·.add (k * size))) : Rds w A' m size (xs.drop (k * size)) := by
  subst hm
  have hm : k * size ≤ n * size := Nat.mul_le_mul_right _ hk
  refine ⟨by have := h.1; rw [List.length_drop, this, Nat.sub_mul], fun h0 => ?_⟩
  obtain ⟨ad, e, hl, hc⟩ := h.2 (by omega)
  refine ⟨ad.add (k * size), by rw [hA (by omega), e]; rfl, by rw [block_of_add]; exact hl, fun j u hu => ?_⟩
  have := hc (k * size + j) u (by rw [List.getElem?_drop] at hu; exact hu)
  rw [← this]
  congr 1
  generalize k * size = q
  obtain ⟨bb, oo, pp⟩ := ad
  unfold Addr.add
  rcases Nat.eq_zero_or_pos q with rfl | h1
  · simp
  · rcases Nat.eq_zero_or_pos j with rfl | h2
    · simp
    · rw [if_neg (by omega), if_neg (by omega), if_neg (by omega)]
      cases pp <;> simp <;> omega
/-- One element in a block of its own. -/
theorem rds_one (w : World) (cs : Array Value) (e : TypeId) (size : Nat) (hs : cs.size = size) : Rds (w.alloc (.cells cs e)) (some ⟨w.heap.size, 0, none⟩) 1 size cs.toList := by
  refine ⟨by simp [hs], fun _ => ⟨_, rfl, by simp, fun j x hx => ?_⟩⟩
  rw [add_zero_off, cells_of (blk_new w (.cells cs e) w.heap.size rfl) j]
  simpa using hx
theorem step_moreN {P : Program} {ops : Array Oper} {o : Oper} {a : Act} {K : Act → World → Prop} {Q : Exit → Act → World → Prop} {E : Prop} {w : World} (hwant : Region.wanted o (yielded ops a.tmps) = true) (s x : Operand) (t : TypeId)
    (ho : o.op = .call { callee := .builtin .append, args := #[s, x], argTypes := #[t, t] })
    {base : Nat} {e : TypeId} (z : Value) (size bytes : Nat) (hsz : 0 < size) (ht : P.underlying t = some (.slice e)) (hi : (P.info? e).map (fun i => (i.zero, i.size, i.bytes)) = some (some z, size, bytes)) (hzs : z.cells.size = size)
    {v : Value} {n : Nat} {xs : List Value} (hs : a.eval s = v) (hown : w.ownsRow base e size v n xs)
    {A : Option Addr} {m c : Nat} {news : List Value} (hx : a.eval x = .slice A m c) (hr : Rds w A m size news) (h1 : ∀ u ∈ news, u.oneCell' = true)
    {nm : Nat} (hnm : nm = n + m) (h63 : nm ≤ 60000) (hby : bytes ≤ 60000) (hbase : base ≤ w.heap.size)
    (h : ∀ A' c' w', w'.ownsRow base e size (.slice A' nm c') nm (xs ++ news) → Below base w w' → (∀ B, B ≤ w.heap.size → (∀ k, v.ownBlock = some k → B ≤ k) → Below B w w') → K (a.put o.dst (.slice A' nm c')) w') :
    if Region.wanted o (yielded ops a.tmps) = true then Oper.wp P o a w K Q else E := by
  subst hnm
  rw [if_pos hwant]
  have hb : (n + m) * bytes ≤ 140737488355328 := Nat.le_trans (Nat.mul_le_mul h63 hby) (by omega)
  obtain ⟨i0, hi0, hz0, hz1, hz2⟩ := info_parts hi
  have key : ∃ v' w', (Builtin.append_ #[t, t] o.type #[v, .slice A m c]).run P w = .ok v' w' ∧ w'.ownsRow base e size v' (n + m) (xs ++ news) ∧ Below base w w' ∧ (∀ B, B ≤ w.heap.size → (∀ k, v.ownBlock = some k → B ≤ k) → Below B w w') := by
    rcases A with _ | ad
    · have h0 : m = 0 := by
        rcases Nat.eq_zero_or_pos m with h0 | h0
        · exact h0
        · obtain ⟨ad, h, _⟩ := hr.2 h0
          cases h
      subst h0
      have hn : news = [] := List.eq_nil_of_length_eq_zero (by have := hr.1; omega)
      subst hn
      refine ⟨v, w, ?_, by simpa using hown, Below.refl _ _, fun B _ _ => Below.refl _ _⟩
      rcases hown.2 with ⟨rfl, rfl⟩ | ⟨g, cap, cur, rfl, _, _, hnc, _⟩
      · simp [Builtin.append_, run_underlying ht, sizeOf, typeInfo, hi0, Builtin.lenOf, Builtin.firstCells]
      · simp [Builtin.append_, run_underlying ht, sizeOf, typeInfo, hi0, Builtin.lenOf, Builtin.firstCells, hnc, storeCells]
    · have hc : ∀ j u, news[j]? = some u → w.cell? (ad.add j) = some u := by
        intro j u hu
        rcases Nat.eq_zero_or_pos m with h0 | h0
        · subst h0
          have hn : news = [] := List.eq_nil_of_length_eq_zero (by have := hr.1; omega)
          subst hn
          simp at hu
        · obtain ⟨ad', h, _, hc⟩ := hr.2 h0
          injection h with h
          subst h
          exact hc j u hu
      obtain ⟨v', w', hrun, h2, hg, _, h5⟩ := run_append_own_at (P := P) w base t o.type e i0 z size bytes ht hi0 hz0 hz1 hz2 hzs hsz v n xs hown ad m c news (by simpa using hr.1) hc h1 (by unfold maxLen; omega) hb hbase
      refine ⟨v', w', hrun, h2, (Below.refl base w).grown hg hbase fun k hk => ?_, fun B hB hk => (Below.refl B w).grown hg hB hk⟩
      rcases hown.2 with ⟨rfl, _⟩ | ⟨g', cap', cur, rfl, hge, _⟩
      · simp [Value.ownBlock] at hk
      · simp [Value.ownBlock] at hk; omega
  obtain ⟨v', w', hrun, h2, h3, h4⟩ := key
  obtain ⟨-, A', c', rfl, -⟩ := Rx.of_own h2
  unfold Oper.wp execOp
  simp only [ho, resolve, invoke, builtin, Sem.run_bind, Sem.run_pure, Result.andThen_ok, List.map_toArray, List.map_cons, List.map_nil, hs, hx, hrun]
  exact h A' c' w' h2 h3 h4
theorem own_cap {w : World} {base n cap size : Nat} {A : Option Addr} {e : TypeId} {xs : List Value} (h : w.ownsRow base e size (.slice A n cap) n xs) : n ≤ cap := by
  rcases h.2 with ⟨hv, h0⟩ | ⟨g, cap', cur, hv, hg, hc, hcap, -⟩
  · omega
  · obtain ⟨-, -, rfl⟩ := Value.slice.inj hv; exact hcap
/-- What a region that draws keeps: all that lies below its beginning. -/
abbrev HeldB (W v : World) : Prop := Below W.heap.size W v ∧ (W.heap.size ≤ v.heap.size) ∧ ∀ b o, b < W.heap.size → v.cell? ⟨b, o, none⟩ = W.cell? ⟨b, o, none⟩
theorem HeldB.of {W v : World} (h : Below W.heap.size W v) : HeldB W v := ⟨h, h.size, (bcell h).1⟩
theorem HeldB.start (W : World) : HeldB W W.drew := HeldB.of (Below.refl _ _).drew
theorem HeldB.low {W u v : World} (h : HeldB W u) (hb : Below W.heap.size u v) : HeldB W v := HeldB.of (h.1.trans hb)
theorem HeldB.call {W u v : World} (h : HeldB W u) (hb : Below u.heap.size u v) : HeldB W v := HeldB.of (h.1.trans (hb.mono h.2.1))
theorem HeldB.alloc {W u : World} (h : HeldB W u) (o : Obj) : HeldB W (u.alloc o) := HeldB.of (h.1.alloc h.2.1 o)
def rowCells (l : List (Nat × Nat)) : List Value := itemCells (rowInts l)
end Go.Proofs.YtpdpcgmkpgfblaaGreat
/- The document's own: the rows in their order (written by gen_sorted.py). -/
namespace Go.Proofs.YtpdpcgmkpgfblaaGreat
set_option linter.unusedSimpArgs false
set_option linter.unusedVariables false
set_option linter.unnecessarySimpa false
open Go.RowKit
attribute [local go_sem ↓] Go.wp_at_zero Go.wp_at_succ
attribute [local go_sem] str_len
theorem rowCells_length (l : List (Nat × Nat)) : (rowCells l).length = l.length * 2 := by unfold rowCells rowInts; rw [itemCells_length, List.length_map]
theorem rowCells_append (a b : List (Nat × Nat)) : rowCells (a ++ b) = rowCells a ++ rowCells b := by unfold rowCells rowInts; rw [List.map_append, itemCells_append]
theorem rowCells_take : ∀ (l : List (Nat × Nat)) (k : Nat), (rowCells l).take (k * 2) = rowCells (l.take k)
 | [], k => by simp [rowCells, rowInts, itemCells]
 | x :: l, 0 => rfl
 | x :: l, k + 1 => by
  have := rowCells_take l k
  rw [show (k + 1) * 2 = k * 2 + 1 + 1 by omega]
  unfold rowCells rowInts at this ⊢
  simp [itemCells, this]
theorem rowCells_drop : ∀ (l : List (Nat × Nat)) (k : Nat), (rowCells l).drop (k * 2) = rowCells (l.drop k)
 | [], k => by simp [rowCells, rowInts, itemCells]
 | x :: l, 0 => rfl
 | x :: l, k + 1 => by
  have := rowCells_drop l k
  rw [show (k + 1) * 2 = k * 2 + 1 + 1 by omega]
  unfold rowCells rowInts at this ⊢
  simp [itemCells, this]
theorem rowCells_one (l : List (Nat × Nat)) : ∀ u ∈ rowCells l, u.oneCell' = true := by
 unfold rowCells rowInts
 induction l with
 | nil => simp [itemCells]
 | cons x l ih =>
  intro u hu
  simp only [List.map_cons, itemCells, List.mem_cons] at hu
  rcases hu with rfl | rfl | hu
  ·
   rfl
  ·
   rfl
  ·
   exact ih u hu
theorem rowCells_at {l : List (Nat × Nat)} {i : Nat} {r : Nat × Nat} (h : l[i]? = some r) : (rowCells l)[i * 2]? = some (.int .i64 (r.1 : Int)) ∧ (rowCells l)[i * 2 + 1]? = some (.int .i64 (r.2 : Int)) := by
 unfold rowCells rowInts
 exact itemCells_at _ i ((r.1 : Int), (r.2 : Int)) (by simp [h])
theorem step_wrap (j n : Nat) (h : j ≤ n) (hn : n ≤ 50000) : wrap64 ((j : Int) + 1) = (j : Int) + 1 := IntWalk.wrap64_in _ (by omega)
set_option maxRecDepth 100000 in
set_option maxHeartbeats 8000000 in
theorem sorted_walk (v : Value) (ts : List (List UInt8)) (hrt : refRight ts = true) (w : World) (h : Rk w 1 v ts.length (ts.map strOf)) :
  Calls Tryz.prog 13 #[v] w fun e w' => ∃ v', e = .returned v' ∧ w'.ownsRow w.heap.size 36 2 v' (refFold ts (upto ts ts.length 0)).length (rowCells (refFold ts (upto ts ts.length 0))) ∧ Below w.heap.size w w' := by
 obtain ⟨hn10, h40⟩ := right_len hrt
 have H40 := Lib.hid h40; clear h40
 have HK := Lib.hid h
 obtain ⟨h1, A, cap, rfl, h2⟩ := h
 clear h1 h2
 go_enter Tryz.func13, Tryz.ntmps13
 go_wp2_with fail
 refine calls_gen fun V0 hV_V0 => ?_
 have n_B : Below w.heap.size w V0 := nB hV_V0
 have z_V0 := Nat.le_of_eq (congrArg (fun v : World => v.heap.size) hV_V0).symm
 try simp only [SZ] at z_V0
 clear hV_V0
 skip
 have hB := n_B
 clear n_B
 refine (rright_calls _ ts (by omega) _ (HK.out.below hB)).mono ?_
 rintro e_W0 W0 ⟨rfl, hb_W0⟩
 replace hB := below_step hB hb_W0
 have z_W0 := hb_W0.size
 clear hb_W0
 rw [hrt]
 have HB0 := Lib.hid hB; clear hB
 go_wp2_with fail
 go_loopg [3, 4] ts.length (fun k p q wr => ∃ d : Nat, q = .int .i64 (d : Int) ∧ d + k = ts.length ∧ Hid (wr.ownsRow w.heap.size 36 2 p (refFold ts (upto ts d 0)).length (rowCells (refFold ts (upto ts d 0)))) ∧ Hid (Below w.heap.size w wr))
 case atStart => exact ⟨0, rfl, by omega, Lib.hid (own_nil _ _ _ _), HB0⟩
 case round =>
  clear HB0
  obtain ⟨d, rfl, hk, Hown, HB⟩ := hrel
  by_cases hlt : d < ts.length
  ·
   obtain ⟨k, rfl⟩ : ∃ k, gk = k + 1 := ⟨gk - 1, by omega⟩
   obtain ⟨t, ht⟩ := at_some hlt
   have n1 : decide ((d : Int) < (ts.length : Int)) = true := by simpa using hlt
   have n2 : (d : Int) < (ts.length : Int) := by omega
   have E3 := Lib.hid (step_wrap d 10 (by omega) (by omega))
   have hgd := getD_at ht
   have hlen := H40.out d
   rw [hgd] at hlen
   go_wp2_with fail
   go_loopg [3, 5] (t.length + 1) (fun k2 p q wr => ∃ a : Nat, q = .int .i64 (a : Int) ∧ a + k2 = t.length + 1 ∧ Hid (wr.ownsRow w.heap.size 36 2 p (refFold ts (upto ts d a)).length (rowCells (refFold ts (upto ts d a)))) ∧ Hid (Below w.heap.size w wr))
   case atStart => exact ⟨0, rfl, by omega, Hown, HB⟩
   case round =>
    clear Hown HB
    obtain ⟨a, rfl, hk2, Hown, HB⟩ := hrel
    obtain ⟨-, A', cap', hv, h2⟩ := HK.out.below HB.out
    obtain ⟨g, cs, T, rfl, kg, hcs⟩ := h2 (by omega)
    obtain ⟨rfl, -, rfl⟩ := Value.slice.inj hv
    have hci : cs[d]? = some (strOf t) := by rw [hcs d (by omega), List.getElem?_map, ht]; rfl
    clear h2 hv hcs
    have c_kg := cells_of kg
    have f_kg := free_of kg
    have l_kg_wr := lt_of kg
    by_cases hla : a ≤ t.length
    ·
     obtain ⟨k2, rfl⟩ : ∃ k, gk = k + 1 := ⟨gk - 1, by omega⟩
     have m1 : decide ((a : Int) ≤ (t.length : Int)) = true := by simp; omega
     have E4 := Lib.hid (step_wrap a 40 (by omega) (by omega))
     have hw0 := HB.out.size
     have hd10 : d ≤ 10 := by omega
     have ha41 : a ≤ 41 := by omega
     have hB := Below.refl wr.heap.size wr
     have c_kg := cells_of kg
     have f_kg := free_of kg
     have l_kg_wr := lt_of kg
     go_wp2_with fail
     refine wp_gen fun V hV_V => ?_
     have n_kg := congrArg (fun v : World => v.heap[g]?) hV_V
     simp (maxDischargeDepth := 9) only [BK, not_false_eq_true, reduceCtorEq, kg, l_kg_wr] at n_kg
     have n_kr := congrArg (fun v : World => v.heap[wr.heap.size]?) hV_V
     simp (maxDischargeDepth := 9) only [BK, not_false_eq_true, reduceCtorEq, kg, l_kg_wr] at n_kr
     have n_B : Below wr.heap.size wr V := nB hV_V
     have z_V := Nat.le_of_eq (congrArg (fun v : World => v.heap.size) hV_V).symm
     try simp only [SZ] at z_V
     clear kg c_kg f_kg
     clear hV_V
     clear hB
     have hB := n_B
     clear n_B
     have kg := n_kg; clear n_kg
     have c_kg := cells_of kg
     have f_kg := free_of kg
     have l_kg_V := lt_of kg
     have kr := n_kr; clear n_kr
     have c_kr := cells_of kr
     have f_kr := free_of kr
     have l_kr_V := lt_of kr
     have hownV := own_below Hown.out hB
     have hBV := below_step HB.out hB
     have hszV := hBV.size
     obtain ⟨out, hout⟩ : ∃ out, out = refFold ts (upto ts d a) := ⟨_, rfl⟩
     rw [← hout] at hownV
     have hol : out.length ≤ 500 := by rw [hout]; exact fold_small hrt d a hd10 ha41
     have hval : ∀ x, x ∈ out → ∃ t', ts[x.1]? = some t' ∧ x.2 ≤ t'.length := fun x hx => fold_valid d a t ht hla x (hout ▸ hx)
     obtain ⟨-, A3, c3, rfl, hx3⟩ := Rx.of_own hownV
     have HownV := Lib.hid hownV; have HBV := Lib.hid hBV; have Hval := Lib.hid hval; have Hout := Lib.hid hout; have HX3 := Lib.hid hx3; have KG := Lib.hid kg; have KR := Lib.hid kr
     clear hownV hBV hval hout hx3 Hown kg kr c_kg c_kr f_kg f_kr hB
     generalize hkrb : wr.heap.size = krb at *
     go_loopg [7] out.length (fun k3 p wr => ∃ j : Nat, p = .int .i64 (j : Int) ∧ j + k3 = out.length ∧ Hid (∀ i x, i < j → out[i]? = some x → refLess ts x (d, a) = true) ∧ Below V.heap.size V wr)
     case atStart => exact ⟨0, rfl, by omega, Lib.hid (fun i x hi => absurd hi (by omega)), Below.refl _ _⟩
     case round =>
      obtain ⟨j, rfl, hk3, Hpre, hB2⟩ := hrel
      have hsz2 := hB2.size
      by_cases hj : j < out.length
      ·
       obtain ⟨k3, rfl⟩ : ∃ k, gk = k + 1 := ⟨gk - 1, by omega⟩
       obtain ⟨x, hx⟩ := at_some hj
       obtain ⟨t1, ht1, hx2⟩ := Hval.out x (List.mem_of_getElem? hx)
       obtain ⟨g3, rfl, hg3, hc3⟩ := HX3.out (by omega)
       have c1 : wr.cell? ⟨g3, j * 2, none⟩ = some (.int .i64 (x.1 : Int)) := ((hB2.cell (by exact hg3)).trans (hc3 _ (by omega))).trans (rowCells_at hx).1
       have c2 : wr.cell? ⟨g3, j * 2 + 1, none⟩ = some (.int .i64 (x.2 : Int)) := ((hB2.cell (by exact hg3)).trans (hc3 _ (by omega))).trans (rowCells_at hx).2
       have ck := cells_of (keep_blk hB2 KR.out)
       have l1 : g3 < wr.heap.size := by omega
       have l2 := lt_of (keep_blk hB2 KR.out)
       have j1 : decide ((j : Int) < (out.length : Int)) = true := by simpa using hj
       have j2 : (j : Int) < (out.length : Int) := by omega
       have E5 := Lib.hid (step_wrap j 500 (by omega) (by omega))
       have hlen1 := H40.out x.1
       rw [getD_at ht1] at hlen1
       have hless : Hid (lessL (decide (x.1 < d)) (t1.drop x.2) (t.drop a) = refLess ts x (d, a)) := Lib.hid (by unfold refLess; rw [getD_at ht1, getD_at ht])
       clear hc3
       go_wp2_with fail
       refine wp_region_noPanic ?_
       refine wp_region_held_drew (S := fun v => Below wr.heap.size wr v ∧ (wr.heap.size ≤ v.heap.size) ∧ ∀ b o, b < wr.heap.size → v.cell? ⟨b, o, none⟩ = wr.cell? ⟨b, o, none⟩) (by kernel_rfl) (HeldB.start wr) (fun hHeld => ?_)
       have hB_d : Below wr.heap.size wr wr.drew := (Below.refl _ _).drew
       generalize wr.drew = wrd at hHeld hB_d ⊢
       refine ty (i := 0) (v := ?_) rfl hHeld ?_ ?_
       rotate_left
       focus (intro w hSw; go_simp; (try simp only [IntWalk.i64_left]); try (with_reducible rfl))
       try simp only [PT]
       refine ty (i := 1) (v := ?_) rfl hHeld ?_ ?_
       rotate_left
       focus (intro w hSw; go_simp; (try simp only [IntWalk.i64_left]); try (with_reducible rfl))
       try simp only [PT]
       refine ty (i := 2) (v := ?_) rfl hHeld ?_ ?_
       rotate_left
       focus (intro w hSw; go_simp; (try simp only [IntWalk.i64_left]); try (with_reducible rfl))
       try simp only [PT]
       refine ty (i := 3) (v := ?_) rfl hHeld ?_ ?_
       rotate_left
       focus (intro w hSw; go_simp; (try simp only [IntWalk.i64_left]); try (with_reducible rfl))
       try simp only [PT]
       refine ty (i := 4) (v := ?_) rfl hHeld ?_ ?_
       rotate_left
       focus (intro w hSw; go_simp; (try simp only [IntWalk.i64_left]); try (with_reducible rfl))
       try simp only [PT]
       refine ty (i := 5) (v := ?_) rfl hHeld ?_ ?_
       rotate_left
       focus (intro w hSw; go_simp; (try simp only [IntWalk.i64_left]); try (with_reducible rfl))
       try simp only [PT]
       refine ty (i := 6) (v := ?_) rfl hHeld ?_ ?_
       rotate_left
       focus (intro w hSw; go_simp; (try simp only [IntWalk.i64_left]); try (with_reducible rfl))
       try simp only [PT]
       refine ty (i := 7) (v := ?_) rfl hHeld ?_ ?_
       rotate_left
       focus (intro w hSw; go_simp; (try simp only [IntWalk.i64_left]); try (with_reducible rfl))
       try simp only [PT]
       refine ty (i := 8) (v := ?_) rfl hHeld ?_ ?_
       rotate_left
       focus (intro w hSw; go_simp; (try simp only [IntWalk.i64_left]); try (with_reducible rfl))
       try simp only [PT]
       refine ty (i := 9) (v := ?_) rfl hHeld ?_ ?_
       rotate_left
       focus (intro w hSw; go_simp; (try simp only [IntWalk.i64_left]); try (with_reducible rfl))
       try simp only [PT]
       refine ty (i := 10) (v := ?_) rfl hHeld ?_ ?_
       rotate_left
       focus (intro w hSw; go_simp; (try simp only [IntWalk.i64_left]); try (with_reducible rfl))
       try simp only [PT]
       refine wpAnyH_ready (rs := [11]) (by kernel_rfl) (by simp) ?_
       refine ready_at rfl (fun K hK => ?_) AllReadyH.nil
       go_simp
       refine (less_calls _ ts x.1 x.2 d a t1 t ht1 hx2 ht hla (by omega) _ hless.out _ (HK.out.below (below_step (below_step HBV.out hB2) hB_d))).mono ?_
       rintro e6 W6 ⟨rfl, hb6⟩
       refine hK.out _ _ (HeldB.call hHeld hb6) (fun hHeld => ?_)
       clear hK K
       try simp only [PT]
       have hBX : Below V.heap.size V W6 := below_step hB2 (below_step hB_d hb6)
       cases hR : refLess ts x (d, a) with
       | true =>
        have Hpre2 : Hid (∀ i y, i < j + 1 → out[i]? = some y → refLess ts y (d, a) = true) := Lib.hid (fun i y hi hy => by
         rcases Nat.lt_or_ge i j with h | h
         ·
          exact Hpre.out i y h hy
         ·
          obtain rfl : i = j := by omega
          rw [hx] at hy; cases hy; exact hR)
        refine ty (i := 12) (v := ?_) rfl hHeld ?_ ?_
        rotate_left
        focus (intro w hSw; go_simp; (try simp only [IntWalk.i64_left]); try (with_reducible rfl))
        try simp only [PT]
        refine wpAnyH_done (by kernel_rfl) ?_ _
        refine NoPanic.normal ?_
        clear c1 c2 ck hHeld Hpre
        go_wp2_with fail
        go_roundg k3
        case measure => omega
        case rel => exact ⟨j + 1, by first | rfl | (rw [E5.out]; rfl), by omega, Hpre2, hBX⟩
       | false =>
        have Hat : Hid (refAt ts out (d, a) = j) := Lib.hid (refAt_of (by omega) Hpre.out (fun y hy => by rw [hx] at hy; cases hy; exact hR))
        refine ty (i := 12) (v := ?_) rfl hHeld ?_ ?_
        rotate_left
        focus (intro w hSw; go_simp; (try simp only [IntWalk.i64_left]); try (with_reducible rfl))
        try simp only [PT]
        refine wpAnyH_done (by kernel_rfl) ?_ _
        refine NoPanic.normal ?_
        clear c1 c2 ck hHeld Hpre hB_d hb6
        go_wp2_with fail
        have ownX := own_below HownV.out hBX
        have krX := keep_blk hBX KR.out
        have ckX := cells_of krX
        have lkX := lt_of krX
        have q0 : out.length ≤ c3 := own_cap HownV.out
        have q1 : j ≤ c3 := by omega
        have q2 : j ≤ out.length := by omega
        refine wp_region_noPanic ?_
        refine wp_region_held_drew (S := fun v => Below W6.heap.size W6 v ∧ (W6.heap.size ≤ v.heap.size) ∧ ∀ b o, b < W6.heap.size → v.cell? ⟨b, o, none⟩ = W6.cell? ⟨b, o, none⟩) (by kernel_rfl) (HeldB.start W6) (fun hHeld => ?_)
        have hB_d : Below W6.heap.size W6 W6.drew := (Below.refl _ _).drew
        generalize W6.drew = W6d at hHeld hB_d ⊢
        refine ty (i := 0) (v := ?_) rfl hHeld ?_ ?_
        rotate_left
        focus (intro w hSw; go_simp; (try simp only [IntWalk.i64_left]); try (with_reducible rfl))
        try simp only [PT]
        refine ty (i := 1) (v := ?_) rfl hHeld ?_ ?_
        rotate_left
        focus (intro w hSw; go_simp; (try simp only [IntWalk.i64_left]); try (with_reducible rfl))
        try simp only [PT]
        refine ty (i := 2) (v := ?_) rfl hHeld ?_ ?_
        rotate_left
        focus (intro w hSw; go_simp; (try simp only [IntWalk.i64_left]); try (with_reducible rfl))
        try simp only [PT]
        refine ty (i := 4) (v := ?_) rfl hHeld ?_ ?_
        rotate_left
        focus (intro w hSw; go_simp; (try simp only [IntWalk.i64_left]); try (with_reducible rfl))
        try simp only [PT]
        refine ty (i := 7) (v := ?_) rfl hHeld ?_ ?_
        rotate_left
        focus (intro w hSw; go_simp; (try simp only [IntWalk.i64_left]); try (with_reducible rfl))
        try simp only [PT]
        refine ty (i := 8) (v := ?_) rfl hHeld ?_ ?_
        rotate_left
        focus (intro w hSw; go_simp; (try simp only [IntWalk.i64_left]); try (with_reducible rfl))
        try simp only [PT]
        refine ty (i := 9) (v := ?_) rfl hHeld ?_ ?_
        rotate_left
        focus (intro w hSw; go_simp; (try simp only [IntWalk.i64_left]); try (with_reducible rfl))
        try simp only [PT]
        have ownD := own_below ownX hB_d
        have hszX := hBX.size
        have hszD := hB_d.size
        skip
        refine wpAnyH_ready (rs := [3, 5]) (by kernel_rfl) (by simp) ?_
        refine ready_at rfl (fun K hK => ?_) (ready_at rfl (fun K hK => ?_) AllReadyH.nil)
        ·
         refine step_moreN (by rfl) _ _ 29 (by rfl) (base := W6.heap.size) (e := 36) (.agg #[.int .i64 0, .int .i64 0]) 2 16 (by omega) Tryz.underlying29 (by kernel_rfl) (by rfl) (v := .slice none 0 0) (by rfl) (own_nil _ _ _ _) (by rfl) (by have := (Rds.of_own (ownD)).part j q2; rw [rowCells_take] at this; exact this) (rowCells_one _) (nm := j) (by omega) (by omega) (by omega) (hHeld.2.1) ?_
         intro A4 c4 W7 hown7 hlow7 hkeep7
         refine hK.out _ _ (HeldB.low hHeld hlow7) (fun hHeld => ?_)
         clear hK K
         try simp only [PT]
         refine wpAnyH_ready (rs := [5]) (by kernel_rfl) (by simp) ?_
         refine ready_at rfl (fun K hK => ?_) AllReadyH.nil
         go_simp
         refine hK.out _ _ (HeldB.alloc hHeld _) (fun hHeld => ?_)
         clear hK K
         try simp only [PT]
         refine wpAnyH_ready (rs := [6]) (by kernel_rfl) (by simp) ?_
         refine ready_at rfl (fun K hK => ?_) AllReadyH.nil
         refine step_moreN (by rfl) _ _ 29 (by rfl) (base := W6.heap.size) (e := 36) (.agg #[.int .i64 0, .int .i64 0]) 2 16 (by omega) Tryz.underlying29 (by kernel_rfl) (by rfl) (v := .slice A4 j c4) (by rfl) (hown7.alloc _) (by rfl) (rds_one W7 #[.int .i64 (d : Int), .int .i64 (a : Int)] 36 2 rfl) (rowCells_one [(d, a)]) (nm := j + 1) (by omega) (by omega) (by omega) (hHeld.2.1) ?_
         intro A5 c5 W8 hown8 hlow8 hkeep8
         refine hK.out _ _ (HeldB.low hHeld hlow8) (fun hHeld => ?_)
         clear hK K
         try simp only [PT]
         refine wpAnyH_ready (rs := [10]) (by kernel_rfl) (by simp) ?_
         refine ready_at rfl (fun K hK => ?_) AllReadyH.nil
         refine step_moreN (by rfl) _ _ 29 (by rfl) (base := W6.heap.size) (e := 36) (.agg #[.int .i64 0, .int .i64 0]) 2 16 (by omega) Tryz.underlying29 (by kernel_rfl) (by rfl) (v := .slice A5 (j + 1) c5) (by rfl) (hown8) (by rfl) (by have := (Rds.of_own (own_below ownX hHeld.1)).behind (A' := if c3 = j then some ⟨g3, 0, none⟩ else some ⟨g3, j * 2, none⟩) j (out.length - j) q2 (by omega) (fun h => by first | (exfalso; omega) | (rw [if_neg (by omega)]; simp [add_zero_off])); rw [rowCells_drop] at this; exact this) (rowCells_one _) (nm := out.length + 1) (by omega) (by omega) (by omega) (hHeld.2.1) ?_
         intro A6 c6 W9 hown9 hlow9 hkeep9
         refine hK.out _ _ (HeldB.low hHeld hlow9) (fun hHeld => ?_)
         clear hK K
         try simp only [PT]
         have hfin := hHeld.1
         refine wpAnyH_ready (rs := [11]) (by kernel_rfl) (by simp) ?_
         refine ready_at rfl (fun K hK => ?_) AllReadyH.nil
         go_simp
         refine hK.out _ _ hHeld (fun hHeld => ?_)
         clear hK K
         try simp only [PT]
         refine wpAnyH_done (by kernel_rfl) ?_ _
         refine NoPanic.normal ?_
         have HF : Hid (W9.ownsRow w.heap.size 36 2 (.slice A6 (out.length + 1) c6) (refFold ts (upto ts d (a + 1))).length (rowCells (refFold ts (upto ts d (a + 1))))) := Lib.hid (by
          rw [upto_snoc, refFold_snoc, ← Hout.out, refIns_length]
          unfold refIns
          rw [Hat.out, rowCells_append, show (d, a) :: out.drop j = [(d, a)] ++ out.drop j from rfl, rowCells_append, ← List.append_assoc]
          exact own_mono hown9 (by omega))
         have HBF := Lib.hid (below_step (below_step HBV.out hBX) hfin)
         clear hown9 hlow9 hkeep9 hfin ownX ownD ckX
         go_wp2_with fail
         all_goals
          go_roundg k2
          case measure => omega
          case rel => exact ⟨a + 1, by first | rfl | (rw [E4.out]; rfl), by omega, HF, HBF⟩
        ·
         go_simp
         refine hK.out _ _ (HeldB.alloc hHeld _) (fun hHeld => ?_)
         clear hK K
         try simp only [PT]
         refine wpAnyH_ready (rs := [3]) (by kernel_rfl) (by simp) ?_
         refine ready_at rfl (fun K hK => ?_) AllReadyH.nil
         refine step_moreN (by rfl) _ _ 29 (by rfl) (base := W6.heap.size) (e := 36) (.agg #[.int .i64 0, .int .i64 0]) 2 16 (by omega) Tryz.underlying29 (by kernel_rfl) (by rfl) (v := .slice none 0 0) (by rfl) (own_nil _ _ _ _) (by rfl) (by have := (Rds.of_own (ownD.alloc (.cells #[.int .i64 (d : Int), .int .i64 (a : Int)] 36))).part j q2; rw [rowCells_take] at this; exact this) (rowCells_one _) (nm := j) (by omega) (by omega) (by omega) (hHeld.2.1) ?_
         intro A4 c4 W7 hown7 hlow7 hkeep7
         refine hK.out _ _ (HeldB.low hHeld hlow7) (fun hHeld => ?_)
         clear hK K
         try simp only [PT]
         refine wpAnyH_ready (rs := [6]) (by kernel_rfl) (by simp) ?_
         refine ready_at rfl (fun K hK => ?_) AllReadyH.nil
         refine step_moreN (by rfl) _ _ 29 (by rfl) (base := W6.heap.size) (e := 36) (.agg #[.int .i64 0, .int .i64 0]) 2 16 (by omega) Tryz.underlying29 (by kernel_rfl) (by rfl) (v := .slice A4 j c4) (by rfl) (hown7) (by rfl) ((rds_one W6d #[.int .i64 (d : Int), .int .i64 (a : Int)] 36 2 rfl).below (hkeep7 _ (Nat.le_refl _) (by simp [Value.ownBlock]))) (rowCells_one [(d, a)]) (nm := j + 1) (by omega) (by omega) (by omega) (hHeld.2.1) ?_
         intro A5 c5 W8 hown8 hlow8 hkeep8
         refine hK.out _ _ (HeldB.low hHeld hlow8) (fun hHeld => ?_)
         clear hK K
         try simp only [PT]
         refine wpAnyH_ready (rs := [10]) (by kernel_rfl) (by simp) ?_
         refine ready_at rfl (fun K hK => ?_) AllReadyH.nil
         refine step_moreN (by rfl) _ _ 29 (by rfl) (base := W6.heap.size) (e := 36) (.agg #[.int .i64 0, .int .i64 0]) 2 16 (by omega) Tryz.underlying29 (by kernel_rfl) (by rfl) (v := .slice A5 (j + 1) c5) (by rfl) (hown8) (by rfl) (by have := (Rds.of_own (own_below ownX hHeld.1)).behind (A' := if c3 = j then some ⟨g3, 0, none⟩ else some ⟨g3, j * 2, none⟩) j (out.length - j) q2 (by omega) (fun h => by first | (exfalso; omega) | (rw [if_neg (by omega)]; simp [add_zero_off])); rw [rowCells_drop] at this; exact this) (rowCells_one _) (nm := out.length + 1) (by omega) (by omega) (by omega) (hHeld.2.1) ?_
         intro A6 c6 W9 hown9 hlow9 hkeep9
         refine hK.out _ _ (HeldB.low hHeld hlow9) (fun hHeld => ?_)
         clear hK K
         try simp only [PT]
         have hfin := hHeld.1
         refine wpAnyH_ready (rs := [11]) (by kernel_rfl) (by simp) ?_
         refine ready_at rfl (fun K hK => ?_) AllReadyH.nil
         go_simp
         refine hK.out _ _ hHeld (fun hHeld => ?_)
         clear hK K
         try simp only [PT]
         refine wpAnyH_done (by kernel_rfl) ?_ _
         refine NoPanic.normal ?_
         have HF : Hid (W9.ownsRow w.heap.size 36 2 (.slice A6 (out.length + 1) c6) (refFold ts (upto ts d (a + 1))).length (rowCells (refFold ts (upto ts d (a + 1))))) := Lib.hid (by
          rw [upto_snoc, refFold_snoc, ← Hout.out, refIns_length]
          unfold refIns
          rw [Hat.out, rowCells_append, show (d, a) :: out.drop j = [(d, a)] ++ out.drop j from rfl, rowCells_append, ← List.append_assoc]
          exact own_mono hown9 (by omega))
         have HBF := Lib.hid (below_step (below_step HBV.out hBX) hfin)
         clear hown9 hlow9 hkeep9 hfin ownX ownD ckX
         go_wp2_with fail
         all_goals
          go_roundg k2
          case measure => omega
          case rel => exact ⟨a + 1, by first | rfl | (rw [E4.out]; rfl), by omega, HF, HBF⟩
      ·
       obtain rfl : j = out.length := by omega
       have j1 : decide ((out.length : Int) < (out.length : Int)) = false := by simp
       have Hat : Hid (refAt ts out (d, a) = out.length) := Lib.hid (refAt_of (Nat.le_refl _) Hpre.out (fun y hy => by simp at hy))
       clear Hpre
       go_wp2_with fail
       refine wp_region_noPanic ?_
       refine wp_region_held_drew (S := fun v => Below wr.heap.size wr v ∧ (wr.heap.size ≤ v.heap.size) ∧ ∀ b o, b < wr.heap.size → v.cell? ⟨b, o, none⟩ = wr.cell? ⟨b, o, none⟩) (by kernel_rfl) (HeldB.start wr) (fun hHeld => ?_)
       have hB_d : Below wr.heap.size wr wr.drew := (Below.refl _ _).drew
       generalize wr.drew = wrd at hHeld hB_d ⊢
       refine ty (i := 0) (v := ?_) rfl hHeld ?_ ?_
       rotate_left
       focus (intro w hSw; go_simp; (try simp only [IntWalk.i64_left]); try (with_reducible rfl))
       try simp only [PT]
       refine ty (i := 1) (v := ?_) rfl hHeld ?_ ?_
       rotate_left
       focus (intro w hSw; go_simp; (try simp only [IntWalk.i64_left]); try (with_reducible rfl))
       try simp only [PT]
       refine ty (i := 2) (v := ?_) rfl hHeld ?_ ?_
       rotate_left
       focus (intro w hSw; go_simp; (try simp only [IntWalk.i64_left]); try (with_reducible rfl))
       try simp only [PT]
       refine ty (i := 3) (v := ?_) rfl hHeld ?_ ?_
       rotate_left
       focus (intro w hSw; go_simp; (try simp only [IntWalk.i64_left]); try (with_reducible rfl))
       try simp only [PT]
       refine ty (i := 4) (v := ?_) rfl hHeld ?_ ?_
       rotate_left
       focus (intro w hSw; go_simp; (try simp only [IntWalk.i64_left]); try (with_reducible rfl))
       try simp only [PT]
       refine take_no (i := 5) rfl (by kernel_rfl) (by kernel_rfl) (by kernel_rfl) (fun _ _ _ h => h) (by rfl) hHeld ?_
       try simp only [PT]
       refine take_no (i := 6) rfl (by kernel_rfl) (by kernel_rfl) (by kernel_rfl) (fun _ _ _ h => h) (by rfl) hHeld ?_
       try simp only [PT]
       refine take_no (i := 7) rfl (by kernel_rfl) (by kernel_rfl) (by kernel_rfl) (fun _ _ _ h => h) (by rfl) hHeld ?_
       try simp only [PT]
       refine take_no (i := 8) rfl (by kernel_rfl) (by kernel_rfl) (by kernel_rfl) (fun _ _ _ h => h) (by rfl) hHeld ?_
       try simp only [PT]
       refine take_no (i := 9) rfl (by kernel_rfl) (by kernel_rfl) (by kernel_rfl) (fun _ _ _ h => h) (by rfl) hHeld ?_
       try simp only [PT]
       refine take_no (i := 10) rfl (by kernel_rfl) (by kernel_rfl) (by kernel_rfl) (fun _ _ _ h => h) (by rfl) hHeld ?_
       try simp only [PT]
       refine take_no (i := 11) rfl (by kernel_rfl) (by kernel_rfl) (by kernel_rfl) (fun _ _ _ h => h) (by rfl) hHeld ?_
       try simp only [PT]
       refine ty (i := 12) (v := ?_) rfl hHeld ?_ ?_
       rotate_left
       focus (intro w hSw; go_simp; (try simp only [IntWalk.i64_left]); try (with_reducible rfl))
       try simp only [PT]
       refine wpAnyH_done (by kernel_rfl) ?_ _
       refine NoPanic.normal ?_
       have hBX : Below V.heap.size V wrd := below_step hB2 hB_d
       clear hHeld hB_d
       go_wp2_with fail
       have ownX := own_below HownV.out hBX
       have krX := keep_blk hBX KR.out
       have ckX := cells_of krX
       have lkX := lt_of krX
       have q0 : out.length ≤ c3 := own_cap HownV.out
       have q1 : out.length ≤ c3 := by omega
       have q2 : out.length ≤ out.length := by omega
       refine wp_region_noPanic ?_
       refine wp_region_held_drew (S := fun v => Below wrd.heap.size wrd v ∧ (wrd.heap.size ≤ v.heap.size) ∧ ∀ b o, b < wrd.heap.size → v.cell? ⟨b, o, none⟩ = wrd.cell? ⟨b, o, none⟩) (by kernel_rfl) (HeldB.start wrd) (fun hHeld => ?_)
       have hB_d : Below wrd.heap.size wrd wrd.drew := (Below.refl _ _).drew
       generalize wrd.drew = wrdd at hHeld hB_d ⊢
       refine ty (i := 0) (v := ?_) rfl hHeld ?_ ?_
       rotate_left
       focus (intro w hSw; go_simp; (try simp only [IntWalk.i64_left]); try (with_reducible rfl))
       try simp only [PT]
       refine ty (i := 1) (v := ?_) rfl hHeld ?_ ?_
       rotate_left
       focus (intro w hSw; go_simp; (try simp only [IntWalk.i64_left]); try (with_reducible rfl))
       try simp only [PT]
       refine ty (i := 2) (v := ?_) rfl hHeld ?_ ?_
       rotate_left
       focus (intro w hSw; go_simp; (try simp only [IntWalk.i64_left]); try (with_reducible rfl))
       try simp only [PT]
       refine ty (i := 4) (v := ?_) rfl hHeld ?_ ?_
       rotate_left
       focus (intro w hSw; go_simp; (try simp only [IntWalk.i64_left]); try (with_reducible rfl))
       try simp only [PT]
       refine ty (i := 7) (v := ?_) rfl hHeld ?_ ?_
       rotate_left
       focus (intro w hSw; go_simp; (try simp only [IntWalk.i64_left]); try (with_reducible rfl))
       try simp only [PT]
       refine ty (i := 8) (v := ?_) rfl hHeld ?_ ?_
       rotate_left
       focus (intro w hSw; go_simp; (try simp only [IntWalk.i64_left]); try (with_reducible rfl))
       try simp only [PT]
       refine ty (i := 9) (v := ?_) rfl hHeld ?_ ?_
       rotate_left
       focus (intro w hSw; go_simp; (try simp only [IntWalk.i64_left]); try (with_reducible rfl))
       try simp only [PT]
       have ownD := own_below ownX hB_d
       have hszX := hBX.size
       have hszD := hB_d.size
       skip
       refine wpAnyH_ready (rs := [3, 5]) (by kernel_rfl) (by simp) ?_
       refine ready_at rfl (fun K hK => ?_) (ready_at rfl (fun K hK => ?_) AllReadyH.nil)
       ·
        refine step_moreN (by rfl) _ _ 29 (by rfl) (base := wrd.heap.size) (e := 36) (.agg #[.int .i64 0, .int .i64 0]) 2 16 (by omega) Tryz.underlying29 (by kernel_rfl) (by rfl) (v := .slice none 0 0) (by rfl) (own_nil _ _ _ _) (by rfl) (by have := (Rds.of_own (ownD)).part out.length q2; rw [rowCells_take] at this; exact this) (rowCells_one _) (nm := out.length) (by omega) (by omega) (by omega) (hHeld.2.1) ?_
        intro A4 c4 W7 hown7 hlow7 hkeep7
        refine hK.out _ _ (HeldB.low hHeld hlow7) (fun hHeld => ?_)
        clear hK K
        try simp only [PT]
        refine wpAnyH_ready (rs := [5]) (by kernel_rfl) (by simp) ?_
        refine ready_at rfl (fun K hK => ?_) AllReadyH.nil
        go_simp
        refine hK.out _ _ (HeldB.alloc hHeld _) (fun hHeld => ?_)
        clear hK K
        try simp only [PT]
        refine wpAnyH_ready (rs := [6]) (by kernel_rfl) (by simp) ?_
        refine ready_at rfl (fun K hK => ?_) AllReadyH.nil
        refine step_moreN (by rfl) _ _ 29 (by rfl) (base := wrd.heap.size) (e := 36) (.agg #[.int .i64 0, .int .i64 0]) 2 16 (by omega) Tryz.underlying29 (by kernel_rfl) (by rfl) (v := .slice A4 out.length c4) (by rfl) (hown7.alloc _) (by rfl) (rds_one W7 #[.int .i64 (d : Int), .int .i64 (a : Int)] 36 2 rfl) (rowCells_one [(d, a)]) (nm := out.length + 1) (by omega) (by omega) (by omega) (hHeld.2.1) ?_
        intro A5 c5 W8 hown8 hlow8 hkeep8
        refine hK.out _ _ (HeldB.low hHeld hlow8) (fun hHeld => ?_)
        clear hK K
        try simp only [PT]
        refine wpAnyH_ready (rs := [10]) (by kernel_rfl) (by simp) ?_
        refine ready_at rfl (fun K hK => ?_) AllReadyH.nil
        refine step_moreN (by rfl) _ _ 29 (by rfl) (base := wrd.heap.size) (e := 36) (.agg #[.int .i64 0, .int .i64 0]) 2 16 (by omega) Tryz.underlying29 (by kernel_rfl) (by rfl) (v := .slice A5 (out.length + 1) c5) (by rfl) (hown8) (by rfl) (by have := (Rds.of_own (own_below ownX hHeld.1)).behind (A' := if c3 = out.length then A3 else A3.map (·.add (out.length * 2))) out.length 0 q2 (by omega) (fun h => by first | (exfalso; omega) | (rw [if_neg (by omega)]; simp [add_zero_off])); rw [rowCells_drop] at this; exact this) (rowCells_one _) (nm := out.length + 1) (by omega) (by omega) (by omega) (hHeld.2.1) ?_
        intro A6 c6 W9 hown9 hlow9 hkeep9
        refine hK.out _ _ (HeldB.low hHeld hlow9) (fun hHeld => ?_)
        clear hK K
        try simp only [PT]
        have hfin := hHeld.1
        refine wpAnyH_ready (rs := [11]) (by kernel_rfl) (by simp) ?_
        refine ready_at rfl (fun K hK => ?_) AllReadyH.nil
        go_simp
        refine hK.out _ _ hHeld (fun hHeld => ?_)
        clear hK K
        try simp only [PT]
        refine wpAnyH_done (by kernel_rfl) ?_ _
        refine NoPanic.normal ?_
        have HF : Hid (W9.ownsRow w.heap.size 36 2 (.slice A6 (out.length + 1) c6) (refFold ts (upto ts d (a + 1))).length (rowCells (refFold ts (upto ts d (a + 1))))) := Lib.hid (by
         rw [upto_snoc, refFold_snoc, ← Hout.out, refIns_length]
         unfold refIns
         rw [Hat.out, rowCells_append, show (d, a) :: out.drop out.length = [(d, a)] ++ out.drop out.length from rfl, rowCells_append, ← List.append_assoc]
         exact own_mono hown9 (by omega))
        have HBF := Lib.hid (below_step (below_step HBV.out hBX) hfin)
        clear hown9 hlow9 hkeep9 hfin ownX ownD ckX
        go_wp2_with fail
        all_goals
         go_roundg k2
         case measure => omega
         case rel => exact ⟨a + 1, by first | rfl | (rw [E4.out]; rfl), by omega, HF, HBF⟩
       ·
        go_simp
        refine hK.out _ _ (HeldB.alloc hHeld _) (fun hHeld => ?_)
        clear hK K
        try simp only [PT]
        refine wpAnyH_ready (rs := [3]) (by kernel_rfl) (by simp) ?_
        refine ready_at rfl (fun K hK => ?_) AllReadyH.nil
        refine step_moreN (by rfl) _ _ 29 (by rfl) (base := wrd.heap.size) (e := 36) (.agg #[.int .i64 0, .int .i64 0]) 2 16 (by omega) Tryz.underlying29 (by kernel_rfl) (by rfl) (v := .slice none 0 0) (by rfl) (own_nil _ _ _ _) (by rfl) (by have := (Rds.of_own (ownD.alloc (.cells #[.int .i64 (d : Int), .int .i64 (a : Int)] 36))).part out.length q2; rw [rowCells_take] at this; exact this) (rowCells_one _) (nm := out.length) (by omega) (by omega) (by omega) (hHeld.2.1) ?_
        intro A4 c4 W7 hown7 hlow7 hkeep7
        refine hK.out _ _ (HeldB.low hHeld hlow7) (fun hHeld => ?_)
        clear hK K
        try simp only [PT]
        refine wpAnyH_ready (rs := [6]) (by kernel_rfl) (by simp) ?_
        refine ready_at rfl (fun K hK => ?_) AllReadyH.nil
        refine step_moreN (by rfl) _ _ 29 (by rfl) (base := wrd.heap.size) (e := 36) (.agg #[.int .i64 0, .int .i64 0]) 2 16 (by omega) Tryz.underlying29 (by kernel_rfl) (by rfl) (v := .slice A4 out.length c4) (by rfl) (hown7) (by rfl) ((rds_one wrdd #[.int .i64 (d : Int), .int .i64 (a : Int)] 36 2 rfl).below (hkeep7 _ (Nat.le_refl _) (by simp [Value.ownBlock]))) (rowCells_one [(d, a)]) (nm := out.length + 1) (by omega) (by omega) (by omega) (hHeld.2.1) ?_
        intro A5 c5 W8 hown8 hlow8 hkeep8
        refine hK.out _ _ (HeldB.low hHeld hlow8) (fun hHeld => ?_)
        clear hK K
        try simp only [PT]
        refine wpAnyH_ready (rs := [10]) (by kernel_rfl) (by simp) ?_
        refine ready_at rfl (fun K hK => ?_) AllReadyH.nil
        refine step_moreN (by rfl) _ _ 29 (by rfl) (base := wrd.heap.size) (e := 36) (.agg #[.int .i64 0, .int .i64 0]) 2 16 (by omega) Tryz.underlying29 (by kernel_rfl) (by rfl) (v := .slice A5 (out.length + 1) c5) (by rfl) (hown8) (by rfl) (by have := (Rds.of_own (own_below ownX hHeld.1)).behind (A' := if c3 = out.length then A3 else A3.map (·.add (out.length * 2))) out.length 0 q2 (by omega) (fun h => by first | (exfalso; omega) | (rw [if_neg (by omega)]; simp [add_zero_off])); rw [rowCells_drop] at this; exact this) (rowCells_one _) (nm := out.length + 1) (by omega) (by omega) (by omega) (hHeld.2.1) ?_
        intro A6 c6 W9 hown9 hlow9 hkeep9
        refine hK.out _ _ (HeldB.low hHeld hlow9) (fun hHeld => ?_)
        clear hK K
        try simp only [PT]
        have hfin := hHeld.1
        refine wpAnyH_ready (rs := [11]) (by kernel_rfl) (by simp) ?_
        refine ready_at rfl (fun K hK => ?_) AllReadyH.nil
        go_simp
        refine hK.out _ _ hHeld (fun hHeld => ?_)
        clear hK K
        try simp only [PT]
        refine wpAnyH_done (by kernel_rfl) ?_ _
        refine NoPanic.normal ?_
        have HF : Hid (W9.ownsRow w.heap.size 36 2 (.slice A6 (out.length + 1) c6) (refFold ts (upto ts d (a + 1))).length (rowCells (refFold ts (upto ts d (a + 1))))) := Lib.hid (by
         rw [upto_snoc, refFold_snoc, ← Hout.out, refIns_length]
         unfold refIns
         rw [Hat.out, rowCells_append, show (d, a) :: out.drop out.length = [(d, a)] ++ out.drop out.length from rfl, rowCells_append, ← List.append_assoc]
         exact own_mono hown9 (by omega))
        have HBF := Lib.hid (below_step (below_step HBV.out hBX) hfin)
        clear hown9 hlow9 hkeep9 hfin ownX ownD ckX
        go_wp2_with fail
        all_goals
         go_roundg k2
         case measure => omega
         case rel => exact ⟨a + 1, by first | rfl | (rw [E4.out]; rfl), by omega, HF, HBF⟩
    ·
     obtain rfl : a = t.length + 1 := by omega
     have m1 : decide (((t.length + 1 : Nat) : Int) ≤ (t.length : Int)) = false := by simp; omega
     have hown := Hown.out
     rw [← hgd, upto_next] at hown
     have HO := Lib.hid hown; clear hown Hown
     go_wp2_with fail
     go_roundg k
     case measure => omega
     case rel => exact ⟨d + 1, by first | rfl | (rw [E3.out]; rfl), by omega, HO, HB⟩
  ·
   have hi : d = ts.length := by omega
   have n1 : decide ((d : Int) < (ts.length : Int)) = false := by simpa using hlt
   have hown := Hown.out
   rw [hi] at hown
   have HO := Lib.hid hown; clear hown Hown
   go_wp2_with fail
   go_ret
   exact ⟨u3, rfl, HO.out, HB.out⟩
end Go.Proofs.YtpdpcgmkpgfblaaGreat
