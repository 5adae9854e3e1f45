/- Rows of symbols in an arena: how often a symbol is among the first ones; how many are less. -/
import Derived.Test.YtkgabbenmoocgaaWave
import Derived.Test.YtkgabbenmoocgaaSym
namespace Go.Proofs.Ytkgabbenmoocgaa
set_option linter.unusedSimpArgs false
set_option linter.unusedVariables false
set_option linter.unnecessarySimpa false
open Go.RowKit
attribute [local go_sem ↓] Go.wp_at_zero Go.wp_at_succ
attribute [local go_sem] lt_s2 lt_s3 lt_s4
variable {ap : Value} {s : Ar} {O : Nat → Prop}
set_option maxRecDepth 100000 in
set_option maxHeartbeats 4000000 in
theorem wRank_calls (h c i r : Int) (hr : wRank s h c i = some r) (w : World) (hA : AP w ap s O) :
    Calls Try.prog 73 #[ap, .int .i64 h, .int .i64 c, .int .i64 i] w fun e w' => e = .returned (.int .i64 r) ∧ Below w.heap.size w w' := by
  unfold wRank at hr
  cases h1 : wIs c with
  | false =>
    rw [h1, if_neg (by decide)] at hr
    cases hr
    go_enter Try.func73, Try.ntmps73
    go_wp2_with fail
    go_step3
    go_wp2_with fail
    refine calls_gen fun V hV_V => ?_
    have n_B : Below w.heap.size w V := nB hV_V
    have n_A : AP V ap s O := nA hV_V
    have z_V := Nat.le_of_eq (congrArg (fun v : World => v.heap.size) hV_V).symm
    try simp only [SZ] at z_V
    clear hV_V
    clear hA
    have hA := n_A
    clear n_A
    skip
    have hB := n_B
    clear n_B
    refine (wIs_calls _ _).mono ?_
    rintro e_q w_q ⟨rfl, rfl⟩
    go_wp2_with fail
    simp only [Exit.noGoto_ret]
    go_ret
    exact ⟨rfl, by (repeat' first | with_reducible assumption | with_reducible exact Below.refl _ _ | with_reducible refine Below.alloc ?_ ?_ _ | with_reducible refine Below.setCell ?_ ?_ _ | with_reducible refine below_drewN ?_ _ | with_reducible refine Below.drew ?_ | exact Nat.le_refl _ | ((try dsimp only); omega) | (simp only [siz_alloc, siz_set]; omega))⟩
  | true =>
    rw [h1, if_pos rfl] at hr
    have hb' := Lib.hid hr; clear hr
    go_enter Try.func73, Try.ntmps73
    go_wp2_with fail
    refine wp_scope_ghost 0 (fun n a' wr => ∃ x y l, (Below w.heap.size w wr ∧ 1 ≤ n ∧ n ≤ 9 ∧ l = 9 - (n : Int) ∧ Hid (wRankL n s x c y = some r)) ∧ ∃ u4 u5 u6 u7 u8 u10 u11 u12 u13 u14 u15 u16 u17 u18 u19 u20 u21 u22 u23 u24 u25 u26 u27 u28 u29 u30 u31 u32 u33 u34 u35 u36 u37 u38 u39 u40 u41 u42 u43 : Value, a' = { tmps := #[(ap : Value), (.int .i64 x : Value), (.int .i64 c : Value), (.int .i64 y : Value), u4, u5, u6, u7, u8, (.int .i64 l : Value), u10, u11, u12, u13, u14, u15, u16, u17, u18, u19, u20, u21, u22, u23, u24, u25, u26, u27, u28, u29, u30, u31, u32, u33, u34, u35, u36, u37, u38, u39, u40, u41, u42, u43], defers := [] }) (by rfl) ?first ?pass
    case first =>
      intro hrest
      go_wp2_with fail
      refine calls_gen fun V hV_V => ?_
      have n_B : Below w.heap.size w V := nB hV_V
      have n_A : AP V ap s O := nA hV_V
      have z_V := Nat.le_of_eq (congrArg (fun v : World => v.heap.size) hV_V).symm
      try simp only [SZ] at z_V
      clear hV_V
      clear hA
      have hA := n_A
      clear n_A
      skip
      have hB := n_B
      clear n_B
      refine (wIs_calls _ _).mono ?_
      rintro e_q w_q ⟨rfl, rfl⟩
      go_wp2_with fail
      go_step3
      go_step
      go_step
      refine hrest 9 _ _ ⟨h, i, 0, ⟨hB, by omega, by omega, by omega, hb'⟩, ?_⟩
      exact ⟨_, _, _, _, _, _, _, _, _, _, _, _, _, _, _, _, _, _, _, _, _, _, _, _, _, _, _, _, _, _, _, _, _, _, _, _, _, _, _, rfl⟩
    case pass =>
      rintro n a' wr ⟨x, y, l, ⟨hB, hn1, hn2, hl, hb'⟩, u4, u5, u6, u7, u8, u10, u11, u12, u13, u14, u15, u16, u17, u18, u19, u20, u21, u22, u23, u24, u25, u26, u27, u28, u29, u30, u31, u32, u33, u34, u35, u36, u37, u38, u39, u40, u41, u42, u43, rfl⟩ J hJ
      have hA := hA.below hB
      have z_r := hB.size
      have hb := hb'.out
      clear hb'
      obtain ⟨n, rfl⟩ : ∃ m, n = m + 1 := ⟨n - 1, by omega⟩
      unfold wRankL at hb
      have e8 : (8 - (n : Int)) = l := by omega
      rw [e8] at hb
      obtain ⟨j, hj, hb⟩ := Option.bind_eq_some_iff.1 hb
      have Hj := Lib.hid hj; clear hj
      have hl' : l + 1 = 9 - (n : Int) := by omega
      have hl1 : 0 ≤ l := by omega
      have hl2 : l ≤ 9 := by omega
      have Hl := Lib.hid hl'
      clear hl' hl e8
      generalize ho : symBit c l = one at *
      have Ho := Lib.hid ho; clear ho
      by_cases hj0 : 0 < j
      · rw [if_pos hj0] at hb
        have d4 : decide (0 < j) = true := by simpa using hj0
        have Hb := Lib.hid hb; clear hb hj0
        by_cases hn : 1 ≤ n
        · have d3 : decide (l + 1 < 9) = true := by have := Hl.out; simp; omega
          go_wp2_with fail
          refine calls_gen fun V1 hV_V1 => ?_
          have n_B : Below w.heap.size w V1 := nB hV_V1
          have n_A : AP V1 ap s O := nA hV_V1
          have z_V1 := Nat.le_of_eq (congrArg (fun v : World => v.heap.size) hV_V1).symm
          try simp only [SZ] at z_V1
          clear hV_V1
          clear hA
          have hA := n_A
          clear n_A
          clear hB
          have hB := n_B
          clear n_B
          refine (wRow_calls _ _ hA).mono ?_
          rintro e_w2 w2 ⟨rfl, hb_w2⟩
          replace hA := hA.below hb_w2
          replace hB := below_step hB hb_w2
          have z_w2 := hb_w2.size
          clear hb_w2
          unfold Nd.val
          go_wp2_with fail
          refine calls_gen fun V2 hV_V2 => ?_
          have n_k0 := congrArg (fun v : World => v.heap[w2.heap.size]?) hV_V2
          simp (maxDischargeDepth := 9) only [BK, not_false_eq_true, reduceCtorEq] at n_k0
          have o_k0 : ¬ O (w2.heap.size) := by first | exact hA.new (Nat.le_refl _) | exact hA.new (by omega)
          have n_B : Below w.heap.size w V2 := nB hV_V2
          have n_A : AP V2 ap s O := nA hV_V2
          have z_V2 := Nat.le_of_eq (congrArg (fun v : World => v.heap.size) hV_V2).symm
          try simp only [SZ] at z_V2
          clear hV_V2
          clear hA
          have hA := n_A
          clear n_A
          clear hB
          have hB := n_B
          clear n_B
          have k0 := n_k0; clear n_k0
          have c_k0 := cells_of k0
          have f_k0 := free_of k0
          have l_k0_V2 := lt_of k0
          refine (symBit_calls _ _ _).mono ?_
          rintro e_q w_q ⟨rfl, rfl⟩
          rw [Ho.out]
          go_wp2_with fail
          refine calls_gen fun V3 hV_V3 => ?_
          have n_k0 := congrArg (fun v : World => v.heap[w2.heap.size]?) hV_V3
          simp (maxDischargeDepth := 9) only [BK, not_false_eq_true, reduceCtorEq, k0, l_k0_V2] at n_k0
          have n_B : Below w.heap.size w V3 := nB hV_V3
          have n_A : AP V3 ap s O := nA hV_V3
          have z_V3 := Nat.le_of_eq (congrArg (fun v : World => v.heap.size) hV_V3).symm
          try simp only [SZ] at z_V3
          clear k0 c_k0 f_k0
          clear hV_V3
          clear hA
          have hA := n_A
          clear n_A
          clear hB
          have hB := n_B
          clear n_B
          have k0 := n_k0; clear n_k0
          have c_k0 := cells_of k0
          have f_k0 := free_of k0
          have l_k0_V3 := lt_of k0
          refine (wAlike_calls _ _ _ _ Hj.out _ hA).mono ?_
          rintro e_w4 w4 ⟨rfl, hb_w4⟩
          replace hA := hA.below hb_w4
          replace hB := below_step hB hb_w4
          replace k0 := keep_blk hb_w4 k0
          have c_k0 := cells_of k0
          have f_k0 := free_of k0
          have l_k0_w4 := lt_of k0
          have z_w4 := hb_w4.size
          clear hb_w4
          go_wp2_with fail
          refine calls_gen fun V4 hV_V4 => ?_
          have n_k0 := congrArg (fun v : World => v.heap[w2.heap.size]?) hV_V4
          simp (maxDischargeDepth := 9) only [BK, not_false_eq_true, reduceCtorEq, k0, l_k0_V2, l_k0_V3, l_k0_w4] at n_k0
          have n_B : Below w.heap.size w V4 := nB hV_V4
          have n_A : AP V4 ap s O := nA hV_V4
          have z_V4 := Nat.le_of_eq (congrArg (fun v : World => v.heap.size) hV_V4).symm
          try simp only [SZ] at z_V4
          clear k0 c_k0 f_k0
          clear hV_V4
          clear hA
          have hA := n_A
          clear n_A
          clear hB
          have hB := n_B
          clear n_B
          have k0 := n_k0; clear n_k0
          have c_k0 := cells_of k0
          have f_k0 := free_of k0
          have l_k0_V4 := lt_of k0
          refine (wKid_calls (s.get x) _ _).mono ?_
          rintro e_w5 w5 ⟨rfl, hb_w5⟩
          replace hA := hA.below hb_w5
          replace hB := below_step hB hb_w5
          replace k0 := keep_blk hb_w5 k0
          have c_k0 := cells_of k0
          have f_k0 := free_of k0
          have l_k0_w5 := lt_of k0
          have z_w5 := hb_w5.size
          clear hb_w5
          go_wp2_with fail
          go_step3
          refine ⟨rfl, hJ _ _ ⟨n, by omega, _, _, _, ⟨by (repeat' first | with_reducible assumption | with_reducible exact Below.refl _ _ | with_reducible refine Below.alloc ?_ ?_ _ | with_reducible refine Below.setCell ?_ ?_ _ | with_reducible refine below_drewN ?_ _ | with_reducible refine Below.drew ?_ | exact Nat.le_refl _ | ((try dsimp only); omega) | (simp only [siz_alloc, siz_set]; omega)), hn, by omega, Hl.out, Hb⟩, ?_⟩⟩
          exact ⟨_, _, _, _, _, _, _, _, _, _, _, _, _, _, _, _, _, _, _, _, _, _, _, _, _, _, _, _, _, _, _, _, _, _, _, _, _, _, _, rfl⟩
        · obtain rfl : n = 0 := by omega
          have d3 : decide (l + 1 < 9) = false := by have := Hl.out; simp; omega
          go_wp2_with fail
          refine calls_gen fun V1 hV_V1 => ?_
          have n_B : Below w.heap.size w V1 := nB hV_V1
          have n_A : AP V1 ap s O := nA hV_V1
          have z_V1 := Nat.le_of_eq (congrArg (fun v : World => v.heap.size) hV_V1).symm
          try simp only [SZ] at z_V1
          clear hV_V1
          clear hA
          have hA := n_A
          clear n_A
          clear hB
          have hB := n_B
          clear n_B
          refine (wRow_calls _ _ hA).mono ?_
          rintro e_w2 w2 ⟨rfl, hb_w2⟩
          replace hA := hA.below hb_w2
          replace hB := below_step hB hb_w2
          have z_w2 := hb_w2.size
          clear hb_w2
          unfold Nd.val
          go_wp2_with fail
          refine calls_gen fun V2 hV_V2 => ?_
          have n_k0 := congrArg (fun v : World => v.heap[w2.heap.size]?) hV_V2
          simp (maxDischargeDepth := 9) only [BK, not_false_eq_true, reduceCtorEq] at n_k0
          have o_k0 : ¬ O (w2.heap.size) := by first | exact hA.new (Nat.le_refl _) | exact hA.new (by omega)
          have n_B : Below w.heap.size w V2 := nB hV_V2
          have n_A : AP V2 ap s O := nA hV_V2
          have z_V2 := Nat.le_of_eq (congrArg (fun v : World => v.heap.size) hV_V2).symm
          try simp only [SZ] at z_V2
          clear hV_V2
          clear hA
          have hA := n_A
          clear n_A
          clear hB
          have hB := n_B
          clear n_B
          have k0 := n_k0; clear n_k0
          have c_k0 := cells_of k0
          have f_k0 := free_of k0
          have l_k0_V2 := lt_of k0
          refine (symBit_calls _ _ _).mono ?_
          rintro e_q w_q ⟨rfl, rfl⟩
          rw [Ho.out]
          go_wp2_with fail
          refine calls_gen fun V3 hV_V3 => ?_
          have n_k0 := congrArg (fun v : World => v.heap[w2.heap.size]?) hV_V3
          simp (maxDischargeDepth := 9) only [BK, not_false_eq_true, reduceCtorEq, k0, l_k0_V2] at n_k0
          have n_B : Below w.heap.size w V3 := nB hV_V3
          have n_A : AP V3 ap s O := nA hV_V3
          have z_V3 := Nat.le_of_eq (congrArg (fun v : World => v.heap.size) hV_V3).symm
          try simp only [SZ] at z_V3
          clear k0 c_k0 f_k0
          clear hV_V3
          clear hA
          have hA := n_A
          clear n_A
          clear hB
          have hB := n_B
          clear n_B
          have k0 := n_k0; clear n_k0
          have c_k0 := cells_of k0
          have f_k0 := free_of k0
          have l_k0_V3 := lt_of k0
          refine (wAlike_calls _ _ _ _ Hj.out _ hA).mono ?_
          rintro e_w4 w4 ⟨rfl, hb_w4⟩
          replace hA := hA.below hb_w4
          replace hB := below_step hB hb_w4
          replace k0 := keep_blk hb_w4 k0
          have c_k0 := cells_of k0
          have f_k0 := free_of k0
          have l_k0_w4 := lt_of k0
          have z_w4 := hb_w4.size
          clear hb_w4
          go_wp2_with fail
          refine calls_gen fun V4 hV_V4 => ?_
          have n_k0 := congrArg (fun v : World => v.heap[w2.heap.size]?) hV_V4
          simp (maxDischargeDepth := 9) only [BK, not_false_eq_true, reduceCtorEq, k0, l_k0_V2, l_k0_V3, l_k0_w4] at n_k0
          have n_B : Below w.heap.size w V4 := nB hV_V4
          have n_A : AP V4 ap s O := nA hV_V4
          have z_V4 := Nat.le_of_eq (congrArg (fun v : World => v.heap.size) hV_V4).symm
          try simp only [SZ] at z_V4
          clear k0 c_k0 f_k0
          clear hV_V4
          clear hA
          have hA := n_A
          clear n_A
          clear hB
          have hB := n_B
          clear n_B
          have k0 := n_k0; clear n_k0
          have c_k0 := cells_of k0
          have f_k0 := free_of k0
          have l_k0_V4 := lt_of k0
          refine (wKid_calls (s.get x) _ _).mono ?_
          rintro e_w5 w5 ⟨rfl, hb_w5⟩
          replace hA := hA.below hb_w5
          replace hB := below_step hB hb_w5
          replace k0 := keep_blk hb_w5 k0
          have c_k0 := cells_of k0
          have f_k0 := free_of k0
          have l_k0_w5 := lt_of k0
          have z_w5 := hb_w5.size
          clear hb_w5
          go_wp2_with fail
          simp only [Exit.jump]
          go_ret
          exact ⟨by rw [← Option.some.inj Hb.out]; rfl, by (repeat' first | with_reducible assumption | with_reducible exact Below.refl _ _ | with_reducible refine Below.alloc ?_ ?_ _ | with_reducible refine Below.setCell ?_ ?_ _ | with_reducible refine below_drewN ?_ _ | with_reducible refine Below.drew ?_ | exact Nat.le_refl _ | ((try dsimp only); omega) | (simp only [siz_alloc, siz_set]; omega))⟩
      · rw [if_neg hj0] at hb
        have d4 : decide (0 < j) = false := by simpa using hj0
        obtain rfl := Option.some.inj hb
        clear hb hj0
        by_cases hn : 1 ≤ n
        all_goals
          first
          | have d3 : decide (l + 1 < 9) = true := by have := Hl.out; simp; omega
          | have d3 : decide (l + 1 < 9) = false := by have := Hl.out; simp; omega
          go_wp2_with fail
          refine calls_gen fun V1 hV_V1 => ?_
          have n_B : Below w.heap.size w V1 := nB hV_V1
          have n_A : AP V1 ap s O := nA hV_V1
          have z_V1 := Nat.le_of_eq (congrArg (fun v : World => v.heap.size) hV_V1).symm
          try simp only [SZ] at z_V1
          clear hV_V1
          clear hA
          have hA := n_A
          clear n_A
          clear hB
          have hB := n_B
          clear n_B
          refine (wRow_calls _ _ hA).mono ?_
          rintro e_w2 w2 ⟨rfl, hb_w2⟩
          replace hA := hA.below hb_w2
          replace hB := below_step hB hb_w2
          have z_w2 := hb_w2.size
          clear hb_w2
          unfold Nd.val
          go_wp2_with fail
          refine calls_gen fun V2 hV_V2 => ?_
          have n_k0 := congrArg (fun v : World => v.heap[w2.heap.size]?) hV_V2
          simp (maxDischargeDepth := 9) only [BK, not_false_eq_true, reduceCtorEq] at n_k0
          have o_k0 : ¬ O (w2.heap.size) := by first | exact hA.new (Nat.le_refl _) | exact hA.new (by omega)
          have n_B : Below w.heap.size w V2 := nB hV_V2
          have n_A : AP V2 ap s O := nA hV_V2
          have z_V2 := Nat.le_of_eq (congrArg (fun v : World => v.heap.size) hV_V2).symm
          try simp only [SZ] at z_V2
          clear hV_V2
          clear hA
          have hA := n_A
          clear n_A
          clear hB
          have hB := n_B
          clear n_B
          have k0 := n_k0; clear n_k0
          have c_k0 := cells_of k0
          have f_k0 := free_of k0
          have l_k0_V2 := lt_of k0
          refine (symBit_calls _ _ _).mono ?_
          rintro e_q w_q ⟨rfl, rfl⟩
          rw [Ho.out]
          go_wp2_with fail
          refine calls_gen fun V3 hV_V3 => ?_
          have n_k0 := congrArg (fun v : World => v.heap[w2.heap.size]?) hV_V3
          simp (maxDischargeDepth := 9) only [BK, not_false_eq_true, reduceCtorEq, k0, l_k0_V2] at n_k0
          have n_B : Below w.heap.size w V3 := nB hV_V3
          have n_A : AP V3 ap s O := nA hV_V3
          have z_V3 := Nat.le_of_eq (congrArg (fun v : World => v.heap.size) hV_V3).symm
          try simp only [SZ] at z_V3
          clear k0 c_k0 f_k0
          clear hV_V3
          clear hA
          have hA := n_A
          clear n_A
          clear hB
          have hB := n_B
          clear n_B
          have k0 := n_k0; clear n_k0
          have c_k0 := cells_of k0
          have f_k0 := free_of k0
          have l_k0_V3 := lt_of k0
          refine (wAlike_calls _ _ _ _ Hj.out _ hA).mono ?_
          rintro e_w4 w4 ⟨rfl, hb_w4⟩
          replace hA := hA.below hb_w4
          replace hB := below_step hB hb_w4
          replace k0 := keep_blk hb_w4 k0
          have c_k0 := cells_of k0
          have f_k0 := free_of k0
          have l_k0_w4 := lt_of k0
          have z_w4 := hb_w4.size
          clear hb_w4
          go_wp2_with fail
          refine calls_gen fun V4 hV_V4 => ?_
          have n_k0 := congrArg (fun v : World => v.heap[w2.heap.size]?) hV_V4
          simp (maxDischargeDepth := 9) only [BK, not_false_eq_true, reduceCtorEq, k0, l_k0_V2, l_k0_V3, l_k0_w4] at n_k0
          have n_B : Below w.heap.size w V4 := nB hV_V4
          have n_A : AP V4 ap s O := nA hV_V4
          have z_V4 := Nat.le_of_eq (congrArg (fun v : World => v.heap.size) hV_V4).symm
          try simp only [SZ] at z_V4
          clear k0 c_k0 f_k0
          clear hV_V4
          clear hA
          have hA := n_A
          clear n_A
          clear hB
          have hB := n_B
          clear n_B
          have k0 := n_k0; clear n_k0
          have c_k0 := cells_of k0
          have f_k0 := free_of k0
          have l_k0_V4 := lt_of k0
          refine (wKid_calls (s.get x) _ _).mono ?_
          rintro e_w5 w5 ⟨rfl, hb_w5⟩
          replace hA := hA.below hb_w5
          replace hB := below_step hB hb_w5
          replace k0 := keep_blk hb_w5 k0
          have c_k0 := cells_of k0
          have f_k0 := free_of k0
          have l_k0_w5 := lt_of k0
          have z_w5 := hb_w5.size
          clear hb_w5
          go_wp2_with fail
          simp only [Exit.jump]
          go_ret
          exact ⟨rfl, by (repeat' first | with_reducible assumption | with_reducible exact Below.refl _ _ | with_reducible refine Below.alloc ?_ ?_ _ | with_reducible refine Below.setCell ?_ ?_ _ | with_reducible refine below_drewN ?_ _ | with_reducible refine Below.drew ?_ | exact Nat.le_refl _ | ((try dsimp only); omega) | (simp only [siz_alloc, siz_set]; omega))⟩
end Go.Proofs.Ytkgabbenmoocgaa
