/- Rows of bits in an arena: how many of the first are 1. -/
import Derived.Test.YtkgabbenmoocgaaBits
namespace Go.Proofs.Ytkgabbenmoocgaa
set_option linter.unusedSimpArgs false
set_option linter.unusedVariables false
set_option linter.unnecessarySimpa false
open Go.RowKit
attribute [local go_sem ↓] Go.wp_at_zero Go.wp_at_succ
attribute [local go_sem] lt_s2 lt_s3 lt_s4
variable {ap : Value} {s : Ar} {O : Nat → Prop}
/-- A number that is held between 0 and another one, as the walk computes it. -/
theorem minmax (i n : Int) {P : Prop} (h1 : i < 0 → n < 0 → imin (imax i 0) n = n → P) (h2 : i < 0 → ¬ n < 0 → imin (imax i 0) n = 0 → P) (h3 : ¬ i < 0 → n < i → imin (imax i 0) n = n → P) (h4 : ¬ i < 0 → ¬ n < i → imin (imax i 0) n = i → P) : P := by
  by_cases c1 : i < 0
  · by_cases c2 : n < 0
    · exact h1 c1 c2 (by unfold imin imax; split <;> split <;> omega)
    · exact h2 c1 c2 (by unfold imin imax; split <;> split <;> omega)
  · by_cases c2 : n < i
    · exact h3 c1 c2 (by unfold imin imax; split <;> split <;> omega)
    · exact h4 c1 c2 (by unfold imin imax; split <;> split <;> omega)
set_option maxRecDepth 100000 in
set_option maxHeartbeats 4000000 in
theorem bRank_calls (h i r : Int) (hr : bRank s h i = some r) (w : World) (hA : AP w ap s O) :
    Calls Try.prog 95 #[ap, .int .i64 h, .int .i64 i] w fun e w' => e = .returned (.int .i64 r) ∧ Below w.heap.size w w' := by
  unfold bRank at hr
  have hr' := Lib.hid hr; clear hr
  go_enter Try.func95, Try.ntmps95
  go_wp2_with fail
  refine wp_scope_ghost 0 (fun n a' wr => ∃ x y z, (Below w.heap.size w wr ∧ Hid (bRankL n s x y z = some r)) ∧ ∃ u3 u4 u5 u6 u8 u9 u10 u11 u12 u13 u14 u15 u16 u17 u18 u19 u20 u21 u22 u23 u24 u25 u26 u27 u28 u29 u30 u31 u32 u33 u34 u35 u36 u37 u38 u39 u40 u41 u42 u43 u44 u45 u46 u47 u48 u49 u50 u51 u52 u53 : Value, a' = { tmps := #[(ap : Value), (.int .i64 x : Value), (.int .i64 y : Value), u3, u4, u5, u6, (.int .i64 z : Value), u8, u9, u10, u11, u12, u13, u14, u15, u16, u17, u18, u19, u20, u21, u22, u23, u24, u25, u26, u27, u28, u29, u30, u31, u32, u33, u34, u35, u36, u37, u38, u39, u40, u41, u42, u43, u44, u45, u46, u47, u48, u49, u50, u51, u52, u53], defers := [] }) (by rfl) ?first ?pass
  case first =>
    intro hrest
    have hr := hr'.out
    clear hr'
    refine minmax i (bLen s h) ?_ ?_ ?_ ?_ <;> intro c1 c2 hm <;> rw [hm] at hr <;> clear hm
    all_goals
      split at hr
      · rename_i hz
        have d3 := beq_iff_eq.2 hz
        cases hr
        clear hz
        go_wp2_with fail
        refine calls_gen fun V hV_V => ?_
        have n_B : Below w.heap.size w V := nB hV_V
        have n_A : AP V ap s O := nA hV_V
        have z_V := Nat.le_of_eq (congrArg (fun v : World => v.heap.size) hV_V).symm
        try simp only [SZ] at z_V
        clear hV_V
        clear hA
        have hA := n_A
        clear n_A
        skip
        have hB := n_B
        clear n_B
        refine (bLen_calls _ _ hA).mono ?_
        rintro e_w1 w1 ⟨rfl, hb_w1⟩
        replace hA := hA.below hb_w1
        replace hB := below_step hB hb_w1
        have z_w1 := hb_w1.size
        clear hb_w1
        go_wp2_with fail
        simp only [Exit.jump]
        go_ret
        exact ⟨rfl, by (repeat' first | with_reducible assumption | with_reducible exact Below.refl _ _ | with_reducible refine Below.alloc ?_ ?_ _ | with_reducible refine Below.setCell ?_ ?_ _ | with_reducible refine below_drewN ?_ _ | with_reducible refine Below.drew ?_ | exact Nat.le_refl _ | ((try dsimp only); omega) | (simp only [siz_alloc, siz_set]; omega))⟩
      · rename_i hz
        first
        | exact absurd rfl hz
        | have d3 := beq_eq_false_iff_ne.2 hz
          have hb' := Lib.hid hr; clear hr hz
          go_wp2_with fail
          refine calls_gen fun V hV_V => ?_
          have n_B : Below w.heap.size w V := nB hV_V
          have n_A : AP V ap s O := nA hV_V
          have z_V := Nat.le_of_eq (congrArg (fun v : World => v.heap.size) hV_V).symm
          try simp only [SZ] at z_V
          clear hV_V
          clear hA
          have hA := n_A
          clear n_A
          skip
          have hB := n_B
          clear n_B
          refine (bLen_calls _ _ hA).mono ?_
          rintro e_w1 w1 ⟨rfl, hb_w1⟩
          replace hA := hA.below hb_w1
          replace hB := below_step hB hb_w1
          have z_w1 := hb_w1.size
          clear hb_w1
          go_wp2_with fail
          go_step3
          go_step
          go_step
          refine hrest rounds _ _ ⟨h, _, 0, ⟨hB, hb'⟩, ?_⟩
          exact ⟨_, _, _, _, _, _, _, _, _, _, _, _, _, _, _, _, _, _, _, _, _, _, _, _, _, _, _, _, _, _, _, _, _, _, _, _, _, _, _, _, _, _, _, _, _, _, _, _, _, _, rfl⟩
  case pass =>
    rintro n a' wr ⟨x, y, z, ⟨hB, hb'⟩, u3, u4, u5, u6, u8, u9, u10, u11, u12, u13, u14, u15, u16, u17, u18, u19, u20, u21, u22, u23, u24, u25, u26, u27, u28, u29, u30, u31, u32, u33, u34, u35, u36, u37, u38, u39, u40, u41, u42, u43, u44, u45, u46, u47, u48, u49, u50, u51, u52, u53, rfl⟩ J hJ
    have hA := hA.below hB
    have z_r := hB.size
    have hb := hb'.out
    clear hb' hr'
    cases n with
    | zero => exact absurd hb (by simp [bRankL])
    | succ n =>
      unfold bRankL at hb
      by_cases h2 : (s.get x).tag = 1
      · rw [if_pos h2] at hb
        have d1 : ((s.get x).tag == 1) = true := by simpa using h2
        have hU := hA.1.get64 x
        obtain rfl := Option.some.inj hb
        clear hb h2
        go_wp2_with fail
        refine calls_gen fun V1 hV_V1 => ?_
        have n_B : Below w.heap.size w V1 := nB hV_V1
        have n_A : AP V1 ap s O := nA hV_V1
        have z_V1 := Nat.le_of_eq (congrArg (fun v : World => v.heap.size) hV_V1).symm
        try simp only [SZ] at z_V1
        clear hV_V1
        clear hA
        have hA := n_A
        clear n_A
        clear hB
        have hB := n_B
        clear n_B
        refine (bRow_calls _ _ hA).mono ?_
        rintro e_w2 w2 ⟨rfl, hb_w2⟩
        replace hA := hA.below hb_w2
        replace hB := below_step hB hb_w2
        have z_w2 := hb_w2.size
        clear hb_w2
        unfold Nd.val
        go_wp2_with fail
        refine calls_gen fun V2 hV_V2 => ?_
        have n_k0 := congrArg (fun v : World => v.heap[w2.heap.size]?) hV_V2
        simp (maxDischargeDepth := 9) only [BK, not_false_eq_true, reduceCtorEq] at n_k0
        have o_k0 : ¬ O (w2.heap.size) := by first | exact hA.new (Nat.le_refl _) | exact hA.new (by omega)
        have n_B : Below w.heap.size w V2 := nB hV_V2
        have n_A : AP V2 ap s O := nA hV_V2
        have z_V2 := Nat.le_of_eq (congrArg (fun v : World => v.heap.size) hV_V2).symm
        try simp only [SZ] at z_V2
        clear hV_V2
        clear hA
        have hA := n_A
        clear n_A
        clear hB
        have hB := n_B
        clear n_B
        have k0 := n_k0; clear n_k0
        have c_k0 := cells_of k0
        have f_k0 := free_of k0
        have l_k0_V2 := lt_of k0
        refine (bBits_calls (s.get x) _).mono ?_
        rintro e_w3 w3 ⟨rfl, hb_w3⟩
        replace hA := hA.below hb_w3
        replace hB := below_step hB hb_w3
        replace k0 := keep_blk hb_w3 k0
        have c_k0 := cells_of k0
        have f_k0 := free_of k0
        have l_k0_w3 := lt_of k0
        have z_w3 := hb_w3.size
        clear hb_w3
        go_wp2_with fail
        refine (rank_i hU _ _).mono ?_
        rintro e_w4 w4 ⟨rfl, hb_w4⟩
        replace hA := hA.below hb_w4
        replace hB := below_step hB hb_w4
        replace k0 := keep_blk hb_w4 k0
        have c_k0 := cells_of k0
        have f_k0 := free_of k0
        have l_k0_w4 := lt_of k0
        have z_w4 := hb_w4.size
        clear hb_w4
        go_wp2_with fail
        simp only [Exit.jump]
        go_ret
        exact ⟨rfl, by (repeat' first | with_reducible assumption | with_reducible exact Below.refl _ _ | with_reducible refine Below.alloc ?_ ?_ _ | with_reducible refine Below.setCell ?_ ?_ _ | with_reducible refine below_drewN ?_ _ | with_reducible refine Below.drew ?_ | exact Nat.le_refl _ | ((try dsimp only); omega) | (simp only [siz_alloc, siz_set]; omega))⟩
      · rw [if_neg h2] at hb
        have d1 : ((s.get x).tag == 1) = false := by simpa using h2
        clear h2
        by_cases h3 : bLen s (s.get x).k0 < y
        · rw [if_pos h3] at hb
          have d3 : decide (bLen s (s.get x).k0 < y) = true := by simpa using h3
          have hb' := Lib.hid hb; clear hb h3
          go_wp2_with fail
          refine calls_gen fun V1 hV_V1 => ?_
          have n_B : Below w.heap.size w V1 := nB hV_V1
          have n_A : AP V1 ap s O := nA hV_V1
          have z_V1 := Nat.le_of_eq (congrArg (fun v : World => v.heap.size) hV_V1).symm
          try simp only [SZ] at z_V1
          clear hV_V1
          clear hA
          have hA := n_A
          clear n_A
          clear hB
          have hB := n_B
          clear n_B
          refine (bRow_calls _ _ hA).mono ?_
          rintro e_w2 w2 ⟨rfl, hb_w2⟩
          replace hA := hA.below hb_w2
          replace hB := below_step hB hb_w2
          have z_w2 := hb_w2.size
          clear hb_w2
          unfold Nd.val
          go_wp2_with fail
          refine calls_gen fun V2 hV_V2 => ?_
          have n_k0 := congrArg (fun v : World => v.heap[w2.heap.size]?) hV_V2
          simp (maxDischargeDepth := 9) only [BK, not_false_eq_true, reduceCtorEq] at n_k0
          have o_k0 : ¬ O (w2.heap.size) := by first | exact hA.new (Nat.le_refl _) | exact hA.new (by omega)
          have n_B : Below w.heap.size w V2 := nB hV_V2
          have n_A : AP V2 ap s O := nA hV_V2
          have z_V2 := Nat.le_of_eq (congrArg (fun v : World => v.heap.size) hV_V2).symm
          try simp only [SZ] at z_V2
          clear hV_V2
          clear hA
          have hA := n_A
          clear n_A
          clear hB
          have hB := n_B
          clear n_B
          have k0 := n_k0; clear n_k0
          have c_k0 := cells_of k0
          have f_k0 := free_of k0
          have l_k0_V2 := lt_of k0
          refine (bLen_calls _ _ hA).mono ?_
          rintro e_w3 w3 ⟨rfl, hb_w3⟩
          replace hA := hA.below hb_w3
          replace hB := below_step hB hb_w3
          replace k0 := keep_blk hb_w3 k0
          have c_k0 := cells_of k0
          have f_k0 := free_of k0
          have l_k0_w3 := lt_of k0
          have z_w3 := hb_w3.size
          clear hb_w3
          go_wp2_with fail
          refine (bOnes_calls _ _ hA).mono ?_
          rintro e_w4 w4 ⟨rfl, hb_w4⟩
          replace hA := hA.below hb_w4
          replace hB := below_step hB hb_w4
          replace k0 := keep_blk hb_w4 k0
          have c_k0 := cells_of k0
          have f_k0 := free_of k0
          have l_k0_w4 := lt_of k0
          have z_w4 := hb_w4.size
          clear hb_w4
          go_wp2_with fail
          go_step3
          refine ⟨rfl, hJ _ _ ⟨n, by omega, _, _, _, ⟨by (repeat' first | with_reducible assumption | with_reducible exact Below.refl _ _ | with_reducible refine Below.alloc ?_ ?_ _ | with_reducible refine Below.setCell ?_ ?_ _ | with_reducible refine below_drewN ?_ _ | with_reducible refine Below.drew ?_ | exact Nat.le_refl _ | ((try dsimp only); omega) | (simp only [siz_alloc, siz_set]; omega)), hb'⟩, ?_⟩⟩
          exact ⟨_, _, _, _, _, _, _, _, _, _, _, _, _, _, _, _, _, _, _, _, _, _, _, _, _, _, _, _, _, _, _, _, _, _, _, _, _, _, _, _, _, _, _, _, _, _, _, _, _, _, rfl⟩
        · rw [if_neg h3] at hb
          have d3 : decide (bLen s (s.get x).k0 < y) = false := by simpa using h3
          have hb' := Lib.hid hb; clear hb h3
          go_wp2_with fail
          refine calls_gen fun V1 hV_V1 => ?_
          have n_B : Below w.heap.size w V1 := nB hV_V1
          have n_A : AP V1 ap s O := nA hV_V1
          have z_V1 := Nat.le_of_eq (congrArg (fun v : World => v.heap.size) hV_V1).symm
          try simp only [SZ] at z_V1
          clear hV_V1
          clear hA
          have hA := n_A
          clear n_A
          clear hB
          have hB := n_B
          clear n_B
          refine (bRow_calls _ _ hA).mono ?_
          rintro e_w2 w2 ⟨rfl, hb_w2⟩
          replace hA := hA.below hb_w2
          replace hB := below_step hB hb_w2
          have z_w2 := hb_w2.size
          clear hb_w2
          unfold Nd.val
          go_wp2_with fail
          refine calls_gen fun V2 hV_V2 => ?_
          have n_k0 := congrArg (fun v : World => v.heap[w2.heap.size]?) hV_V2
          simp (maxDischargeDepth := 9) only [BK, not_false_eq_true, reduceCtorEq] at n_k0
          have o_k0 : ¬ O (w2.heap.size) := by first | exact hA.new (Nat.le_refl _) | exact hA.new (by omega)
          have n_B : Below w.heap.size w V2 := nB hV_V2
          have n_A : AP V2 ap s O := nA hV_V2
          have z_V2 := Nat.le_of_eq (congrArg (fun v : World => v.heap.size) hV_V2).symm
          try simp only [SZ] at z_V2
          clear hV_V2
          clear hA
          have hA := n_A
          clear n_A
          clear hB
          have hB := n_B
          clear n_B
          have k0 := n_k0; clear n_k0
          have c_k0 := cells_of k0
          have f_k0 := free_of k0
          have l_k0_V2 := lt_of k0
          refine (bLen_calls _ _ hA).mono ?_
          rintro e_w3 w3 ⟨rfl, hb_w3⟩
          replace hA := hA.below hb_w3
          replace hB := below_step hB hb_w3
          replace k0 := keep_blk hb_w3 k0
          have c_k0 := cells_of k0
          have f_k0 := free_of k0
          have l_k0_w3 := lt_of k0
          have z_w3 := hb_w3.size
          clear hb_w3
          go_wp2_with fail
          go_step3
          refine ⟨rfl, hJ _ _ ⟨n, by omega, _, _, _, ⟨by (repeat' first | with_reducible assumption | with_reducible exact Below.refl _ _ | with_reducible refine Below.alloc ?_ ?_ _ | with_reducible refine Below.setCell ?_ ?_ _ | with_reducible refine below_drewN ?_ _ | with_reducible refine Below.drew ?_ | exact Nat.le_refl _ | ((try dsimp only); omega) | (simp only [siz_alloc, siz_set]; omega)), hb'⟩, ?_⟩⟩
          exact ⟨_, _, _, _, _, _, _, _, _, _, _, _, _, _, _, _, _, _, _, _, _, _, _, _, _, _, _, _, _, _, _, _, _, _, _, _, _, _, _, _, _, _, _, _, _, _, _, _, _, _, rfl⟩
end Go.Proofs.Ytkgabbenmoocgaa
