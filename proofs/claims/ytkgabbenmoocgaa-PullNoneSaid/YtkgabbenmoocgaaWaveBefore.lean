/- Rows of symbols in an arena: how many are less than a symbol. -/
import Derived.Test.YtkgabbenmoocgaaWave
import Derived.Test.YtkgabbenmoocgaaSym
namespace Go.Proofs.Ytkgabbenmoocgaa
set_option linter.unusedSimpArgs false
set_option linter.unusedVariables false
set_option linter.unnecessarySimpa false
open Go.RowKit
attribute [local go_sem ↓] Go.wp_at_zero Go.wp_at_succ
attribute [local go_sem] lt_s2 lt_s3 lt_s4
variable {ap : Value} {s : Ar} {O : Nat → Prop}
set_option maxRecDepth 100000 in
set_option maxHeartbeats 4000000 in
theorem wBefore_calls (h c r : Int) (hr : wBefore s h c = some r) (w : World) (hA : AP w ap s O) :
    Calls Try.prog 72 #[ap, .int .i64 h, .int .i64 c] w fun e w' => e = .returned (.int .i64 r) ∧ Below w.heap.size w w' := by
  unfold wBefore at hr
  by_cases h1 : c < 0
  · have d1 : decide (c < 0) = true := by simpa using h1
    rw [if_pos h1] at hr
    cases hr
    clear h1
    go_enter Try.func72, Try.ntmps72
    go_wp2_with fail
    go_step3
    go_wp2_with fail
    simp only [Exit.noGoto_ret]
    go_ret
    exact ⟨rfl, by (repeat' first | with_reducible assumption | with_reducible exact Below.refl _ _ | with_reducible refine Below.alloc ?_ ?_ _ | with_reducible refine Below.setCell ?_ ?_ _ | with_reducible refine below_drewN ?_ _ | with_reducible refine Below.drew ?_ | exact Nat.le_refl _ | ((try dsimp only); omega) | (simp only [siz_alloc, siz_set]; omega))⟩
  · have d1 : decide (c < 0) = false := by simpa using h1
    rw [if_neg h1] at hr
    by_cases h2 : 257 ≤ c
    · have d2 : decide (257 ≤ c) = true := by simpa using h2
      rw [if_pos h2] at hr
      cases hr
      clear h1 h2
      go_enter Try.func72, Try.ntmps72
      go_wp2_with fail
      go_step3
      go_wp2_with fail
      refine calls_gen fun V hV_V => ?_
      have n_B : Below w.heap.size w V := nB hV_V
      have n_A : AP V ap s O := nA hV_V
      have z_V := Nat.le_of_eq (congrArg (fun v : World => v.heap.size) hV_V).symm
      try simp only [SZ] at z_V
      clear hV_V
      clear hA
      have hA := n_A
      clear n_A
      skip
      have hB := n_B
      clear n_B
      refine (wLen_calls _ _ hA).mono ?_
      rintro e_w1 w1 ⟨rfl, hb_w1⟩
      replace hA := hA.below hb_w1
      replace hB := below_step hB hb_w1
      have z_w1 := hb_w1.size
      clear hb_w1
      go_wp2_with fail
      simp only [Exit.noGoto_ret]
      go_ret
      exact ⟨rfl, by (repeat' first | with_reducible assumption | with_reducible exact Below.refl _ _ | with_reducible refine Below.alloc ?_ ?_ _ | with_reducible refine Below.setCell ?_ ?_ _ | with_reducible refine below_drewN ?_ _ | with_reducible refine Below.drew ?_ | exact Nat.le_refl _ | ((try dsimp only); omega) | (simp only [siz_alloc, siz_set]; omega))⟩
    · have d2 : decide (257 ≤ c) = false := by simpa using h2
      rw [if_neg h2] at hr
      have hb' := Lib.hid hr; clear hr h1 h2
      go_enter Try.func72, Try.ntmps72
      go_wp2_with fail
      refine wp_scope_ghost 0 (fun n a' wr => ∃ x z l, (Below w.heap.size w wr ∧ 1 ≤ n ∧ n ≤ 9 ∧ l = 9 - (n : Int) ∧ Hid (wBeforeL n s x c z = some r)) ∧ ∃ u3 u4 u5 u6 u9 u10 u11 u12 u13 u14 u15 u16 u17 u18 u19 u20 u21 u22 u23 u24 u25 u26 u27 u28 u29 u30 u31 u32 u33 u34 u35 u36 u37 u38 u39 u40 u41 u42 u43 u44 u45 u46 u47 u48 u49 u50 : Value, a' = { tmps := #[(ap : Value), (.int .i64 x : Value), (.int .i64 c : Value), u3, u4, u5, u6, (.int .i64 z : Value), (.int .i64 l : Value), u9, u10, u11, u12, u13, u14, u15, u16, u17, u18, u19, u20, u21, u22, u23, u24, u25, u26, u27, u28, u29, u30, u31, u32, u33, u34, u35, u36, u37, u38, u39, u40, u41, u42, u43, u44, u45, u46, u47, u48, u49, u50], defers := [] }) (by rfl) ?first ?pass
      case first =>
        intro hrest
        go_wp2_with fail
        go_step3
        go_step
        go_step
        refine hrest 9 _ _ ⟨h, 0, 0, ⟨Below.refl _ _, by omega, by omega, by omega, hb'⟩, ?_⟩
        exact ⟨_, _, _, _, _, _, _, _, _, _, _, _, _, _, _, _, _, _, _, _, _, _, _, _, _, _, _, _, _, _, _, _, _, _, _, _, _, _, _, _, _, _, _, _, _, _, rfl⟩
      case pass =>
        rintro n a' wr ⟨x, z, l, ⟨hB, hn1, hn2, hl, hb'⟩, u3, u4, u5, u6, u9, u10, u11, u12, u13, u14, u15, u16, u17, u18, u19, u20, u21, u22, u23, u24, u25, u26, u27, u28, u29, u30, u31, u32, u33, u34, u35, u36, u37, u38, u39, u40, u41, u42, u43, u44, u45, u46, u47, u48, u49, u50, rfl⟩ J hJ
        have hA := hA.below hB
        have z_r := hB.size
        have hb := hb'.out
        clear hb'
        obtain ⟨n, rfl⟩ : ∃ m, n = m + 1 := ⟨n - 1, by omega⟩
        unfold wBeforeL at hb
        have e8 : (8 - (n : Int)) = l := by omega
        rw [e8] at hb
        have hl' : l + 1 = 9 - (n : Int) := by omega
        have hl1 : 0 ≤ l := by omega
        have hl2 : l ≤ 9 := by omega
        have Hl := Lib.hid hl'
        clear hl' hl e8
        cases ho : symBit c l with
        | true =>
          rw [ho, if_pos rfl] at hb
          obtain ⟨j, hj, hb⟩ := Option.bind_eq_some_iff.1 hb
          have Hj := Lib.hid hj; clear hj
          have Hb := Lib.hid hb; clear hb
          have Ho := Lib.hid ho; clear ho
          by_cases hn : 1 ≤ n
          all_goals
            first
            | have d3 : decide (l + 1 < 9) = true := by have := Hl.out; simp; omega
            | have d3 : decide (l + 1 < 9) = false := by have := Hl.out; simp; omega
            go_wp2_with fail
            refine calls_gen fun V1 hV_V1 => ?_
            have n_B : Below w.heap.size w V1 := nB hV_V1
            have n_A : AP V1 ap s O := nA hV_V1
            have z_V1 := Nat.le_of_eq (congrArg (fun v : World => v.heap.size) hV_V1).symm
            try simp only [SZ] at z_V1
            clear hV_V1
            clear hA
            have hA := n_A
            clear n_A
            clear hB
            have hB := n_B
            clear n_B
            refine (wRow_calls _ _ hA).mono ?_
            rintro e_w2 w2 ⟨rfl, hb_w2⟩
            replace hA := hA.below hb_w2
            replace hB := below_step hB hb_w2
            have z_w2 := hb_w2.size
            clear hb_w2
            unfold Nd.val
            go_wp2_with fail
            refine calls_gen fun V2 hV_V2 => ?_
            have n_k0 := congrArg (fun v : World => v.heap[w2.heap.size]?) hV_V2
            simp (maxDischargeDepth := 9) only [BK, not_false_eq_true, reduceCtorEq] at n_k0
            have o_k0 : ¬ O (w2.heap.size) := by first | exact hA.new (Nat.le_refl _) | exact hA.new (by omega)
            have n_B : Below w.heap.size w V2 := nB hV_V2
            have n_A : AP V2 ap s O := nA hV_V2
            have z_V2 := Nat.le_of_eq (congrArg (fun v : World => v.heap.size) hV_V2).symm
            try simp only [SZ] at z_V2
            clear hV_V2
            clear hA
            have hA := n_A
            clear n_A
            clear hB
            have hB := n_B
            clear n_B
            have k0 := n_k0; clear n_k0
            have c_k0 := cells_of k0
            have f_k0 := free_of k0
            have l_k0_V2 := lt_of k0
            refine (symBit_calls _ _ _).mono ?_
            rintro e_q w_q ⟨rfl, rfl⟩
            rw [Ho.out]
            go_wp2_with fail
            refine wp_gen fun V3 hV_V3 => ?_
            have n_k0 := congrArg (fun v : World => v.heap[w2.heap.size]?) hV_V3
            simp (maxDischargeDepth := 9) only [BK, not_false_eq_true, reduceCtorEq, k0, l_k0_V2] at n_k0
            have n_B : Below w.heap.size w V3 := nB hV_V3
            have n_A : AP V3 ap s O := nA hV_V3
            have z_V3 := Nat.le_of_eq (congrArg (fun v : World => v.heap.size) hV_V3).symm
            try simp only [SZ] at z_V3
            clear k0 c_k0 f_k0
            clear hV_V3
            clear hA
            have hA := n_A
            clear n_A
            clear hB
            have hB := n_B
            clear n_B
            have k0 := n_k0; clear n_k0
            have c_k0 := cells_of k0
            have f_k0 := free_of k0
            have l_k0_V3 := lt_of k0
            refine wp_region_noPanic ?_
            refine wp_region_held_drew (S := fun v => (∀ o, v.cell? ⟨w2.heap.size, o, none⟩ = V3.cell? ⟨w2.heap.size, o, none⟩) ∧ (V3.heap.size ≤ v.heap.size) ∧ AP v ap s O) (by kernel_rfl) ⟨(fun _ => rfl), (Nat.le_refl _), hA.drew⟩ (fun hHeld => ?_)
            generalize hV_V3d : V3.drew = V3d at hHeld ⊢
            have n_k0 : V3d.heap[w2.heap.size]? = V3.heap[w2.heap.size]? := by rw [← hV_V3d]; rfl
            have d_k0 := n_k0.trans k0
            clear n_k0 c_k0 f_k0
            have n_A : AP V3d ap s O := by rw [← hV_V3d]; exact hA.drew
            clear hA; have hA := n_A; clear n_A
            have n_B : Below w.heap.size w V3d := by rw [← hV_V3d]; exact hB.drew
            clear hB; have hB := n_B; clear n_B
            have z_V3d : V3.heap.size ≤ V3d.heap.size := by rw [← hV_V3d]; exact Nat.le_refl _
            have v_k0 := cells_of k0
            clear k0; have k0 := d_k0; clear d_k0
            have c_k0 := cells_of k0
            have f_k0 := free_of k0
            have l_k0_V3d := lt_of k0
            clear hV_V3d
            refine ty (i := 0) (v := ?_) rfl hHeld ?_ ?_
            rotate_left
            focus (intro w hSw; go_simp; (try simp only [IntWalk.i64_left]); try (with_reducible rfl))
            try simp only [PT]
            refine ty (i := 1) (v := ?_) rfl hHeld ?_ ?_
            rotate_left
            focus (intro w hSw; go_simp; (try simp only [IntWalk.i64_left]); try (with_reducible rfl))
            try simp only [PT]
            refine ty (i := 2) (v := ?_) rfl hHeld ?_ ?_
            rotate_left
            focus (intro w hSw; go_simp; (try simp only [IntWalk.i64_left]); try (with_reducible rfl))
            try simp only [PT]
            refine ty (i := 3) (v := ?_) rfl hHeld ?_ ?_
            rotate_left
            focus (intro w hSw; go_simp; (try simp only [IntWalk.i64_left]); try (with_reducible rfl))
            try simp only [PT]
            refine ty (i := 4) (v := ?_) rfl hHeld ?_ ?_
            rotate_left
            focus (intro w hSw; go_simp; (try simp only [IntWalk.i64_left]); try (with_reducible rfl))
            try simp only [PT]
            refine ty (i := 5) (v := ?_) rfl hHeld ?_ ?_
            rotate_left
            focus (intro w hSw; go_simp; (try simp only [IntWalk.i64_left]); try (with_reducible rfl))
            try simp only [PT]
            refine ty (i := 6) (v := ?_) rfl hHeld ?_ ?_
            rotate_left
            focus (intro w hSw; go_simp; (try simp only [IntWalk.i64_left]); try (with_reducible rfl))
            try simp only [PT]
            refine ty (i := 7) (v := ?_) rfl hHeld ?_ ?_
            rotate_left
            focus (intro w hSw; go_simp; (try simp only [IntWalk.i64_left]); try (with_reducible rfl))
            try simp only [PT]
            refine ty (i := 8) (v := ?_) rfl hHeld ?_ ?_
            rotate_left
            focus (intro w hSw; go_simp; (try simp only [IntWalk.i64_left]); try (with_reducible rfl))
            try simp only [PT]
            refine wpAnyH_ready (rs := [9]) (by kernel_rfl) (by simp) ?_
            refine ready_at rfl (fun K hK => ?_) AllReadyH.nil
            go_simp
            try simp only [IntWalk.i64_left]
            refine (bLen_calls _ _ hA).mono ?_
            rintro e_w3 w3 ⟨rfl, hb_w3⟩
            replace hA := hA.below hb_w3
            replace hB := below_step hB hb_w3
            replace k0 := keep_blk hb_w3 k0
            have c_k0 := cells_of k0
            have f_k0 := free_of k0
            have l_k0_w3 := lt_of k0
            have z_w3 := hb_w3.size
            clear hb_w3
            refine hK.out _ _ ⟨(fun o => (c_k0 o).trans (v_k0 o).symm), (by omega), hA⟩ (fun hHeld => ?_)
            clear hK K
            try simp only [PT]
            refine wpAnyH_ready (rs := [10]) (by kernel_rfl) (by simp) ?_
            refine ready_at rfl (fun K hK => ?_) AllReadyH.nil
            go_simp
            try simp only [IntWalk.i64_left]
            refine (wAlike_calls _ _ _ _ Hj.out _ hA).mono ?_
            rintro e_w4 w4 ⟨rfl, hb_w4⟩
            replace hA := hA.below hb_w4
            replace hB := below_step hB hb_w4
            replace k0 := keep_blk hb_w4 k0
            have c_k0 := cells_of k0
            have f_k0 := free_of k0
            have l_k0_w4 := lt_of k0
            have z_w4 := hb_w4.size
            clear hb_w4
            refine hK.out _ _ ⟨(fun o => (c_k0 o).trans (v_k0 o).symm), (by omega), hA⟩ (fun hHeld => ?_)
            clear hK K
            try simp only [PT]
            refine ty (i := 11) (v := ?_) rfl hHeld ?_ ?_
            rotate_left
            focus (intro w hSw; go_simp; (try simp only [IntWalk.i64_left]); try (with_reducible rfl))
            try simp only [PT]
            refine wpAnyH_ready (rs := [12]) (by kernel_rfl) (by simp) ?_
            refine ready_at rfl (fun K hK => ?_) AllReadyH.nil
            go_simp
            refine hK.out _ _ hHeld (fun hHeld => ?_)
            clear hK K
            try simp only [PT]
            refine wpAnyH_done (by kernel_rfl) ?_ _
            refine NoPanic.normal ?_
            go_wp2_with fail
            refine calls_gen fun V4 hV_V4 => ?_
            have n_k0 := congrArg (fun v : World => v.heap[w2.heap.size]?) hV_V4
            simp (maxDischargeDepth := 9) only [BK, not_false_eq_true, reduceCtorEq, k0, l_k0_V2, l_k0_V3, l_k0_V3d, l_k0_w3, l_k0_w4] at n_k0
            have n_B : Below w.heap.size w V4 := nB hV_V4
            have n_A : AP V4 ap s O := nA hV_V4
            have z_V4 := Nat.le_of_eq (congrArg (fun v : World => v.heap.size) hV_V4).symm
            try simp only [SZ] at z_V4
            clear k0 c_k0 f_k0
            clear hV_V4
            clear hA
            have hA := n_A
            clear n_A
            clear hB
            have hB := n_B
            clear n_B
            have k0 := n_k0; clear n_k0
            have c_k0 := cells_of k0
            have f_k0 := free_of k0
            have l_k0_V4 := lt_of k0
            refine (wKid_calls (s.get x) _ _).mono ?_
            rintro e_w5 w5 ⟨rfl, hb_w5⟩
            replace hA := hA.below hb_w5
            replace hB := below_step hB hb_w5
            replace k0 := keep_blk hb_w5 k0
            have c_k0 := cells_of k0
            have f_k0 := free_of k0
            have l_k0_w5 := lt_of k0
            have z_w5 := hb_w5.size
            clear hb_w5
            go_wp2_with fail
            first
            | (go_step3; refine ⟨rfl, hJ _ _ ⟨n, by omega, _, _, _, ⟨by (repeat' first | with_reducible assumption | with_reducible exact Below.refl _ _ | with_reducible refine Below.alloc ?_ ?_ _ | with_reducible refine Below.setCell ?_ ?_ _ | with_reducible refine below_drewN ?_ _ | with_reducible refine Below.drew ?_ | exact Nat.le_refl _ | ((try dsimp only); omega) | (simp only [siz_alloc, siz_set]; omega)), hn, by omega, Hl.out, Hb⟩, ?_⟩⟩; exact ⟨_, _, _, _, _, _, _, _, _, _, _, _, _, _, _, _, _, _, _, _, _, _, _, _, _, _, _, _, _, _, _, _, _, _, _, _, _, _, _, _, _, _, _, _, _, _, rfl⟩)
            | (simp only [Exit.jump]; go_ret; obtain rfl : n = 0 := (by omega); exact ⟨by first | (rw [← Option.some.inj Hb.out]; done) | (rw [← Option.some.inj Hb.out]; rfl) | (have e := Option.some.inj Hb.out; subst e; rfl), by (repeat' first | with_reducible assumption | with_reducible exact Below.refl _ _ | with_reducible refine Below.alloc ?_ ?_ _ | with_reducible refine Below.setCell ?_ ?_ _ | with_reducible refine below_drewN ?_ _ | with_reducible refine Below.drew ?_ | exact Nat.le_refl _ | ((try dsimp only); omega) | (simp only [siz_alloc, siz_set]; omega))⟩)
        | false =>
          rw [ho, if_neg (by decide)] at hb
          have Hb := Lib.hid hb; clear hb
          have Ho := Lib.hid ho; clear ho
          by_cases hn : 1 ≤ n
          all_goals
            first
            | have d3 : decide (l + 1 < 9) = true := by have := Hl.out; simp; omega
            | have d3 : decide (l + 1 < 9) = false := by have := Hl.out; simp; omega
            go_wp2_with fail
            refine calls_gen fun V1 hV_V1 => ?_
            have n_B : Below w.heap.size w V1 := nB hV_V1
            have n_A : AP V1 ap s O := nA hV_V1
            have z_V1 := Nat.le_of_eq (congrArg (fun v : World => v.heap.size) hV_V1).symm
            try simp only [SZ] at z_V1
            clear hV_V1
            clear hA
            have hA := n_A
            clear n_A
            clear hB
            have hB := n_B
            clear n_B
            refine (wRow_calls _ _ hA).mono ?_
            rintro e_w2 w2 ⟨rfl, hb_w2⟩
            replace hA := hA.below hb_w2
            replace hB := below_step hB hb_w2
            have z_w2 := hb_w2.size
            clear hb_w2
            unfold Nd.val
            go_wp2_with fail
            refine calls_gen fun V2 hV_V2 => ?_
            have n_k0 := congrArg (fun v : World => v.heap[w2.heap.size]?) hV_V2
            simp (maxDischargeDepth := 9) only [BK, not_false_eq_true, reduceCtorEq] at n_k0
            have o_k0 : ¬ O (w2.heap.size) := by first | exact hA.new (Nat.le_refl _) | exact hA.new (by omega)
            have n_B : Below w.heap.size w V2 := nB hV_V2
            have n_A : AP V2 ap s O := nA hV_V2
            have z_V2 := Nat.le_of_eq (congrArg (fun v : World => v.heap.size) hV_V2).symm
            try simp only [SZ] at z_V2
            clear hV_V2
            clear hA
            have hA := n_A
            clear n_A
            clear hB
            have hB := n_B
            clear n_B
            have k0 := n_k0; clear n_k0
            have c_k0 := cells_of k0
            have f_k0 := free_of k0
            have l_k0_V2 := lt_of k0
            refine (symBit_calls _ _ _).mono ?_
            rintro e_q w_q ⟨rfl, rfl⟩
            rw [Ho.out]
            go_wp2_with fail
            refine calls_gen fun V4 hV_V4 => ?_
            have n_k0 := congrArg (fun v : World => v.heap[w2.heap.size]?) hV_V4
            simp (maxDischargeDepth := 9) only [BK, not_false_eq_true, reduceCtorEq, k0, l_k0_V2] at n_k0
            have n_B : Below w.heap.size w V4 := nB hV_V4
            have n_A : AP V4 ap s O := nA hV_V4
            have z_V4 := Nat.le_of_eq (congrArg (fun v : World => v.heap.size) hV_V4).symm
            try simp only [SZ] at z_V4
            clear k0 c_k0 f_k0
            clear hV_V4
            clear hA
            have hA := n_A
            clear n_A
            clear hB
            have hB := n_B
            clear n_B
            have k0 := n_k0; clear n_k0
            have c_k0 := cells_of k0
            have f_k0 := free_of k0
            have l_k0_V4 := lt_of k0
            refine (wKid_calls (s.get x) _ _).mono ?_
            rintro e_w5 w5 ⟨rfl, hb_w5⟩
            replace hA := hA.below hb_w5
            replace hB := below_step hB hb_w5
            replace k0 := keep_blk hb_w5 k0
            have c_k0 := cells_of k0
            have f_k0 := free_of k0
            have l_k0_w5 := lt_of k0
            have z_w5 := hb_w5.size
            clear hb_w5
            go_wp2_with fail
            first
            | (go_step3; refine ⟨rfl, hJ _ _ ⟨n, by omega, _, _, _, ⟨by (repeat' first | with_reducible assumption | with_reducible exact Below.refl _ _ | with_reducible refine Below.alloc ?_ ?_ _ | with_reducible refine Below.setCell ?_ ?_ _ | with_reducible refine below_drewN ?_ _ | with_reducible refine Below.drew ?_ | exact Nat.le_refl _ | ((try dsimp only); omega) | (simp only [siz_alloc, siz_set]; omega)), hn, by omega, Hl.out, Hb⟩, ?_⟩⟩; exact ⟨_, _, _, _, _, _, _, _, _, _, _, _, _, _, _, _, _, _, _, _, _, _, _, _, _, _, _, _, _, _, _, _, _, _, _, _, _, _, _, _, _, _, _, _, _, _, rfl⟩)
            | (simp only [Exit.jump]; go_ret; obtain rfl : n = 0 := (by omega); exact ⟨by first | (rw [← Option.some.inj Hb.out]; done) | (rw [← Option.some.inj Hb.out]; rfl) | (have e := Option.some.inj Hb.out; subst e; rfl), by (repeat' first | with_reducible assumption | with_reducible exact Below.refl _ _ | with_reducible refine Below.alloc ?_ ?_ _ | with_reducible refine Below.setCell ?_ ?_ _ | with_reducible refine below_drewN ?_ _ | with_reducible refine Below.drew ?_ | exact Nat.le_refl _ | ((try dsimp only); omega) | (simp only [siz_alloc, siz_set]; omega))⟩)
end Go.Proofs.Ytkgabbenmoocgaa
