/- Rows of bits in an arena: the ways that only read. -/
import Derived.Test.YtkgabbenmoocgaaRowFns
import Derived.Test.YtkgabbenmoocgaaLf
namespace Go.Proofs.Ytkgabbenmoocgaa
set_option linter.unusedSimpArgs false
set_option linter.unusedVariables false
set_option linter.unnecessarySimpa false
open Go.RowKit
attribute [local go_sem ↓] Go.wp_at_zero Go.wp_at_succ
attribute [local go_sem] lt_s2 lt_s3 lt_s4
variable {ap : Value} {s : Ar} {O : Nat → Prop}
set_option maxRecDepth 100000 in
set_option maxHeartbeats 800000 in
theorem bLen_calls (h : Int) (w : World) (hA : AP w ap s O) :
    Calls Try.prog 52 #[ap, .int .i64 h] w fun e w' => e = .returned (.int .i64 (bLen s h)) ∧ Below w.heap.size w w' := by
  unfold bLen
  cases h1 : bIs s h with
  | false =>
    go_enter Try.func52, Try.ntmps52
    go_wp2_with fail
    refine calls_gen fun V hV_V => ?_
    have n_B : Below w.heap.size w V := nB hV_V
    have n_A : AP V ap s O := nA hV_V
    have z_V := Nat.le_of_eq (congrArg (fun v : World => v.heap.size) hV_V).symm
    try simp only [SZ] at z_V
    clear hV_V
    clear hA
    have hA := n_A
    clear n_A
    skip
    have hB := n_B
    clear n_B
    refine (bRow_calls _ _ hA).mono ?_
    rintro e_w1 w1 ⟨rfl, hb_w1⟩
    replace hA := hA.below hb_w1
    replace hB := below_step hB hb_w1
    have z_w1 := hb_w1.size
    clear hb_w1
    unfold Nd.val
    go_wp2_with fail
    go_ret
    exact ⟨rfl, by (repeat' first | with_reducible assumption | with_reducible exact Below.refl _ _ | with_reducible refine Below.alloc ?_ ?_ _ | with_reducible refine Below.setCell ?_ ?_ _ | with_reducible refine below_drewN ?_ _ | with_reducible refine Below.drew ?_ | exact Nat.le_refl _ | ((try dsimp only); omega) | (simp only [siz_alloc, siz_set]; omega))⟩
  | true =>
    rw [if_pos rfl]
    by_cases h2 : (s.get h).tag = 1
    · have d1 : ((s.get h).tag == 1) = true := by simpa using h2
      rw [if_pos h2]
      clear h2
      go_enter Try.func52, Try.ntmps52
      go_wp2_with fail
      refine calls_gen fun V hV_V => ?_
      have n_B : Below w.heap.size w V := nB hV_V
      have n_A : AP V ap s O := nA hV_V
      have z_V := Nat.le_of_eq (congrArg (fun v : World => v.heap.size) hV_V).symm
      try simp only [SZ] at z_V
      clear hV_V
      clear hA
      have hA := n_A
      clear n_A
      skip
      have hB := n_B
      clear n_B
      refine (bRow_calls _ _ hA).mono ?_
      rintro e_w1 w1 ⟨rfl, hb_w1⟩
      replace hA := hA.below hb_w1
      replace hB := below_step hB hb_w1
      have z_w1 := hb_w1.size
      clear hb_w1
      unfold Nd.val
      go_wp2_with fail
      go_ret
      exact ⟨rfl, by (repeat' first | with_reducible assumption | with_reducible exact Below.refl _ _ | with_reducible refine Below.alloc ?_ ?_ _ | with_reducible refine Below.setCell ?_ ?_ _ | with_reducible refine below_drewN ?_ _ | with_reducible refine Below.drew ?_ | exact Nat.le_refl _ | ((try dsimp only); omega) | (simp only [siz_alloc, siz_set]; omega))⟩
    · have d1 : ((s.get h).tag == 1) = false := by simpa using h2
      rw [if_neg h2]
      clear h2
      go_enter Try.func52, Try.ntmps52
      go_wp2_with fail
      refine calls_gen fun V hV_V => ?_
      have n_B : Below w.heap.size w V := nB hV_V
      have n_A : AP V ap s O := nA hV_V
      have z_V := Nat.le_of_eq (congrArg (fun v : World => v.heap.size) hV_V).symm
      try simp only [SZ] at z_V
      clear hV_V
      clear hA
      have hA := n_A
      clear n_A
      skip
      have hB := n_B
      clear n_B
      refine (bRow_calls _ _ hA).mono ?_
      rintro e_w1 w1 ⟨rfl, hb_w1⟩
      replace hA := hA.below hb_w1
      replace hB := below_step hB hb_w1
      have z_w1 := hb_w1.size
      clear hb_w1
      unfold Nd.val
      go_wp2_with fail
      go_ret
      exact ⟨rfl, by (repeat' first | with_reducible assumption | with_reducible exact Below.refl _ _ | with_reducible refine Below.alloc ?_ ?_ _ | with_reducible refine Below.setCell ?_ ?_ _ | with_reducible refine below_drewN ?_ _ | with_reducible refine Below.drew ?_ | exact Nat.le_refl _ | ((try dsimp only); omega) | (simp only [siz_alloc, siz_set]; omega))⟩
set_option maxHeartbeats 800000 in
theorem bBits_calls (n : Nd) (w : World) :
    Calls Try.prog 81 #[n.val] w fun e w' => e = .returned (.agg #[.int .u64 n.a, .int .i64 (wrap64 n.b)]) ∧ Below w.heap.size w w' := by
  unfold Nd.val
  go_enter Try.func81, Try.ntmps81
  go_wp2_with fail
  refine bodyPost_ret (v := .agg #[.int .u64 n.a, .int .i64 (wrap64 n.b)]) (by simp [results, Try.results81, go_sem, *]) rfl ⟨rfl, ?_⟩
  (repeat' first | with_reducible assumption | with_reducible exact Below.refl _ _ | with_reducible refine Below.alloc ?_ ?_ _ | with_reducible refine Below.setCell ?_ ?_ _ | with_reducible refine below_drewN ?_ _ | with_reducible refine Below.drew ?_ | exact Nat.le_refl _ | ((try dsimp only); omega) | (simp only [siz_alloc, siz_set]; omega))
set_option maxRecDepth 100000 in
set_option maxHeartbeats 800000 in
theorem bOnes_calls (h : Int) (w : World) (hA : AP w ap s O) :
    Calls Try.prog 106 #[ap, .int .i64 h] w fun e w' => e = .returned (.int .i64 (bOnes s h)) ∧ Below w.heap.size w w' := by
  unfold bOnes
  cases h1 : bIs s h with
  | false =>
    go_enter Try.func106, Try.ntmps106
    go_wp2_with fail
    refine calls_gen fun V hV_V => ?_
    have n_B : Below w.heap.size w V := nB hV_V
    have n_A : AP V ap s O := nA hV_V
    have z_V := Nat.le_of_eq (congrArg (fun v : World => v.heap.size) hV_V).symm
    try simp only [SZ] at z_V
    clear hV_V
    clear hA
    have hA := n_A
    clear n_A
    skip
    have hB := n_B
    clear n_B
    refine (bRow_calls _ _ hA).mono ?_
    rintro e_w1 w1 ⟨rfl, hb_w1⟩
    replace hA := hA.below hb_w1
    replace hB := below_step hB hb_w1
    have z_w1 := hb_w1.size
    clear hb_w1
    unfold Nd.val
    go_wp2_with fail
    go_ret
    exact ⟨rfl, by (repeat' first | with_reducible assumption | with_reducible exact Below.refl _ _ | with_reducible refine Below.alloc ?_ ?_ _ | with_reducible refine Below.setCell ?_ ?_ _ | with_reducible refine below_drewN ?_ _ | with_reducible refine Below.drew ?_ | exact Nat.le_refl _ | ((try dsimp only); omega) | (simp only [siz_alloc, siz_set]; omega))⟩
  | true =>
    rw [if_pos rfl]
    by_cases h2 : (s.get h).tag = 1
    · have d1 : ((s.get h).tag == 1) = true := by simpa using h2
      have hU := hA.1.get64 h
      rw [if_pos h2]
      clear h2
      go_enter Try.func106, Try.ntmps106
      go_wp2_with fail
      refine calls_gen fun V hV_V => ?_
      have n_B : Below w.heap.size w V := nB hV_V
      have n_A : AP V ap s O := nA hV_V
      have z_V := Nat.le_of_eq (congrArg (fun v : World => v.heap.size) hV_V).symm
      try simp only [SZ] at z_V
      clear hV_V
      clear hA
      have hA := n_A
      clear n_A
      skip
      have hB := n_B
      clear n_B
      refine (bRow_calls _ _ hA).mono ?_
      rintro e_w1 w1 ⟨rfl, hb_w1⟩
      replace hA := hA.below hb_w1
      replace hB := below_step hB hb_w1
      have z_w1 := hb_w1.size
      clear hb_w1
      unfold Nd.val
      go_wp2_with fail
      refine wp_gen fun V1 hV_V1 => ?_
      have n_k0 := congrArg (fun v : World => v.heap[w1.heap.size]?) hV_V1
      simp (maxDischargeDepth := 9) only [BK, not_false_eq_true, reduceCtorEq] at n_k0
      have o_k0 : ¬ O (w1.heap.size) := by first | exact hA.new (Nat.le_refl _) | exact hA.new (by omega)
      have n_B : Below w.heap.size w V1 := nB hV_V1
      have n_A : AP V1 ap s O := nA hV_V1
      have z_V1 := Nat.le_of_eq (congrArg (fun v : World => v.heap.size) hV_V1).symm
      try simp only [SZ] at z_V1
      clear hV_V1
      clear hA
      have hA := n_A
      clear n_A
      clear hB
      have hB := n_B
      clear n_B
      have k0 := n_k0; clear n_k0
      have c_k0 := cells_of k0
      have f_k0 := free_of k0
      have l_k0_V1 := lt_of k0
      refine wp_region_noPanic ?_
      refine wp_region_held_drew (S := fun v => (∀ o, v.cell? ⟨w1.heap.size, o, none⟩ = V1.cell? ⟨w1.heap.size, o, none⟩) ∧ (V1.heap.size ≤ v.heap.size) ∧ AP v ap s O) (by kernel_rfl) ⟨(fun _ => rfl), (Nat.le_refl _), hA.drew⟩ (fun hHeld => ?_)
      generalize hV_V1d : V1.drew = V1d at hHeld ⊢
      have n_k0 : V1d.heap[w1.heap.size]? = V1.heap[w1.heap.size]? := by rw [← hV_V1d]; rfl
      have d_k0 := n_k0.trans k0
      clear n_k0 c_k0 f_k0
      have n_A : AP V1d ap s O := by rw [← hV_V1d]; exact hA.drew
      clear hA; have hA := n_A; clear n_A
      have n_B : Below w.heap.size w V1d := by rw [← hV_V1d]; exact hB.drew
      clear hB; have hB := n_B; clear n_B
      have z_V1d : V1.heap.size ≤ V1d.heap.size := by rw [← hV_V1d]; exact Nat.le_refl _
      have v_k0 := cells_of k0
      clear k0; have k0 := d_k0; clear d_k0
      have c_k0 := cells_of k0
      have f_k0 := free_of k0
      have l_k0_V1d := lt_of k0
      clear hV_V1d
      refine ty (i := 0) (v := ?_) rfl hHeld ?_ ?_
      rotate_left
      focus (intro w hSw; go_simp; (try simp only [IntWalk.i64_left]); try (with_reducible rfl))
      try simp only [PT]
      refine ty (i := 2) (v := ?_) rfl hHeld ?_ ?_
      rotate_left
      focus (intro w hSw; go_simp; (try simp only [IntWalk.i64_left]); try (with_reducible rfl))
      try simp only [PT]
      refine ty (i := 3) (v := ?_) rfl hHeld ?_ ?_
      rotate_left
      focus (intro w hSw; go_simp; (try simp only [IntWalk.i64_left]); try (with_reducible rfl))
      try simp only [PT]
      refine ty (i := 4) (v := ?_) rfl hHeld ?_ ?_
      rotate_left
      focus (intro w hSw; go_simp; (try simp only [IntWalk.i64_left]); try (with_reducible rfl))
      try simp only [PT]
      refine wpAnyH_ready (rs := [1]) (by kernel_rfl) (by simp) ?_
      refine ready_at rfl (fun K hK => ?_) AllReadyH.nil
      go_simp
      try simp only [IntWalk.i64_left]
      refine (bBits_calls (s.get h) _).mono ?_
      rintro e_w2 w2 ⟨rfl, hb_w2⟩
      replace hA := hA.below hb_w2
      replace hB := below_step hB hb_w2
      replace k0 := keep_blk hb_w2 k0
      have c_k0 := cells_of k0
      have f_k0 := free_of k0
      have l_k0_w2 := lt_of k0
      have z_w2 := hb_w2.size
      clear hb_w2
      refine hK.out _ _ ⟨(fun o => (c_k0 o).trans (v_k0 o).symm), (by omega), hA⟩ (fun hHeld => ?_)
      clear hK K
      try simp only [PT]
      refine wpAnyH_ready (rs := [5]) (by kernel_rfl) (by simp) ?_
      refine ready_at rfl (fun K hK => ?_) AllReadyH.nil
      go_simp
      try simp only [IntWalk.i64_left]
      refine (rank_i hU _ _).mono ?_
      rintro e_w3 w3 ⟨rfl, hb_w3⟩
      replace hA := hA.below hb_w3
      replace hB := below_step hB hb_w3
      replace k0 := keep_blk hb_w3 k0
      have c_k0 := cells_of k0
      have f_k0 := free_of k0
      have l_k0_w3 := lt_of k0
      have z_w3 := hb_w3.size
      clear hb_w3
      refine hK.out _ _ ⟨(fun o => (c_k0 o).trans (v_k0 o).symm), (by omega), hA⟩ (fun hHeld => ?_)
      clear hK K
      try simp only [PT]
      refine wpAnyH_ready (rs := [6]) (by kernel_rfl) (by simp) ?_
      refine ready_at rfl (fun K hK => ?_) AllReadyH.nil
      go_simp
      refine hK.out _ _ hHeld (fun hHeld => ?_)
      clear hK K
      try simp only [PT]
      refine wpAnyH_done (by kernel_rfl) ?_ _
      refine NoPanic.normal ?_
      go_wp2_with fail
      go_ret
      exact ⟨by simp only [IntWalk.i64_left]; rfl, by (repeat' first | with_reducible assumption | with_reducible exact Below.refl _ _ | with_reducible refine Below.alloc ?_ ?_ _ | with_reducible refine Below.setCell ?_ ?_ _ | with_reducible refine below_drewN ?_ _ | with_reducible refine Below.drew ?_ | exact Nat.le_refl _ | ((try dsimp only); omega) | (simp only [siz_alloc, siz_set]; omega))⟩
    · have d1 : ((s.get h).tag == 1) = false := by simpa using h2
      rw [if_neg h2]
      clear h2
      go_enter Try.func106, Try.ntmps106
      go_wp2_with fail
      refine calls_gen fun V hV_V => ?_
      have n_B : Below w.heap.size w V := nB hV_V
      have n_A : AP V ap s O := nA hV_V
      have z_V := Nat.le_of_eq (congrArg (fun v : World => v.heap.size) hV_V).symm
      try simp only [SZ] at z_V
      clear hV_V
      clear hA
      have hA := n_A
      clear n_A
      skip
      have hB := n_B
      clear n_B
      refine (bRow_calls _ _ hA).mono ?_
      rintro e_w1 w1 ⟨rfl, hb_w1⟩
      replace hA := hA.below hb_w1
      replace hB := below_step hB hb_w1
      have z_w1 := hb_w1.size
      clear hb_w1
      unfold Nd.val
      go_wp2_with fail
      go_ret
      exact ⟨rfl, by (repeat' first | with_reducible assumption | with_reducible exact Below.refl _ _ | with_reducible refine Below.alloc ?_ ?_ _ | with_reducible refine Below.setCell ?_ ?_ _ | with_reducible refine below_drewN ?_ _ | with_reducible refine Below.drew ?_ | exact Nat.le_refl _ | ((try dsimp only); omega) | (simp only [siz_alloc, siz_set]; omega))⟩
set_option maxRecDepth 100000 in
set_option maxHeartbeats 2000000 in
theorem bGet_calls (h i : Int) (r : Bool × Bool) (hr : bGet s h i = some r) (w : World) (hA : AP w ap s O) :
    Calls Try.prog 69 #[ap, .int .i64 h, .int .i64 i] w fun e w' => e = .returned (.tuple #[.bool r.1, .bool r.2]) ∧ Below w.heap.size w w' := by
  unfold bGet at hr
  by_cases h1 : i < 0
  · rw [if_pos (.inl h1)] at hr
    have d1 : decide (i < 0) = true := by simpa using h1
    cases hr
    clear h1
    go_enter Try.func69, Try.ntmps69
    go_wp2_with fail
    go_step3
    go_wp2_with fail
    simp only [Exit.noGoto_ret]
    go_ret2
    exact ⟨rfl, by (repeat' first | with_reducible assumption | with_reducible exact Below.refl _ _ | with_reducible refine Below.alloc ?_ ?_ _ | with_reducible refine Below.setCell ?_ ?_ _ | with_reducible refine below_drewN ?_ _ | with_reducible refine Below.drew ?_ | exact Nat.le_refl _ | ((try dsimp only); omega) | (simp only [siz_alloc, siz_set]; omega))⟩
  · have d1 : decide (i < 0) = false := by simpa using h1
    by_cases h2 : bLen s h ≤ i
    · rw [if_pos (.inr h2)] at hr
      have d2 : decide (bLen s h ≤ i) = true := by simpa using h2
      cases hr
      clear h1 h2
      go_enter Try.func69, Try.ntmps69
      go_wp2_with fail
      go_step3
      go_wp2_with fail
      refine calls_gen fun V hV_V => ?_
      have n_B : Below w.heap.size w V := nB hV_V
      have n_A : AP V ap s O := nA hV_V
      have z_V := Nat.le_of_eq (congrArg (fun v : World => v.heap.size) hV_V).symm
      try simp only [SZ] at z_V
      clear hV_V
      clear hA
      have hA := n_A
      clear n_A
      skip
      have hB := n_B
      clear n_B
      refine (bLen_calls _ _ hA).mono ?_
      rintro e_w1 w1 ⟨rfl, hb_w1⟩
      replace hA := hA.below hb_w1
      replace hB := below_step hB hb_w1
      have z_w1 := hb_w1.size
      clear hb_w1
      go_wp2_with fail
      simp only [Exit.noGoto_ret]
      go_ret2
      exact ⟨rfl, by (repeat' first | with_reducible assumption | with_reducible exact Below.refl _ _ | with_reducible refine Below.alloc ?_ ?_ _ | with_reducible refine Below.setCell ?_ ?_ _ | with_reducible refine below_drewN ?_ _ | with_reducible refine Below.drew ?_ | exact Nat.le_refl _ | ((try dsimp only); omega) | (simp only [siz_alloc, siz_set]; omega))⟩
    · rw [if_neg (by omega)] at hr
      have d2 : decide (bLen s h ≤ i) = false := by simpa using h2
      clear h1 h2
      obtain ⟨b, hb, rfl⟩ : ∃ b, bGetL rounds s h i = some b ∧ r = (b, true) := by
        cases e : bGetL rounds s h i with
        | none => rw [e] at hr; cases hr
        | some b => rw [e] at hr; cases hr; exact ⟨b, rfl, rfl⟩
      have hb' := Lib.hid hb; clear hb hr
      go_enter Try.func69, Try.ntmps69
      go_wp2_with fail
      refine wp_scope_ghost 0 (fun n a' wr => ∃ x y, (Below w.heap.size w wr ∧ Hid (bGetL n s x y = some b)) ∧ ∃ u3 u4 u5 u6 u7 u8 u9 u10 u11 u12 u13 u14 u15 u16 u17 u18 u19 u20 u21 u22 u23 u24 u25 u26 u27 u28 u29 u30 u31 u32 u33 u34 u35 u36 u37 u38 u39 u40 u41 u42 u43 u44 u45 u46 u47 : Value, a' = { tmps := #[(ap : Value), (.int .i64 x : Value), (.int .i64 y : Value), u3, u4, u5, u6, u7, u8, u9, u10, u11, u12, u13, u14, u15, u16, u17, u18, u19, u20, u21, u22, u23, u24, u25, u26, u27, u28, u29, u30, u31, u32, u33, u34, u35, u36, u37, u38, u39, u40, u41, u42, u43, u44, u45, u46, u47], defers := [] }) (by rfl) ?first ?pass
      case first =>
        intro hrest
        go_wp2_with fail
        refine calls_gen fun V hV_V => ?_
        have n_B : Below w.heap.size w V := nB hV_V
        have n_A : AP V ap s O := nA hV_V
        have z_V := Nat.le_of_eq (congrArg (fun v : World => v.heap.size) hV_V).symm
        try simp only [SZ] at z_V
        clear hV_V
        clear hA
        have hA := n_A
        clear n_A
        skip
        have hB := n_B
        clear n_B
        refine (bLen_calls _ _ hA).mono ?_
        rintro e_w1 w1 ⟨rfl, hb_w1⟩
        replace hA := hA.below hb_w1
        replace hB := below_step hB hb_w1
        have z_w1 := hb_w1.size
        clear hb_w1
        go_wp2_with fail
        go_step3
        go_step
        go_step
        refine hrest rounds _ _ ⟨h, i, ⟨hB, hb'⟩, ?_⟩
        exact ⟨_, _, _, _, _, _, _, _, _, _, _, _, _, _, _, _, _, _, _, _, _, _, _, _, _, _, _, _, _, _, _, _, _, _, _, _, _, _, _, _, _, _, _, _, _, rfl⟩
      case pass =>
        rintro n a' wr ⟨x, y, ⟨hB, hb'⟩, u3, u4, u5, u6, u7, u8, u9, u10, u11, u12, u13, u14, u15, u16, u17, u18, u19, u20, u21, u22, u23, u24, u25, u26, u27, u28, u29, u30, u31, u32, u33, u34, u35, u36, u37, u38, u39, u40, u41, u42, u43, u44, u45, u46, u47, rfl⟩ J hJ
        have hA := hA.below hB
        have z_r := hB.size
        have hb := hb'.out
        clear hb'
        cases n with
        | zero => exact absurd hb (by simp [bGetL])
        | succ n =>
          unfold bGetL at hb
          by_cases h2 : (s.get x).tag = 1
          · rw [if_pos h2] at hb
            have d1 : ((s.get x).tag == 1) = true := by simpa using h2
            have hU := hA.1.get64 x
            obtain rfl := Option.some.inj hb
            clear hb h2
            go_wp2_with fail
            refine calls_gen fun V1 hV_V1 => ?_
            have n_B : Below w.heap.size w V1 := nB hV_V1
            have n_A : AP V1 ap s O := nA hV_V1
            have z_V1 := Nat.le_of_eq (congrArg (fun v : World => v.heap.size) hV_V1).symm
            try simp only [SZ] at z_V1
            clear hV_V1
            clear hA
            have hA := n_A
            clear n_A
            clear hB
            have hB := n_B
            clear n_B
            refine (bRow_calls _ _ hA).mono ?_
            rintro e_w2 w2 ⟨rfl, hb_w2⟩
            replace hA := hA.below hb_w2
            replace hB := below_step hB hb_w2
            have z_w2 := hb_w2.size
            clear hb_w2
            unfold Nd.val
            go_wp2_with fail
            refine calls_gen fun V2 hV_V2 => ?_
            have n_k0 := congrArg (fun v : World => v.heap[w2.heap.size]?) hV_V2
            simp (maxDischargeDepth := 9) only [BK, not_false_eq_true, reduceCtorEq] at n_k0
            have o_k0 : ¬ O (w2.heap.size) := by first | exact hA.new (Nat.le_refl _) | exact hA.new (by omega)
            have n_B : Below w.heap.size w V2 := nB hV_V2
            have n_A : AP V2 ap s O := nA hV_V2
            have z_V2 := Nat.le_of_eq (congrArg (fun v : World => v.heap.size) hV_V2).symm
            try simp only [SZ] at z_V2
            clear hV_V2
            clear hA
            have hA := n_A
            clear n_A
            clear hB
            have hB := n_B
            clear n_B
            have k0 := n_k0; clear n_k0
            have c_k0 := cells_of k0
            have f_k0 := free_of k0
            have l_k0_V2 := lt_of k0
            refine (bBits_calls (s.get x) _).mono ?_
            rintro e_w3 w3 ⟨rfl, hb_w3⟩
            replace hA := hA.below hb_w3
            replace hB := below_step hB hb_w3
            replace k0 := keep_blk hb_w3 k0
            have c_k0 := cells_of k0
            have f_k0 := free_of k0
            have l_k0_w3 := lt_of k0
            have z_w3 := hb_w3.size
            clear hb_w3
            go_wp2_with fail
            refine (get_i hU _ _).mono ?_
            rintro e_w4 w4 ⟨rfl, hb_w4⟩
            replace hA := hA.below hb_w4
            replace hB := below_step hB hb_w4
            replace k0 := keep_blk hb_w4 k0
            have c_k0 := cells_of k0
            have f_k0 := free_of k0
            have l_k0_w4 := lt_of k0
            have z_w4 := hb_w4.size
            clear hb_w4
            go_wp2_with fail
            simp only [Exit.jump]
            go_ret2
            exact ⟨rfl, by (repeat' first | with_reducible assumption | with_reducible exact Below.refl _ _ | with_reducible refine Below.alloc ?_ ?_ _ | with_reducible refine Below.setCell ?_ ?_ _ | with_reducible refine below_drewN ?_ _ | with_reducible refine Below.drew ?_ | exact Nat.le_refl _ | ((try dsimp only); omega) | (simp only [siz_alloc, siz_set]; omega))⟩
          · rw [if_neg h2] at hb
            have d1 : ((s.get x).tag == 1) = false := by simpa using h2
            clear h2
            by_cases h3 : bLen s (s.get x).k0 ≤ y
            · rw [if_pos h3] at hb
              have d3 : decide (bLen s (s.get x).k0 ≤ y) = true := by simpa using h3
              have hb' := Lib.hid hb; clear hb h3
              go_wp2_with fail
              refine calls_gen fun V1 hV_V1 => ?_
              have n_B : Below w.heap.size w V1 := nB hV_V1
              have n_A : AP V1 ap s O := nA hV_V1
              have z_V1 := Nat.le_of_eq (congrArg (fun v : World => v.heap.size) hV_V1).symm
              try simp only [SZ] at z_V1
              clear hV_V1
              clear hA
              have hA := n_A
              clear n_A
              clear hB
              have hB := n_B
              clear n_B
              refine (bRow_calls _ _ hA).mono ?_
              rintro e_w2 w2 ⟨rfl, hb_w2⟩
              replace hA := hA.below hb_w2
              replace hB := below_step hB hb_w2
              have z_w2 := hb_w2.size
              clear hb_w2
              unfold Nd.val
              go_wp2_with fail
              refine calls_gen fun V2 hV_V2 => ?_
              have n_k0 := congrArg (fun v : World => v.heap[w2.heap.size]?) hV_V2
              simp (maxDischargeDepth := 9) only [BK, not_false_eq_true, reduceCtorEq] at n_k0
              have o_k0 : ¬ O (w2.heap.size) := by first | exact hA.new (Nat.le_refl _) | exact hA.new (by omega)
              have n_B : Below w.heap.size w V2 := nB hV_V2
              have n_A : AP V2 ap s O := nA hV_V2
              have z_V2 := Nat.le_of_eq (congrArg (fun v : World => v.heap.size) hV_V2).symm
              try simp only [SZ] at z_V2
              clear hV_V2
              clear hA
              have hA := n_A
              clear n_A
              clear hB
              have hB := n_B
              clear n_B
              have k0 := n_k0; clear n_k0
              have c_k0 := cells_of k0
              have f_k0 := free_of k0
              have l_k0_V2 := lt_of k0
              refine (bLen_calls _ _ hA).mono ?_
              rintro e_w3 w3 ⟨rfl, hb_w3⟩
              replace hA := hA.below hb_w3
              replace hB := below_step hB hb_w3
              replace k0 := keep_blk hb_w3 k0
              have c_k0 := cells_of k0
              have f_k0 := free_of k0
              have l_k0_w3 := lt_of k0
              have z_w3 := hb_w3.size
              clear hb_w3
              go_wp2_with fail
              go_step3
              refine ⟨rfl, hJ _ _ ⟨n, by omega, _, _, ⟨by (repeat' first | with_reducible assumption | with_reducible exact Below.refl _ _ | with_reducible refine Below.alloc ?_ ?_ _ | with_reducible refine Below.setCell ?_ ?_ _ | with_reducible refine below_drewN ?_ _ | with_reducible refine Below.drew ?_ | exact Nat.le_refl _ | ((try dsimp only); omega) | (simp only [siz_alloc, siz_set]; omega)), hb'⟩, ?_⟩⟩
              exact ⟨_, _, _, _, _, _, _, _, _, _, _, _, _, _, _, _, _, _, _, _, _, _, _, _, _, _, _, _, _, _, _, _, _, _, _, _, _, _, _, _, _, _, _, _, _, rfl⟩
            · rw [if_neg h3] at hb
              have d3 : decide (bLen s (s.get x).k0 ≤ y) = false := by simpa using h3
              have hb' := Lib.hid hb; clear hb h3
              go_wp2_with fail
              refine calls_gen fun V1 hV_V1 => ?_
              have n_B : Below w.heap.size w V1 := nB hV_V1
              have n_A : AP V1 ap s O := nA hV_V1
              have z_V1 := Nat.le_of_eq (congrArg (fun v : World => v.heap.size) hV_V1).symm
              try simp only [SZ] at z_V1
              clear hV_V1
              clear hA
              have hA := n_A
              clear n_A
              clear hB
              have hB := n_B
              clear n_B
              refine (bRow_calls _ _ hA).mono ?_
              rintro e_w2 w2 ⟨rfl, hb_w2⟩
              replace hA := hA.below hb_w2
              replace hB := below_step hB hb_w2
              have z_w2 := hb_w2.size
              clear hb_w2
              unfold Nd.val
              go_wp2_with fail
              refine calls_gen fun V2 hV_V2 => ?_
              have n_k0 := congrArg (fun v : World => v.heap[w2.heap.size]?) hV_V2
              simp (maxDischargeDepth := 9) only [BK, not_false_eq_true, reduceCtorEq] at n_k0
              have o_k0 : ¬ O (w2.heap.size) := by first | exact hA.new (Nat.le_refl _) | exact hA.new (by omega)
              have n_B : Below w.heap.size w V2 := nB hV_V2
              have n_A : AP V2 ap s O := nA hV_V2
              have z_V2 := Nat.le_of_eq (congrArg (fun v : World => v.heap.size) hV_V2).symm
              try simp only [SZ] at z_V2
              clear hV_V2
              clear hA
              have hA := n_A
              clear n_A
              clear hB
              have hB := n_B
              clear n_B
              have k0 := n_k0; clear n_k0
              have c_k0 := cells_of k0
              have f_k0 := free_of k0
              have l_k0_V2 := lt_of k0
              refine (bLen_calls _ _ hA).mono ?_
              rintro e_w3 w3 ⟨rfl, hb_w3⟩
              replace hA := hA.below hb_w3
              replace hB := below_step hB hb_w3
              replace k0 := keep_blk hb_w3 k0
              have c_k0 := cells_of k0
              have f_k0 := free_of k0
              have l_k0_w3 := lt_of k0
              have z_w3 := hb_w3.size
              clear hb_w3
              go_wp2_with fail
              go_step3
              refine ⟨rfl, hJ _ _ ⟨n, by omega, _, _, ⟨by (repeat' first | with_reducible assumption | with_reducible exact Below.refl _ _ | with_reducible refine Below.alloc ?_ ?_ _ | with_reducible refine Below.setCell ?_ ?_ _ | with_reducible refine below_drewN ?_ _ | with_reducible refine Below.drew ?_ | exact Nat.le_refl _ | ((try dsimp only); omega) | (simp only [siz_alloc, siz_set]; omega)), hb'⟩, ?_⟩⟩
              exact ⟨_, _, _, _, _, _, _, _, _, _, _, _, _, _, _, _, _, _, _, _, _, _, _, _, _, _, _, _, _, _, _, _, _, _, _, _, _, _, _, _, _, _, _, _, _, rfl⟩
end Go.Proofs.Ytkgabbenmoocgaa
