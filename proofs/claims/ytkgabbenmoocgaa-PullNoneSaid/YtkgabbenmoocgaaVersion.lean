/- Versions. -/
import Derived.Test.YtkgabbenmoocgaaTable
import Derived.Test.YtkgabbenmoocgaaWaveGet
import Derived.Test.YtkgabbenmoocgaaWaveRank
import Derived.Test.YtkgabbenmoocgaaWaveBefore
namespace Go.Proofs.Ytkgabbenmoocgaa
set_option linter.unusedSimpArgs false
set_option linter.unusedVariables false
set_option linter.unnecessarySimpa false
open Go.RowKit
attribute [local go_sem ↓] Go.wp_at_zero Go.wp_at_succ
attribute [local go_sem] lt_s2 lt_s3 lt_s4
attribute [local go_sem] idx0 idx1 idx2 idx3
variable {ap : Value} {s : Ar} {O : Nat → Prop}
def Parts.val (p : Parts) : Value := .agg #[.int .i64 p.wave, .int .i64 p.marks, .int .i64 p.spots, .int .i64 p.table]
set_option maxRecDepth 100000 in
set_option maxHeartbeats 2000000 in
theorem vOf_calls (h : Int) (w : World) (hA : AP w ap s O) :
    Calls Try.prog 38 #[ap, .int .i64 h] w fun e w' => e = .returned (.tuple #[(vOf s h).val, .bool (vIs s h)]) ∧ Below w.heap.size w w' := by
  unfold Parts.val
  by_cases h1 : h = 0
  · have E1 : vOf s h = Parts.zero := by unfold vOf; rw [if_neg (by simp [h1])]
    have E2 : vIs s h = true := by unfold vIs; simp [h1]
    rw [E1, E2]
    have d1 : (h == 0) = true := by simpa using h1
    clear h1 E1 E2
    go_enter Try.func38, Try.ntmps38
    go_wp2_with fail
    refine bodyPost_ret (v := .tuple #[.agg #[.int .i64 0, .int .i64 0, .int .i64 0, .int .i64 0], .bool true]) (by simp [results, Try.results38, go_sem, *]) rfl ⟨rfl, by (repeat' first | with_reducible assumption | with_reducible exact Below.refl _ _ | with_reducible refine Below.alloc ?_ ?_ _ | with_reducible refine Below.setCell ?_ ?_ _ | with_reducible refine below_drewN ?_ _ | with_reducible refine Below.drew ?_ | exact Nat.le_refl _ | ((try dsimp only); omega) | (simp only [siz_alloc, siz_set]; omega))⟩
  · have d1 : (h == 0) = false := by simpa using h1
    cases h2 : s.has h with
    | false =>
      have E2 : vIs s h = false := by unfold vIs; simp [h1, h2]
      have E1 : vOf s h = Parts.zero := by unfold vOf; rw [if_neg (by simp [E2])]
      rw [E1, E2]
      clear h1 E1 E2
      go_enter Try.func38, Try.ntmps38
      go_wp2_with fail
      refine calls_gen fun V hV_V => ?_
      have n_kr := congrArg (fun v : World => v.heap[w.heap.size]?) hV_V
      simp (maxDischargeDepth := 9) only [BK, not_false_eq_true, reduceCtorEq] at n_kr
      have o_kr : ¬ O (w.heap.size) := by first | exact hA.new (Nat.le_refl _) | exact hA.new (by omega)
      have n_B : Below w.heap.size w V := nB hV_V
      have n_A : AP V ap s O := nA hV_V
      have z_V := Nat.le_of_eq (congrArg (fun v : World => v.heap.size) hV_V).symm
      try simp only [SZ] at z_V
      clear hV_V
      clear hA
      have hA := n_A
      clear n_A
      skip
      have hB := n_B
      clear n_B
      have kr := n_kr; clear n_kr
      have c_kr := cells_of kr
      have f_kr := free_of kr
      have l_kr_V := lt_of kr
      refine (aget_calls _ _ hA).mono ?_
      rintro e_W1 W1 ⟨rfl, hb_W1⟩
      replace hA := hA.below hb_W1
      replace hB := below_step hB hb_W1
      replace kr := keep_blk hb_W1 kr
      have c_kr := cells_of kr
      have f_kr := free_of kr
      have l_kr_W1 := lt_of kr
      have z_W1 := hb_W1.size
      clear hb_W1
      rw [h2]
      unfold Nd.val
      go_wp2_with fail
      refine bodyPost_ret (v := .tuple #[.agg #[.int .i64 0, .int .i64 0, .int .i64 0, .int .i64 0], .bool false]) (by simp [results, Try.results38, go_sem, *]) rfl ⟨rfl, by (repeat' first | with_reducible assumption | with_reducible exact Below.refl _ _ | with_reducible refine Below.alloc ?_ ?_ _ | with_reducible refine Below.setCell ?_ ?_ _ | with_reducible refine below_drewN ?_ _ | with_reducible refine Below.drew ?_ | exact Nat.le_refl _ | ((try dsimp only); omega) | (simp only [siz_alloc, siz_set]; omega))⟩
    | true =>
      by_cases h3 : s.cnt h = 0
      · have E2 : vIs s h = false := by unfold vIs; simp [h1, h2, h3]
        have E1 : vOf s h = Parts.zero := by unfold vOf; rw [if_neg (by simp [E2])]
        rw [E1, E2]
        have d3 : (s.cnt h == 0) = true := by simpa using h3
        clear h1 E1 E2 h3
        go_enter Try.func38, Try.ntmps38
        go_wp2_with fail
        refine calls_gen fun V hV_V => ?_
        have n_kr := congrArg (fun v : World => v.heap[w.heap.size]?) hV_V
        simp (maxDischargeDepth := 9) only [BK, not_false_eq_true, reduceCtorEq] at n_kr
        have o_kr : ¬ O (w.heap.size) := by first | exact hA.new (Nat.le_refl _) | exact hA.new (by omega)
        have n_B : Below w.heap.size w V := nB hV_V
        have n_A : AP V ap s O := nA hV_V
        have z_V := Nat.le_of_eq (congrArg (fun v : World => v.heap.size) hV_V).symm
        try simp only [SZ] at z_V
        clear hV_V
        clear hA
        have hA := n_A
        clear n_A
        skip
        have hB := n_B
        clear n_B
        have kr := n_kr; clear n_kr
        have c_kr := cells_of kr
        have f_kr := free_of kr
        have l_kr_V := lt_of kr
        refine (aget_calls _ _ hA).mono ?_
        rintro e_W1 W1 ⟨rfl, hb_W1⟩
        replace hA := hA.below hb_W1
        replace hB := below_step hB hb_W1
        replace kr := keep_blk hb_W1 kr
        have c_kr := cells_of kr
        have f_kr := free_of kr
        have l_kr_W1 := lt_of kr
        have z_W1 := hb_W1.size
        clear hb_W1
        rw [h2]
        unfold Nd.val
        go_wp2_with fail
        refine calls_gen fun V1 hV_V1 => ?_
        have n_kr := congrArg (fun v : World => v.heap[w.heap.size]?) hV_V1
        simp (maxDischargeDepth := 9) only [BK, not_false_eq_true, reduceCtorEq, kr, l_kr_V, l_kr_W1] at n_kr
        have n_kn := congrArg (fun v : World => v.heap[W1.heap.size]?) hV_V1
        simp (maxDischargeDepth := 9) only [BK, not_false_eq_true, reduceCtorEq, kr, l_kr_V, l_kr_W1] at n_kn
        have o_kn : ¬ O (W1.heap.size) := by first | exact hA.new (Nat.le_refl _) | exact hA.new (by omega)
        have n_B : Below w.heap.size w V1 := nB hV_V1
        have n_A : AP V1 ap s O := nA hV_V1
        have z_V1 := Nat.le_of_eq (congrArg (fun v : World => v.heap.size) hV_V1).symm
        try simp only [SZ] at z_V1
        clear kr c_kr f_kr
        clear hV_V1
        clear hA
        have hA := n_A
        clear n_A
        clear hB
        have hB := n_B
        clear n_B
        have kr := n_kr; clear n_kr
        have c_kr := cells_of kr
        have f_kr := free_of kr
        have l_kr_V1 := lt_of kr
        have kn := n_kn; clear n_kn
        have c_kn := cells_of kn
        have f_kn := free_of kn
        have l_kn_V1 := lt_of kn
        refine (count_calls _ _ hA).mono ?_
        rintro e_q w_q ⟨rfl, rfl⟩
        go_wp2_with fail
        refine bodyPost_ret (v := .tuple #[.agg #[.int .i64 0, .int .i64 0, .int .i64 0, .int .i64 0], .bool false]) (by simp [results, Try.results38, go_sem, *]) rfl ⟨rfl, by (repeat' first | with_reducible assumption | with_reducible exact Below.refl _ _ | with_reducible refine Below.alloc ?_ ?_ _ | with_reducible refine Below.setCell ?_ ?_ _ | with_reducible refine below_drewN ?_ _ | with_reducible refine Below.drew ?_ | exact Nat.le_refl _ | ((try dsimp only); omega) | (simp only [siz_alloc, siz_set]; omega))⟩
      · have d3 : (s.cnt h == 0) = false := by simpa using h3
        by_cases h4 : (s.get h).tag = 6
        · have E2 : vIs s h = true := by unfold vIs; simp [h1, h2, h3, h4]
          have E1 : vOf s h = ⟨(s.get h).k0, (s.get h).k1, (s.get h).k2, (s.get h).k3⟩ := by unfold vOf; rw [if_pos ⟨h1, E2⟩]
          rw [E1, E2]
          have d4 : ((s.get h).tag != 6) = false := by simp [h4]
          clear h1 E1 E2 h3 h4
          go_enter Try.func38, Try.ntmps38
          go_wp2_with fail
          refine calls_gen fun V hV_V => ?_
          have n_kr := congrArg (fun v : World => v.heap[w.heap.size]?) hV_V
          simp (maxDischargeDepth := 9) only [BK, not_false_eq_true, reduceCtorEq] at n_kr
          have o_kr : ¬ O (w.heap.size) := by first | exact hA.new (Nat.le_refl _) | exact hA.new (by omega)
          have n_B : Below w.heap.size w V := nB hV_V
          have n_A : AP V ap s O := nA hV_V
          have z_V := Nat.le_of_eq (congrArg (fun v : World => v.heap.size) hV_V).symm
          try simp only [SZ] at z_V
          clear hV_V
          clear hA
          have hA := n_A
          clear n_A
          skip
          have hB := n_B
          clear n_B
          have kr := n_kr; clear n_kr
          have c_kr := cells_of kr
          have f_kr := free_of kr
          have l_kr_V := lt_of kr
          refine (aget_calls _ _ hA).mono ?_
          rintro e_W1 W1 ⟨rfl, hb_W1⟩
          replace hA := hA.below hb_W1
          replace hB := below_step hB hb_W1
          replace kr := keep_blk hb_W1 kr
          have c_kr := cells_of kr
          have f_kr := free_of kr
          have l_kr_W1 := lt_of kr
          have z_W1 := hb_W1.size
          clear hb_W1
          rw [h2]
          unfold Nd.val
          go_wp2_with fail
          refine calls_gen fun V1 hV_V1 => ?_
          have n_kr := congrArg (fun v : World => v.heap[w.heap.size]?) hV_V1
          simp (maxDischargeDepth := 9) only [BK, not_false_eq_true, reduceCtorEq, kr, l_kr_V, l_kr_W1] at n_kr
          have n_kn := congrArg (fun v : World => v.heap[W1.heap.size]?) hV_V1
          simp (maxDischargeDepth := 9) only [BK, not_false_eq_true, reduceCtorEq, kr, l_kr_V, l_kr_W1] at n_kn
          have o_kn : ¬ O (W1.heap.size) := by first | exact hA.new (Nat.le_refl _) | exact hA.new (by omega)
          have n_B : Below w.heap.size w V1 := nB hV_V1
          have n_A : AP V1 ap s O := nA hV_V1
          have z_V1 := Nat.le_of_eq (congrArg (fun v : World => v.heap.size) hV_V1).symm
          try simp only [SZ] at z_V1
          clear kr c_kr f_kr
          clear hV_V1
          clear hA
          have hA := n_A
          clear n_A
          clear hB
          have hB := n_B
          clear n_B
          have kr := n_kr; clear n_kr
          have c_kr := cells_of kr
          have f_kr := free_of kr
          have l_kr_V1 := lt_of kr
          have kn := n_kn; clear n_kn
          have c_kn := cells_of kn
          have f_kn := free_of kn
          have l_kn_V1 := lt_of kn
          refine (count_calls _ _ hA).mono ?_
          rintro e_q w_q ⟨rfl, rfl⟩
          go_wp2_with fail
          refine bodyPost_ret (v := .tuple #[.agg #[.int .i64 (s.get h).k0, .int .i64 (s.get h).k1, .int .i64 (s.get h).k2, .int .i64 (s.get h).k3], .bool true]) (by simp [results, Try.results38, go_sem, *]) rfl ⟨rfl, by (repeat' first | with_reducible assumption | with_reducible exact Below.refl _ _ | with_reducible refine Below.alloc ?_ ?_ _ | with_reducible refine Below.setCell ?_ ?_ _ | with_reducible refine below_drewN ?_ _ | with_reducible refine Below.drew ?_ | exact Nat.le_refl _ | ((try dsimp only); omega) | (simp only [siz_alloc, siz_set]; omega))⟩
        · have E2 : vIs s h = false := by unfold vIs; simp [h1, h2, h3, h4]
          have E1 : vOf s h = Parts.zero := by unfold vOf; rw [if_neg (by simp [E2])]
          rw [E1, E2]
          have d4 : ((s.get h).tag != 6) = true := by simp [h4]
          clear h1 E1 E2 h3 h4
          go_enter Try.func38, Try.ntmps38
          go_wp2_with fail
          refine calls_gen fun V hV_V => ?_
          have n_kr := congrArg (fun v : World => v.heap[w.heap.size]?) hV_V
          simp (maxDischargeDepth := 9) only [BK, not_false_eq_true, reduceCtorEq] at n_kr
          have o_kr : ¬ O (w.heap.size) := by first | exact hA.new (Nat.le_refl _) | exact hA.new (by omega)
          have n_B : Below w.heap.size w V := nB hV_V
          have n_A : AP V ap s O := nA hV_V
          have z_V := Nat.le_of_eq (congrArg (fun v : World => v.heap.size) hV_V).symm
          try simp only [SZ] at z_V
          clear hV_V
          clear hA
          have hA := n_A
          clear n_A
          skip
          have hB := n_B
          clear n_B
          have kr := n_kr; clear n_kr
          have c_kr := cells_of kr
          have f_kr := free_of kr
          have l_kr_V := lt_of kr
          refine (aget_calls _ _ hA).mono ?_
          rintro e_W1 W1 ⟨rfl, hb_W1⟩
          replace hA := hA.below hb_W1
          replace hB := below_step hB hb_W1
          replace kr := keep_blk hb_W1 kr
          have c_kr := cells_of kr
          have f_kr := free_of kr
          have l_kr_W1 := lt_of kr
          have z_W1 := hb_W1.size
          clear hb_W1
          rw [h2]
          unfold Nd.val
          go_wp2_with fail
          refine calls_gen fun V1 hV_V1 => ?_
          have n_kr := congrArg (fun v : World => v.heap[w.heap.size]?) hV_V1
          simp (maxDischargeDepth := 9) only [BK, not_false_eq_true, reduceCtorEq, kr, l_kr_V, l_kr_W1] at n_kr
          have n_kn := congrArg (fun v : World => v.heap[W1.heap.size]?) hV_V1
          simp (maxDischargeDepth := 9) only [BK, not_false_eq_true, reduceCtorEq, kr, l_kr_V, l_kr_W1] at n_kn
          have o_kn : ¬ O (W1.heap.size) := by first | exact hA.new (Nat.le_refl _) | exact hA.new (by omega)
          have n_B : Below w.heap.size w V1 := nB hV_V1
          have n_A : AP V1 ap s O := nA hV_V1
          have z_V1 := Nat.le_of_eq (congrArg (fun v : World => v.heap.size) hV_V1).symm
          try simp only [SZ] at z_V1
          clear kr c_kr f_kr
          clear hV_V1
          clear hA
          have hA := n_A
          clear n_A
          clear hB
          have hB := n_B
          clear n_B
          have kr := n_kr; clear n_kr
          have c_kr := cells_of kr
          have f_kr := free_of kr
          have l_kr_V1 := lt_of kr
          have kn := n_kn; clear n_kn
          have c_kn := cells_of kn
          have f_kn := free_of kn
          have l_kn_V1 := lt_of kn
          refine (count_calls _ _ hA).mono ?_
          rintro e_q w_q ⟨rfl, rfl⟩
          go_wp2_with fail
          refine bodyPost_ret (v := .tuple #[.agg #[.int .i64 0, .int .i64 0, .int .i64 0, .int .i64 0], .bool false]) (by simp [results, Try.results38, go_sem, *]) rfl ⟨rfl, by (repeat' first | with_reducible assumption | with_reducible exact Below.refl _ _ | with_reducible refine Below.alloc ?_ ?_ _ | with_reducible refine Below.setCell ?_ ?_ _ | with_reducible refine below_drewN ?_ _ | with_reducible refine Below.drew ?_ | exact Nat.le_refl _ | ((try dsimp only); omega) | (simp only [siz_alloc, siz_set]; omega))⟩
set_option maxRecDepth 100000 in
set_option maxHeartbeats 800000 in
theorem vRows_calls (h : Int) (w : World) (hA : AP w ap s O) :
    Calls Try.prog 20 #[ap, .int .i64 h] w fun e w' => e = .returned (.int .i64 (vRows s h)) ∧ Below w.heap.size w w' := by
  go_enter Try.func20, Try.ntmps20
  go_wp2_with fail
  refine calls_gen fun V hV_V => ?_
  have n_B : Below w.heap.size w V := nB hV_V
  have n_A : AP V ap s O := nA hV_V
  have z_V := Nat.le_of_eq (congrArg (fun v : World => v.heap.size) hV_V).symm
  try simp only [SZ] at z_V
  clear hV_V
  clear hA
  have hA := n_A
  clear n_A
  skip
  have hB := n_B
  clear n_B
  refine (vOf_calls _ _ hA).mono ?_
  rintro e_W1 W1 ⟨rfl, hb_W1⟩
  replace hA := hA.below hb_W1
  replace hB := below_step hB hb_W1
  have z_W1 := hb_W1.size
  clear hb_W1
  unfold Parts.val
  go_wp2_with fail
  refine calls_gen fun V1 hV_V1 => ?_
  have n_kp := congrArg (fun v : World => v.heap[W1.heap.size]?) hV_V1
  simp (maxDischargeDepth := 9) only [BK, not_false_eq_true, reduceCtorEq] at n_kp
  have o_kp : ¬ O (W1.heap.size) := by first | exact hA.new (Nat.le_refl _) | exact hA.new (by omega)
  have n_B : Below w.heap.size w V1 := nB hV_V1
  have n_A : AP V1 ap s O := nA hV_V1
  have z_V1 := Nat.le_of_eq (congrArg (fun v : World => v.heap.size) hV_V1).symm
  try simp only [SZ] at z_V1
  clear hV_V1
  clear hA
  have hA := n_A
  clear n_A
  clear hB
  have hB := n_B
  clear n_B
  have kp := n_kp; clear n_kp
  have c_kp := cells_of kp
  have f_kp := free_of kp
  have l_kp_V1 := lt_of kp
  refine (wLen_calls _ _ hA).mono ?_
  rintro e_W2 W2 ⟨rfl, hb_W2⟩
  replace hA := hA.below hb_W2
  replace hB := below_step hB hb_W2
  replace kp := keep_blk hb_W2 kp
  have c_kp := cells_of kp
  have f_kp := free_of kp
  have l_kp_W2 := lt_of kp
  have z_W2 := hb_W2.size
  clear hb_W2
  go_wp2_with fail
  go_ret
  exact ⟨rfl, hB⟩
set_option maxRecDepth 100000 in
set_option maxHeartbeats 800000 in
theorem vDocs_calls (h : Int) (w : World) (hA : AP w ap s O) :
    Calls Try.prog 21 #[ap, .int .i64 h] w fun e w' => e = .returned (.int .i64 (vDocs s h)) ∧ Below w.heap.size w w' := by
  go_enter Try.func21, Try.ntmps21
  go_wp2_with fail
  refine calls_gen fun V hV_V => ?_
  have n_B : Below w.heap.size w V := nB hV_V
  have n_A : AP V ap s O := nA hV_V
  have z_V := Nat.le_of_eq (congrArg (fun v : World => v.heap.size) hV_V).symm
  try simp only [SZ] at z_V
  clear hV_V
  clear hA
  have hA := n_A
  clear n_A
  skip
  have hB := n_B
  clear n_B
  refine (vOf_calls _ _ hA).mono ?_
  rintro e_W1 W1 ⟨rfl, hb_W1⟩
  replace hA := hA.below hb_W1
  replace hB := below_step hB hb_W1
  have z_W1 := hb_W1.size
  clear hb_W1
  unfold Parts.val
  go_wp2_with fail
  refine calls_gen fun V1 hV_V1 => ?_
  have n_kp := congrArg (fun v : World => v.heap[W1.heap.size]?) hV_V1
  simp (maxDischargeDepth := 9) only [BK, not_false_eq_true, reduceCtorEq] at n_kp
  have o_kp : ¬ O (W1.heap.size) := by first | exact hA.new (Nat.le_refl _) | exact hA.new (by omega)
  have n_B : Below w.heap.size w V1 := nB hV_V1
  have n_A : AP V1 ap s O := nA hV_V1
  have z_V1 := Nat.le_of_eq (congrArg (fun v : World => v.heap.size) hV_V1).symm
  try simp only [SZ] at z_V1
  clear hV_V1
  clear hA
  have hA := n_A
  clear n_A
  clear hB
  have hB := n_B
  clear n_B
  have kp := n_kp; clear n_kp
  have c_kp := cells_of kp
  have f_kp := free_of kp
  have l_kp_V1 := lt_of kp
  refine (tLen_calls _ _ hA).mono ?_
  rintro e_W2 W2 ⟨rfl, hb_W2⟩
  replace hA := hA.below hb_W2
  replace hB := below_step hB hb_W2
  replace kp := keep_blk hb_W2 kp
  have c_kp := cells_of kp
  have f_kp := free_of kp
  have l_kp_W2 := lt_of kp
  have z_W2 := hb_W2.size
  clear hb_W2
  go_wp2_with fail
  go_ret
  exact ⟨rfl, hB⟩
set_option maxRecDepth 100000 in
set_option maxHeartbeats 2000000 in
theorem vNext_calls (h i : Int) (r : Int × Bool) (hr : vNext s h i = some r) (w : World) (hA : AP w ap s O) :
    Calls Try.prog 42 #[ap, .int .i64 h, .int .i64 i] w fun e w' => e = .returned (.tuple #[.int .i64 r.1, .bool r.2]) ∧ Below w.heap.size w w' := by
  unfold vNext at hr
  obtain ⟨x, h_b, h_r⟩ := Option.bind_eq_some_iff.1 hr
  have Hx := Lib.hid h_b; clear h_b hr; have hr := h_r; clear h_r
  cases h1 : x.2 with
  | false =>
    rw [if_pos (.inl h1)] at hr
    obtain rfl := Option.some.inj hr
    clear hr
    go_enter Try.func42, Try.ntmps42
    go_wp2_with fail
    refine calls_gen fun V hV_V => ?_
    have n_B : Below w.heap.size w V := nB hV_V
    have n_A : AP V ap s O := nA hV_V
    have z_V := Nat.le_of_eq (congrArg (fun v : World => v.heap.size) hV_V).symm
    try simp only [SZ] at z_V
    clear hV_V
    clear hA
    have hA := n_A
    clear n_A
    skip
    have hB := n_B
    clear n_B
    refine (vOf_calls _ _ hA).mono ?_
    rintro e_W1 W1 ⟨rfl, hb_W1⟩
    replace hA := hA.below hb_W1
    replace hB := below_step hB hb_W1
    have z_W1 := hb_W1.size
    clear hb_W1
    unfold Parts.val
    go_wp2_with fail
    refine calls_gen fun V1 hV_V1 => ?_
    have n_kp := congrArg (fun v : World => v.heap[W1.heap.size]?) hV_V1
    simp (maxDischargeDepth := 9) only [BK, not_false_eq_true, reduceCtorEq] at n_kp
    have o_kp : ¬ O (W1.heap.size) := by first | exact hA.new (Nat.le_refl _) | exact hA.new (by omega)
    have n_B : Below w.heap.size w V1 := nB hV_V1
    have n_A : AP V1 ap s O := nA hV_V1
    have z_V1 := Nat.le_of_eq (congrArg (fun v : World => v.heap.size) hV_V1).symm
    try simp only [SZ] at z_V1
    clear hV_V1
    clear hA
    have hA := n_A
    clear n_A
    clear hB
    have hB := n_B
    clear n_B
    have kp := n_kp; clear n_kp
    have c_kp := cells_of kp
    have f_kp := free_of kp
    have l_kp_V1 := lt_of kp
    refine (wGet_calls _ _ _ Hx.out _ hA).mono ?_
    rintro e_W2 W2 ⟨rfl, hb_W2⟩
    replace hA := hA.below hb_W2
    replace hB := below_step hB hb_W2
    replace kp := keep_blk hb_W2 kp
    have c_kp := cells_of kp
    have f_kp := free_of kp
    have l_kp_W2 := lt_of kp
    have z_W2 := hb_W2.size
    clear hb_W2
    rw [h1]
    go_wp2_with fail
    go_ret2
    exact ⟨rfl, hB⟩
  | true =>
    by_cases h2 : x.1 = 0
    · rw [if_pos (.inr h2)] at hr
      obtain rfl := Option.some.inj hr
      have d2 : (x.1 == 0) = true := by simpa using h2
      clear hr h2
      go_enter Try.func42, Try.ntmps42
      go_wp2_with fail
      refine calls_gen fun V hV_V => ?_
      have n_B : Below w.heap.size w V := nB hV_V
      have n_A : AP V ap s O := nA hV_V
      have z_V := Nat.le_of_eq (congrArg (fun v : World => v.heap.size) hV_V).symm
      try simp only [SZ] at z_V
      clear hV_V
      clear hA
      have hA := n_A
      clear n_A
      skip
      have hB := n_B
      clear n_B
      refine (vOf_calls _ _ hA).mono ?_
      rintro e_W1 W1 ⟨rfl, hb_W1⟩
      replace hA := hA.below hb_W1
      replace hB := below_step hB hb_W1
      have z_W1 := hb_W1.size
      clear hb_W1
      unfold Parts.val
      go_wp2_with fail
      refine calls_gen fun V1 hV_V1 => ?_
      have n_kp := congrArg (fun v : World => v.heap[W1.heap.size]?) hV_V1
      simp (maxDischargeDepth := 9) only [BK, not_false_eq_true, reduceCtorEq] at n_kp
      have o_kp : ¬ O (W1.heap.size) := by first | exact hA.new (Nat.le_refl _) | exact hA.new (by omega)
      have n_B : Below w.heap.size w V1 := nB hV_V1
      have n_A : AP V1 ap s O := nA hV_V1
      have z_V1 := Nat.le_of_eq (congrArg (fun v : World => v.heap.size) hV_V1).symm
      try simp only [SZ] at z_V1
      clear hV_V1
      clear hA
      have hA := n_A
      clear n_A
      clear hB
      have hB := n_B
      clear n_B
      have kp := n_kp; clear n_kp
      have c_kp := cells_of kp
      have f_kp := free_of kp
      have l_kp_V1 := lt_of kp
      refine (wGet_calls _ _ _ Hx.out _ hA).mono ?_
      rintro e_W2 W2 ⟨rfl, hb_W2⟩
      replace hA := hA.below hb_W2
      replace hB := below_step hB hb_W2
      replace kp := keep_blk hb_W2 kp
      have c_kp := cells_of kp
      have f_kp := free_of kp
      have l_kp_W2 := lt_of kp
      have z_W2 := hb_W2.size
      clear hb_W2
      rw [h1]
      go_wp2_with fail
      go_ret2
      exact ⟨rfl, hB⟩
    · rw [if_neg (by rw [h1]; simp [h2])] at hr
      have d2 : (x.1 == 0) = false := by simpa using h2
      clear h2
      obtain ⟨p, h_b, h_r⟩ := Option.bind_eq_some_iff.1 hr
      have Hp := Lib.hid h_b; clear h_b hr; have hr := h_r; clear h_r
      obtain ⟨q, h_b, h_r⟩ := Option.bind_eq_some_iff.1 hr
      have Hq := Lib.hid h_b; clear h_b hr; have hr := h_r; clear h_r
      obtain rfl := Option.some.inj hr
      clear hr
      go_enter Try.func42, Try.ntmps42
      go_wp2_with fail
      refine calls_gen fun V hV_V => ?_
      have n_B : Below w.heap.size w V := nB hV_V
      have n_A : AP V ap s O := nA hV_V
      have z_V := Nat.le_of_eq (congrArg (fun v : World => v.heap.size) hV_V).symm
      try simp only [SZ] at z_V
      clear hV_V
      clear hA
      have hA := n_A
      clear n_A
      skip
      have hB := n_B
      clear n_B
      refine (vOf_calls _ _ hA).mono ?_
      rintro e_W1 W1 ⟨rfl, hb_W1⟩
      replace hA := hA.below hb_W1
      replace hB := below_step hB hb_W1
      have z_W1 := hb_W1.size
      clear hb_W1
      unfold Parts.val
      go_wp2_with fail
      refine calls_gen fun V1 hV_V1 => ?_
      have n_kp := congrArg (fun v : World => v.heap[W1.heap.size]?) hV_V1
      simp (maxDischargeDepth := 9) only [BK, not_false_eq_true, reduceCtorEq] at n_kp
      have o_kp : ¬ O (W1.heap.size) := by first | exact hA.new (Nat.le_refl _) | exact hA.new (by omega)
      have n_B : Below w.heap.size w V1 := nB hV_V1
      have n_A : AP V1 ap s O := nA hV_V1
      have z_V1 := Nat.le_of_eq (congrArg (fun v : World => v.heap.size) hV_V1).symm
      try simp only [SZ] at z_V1
      clear hV_V1
      clear hA
      have hA := n_A
      clear n_A
      clear hB
      have hB := n_B
      clear n_B
      have kp := n_kp; clear n_kp
      have c_kp := cells_of kp
      have f_kp := free_of kp
      have l_kp_V1 := lt_of kp
      refine (wGet_calls _ _ _ Hx.out _ hA).mono ?_
      rintro e_W2 W2 ⟨rfl, hb_W2⟩
      replace hA := hA.below hb_W2
      replace hB := below_step hB hb_W2
      replace kp := keep_blk hb_W2 kp
      have c_kp := cells_of kp
      have f_kp := free_of kp
      have l_kp_W2 := lt_of kp
      have z_W2 := hb_W2.size
      clear hb_W2
      rw [h1]
      go_wp2_with fail
      refine wp_gen fun V2 hV_V2 => ?_
      have n_kp := congrArg (fun v : World => v.heap[W1.heap.size]?) hV_V2
      simp (maxDischargeDepth := 9) only [BK, not_false_eq_true, reduceCtorEq, kp, l_kp_V1, l_kp_W2] at n_kp
      have n_B : Below w.heap.size w V2 := nB hV_V2
      have n_A : AP V2 ap s O := nA hV_V2
      have z_V2 := Nat.le_of_eq (congrArg (fun v : World => v.heap.size) hV_V2).symm
      try simp only [SZ] at z_V2
      clear kp c_kp f_kp
      clear hV_V2
      clear hA
      have hA := n_A
      clear n_A
      clear hB
      have hB := n_B
      clear n_B
      have kp := n_kp; clear n_kp
      have c_kp := cells_of kp
      have f_kp := free_of kp
      have l_kp_V2 := lt_of kp
      refine wp_region_noPanic ?_
      refine wp_region_held_drew (S := fun v => (∀ o, v.cell? ⟨W1.heap.size, o, none⟩ = V2.cell? ⟨W1.heap.size, o, none⟩) ∧ (V2.heap.size ≤ v.heap.size) ∧ AP v ap s O) (by kernel_rfl) ⟨(fun _ => rfl), (Nat.le_refl _), hA.drew⟩ (fun hHeld => ?_)
      generalize hV_V2d : V2.drew = V2d at hHeld ⊢
      have n_kp : V2d.heap[W1.heap.size]? = V2.heap[W1.heap.size]? := by rw [← hV_V2d]; rfl
      have d_kp := n_kp.trans kp
      clear n_kp c_kp f_kp
      have n_A : AP V2d ap s O := by rw [← hV_V2d]; exact hA.drew
      clear hA; have hA := n_A; clear n_A
      have n_B : Below w.heap.size w V2d := by rw [← hV_V2d]; exact hB.drew
      clear hB; have hB := n_B; clear n_B
      have z_V2d : V2.heap.size ≤ V2d.heap.size := by rw [← hV_V2d]; exact Nat.le_refl _
      have v_kp := cells_of kp
      clear kp; have kp := d_kp; clear d_kp
      have c_kp := cells_of kp
      have f_kp := free_of kp
      have l_kp_V2d := lt_of kp
      clear hV_V2d
      refine ty (i := 0) (v := ?_) rfl hHeld ?_ ?_
      rotate_left
      focus (intro w hSw; go_simp; (try simp only [IntWalk.i64_left]); try (with_reducible rfl))
      try simp only [PT]
      refine ty (i := 1) (v := ?_) rfl hHeld ?_ ?_
      rotate_left
      focus (intro w hSw; go_simp; (try simp only [IntWalk.i64_left]); try (with_reducible rfl))
      try simp only [PT]
      refine ty (i := 2) (v := ?_) rfl hHeld ?_ ?_
      rotate_left
      focus (intro w hSw; go_simp; (try simp only [IntWalk.i64_left]); try (with_reducible rfl))
      try simp only [PT]
      refine ty (i := 3) (v := ?_) rfl hHeld ?_ ?_
      rotate_left
      focus (intro w hSw; go_simp; (try simp only [IntWalk.i64_left]); try (with_reducible rfl))
      try simp only [PT]
      refine ty (i := 5) (v := ?_) rfl hHeld ?_ ?_
      rotate_left
      focus (intro w hSw; go_simp; (try simp only [IntWalk.i64_left]); try (with_reducible rfl))
      try simp only [PT]
      refine ty (i := 6) (v := ?_) rfl hHeld ?_ ?_
      rotate_left
      focus (intro w hSw; go_simp; (try simp only [IntWalk.i64_left]); try (with_reducible rfl))
      try simp only [PT]
      refine ty (i := 7) (v := ?_) rfl hHeld ?_ ?_
      rotate_left
      focus (intro w hSw; go_simp; (try simp only [IntWalk.i64_left]); try (with_reducible rfl))
      try simp only [PT]
      refine ty (i := 8) (v := ?_) rfl hHeld ?_ ?_
      rotate_left
      focus (intro w hSw; go_simp; (try simp only [IntWalk.i64_left]); try (with_reducible rfl))
      try simp only [PT]
      refine ty (i := 9) (v := ?_) rfl hHeld ?_ ?_
      rotate_left
      focus (intro w hSw; go_simp; (try simp only [IntWalk.i64_left]); try (with_reducible rfl))
      try simp only [PT]
      refine wpAnyH_ready (rs := [4]) (by kernel_rfl) (by simp) ?_
      refine ready_at rfl (fun K hK => ?_) AllReadyH.nil
      go_simp
      try simp only [IntWalk.i64_left]
      refine (wBefore_calls _ _ _ Hp.out _ hA).mono ?_
      rintro e_W3 W3 ⟨rfl, hb_W3⟩
      replace hA := hA.below hb_W3
      replace hB := below_step hB hb_W3
      replace kp := keep_blk hb_W3 kp
      have c_kp := cells_of kp
      have f_kp := free_of kp
      have l_kp_W3 := lt_of kp
      have z_W3 := hb_W3.size
      clear hb_W3
      refine hK.out _ _ ⟨(fun o => (c_kp o).trans (v_kp o).symm), (by omega), hA⟩ (fun hHeld => ?_)
      clear hK K
      try simp only [PT]
      refine wpAnyH_ready (rs := [10]) (by kernel_rfl) (by simp) ?_
      refine ready_at rfl (fun K hK => ?_) AllReadyH.nil
      go_simp
      try simp only [IntWalk.i64_left]
      refine (wRank_calls _ _ _ _ Hq.out _ hA).mono ?_
      rintro e_W4 W4 ⟨rfl, hb_W4⟩
      replace hA := hA.below hb_W4
      replace hB := below_step hB hb_W4
      replace kp := keep_blk hb_W4 kp
      have c_kp := cells_of kp
      have f_kp := free_of kp
      have l_kp_W4 := lt_of kp
      have z_W4 := hb_W4.size
      clear hb_W4
      refine hK.out _ _ ⟨(fun o => (c_kp o).trans (v_kp o).symm), (by omega), hA⟩ (fun hHeld => ?_)
      clear hK K
      try simp only [PT]
      refine ty (i := 11) (v := ?_) rfl hHeld ?_ ?_
      rotate_left
      focus (intro w hSw; go_simp; (try simp only [IntWalk.i64_left]); try (with_reducible rfl))
      try simp only [PT]
      refine wpAnyH_ready (rs := [12]) (by kernel_rfl) (by simp) ?_
      refine ready_at rfl (fun K hK => ?_) AllReadyH.nil
      go_simp
      refine hK.out _ _ hHeld (fun hHeld => ?_)
      clear hK K
      try simp only [PT]
      refine wpAnyH_ready (rs := [13]) (by kernel_rfl) (by simp) ?_
      refine ready_at rfl (fun K hK => ?_) AllReadyH.nil
      go_simp
      refine hK.out _ _ hHeld (fun hHeld => ?_)
      clear hK K
      try simp only [PT]
      refine wpAnyH_done (by kernel_rfl) ?_ _
      refine NoPanic.normal ?_
      go_wp2_with fail
      go_ret2
      exact ⟨by simp only [IntWalk.i64_left]; rfl, hB⟩
end Go.Proofs.Ytkgabbenmoocgaa
