/- Lists in an arena: an item, all items; tables. -/
import Derived.Test.YtkgabbenmoocgaaLTree
import Derived.Test.YtkgabbenmoocgaaLoops
namespace Go.Proofs.Ytkgabbenmoocgaa
set_option linter.unusedSimpArgs false
set_option linter.unusedVariables false
set_option linter.unnecessarySimpa false
open Go.RowKit
attribute [local go_sem ↓] Go.wp_at_zero Go.wp_at_succ
attribute [local go_sem] lt_s2 lt_s3 lt_s4
attribute [local go_sem] idx0 idx1 idx2 idx3
variable {ap : Value} {s : Ar} {O : Nat → Prop}
set_option maxRecDepth 100000 in
set_option maxHeartbeats 2000000 in
theorem lGet_calls (h i : Int) (r : (Int × Int) × Bool) (hr : lGet s h i = some r) (w : World) (hA : AP w ap s O) :
    Calls Try.prog 93 #[ap, .int .i64 h, .int .i64 i] w fun e w' => e = .returned (.tuple #[.agg #[.int .i64 r.1.1, .int .i64 r.1.2], .bool r.2]) ∧ Below w.heap.size w w' := by
  unfold lGet at hr
  by_cases h1 : i < 0
  · rw [if_pos (.inl h1)] at hr
    have d1 : decide (i < 0) = true := by simpa using h1
    obtain rfl := Option.some.inj hr
    clear h1 hr
    go_enter Try.func93, Try.ntmps93
    go_wp2_with fail
    refine bodyPost_ret (v := .tuple #[.agg #[.int .i64 0, .int .i64 0], .bool false]) (by simp [results, Try.results93, go_sem, *]) rfl ⟨rfl, by (repeat' first | with_reducible assumption | with_reducible exact Below.refl _ _ | with_reducible refine Below.alloc ?_ ?_ _ | with_reducible refine Below.setCell ?_ ?_ _ | with_reducible refine below_drewN ?_ _ | with_reducible refine Below.drew ?_ | exact Nat.le_refl _ | ((try dsimp only); omega) | (simp only [siz_alloc, siz_set]; omega))⟩
  · have d1 : decide (i < 0) = false := by simpa using h1
    by_cases h2 : lLen s h ≤ i
    · rw [if_pos (.inr h2)] at hr
      have d2 : decide (lLen s h ≤ i) = true := by simpa using h2
      obtain rfl := Option.some.inj hr
      clear h1 h2 hr
      go_enter Try.func93, Try.ntmps93
      go_wp2_with fail
      refine calls_gen fun V hV_V => ?_
      have n_kr := congrArg (fun v : World => v.heap[w.heap.size]?) hV_V
      simp (maxDischargeDepth := 9) only [BK, not_false_eq_true, reduceCtorEq] at n_kr
      have o_kr : ¬ O (w.heap.size) := by first | exact hA.new (Nat.le_refl _) | exact hA.new (by omega)
      have n_B : Below w.heap.size w V := nB hV_V
      have n_A : AP V ap s O := nA hV_V
      have z_V := Nat.le_of_eq (congrArg (fun v : World => v.heap.size) hV_V).symm
      try simp only [SZ] at z_V
      clear hV_V
      clear hA
      have hA := n_A
      clear n_A
      skip
      have hB := n_B
      clear n_B
      have kr := n_kr; clear n_kr
      have c_kr := cells_of kr
      have f_kr := free_of kr
      have l_kr_V := lt_of kr
      refine (lLen_calls _ _ hA).mono ?_
      rintro e_W1 W1 ⟨rfl, hb_W1⟩
      replace hA := hA.below hb_W1
      replace hB := below_step hB hb_W1
      replace kr := keep_blk hb_W1 kr
      have c_kr := cells_of kr
      have f_kr := free_of kr
      have l_kr_W1 := lt_of kr
      have z_W1 := hb_W1.size
      clear hb_W1
      go_wp2_with fail
      refine bodyPost_ret (v := .tuple #[.agg #[.int .i64 0, .int .i64 0], .bool false]) (by simp [results, Try.results93, go_sem, *]) rfl ⟨rfl, by (repeat' first | with_reducible assumption | with_reducible exact Below.refl _ _ | with_reducible refine Below.alloc ?_ ?_ _ | with_reducible refine Below.setCell ?_ ?_ _ | with_reducible refine below_drewN ?_ _ | with_reducible refine Below.drew ?_ | exact Nat.le_refl _ | ((try dsimp only); omega) | (simp only [siz_alloc, siz_set]; omega))⟩
    · rw [if_neg (by omega)] at hr
      have d2 : decide (lLen s h ≤ i) = false := by simpa using h2
      clear h1 h2
      obtain ⟨b, hb, rfl⟩ := Option.map_eq_some_iff.1 hr
      have hb' := Lib.hid hb; clear hb hr
      have hA0 := Lib.hid hA
      go_enter Try.func93, Try.ntmps93
      go_wp2_with fail
      refine calls_gen fun V hV_V => ?_
      have n_kr := congrArg (fun v : World => v.heap[w.heap.size]?) hV_V
      simp (maxDischargeDepth := 9) only [BK, not_false_eq_true, reduceCtorEq] at n_kr
      have o_kr : ¬ O (w.heap.size) := by first | exact hA.new (Nat.le_refl _) | exact hA.new (by omega)
      have n_B : Below w.heap.size w V := nB hV_V
      have n_A : AP V ap s O := nA hV_V
      have z_V := Nat.le_of_eq (congrArg (fun v : World => v.heap.size) hV_V).symm
      try simp only [SZ] at z_V
      clear hV_V
      clear hA
      have hA := n_A
      clear n_A
      skip
      have hB := n_B
      clear n_B
      have kr := n_kr; clear n_kr
      have c_kr := cells_of kr
      have f_kr := free_of kr
      have l_kr_V := lt_of kr
      refine (lLen_calls _ _ hA).mono ?_
      rintro e_W1 W1 ⟨rfl, hb_W1⟩
      replace hA := hA.below hb_W1
      replace hB := below_step hB hb_W1
      replace kr := keep_blk hb_W1 kr
      have c_kr := cells_of kr
      have f_kr := free_of kr
      have l_kr_W1 := lt_of kr
      have z_W1 := hb_W1.size
      clear hb_W1
      go_wp2_with fail
      refine calls_gen fun V1 hV_V1 => ?_
      have n_kr := congrArg (fun v : World => v.heap[w.heap.size]?) hV_V1
      simp (maxDischargeDepth := 9) only [BK, not_false_eq_true, reduceCtorEq, kr, l_kr_V, l_kr_W1] at n_kr
      have n_B : Below w.heap.size w V1 := nB hV_V1
      have n_A : AP V1 ap s O := nA hV_V1
      have z_V1 := Nat.le_of_eq (congrArg (fun v : World => v.heap.size) hV_V1).symm
      try simp only [SZ] at z_V1
      clear kr c_kr f_kr
      clear hV_V1
      clear hA
      have hA := n_A
      clear n_A
      clear hB
      have hB := n_B
      clear n_B
      have kr := n_kr; clear n_kr
      have c_kr := cells_of kr
      have f_kr := free_of kr
      have l_kr_V1 := lt_of kr
      refine (lRow_calls _ _ hA).mono ?_
      rintro e_W2 W2 ⟨rfl, hb_W2⟩
      replace hA := hA.below hb_W2
      replace hB := below_step hB hb_W2
      replace kr := keep_blk hb_W2 kr
      have c_kr := cells_of kr
      have f_kr := free_of kr
      have l_kr_W2 := lt_of kr
      have z_W2 := hb_W2.size
      clear hb_W2
      unfold Nd.val
      go_wp2_with fail
      refine wp_gen fun V2 hV_V2 => ?_
      have n_kr := congrArg (fun v : World => v.heap[w.heap.size]?) hV_V2
      simp (maxDischargeDepth := 9) only [BK, not_false_eq_true, reduceCtorEq, kr, l_kr_V, l_kr_W1, l_kr_V1, l_kr_W2] at n_kr
      have n_kn := congrArg (fun v : World => v.heap[W2.heap.size]?) hV_V2
      simp (maxDischargeDepth := 9) only [BK, not_false_eq_true, reduceCtorEq, kr, l_kr_V, l_kr_W1, l_kr_V1, l_kr_W2] at n_kn
      have o_kn : ¬ O (W2.heap.size) := by first | exact hA.new (Nat.le_refl _) | exact hA.new (by omega)
      have n_B : Below w.heap.size w V2 := nB hV_V2
      have n_A : AP V2 ap s O := nA hV_V2
      have z_V2 := Nat.le_of_eq (congrArg (fun v : World => v.heap.size) hV_V2).symm
      try simp only [SZ] at z_V2
      clear kr c_kr f_kr
      clear hV_V2
      clear hA
      have hA := n_A
      clear n_A
      clear hB
      have hB := n_B
      clear n_B
      have kr := n_kr; clear n_kr
      have c_kr := cells_of kr
      have f_kr := free_of kr
      have l_kr_V2 := lt_of kr
      have kn := n_kn; clear n_kn
      have c_kn := cells_of kn
      have f_kn := free_of kn
      have l_kn_V2 := lt_of kn
      go_loopg [1, 2] rounds (fun k p q wr => ∃ x y : Int, p = .int .i64 x ∧ q = .int .i64 y ∧ wr.heap[W2.heap.size]? = some (.cells #[.int .i64 (s.get x).tag, .int .i64 (s.get x).k0, .int .i64 (s.get x).k1, .int .i64 (s.get x).k2, .int .i64 (s.get x).k3, .int .u64 (s.get x).a, .int .u64 (s.get x).b] 47 (0, 0)) ∧ wr.heap[w.heap.size]? = some (.cells #[.int .i64 0, .int .i64 0] 76 (0, 0)) ∧ Below w.heap.size w wr ∧ Hid (lGetL k s x y = some b))
      case atStart => exact ⟨h, i, rfl, rfl, kn, kr, hB, hb'⟩
      case round =>
        clear kn kr c_kn c_kr f_kn f_kr hA hB hb'
        obtain ⟨x, y, rfl, rfl, kn, kr, hB, hb'⟩ := hrel
        have hA := hA0.out.below hB
        have c_kn := cells_of kn
        have f_kn := free_of kn
        have l_kn_wr := lt_of kn
        have c_kr := cells_of kr
        have f_kr := free_of kr
        have l_kr_wr := lt_of kr
        have hb := hb'.out
        clear hb'
        cases gk with
        | zero => exact absurd hb (by simp [lGetL])
        | succ k =>
          unfold lGetL at hb
          by_cases h3 : (s.get x).tag = 5
          · rw [if_pos h3] at hb
            have d3 : ((s.get x).tag == 5) = true := by simpa using h3
            clear h3
            by_cases h4 : lLen s (s.get x).k0 ≤ y
            · rw [if_pos h4] at hb
              have d4 : decide (lLen s (s.get x).k0 ≤ y) = true := by simpa using h4
              have hb' := Lib.hid hb; clear hb h4
              go_wp2_with fail
              refine calls_gen fun V3 hV_V3 => ?_
              have n_kn := congrArg (fun v : World => v.heap[W2.heap.size]?) hV_V3
              simp (maxDischargeDepth := 9) only [BK, not_false_eq_true, reduceCtorEq, kn, kr, l_kn_wr, l_kr_wr, l_kr_W2] at n_kn
              have n_kr := congrArg (fun v : World => v.heap[w.heap.size]?) hV_V3
              simp (maxDischargeDepth := 9) only [BK, not_false_eq_true, reduceCtorEq, kn, kr, l_kn_wr, l_kr_wr, l_kr_W2] at n_kr
              have n_B : Below w.heap.size w V3 := nB hV_V3
              have n_A : AP V3 ap s O := nA hV_V3
              have z_V3 := Nat.le_of_eq (congrArg (fun v : World => v.heap.size) hV_V3).symm
              try simp only [SZ] at z_V3
              clear kn c_kn f_kn
              clear kr c_kr f_kr
              clear hV_V3
              clear hA
              have hA := n_A
              clear n_A
              clear hB
              have hB := n_B
              clear n_B
              have kn := n_kn; clear n_kn
              have c_kn := cells_of kn
              have f_kn := free_of kn
              have l_kn_V3 := lt_of kn
              have kr := n_kr; clear n_kr
              have c_kr := cells_of kr
              have f_kr := free_of kr
              have l_kr_V3 := lt_of kr
              refine (lLen_calls _ _ hA).mono ?_
              rintro e_W3 W3 ⟨rfl, hb_W3⟩
              replace hA := hA.below hb_W3
              replace hB := below_step hB hb_W3
              replace kn := keep_blk hb_W3 kn
              have c_kn := cells_of kn
              have f_kn := free_of kn
              have l_kn_W3 := lt_of kn
              replace kr := keep_blk hb_W3 kr
              have c_kr := cells_of kr
              have f_kr := free_of kr
              have l_kr_W3 := lt_of kr
              have z_W3 := hb_W3.size
              clear hb_W3
              go_wp2_with fail
              refine calls_gen fun V4 hV_V4 => ?_
              have n_kn := congrArg (fun v : World => v.heap[W2.heap.size]?) hV_V4
              simp (maxDischargeDepth := 9) only [BK, not_false_eq_true, reduceCtorEq, kn, kr, l_kn_wr, l_kr_wr, l_kr_W2, l_kn_V3, l_kr_V3, l_kn_W3, l_kr_W3] at n_kn
              have n_kr := congrArg (fun v : World => v.heap[w.heap.size]?) hV_V4
              simp (maxDischargeDepth := 9) only [BK, not_false_eq_true, reduceCtorEq, kn, kr, l_kn_wr, l_kr_wr, l_kr_W2, l_kn_V3, l_kr_V3, l_kn_W3, l_kr_W3] at n_kr
              have n_B : Below w.heap.size w V4 := nB hV_V4
              have n_A : AP V4 ap s O := nA hV_V4
              have z_V4 := Nat.le_of_eq (congrArg (fun v : World => v.heap.size) hV_V4).symm
              try simp only [SZ] at z_V4
              clear kn c_kn f_kn
              clear kr c_kr f_kr
              clear hV_V4
              clear hA
              have hA := n_A
              clear n_A
              clear hB
              have hB := n_B
              clear n_B
              have kn := n_kn; clear n_kn
              have c_kn := cells_of kn
              have f_kn := free_of kn
              have l_kn_V4 := lt_of kn
              have kr := n_kr; clear n_kr
              have c_kr := cells_of kr
              have f_kr := free_of kr
              have l_kr_V4 := lt_of kr
              refine (lRow_calls _ _ hA).mono ?_
              rintro e_W4 W4 ⟨rfl, hb_W4⟩
              replace hA := hA.below hb_W4
              replace hB := below_step hB hb_W4
              replace kn := keep_blk hb_W4 kn
              have c_kn := cells_of kn
              have f_kn := free_of kn
              have l_kn_W4 := lt_of kn
              replace kr := keep_blk hb_W4 kr
              have c_kr := cells_of kr
              have f_kr := free_of kr
              have l_kr_W4 := lt_of kr
              have z_W4 := hb_W4.size
              clear hb_W4
              unfold Nd.val
              go_wp2_with fail
              refine handed_gen fun V5 hV_V5 => ?_
              have n_kn := congrArg (fun v : World => v.heap[W2.heap.size]?) hV_V5
              simp (maxDischargeDepth := 9) only [BK, not_false_eq_true, reduceCtorEq, kn, kr, l_kn_wr, l_kr_wr, l_kr_W2, l_kn_V3, l_kr_V3, l_kn_W3, l_kr_W3, l_kn_V4, l_kr_V4, l_kn_W4, l_kr_W4] at n_kn
              have n_kr := congrArg (fun v : World => v.heap[w.heap.size]?) hV_V5
              simp (maxDischargeDepth := 9) only [BK, not_false_eq_true, reduceCtorEq, kn, kr, l_kn_wr, l_kr_wr, l_kr_W2, l_kn_V3, l_kr_V3, l_kn_W3, l_kr_W3, l_kn_V4, l_kr_V4, l_kn_W4, l_kr_W4] at n_kr
              have n_B : Below w.heap.size w V5 := nB hV_V5
              have n_A : AP V5 ap s O := nA hV_V5
              have z_V5 := Nat.le_of_eq (congrArg (fun v : World => v.heap.size) hV_V5).symm
              try simp only [SZ] at z_V5
              clear kn c_kn f_kn
              clear kr c_kr f_kr
              clear hV_V5
              clear hA
              have hA := n_A
              clear n_A
              clear hB
              have hB := n_B
              clear n_B
              have kn := n_kn; clear n_kn
              have c_kn := cells_of kn
              have f_kn := free_of kn
              have l_kn_V5 := lt_of kn
              have kr := n_kr; clear n_kr
              have c_kr := cells_of kr
              have f_kr := free_of kr
              have l_kr_V5 := lt_of kr
              go_roundg k
              case measure => omega
              case rel => exact ⟨_, _, rfl, rfl, kn, kr, hB, hb'⟩
            · rw [if_neg h4] at hb
              have d4 : decide (lLen s (s.get x).k0 ≤ y) = false := by simpa using h4
              have hb' := Lib.hid hb; clear hb h4
              go_wp2_with fail
              refine calls_gen fun V3 hV_V3 => ?_
              have n_kn := congrArg (fun v : World => v.heap[W2.heap.size]?) hV_V3
              simp (maxDischargeDepth := 9) only [BK, not_false_eq_true, reduceCtorEq, kn, kr, l_kn_wr, l_kr_wr, l_kr_W2] at n_kn
              have n_kr := congrArg (fun v : World => v.heap[w.heap.size]?) hV_V3
              simp (maxDischargeDepth := 9) only [BK, not_false_eq_true, reduceCtorEq, kn, kr, l_kn_wr, l_kr_wr, l_kr_W2] at n_kr
              have n_B : Below w.heap.size w V3 := nB hV_V3
              have n_A : AP V3 ap s O := nA hV_V3
              have z_V3 := Nat.le_of_eq (congrArg (fun v : World => v.heap.size) hV_V3).symm
              try simp only [SZ] at z_V3
              clear kn c_kn f_kn
              clear kr c_kr f_kr
              clear hV_V3
              clear hA
              have hA := n_A
              clear n_A
              clear hB
              have hB := n_B
              clear n_B
              have kn := n_kn; clear n_kn
              have c_kn := cells_of kn
              have f_kn := free_of kn
              have l_kn_V3 := lt_of kn
              have kr := n_kr; clear n_kr
              have c_kr := cells_of kr
              have f_kr := free_of kr
              have l_kr_V3 := lt_of kr
              refine (lLen_calls _ _ hA).mono ?_
              rintro e_W3 W3 ⟨rfl, hb_W3⟩
              replace hA := hA.below hb_W3
              replace hB := below_step hB hb_W3
              replace kn := keep_blk hb_W3 kn
              have c_kn := cells_of kn
              have f_kn := free_of kn
              have l_kn_W3 := lt_of kn
              replace kr := keep_blk hb_W3 kr
              have c_kr := cells_of kr
              have f_kr := free_of kr
              have l_kr_W3 := lt_of kr
              have z_W3 := hb_W3.size
              clear hb_W3
              go_wp2_with fail
              refine calls_gen fun V4 hV_V4 => ?_
              have n_kn := congrArg (fun v : World => v.heap[W2.heap.size]?) hV_V4
              simp (maxDischargeDepth := 9) only [BK, not_false_eq_true, reduceCtorEq, kn, kr, l_kn_wr, l_kr_wr, l_kr_W2, l_kn_V3, l_kr_V3, l_kn_W3, l_kr_W3] at n_kn
              have n_kr := congrArg (fun v : World => v.heap[w.heap.size]?) hV_V4
              simp (maxDischargeDepth := 9) only [BK, not_false_eq_true, reduceCtorEq, kn, kr, l_kn_wr, l_kr_wr, l_kr_W2, l_kn_V3, l_kr_V3, l_kn_W3, l_kr_W3] at n_kr
              have n_B : Below w.heap.size w V4 := nB hV_V4
              have n_A : AP V4 ap s O := nA hV_V4
              have z_V4 := Nat.le_of_eq (congrArg (fun v : World => v.heap.size) hV_V4).symm
              try simp only [SZ] at z_V4
              clear kn c_kn f_kn
              clear kr c_kr f_kr
              clear hV_V4
              clear hA
              have hA := n_A
              clear n_A
              clear hB
              have hB := n_B
              clear n_B
              have kn := n_kn; clear n_kn
              have c_kn := cells_of kn
              have f_kn := free_of kn
              have l_kn_V4 := lt_of kn
              have kr := n_kr; clear n_kr
              have c_kr := cells_of kr
              have f_kr := free_of kr
              have l_kr_V4 := lt_of kr
              refine (lRow_calls _ _ hA).mono ?_
              rintro e_W4 W4 ⟨rfl, hb_W4⟩
              replace hA := hA.below hb_W4
              replace hB := below_step hB hb_W4
              replace kn := keep_blk hb_W4 kn
              have c_kn := cells_of kn
              have f_kn := free_of kn
              have l_kn_W4 := lt_of kn
              replace kr := keep_blk hb_W4 kr
              have c_kr := cells_of kr
              have f_kr := free_of kr
              have l_kr_W4 := lt_of kr
              have z_W4 := hb_W4.size
              clear hb_W4
              unfold Nd.val
              go_wp2_with fail
              refine handed_gen fun V5 hV_V5 => ?_
              have n_kn := congrArg (fun v : World => v.heap[W2.heap.size]?) hV_V5
              simp (maxDischargeDepth := 9) only [BK, not_false_eq_true, reduceCtorEq, kn, kr, l_kn_wr, l_kr_wr, l_kr_W2, l_kn_V3, l_kr_V3, l_kn_W3, l_kr_W3, l_kn_V4, l_kr_V4, l_kn_W4, l_kr_W4] at n_kn
              have n_kr := congrArg (fun v : World => v.heap[w.heap.size]?) hV_V5
              simp (maxDischargeDepth := 9) only [BK, not_false_eq_true, reduceCtorEq, kn, kr, l_kn_wr, l_kr_wr, l_kr_W2, l_kn_V3, l_kr_V3, l_kn_W3, l_kr_W3, l_kn_V4, l_kr_V4, l_kn_W4, l_kr_W4] at n_kr
              have n_B : Below w.heap.size w V5 := nB hV_V5
              have n_A : AP V5 ap s O := nA hV_V5
              have z_V5 := Nat.le_of_eq (congrArg (fun v : World => v.heap.size) hV_V5).symm
              try simp only [SZ] at z_V5
              clear kn c_kn f_kn
              clear kr c_kr f_kr
              clear hV_V5
              clear hA
              have hA := n_A
              clear n_A
              clear hB
              have hB := n_B
              clear n_B
              have kn := n_kn; clear n_kn
              have c_kn := cells_of kn
              have f_kn := free_of kn
              have l_kn_V5 := lt_of kn
              have kr := n_kr; clear n_kr
              have c_kr := cells_of kr
              have f_kr := free_of kr
              have l_kr_V5 := lt_of kr
              go_roundg k
              case measure => omega
              case rel => exact ⟨_, _, rfl, rfl, kn, kr, hB, hb'⟩
          · rw [if_neg h3] at hb
            have d3 : ((s.get x).tag == 5) = false := by simpa using h3
            obtain rfl := Option.some.inj hb
            clear h3 hb
            go_wp2_with fail
            refine bodyPost_ret (v := .tuple #[.agg #[.int .i64 (wrap64 (s.get x).a), .int .i64 (wrap64 (s.get x).b)], .bool true]) (by simp [results, Try.results93, go_sem, *]) rfl ⟨rfl, by (repeat' first | with_reducible assumption | with_reducible exact Below.refl _ _ | with_reducible refine Below.alloc ?_ ?_ _ | with_reducible refine Below.setCell ?_ ?_ _ | with_reducible refine below_drewN ?_ _ | with_reducible refine Below.drew ?_ | exact Nat.le_refl _ | ((try dsimp only); omega) | (simp only [siz_alloc, siz_set]; omega))⟩
end Go.Proofs.Ytkgabbenmoocgaa
