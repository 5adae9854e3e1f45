/- The nodes of rows of bits, of rows of symbols, of lists. -/
import Derived.Test.YtkgabbenmoocgaaArenaGet
import Derived.Test.YtkgabbenmoocgaaHeld
namespace Go.Proofs.Ytkgabbenmoocgaa
set_option linter.unusedSimpArgs false
set_option linter.unusedVariables false
set_option linter.unnecessarySimpa false
open Go.RowKit
attribute [local go_sem ↓] Go.wp_at_zero Go.wp_at_succ
attribute [local go_sem] lt_s2 lt_s3 lt_s4
variable {ap : Value} {s : Ar} {O : Nat → Prop}
set_option maxRecDepth 100000 in
set_option maxHeartbeats 800000 in
theorem bRow_no (h : Int) (h1 : s.has h = false) (w : World) (hA : AP w ap s O) :
  Calls Try.prog 78 #[ap, .int .i64 h] w fun e w' => e = .returned (.tuple #[(s.get h).val, .bool false]) ∧ Below w.heap.size w w' := by
 unfold Nd.val
 go_enter Try.func78, Try.ntmps78
 go_wp2_with fail
 refine calls_gen fun V hV_V => ?_
 have n_k0 := congrArg (fun v : World => v.heap[w.heap.size]?) hV_V
 simp (maxDischargeDepth := 9) only [BK, not_false_eq_true, reduceCtorEq] at n_k0
 have o_k0 : ¬ O (w.heap.size) := by first | exact hA.new (Nat.le_refl _) | exact hA.new (by omega)
 have n_B : Below w.heap.size w V := nB hV_V
 have n_A : AP V ap s O := nA hV_V
 have z_V := Nat.le_of_eq (congrArg (fun v : World => v.heap.size) hV_V).symm
 try simp only [SZ] at z_V
 clear hV_V
 clear hA
 have hA := n_A
 clear n_A
 skip
 have hB := n_B
 clear n_B
 have k0 := n_k0; clear n_k0
 have c_k0 := cells_of k0
 have f_k0 := free_of k0
 have l_k0_V := lt_of k0
 refine (aget_calls _ _ hA).mono ?_
 rintro e_w1 w1 ⟨rfl, hb_w1⟩
 replace hA := hA.below hb_w1
 replace hB := below_step hB hb_w1
 replace k0 := keep_blk hb_w1 k0
 have c_k0 := cells_of k0
 have f_k0 := free_of k0
 have l_k0_w1 := lt_of k0
 have z_w1 := hb_w1.size
 clear hb_w1
 unfold Nd.val
 go_wp2_with fail
 refine wp_gen fun V1 hV_V1 => ?_
 have n_k0 := congrArg (fun v : World => v.heap[w.heap.size]?) hV_V1
 simp (maxDischargeDepth := 9) only [BK, not_false_eq_true, reduceCtorEq, k0, l_k0_V, l_k0_w1] at n_k0
 have n_k1 := congrArg (fun v : World => v.heap[w1.heap.size]?) hV_V1
 simp (maxDischargeDepth := 9) only [BK, not_false_eq_true, reduceCtorEq, k0, l_k0_V, l_k0_w1] at n_k1
 have o_k1 : ¬ O (w1.heap.size) := by first | exact hA.new (Nat.le_refl _) | exact hA.new (by omega)
 have n_B : Below w.heap.size w V1 := nB hV_V1
 have n_A : AP V1 ap s O := nA hV_V1
 have z_V1 := Nat.le_of_eq (congrArg (fun v : World => v.heap.size) hV_V1).symm
 try simp only [SZ] at z_V1
 clear k0 c_k0 f_k0
 clear hV_V1
 clear hA
 have hA := n_A
 clear n_A
 clear hB
 have hB := n_B
 clear n_B
 have k0 := n_k0; clear n_k0
 have c_k0 := cells_of k0
 have f_k0 := free_of k0
 have l_k0_V1 := lt_of k0
 have k1 := n_k1; clear n_k1
 have c_k1 := cells_of k1
 have f_k1 := free_of k1
 have l_k1_V1 := lt_of k1
 refine wp_region_noPanic ?_
 refine wp_region_held_drew (S := fun v => (∀ o, v.cell? ⟨w1.heap.size, o, none⟩ = V1.cell? ⟨w1.heap.size, o, none⟩) ∧ (V1.heap.size ≤ v.heap.size) ∧ AP v ap s O) (by kernel_rfl) ⟨(fun _ => rfl), (Nat.le_refl _), hA.drew⟩ (fun hHeld => ?_)
 generalize hV_V1d : V1.drew = V1d at hHeld ⊢
 have n_k0 : V1d.heap[w.heap.size]? = V1.heap[w.heap.size]? := by rw [← hV_V1d]; rfl
 have d_k0 := n_k0.trans k0
 clear n_k0 c_k0 f_k0
 have n_k1 : V1d.heap[w1.heap.size]? = V1.heap[w1.heap.size]? := by rw [← hV_V1d]; rfl
 have d_k1 := n_k1.trans k1
 clear n_k1 c_k1 f_k1
 have n_A : AP V1d ap s O := by rw [← hV_V1d]; exact hA.drew
 clear hA; have hA := n_A; clear n_A
 have n_B : Below w.heap.size w V1d := by rw [← hV_V1d]; exact hB.drew
 clear hB; have hB := n_B; clear n_B
 have z_V1d : V1.heap.size ≤ V1d.heap.size := by rw [← hV_V1d]; exact Nat.le_refl _
 have v_k1 := cells_of k1
 clear k0; have k0 := d_k0; clear d_k0
 clear k1; have k1 := d_k1; clear d_k1
 have c_k0 := cells_of k0
 have f_k0 := free_of k0
 have l_k0_V1d := lt_of k0
 have c_k1 := cells_of k1
 have f_k1 := free_of k1
 have l_k1_V1d := lt_of k1
 clear hV_V1d
 refine ty (i := 0) (v := ?_) rfl hHeld ?_ ?_
 rotate_left
 focus (intro w hSw; go_simp; (try simp only [IntWalk.i64_left]); try (with_reducible rfl))
 try simp only [PT]
 refine ty (i := 1) (v := ?_) rfl hHeld ?_ ?_
 rotate_left
 focus (intro w hSw; go_simp; (try simp only [IntWalk.i64_left]); try (with_reducible rfl))
 try simp only [PT]
 refine ty (i := 2) (v := ?_) rfl hHeld ?_ ?_
 rotate_left
 focus (intro w hSw; go_simp; (try simp only [IntWalk.i64_left]); try (with_reducible rfl))
 try simp only [PT]
 refine take_no (i := 3) rfl (by kernel_rfl) (by kernel_rfl) (by kernel_rfl) (fun _ _ _ h => h) (by rfl) hHeld ?_
 try simp only [PT]
 refine take_no (i := 4) rfl (by kernel_rfl) (by kernel_rfl) (by kernel_rfl) (fun _ _ _ h => h) (by rfl) hHeld ?_
 try simp only [PT]
 refine take_no (i := 5) rfl (by kernel_rfl) (by kernel_rfl) (by kernel_rfl) (fun _ _ _ h => h) (by rfl) hHeld ?_
 try simp only [PT]
 refine take_no (i := 6) rfl (by kernel_rfl) (by kernel_rfl) (by kernel_rfl) (fun _ _ _ h => h) (by rfl) hHeld ?_
 try simp only [PT]
 refine ty (i := 7) (v := ?_) rfl hHeld ?_ ?_
 rotate_left
 focus (intro w hSw; go_simp; (try simp only [IntWalk.i64_left]); try (with_reducible rfl))
 try simp only [PT]
 refine ty (i := 8) (v := ?_) rfl hHeld ?_ ?_
 rotate_left
 focus (intro w hSw; go_simp; (try simp only [IntWalk.i64_left]); try (with_reducible rfl))
 try simp only [PT]
 refine take_no (i := 9) rfl (by kernel_rfl) (by kernel_rfl) (by kernel_rfl) (fun _ _ _ h => h) (by rfl) hHeld ?_
 try simp only [PT]
 refine take_no (i := 10) rfl (by kernel_rfl) (by kernel_rfl) (by kernel_rfl) (fun _ _ _ h => h) (by rfl) hHeld ?_
 try simp only [PT]
 refine take_no (i := 11) rfl (by kernel_rfl) (by kernel_rfl) (by kernel_rfl) (fun _ _ _ h => h) (by rfl) hHeld ?_
 try simp only [PT]
 refine take_no (i := 12) rfl (by kernel_rfl) (by kernel_rfl) (by kernel_rfl) (fun _ _ _ h => h) (by rfl) hHeld ?_
 try simp only [PT]
 refine take_no (i := 13) rfl (by kernel_rfl) (by kernel_rfl) (by kernel_rfl) (fun _ _ _ h => h) (by rfl) hHeld ?_
 try simp only [PT]
 refine take_no (i := 14) rfl (by kernel_rfl) (by kernel_rfl) (by kernel_rfl) (fun _ _ _ h => h) (by rfl) hHeld ?_
 try simp only [PT]
 refine take_no (i := 15) rfl (by kernel_rfl) (by kernel_rfl) (by kernel_rfl) (fun _ _ _ h => h) (by rfl) hHeld ?_
 try simp only [PT]
 refine take_no (i := 16) rfl (by kernel_rfl) (by kernel_rfl) (by kernel_rfl) (fun _ _ _ h => h) (by rfl) hHeld ?_
 try simp only [PT]
 refine ty (i := 17) (v := ?_) rfl hHeld ?_ ?_
 rotate_left
 focus (intro w hSw; go_simp; (try simp only [IntWalk.i64_left]); try (with_reducible rfl))
 try simp only [PT]
 refine wpAnyH_ready (rs := [18]) (by kernel_rfl) (by simp) ?_
 refine ready_at rfl (fun K hK => ?_) AllReadyH.nil
 go_simp
 refine gen_app (K := K) (fun D hV_D => ?_)
 have n_k0 := congrArg (fun v : World => v.heap[w.heap.size]?) hV_D
 simp (maxDischargeDepth := 9) only [BK, not_false_eq_true, reduceCtorEq, k0, k1, l_k0_V, l_k0_w1, l_k0_V1, l_k1_V1, l_k0_V1d, l_k1_V1d] at n_k0
 have n_k1 := congrArg (fun v : World => v.heap[w1.heap.size]?) hV_D
 simp (maxDischargeDepth := 9) only [BK, not_false_eq_true, reduceCtorEq, k0, k1, l_k0_V, l_k0_w1, l_k0_V1, l_k1_V1, l_k0_V1d, l_k1_V1d] at n_k1
 have n_B : Below w.heap.size w D := nB hV_D
 have n_A : AP D ap s O := nA hV_D
 have z_D := Nat.le_of_eq (congrArg (fun v : World => v.heap.size) hV_D).symm
 try simp only [SZ] at z_D
 clear k0 c_k0 f_k0
 clear k1 c_k1 f_k1
 clear hV_D
 clear hA
 have hA := n_A
 clear n_A
 clear hB
 have hB := n_B
 clear n_B
 have k0 := n_k0; clear n_k0
 have c_k0 := cells_of k0
 have f_k0 := free_of k0
 have l_k0_D := lt_of k0
 have k1 := n_k1; clear n_k1
 have c_k1 := cells_of k1
 have f_k1 := free_of k1
 have l_k1_D := lt_of k1
 refine hK.out _ _ ⟨(fun o => (c_k1 o).trans (v_k1 o).symm), (by omega), hA⟩ (fun hHeld => ?_)
 clear hK K
 try simp only [PT]
 refine wpAnyH_ready (rs := [19]) (by kernel_rfl) (by simp) ?_
 refine ready_at rfl (fun K hK => ?_) AllReadyH.nil
 go_simp
 refine hK.out _ _ hHeld (fun hHeld => ?_)
 clear hK K
 try simp only [PT]
 refine wpAnyH_done (by kernel_rfl) ?_ _
 refine NoPanic.normal ?_
 go_wp2_with fail
 refine bodyPost_ret (v := .tuple #[(s.get h).val, .bool false]) (by simp [results, Try.results78, go_sem, Nd.val, *]) rfl ⟨rfl, hB⟩
set_option maxRecDepth 100000 in
set_option maxHeartbeats 800000 in
theorem bRow_dead (h : Int) (h1 : s.has h = true) (h2 : ¬ 0 < s.cnt h) (w : World) (hA : AP w ap s O) :
  Calls Try.prog 78 #[ap, .int .i64 h] w fun e w' => e = .returned (.tuple #[(s.get h).val, .bool false]) ∧ Below w.heap.size w w' := by
 unfold Nd.val
 have d1 : decide (0 < s.cnt h) = false := by simpa using h2
 clear h2
 go_enter Try.func78, Try.ntmps78
 go_wp2_with fail
 refine calls_gen fun V hV_V => ?_
 have n_k0 := congrArg (fun v : World => v.heap[w.heap.size]?) hV_V
 simp (maxDischargeDepth := 9) only [BK, not_false_eq_true, reduceCtorEq] at n_k0
 have o_k0 : ¬ O (w.heap.size) := by first | exact hA.new (Nat.le_refl _) | exact hA.new (by omega)
 have n_B : Below w.heap.size w V := nB hV_V
 have n_A : AP V ap s O := nA hV_V
 have z_V := Nat.le_of_eq (congrArg (fun v : World => v.heap.size) hV_V).symm
 try simp only [SZ] at z_V
 clear hV_V
 clear hA
 have hA := n_A
 clear n_A
 skip
 have hB := n_B
 clear n_B
 have k0 := n_k0; clear n_k0
 have c_k0 := cells_of k0
 have f_k0 := free_of k0
 have l_k0_V := lt_of k0
 refine (aget_calls _ _ hA).mono ?_
 rintro e_w1 w1 ⟨rfl, hb_w1⟩
 replace hA := hA.below hb_w1
 replace hB := below_step hB hb_w1
 replace k0 := keep_blk hb_w1 k0
 have c_k0 := cells_of k0
 have f_k0 := free_of k0
 have l_k0_w1 := lt_of k0
 have z_w1 := hb_w1.size
 clear hb_w1
 unfold Nd.val
 go_wp2_with fail
 refine wp_gen fun V1 hV_V1 => ?_
 have n_k0 := congrArg (fun v : World => v.heap[w.heap.size]?) hV_V1
 simp (maxDischargeDepth := 9) only [BK, not_false_eq_true, reduceCtorEq, k0, l_k0_V, l_k0_w1] at n_k0
 have n_k1 := congrArg (fun v : World => v.heap[w1.heap.size]?) hV_V1
 simp (maxDischargeDepth := 9) only [BK, not_false_eq_true, reduceCtorEq, k0, l_k0_V, l_k0_w1] at n_k1
 have o_k1 : ¬ O (w1.heap.size) := by first | exact hA.new (Nat.le_refl _) | exact hA.new (by omega)
 have n_B : Below w.heap.size w V1 := nB hV_V1
 have n_A : AP V1 ap s O := nA hV_V1
 have z_V1 := Nat.le_of_eq (congrArg (fun v : World => v.heap.size) hV_V1).symm
 try simp only [SZ] at z_V1
 clear k0 c_k0 f_k0
 clear hV_V1
 clear hA
 have hA := n_A
 clear n_A
 clear hB
 have hB := n_B
 clear n_B
 have k0 := n_k0; clear n_k0
 have c_k0 := cells_of k0
 have f_k0 := free_of k0
 have l_k0_V1 := lt_of k0
 have k1 := n_k1; clear n_k1
 have c_k1 := cells_of k1
 have f_k1 := free_of k1
 have l_k1_V1 := lt_of k1
 refine wp_region_noPanic ?_
 refine wp_region_held_drew (S := fun v => (∀ o, v.cell? ⟨w1.heap.size, o, none⟩ = V1.cell? ⟨w1.heap.size, o, none⟩) ∧ (V1.heap.size ≤ v.heap.size) ∧ AP v ap s O) (by kernel_rfl) ⟨(fun _ => rfl), (Nat.le_refl _), hA.drew⟩ (fun hHeld => ?_)
 generalize hV_V1d : V1.drew = V1d at hHeld ⊢
 have n_k0 : V1d.heap[w.heap.size]? = V1.heap[w.heap.size]? := by rw [← hV_V1d]; rfl
 have d_k0 := n_k0.trans k0
 clear n_k0 c_k0 f_k0
 have n_k1 : V1d.heap[w1.heap.size]? = V1.heap[w1.heap.size]? := by rw [← hV_V1d]; rfl
 have d_k1 := n_k1.trans k1
 clear n_k1 c_k1 f_k1
 have n_A : AP V1d ap s O := by rw [← hV_V1d]; exact hA.drew
 clear hA; have hA := n_A; clear n_A
 have n_B : Below w.heap.size w V1d := by rw [← hV_V1d]; exact hB.drew
 clear hB; have hB := n_B; clear n_B
 have z_V1d : V1.heap.size ≤ V1d.heap.size := by rw [← hV_V1d]; exact Nat.le_refl _
 have v_k1 := cells_of k1
 clear k0; have k0 := d_k0; clear d_k0
 clear k1; have k1 := d_k1; clear d_k1
 have c_k0 := cells_of k0
 have f_k0 := free_of k0
 have l_k0_V1d := lt_of k0
 have c_k1 := cells_of k1
 have f_k1 := free_of k1
 have l_k1_V1d := lt_of k1
 clear hV_V1d
 refine ty (i := 0) (v := ?_) rfl hHeld ?_ ?_
 rotate_left
 focus (intro w hSw; go_simp; (try simp only [IntWalk.i64_left]); try (with_reducible rfl))
 try simp only [PT]
 refine ty (i := 1) (v := ?_) rfl hHeld ?_ ?_
 rotate_left
 focus (intro w hSw; go_simp; (try simp only [IntWalk.i64_left]); try (with_reducible rfl))
 try simp only [PT]
 refine ty (i := 2) (v := ?_) rfl hHeld ?_ ?_
 rotate_left
 focus (intro w hSw; go_simp; (try simp only [IntWalk.i64_left]); try (with_reducible rfl))
 try simp only [PT]
 refine ty (i := 3) (v := ?_) rfl hHeld ?_ ?_
 rotate_left
 focus (intro w hSw; go_simp; (try simp only [IntWalk.i64_left]); try (with_reducible rfl))
 try simp only [PT]
 refine ty (i := 4) (v := ?_) rfl hHeld ?_ ?_
 rotate_left
 focus (intro w hSw; go_simp; (try simp only [IntWalk.i64_left]); try (with_reducible rfl))
 try simp only [PT]
 refine take_call (i := 5) (f := ?_) (args := ?_) (v := ?_) rfl (by kernel_rfl) (by kernel_rfl) (by kernel_rfl) (fun _ _ _ h => h) (by rfl) hHeld ?_ (fun v hSv => ?_) ?_
 rotate_left 3
 focus (intro v hSv; go_simp; constructor <;> with_reducible rfl)
 focus (obtain ⟨c0, zs, hAv⟩ := hSv; exact count_calls _ v hAv)
 try simp only [PT]
 refine ty (i := 6) (v := ?_) rfl hHeld ?_ ?_
 rotate_left
 focus (intro w hSw; go_simp; (try simp only [IntWalk.i64_left]); try (with_reducible rfl))
 try simp only [PT]
 refine ty (i := 7) (v := ?_) rfl hHeld ?_ ?_
 rotate_left
 focus (intro w hSw; go_simp; (try simp only [IntWalk.i64_left]); try (with_reducible rfl))
 try simp only [PT]
 refine ty (i := 8) (v := ?_) rfl hHeld ?_ ?_
 rotate_left
 focus (intro w hSw; go_simp; (try simp only [IntWalk.i64_left]); try (with_reducible rfl))
 try simp only [PT]
 refine take_no (i := 9) rfl (by kernel_rfl) (by kernel_rfl) (by kernel_rfl) (fun _ _ _ h => h) (by rfl) hHeld ?_
 try simp only [PT]
 refine take_no (i := 10) rfl (by kernel_rfl) (by kernel_rfl) (by kernel_rfl) (fun _ _ _ h => h) (by rfl) hHeld ?_
 try simp only [PT]
 refine take_no (i := 11) rfl (by kernel_rfl) (by kernel_rfl) (by kernel_rfl) (fun _ _ _ h => h) (by rfl) hHeld ?_
 try simp only [PT]
 refine take_no (i := 12) rfl (by kernel_rfl) (by kernel_rfl) (by kernel_rfl) (fun _ _ _ h => h) (by rfl) hHeld ?_
 try simp only [PT]
 refine take_no (i := 13) rfl (by kernel_rfl) (by kernel_rfl) (by kernel_rfl) (fun _ _ _ h => h) (by rfl) hHeld ?_
 try simp only [PT]
 refine take_no (i := 14) rfl (by kernel_rfl) (by kernel_rfl) (by kernel_rfl) (fun _ _ _ h => h) (by rfl) hHeld ?_
 try simp only [PT]
 refine take_no (i := 15) rfl (by kernel_rfl) (by kernel_rfl) (by kernel_rfl) (fun _ _ _ h => h) (by rfl) hHeld ?_
 try simp only [PT]
 refine take_no (i := 16) rfl (by kernel_rfl) (by kernel_rfl) (by kernel_rfl) (fun _ _ _ h => h) (by rfl) hHeld ?_
 try simp only [PT]
 refine ty (i := 17) (v := ?_) rfl hHeld ?_ ?_
 rotate_left
 focus (intro w hSw; go_simp; (try simp only [IntWalk.i64_left]); try (with_reducible rfl))
 try simp only [PT]
 refine wpAnyH_ready (rs := [18]) (by kernel_rfl) (by simp) ?_
 refine ready_at rfl (fun K hK => ?_) AllReadyH.nil
 go_simp
 refine gen_app (K := K) (fun D hV_D => ?_)
 have n_k0 := congrArg (fun v : World => v.heap[w.heap.size]?) hV_D
 simp (maxDischargeDepth := 9) only [BK, not_false_eq_true, reduceCtorEq, k0, k1, l_k0_V, l_k0_w1, l_k0_V1, l_k1_V1, l_k0_V1d, l_k1_V1d] at n_k0
 have n_k1 := congrArg (fun v : World => v.heap[w1.heap.size]?) hV_D
 simp (maxDischargeDepth := 9) only [BK, not_false_eq_true, reduceCtorEq, k0, k1, l_k0_V, l_k0_w1, l_k0_V1, l_k1_V1, l_k0_V1d, l_k1_V1d] at n_k1
 have n_B : Below w.heap.size w D := nB hV_D
 have n_A : AP D ap s O := nA hV_D
 have z_D := Nat.le_of_eq (congrArg (fun v : World => v.heap.size) hV_D).symm
 try simp only [SZ] at z_D
 clear k0 c_k0 f_k0
 clear k1 c_k1 f_k1
 clear hV_D
 clear hA
 have hA := n_A
 clear n_A
 clear hB
 have hB := n_B
 clear n_B
 have k0 := n_k0; clear n_k0
 have c_k0 := cells_of k0
 have f_k0 := free_of k0
 have l_k0_D := lt_of k0
 have k1 := n_k1; clear n_k1
 have c_k1 := cells_of k1
 have f_k1 := free_of k1
 have l_k1_D := lt_of k1
 refine hK.out _ _ ⟨(fun o => (c_k1 o).trans (v_k1 o).symm), (by omega), hA⟩ (fun hHeld => ?_)
 clear hK K
 try simp only [PT]
 refine wpAnyH_ready (rs := [19]) (by kernel_rfl) (by simp) ?_
 refine ready_at rfl (fun K hK => ?_) AllReadyH.nil
 go_simp
 refine hK.out _ _ hHeld (fun hHeld => ?_)
 clear hK K
 try simp only [PT]
 refine wpAnyH_done (by kernel_rfl) ?_ _
 refine NoPanic.normal ?_
 go_wp2_with fail
 refine bodyPost_ret (v := .tuple #[(s.get h).val, .bool false]) (by simp [results, Try.results78, go_sem, Nd.val, *]) rfl ⟨rfl, hB⟩
set_option maxRecDepth 100000 in
set_option maxHeartbeats 800000 in
theorem bRow_t1 (h : Int) (h1 : s.has h = true) (h2 : 0 < s.cnt h) (h3 : (s.get h).tag = 1) (w : World) (hA : AP w ap s O) :
  Calls Try.prog 78 #[ap, .int .i64 h] w fun e w' => e = .returned (.tuple #[(s.get h).val, .bool true]) ∧ Below w.heap.size w w' := by
 unfold Nd.val
 have d1 : decide (0 < s.cnt h) = true := by simpa using h2
 have d2 : ((s.get h).tag == 1) = true := by simpa using h3
 clear h2 h3
 go_enter Try.func78, Try.ntmps78
 go_wp2_with fail
 refine calls_gen fun V hV_V => ?_
 have n_k0 := congrArg (fun v : World => v.heap[w.heap.size]?) hV_V
 simp (maxDischargeDepth := 9) only [BK, not_false_eq_true, reduceCtorEq] at n_k0
 have o_k0 : ¬ O (w.heap.size) := by first | exact hA.new (Nat.le_refl _) | exact hA.new (by omega)
 have n_B : Below w.heap.size w V := nB hV_V
 have n_A : AP V ap s O := nA hV_V
 have z_V := Nat.le_of_eq (congrArg (fun v : World => v.heap.size) hV_V).symm
 try simp only [SZ] at z_V
 clear hV_V
 clear hA
 have hA := n_A
 clear n_A
 skip
 have hB := n_B
 clear n_B
 have k0 := n_k0; clear n_k0
 have c_k0 := cells_of k0
 have f_k0 := free_of k0
 have l_k0_V := lt_of k0
 refine (aget_calls _ _ hA).mono ?_
 rintro e_w1 w1 ⟨rfl, hb_w1⟩
 replace hA := hA.below hb_w1
 replace hB := below_step hB hb_w1
 replace k0 := keep_blk hb_w1 k0
 have c_k0 := cells_of k0
 have f_k0 := free_of k0
 have l_k0_w1 := lt_of k0
 have z_w1 := hb_w1.size
 clear hb_w1
 unfold Nd.val
 go_wp2_with fail
 refine wp_gen fun V1 hV_V1 => ?_
 have n_k0 := congrArg (fun v : World => v.heap[w.heap.size]?) hV_V1
 simp (maxDischargeDepth := 9) only [BK, not_false_eq_true, reduceCtorEq, k0, l_k0_V, l_k0_w1] at n_k0
 have n_k1 := congrArg (fun v : World => v.heap[w1.heap.size]?) hV_V1
 simp (maxDischargeDepth := 9) only [BK, not_false_eq_true, reduceCtorEq, k0, l_k0_V, l_k0_w1] at n_k1
 have o_k1 : ¬ O (w1.heap.size) := by first | exact hA.new (Nat.le_refl _) | exact hA.new (by omega)
 have n_B : Below w.heap.size w V1 := nB hV_V1
 have n_A : AP V1 ap s O := nA hV_V1
 have z_V1 := Nat.le_of_eq (congrArg (fun v : World => v.heap.size) hV_V1).symm
 try simp only [SZ] at z_V1
 clear k0 c_k0 f_k0
 clear hV_V1
 clear hA
 have hA := n_A
 clear n_A
 clear hB
 have hB := n_B
 clear n_B
 have k0 := n_k0; clear n_k0
 have c_k0 := cells_of k0
 have f_k0 := free_of k0
 have l_k0_V1 := lt_of k0
 have k1 := n_k1; clear n_k1
 have c_k1 := cells_of k1
 have f_k1 := free_of k1
 have l_k1_V1 := lt_of k1
 refine wp_region_noPanic ?_
 refine wp_region_held_drew (S := fun v => (∀ o, v.cell? ⟨w1.heap.size, o, none⟩ = V1.cell? ⟨w1.heap.size, o, none⟩) ∧ (V1.heap.size ≤ v.heap.size) ∧ AP v ap s O) (by kernel_rfl) ⟨(fun _ => rfl), (Nat.le_refl _), hA.drew⟩ (fun hHeld => ?_)
 generalize hV_V1d : V1.drew = V1d at hHeld ⊢
 have n_k0 : V1d.heap[w.heap.size]? = V1.heap[w.heap.size]? := by rw [← hV_V1d]; rfl
 have d_k0 := n_k0.trans k0
 clear n_k0 c_k0 f_k0
 have n_k1 : V1d.heap[w1.heap.size]? = V1.heap[w1.heap.size]? := by rw [← hV_V1d]; rfl
 have d_k1 := n_k1.trans k1
 clear n_k1 c_k1 f_k1
 have n_A : AP V1d ap s O := by rw [← hV_V1d]; exact hA.drew
 clear hA; have hA := n_A; clear n_A
 have n_B : Below w.heap.size w V1d := by rw [← hV_V1d]; exact hB.drew
 clear hB; have hB := n_B; clear n_B
 have z_V1d : V1.heap.size ≤ V1d.heap.size := by rw [← hV_V1d]; exact Nat.le_refl _
 have v_k1 := cells_of k1
 clear k0; have k0 := d_k0; clear d_k0
 clear k1; have k1 := d_k1; clear d_k1
 have c_k0 := cells_of k0
 have f_k0 := free_of k0
 have l_k0_V1d := lt_of k0
 have c_k1 := cells_of k1
 have f_k1 := free_of k1
 have l_k1_V1d := lt_of k1
 clear hV_V1d
 refine ty (i := 0) (v := ?_) rfl hHeld ?_ ?_
 rotate_left
 focus (intro w hSw; go_simp; (try simp only [IntWalk.i64_left]); try (with_reducible rfl))
 try simp only [PT]
 refine ty (i := 1) (v := ?_) rfl hHeld ?_ ?_
 rotate_left
 focus (intro w hSw; go_simp; (try simp only [IntWalk.i64_left]); try (with_reducible rfl))
 try simp only [PT]
 refine ty (i := 2) (v := ?_) rfl hHeld ?_ ?_
 rotate_left
 focus (intro w hSw; go_simp; (try simp only [IntWalk.i64_left]); try (with_reducible rfl))
 try simp only [PT]
 refine ty (i := 3) (v := ?_) rfl hHeld ?_ ?_
 rotate_left
 focus (intro w hSw; go_simp; (try simp only [IntWalk.i64_left]); try (with_reducible rfl))
 try simp only [PT]
 refine ty (i := 4) (v := ?_) rfl hHeld ?_ ?_
 rotate_left
 focus (intro w hSw; go_simp; (try simp only [IntWalk.i64_left]); try (with_reducible rfl))
 try simp only [PT]
 refine take_call (i := 5) (f := ?_) (args := ?_) (v := ?_) rfl (by kernel_rfl) (by kernel_rfl) (by kernel_rfl) (fun _ _ _ h => h) (by rfl) hHeld ?_ (fun v hSv => ?_) ?_
 rotate_left 3
 focus (intro v hSv; go_simp; constructor <;> with_reducible rfl)
 focus (obtain ⟨c0, zs, hAv⟩ := hSv; exact count_calls _ v hAv)
 try simp only [PT]
 refine ty (i := 6) (v := ?_) rfl hHeld ?_ ?_
 rotate_left
 focus (intro w hSw; go_simp; (try simp only [IntWalk.i64_left]); try (with_reducible rfl))
 try simp only [PT]
 refine ty (i := 7) (v := ?_) rfl hHeld ?_ ?_
 rotate_left
 focus (intro w hSw; go_simp; (try simp only [IntWalk.i64_left]); try (with_reducible rfl))
 try simp only [PT]
 refine ty (i := 8) (v := ?_) rfl hHeld ?_ ?_
 rotate_left
 focus (intro w hSw; go_simp; (try simp only [IntWalk.i64_left]); try (with_reducible rfl))
 try simp only [PT]
 refine ty (i := 9) (v := ?_) rfl hHeld ?_ ?_
 rotate_left
 focus (intro w hSw; go_simp; (try simp only [IntWalk.i64_left]); try (with_reducible rfl))
 try simp only [PT]
 refine ty (i := 10) (v := ?_) rfl hHeld ?_ ?_
 rotate_left
 focus (intro w hSw; go_simp; (try simp only [IntWalk.i64_left]); try (with_reducible rfl))
 try simp only [PT]
 refine ty (i := 11) (v := ?_) rfl hHeld ?_ ?_
 rotate_left
 focus (intro w hSw; go_simp; (try simp only [IntWalk.i64_left]); try (with_reducible rfl))
 try simp only [PT]
 refine ty (i := 12) (v := ?_) rfl hHeld ?_ ?_
 rotate_left
 focus (intro w hSw; go_simp; (try simp only [IntWalk.i64_left]); try (with_reducible rfl))
 try simp only [PT]
 refine take_no (i := 13) rfl (by kernel_rfl) (by kernel_rfl) (by kernel_rfl) (fun _ _ _ h => h) (by rfl) hHeld ?_
 try simp only [PT]
 refine take_no (i := 14) rfl (by kernel_rfl) (by kernel_rfl) (by kernel_rfl) (fun _ _ _ h => h) (by rfl) hHeld ?_
 try simp only [PT]
 refine take_no (i := 15) rfl (by kernel_rfl) (by kernel_rfl) (by kernel_rfl) (fun _ _ _ h => h) (by rfl) hHeld ?_
 try simp only [PT]
 refine ty (i := 16) (v := ?_) rfl hHeld ?_ ?_
 rotate_left
 focus (intro w hSw; go_simp; (try simp only [IntWalk.i64_left]); try (with_reducible rfl))
 try simp only [PT]
 refine ty (i := 17) (v := ?_) rfl hHeld ?_ ?_
 rotate_left
 focus (intro w hSw; go_simp; (try simp only [IntWalk.i64_left]); try (with_reducible rfl))
 try simp only [PT]
 refine wpAnyH_ready (rs := [18]) (by kernel_rfl) (by simp) ?_
 refine ready_at rfl (fun K hK => ?_) AllReadyH.nil
 go_simp
 refine gen_app (K := K) (fun D hV_D => ?_)
 have n_k0 := congrArg (fun v : World => v.heap[w.heap.size]?) hV_D
 simp (maxDischargeDepth := 9) only [BK, not_false_eq_true, reduceCtorEq, k0, k1, l_k0_V, l_k0_w1, l_k0_V1, l_k1_V1, l_k0_V1d, l_k1_V1d] at n_k0
 have n_k1 := congrArg (fun v : World => v.heap[w1.heap.size]?) hV_D
 simp (maxDischargeDepth := 9) only [BK, not_false_eq_true, reduceCtorEq, k0, k1, l_k0_V, l_k0_w1, l_k0_V1, l_k1_V1, l_k0_V1d, l_k1_V1d] at n_k1
 have n_B : Below w.heap.size w D := nB hV_D
 have n_A : AP D ap s O := nA hV_D
 have z_D := Nat.le_of_eq (congrArg (fun v : World => v.heap.size) hV_D).symm
 try simp only [SZ] at z_D
 clear k0 c_k0 f_k0
 clear k1 c_k1 f_k1
 clear hV_D
 clear hA
 have hA := n_A
 clear n_A
 clear hB
 have hB := n_B
 clear n_B
 have k0 := n_k0; clear n_k0
 have c_k0 := cells_of k0
 have f_k0 := free_of k0
 have l_k0_D := lt_of k0
 have k1 := n_k1; clear n_k1
 have c_k1 := cells_of k1
 have f_k1 := free_of k1
 have l_k1_D := lt_of k1
 refine hK.out _ _ ⟨(fun o => (c_k1 o).trans (v_k1 o).symm), (by omega), hA⟩ (fun hHeld => ?_)
 clear hK K
 try simp only [PT]
 refine wpAnyH_ready (rs := [19]) (by kernel_rfl) (by simp) ?_
 refine ready_at rfl (fun K hK => ?_) AllReadyH.nil
 go_simp
 refine hK.out _ _ hHeld (fun hHeld => ?_)
 clear hK K
 try simp only [PT]
 refine wpAnyH_done (by kernel_rfl) ?_ _
 refine NoPanic.normal ?_
 go_wp2_with fail
 refine bodyPost_ret (v := .tuple #[(s.get h).val, .bool true]) (by simp [results, Try.results78, go_sem, Nd.val, *]) rfl ⟨rfl, hB⟩
set_option maxRecDepth 100000 in
set_option maxHeartbeats 800000 in
theorem bRow_t2 (h : Int) (h1 : s.has h = true) (h2 : 0 < s.cnt h) (h3 : (s.get h).tag = 2) (w : World) (hA : AP w ap s O) :
  Calls Try.prog 78 #[ap, .int .i64 h] w fun e w' => e = .returned (.tuple #[(s.get h).val, .bool true]) ∧ Below w.heap.size w w' := by
 unfold Nd.val
 have d1 : decide (0 < s.cnt h) = true := by simpa using h2
 have d2 : ((s.get h).tag == 1) = false := by simp [h3]
 have d3 : ((s.get h).tag == 2) = true := by simpa using h3
 clear h2 h3
 go_enter Try.func78, Try.ntmps78
 go_wp2_with fail
 refine calls_gen fun V hV_V => ?_
 have n_k0 := congrArg (fun v : World => v.heap[w.heap.size]?) hV_V
 simp (maxDischargeDepth := 9) only [BK, not_false_eq_true, reduceCtorEq] at n_k0
 have o_k0 : ¬ O (w.heap.size) := by first | exact hA.new (Nat.le_refl _) | exact hA.new (by omega)
 have n_B : Below w.heap.size w V := nB hV_V
 have n_A : AP V ap s O := nA hV_V
 have z_V := Nat.le_of_eq (congrArg (fun v : World => v.heap.size) hV_V).symm
 try simp only [SZ] at z_V
 clear hV_V
 clear hA
 have hA := n_A
 clear n_A
 skip
 have hB := n_B
 clear n_B
 have k0 := n_k0; clear n_k0
 have c_k0 := cells_of k0
 have f_k0 := free_of k0
 have l_k0_V := lt_of k0
 refine (aget_calls _ _ hA).mono ?_
 rintro e_w1 w1 ⟨rfl, hb_w1⟩
 replace hA := hA.below hb_w1
 replace hB := below_step hB hb_w1
 replace k0 := keep_blk hb_w1 k0
 have c_k0 := cells_of k0
 have f_k0 := free_of k0
 have l_k0_w1 := lt_of k0
 have z_w1 := hb_w1.size
 clear hb_w1
 unfold Nd.val
 go_wp2_with fail
 refine wp_gen fun V1 hV_V1 => ?_
 have n_k0 := congrArg (fun v : World => v.heap[w.heap.size]?) hV_V1
 simp (maxDischargeDepth := 9) only [BK, not_false_eq_true, reduceCtorEq, k0, l_k0_V, l_k0_w1] at n_k0
 have n_k1 := congrArg (fun v : World => v.heap[w1.heap.size]?) hV_V1
 simp (maxDischargeDepth := 9) only [BK, not_false_eq_true, reduceCtorEq, k0, l_k0_V, l_k0_w1] at n_k1
 have o_k1 : ¬ O (w1.heap.size) := by first | exact hA.new (Nat.le_refl _) | exact hA.new (by omega)
 have n_B : Below w.heap.size w V1 := nB hV_V1
 have n_A : AP V1 ap s O := nA hV_V1
 have z_V1 := Nat.le_of_eq (congrArg (fun v : World => v.heap.size) hV_V1).symm
 try simp only [SZ] at z_V1
 clear k0 c_k0 f_k0
 clear hV_V1
 clear hA
 have hA := n_A
 clear n_A
 clear hB
 have hB := n_B
 clear n_B
 have k0 := n_k0; clear n_k0
 have c_k0 := cells_of k0
 have f_k0 := free_of k0
 have l_k0_V1 := lt_of k0
 have k1 := n_k1; clear n_k1
 have c_k1 := cells_of k1
 have f_k1 := free_of k1
 have l_k1_V1 := lt_of k1
 refine wp_region_noPanic ?_
 refine wp_region_held_drew (S := fun v => (∀ o, v.cell? ⟨w1.heap.size, o, none⟩ = V1.cell? ⟨w1.heap.size, o, none⟩) ∧ (V1.heap.size ≤ v.heap.size) ∧ AP v ap s O) (by kernel_rfl) ⟨(fun _ => rfl), (Nat.le_refl _), hA.drew⟩ (fun hHeld => ?_)
 generalize hV_V1d : V1.drew = V1d at hHeld ⊢
 have n_k0 : V1d.heap[w.heap.size]? = V1.heap[w.heap.size]? := by rw [← hV_V1d]; rfl
 have d_k0 := n_k0.trans k0
 clear n_k0 c_k0 f_k0
 have n_k1 : V1d.heap[w1.heap.size]? = V1.heap[w1.heap.size]? := by rw [← hV_V1d]; rfl
 have d_k1 := n_k1.trans k1
 clear n_k1 c_k1 f_k1
 have n_A : AP V1d ap s O := by rw [← hV_V1d]; exact hA.drew
 clear hA; have hA := n_A; clear n_A
 have n_B : Below w.heap.size w V1d := by rw [← hV_V1d]; exact hB.drew
 clear hB; have hB := n_B; clear n_B
 have z_V1d : V1.heap.size ≤ V1d.heap.size := by rw [← hV_V1d]; exact Nat.le_refl _
 have v_k1 := cells_of k1
 clear k0; have k0 := d_k0; clear d_k0
 clear k1; have k1 := d_k1; clear d_k1
 have c_k0 := cells_of k0
 have f_k0 := free_of k0
 have l_k0_V1d := lt_of k0
 have c_k1 := cells_of k1
 have f_k1 := free_of k1
 have l_k1_V1d := lt_of k1
 clear hV_V1d
 refine ty (i := 0) (v := ?_) rfl hHeld ?_ ?_
 rotate_left
 focus (intro w hSw; go_simp; (try simp only [IntWalk.i64_left]); try (with_reducible rfl))
 try simp only [PT]
 refine ty (i := 1) (v := ?_) rfl hHeld ?_ ?_
 rotate_left
 focus (intro w hSw; go_simp; (try simp only [IntWalk.i64_left]); try (with_reducible rfl))
 try simp only [PT]
 refine ty (i := 2) (v := ?_) rfl hHeld ?_ ?_
 rotate_left
 focus (intro w hSw; go_simp; (try simp only [IntWalk.i64_left]); try (with_reducible rfl))
 try simp only [PT]
 refine ty (i := 3) (v := ?_) rfl hHeld ?_ ?_
 rotate_left
 focus (intro w hSw; go_simp; (try simp only [IntWalk.i64_left]); try (with_reducible rfl))
 try simp only [PT]
 refine ty (i := 4) (v := ?_) rfl hHeld ?_ ?_
 rotate_left
 focus (intro w hSw; go_simp; (try simp only [IntWalk.i64_left]); try (with_reducible rfl))
 try simp only [PT]
 refine take_call (i := 5) (f := ?_) (args := ?_) (v := ?_) rfl (by kernel_rfl) (by kernel_rfl) (by kernel_rfl) (fun _ _ _ h => h) (by rfl) hHeld ?_ (fun v hSv => ?_) ?_
 rotate_left 3
 focus (intro v hSv; go_simp; constructor <;> with_reducible rfl)
 focus (obtain ⟨c0, zs, hAv⟩ := hSv; exact count_calls _ v hAv)
 try simp only [PT]
 refine ty (i := 6) (v := ?_) rfl hHeld ?_ ?_
 rotate_left
 focus (intro w hSw; go_simp; (try simp only [IntWalk.i64_left]); try (with_reducible rfl))
 try simp only [PT]
 refine ty (i := 7) (v := ?_) rfl hHeld ?_ ?_
 rotate_left
 focus (intro w hSw; go_simp; (try simp only [IntWalk.i64_left]); try (with_reducible rfl))
 try simp only [PT]
 refine ty (i := 8) (v := ?_) rfl hHeld ?_ ?_
 rotate_left
 focus (intro w hSw; go_simp; (try simp only [IntWalk.i64_left]); try (with_reducible rfl))
 try simp only [PT]
 refine ty (i := 9) (v := ?_) rfl hHeld ?_ ?_
 rotate_left
 focus (intro w hSw; go_simp; (try simp only [IntWalk.i64_left]); try (with_reducible rfl))
 try simp only [PT]
 refine ty (i := 10) (v := ?_) rfl hHeld ?_ ?_
 rotate_left
 focus (intro w hSw; go_simp; (try simp only [IntWalk.i64_left]); try (with_reducible rfl))
 try simp only [PT]
 refine ty (i := 11) (v := ?_) rfl hHeld ?_ ?_
 rotate_left
 focus (intro w hSw; go_simp; (try simp only [IntWalk.i64_left]); try (with_reducible rfl))
 try simp only [PT]
 refine ty (i := 12) (v := ?_) rfl hHeld ?_ ?_
 rotate_left
 focus (intro w hSw; go_simp; (try simp only [IntWalk.i64_left]); try (with_reducible rfl))
 try simp only [PT]
 refine ty (i := 13) (v := ?_) rfl hHeld ?_ ?_
 rotate_left
 focus (intro w hSw; go_simp; (try simp only [IntWalk.i64_left]); try (with_reducible rfl))
 try simp only [PT]
 refine ty (i := 14) (v := ?_) rfl hHeld ?_ ?_
 rotate_left
 focus (intro w hSw; go_simp; (try simp only [IntWalk.i64_left]); try (with_reducible rfl))
 try simp only [PT]
 refine ty (i := 15) (v := ?_) rfl hHeld ?_ ?_
 rotate_left
 focus (intro w hSw; go_simp; (try simp only [IntWalk.i64_left]); try (with_reducible rfl))
 try simp only [PT]
 refine ty (i := 16) (v := ?_) rfl hHeld ?_ ?_
 rotate_left
 focus (intro w hSw; go_simp; (try simp only [IntWalk.i64_left]); try (with_reducible rfl))
 try simp only [PT]
 refine ty (i := 17) (v := ?_) rfl hHeld ?_ ?_
 rotate_left
 focus (intro w hSw; go_simp; (try simp only [IntWalk.i64_left]); try (with_reducible rfl))
 try simp only [PT]
 refine wpAnyH_ready (rs := [18]) (by kernel_rfl) (by simp) ?_
 refine ready_at rfl (fun K hK => ?_) AllReadyH.nil
 go_simp
 refine gen_app (K := K) (fun D hV_D => ?_)
 have n_k0 := congrArg (fun v : World => v.heap[w.heap.size]?) hV_D
 simp (maxDischargeDepth := 9) only [BK, not_false_eq_true, reduceCtorEq, k0, k1, l_k0_V, l_k0_w1, l_k0_V1, l_k1_V1, l_k0_V1d, l_k1_V1d] at n_k0
 have n_k1 := congrArg (fun v : World => v.heap[w1.heap.size]?) hV_D
 simp (maxDischargeDepth := 9) only [BK, not_false_eq_true, reduceCtorEq, k0, k1, l_k0_V, l_k0_w1, l_k0_V1, l_k1_V1, l_k0_V1d, l_k1_V1d] at n_k1
 have n_B : Below w.heap.size w D := nB hV_D
 have n_A : AP D ap s O := nA hV_D
 have z_D := Nat.le_of_eq (congrArg (fun v : World => v.heap.size) hV_D).symm
 try simp only [SZ] at z_D
 clear k0 c_k0 f_k0
 clear k1 c_k1 f_k1
 clear hV_D
 clear hA
 have hA := n_A
 clear n_A
 clear hB
 have hB := n_B
 clear n_B
 have k0 := n_k0; clear n_k0
 have c_k0 := cells_of k0
 have f_k0 := free_of k0
 have l_k0_D := lt_of k0
 have k1 := n_k1; clear n_k1
 have c_k1 := cells_of k1
 have f_k1 := free_of k1
 have l_k1_D := lt_of k1
 refine hK.out _ _ ⟨(fun o => (c_k1 o).trans (v_k1 o).symm), (by omega), hA⟩ (fun hHeld => ?_)
 clear hK K
 try simp only [PT]
 refine wpAnyH_ready (rs := [19]) (by kernel_rfl) (by simp) ?_
 refine ready_at rfl (fun K hK => ?_) AllReadyH.nil
 go_simp
 refine hK.out _ _ hHeld (fun hHeld => ?_)
 clear hK K
 try simp only [PT]
 refine wpAnyH_done (by kernel_rfl) ?_ _
 refine NoPanic.normal ?_
 go_wp2_with fail
 refine bodyPost_ret (v := .tuple #[(s.get h).val, .bool true]) (by simp [results, Try.results78, go_sem, Nd.val, *]) rfl ⟨rfl, hB⟩
set_option maxRecDepth 100000 in
set_option maxHeartbeats 800000 in
theorem bRow_t3 (h : Int) (h1 : s.has h = true) (h2 : 0 < s.cnt h) (h3 : (s.get h).tag ≠ 1) (h4 : (s.get h).tag ≠ 2) (w : World) (hA : AP w ap s O) :
  Calls Try.prog 78 #[ap, .int .i64 h] w fun e w' => e = .returned (.tuple #[(s.get h).val, .bool false]) ∧ Below w.heap.size w w' := by
 unfold Nd.val
 have d1 : decide (0 < s.cnt h) = true := by simpa using h2
 have d2 : ((s.get h).tag == 1) = false := by simpa using h3
 have d3 : ((s.get h).tag == 2) = false := by simpa using h4
 clear h2 h3 h4
 go_enter Try.func78, Try.ntmps78
 go_wp2_with fail
 refine calls_gen fun V hV_V => ?_
 have n_k0 := congrArg (fun v : World => v.heap[w.heap.size]?) hV_V
 simp (maxDischargeDepth := 9) only [BK, not_false_eq_true, reduceCtorEq] at n_k0
 have o_k0 : ¬ O (w.heap.size) := by first | exact hA.new (Nat.le_refl _) | exact hA.new (by omega)
 have n_B : Below w.heap.size w V := nB hV_V
 have n_A : AP V ap s O := nA hV_V
 have z_V := Nat.le_of_eq (congrArg (fun v : World => v.heap.size) hV_V).symm
 try simp only [SZ] at z_V
 clear hV_V
 clear hA
 have hA := n_A
 clear n_A
 skip
 have hB := n_B
 clear n_B
 have k0 := n_k0; clear n_k0
 have c_k0 := cells_of k0
 have f_k0 := free_of k0
 have l_k0_V := lt_of k0
 refine (aget_calls _ _ hA).mono ?_
 rintro e_w1 w1 ⟨rfl, hb_w1⟩
 replace hA := hA.below hb_w1
 replace hB := below_step hB hb_w1
 replace k0 := keep_blk hb_w1 k0
 have c_k0 := cells_of k0
 have f_k0 := free_of k0
 have l_k0_w1 := lt_of k0
 have z_w1 := hb_w1.size
 clear hb_w1
 unfold Nd.val
 go_wp2_with fail
 refine wp_gen fun V1 hV_V1 => ?_
 have n_k0 := congrArg (fun v : World => v.heap[w.heap.size]?) hV_V1
 simp (maxDischargeDepth := 9) only [BK, not_false_eq_true, reduceCtorEq, k0, l_k0_V, l_k0_w1] at n_k0
 have n_k1 := congrArg (fun v : World => v.heap[w1.heap.size]?) hV_V1
 simp (maxDischargeDepth := 9) only [BK, not_false_eq_true, reduceCtorEq, k0, l_k0_V, l_k0_w1] at n_k1
 have o_k1 : ¬ O (w1.heap.size) := by first | exact hA.new (Nat.le_refl _) | exact hA.new (by omega)
 have n_B : Below w.heap.size w V1 := nB hV_V1
 have n_A : AP V1 ap s O := nA hV_V1
 have z_V1 := Nat.le_of_eq (congrArg (fun v : World => v.heap.size) hV_V1).symm
 try simp only [SZ] at z_V1
 clear k0 c_k0 f_k0
 clear hV_V1
 clear hA
 have hA := n_A
 clear n_A
 clear hB
 have hB := n_B
 clear n_B
 have k0 := n_k0; clear n_k0
 have c_k0 := cells_of k0
 have f_k0 := free_of k0
 have l_k0_V1 := lt_of k0
 have k1 := n_k1; clear n_k1
 have c_k1 := cells_of k1
 have f_k1 := free_of k1
 have l_k1_V1 := lt_of k1
 refine wp_region_noPanic ?_
 refine wp_region_held_drew (S := fun v => (∀ o, v.cell? ⟨w1.heap.size, o, none⟩ = V1.cell? ⟨w1.heap.size, o, none⟩) ∧ (V1.heap.size ≤ v.heap.size) ∧ AP v ap s O) (by kernel_rfl) ⟨(fun _ => rfl), (Nat.le_refl _), hA.drew⟩ (fun hHeld => ?_)
 generalize hV_V1d : V1.drew = V1d at hHeld ⊢
 have n_k0 : V1d.heap[w.heap.size]? = V1.heap[w.heap.size]? := by rw [← hV_V1d]; rfl
 have d_k0 := n_k0.trans k0
 clear n_k0 c_k0 f_k0
 have n_k1 : V1d.heap[w1.heap.size]? = V1.heap[w1.heap.size]? := by rw [← hV_V1d]; rfl
 have d_k1 := n_k1.trans k1
 clear n_k1 c_k1 f_k1
 have n_A : AP V1d ap s O := by rw [← hV_V1d]; exact hA.drew
 clear hA; have hA := n_A; clear n_A
 have n_B : Below w.heap.size w V1d := by rw [← hV_V1d]; exact hB.drew
 clear hB; have hB := n_B; clear n_B
 have z_V1d : V1.heap.size ≤ V1d.heap.size := by rw [← hV_V1d]; exact Nat.le_refl _
 have v_k1 := cells_of k1
 clear k0; have k0 := d_k0; clear d_k0
 clear k1; have k1 := d_k1; clear d_k1
 have c_k0 := cells_of k0
 have f_k0 := free_of k0
 have l_k0_V1d := lt_of k0
 have c_k1 := cells_of k1
 have f_k1 := free_of k1
 have l_k1_V1d := lt_of k1
 clear hV_V1d
 refine ty (i := 0) (v := ?_) rfl hHeld ?_ ?_
 rotate_left
 focus (intro w hSw; go_simp; (try simp only [IntWalk.i64_left]); try (with_reducible rfl))
 try simp only [PT]
 refine ty (i := 1) (v := ?_) rfl hHeld ?_ ?_
 rotate_left
 focus (intro w hSw; go_simp; (try simp only [IntWalk.i64_left]); try (with_reducible rfl))
 try simp only [PT]
 refine ty (i := 2) (v := ?_) rfl hHeld ?_ ?_
 rotate_left
 focus (intro w hSw; go_simp; (try simp only [IntWalk.i64_left]); try (with_reducible rfl))
 try simp only [PT]
 refine ty (i := 3) (v := ?_) rfl hHeld ?_ ?_
 rotate_left
 focus (intro w hSw; go_simp; (try simp only [IntWalk.i64_left]); try (with_reducible rfl))
 try simp only [PT]
 refine ty (i := 4) (v := ?_) rfl hHeld ?_ ?_
 rotate_left
 focus (intro w hSw; go_simp; (try simp only [IntWalk.i64_left]); try (with_reducible rfl))
 try simp only [PT]
 refine take_call (i := 5) (f := ?_) (args := ?_) (v := ?_) rfl (by kernel_rfl) (by kernel_rfl) (by kernel_rfl) (fun _ _ _ h => h) (by rfl) hHeld ?_ (fun v hSv => ?_) ?_
 rotate_left 3
 focus (intro v hSv; go_simp; constructor <;> with_reducible rfl)
 focus (obtain ⟨c0, zs, hAv⟩ := hSv; exact count_calls _ v hAv)
 try simp only [PT]
 refine ty (i := 6) (v := ?_) rfl hHeld ?_ ?_
 rotate_left
 focus (intro w hSw; go_simp; (try simp only [IntWalk.i64_left]); try (with_reducible rfl))
 try simp only [PT]
 refine ty (i := 7) (v := ?_) rfl hHeld ?_ ?_
 rotate_left
 focus (intro w hSw; go_simp; (try simp only [IntWalk.i64_left]); try (with_reducible rfl))
 try simp only [PT]
 refine ty (i := 8) (v := ?_) rfl hHeld ?_ ?_
 rotate_left
 focus (intro w hSw; go_simp; (try simp only [IntWalk.i64_left]); try (with_reducible rfl))
 try simp only [PT]
 refine ty (i := 9) (v := ?_) rfl hHeld ?_ ?_
 rotate_left
 focus (intro w hSw; go_simp; (try simp only [IntWalk.i64_left]); try (with_reducible rfl))
 try simp only [PT]
 refine ty (i := 10) (v := ?_) rfl hHeld ?_ ?_
 rotate_left
 focus (intro w hSw; go_simp; (try simp only [IntWalk.i64_left]); try (with_reducible rfl))
 try simp only [PT]
 refine ty (i := 11) (v := ?_) rfl hHeld ?_ ?_
 rotate_left
 focus (intro w hSw; go_simp; (try simp only [IntWalk.i64_left]); try (with_reducible rfl))
 try simp only [PT]
 refine ty (i := 12) (v := ?_) rfl hHeld ?_ ?_
 rotate_left
 focus (intro w hSw; go_simp; (try simp only [IntWalk.i64_left]); try (with_reducible rfl))
 try simp only [PT]
 refine ty (i := 13) (v := ?_) rfl hHeld ?_ ?_
 rotate_left
 focus (intro w hSw; go_simp; (try simp only [IntWalk.i64_left]); try (with_reducible rfl))
 try simp only [PT]
 refine ty (i := 14) (v := ?_) rfl hHeld ?_ ?_
 rotate_left
 focus (intro w hSw; go_simp; (try simp only [IntWalk.i64_left]); try (with_reducible rfl))
 try simp only [PT]
 refine ty (i := 15) (v := ?_) rfl hHeld ?_ ?_
 rotate_left
 focus (intro w hSw; go_simp; (try simp only [IntWalk.i64_left]); try (with_reducible rfl))
 try simp only [PT]
 refine ty (i := 16) (v := ?_) rfl hHeld ?_ ?_
 rotate_left
 focus (intro w hSw; go_simp; (try simp only [IntWalk.i64_left]); try (with_reducible rfl))
 try simp only [PT]
 refine ty (i := 17) (v := ?_) rfl hHeld ?_ ?_
 rotate_left
 focus (intro w hSw; go_simp; (try simp only [IntWalk.i64_left]); try (with_reducible rfl))
 try simp only [PT]
 refine wpAnyH_ready (rs := [18]) (by kernel_rfl) (by simp) ?_
 refine ready_at rfl (fun K hK => ?_) AllReadyH.nil
 go_simp
 refine gen_app (K := K) (fun D hV_D => ?_)
 have n_k0 := congrArg (fun v : World => v.heap[w.heap.size]?) hV_D
 simp (maxDischargeDepth := 9) only [BK, not_false_eq_true, reduceCtorEq, k0, k1, l_k0_V, l_k0_w1, l_k0_V1, l_k1_V1, l_k0_V1d, l_k1_V1d] at n_k0
 have n_k1 := congrArg (fun v : World => v.heap[w1.heap.size]?) hV_D
 simp (maxDischargeDepth := 9) only [BK, not_false_eq_true, reduceCtorEq, k0, k1, l_k0_V, l_k0_w1, l_k0_V1, l_k1_V1, l_k0_V1d, l_k1_V1d] at n_k1
 have n_B : Below w.heap.size w D := nB hV_D
 have n_A : AP D ap s O := nA hV_D
 have z_D := Nat.le_of_eq (congrArg (fun v : World => v.heap.size) hV_D).symm
 try simp only [SZ] at z_D
 clear k0 c_k0 f_k0
 clear k1 c_k1 f_k1
 clear hV_D
 clear hA
 have hA := n_A
 clear n_A
 clear hB
 have hB := n_B
 clear n_B
 have k0 := n_k0; clear n_k0
 have c_k0 := cells_of k0
 have f_k0 := free_of k0
 have l_k0_D := lt_of k0
 have k1 := n_k1; clear n_k1
 have c_k1 := cells_of k1
 have f_k1 := free_of k1
 have l_k1_D := lt_of k1
 refine hK.out _ _ ⟨(fun o => (c_k1 o).trans (v_k1 o).symm), (by omega), hA⟩ (fun hHeld => ?_)
 clear hK K
 try simp only [PT]
 refine wpAnyH_ready (rs := [19]) (by kernel_rfl) (by simp) ?_
 refine ready_at rfl (fun K hK => ?_) AllReadyH.nil
 go_simp
 refine hK.out _ _ hHeld (fun hHeld => ?_)
 clear hK K
 try simp only [PT]
 refine wpAnyH_done (by kernel_rfl) ?_ _
 refine NoPanic.normal ?_
 go_wp2_with fail
 refine bodyPost_ret (v := .tuple #[(s.get h).val, .bool false]) (by simp [results, Try.results78, go_sem, Nd.val, *]) rfl ⟨rfl, hB⟩
theorem bRow_calls (h : Int) (w : World) (hA : AP w ap s O) :
  Calls Try.prog 78 #[ap, .int .i64 h] w fun e w' => e = .returned (.tuple #[(s.get h).val, .bool (bIs s h)]) ∧ Below w.heap.size w w' := by
 cases h1 : s.has h with
 | false => unfold bIs; rw [h1]; exact bRow_no h h1 w hA
 | true =>
  by_cases h2 : 0 < s.cnt h
  ·
   by_cases h3 : (s.get h).tag = 1
   ·
    have e : bIs s h = true := by unfold bIs; rw [h1]; simp [h2, h3]
    rw [e]; exact bRow_t1 h h1 h2 h3 w hA
   ·
    by_cases h4 : (s.get h).tag = 2
    ·
     have e : bIs s h = true := by unfold bIs; rw [h1]; simp [h2, h4]
     rw [e]; exact bRow_t2 h h1 h2 h4 w hA
    ·
     have e : bIs s h = false := by unfold bIs; rw [h1]; simp [h3, h4]
     rw [e]; exact bRow_t3 h h1 h2 h3 h4 w hA
  ·
   have e : bIs s h = false := by unfold bIs; rw [h1]; simp [h2]
   rw [e]; exact bRow_dead h h1 h2 w hA
set_option maxRecDepth 100000 in
set_option maxHeartbeats 800000 in
theorem lRow_no (h : Int) (h1 : s.has h = false) (w : World) (hA : AP w ap s O) :
  Calls Try.prog 86 #[ap, .int .i64 h] w fun e w' => e = .returned (.tuple #[(s.get h).val, .bool false]) ∧ Below w.heap.size w w' := by
 unfold Nd.val
 go_enter Try.func86, Try.ntmps86
 go_wp2_with fail
 refine calls_gen fun V hV_V => ?_
 have n_k0 := congrArg (fun v : World => v.heap[w.heap.size]?) hV_V
 simp (maxDischargeDepth := 9) only [BK, not_false_eq_true, reduceCtorEq] at n_k0
 have o_k0 : ¬ O (w.heap.size) := by first | exact hA.new (Nat.le_refl _) | exact hA.new (by omega)
 have n_B : Below w.heap.size w V := nB hV_V
 have n_A : AP V ap s O := nA hV_V
 have z_V := Nat.le_of_eq (congrArg (fun v : World => v.heap.size) hV_V).symm
 try simp only [SZ] at z_V
 clear hV_V
 clear hA
 have hA := n_A
 clear n_A
 skip
 have hB := n_B
 clear n_B
 have k0 := n_k0; clear n_k0
 have c_k0 := cells_of k0
 have f_k0 := free_of k0
 have l_k0_V := lt_of k0
 refine (aget_calls _ _ hA).mono ?_
 rintro e_w1 w1 ⟨rfl, hb_w1⟩
 replace hA := hA.below hb_w1
 replace hB := below_step hB hb_w1
 replace k0 := keep_blk hb_w1 k0
 have c_k0 := cells_of k0
 have f_k0 := free_of k0
 have l_k0_w1 := lt_of k0
 have z_w1 := hb_w1.size
 clear hb_w1
 unfold Nd.val
 go_wp2_with fail
 refine wp_gen fun V1 hV_V1 => ?_
 have n_k0 := congrArg (fun v : World => v.heap[w.heap.size]?) hV_V1
 simp (maxDischargeDepth := 9) only [BK, not_false_eq_true, reduceCtorEq, k0, l_k0_V, l_k0_w1] at n_k0
 have n_k1 := congrArg (fun v : World => v.heap[w1.heap.size]?) hV_V1
 simp (maxDischargeDepth := 9) only [BK, not_false_eq_true, reduceCtorEq, k0, l_k0_V, l_k0_w1] at n_k1
 have o_k1 : ¬ O (w1.heap.size) := by first | exact hA.new (Nat.le_refl _) | exact hA.new (by omega)
 have n_B : Below w.heap.size w V1 := nB hV_V1
 have n_A : AP V1 ap s O := nA hV_V1
 have z_V1 := Nat.le_of_eq (congrArg (fun v : World => v.heap.size) hV_V1).symm
 try simp only [SZ] at z_V1
 clear k0 c_k0 f_k0
 clear hV_V1
 clear hA
 have hA := n_A
 clear n_A
 clear hB
 have hB := n_B
 clear n_B
 have k0 := n_k0; clear n_k0
 have c_k0 := cells_of k0
 have f_k0 := free_of k0
 have l_k0_V1 := lt_of k0
 have k1 := n_k1; clear n_k1
 have c_k1 := cells_of k1
 have f_k1 := free_of k1
 have l_k1_V1 := lt_of k1
 refine wp_region_noPanic ?_
 refine wp_region_held_drew (S := fun v => (∀ o, v.cell? ⟨w1.heap.size, o, none⟩ = V1.cell? ⟨w1.heap.size, o, none⟩) ∧ (V1.heap.size ≤ v.heap.size) ∧ AP v ap s O) (by kernel_rfl) ⟨(fun _ => rfl), (Nat.le_refl _), hA.drew⟩ (fun hHeld => ?_)
 generalize hV_V1d : V1.drew = V1d at hHeld ⊢
 have n_k0 : V1d.heap[w.heap.size]? = V1.heap[w.heap.size]? := by rw [← hV_V1d]; rfl
 have d_k0 := n_k0.trans k0
 clear n_k0 c_k0 f_k0
 have n_k1 : V1d.heap[w1.heap.size]? = V1.heap[w1.heap.size]? := by rw [← hV_V1d]; rfl
 have d_k1 := n_k1.trans k1
 clear n_k1 c_k1 f_k1
 have n_A : AP V1d ap s O := by rw [← hV_V1d]; exact hA.drew
 clear hA; have hA := n_A; clear n_A
 have n_B : Below w.heap.size w V1d := by rw [← hV_V1d]; exact hB.drew
 clear hB; have hB := n_B; clear n_B
 have z_V1d : V1.heap.size ≤ V1d.heap.size := by rw [← hV_V1d]; exact Nat.le_refl _
 have v_k1 := cells_of k1
 clear k0; have k0 := d_k0; clear d_k0
 clear k1; have k1 := d_k1; clear d_k1
 have c_k0 := cells_of k0
 have f_k0 := free_of k0
 have l_k0_V1d := lt_of k0
 have c_k1 := cells_of k1
 have f_k1 := free_of k1
 have l_k1_V1d := lt_of k1
 clear hV_V1d
 refine ty (i := 0) (v := ?_) rfl hHeld ?_ ?_
 rotate_left
 focus (intro w hSw; go_simp; (try simp only [IntWalk.i64_left]); try (with_reducible rfl))
 try simp only [PT]
 refine ty (i := 1) (v := ?_) rfl hHeld ?_ ?_
 rotate_left
 focus (intro w hSw; go_simp; (try simp only [IntWalk.i64_left]); try (with_reducible rfl))
 try simp only [PT]
 refine ty (i := 2) (v := ?_) rfl hHeld ?_ ?_
 rotate_left
 focus (intro w hSw; go_simp; (try simp only [IntWalk.i64_left]); try (with_reducible rfl))
 try simp only [PT]
 refine take_no (i := 3) rfl (by kernel_rfl) (by kernel_rfl) (by kernel_rfl) (fun _ _ _ h => h) (by rfl) hHeld ?_
 try simp only [PT]
 refine take_no (i := 4) rfl (by kernel_rfl) (by kernel_rfl) (by kernel_rfl) (fun _ _ _ h => h) (by rfl) hHeld ?_
 try simp only [PT]
 refine take_no (i := 5) rfl (by kernel_rfl) (by kernel_rfl) (by kernel_rfl) (fun _ _ _ h => h) (by rfl) hHeld ?_
 try simp only [PT]
 refine take_no (i := 6) rfl (by kernel_rfl) (by kernel_rfl) (by kernel_rfl) (fun _ _ _ h => h) (by rfl) hHeld ?_
 try simp only [PT]
 refine ty (i := 7) (v := ?_) rfl hHeld ?_ ?_
 rotate_left
 focus (intro w hSw; go_simp; (try simp only [IntWalk.i64_left]); try (with_reducible rfl))
 try simp only [PT]
 refine ty (i := 8) (v := ?_) rfl hHeld ?_ ?_
 rotate_left
 focus (intro w hSw; go_simp; (try simp only [IntWalk.i64_left]); try (with_reducible rfl))
 try simp only [PT]
 refine take_no (i := 9) rfl (by kernel_rfl) (by kernel_rfl) (by kernel_rfl) (fun _ _ _ h => h) (by rfl) hHeld ?_
 try simp only [PT]
 refine take_no (i := 10) rfl (by kernel_rfl) (by kernel_rfl) (by kernel_rfl) (fun _ _ _ h => h) (by rfl) hHeld ?_
 try simp only [PT]
 refine take_no (i := 11) rfl (by kernel_rfl) (by kernel_rfl) (by kernel_rfl) (fun _ _ _ h => h) (by rfl) hHeld ?_
 try simp only [PT]
 refine take_no (i := 12) rfl (by kernel_rfl) (by kernel_rfl) (by kernel_rfl) (fun _ _ _ h => h) (by rfl) hHeld ?_
 try simp only [PT]
 refine take_no (i := 13) rfl (by kernel_rfl) (by kernel_rfl) (by kernel_rfl) (fun _ _ _ h => h) (by rfl) hHeld ?_
 try simp only [PT]
 refine take_no (i := 14) rfl (by kernel_rfl) (by kernel_rfl) (by kernel_rfl) (fun _ _ _ h => h) (by rfl) hHeld ?_
 try simp only [PT]
 refine take_no (i := 15) rfl (by kernel_rfl) (by kernel_rfl) (by kernel_rfl) (fun _ _ _ h => h) (by rfl) hHeld ?_
 try simp only [PT]
 refine take_no (i := 16) rfl (by kernel_rfl) (by kernel_rfl) (by kernel_rfl) (fun _ _ _ h => h) (by rfl) hHeld ?_
 try simp only [PT]
 refine ty (i := 17) (v := ?_) rfl hHeld ?_ ?_
 rotate_left
 focus (intro w hSw; go_simp; (try simp only [IntWalk.i64_left]); try (with_reducible rfl))
 try simp only [PT]
 refine wpAnyH_ready (rs := [18]) (by kernel_rfl) (by simp) ?_
 refine ready_at rfl (fun K hK => ?_) AllReadyH.nil
 go_simp
 refine gen_app (K := K) (fun D hV_D => ?_)
 have n_k0 := congrArg (fun v : World => v.heap[w.heap.size]?) hV_D
 simp (maxDischargeDepth := 9) only [BK, not_false_eq_true, reduceCtorEq, k0, k1, l_k0_V, l_k0_w1, l_k0_V1, l_k1_V1, l_k0_V1d, l_k1_V1d] at n_k0
 have n_k1 := congrArg (fun v : World => v.heap[w1.heap.size]?) hV_D
 simp (maxDischargeDepth := 9) only [BK, not_false_eq_true, reduceCtorEq, k0, k1, l_k0_V, l_k0_w1, l_k0_V1, l_k1_V1, l_k0_V1d, l_k1_V1d] at n_k1
 have n_B : Below w.heap.size w D := nB hV_D
 have n_A : AP D ap s O := nA hV_D
 have z_D := Nat.le_of_eq (congrArg (fun v : World => v.heap.size) hV_D).symm
 try simp only [SZ] at z_D
 clear k0 c_k0 f_k0
 clear k1 c_k1 f_k1
 clear hV_D
 clear hA
 have hA := n_A
 clear n_A
 clear hB
 have hB := n_B
 clear n_B
 have k0 := n_k0; clear n_k0
 have c_k0 := cells_of k0
 have f_k0 := free_of k0
 have l_k0_D := lt_of k0
 have k1 := n_k1; clear n_k1
 have c_k1 := cells_of k1
 have f_k1 := free_of k1
 have l_k1_D := lt_of k1
 refine hK.out _ _ ⟨(fun o => (c_k1 o).trans (v_k1 o).symm), (by omega), hA⟩ (fun hHeld => ?_)
 clear hK K
 try simp only [PT]
 refine wpAnyH_ready (rs := [19]) (by kernel_rfl) (by simp) ?_
 refine ready_at rfl (fun K hK => ?_) AllReadyH.nil
 go_simp
 refine hK.out _ _ hHeld (fun hHeld => ?_)
 clear hK K
 try simp only [PT]
 refine wpAnyH_done (by kernel_rfl) ?_ _
 refine NoPanic.normal ?_
 go_wp2_with fail
 refine bodyPost_ret (v := .tuple #[(s.get h).val, .bool false]) (by simp [results, Try.results86, go_sem, Nd.val, *]) rfl ⟨rfl, hB⟩
set_option maxRecDepth 100000 in
set_option maxHeartbeats 800000 in
theorem lRow_dead (h : Int) (h1 : s.has h = true) (h2 : ¬ 0 < s.cnt h) (w : World) (hA : AP w ap s O) :
  Calls Try.prog 86 #[ap, .int .i64 h] w fun e w' => e = .returned (.tuple #[(s.get h).val, .bool false]) ∧ Below w.heap.size w w' := by
 unfold Nd.val
 have d1 : decide (0 < s.cnt h) = false := by simpa using h2
 clear h2
 go_enter Try.func86, Try.ntmps86
 go_wp2_with fail
 refine calls_gen fun V hV_V => ?_
 have n_k0 := congrArg (fun v : World => v.heap[w.heap.size]?) hV_V
 simp (maxDischargeDepth := 9) only [BK, not_false_eq_true, reduceCtorEq] at n_k0
 have o_k0 : ¬ O (w.heap.size) := by first | exact hA.new (Nat.le_refl _) | exact hA.new (by omega)
 have n_B : Below w.heap.size w V := nB hV_V
 have n_A : AP V ap s O := nA hV_V
 have z_V := Nat.le_of_eq (congrArg (fun v : World => v.heap.size) hV_V).symm
 try simp only [SZ] at z_V
 clear hV_V
 clear hA
 have hA := n_A
 clear n_A
 skip
 have hB := n_B
 clear n_B
 have k0 := n_k0; clear n_k0
 have c_k0 := cells_of k0
 have f_k0 := free_of k0
 have l_k0_V := lt_of k0
 refine (aget_calls _ _ hA).mono ?_
 rintro e_w1 w1 ⟨rfl, hb_w1⟩
 replace hA := hA.below hb_w1
 replace hB := below_step hB hb_w1
 replace k0 := keep_blk hb_w1 k0
 have c_k0 := cells_of k0
 have f_k0 := free_of k0
 have l_k0_w1 := lt_of k0
 have z_w1 := hb_w1.size
 clear hb_w1
 unfold Nd.val
 go_wp2_with fail
 refine wp_gen fun V1 hV_V1 => ?_
 have n_k0 := congrArg (fun v : World => v.heap[w.heap.size]?) hV_V1
 simp (maxDischargeDepth := 9) only [BK, not_false_eq_true, reduceCtorEq, k0, l_k0_V, l_k0_w1] at n_k0
 have n_k1 := congrArg (fun v : World => v.heap[w1.heap.size]?) hV_V1
 simp (maxDischargeDepth := 9) only [BK, not_false_eq_true, reduceCtorEq, k0, l_k0_V, l_k0_w1] at n_k1
 have o_k1 : ¬ O (w1.heap.size) := by first | exact hA.new (Nat.le_refl _) | exact hA.new (by omega)
 have n_B : Below w.heap.size w V1 := nB hV_V1
 have n_A : AP V1 ap s O := nA hV_V1
 have z_V1 := Nat.le_of_eq (congrArg (fun v : World => v.heap.size) hV_V1).symm
 try simp only [SZ] at z_V1
 clear k0 c_k0 f_k0
 clear hV_V1
 clear hA
 have hA := n_A
 clear n_A
 clear hB
 have hB := n_B
 clear n_B
 have k0 := n_k0; clear n_k0
 have c_k0 := cells_of k0
 have f_k0 := free_of k0
 have l_k0_V1 := lt_of k0
 have k1 := n_k1; clear n_k1
 have c_k1 := cells_of k1
 have f_k1 := free_of k1
 have l_k1_V1 := lt_of k1
 refine wp_region_noPanic ?_
 refine wp_region_held_drew (S := fun v => (∀ o, v.cell? ⟨w1.heap.size, o, none⟩ = V1.cell? ⟨w1.heap.size, o, none⟩) ∧ (V1.heap.size ≤ v.heap.size) ∧ AP v ap s O) (by kernel_rfl) ⟨(fun _ => rfl), (Nat.le_refl _), hA.drew⟩ (fun hHeld => ?_)
 generalize hV_V1d : V1.drew = V1d at hHeld ⊢
 have n_k0 : V1d.heap[w.heap.size]? = V1.heap[w.heap.size]? := by rw [← hV_V1d]; rfl
 have d_k0 := n_k0.trans k0
 clear n_k0 c_k0 f_k0
 have n_k1 : V1d.heap[w1.heap.size]? = V1.heap[w1.heap.size]? := by rw [← hV_V1d]; rfl
 have d_k1 := n_k1.trans k1
 clear n_k1 c_k1 f_k1
 have n_A : AP V1d ap s O := by rw [← hV_V1d]; exact hA.drew
 clear hA; have hA := n_A; clear n_A
 have n_B : Below w.heap.size w V1d := by rw [← hV_V1d]; exact hB.drew
 clear hB; have hB := n_B; clear n_B
 have z_V1d : V1.heap.size ≤ V1d.heap.size := by rw [← hV_V1d]; exact Nat.le_refl _
 have v_k1 := cells_of k1
 clear k0; have k0 := d_k0; clear d_k0
 clear k1; have k1 := d_k1; clear d_k1
 have c_k0 := cells_of k0
 have f_k0 := free_of k0
 have l_k0_V1d := lt_of k0
 have c_k1 := cells_of k1
 have f_k1 := free_of k1
 have l_k1_V1d := lt_of k1
 clear hV_V1d
 refine ty (i := 0) (v := ?_) rfl hHeld ?_ ?_
 rotate_left
 focus (intro w hSw; go_simp; (try simp only [IntWalk.i64_left]); try (with_reducible rfl))
 try simp only [PT]
 refine ty (i := 1) (v := ?_) rfl hHeld ?_ ?_
 rotate_left
 focus (intro w hSw; go_simp; (try simp only [IntWalk.i64_left]); try (with_reducible rfl))
 try simp only [PT]
 refine ty (i := 2) (v := ?_) rfl hHeld ?_ ?_
 rotate_left
 focus (intro w hSw; go_simp; (try simp only [IntWalk.i64_left]); try (with_reducible rfl))
 try simp only [PT]
 refine ty (i := 3) (v := ?_) rfl hHeld ?_ ?_
 rotate_left
 focus (intro w hSw; go_simp; (try simp only [IntWalk.i64_left]); try (with_reducible rfl))
 try simp only [PT]
 refine ty (i := 4) (v := ?_) rfl hHeld ?_ ?_
 rotate_left
 focus (intro w hSw; go_simp; (try simp only [IntWalk.i64_left]); try (with_reducible rfl))
 try simp only [PT]
 refine take_call (i := 5) (f := ?_) (args := ?_) (v := ?_) rfl (by kernel_rfl) (by kernel_rfl) (by kernel_rfl) (fun _ _ _ h => h) (by rfl) hHeld ?_ (fun v hSv => ?_) ?_
 rotate_left 3
 focus (intro v hSv; go_simp; constructor <;> with_reducible rfl)
 focus (obtain ⟨c0, zs, hAv⟩ := hSv; exact count_calls _ v hAv)
 try simp only [PT]
 refine ty (i := 6) (v := ?_) rfl hHeld ?_ ?_
 rotate_left
 focus (intro w hSw; go_simp; (try simp only [IntWalk.i64_left]); try (with_reducible rfl))
 try simp only [PT]
 refine ty (i := 7) (v := ?_) rfl hHeld ?_ ?_
 rotate_left
 focus (intro w hSw; go_simp; (try simp only [IntWalk.i64_left]); try (with_reducible rfl))
 try simp only [PT]
 refine ty (i := 8) (v := ?_) rfl hHeld ?_ ?_
 rotate_left
 focus (intro w hSw; go_simp; (try simp only [IntWalk.i64_left]); try (with_reducible rfl))
 try simp only [PT]
 refine take_no (i := 9) rfl (by kernel_rfl) (by kernel_rfl) (by kernel_rfl) (fun _ _ _ h => h) (by rfl) hHeld ?_
 try simp only [PT]
 refine take_no (i := 10) rfl (by kernel_rfl) (by kernel_rfl) (by kernel_rfl) (fun _ _ _ h => h) (by rfl) hHeld ?_
 try simp only [PT]
 refine take_no (i := 11) rfl (by kernel_rfl) (by kernel_rfl) (by kernel_rfl) (fun _ _ _ h => h) (by rfl) hHeld ?_
 try simp only [PT]
 refine take_no (i := 12) rfl (by kernel_rfl) (by kernel_rfl) (by kernel_rfl) (fun _ _ _ h => h) (by rfl) hHeld ?_
 try simp only [PT]
 refine take_no (i := 13) rfl (by kernel_rfl) (by kernel_rfl) (by kernel_rfl) (fun _ _ _ h => h) (by rfl) hHeld ?_
 try simp only [PT]
 refine take_no (i := 14) rfl (by kernel_rfl) (by kernel_rfl) (by kernel_rfl) (fun _ _ _ h => h) (by rfl) hHeld ?_
 try simp only [PT]
 refine take_no (i := 15) rfl (by kernel_rfl) (by kernel_rfl) (by kernel_rfl) (fun _ _ _ h => h) (by rfl) hHeld ?_
 try simp only [PT]
 refine take_no (i := 16) rfl (by kernel_rfl) (by kernel_rfl) (by kernel_rfl) (fun _ _ _ h => h) (by rfl) hHeld ?_
 try simp only [PT]
 refine ty (i := 17) (v := ?_) rfl hHeld ?_ ?_
 rotate_left
 focus (intro w hSw; go_simp; (try simp only [IntWalk.i64_left]); try (with_reducible rfl))
 try simp only [PT]
 refine wpAnyH_ready (rs := [18]) (by kernel_rfl) (by simp) ?_
 refine ready_at rfl (fun K hK => ?_) AllReadyH.nil
 go_simp
 refine gen_app (K := K) (fun D hV_D => ?_)
 have n_k0 := congrArg (fun v : World => v.heap[w.heap.size]?) hV_D
 simp (maxDischargeDepth := 9) only [BK, not_false_eq_true, reduceCtorEq, k0, k1, l_k0_V, l_k0_w1, l_k0_V1, l_k1_V1, l_k0_V1d, l_k1_V1d] at n_k0
 have n_k1 := congrArg (fun v : World => v.heap[w1.heap.size]?) hV_D
 simp (maxDischargeDepth := 9) only [BK, not_false_eq_true, reduceCtorEq, k0, k1, l_k0_V, l_k0_w1, l_k0_V1, l_k1_V1, l_k0_V1d, l_k1_V1d] at n_k1
 have n_B : Below w.heap.size w D := nB hV_D
 have n_A : AP D ap s O := nA hV_D
 have z_D := Nat.le_of_eq (congrArg (fun v : World => v.heap.size) hV_D).symm
 try simp only [SZ] at z_D
 clear k0 c_k0 f_k0
 clear k1 c_k1 f_k1
 clear hV_D
 clear hA
 have hA := n_A
 clear n_A
 clear hB
 have hB := n_B
 clear n_B
 have k0 := n_k0; clear n_k0
 have c_k0 := cells_of k0
 have f_k0 := free_of k0
 have l_k0_D := lt_of k0
 have k1 := n_k1; clear n_k1
 have c_k1 := cells_of k1
 have f_k1 := free_of k1
 have l_k1_D := lt_of k1
 refine hK.out _ _ ⟨(fun o => (c_k1 o).trans (v_k1 o).symm), (by omega), hA⟩ (fun hHeld => ?_)
 clear hK K
 try simp only [PT]
 refine wpAnyH_ready (rs := [19]) (by kernel_rfl) (by simp) ?_
 refine ready_at rfl (fun K hK => ?_) AllReadyH.nil
 go_simp
 refine hK.out _ _ hHeld (fun hHeld => ?_)
 clear hK K
 try simp only [PT]
 refine wpAnyH_done (by kernel_rfl) ?_ _
 refine NoPanic.normal ?_
 go_wp2_with fail
 refine bodyPost_ret (v := .tuple #[(s.get h).val, .bool false]) (by simp [results, Try.results86, go_sem, Nd.val, *]) rfl ⟨rfl, hB⟩
set_option maxRecDepth 100000 in
set_option maxHeartbeats 800000 in
theorem lRow_t1 (h : Int) (h1 : s.has h = true) (h2 : 0 < s.cnt h) (h3 : (s.get h).tag = 4) (w : World) (hA : AP w ap s O) :
  Calls Try.prog 86 #[ap, .int .i64 h] w fun e w' => e = .returned (.tuple #[(s.get h).val, .bool true]) ∧ Below w.heap.size w w' := by
 unfold Nd.val
 have d1 : decide (0 < s.cnt h) = true := by simpa using h2
 have d2 : ((s.get h).tag == 4) = true := by simpa using h3
 clear h2 h3
 go_enter Try.func86, Try.ntmps86
 go_wp2_with fail
 refine calls_gen fun V hV_V => ?_
 have n_k0 := congrArg (fun v : World => v.heap[w.heap.size]?) hV_V
 simp (maxDischargeDepth := 9) only [BK, not_false_eq_true, reduceCtorEq] at n_k0
 have o_k0 : ¬ O (w.heap.size) := by first | exact hA.new (Nat.le_refl _) | exact hA.new (by omega)
 have n_B : Below w.heap.size w V := nB hV_V
 have n_A : AP V ap s O := nA hV_V
 have z_V := Nat.le_of_eq (congrArg (fun v : World => v.heap.size) hV_V).symm
 try simp only [SZ] at z_V
 clear hV_V
 clear hA
 have hA := n_A
 clear n_A
 skip
 have hB := n_B
 clear n_B
 have k0 := n_k0; clear n_k0
 have c_k0 := cells_of k0
 have f_k0 := free_of k0
 have l_k0_V := lt_of k0
 refine (aget_calls _ _ hA).mono ?_
 rintro e_w1 w1 ⟨rfl, hb_w1⟩
 replace hA := hA.below hb_w1
 replace hB := below_step hB hb_w1
 replace k0 := keep_blk hb_w1 k0
 have c_k0 := cells_of k0
 have f_k0 := free_of k0
 have l_k0_w1 := lt_of k0
 have z_w1 := hb_w1.size
 clear hb_w1
 unfold Nd.val
 go_wp2_with fail
 refine wp_gen fun V1 hV_V1 => ?_
 have n_k0 := congrArg (fun v : World => v.heap[w.heap.size]?) hV_V1
 simp (maxDischargeDepth := 9) only [BK, not_false_eq_true, reduceCtorEq, k0, l_k0_V, l_k0_w1] at n_k0
 have n_k1 := congrArg (fun v : World => v.heap[w1.heap.size]?) hV_V1
 simp (maxDischargeDepth := 9) only [BK, not_false_eq_true, reduceCtorEq, k0, l_k0_V, l_k0_w1] at n_k1
 have o_k1 : ¬ O (w1.heap.size) := by first | exact hA.new (Nat.le_refl _) | exact hA.new (by omega)
 have n_B : Below w.heap.size w V1 := nB hV_V1
 have n_A : AP V1 ap s O := nA hV_V1
 have z_V1 := Nat.le_of_eq (congrArg (fun v : World => v.heap.size) hV_V1).symm
 try simp only [SZ] at z_V1
 clear k0 c_k0 f_k0
 clear hV_V1
 clear hA
 have hA := n_A
 clear n_A
 clear hB
 have hB := n_B
 clear n_B
 have k0 := n_k0; clear n_k0
 have c_k0 := cells_of k0
 have f_k0 := free_of k0
 have l_k0_V1 := lt_of k0
 have k1 := n_k1; clear n_k1
 have c_k1 := cells_of k1
 have f_k1 := free_of k1
 have l_k1_V1 := lt_of k1
 refine wp_region_noPanic ?_
 refine wp_region_held_drew (S := fun v => (∀ o, v.cell? ⟨w1.heap.size, o, none⟩ = V1.cell? ⟨w1.heap.size, o, none⟩) ∧ (V1.heap.size ≤ v.heap.size) ∧ AP v ap s O) (by kernel_rfl) ⟨(fun _ => rfl), (Nat.le_refl _), hA.drew⟩ (fun hHeld => ?_)
 generalize hV_V1d : V1.drew = V1d at hHeld ⊢
 have n_k0 : V1d.heap[w.heap.size]? = V1.heap[w.heap.size]? := by rw [← hV_V1d]; rfl
 have d_k0 := n_k0.trans k0
 clear n_k0 c_k0 f_k0
 have n_k1 : V1d.heap[w1.heap.size]? = V1.heap[w1.heap.size]? := by rw [← hV_V1d]; rfl
 have d_k1 := n_k1.trans k1
 clear n_k1 c_k1 f_k1
 have n_A : AP V1d ap s O := by rw [← hV_V1d]; exact hA.drew
 clear hA; have hA := n_A; clear n_A
 have n_B : Below w.heap.size w V1d := by rw [← hV_V1d]; exact hB.drew
 clear hB; have hB := n_B; clear n_B
 have z_V1d : V1.heap.size ≤ V1d.heap.size := by rw [← hV_V1d]; exact Nat.le_refl _
 have v_k1 := cells_of k1
 clear k0; have k0 := d_k0; clear d_k0
 clear k1; have k1 := d_k1; clear d_k1
 have c_k0 := cells_of k0
 have f_k0 := free_of k0
 have l_k0_V1d := lt_of k0
 have c_k1 := cells_of k1
 have f_k1 := free_of k1
 have l_k1_V1d := lt_of k1
 clear hV_V1d
 refine ty (i := 0) (v := ?_) rfl hHeld ?_ ?_
 rotate_left
 focus (intro w hSw; go_simp; (try simp only [IntWalk.i64_left]); try (with_reducible rfl))
 try simp only [PT]
 refine ty (i := 1) (v := ?_) rfl hHeld ?_ ?_
 rotate_left
 focus (intro w hSw; go_simp; (try simp only [IntWalk.i64_left]); try (with_reducible rfl))
 try simp only [PT]
 refine ty (i := 2) (v := ?_) rfl hHeld ?_ ?_
 rotate_left
 focus (intro w hSw; go_simp; (try simp only [IntWalk.i64_left]); try (with_reducible rfl))
 try simp only [PT]
 refine ty (i := 3) (v := ?_) rfl hHeld ?_ ?_
 rotate_left
 focus (intro w hSw; go_simp; (try simp only [IntWalk.i64_left]); try (with_reducible rfl))
 try simp only [PT]
 refine ty (i := 4) (v := ?_) rfl hHeld ?_ ?_
 rotate_left
 focus (intro w hSw; go_simp; (try simp only [IntWalk.i64_left]); try (with_reducible rfl))
 try simp only [PT]
 refine take_call (i := 5) (f := ?_) (args := ?_) (v := ?_) rfl (by kernel_rfl) (by kernel_rfl) (by kernel_rfl) (fun _ _ _ h => h) (by rfl) hHeld ?_ (fun v hSv => ?_) ?_
 rotate_left 3
 focus (intro v hSv; go_simp; constructor <;> with_reducible rfl)
 focus (obtain ⟨c0, zs, hAv⟩ := hSv; exact count_calls _ v hAv)
 try simp only [PT]
 refine ty (i := 6) (v := ?_) rfl hHeld ?_ ?_
 rotate_left
 focus (intro w hSw; go_simp; (try simp only [IntWalk.i64_left]); try (with_reducible rfl))
 try simp only [PT]
 refine ty (i := 7) (v := ?_) rfl hHeld ?_ ?_
 rotate_left
 focus (intro w hSw; go_simp; (try simp only [IntWalk.i64_left]); try (with_reducible rfl))
 try simp only [PT]
 refine ty (i := 8) (v := ?_) rfl hHeld ?_ ?_
 rotate_left
 focus (intro w hSw; go_simp; (try simp only [IntWalk.i64_left]); try (with_reducible rfl))
 try simp only [PT]
 refine ty (i := 9) (v := ?_) rfl hHeld ?_ ?_
 rotate_left
 focus (intro w hSw; go_simp; (try simp only [IntWalk.i64_left]); try (with_reducible rfl))
 try simp only [PT]
 refine ty (i := 10) (v := ?_) rfl hHeld ?_ ?_
 rotate_left
 focus (intro w hSw; go_simp; (try simp only [IntWalk.i64_left]); try (with_reducible rfl))
 try simp only [PT]
 refine ty (i := 11) (v := ?_) rfl hHeld ?_ ?_
 rotate_left
 focus (intro w hSw; go_simp; (try simp only [IntWalk.i64_left]); try (with_reducible rfl))
 try simp only [PT]
 refine ty (i := 12) (v := ?_) rfl hHeld ?_ ?_
 rotate_left
 focus (intro w hSw; go_simp; (try simp only [IntWalk.i64_left]); try (with_reducible rfl))
 try simp only [PT]
 refine take_no (i := 13) rfl (by kernel_rfl) (by kernel_rfl) (by kernel_rfl) (fun _ _ _ h => h) (by rfl) hHeld ?_
 try simp only [PT]
 refine take_no (i := 14) rfl (by kernel_rfl) (by kernel_rfl) (by kernel_rfl) (fun _ _ _ h => h) (by rfl) hHeld ?_
 try simp only [PT]
 refine take_no (i := 15) rfl (by kernel_rfl) (by kernel_rfl) (by kernel_rfl) (fun _ _ _ h => h) (by rfl) hHeld ?_
 try simp only [PT]
 refine ty (i := 16) (v := ?_) rfl hHeld ?_ ?_
 rotate_left
 focus (intro w hSw; go_simp; (try simp only [IntWalk.i64_left]); try (with_reducible rfl))
 try simp only [PT]
 refine ty (i := 17) (v := ?_) rfl hHeld ?_ ?_
 rotate_left
 focus (intro w hSw; go_simp; (try simp only [IntWalk.i64_left]); try (with_reducible rfl))
 try simp only [PT]
 refine wpAnyH_ready (rs := [18]) (by kernel_rfl) (by simp) ?_
 refine ready_at rfl (fun K hK => ?_) AllReadyH.nil
 go_simp
 refine gen_app (K := K) (fun D hV_D => ?_)
 have n_k0 := congrArg (fun v : World => v.heap[w.heap.size]?) hV_D
 simp (maxDischargeDepth := 9) only [BK, not_false_eq_true, reduceCtorEq, k0, k1, l_k0_V, l_k0_w1, l_k0_V1, l_k1_V1, l_k0_V1d, l_k1_V1d] at n_k0
 have n_k1 := congrArg (fun v : World => v.heap[w1.heap.size]?) hV_D
 simp (maxDischargeDepth := 9) only [BK, not_false_eq_true, reduceCtorEq, k0, k1, l_k0_V, l_k0_w1, l_k0_V1, l_k1_V1, l_k0_V1d, l_k1_V1d] at n_k1
 have n_B : Below w.heap.size w D := nB hV_D
 have n_A : AP D ap s O := nA hV_D
 have z_D := Nat.le_of_eq (congrArg (fun v : World => v.heap.size) hV_D).symm
 try simp only [SZ] at z_D
 clear k0 c_k0 f_k0
 clear k1 c_k1 f_k1
 clear hV_D
 clear hA
 have hA := n_A
 clear n_A
 clear hB
 have hB := n_B
 clear n_B
 have k0 := n_k0; clear n_k0
 have c_k0 := cells_of k0
 have f_k0 := free_of k0
 have l_k0_D := lt_of k0
 have k1 := n_k1; clear n_k1
 have c_k1 := cells_of k1
 have f_k1 := free_of k1
 have l_k1_D := lt_of k1
 refine hK.out _ _ ⟨(fun o => (c_k1 o).trans (v_k1 o).symm), (by omega), hA⟩ (fun hHeld => ?_)
 clear hK K
 try simp only [PT]
 refine wpAnyH_ready (rs := [19]) (by kernel_rfl) (by simp) ?_
 refine ready_at rfl (fun K hK => ?_) AllReadyH.nil
 go_simp
 refine hK.out _ _ hHeld (fun hHeld => ?_)
 clear hK K
 try simp only [PT]
 refine wpAnyH_done (by kernel_rfl) ?_ _
 refine NoPanic.normal ?_
 go_wp2_with fail
 refine bodyPost_ret (v := .tuple #[(s.get h).val, .bool true]) (by simp [results, Try.results86, go_sem, Nd.val, *]) rfl ⟨rfl, hB⟩
set_option maxRecDepth 100000 in
set_option maxHeartbeats 800000 in
theorem lRow_t2 (h : Int) (h1 : s.has h = true) (h2 : 0 < s.cnt h) (h3 : (s.get h).tag = 5) (w : World) (hA : AP w ap s O) :
  Calls Try.prog 86 #[ap, .int .i64 h] w fun e w' => e = .returned (.tuple #[(s.get h).val, .bool true]) ∧ Below w.heap.size w w' := by
 unfold Nd.val
 have d1 : decide (0 < s.cnt h) = true := by simpa using h2
 have d2 : ((s.get h).tag == 4) = false := by simp [h3]
 have d3 : ((s.get h).tag == 5) = true := by simpa using h3
 clear h2 h3
 go_enter Try.func86, Try.ntmps86
 go_wp2_with fail
 refine calls_gen fun V hV_V => ?_
 have n_k0 := congrArg (fun v : World => v.heap[w.heap.size]?) hV_V
 simp (maxDischargeDepth := 9) only [BK, not_false_eq_true, reduceCtorEq] at n_k0
 have o_k0 : ¬ O (w.heap.size) := by first | exact hA.new (Nat.le_refl _) | exact hA.new (by omega)
 have n_B : Below w.heap.size w V := nB hV_V
 have n_A : AP V ap s O := nA hV_V
 have z_V := Nat.le_of_eq (congrArg (fun v : World => v.heap.size) hV_V).symm
 try simp only [SZ] at z_V
 clear hV_V
 clear hA
 have hA := n_A
 clear n_A
 skip
 have hB := n_B
 clear n_B
 have k0 := n_k0; clear n_k0
 have c_k0 := cells_of k0
 have f_k0 := free_of k0
 have l_k0_V := lt_of k0
 refine (aget_calls _ _ hA).mono ?_
 rintro e_w1 w1 ⟨rfl, hb_w1⟩
 replace hA := hA.below hb_w1
 replace hB := below_step hB hb_w1
 replace k0 := keep_blk hb_w1 k0
 have c_k0 := cells_of k0
 have f_k0 := free_of k0
 have l_k0_w1 := lt_of k0
 have z_w1 := hb_w1.size
 clear hb_w1
 unfold Nd.val
 go_wp2_with fail
 refine wp_gen fun V1 hV_V1 => ?_
 have n_k0 := congrArg (fun v : World => v.heap[w.heap.size]?) hV_V1
 simp (maxDischargeDepth := 9) only [BK, not_false_eq_true, reduceCtorEq, k0, l_k0_V, l_k0_w1] at n_k0
 have n_k1 := congrArg (fun v : World => v.heap[w1.heap.size]?) hV_V1
 simp (maxDischargeDepth := 9) only [BK, not_false_eq_true, reduceCtorEq, k0, l_k0_V, l_k0_w1] at n_k1
 have o_k1 : ¬ O (w1.heap.size) := by first | exact hA.new (Nat.le_refl _) | exact hA.new (by omega)
 have n_B : Below w.heap.size w V1 := nB hV_V1
 have n_A : AP V1 ap s O := nA hV_V1
 have z_V1 := Nat.le_of_eq (congrArg (fun v : World => v.heap.size) hV_V1).symm
 try simp only [SZ] at z_V1
 clear k0 c_k0 f_k0
 clear hV_V1
 clear hA
 have hA := n_A
 clear n_A
 clear hB
 have hB := n_B
 clear n_B
 have k0 := n_k0; clear n_k0
 have c_k0 := cells_of k0
 have f_k0 := free_of k0
 have l_k0_V1 := lt_of k0
 have k1 := n_k1; clear n_k1
 have c_k1 := cells_of k1
 have f_k1 := free_of k1
 have l_k1_V1 := lt_of k1
 refine wp_region_noPanic ?_
 refine wp_region_held_drew (S := fun v => (∀ o, v.cell? ⟨w1.heap.size, o, none⟩ = V1.cell? ⟨w1.heap.size, o, none⟩) ∧ (V1.heap.size ≤ v.heap.size) ∧ AP v ap s O) (by kernel_rfl) ⟨(fun _ => rfl), (Nat.le_refl _), hA.drew⟩ (fun hHeld => ?_)
 generalize hV_V1d : V1.drew = V1d at hHeld ⊢
 have n_k0 : V1d.heap[w.heap.size]? = V1.heap[w.heap.size]? := by rw [← hV_V1d]; rfl
 have d_k0 := n_k0.trans k0
 clear n_k0 c_k0 f_k0
 have n_k1 : V1d.heap[w1.heap.size]? = V1.heap[w1.heap.size]? := by rw [← hV_V1d]; rfl
 have d_k1 := n_k1.trans k1
 clear n_k1 c_k1 f_k1
 have n_A : AP V1d ap s O := by rw [← hV_V1d]; exact hA.drew
 clear hA; have hA := n_A; clear n_A
 have n_B : Below w.heap.size w V1d := by rw [← hV_V1d]; exact hB.drew
 clear hB; have hB := n_B; clear n_B
 have z_V1d : V1.heap.size ≤ V1d.heap.size := by rw [← hV_V1d]; exact Nat.le_refl _
 have v_k1 := cells_of k1
 clear k0; have k0 := d_k0; clear d_k0
 clear k1; have k1 := d_k1; clear d_k1
 have c_k0 := cells_of k0
 have f_k0 := free_of k0
 have l_k0_V1d := lt_of k0
 have c_k1 := cells_of k1
 have f_k1 := free_of k1
 have l_k1_V1d := lt_of k1
 clear hV_V1d
 refine ty (i := 0) (v := ?_) rfl hHeld ?_ ?_
 rotate_left
 focus (intro w hSw; go_simp; (try simp only [IntWalk.i64_left]); try (with_reducible rfl))
 try simp only [PT]
 refine ty (i := 1) (v := ?_) rfl hHeld ?_ ?_
 rotate_left
 focus (intro w hSw; go_simp; (try simp only [IntWalk.i64_left]); try (with_reducible rfl))
 try simp only [PT]
 refine ty (i := 2) (v := ?_) rfl hHeld ?_ ?_
 rotate_left
 focus (intro w hSw; go_simp; (try simp only [IntWalk.i64_left]); try (with_reducible rfl))
 try simp only [PT]
 refine ty (i := 3) (v := ?_) rfl hHeld ?_ ?_
 rotate_left
 focus (intro w hSw; go_simp; (try simp only [IntWalk.i64_left]); try (with_reducible rfl))
 try simp only [PT]
 refine ty (i := 4) (v := ?_) rfl hHeld ?_ ?_
 rotate_left
 focus (intro w hSw; go_simp; (try simp only [IntWalk.i64_left]); try (with_reducible rfl))
 try simp only [PT]
 refine take_call (i := 5) (f := ?_) (args := ?_) (v := ?_) rfl (by kernel_rfl) (by kernel_rfl) (by kernel_rfl) (fun _ _ _ h => h) (by rfl) hHeld ?_ (fun v hSv => ?_) ?_
 rotate_left 3
 focus (intro v hSv; go_simp; constructor <;> with_reducible rfl)
 focus (obtain ⟨c0, zs, hAv⟩ := hSv; exact count_calls _ v hAv)
 try simp only [PT]
 refine ty (i := 6) (v := ?_) rfl hHeld ?_ ?_
 rotate_left
 focus (intro w hSw; go_simp; (try simp only [IntWalk.i64_left]); try (with_reducible rfl))
 try simp only [PT]
 refine ty (i := 7) (v := ?_) rfl hHeld ?_ ?_
 rotate_left
 focus (intro w hSw; go_simp; (try simp only [IntWalk.i64_left]); try (with_reducible rfl))
 try simp only [PT]
 refine ty (i := 8) (v := ?_) rfl hHeld ?_ ?_
 rotate_left
 focus (intro w hSw; go_simp; (try simp only [IntWalk.i64_left]); try (with_reducible rfl))
 try simp only [PT]
 refine ty (i := 9) (v := ?_) rfl hHeld ?_ ?_
 rotate_left
 focus (intro w hSw; go_simp; (try simp only [IntWalk.i64_left]); try (with_reducible rfl))
 try simp only [PT]
 refine ty (i := 10) (v := ?_) rfl hHeld ?_ ?_
 rotate_left
 focus (intro w hSw; go_simp; (try simp only [IntWalk.i64_left]); try (with_reducible rfl))
 try simp only [PT]
 refine ty (i := 11) (v := ?_) rfl hHeld ?_ ?_
 rotate_left
 focus (intro w hSw; go_simp; (try simp only [IntWalk.i64_left]); try (with_reducible rfl))
 try simp only [PT]
 refine ty (i := 12) (v := ?_) rfl hHeld ?_ ?_
 rotate_left
 focus (intro w hSw; go_simp; (try simp only [IntWalk.i64_left]); try (with_reducible rfl))
 try simp only [PT]
 refine ty (i := 13) (v := ?_) rfl hHeld ?_ ?_
 rotate_left
 focus (intro w hSw; go_simp; (try simp only [IntWalk.i64_left]); try (with_reducible rfl))
 try simp only [PT]
 refine ty (i := 14) (v := ?_) rfl hHeld ?_ ?_
 rotate_left
 focus (intro w hSw; go_simp; (try simp only [IntWalk.i64_left]); try (with_reducible rfl))
 try simp only [PT]
 refine ty (i := 15) (v := ?_) rfl hHeld ?_ ?_
 rotate_left
 focus (intro w hSw; go_simp; (try simp only [IntWalk.i64_left]); try (with_reducible rfl))
 try simp only [PT]
 refine ty (i := 16) (v := ?_) rfl hHeld ?_ ?_
 rotate_left
 focus (intro w hSw; go_simp; (try simp only [IntWalk.i64_left]); try (with_reducible rfl))
 try simp only [PT]
 refine ty (i := 17) (v := ?_) rfl hHeld ?_ ?_
 rotate_left
 focus (intro w hSw; go_simp; (try simp only [IntWalk.i64_left]); try (with_reducible rfl))
 try simp only [PT]
 refine wpAnyH_ready (rs := [18]) (by kernel_rfl) (by simp) ?_
 refine ready_at rfl (fun K hK => ?_) AllReadyH.nil
 go_simp
 refine gen_app (K := K) (fun D hV_D => ?_)
 have n_k0 := congrArg (fun v : World => v.heap[w.heap.size]?) hV_D
 simp (maxDischargeDepth := 9) only [BK, not_false_eq_true, reduceCtorEq, k0, k1, l_k0_V, l_k0_w1, l_k0_V1, l_k1_V1, l_k0_V1d, l_k1_V1d] at n_k0
 have n_k1 := congrArg (fun v : World => v.heap[w1.heap.size]?) hV_D
 simp (maxDischargeDepth := 9) only [BK, not_false_eq_true, reduceCtorEq, k0, k1, l_k0_V, l_k0_w1, l_k0_V1, l_k1_V1, l_k0_V1d, l_k1_V1d] at n_k1
 have n_B : Below w.heap.size w D := nB hV_D
 have n_A : AP D ap s O := nA hV_D
 have z_D := Nat.le_of_eq (congrArg (fun v : World => v.heap.size) hV_D).symm
 try simp only [SZ] at z_D
 clear k0 c_k0 f_k0
 clear k1 c_k1 f_k1
 clear hV_D
 clear hA
 have hA := n_A
 clear n_A
 clear hB
 have hB := n_B
 clear n_B
 have k0 := n_k0; clear n_k0
 have c_k0 := cells_of k0
 have f_k0 := free_of k0
 have l_k0_D := lt_of k0
 have k1 := n_k1; clear n_k1
 have c_k1 := cells_of k1
 have f_k1 := free_of k1
 have l_k1_D := lt_of k1
 refine hK.out _ _ ⟨(fun o => (c_k1 o).trans (v_k1 o).symm), (by omega), hA⟩ (fun hHeld => ?_)
 clear hK K
 try simp only [PT]
 refine wpAnyH_ready (rs := [19]) (by kernel_rfl) (by simp) ?_
 refine ready_at rfl (fun K hK => ?_) AllReadyH.nil
 go_simp
 refine hK.out _ _ hHeld (fun hHeld => ?_)
 clear hK K
 try simp only [PT]
 refine wpAnyH_done (by kernel_rfl) ?_ _
 refine NoPanic.normal ?_
 go_wp2_with fail
 refine bodyPost_ret (v := .tuple #[(s.get h).val, .bool true]) (by simp [results, Try.results86, go_sem, Nd.val, *]) rfl ⟨rfl, hB⟩
set_option maxRecDepth 100000 in
set_option maxHeartbeats 800000 in
theorem lRow_t3 (h : Int) (h1 : s.has h = true) (h2 : 0 < s.cnt h) (h3 : (s.get h).tag ≠ 4) (h4 : (s.get h).tag ≠ 5) (w : World) (hA : AP w ap s O) :
  Calls Try.prog 86 #[ap, .int .i64 h] w fun e w' => e = .returned (.tuple #[(s.get h).val, .bool false]) ∧ Below w.heap.size w w' := by
 unfold Nd.val
 have d1 : decide (0 < s.cnt h) = true := by simpa using h2
 have d2 : ((s.get h).tag == 4) = false := by simpa using h3
 have d3 : ((s.get h).tag == 5) = false := by simpa using h4
 clear h2 h3 h4
 go_enter Try.func86, Try.ntmps86
 go_wp2_with fail
 refine calls_gen fun V hV_V => ?_
 have n_k0 := congrArg (fun v : World => v.heap[w.heap.size]?) hV_V
 simp (maxDischargeDepth := 9) only [BK, not_false_eq_true, reduceCtorEq] at n_k0
 have o_k0 : ¬ O (w.heap.size) := by first | exact hA.new (Nat.le_refl _) | exact hA.new (by omega)
 have n_B : Below w.heap.size w V := nB hV_V
 have n_A : AP V ap s O := nA hV_V
 have z_V := Nat.le_of_eq (congrArg (fun v : World => v.heap.size) hV_V).symm
 try simp only [SZ] at z_V
 clear hV_V
 clear hA
 have hA := n_A
 clear n_A
 skip
 have hB := n_B
 clear n_B
 have k0 := n_k0; clear n_k0
 have c_k0 := cells_of k0
 have f_k0 := free_of k0
 have l_k0_V := lt_of k0
 refine (aget_calls _ _ hA).mono ?_
 rintro e_w1 w1 ⟨rfl, hb_w1⟩
 replace hA := hA.below hb_w1
 replace hB := below_step hB hb_w1
 replace k0 := keep_blk hb_w1 k0
 have c_k0 := cells_of k0
 have f_k0 := free_of k0
 have l_k0_w1 := lt_of k0
 have z_w1 := hb_w1.size
 clear hb_w1
 unfold Nd.val
 go_wp2_with fail
 refine wp_gen fun V1 hV_V1 => ?_
 have n_k0 := congrArg (fun v : World => v.heap[w.heap.size]?) hV_V1
 simp (maxDischargeDepth := 9) only [BK, not_false_eq_true, reduceCtorEq, k0, l_k0_V, l_k0_w1] at n_k0
 have n_k1 := congrArg (fun v : World => v.heap[w1.heap.size]?) hV_V1
 simp (maxDischargeDepth := 9) only [BK, not_false_eq_true, reduceCtorEq, k0, l_k0_V, l_k0_w1] at n_k1
 have o_k1 : ¬ O (w1.heap.size) := by first | exact hA.new (Nat.le_refl _) | exact hA.new (by omega)
 have n_B : Below w.heap.size w V1 := nB hV_V1
 have n_A : AP V1 ap s O := nA hV_V1
 have z_V1 := Nat.le_of_eq (congrArg (fun v : World => v.heap.size) hV_V1).symm
 try simp only [SZ] at z_V1
 clear k0 c_k0 f_k0
 clear hV_V1
 clear hA
 have hA := n_A
 clear n_A
 clear hB
 have hB := n_B
 clear n_B
 have k0 := n_k0; clear n_k0
 have c_k0 := cells_of k0
 have f_k0 := free_of k0
 have l_k0_V1 := lt_of k0
 have k1 := n_k1; clear n_k1
 have c_k1 := cells_of k1
 have f_k1 := free_of k1
 have l_k1_V1 := lt_of k1
 refine wp_region_noPanic ?_
 refine wp_region_held_drew (S := fun v => (∀ o, v.cell? ⟨w1.heap.size, o, none⟩ = V1.cell? ⟨w1.heap.size, o, none⟩) ∧ (V1.heap.size ≤ v.heap.size) ∧ AP v ap s O) (by kernel_rfl) ⟨(fun _ => rfl), (Nat.le_refl _), hA.drew⟩ (fun hHeld => ?_)
 generalize hV_V1d : V1.drew = V1d at hHeld ⊢
 have n_k0 : V1d.heap[w.heap.size]? = V1.heap[w.heap.size]? := by rw [← hV_V1d]; rfl
 have d_k0 := n_k0.trans k0
 clear n_k0 c_k0 f_k0
 have n_k1 : V1d.heap[w1.heap.size]? = V1.heap[w1.heap.size]? := by rw [← hV_V1d]; rfl
 have d_k1 := n_k1.trans k1
 clear n_k1 c_k1 f_k1
 have n_A : AP V1d ap s O := by rw [← hV_V1d]; exact hA.drew
 clear hA; have hA := n_A; clear n_A
 have n_B : Below w.heap.size w V1d := by rw [← hV_V1d]; exact hB.drew
 clear hB; have hB := n_B; clear n_B
 have z_V1d : V1.heap.size ≤ V1d.heap.size := by rw [← hV_V1d]; exact Nat.le_refl _
 have v_k1 := cells_of k1
 clear k0; have k0 := d_k0; clear d_k0
 clear k1; have k1 := d_k1; clear d_k1
 have c_k0 := cells_of k0
 have f_k0 := free_of k0
 have l_k0_V1d := lt_of k0
 have c_k1 := cells_of k1
 have f_k1 := free_of k1
 have l_k1_V1d := lt_of k1
 clear hV_V1d
 refine ty (i := 0) (v := ?_) rfl hHeld ?_ ?_
 rotate_left
 focus (intro w hSw; go_simp; (try simp only [IntWalk.i64_left]); try (with_reducible rfl))
 try simp only [PT]
 refine ty (i := 1) (v := ?_) rfl hHeld ?_ ?_
 rotate_left
 focus (intro w hSw; go_simp; (try simp only [IntWalk.i64_left]); try (with_reducible rfl))
 try simp only [PT]
 refine ty (i := 2) (v := ?_) rfl hHeld ?_ ?_
 rotate_left
 focus (intro w hSw; go_simp; (try simp only [IntWalk.i64_left]); try (with_reducible rfl))
 try simp only [PT]
 refine ty (i := 3) (v := ?_) rfl hHeld ?_ ?_
 rotate_left
 focus (intro w hSw; go_simp; (try simp only [IntWalk.i64_left]); try (with_reducible rfl))
 try simp only [PT]
 refine ty (i := 4) (v := ?_) rfl hHeld ?_ ?_
 rotate_left
 focus (intro w hSw; go_simp; (try simp only [IntWalk.i64_left]); try (with_reducible rfl))
 try simp only [PT]
 refine take_call (i := 5) (f := ?_) (args := ?_) (v := ?_) rfl (by kernel_rfl) (by kernel_rfl) (by kernel_rfl) (fun _ _ _ h => h) (by rfl) hHeld ?_ (fun v hSv => ?_) ?_
 rotate_left 3
 focus (intro v hSv; go_simp; constructor <;> with_reducible rfl)
 focus (obtain ⟨c0, zs, hAv⟩ := hSv; exact count_calls _ v hAv)
 try simp only [PT]
 refine ty (i := 6) (v := ?_) rfl hHeld ?_ ?_
 rotate_left
 focus (intro w hSw; go_simp; (try simp only [IntWalk.i64_left]); try (with_reducible rfl))
 try simp only [PT]
 refine ty (i := 7) (v := ?_) rfl hHeld ?_ ?_
 rotate_left
 focus (intro w hSw; go_simp; (try simp only [IntWalk.i64_left]); try (with_reducible rfl))
 try simp only [PT]
 refine ty (i := 8) (v := ?_) rfl hHeld ?_ ?_
 rotate_left
 focus (intro w hSw; go_simp; (try simp only [IntWalk.i64_left]); try (with_reducible rfl))
 try simp only [PT]
 refine ty (i := 9) (v := ?_) rfl hHeld ?_ ?_
 rotate_left
 focus (intro w hSw; go_simp; (try simp only [IntWalk.i64_left]); try (with_reducible rfl))
 try simp only [PT]
 refine ty (i := 10) (v := ?_) rfl hHeld ?_ ?_
 rotate_left
 focus (intro w hSw; go_simp; (try simp only [IntWalk.i64_left]); try (with_reducible rfl))
 try simp only [PT]
 refine ty (i := 11) (v := ?_) rfl hHeld ?_ ?_
 rotate_left
 focus (intro w hSw; go_simp; (try simp only [IntWalk.i64_left]); try (with_reducible rfl))
 try simp only [PT]
 refine ty (i := 12) (v := ?_) rfl hHeld ?_ ?_
 rotate_left
 focus (intro w hSw; go_simp; (try simp only [IntWalk.i64_left]); try (with_reducible rfl))
 try simp only [PT]
 refine ty (i := 13) (v := ?_) rfl hHeld ?_ ?_
 rotate_left
 focus (intro w hSw; go_simp; (try simp only [IntWalk.i64_left]); try (with_reducible rfl))
 try simp only [PT]
 refine ty (i := 14) (v := ?_) rfl hHeld ?_ ?_
 rotate_left
 focus (intro w hSw; go_simp; (try simp only [IntWalk.i64_left]); try (with_reducible rfl))
 try simp only [PT]
 refine ty (i := 15) (v := ?_) rfl hHeld ?_ ?_
 rotate_left
 focus (intro w hSw; go_simp; (try simp only [IntWalk.i64_left]); try (with_reducible rfl))
 try simp only [PT]
 refine ty (i := 16) (v := ?_) rfl hHeld ?_ ?_
 rotate_left
 focus (intro w hSw; go_simp; (try simp only [IntWalk.i64_left]); try (with_reducible rfl))
 try simp only [PT]
 refine ty (i := 17) (v := ?_) rfl hHeld ?_ ?_
 rotate_left
 focus (intro w hSw; go_simp; (try simp only [IntWalk.i64_left]); try (with_reducible rfl))
 try simp only [PT]
 refine wpAnyH_ready (rs := [18]) (by kernel_rfl) (by simp) ?_
 refine ready_at rfl (fun K hK => ?_) AllReadyH.nil
 go_simp
 refine gen_app (K := K) (fun D hV_D => ?_)
 have n_k0 := congrArg (fun v : World => v.heap[w.heap.size]?) hV_D
 simp (maxDischargeDepth := 9) only [BK, not_false_eq_true, reduceCtorEq, k0, k1, l_k0_V, l_k0_w1, l_k0_V1, l_k1_V1, l_k0_V1d, l_k1_V1d] at n_k0
 have n_k1 := congrArg (fun v : World => v.heap[w1.heap.size]?) hV_D
 simp (maxDischargeDepth := 9) only [BK, not_false_eq_true, reduceCtorEq, k0, k1, l_k0_V, l_k0_w1, l_k0_V1, l_k1_V1, l_k0_V1d, l_k1_V1d] at n_k1
 have n_B : Below w.heap.size w D := nB hV_D
 have n_A : AP D ap s O := nA hV_D
 have z_D := Nat.le_of_eq (congrArg (fun v : World => v.heap.size) hV_D).symm
 try simp only [SZ] at z_D
 clear k0 c_k0 f_k0
 clear k1 c_k1 f_k1
 clear hV_D
 clear hA
 have hA := n_A
 clear n_A
 clear hB
 have hB := n_B
 clear n_B
 have k0 := n_k0; clear n_k0
 have c_k0 := cells_of k0
 have f_k0 := free_of k0
 have l_k0_D := lt_of k0
 have k1 := n_k1; clear n_k1
 have c_k1 := cells_of k1
 have f_k1 := free_of k1
 have l_k1_D := lt_of k1
 refine hK.out _ _ ⟨(fun o => (c_k1 o).trans (v_k1 o).symm), (by omega), hA⟩ (fun hHeld => ?_)
 clear hK K
 try simp only [PT]
 refine wpAnyH_ready (rs := [19]) (by kernel_rfl) (by simp) ?_
 refine ready_at rfl (fun K hK => ?_) AllReadyH.nil
 go_simp
 refine hK.out _ _ hHeld (fun hHeld => ?_)
 clear hK K
 try simp only [PT]
 refine wpAnyH_done (by kernel_rfl) ?_ _
 refine NoPanic.normal ?_
 go_wp2_with fail
 refine bodyPost_ret (v := .tuple #[(s.get h).val, .bool false]) (by simp [results, Try.results86, go_sem, Nd.val, *]) rfl ⟨rfl, hB⟩
theorem lRow_calls (h : Int) (w : World) (hA : AP w ap s O) :
  Calls Try.prog 86 #[ap, .int .i64 h] w fun e w' => e = .returned (.tuple #[(s.get h).val, .bool (lIs s h)]) ∧ Below w.heap.size w w' := by
 cases h1 : s.has h with
 | false => unfold lIs; rw [h1]; exact lRow_no h h1 w hA
 | true =>
  by_cases h2 : 0 < s.cnt h
  ·
   by_cases h3 : (s.get h).tag = 4
   ·
    have e : lIs s h = true := by unfold lIs; rw [h1]; simp [h2, h3]
    rw [e]; exact lRow_t1 h h1 h2 h3 w hA
   ·
    by_cases h4 : (s.get h).tag = 5
    ·
     have e : lIs s h = true := by unfold lIs; rw [h1]; simp [h2, h4]
     rw [e]; exact lRow_t2 h h1 h2 h4 w hA
    ·
     have e : lIs s h = false := by unfold lIs; rw [h1]; simp [h3, h4]
     rw [e]; exact lRow_t3 h h1 h2 h3 h4 w hA
  ·
   have e : lIs s h = false := by unfold lIs; rw [h1]; simp [h2]
   rw [e]; exact lRow_dead h h1 h2 w hA
set_option maxRecDepth 100000 in
set_option maxHeartbeats 800000 in
theorem wRow_no (h : Int) (h1 : s.has h = false) (w : World) (hA : AP w ap s O) :
  Calls Try.prog 68 #[ap, .int .i64 h] w fun e w' => e = .returned (.tuple #[(s.get h).val, .bool false]) ∧ Below w.heap.size w w' := by
 unfold Nd.val
 go_enter Try.func68, Try.ntmps68
 go_wp2_with fail
 refine calls_gen fun V hV_V => ?_
 have n_k0 := congrArg (fun v : World => v.heap[w.heap.size]?) hV_V
 simp (maxDischargeDepth := 9) only [BK, not_false_eq_true, reduceCtorEq] at n_k0
 have o_k0 : ¬ O (w.heap.size) := by first | exact hA.new (Nat.le_refl _) | exact hA.new (by omega)
 have n_B : Below w.heap.size w V := nB hV_V
 have n_A : AP V ap s O := nA hV_V
 have z_V := Nat.le_of_eq (congrArg (fun v : World => v.heap.size) hV_V).symm
 try simp only [SZ] at z_V
 clear hV_V
 clear hA
 have hA := n_A
 clear n_A
 skip
 have hB := n_B
 clear n_B
 have k0 := n_k0; clear n_k0
 have c_k0 := cells_of k0
 have f_k0 := free_of k0
 have l_k0_V := lt_of k0
 refine (aget_calls _ _ hA).mono ?_
 rintro e_w1 w1 ⟨rfl, hb_w1⟩
 replace hA := hA.below hb_w1
 replace hB := below_step hB hb_w1
 replace k0 := keep_blk hb_w1 k0
 have c_k0 := cells_of k0
 have f_k0 := free_of k0
 have l_k0_w1 := lt_of k0
 have z_w1 := hb_w1.size
 clear hb_w1
 unfold Nd.val
 go_wp2_with fail
 refine wp_gen fun V1 hV_V1 => ?_
 have n_k0 := congrArg (fun v : World => v.heap[w.heap.size]?) hV_V1
 simp (maxDischargeDepth := 9) only [BK, not_false_eq_true, reduceCtorEq, k0, l_k0_V, l_k0_w1] at n_k0
 have n_k1 := congrArg (fun v : World => v.heap[w1.heap.size]?) hV_V1
 simp (maxDischargeDepth := 9) only [BK, not_false_eq_true, reduceCtorEq, k0, l_k0_V, l_k0_w1] at n_k1
 have o_k1 : ¬ O (w1.heap.size) := by first | exact hA.new (Nat.le_refl _) | exact hA.new (by omega)
 have n_B : Below w.heap.size w V1 := nB hV_V1
 have n_A : AP V1 ap s O := nA hV_V1
 have z_V1 := Nat.le_of_eq (congrArg (fun v : World => v.heap.size) hV_V1).symm
 try simp only [SZ] at z_V1
 clear k0 c_k0 f_k0
 clear hV_V1
 clear hA
 have hA := n_A
 clear n_A
 clear hB
 have hB := n_B
 clear n_B
 have k0 := n_k0; clear n_k0
 have c_k0 := cells_of k0
 have f_k0 := free_of k0
 have l_k0_V1 := lt_of k0
 have k1 := n_k1; clear n_k1
 have c_k1 := cells_of k1
 have f_k1 := free_of k1
 have l_k1_V1 := lt_of k1
 refine wp_region_noPanic ?_
 refine wp_region_held_drew (S := fun v => (∀ o, v.cell? ⟨w1.heap.size, o, none⟩ = V1.cell? ⟨w1.heap.size, o, none⟩) ∧ (V1.heap.size ≤ v.heap.size) ∧ AP v ap s O) (by kernel_rfl) ⟨(fun _ => rfl), (Nat.le_refl _), hA.drew⟩ (fun hHeld => ?_)
 generalize hV_V1d : V1.drew = V1d at hHeld ⊢
 have n_k0 : V1d.heap[w.heap.size]? = V1.heap[w.heap.size]? := by rw [← hV_V1d]; rfl
 have d_k0 := n_k0.trans k0
 clear n_k0 c_k0 f_k0
 have n_k1 : V1d.heap[w1.heap.size]? = V1.heap[w1.heap.size]? := by rw [← hV_V1d]; rfl
 have d_k1 := n_k1.trans k1
 clear n_k1 c_k1 f_k1
 have n_A : AP V1d ap s O := by rw [← hV_V1d]; exact hA.drew
 clear hA; have hA := n_A; clear n_A
 have n_B : Below w.heap.size w V1d := by rw [← hV_V1d]; exact hB.drew
 clear hB; have hB := n_B; clear n_B
 have z_V1d : V1.heap.size ≤ V1d.heap.size := by rw [← hV_V1d]; exact Nat.le_refl _
 have v_k1 := cells_of k1
 clear k0; have k0 := d_k0; clear d_k0
 clear k1; have k1 := d_k1; clear d_k1
 have c_k0 := cells_of k0
 have f_k0 := free_of k0
 have l_k0_V1d := lt_of k0
 have c_k1 := cells_of k1
 have f_k1 := free_of k1
 have l_k1_V1d := lt_of k1
 clear hV_V1d
 refine ty (i := 0) (v := ?_) rfl hHeld ?_ ?_
 rotate_left
 focus (intro w hSw; go_simp; (try simp only [IntWalk.i64_left]); try (with_reducible rfl))
 try simp only [PT]
 refine ty (i := 1) (v := ?_) rfl hHeld ?_ ?_
 rotate_left
 focus (intro w hSw; go_simp; (try simp only [IntWalk.i64_left]); try (with_reducible rfl))
 try simp only [PT]
 refine ty (i := 2) (v := ?_) rfl hHeld ?_ ?_
 rotate_left
 focus (intro w hSw; go_simp; (try simp only [IntWalk.i64_left]); try (with_reducible rfl))
 try simp only [PT]
 refine take_no (i := 3) rfl (by kernel_rfl) (by kernel_rfl) (by kernel_rfl) (fun _ _ _ h => h) (by rfl) hHeld ?_
 try simp only [PT]
 refine take_no (i := 4) rfl (by kernel_rfl) (by kernel_rfl) (by kernel_rfl) (fun _ _ _ h => h) (by rfl) hHeld ?_
 try simp only [PT]
 refine take_no (i := 5) rfl (by kernel_rfl) (by kernel_rfl) (by kernel_rfl) (fun _ _ _ h => h) (by rfl) hHeld ?_
 try simp only [PT]
 refine take_no (i := 6) rfl (by kernel_rfl) (by kernel_rfl) (by kernel_rfl) (fun _ _ _ h => h) (by rfl) hHeld ?_
 try simp only [PT]
 refine ty (i := 7) (v := ?_) rfl hHeld ?_ ?_
 rotate_left
 focus (intro w hSw; go_simp; (try simp only [IntWalk.i64_left]); try (with_reducible rfl))
 try simp only [PT]
 refine ty (i := 8) (v := ?_) rfl hHeld ?_ ?_
 rotate_left
 focus (intro w hSw; go_simp; (try simp only [IntWalk.i64_left]); try (with_reducible rfl))
 try simp only [PT]
 refine take_no (i := 9) rfl (by kernel_rfl) (by kernel_rfl) (by kernel_rfl) (fun _ _ _ h => h) (by rfl) hHeld ?_
 try simp only [PT]
 refine take_no (i := 10) rfl (by kernel_rfl) (by kernel_rfl) (by kernel_rfl) (fun _ _ _ h => h) (by rfl) hHeld ?_
 try simp only [PT]
 refine take_no (i := 11) rfl (by kernel_rfl) (by kernel_rfl) (by kernel_rfl) (fun _ _ _ h => h) (by rfl) hHeld ?_
 try simp only [PT]
 refine ty (i := 12) (v := ?_) rfl hHeld ?_ ?_
 rotate_left
 focus (intro w hSw; go_simp; (try simp only [IntWalk.i64_left]); try (with_reducible rfl))
 try simp only [PT]
 refine wpAnyH_ready (rs := [13]) (by kernel_rfl) (by simp) ?_
 refine ready_at rfl (fun K hK => ?_) AllReadyH.nil
 go_simp
 refine gen_app (K := K) (fun D hV_D => ?_)
 have n_k0 := congrArg (fun v : World => v.heap[w.heap.size]?) hV_D
 simp (maxDischargeDepth := 9) only [BK, not_false_eq_true, reduceCtorEq, k0, k1, l_k0_V, l_k0_w1, l_k0_V1, l_k1_V1, l_k0_V1d, l_k1_V1d] at n_k0
 have n_k1 := congrArg (fun v : World => v.heap[w1.heap.size]?) hV_D
 simp (maxDischargeDepth := 9) only [BK, not_false_eq_true, reduceCtorEq, k0, k1, l_k0_V, l_k0_w1, l_k0_V1, l_k1_V1, l_k0_V1d, l_k1_V1d] at n_k1
 have n_B : Below w.heap.size w D := nB hV_D
 have n_A : AP D ap s O := nA hV_D
 have z_D := Nat.le_of_eq (congrArg (fun v : World => v.heap.size) hV_D).symm
 try simp only [SZ] at z_D
 clear k0 c_k0 f_k0
 clear k1 c_k1 f_k1
 clear hV_D
 clear hA
 have hA := n_A
 clear n_A
 clear hB
 have hB := n_B
 clear n_B
 have k0 := n_k0; clear n_k0
 have c_k0 := cells_of k0
 have f_k0 := free_of k0
 have l_k0_D := lt_of k0
 have k1 := n_k1; clear n_k1
 have c_k1 := cells_of k1
 have f_k1 := free_of k1
 have l_k1_D := lt_of k1
 refine hK.out _ _ ⟨(fun o => (c_k1 o).trans (v_k1 o).symm), (by omega), hA⟩ (fun hHeld => ?_)
 clear hK K
 try simp only [PT]
 refine wpAnyH_ready (rs := [14]) (by kernel_rfl) (by simp) ?_
 refine ready_at rfl (fun K hK => ?_) AllReadyH.nil
 go_simp
 refine hK.out _ _ hHeld (fun hHeld => ?_)
 clear hK K
 try simp only [PT]
 refine wpAnyH_done (by kernel_rfl) ?_ _
 refine NoPanic.normal ?_
 go_wp2_with fail
 refine bodyPost_ret (v := .tuple #[(s.get h).val, .bool false]) (by simp [results, Try.results68, go_sem, Nd.val, *]) rfl ⟨rfl, hB⟩
set_option maxRecDepth 100000 in
set_option maxHeartbeats 800000 in
theorem wRow_dead (h : Int) (h1 : s.has h = true) (h2 : ¬ 0 < s.cnt h) (w : World) (hA : AP w ap s O) :
  Calls Try.prog 68 #[ap, .int .i64 h] w fun e w' => e = .returned (.tuple #[(s.get h).val, .bool false]) ∧ Below w.heap.size w w' := by
 unfold Nd.val
 have d1 : decide (0 < s.cnt h) = false := by simpa using h2
 clear h2
 go_enter Try.func68, Try.ntmps68
 go_wp2_with fail
 refine calls_gen fun V hV_V => ?_
 have n_k0 := congrArg (fun v : World => v.heap[w.heap.size]?) hV_V
 simp (maxDischargeDepth := 9) only [BK, not_false_eq_true, reduceCtorEq] at n_k0
 have o_k0 : ¬ O (w.heap.size) := by first | exact hA.new (Nat.le_refl _) | exact hA.new (by omega)
 have n_B : Below w.heap.size w V := nB hV_V
 have n_A : AP V ap s O := nA hV_V
 have z_V := Nat.le_of_eq (congrArg (fun v : World => v.heap.size) hV_V).symm
 try simp only [SZ] at z_V
 clear hV_V
 clear hA
 have hA := n_A
 clear n_A
 skip
 have hB := n_B
 clear n_B
 have k0 := n_k0; clear n_k0
 have c_k0 := cells_of k0
 have f_k0 := free_of k0
 have l_k0_V := lt_of k0
 refine (aget_calls _ _ hA).mono ?_
 rintro e_w1 w1 ⟨rfl, hb_w1⟩
 replace hA := hA.below hb_w1
 replace hB := below_step hB hb_w1
 replace k0 := keep_blk hb_w1 k0
 have c_k0 := cells_of k0
 have f_k0 := free_of k0
 have l_k0_w1 := lt_of k0
 have z_w1 := hb_w1.size
 clear hb_w1
 unfold Nd.val
 go_wp2_with fail
 refine wp_gen fun V1 hV_V1 => ?_
 have n_k0 := congrArg (fun v : World => v.heap[w.heap.size]?) hV_V1
 simp (maxDischargeDepth := 9) only [BK, not_false_eq_true, reduceCtorEq, k0, l_k0_V, l_k0_w1] at n_k0
 have n_k1 := congrArg (fun v : World => v.heap[w1.heap.size]?) hV_V1
 simp (maxDischargeDepth := 9) only [BK, not_false_eq_true, reduceCtorEq, k0, l_k0_V, l_k0_w1] at n_k1
 have o_k1 : ¬ O (w1.heap.size) := by first | exact hA.new (Nat.le_refl _) | exact hA.new (by omega)
 have n_B : Below w.heap.size w V1 := nB hV_V1
 have n_A : AP V1 ap s O := nA hV_V1
 have z_V1 := Nat.le_of_eq (congrArg (fun v : World => v.heap.size) hV_V1).symm
 try simp only [SZ] at z_V1
 clear k0 c_k0 f_k0
 clear hV_V1
 clear hA
 have hA := n_A
 clear n_A
 clear hB
 have hB := n_B
 clear n_B
 have k0 := n_k0; clear n_k0
 have c_k0 := cells_of k0
 have f_k0 := free_of k0
 have l_k0_V1 := lt_of k0
 have k1 := n_k1; clear n_k1
 have c_k1 := cells_of k1
 have f_k1 := free_of k1
 have l_k1_V1 := lt_of k1
 refine wp_region_noPanic ?_
 refine wp_region_held_drew (S := fun v => (∀ o, v.cell? ⟨w1.heap.size, o, none⟩ = V1.cell? ⟨w1.heap.size, o, none⟩) ∧ (V1.heap.size ≤ v.heap.size) ∧ AP v ap s O) (by kernel_rfl) ⟨(fun _ => rfl), (Nat.le_refl _), hA.drew⟩ (fun hHeld => ?_)
 generalize hV_V1d : V1.drew = V1d at hHeld ⊢
 have n_k0 : V1d.heap[w.heap.size]? = V1.heap[w.heap.size]? := by rw [← hV_V1d]; rfl
 have d_k0 := n_k0.trans k0
 clear n_k0 c_k0 f_k0
 have n_k1 : V1d.heap[w1.heap.size]? = V1.heap[w1.heap.size]? := by rw [← hV_V1d]; rfl
 have d_k1 := n_k1.trans k1
 clear n_k1 c_k1 f_k1
 have n_A : AP V1d ap s O := by rw [← hV_V1d]; exact hA.drew
 clear hA; have hA := n_A; clear n_A
 have n_B : Below w.heap.size w V1d := by rw [← hV_V1d]; exact hB.drew
 clear hB; have hB := n_B; clear n_B
 have z_V1d : V1.heap.size ≤ V1d.heap.size := by rw [← hV_V1d]; exact Nat.le_refl _
 have v_k1 := cells_of k1
 clear k0; have k0 := d_k0; clear d_k0
 clear k1; have k1 := d_k1; clear d_k1
 have c_k0 := cells_of k0
 have f_k0 := free_of k0
 have l_k0_V1d := lt_of k0
 have c_k1 := cells_of k1
 have f_k1 := free_of k1
 have l_k1_V1d := lt_of k1
 clear hV_V1d
 refine ty (i := 0) (v := ?_) rfl hHeld ?_ ?_
 rotate_left
 focus (intro w hSw; go_simp; (try simp only [IntWalk.i64_left]); try (with_reducible rfl))
 try simp only [PT]
 refine ty (i := 1) (v := ?_) rfl hHeld ?_ ?_
 rotate_left
 focus (intro w hSw; go_simp; (try simp only [IntWalk.i64_left]); try (with_reducible rfl))
 try simp only [PT]
 refine ty (i := 2) (v := ?_) rfl hHeld ?_ ?_
 rotate_left
 focus (intro w hSw; go_simp; (try simp only [IntWalk.i64_left]); try (with_reducible rfl))
 try simp only [PT]
 refine ty (i := 3) (v := ?_) rfl hHeld ?_ ?_
 rotate_left
 focus (intro w hSw; go_simp; (try simp only [IntWalk.i64_left]); try (with_reducible rfl))
 try simp only [PT]
 refine ty (i := 4) (v := ?_) rfl hHeld ?_ ?_
 rotate_left
 focus (intro w hSw; go_simp; (try simp only [IntWalk.i64_left]); try (with_reducible rfl))
 try simp only [PT]
 refine take_call (i := 5) (f := ?_) (args := ?_) (v := ?_) rfl (by kernel_rfl) (by kernel_rfl) (by kernel_rfl) (fun _ _ _ h => h) (by rfl) hHeld ?_ (fun v hSv => ?_) ?_
 rotate_left 3
 focus (intro v hSv; go_simp; constructor <;> with_reducible rfl)
 focus (obtain ⟨c0, zs, hAv⟩ := hSv; exact count_calls _ v hAv)
 try simp only [PT]
 refine ty (i := 6) (v := ?_) rfl hHeld ?_ ?_
 rotate_left
 focus (intro w hSw; go_simp; (try simp only [IntWalk.i64_left]); try (with_reducible rfl))
 try simp only [PT]
 refine ty (i := 7) (v := ?_) rfl hHeld ?_ ?_
 rotate_left
 focus (intro w hSw; go_simp; (try simp only [IntWalk.i64_left]); try (with_reducible rfl))
 try simp only [PT]
 refine ty (i := 8) (v := ?_) rfl hHeld ?_ ?_
 rotate_left
 focus (intro w hSw; go_simp; (try simp only [IntWalk.i64_left]); try (with_reducible rfl))
 try simp only [PT]
 refine take_no (i := 9) rfl (by kernel_rfl) (by kernel_rfl) (by kernel_rfl) (fun _ _ _ h => h) (by rfl) hHeld ?_
 try simp only [PT]
 refine take_no (i := 10) rfl (by kernel_rfl) (by kernel_rfl) (by kernel_rfl) (fun _ _ _ h => h) (by rfl) hHeld ?_
 try simp only [PT]
 refine take_no (i := 11) rfl (by kernel_rfl) (by kernel_rfl) (by kernel_rfl) (fun _ _ _ h => h) (by rfl) hHeld ?_
 try simp only [PT]
 refine ty (i := 12) (v := ?_) rfl hHeld ?_ ?_
 rotate_left
 focus (intro w hSw; go_simp; (try simp only [IntWalk.i64_left]); try (with_reducible rfl))
 try simp only [PT]
 refine wpAnyH_ready (rs := [13]) (by kernel_rfl) (by simp) ?_
 refine ready_at rfl (fun K hK => ?_) AllReadyH.nil
 go_simp
 refine gen_app (K := K) (fun D hV_D => ?_)
 have n_k0 := congrArg (fun v : World => v.heap[w.heap.size]?) hV_D
 simp (maxDischargeDepth := 9) only [BK, not_false_eq_true, reduceCtorEq, k0, k1, l_k0_V, l_k0_w1, l_k0_V1, l_k1_V1, l_k0_V1d, l_k1_V1d] at n_k0
 have n_k1 := congrArg (fun v : World => v.heap[w1.heap.size]?) hV_D
 simp (maxDischargeDepth := 9) only [BK, not_false_eq_true, reduceCtorEq, k0, k1, l_k0_V, l_k0_w1, l_k0_V1, l_k1_V1, l_k0_V1d, l_k1_V1d] at n_k1
 have n_B : Below w.heap.size w D := nB hV_D
 have n_A : AP D ap s O := nA hV_D
 have z_D := Nat.le_of_eq (congrArg (fun v : World => v.heap.size) hV_D).symm
 try simp only [SZ] at z_D
 clear k0 c_k0 f_k0
 clear k1 c_k1 f_k1
 clear hV_D
 clear hA
 have hA := n_A
 clear n_A
 clear hB
 have hB := n_B
 clear n_B
 have k0 := n_k0; clear n_k0
 have c_k0 := cells_of k0
 have f_k0 := free_of k0
 have l_k0_D := lt_of k0
 have k1 := n_k1; clear n_k1
 have c_k1 := cells_of k1
 have f_k1 := free_of k1
 have l_k1_D := lt_of k1
 refine hK.out _ _ ⟨(fun o => (c_k1 o).trans (v_k1 o).symm), (by omega), hA⟩ (fun hHeld => ?_)
 clear hK K
 try simp only [PT]
 refine wpAnyH_ready (rs := [14]) (by kernel_rfl) (by simp) ?_
 refine ready_at rfl (fun K hK => ?_) AllReadyH.nil
 go_simp
 refine hK.out _ _ hHeld (fun hHeld => ?_)
 clear hK K
 try simp only [PT]
 refine wpAnyH_done (by kernel_rfl) ?_ _
 refine NoPanic.normal ?_
 go_wp2_with fail
 refine bodyPost_ret (v := .tuple #[(s.get h).val, .bool false]) (by simp [results, Try.results68, go_sem, Nd.val, *]) rfl ⟨rfl, hB⟩
set_option maxRecDepth 100000 in
set_option maxHeartbeats 800000 in
theorem wRow_t1 (h : Int) (h1 : s.has h = true) (h2 : 0 < s.cnt h) (h3 : (s.get h).tag = 3) (w : World) (hA : AP w ap s O) :
  Calls Try.prog 68 #[ap, .int .i64 h] w fun e w' => e = .returned (.tuple #[(s.get h).val, .bool true]) ∧ Below w.heap.size w w' := by
 unfold Nd.val
 have d1 : decide (0 < s.cnt h) = true := by simpa using h2
 have d2 : ((s.get h).tag == 3) = true := by simpa using h3
 clear h2 h3
 go_enter Try.func68, Try.ntmps68
 go_wp2_with fail
 refine calls_gen fun V hV_V => ?_
 have n_k0 := congrArg (fun v : World => v.heap[w.heap.size]?) hV_V
 simp (maxDischargeDepth := 9) only [BK, not_false_eq_true, reduceCtorEq] at n_k0
 have o_k0 : ¬ O (w.heap.size) := by first | exact hA.new (Nat.le_refl _) | exact hA.new (by omega)
 have n_B : Below w.heap.size w V := nB hV_V
 have n_A : AP V ap s O := nA hV_V
 have z_V := Nat.le_of_eq (congrArg (fun v : World => v.heap.size) hV_V).symm
 try simp only [SZ] at z_V
 clear hV_V
 clear hA
 have hA := n_A
 clear n_A
 skip
 have hB := n_B
 clear n_B
 have k0 := n_k0; clear n_k0
 have c_k0 := cells_of k0
 have f_k0 := free_of k0
 have l_k0_V := lt_of k0
 refine (aget_calls _ _ hA).mono ?_
 rintro e_w1 w1 ⟨rfl, hb_w1⟩
 replace hA := hA.below hb_w1
 replace hB := below_step hB hb_w1
 replace k0 := keep_blk hb_w1 k0
 have c_k0 := cells_of k0
 have f_k0 := free_of k0
 have l_k0_w1 := lt_of k0
 have z_w1 := hb_w1.size
 clear hb_w1
 unfold Nd.val
 go_wp2_with fail
 refine wp_gen fun V1 hV_V1 => ?_
 have n_k0 := congrArg (fun v : World => v.heap[w.heap.size]?) hV_V1
 simp (maxDischargeDepth := 9) only [BK, not_false_eq_true, reduceCtorEq, k0, l_k0_V, l_k0_w1] at n_k0
 have n_k1 := congrArg (fun v : World => v.heap[w1.heap.size]?) hV_V1
 simp (maxDischargeDepth := 9) only [BK, not_false_eq_true, reduceCtorEq, k0, l_k0_V, l_k0_w1] at n_k1
 have o_k1 : ¬ O (w1.heap.size) := by first | exact hA.new (Nat.le_refl _) | exact hA.new (by omega)
 have n_B : Below w.heap.size w V1 := nB hV_V1
 have n_A : AP V1 ap s O := nA hV_V1
 have z_V1 := Nat.le_of_eq (congrArg (fun v : World => v.heap.size) hV_V1).symm
 try simp only [SZ] at z_V1
 clear k0 c_k0 f_k0
 clear hV_V1
 clear hA
 have hA := n_A
 clear n_A
 clear hB
 have hB := n_B
 clear n_B
 have k0 := n_k0; clear n_k0
 have c_k0 := cells_of k0
 have f_k0 := free_of k0
 have l_k0_V1 := lt_of k0
 have k1 := n_k1; clear n_k1
 have c_k1 := cells_of k1
 have f_k1 := free_of k1
 have l_k1_V1 := lt_of k1
 refine wp_region_noPanic ?_
 refine wp_region_held_drew (S := fun v => (∀ o, v.cell? ⟨w1.heap.size, o, none⟩ = V1.cell? ⟨w1.heap.size, o, none⟩) ∧ (V1.heap.size ≤ v.heap.size) ∧ AP v ap s O) (by kernel_rfl) ⟨(fun _ => rfl), (Nat.le_refl _), hA.drew⟩ (fun hHeld => ?_)
 generalize hV_V1d : V1.drew = V1d at hHeld ⊢
 have n_k0 : V1d.heap[w.heap.size]? = V1.heap[w.heap.size]? := by rw [← hV_V1d]; rfl
 have d_k0 := n_k0.trans k0
 clear n_k0 c_k0 f_k0
 have n_k1 : V1d.heap[w1.heap.size]? = V1.heap[w1.heap.size]? := by rw [← hV_V1d]; rfl
 have d_k1 := n_k1.trans k1
 clear n_k1 c_k1 f_k1
 have n_A : AP V1d ap s O := by rw [← hV_V1d]; exact hA.drew
 clear hA; have hA := n_A; clear n_A
 have n_B : Below w.heap.size w V1d := by rw [← hV_V1d]; exact hB.drew
 clear hB; have hB := n_B; clear n_B
 have z_V1d : V1.heap.size ≤ V1d.heap.size := by rw [← hV_V1d]; exact Nat.le_refl _
 have v_k1 := cells_of k1
 clear k0; have k0 := d_k0; clear d_k0
 clear k1; have k1 := d_k1; clear d_k1
 have c_k0 := cells_of k0
 have f_k0 := free_of k0
 have l_k0_V1d := lt_of k0
 have c_k1 := cells_of k1
 have f_k1 := free_of k1
 have l_k1_V1d := lt_of k1
 clear hV_V1d
 refine ty (i := 0) (v := ?_) rfl hHeld ?_ ?_
 rotate_left
 focus (intro w hSw; go_simp; (try simp only [IntWalk.i64_left]); try (with_reducible rfl))
 try simp only [PT]
 refine ty (i := 1) (v := ?_) rfl hHeld ?_ ?_
 rotate_left
 focus (intro w hSw; go_simp; (try simp only [IntWalk.i64_left]); try (with_reducible rfl))
 try simp only [PT]
 refine ty (i := 2) (v := ?_) rfl hHeld ?_ ?_
 rotate_left
 focus (intro w hSw; go_simp; (try simp only [IntWalk.i64_left]); try (with_reducible rfl))
 try simp only [PT]
 refine ty (i := 3) (v := ?_) rfl hHeld ?_ ?_
 rotate_left
 focus (intro w hSw; go_simp; (try simp only [IntWalk.i64_left]); try (with_reducible rfl))
 try simp only [PT]
 refine ty (i := 4) (v := ?_) rfl hHeld ?_ ?_
 rotate_left
 focus (intro w hSw; go_simp; (try simp only [IntWalk.i64_left]); try (with_reducible rfl))
 try simp only [PT]
 refine take_call (i := 5) (f := ?_) (args := ?_) (v := ?_) rfl (by kernel_rfl) (by kernel_rfl) (by kernel_rfl) (fun _ _ _ h => h) (by rfl) hHeld ?_ (fun v hSv => ?_) ?_
 rotate_left 3
 focus (intro v hSv; go_simp; constructor <;> with_reducible rfl)
 focus (obtain ⟨c0, zs, hAv⟩ := hSv; exact count_calls _ v hAv)
 try simp only [PT]
 refine ty (i := 6) (v := ?_) rfl hHeld ?_ ?_
 rotate_left
 focus (intro w hSw; go_simp; (try simp only [IntWalk.i64_left]); try (with_reducible rfl))
 try simp only [PT]
 refine ty (i := 7) (v := ?_) rfl hHeld ?_ ?_
 rotate_left
 focus (intro w hSw; go_simp; (try simp only [IntWalk.i64_left]); try (with_reducible rfl))
 try simp only [PT]
 refine ty (i := 8) (v := ?_) rfl hHeld ?_ ?_
 rotate_left
 focus (intro w hSw; go_simp; (try simp only [IntWalk.i64_left]); try (with_reducible rfl))
 try simp only [PT]
 refine ty (i := 9) (v := ?_) rfl hHeld ?_ ?_
 rotate_left
 focus (intro w hSw; go_simp; (try simp only [IntWalk.i64_left]); try (with_reducible rfl))
 try simp only [PT]
 refine ty (i := 10) (v := ?_) rfl hHeld ?_ ?_
 rotate_left
 focus (intro w hSw; go_simp; (try simp only [IntWalk.i64_left]); try (with_reducible rfl))
 try simp only [PT]
 refine ty (i := 11) (v := ?_) rfl hHeld ?_ ?_
 rotate_left
 focus (intro w hSw; go_simp; (try simp only [IntWalk.i64_left]); try (with_reducible rfl))
 try simp only [PT]
 refine ty (i := 12) (v := ?_) rfl hHeld ?_ ?_
 rotate_left
 focus (intro w hSw; go_simp; (try simp only [IntWalk.i64_left]); try (with_reducible rfl))
 try simp only [PT]
 refine wpAnyH_ready (rs := [13]) (by kernel_rfl) (by simp) ?_
 refine ready_at rfl (fun K hK => ?_) AllReadyH.nil
 go_simp
 refine gen_app (K := K) (fun D hV_D => ?_)
 have n_k0 := congrArg (fun v : World => v.heap[w.heap.size]?) hV_D
 simp (maxDischargeDepth := 9) only [BK, not_false_eq_true, reduceCtorEq, k0, k1, l_k0_V, l_k0_w1, l_k0_V1, l_k1_V1, l_k0_V1d, l_k1_V1d] at n_k0
 have n_k1 := congrArg (fun v : World => v.heap[w1.heap.size]?) hV_D
 simp (maxDischargeDepth := 9) only [BK, not_false_eq_true, reduceCtorEq, k0, k1, l_k0_V, l_k0_w1, l_k0_V1, l_k1_V1, l_k0_V1d, l_k1_V1d] at n_k1
 have n_B : Below w.heap.size w D := nB hV_D
 have n_A : AP D ap s O := nA hV_D
 have z_D := Nat.le_of_eq (congrArg (fun v : World => v.heap.size) hV_D).symm
 try simp only [SZ] at z_D
 clear k0 c_k0 f_k0
 clear k1 c_k1 f_k1
 clear hV_D
 clear hA
 have hA := n_A
 clear n_A
 clear hB
 have hB := n_B
 clear n_B
 have k0 := n_k0; clear n_k0
 have c_k0 := cells_of k0
 have f_k0 := free_of k0
 have l_k0_D := lt_of k0
 have k1 := n_k1; clear n_k1
 have c_k1 := cells_of k1
 have f_k1 := free_of k1
 have l_k1_D := lt_of k1
 refine hK.out _ _ ⟨(fun o => (c_k1 o).trans (v_k1 o).symm), (by omega), hA⟩ (fun hHeld => ?_)
 clear hK K
 try simp only [PT]
 refine wpAnyH_ready (rs := [14]) (by kernel_rfl) (by simp) ?_
 refine ready_at rfl (fun K hK => ?_) AllReadyH.nil
 go_simp
 refine hK.out _ _ hHeld (fun hHeld => ?_)
 clear hK K
 try simp only [PT]
 refine wpAnyH_done (by kernel_rfl) ?_ _
 refine NoPanic.normal ?_
 go_wp2_with fail
 refine bodyPost_ret (v := .tuple #[(s.get h).val, .bool true]) (by simp [results, Try.results68, go_sem, Nd.val, *]) rfl ⟨rfl, hB⟩
set_option maxRecDepth 100000 in
set_option maxHeartbeats 800000 in
theorem wRow_t3 (h : Int) (h1 : s.has h = true) (h2 : 0 < s.cnt h) (h3 : (s.get h).tag ≠ 3) (w : World) (hA : AP w ap s O) :
  Calls Try.prog 68 #[ap, .int .i64 h] w fun e w' => e = .returned (.tuple #[(s.get h).val, .bool false]) ∧ Below w.heap.size w w' := by
 unfold Nd.val
 have d1 : decide (0 < s.cnt h) = true := by simpa using h2
 have d2 : ((s.get h).tag == 3) = false := by simpa using h3
 clear h2 h3
 go_enter Try.func68, Try.ntmps68
 go_wp2_with fail
 refine calls_gen fun V hV_V => ?_
 have n_k0 := congrArg (fun v : World => v.heap[w.heap.size]?) hV_V
 simp (maxDischargeDepth := 9) only [BK, not_false_eq_true, reduceCtorEq] at n_k0
 have o_k0 : ¬ O (w.heap.size) := by first | exact hA.new (Nat.le_refl _) | exact hA.new (by omega)
 have n_B : Below w.heap.size w V := nB hV_V
 have n_A : AP V ap s O := nA hV_V
 have z_V := Nat.le_of_eq (congrArg (fun v : World => v.heap.size) hV_V).symm
 try simp only [SZ] at z_V
 clear hV_V
 clear hA
 have hA := n_A
 clear n_A
 skip
 have hB := n_B
 clear n_B
 have k0 := n_k0; clear n_k0
 have c_k0 := cells_of k0
 have f_k0 := free_of k0
 have l_k0_V := lt_of k0
 refine (aget_calls _ _ hA).mono ?_
 rintro e_w1 w1 ⟨rfl, hb_w1⟩
 replace hA := hA.below hb_w1
 replace hB := below_step hB hb_w1
 replace k0 := keep_blk hb_w1 k0
 have c_k0 := cells_of k0
 have f_k0 := free_of k0
 have l_k0_w1 := lt_of k0
 have z_w1 := hb_w1.size
 clear hb_w1
 unfold Nd.val
 go_wp2_with fail
 refine wp_gen fun V1 hV_V1 => ?_
 have n_k0 := congrArg (fun v : World => v.heap[w.heap.size]?) hV_V1
 simp (maxDischargeDepth := 9) only [BK, not_false_eq_true, reduceCtorEq, k0, l_k0_V, l_k0_w1] at n_k0
 have n_k1 := congrArg (fun v : World => v.heap[w1.heap.size]?) hV_V1
 simp (maxDischargeDepth := 9) only [BK, not_false_eq_true, reduceCtorEq, k0, l_k0_V, l_k0_w1] at n_k1
 have o_k1 : ¬ O (w1.heap.size) := by first | exact hA.new (Nat.le_refl _) | exact hA.new (by omega)
 have n_B : Below w.heap.size w V1 := nB hV_V1
 have n_A : AP V1 ap s O := nA hV_V1
 have z_V1 := Nat.le_of_eq (congrArg (fun v : World => v.heap.size) hV_V1).symm
 try simp only [SZ] at z_V1
 clear k0 c_k0 f_k0
 clear hV_V1
 clear hA
 have hA := n_A
 clear n_A
 clear hB
 have hB := n_B
 clear n_B
 have k0 := n_k0; clear n_k0
 have c_k0 := cells_of k0
 have f_k0 := free_of k0
 have l_k0_V1 := lt_of k0
 have k1 := n_k1; clear n_k1
 have c_k1 := cells_of k1
 have f_k1 := free_of k1
 have l_k1_V1 := lt_of k1
 refine wp_region_noPanic ?_
 refine wp_region_held_drew (S := fun v => (∀ o, v.cell? ⟨w1.heap.size, o, none⟩ = V1.cell? ⟨w1.heap.size, o, none⟩) ∧ (V1.heap.size ≤ v.heap.size) ∧ AP v ap s O) (by kernel_rfl) ⟨(fun _ => rfl), (Nat.le_refl _), hA.drew⟩ (fun hHeld => ?_)
 generalize hV_V1d : V1.drew = V1d at hHeld ⊢
 have n_k0 : V1d.heap[w.heap.size]? = V1.heap[w.heap.size]? := by rw [← hV_V1d]; rfl
 have d_k0 := n_k0.trans k0
 clear n_k0 c_k0 f_k0
 have n_k1 : V1d.heap[w1.heap.size]? = V1.heap[w1.heap.size]? := by rw [← hV_V1d]; rfl
 have d_k1 := n_k1.trans k1
 clear n_k1 c_k1 f_k1
 have n_A : AP V1d ap s O := by rw [← hV_V1d]; exact hA.drew
 clear hA; have hA := n_A; clear n_A
 have n_B : Below w.heap.size w V1d := by rw [← hV_V1d]; exact hB.drew
 clear hB; have hB := n_B; clear n_B
 have z_V1d : V1.heap.size ≤ V1d.heap.size := by rw [← hV_V1d]; exact Nat.le_refl _
 have v_k1 := cells_of k1
 clear k0; have k0 := d_k0; clear d_k0
 clear k1; have k1 := d_k1; clear d_k1
 have c_k0 := cells_of k0
 have f_k0 := free_of k0
 have l_k0_V1d := lt_of k0
 have c_k1 := cells_of k1
 have f_k1 := free_of k1
 have l_k1_V1d := lt_of k1
 clear hV_V1d
 refine ty (i := 0) (v := ?_) rfl hHeld ?_ ?_
 rotate_left
 focus (intro w hSw; go_simp; (try simp only [IntWalk.i64_left]); try (with_reducible rfl))
 try simp only [PT]
 refine ty (i := 1) (v := ?_) rfl hHeld ?_ ?_
 rotate_left
 focus (intro w hSw; go_simp; (try simp only [IntWalk.i64_left]); try (with_reducible rfl))
 try simp only [PT]
 refine ty (i := 2) (v := ?_) rfl hHeld ?_ ?_
 rotate_left
 focus (intro w hSw; go_simp; (try simp only [IntWalk.i64_left]); try (with_reducible rfl))
 try simp only [PT]
 refine ty (i := 3) (v := ?_) rfl hHeld ?_ ?_
 rotate_left
 focus (intro w hSw; go_simp; (try simp only [IntWalk.i64_left]); try (with_reducible rfl))
 try simp only [PT]
 refine ty (i := 4) (v := ?_) rfl hHeld ?_ ?_
 rotate_left
 focus (intro w hSw; go_simp; (try simp only [IntWalk.i64_left]); try (with_reducible rfl))
 try simp only [PT]
 refine take_call (i := 5) (f := ?_) (args := ?_) (v := ?_) rfl (by kernel_rfl) (by kernel_rfl) (by kernel_rfl) (fun _ _ _ h => h) (by rfl) hHeld ?_ (fun v hSv => ?_) ?_
 rotate_left 3
 focus (intro v hSv; go_simp; constructor <;> with_reducible rfl)
 focus (obtain ⟨c0, zs, hAv⟩ := hSv; exact count_calls _ v hAv)
 try simp only [PT]
 refine ty (i := 6) (v := ?_) rfl hHeld ?_ ?_
 rotate_left
 focus (intro w hSw; go_simp; (try simp only [IntWalk.i64_left]); try (with_reducible rfl))
 try simp only [PT]
 refine ty (i := 7) (v := ?_) rfl hHeld ?_ ?_
 rotate_left
 focus (intro w hSw; go_simp; (try simp only [IntWalk.i64_left]); try (with_reducible rfl))
 try simp only [PT]
 refine ty (i := 8) (v := ?_) rfl hHeld ?_ ?_
 rotate_left
 focus (intro w hSw; go_simp; (try simp only [IntWalk.i64_left]); try (with_reducible rfl))
 try simp only [PT]
 refine ty (i := 9) (v := ?_) rfl hHeld ?_ ?_
 rotate_left
 focus (intro w hSw; go_simp; (try simp only [IntWalk.i64_left]); try (with_reducible rfl))
 try simp only [PT]
 refine ty (i := 10) (v := ?_) rfl hHeld ?_ ?_
 rotate_left
 focus (intro w hSw; go_simp; (try simp only [IntWalk.i64_left]); try (with_reducible rfl))
 try simp only [PT]
 refine ty (i := 11) (v := ?_) rfl hHeld ?_ ?_
 rotate_left
 focus (intro w hSw; go_simp; (try simp only [IntWalk.i64_left]); try (with_reducible rfl))
 try simp only [PT]
 refine ty (i := 12) (v := ?_) rfl hHeld ?_ ?_
 rotate_left
 focus (intro w hSw; go_simp; (try simp only [IntWalk.i64_left]); try (with_reducible rfl))
 try simp only [PT]
 refine wpAnyH_ready (rs := [13]) (by kernel_rfl) (by simp) ?_
 refine ready_at rfl (fun K hK => ?_) AllReadyH.nil
 go_simp
 refine gen_app (K := K) (fun D hV_D => ?_)
 have n_k0 := congrArg (fun v : World => v.heap[w.heap.size]?) hV_D
 simp (maxDischargeDepth := 9) only [BK, not_false_eq_true, reduceCtorEq, k0, k1, l_k0_V, l_k0_w1, l_k0_V1, l_k1_V1, l_k0_V1d, l_k1_V1d] at n_k0
 have n_k1 := congrArg (fun v : World => v.heap[w1.heap.size]?) hV_D
 simp (maxDischargeDepth := 9) only [BK, not_false_eq_true, reduceCtorEq, k0, k1, l_k0_V, l_k0_w1, l_k0_V1, l_k1_V1, l_k0_V1d, l_k1_V1d] at n_k1
 have n_B : Below w.heap.size w D := nB hV_D
 have n_A : AP D ap s O := nA hV_D
 have z_D := Nat.le_of_eq (congrArg (fun v : World => v.heap.size) hV_D).symm
 try simp only [SZ] at z_D
 clear k0 c_k0 f_k0
 clear k1 c_k1 f_k1
 clear hV_D
 clear hA
 have hA := n_A
 clear n_A
 clear hB
 have hB := n_B
 clear n_B
 have k0 := n_k0; clear n_k0
 have c_k0 := cells_of k0
 have f_k0 := free_of k0
 have l_k0_D := lt_of k0
 have k1 := n_k1; clear n_k1
 have c_k1 := cells_of k1
 have f_k1 := free_of k1
 have l_k1_D := lt_of k1
 refine hK.out _ _ ⟨(fun o => (c_k1 o).trans (v_k1 o).symm), (by omega), hA⟩ (fun hHeld => ?_)
 clear hK K
 try simp only [PT]
 refine wpAnyH_ready (rs := [14]) (by kernel_rfl) (by simp) ?_
 refine ready_at rfl (fun K hK => ?_) AllReadyH.nil
 go_simp
 refine hK.out _ _ hHeld (fun hHeld => ?_)
 clear hK K
 try simp only [PT]
 refine wpAnyH_done (by kernel_rfl) ?_ _
 refine NoPanic.normal ?_
 go_wp2_with fail
 refine bodyPost_ret (v := .tuple #[(s.get h).val, .bool false]) (by simp [results, Try.results68, go_sem, Nd.val, *]) rfl ⟨rfl, hB⟩
theorem wRow_calls (h : Int) (w : World) (hA : AP w ap s O) :
  Calls Try.prog 68 #[ap, .int .i64 h] w fun e w' => e = .returned (.tuple #[(s.get h).val, .bool (wIsR s h)]) ∧ Below w.heap.size w w' := by
 cases h1 : s.has h with
 | false => unfold wIsR; rw [h1]; exact wRow_no h h1 w hA
 | true =>
  by_cases h2 : 0 < s.cnt h
  ·
   by_cases h3 : (s.get h).tag = 3
   ·
    have e : wIsR s h = true := by unfold wIsR; rw [h1]; simp [h2, h3]
    rw [e]; exact wRow_t1 h h1 h2 h3 w hA
   ·
    have e : wIsR s h = false := by unfold wIsR; rw [h1]; simp [h3]
    rw [e]; exact wRow_t3 h h1 h2 h3 w hA
  ·
   have e : wIsR s h = false := by unfold wIsR; rw [h1]; simp [h2]
   rw [e]; exact wRow_dead h h1 h2 w hA
end Go.Proofs.Ytkgabbenmoocgaa
