/- Rows of symbols in an arena: a row with a symbol more. -/
import Derived.Test.YtkgabbenmoocgaaWave
import Derived.Test.YtkgabbenmoocgaaSym
import Derived.Test.YtkgabbenmoocgaaWaveMade
import Derived.Test.YtkgabbenmoocgaaBitsSet
namespace Go.Proofs.Ytkgabbenmoocgaa
set_option linter.unusedSimpArgs false
set_option linter.unusedVariables false
set_option linter.unnecessarySimpa false
open Go.RowKit
attribute [local go_sem ↓] Go.wp_at_zero Go.wp_at_succ
attribute [local go_sem] lt_s2 lt_s3 lt_s4
attribute [local go_sem] idx0 idx1 idx2 idx3
variable {ap : Value}
set_option maxRecDepth 100000 in
set_option maxHeartbeats 4000000 in
theorem wIns_step (d : Nat) (hd : d + 1 ≤ 9) (s : Ar) (O : Nat → Prop) (h i c l : Int) (hl : l = 9 - ((d + 1 : Nat) : Int)) (r : Int × Int × Ar) (w : World) (one : Bool) (ho : symBit c l = one) (j : Int) (hj : wAlike s (s.get h).k0 i one = some j)
  (u : Int × Int × Ar) (he : u.2.1 = 0) (v : Int × Int × Ar) (hv : bInsert (u.2.2.keep ((s.get h).kid !one)) (s.get h).k0 i one = some v) (hr : r = wMade v.2.2 ⟨3, v.1, if one then (s.get h).k1 else u.1, if one then u.1 else (s.get h).k2, 0, 0, 0⟩ v.2.1)
  (ih : Hid (∀ (l' : Int) (w : World), l' = wrap64 (l + 1) → AP w ap s O → Calls Try.prog 51 #[ap, .int .i64 ((s.get h).kid one), .int .i64 j, .int .i64 c, .int .i64 l'] w fun e w' => e = .returned (.tuple #[.int .i64 u.1, .int .i64 u.2.1]) ∧ Did noX ap u.2.2 O w w'))
  (hA : AP w ap s O) :
  Calls Try.prog 51 #[ap, .int .i64 h, .int .i64 i, .int .i64 c, .int .i64 l] w fun e w' => e = .returned (.tuple #[.int .i64 r.1, .int .i64 r.2.1]) ∧ Did noX ap r.2.2 O w w' := by
 have d1 : decide (8 < l) = false := by simp; omega
 have d2 : (u.2.1 != 0) = false := by simp [he]
 have Ho := Lib.hid ho; have Hj := Lib.hid hj; have Hv := Lib.hid hv; have Hr := Lib.hid hr
 have hl0 : 0 ≤ l := by omega
 have hl1 : l ≤ 8 := by omega
 have hz : U64 0 := ⟨by decide, by decide⟩
 clear ho hj hv hr he hl hd
 go_enter Try.func51, Try.ntmps51
 go_wp2_with fail
 refine calls_gen fun V hV_V => ?_
 have n_F : Fr (noX) O O w V := nF hV_V
 have n_A : AP V ap s O := nA hV_V
 have z_V := Nat.le_of_eq (congrArg (fun v : World => v.heap.size) hV_V).symm
 try simp only [SZ] at z_V
 clear hV_V
 clear hA
 have hA := n_A
 clear n_A
 skip
 have hF := n_F
 clear n_F
 refine (wRow_calls _ _ hA).mono ?_
 rintro e_W1 W1 ⟨rfl, hb_W1⟩
 replace hA := hA.below hb_W1
 replace hF := hF.below hb_W1
 have z_W1 := hb_W1.size
 clear hb_W1
 unfold Nd.val
 go_wp2_with fail
 refine calls_gen fun V1 hV_V1 => ?_
 have n_kn := congrArg (fun v : World => v.heap[W1.heap.size]?) hV_V1
 simp (maxDischargeDepth := 9) only [BK, not_false_eq_true, reduceCtorEq] at n_kn
 have o_kn : ¬ O (W1.heap.size) := by first | exact hA.new (Nat.le_refl _) | exact hA.new (by omega)
 have n_F : Fr (noX) O O w V1 := nF hV_V1
 have n_A : AP V1 ap s O := nA hV_V1
 have z_V1 := Nat.le_of_eq (congrArg (fun v : World => v.heap.size) hV_V1).symm
 try simp only [SZ] at z_V1
 clear hV_V1
 clear hA
 have hA := n_A
 clear n_A
 clear hF
 have hF := n_F
 clear n_F
 have kn := n_kn; clear n_kn
 have c_kn := cells_of kn
 have f_kn := free_of kn
 have l_kn_V1 := lt_of kn
 refine (symBit_calls _ _ _).mono ?_
 rintro e_q w_q ⟨rfl, rfl⟩
 rw [Ho.out]
 go_wp2_with fail
 refine wp_gen fun V2 hV_V2 => ?_
 have n_kn := congrArg (fun v : World => v.heap[W1.heap.size]?) hV_V2
 simp (maxDischargeDepth := 9) only [BK, not_false_eq_true, reduceCtorEq, kn, l_kn_V1] at n_kn
 have n_kx := congrArg (fun v : World => v.heap[V1.heap.size]?) hV_V2
 simp (maxDischargeDepth := 9) only [BK, not_false_eq_true, reduceCtorEq, kn, l_kn_V1] at n_kx
 have o_kx : ¬ O (V1.heap.size) := by first | exact hA.new (Nat.le_refl _) | exact hA.new (by omega)
 have n_F : Fr (noX) O O w V2 := nF hV_V2
 have n_A : AP V2 ap s O := nA hV_V2
 have z_V2 := Nat.le_of_eq (congrArg (fun v : World => v.heap.size) hV_V2).symm
 try simp only [SZ] at z_V2
 clear kn c_kn f_kn
 clear hV_V2
 clear hA
 have hA := n_A
 clear n_A
 clear hF
 have hF := n_F
 clear n_F
 have kn := n_kn; clear n_kn
 have c_kn := cells_of kn
 have f_kn := free_of kn
 have l_kn_V2 := lt_of kn
 have kx := n_kx; clear n_kx
 have c_kx := cells_of kx
 have f_kx := free_of kx
 have l_kx_V2 := lt_of kx
 refine wp_region_noPanic ?_
 refine wp_region_held_drew (S := fun v => (∀ o, v.cell? ⟨W1.heap.size, o, none⟩ = V2.cell? ⟨W1.heap.size, o, none⟩) ∧ (∀ o, v.cell? ⟨V1.heap.size, o, none⟩ = V2.cell? ⟨V1.heap.size, o, none⟩) ∧ (V2.heap.size ≤ v.heap.size) ∧ True) (by kernel_rfl) ⟨(fun _ => rfl), (fun _ => rfl), (Nat.le_refl _), trivial⟩ (fun hHeld => ?_)
 generalize hV_V2d : V2.drew = V2d at hHeld ⊢
 have n_kn : V2d.heap[W1.heap.size]? = V2.heap[W1.heap.size]? := by rw [← hV_V2d]; rfl
 have d_kn := n_kn.trans kn
 clear n_kn c_kn f_kn
 have n_kx : V2d.heap[V1.heap.size]? = V2.heap[V1.heap.size]? := by rw [← hV_V2d]; rfl
 have d_kx := n_kx.trans kx
 clear n_kx c_kx f_kx
 have n_A : AP V2d ap s O := by rw [← hV_V2d]; exact hA.drew
 clear hA; have hA := n_A; clear n_A
 have n_F : Fr (noX) O O w V2d := by rw [← hV_V2d]; exact hF.drew
 clear hF; have hF := n_F; clear n_F
 have z_V2d : V2.heap.size ≤ V2d.heap.size := by rw [← hV_V2d]; exact Nat.le_refl _
 have v_kn := cells_of kn
 have v_kx := cells_of kx
 clear kn; have kn := d_kn; clear d_kn
 clear kx; have kx := d_kx; clear d_kx
 have c_kn := cells_of kn
 have f_kn := free_of kn
 have l_kn_V2d := lt_of kn
 have c_kx := cells_of kx
 have f_kx := free_of kx
 have l_kx_V2d := lt_of kx
 clear hV_V2d
 refine ty (i := 0) (v := ?_) rfl hHeld ?_ ?_
 rotate_left
 focus (intro w hSw; go_simp; (try simp only [IntWalk.i64_left]); try (with_reducible rfl))
 try simp only [PT]
 refine ty (i := 1) (v := ?_) rfl hHeld ?_ ?_
 rotate_left
 focus (intro w hSw; go_simp; (try simp only [IntWalk.i64_left]); try (with_reducible rfl))
 try simp only [PT]
 refine ty (i := 2) (v := ?_) rfl hHeld ?_ ?_
 rotate_left
 focus (intro w hSw; go_simp; (try simp only [IntWalk.i64_left]); try (with_reducible rfl))
 try simp only [PT]
 refine ty (i := 4) (v := ?_) rfl hHeld ?_ ?_
 rotate_left
 focus (intro w hSw; go_simp; (try simp only [IntWalk.i64_left]); try (with_reducible rfl))
 try simp only [PT]
 refine ty (i := 5) (v := ?_) rfl hHeld ?_ ?_
 rotate_left
 focus (intro w hSw; go_simp; (try simp only [IntWalk.i64_left]); try (with_reducible rfl))
 try simp only [PT]
 refine ty (i := 6) (v := ?_) rfl hHeld ?_ ?_
 rotate_left
 focus (intro w hSw; go_simp; (try simp only [IntWalk.i64_left]); try (with_reducible rfl))
 try simp only [PT]
 refine ty (i := 7) (v := ?_) rfl hHeld ?_ ?_
 rotate_left
 focus (intro w hSw; go_simp; (try simp only [IntWalk.i64_left]); try (with_reducible rfl))
 try simp only [PT]
 refine ty (i := 8) (v := ?_) rfl hHeld ?_ ?_
 rotate_left
 focus (intro w hSw; go_simp; (try simp only [IntWalk.i64_left]); try (with_reducible rfl))
 try simp only [PT]
 refine ty (i := 9) (v := ?_) rfl hHeld ?_ ?_
 rotate_left
 focus (intro w hSw; go_simp; (try simp only [IntWalk.i64_left]); try (with_reducible rfl))
 try simp only [PT]
 refine ty (i := 11) (v := ?_) rfl hHeld ?_ ?_
 rotate_left
 focus (intro w hSw; go_simp; (try simp only [IntWalk.i64_left]); try (with_reducible rfl))
 try simp only [PT]
 refine ty (i := 12) (v := ?_) rfl hHeld ?_ ?_
 rotate_left
 focus (intro w hSw; go_simp; (try simp only [IntWalk.i64_left]); try (with_reducible rfl))
 try simp only [PT]
 refine ty (i := 13) (v := ?_) rfl hHeld ?_ ?_
 rotate_left
 focus (intro w hSw; go_simp; (try simp only [IntWalk.i64_left]); try (with_reducible rfl))
 try simp only [PT]
 refine wpAnyH_ready (rs := [3]) (by kernel_rfl) (by simp) ?_
 refine ready_at rfl (fun K hK => ?_) AllReadyH.nil
 go_simp
 try simp only [IntWalk.i64_left]
 refine (wKid_calls (s.get h) one _).mono ?_
 rintro e_W2 W2 ⟨rfl, hb_W2⟩
 replace hA := hA.below hb_W2
 replace hF := hF.below hb_W2
 replace kn := keep_blk hb_W2 kn
 have c_kn := cells_of kn
 have f_kn := free_of kn
 have l_kn_W2 := lt_of kn
 replace kx := keep_blk hb_W2 kx
 have c_kx := cells_of kx
 have f_kx := free_of kx
 have l_kx_W2 := lt_of kx
 have z_W2 := hb_W2.size
 clear hb_W2
 refine hK.out _ _ ⟨(fun o => (c_kn o).trans (v_kn o).symm), (fun o => (c_kx o).trans (v_kx o).symm), (by omega), trivial⟩ (fun hHeld => ?_)
 clear hK K
 try simp only [PT]
 refine wpAnyH_ready (rs := [10]) (by kernel_rfl) (by simp) ?_
 refine ready_at rfl (fun K hK => ?_) AllReadyH.nil
 go_simp
 try simp only [IntWalk.i64_left]
 refine (wAlike_calls _ _ _ _ Hj.out _ hA).mono ?_
 rintro e_W3 W3 ⟨rfl, hb_W3⟩
 replace hA := hA.below hb_W3
 replace hF := hF.below hb_W3
 replace kn := keep_blk hb_W3 kn
 have c_kn := cells_of kn
 have f_kn := free_of kn
 have l_kn_W3 := lt_of kn
 replace kx := keep_blk hb_W3 kx
 have c_kx := cells_of kx
 have f_kx := free_of kx
 have l_kx_W3 := lt_of kx
 have z_W3 := hb_W3.size
 clear hb_W3
 refine hK.out _ _ ⟨(fun o => (c_kn o).trans (v_kn o).symm), (fun o => (c_kx o).trans (v_kx o).symm), (by omega), trivial⟩ (fun hHeld => ?_)
 clear hK K
 try simp only [PT]
 refine wpAnyH_ready (rs := [14]) (by kernel_rfl) (by simp) ?_
 refine ready_at rfl (fun K hK => ?_) AllReadyH.nil
 go_simp
 try simp only [IntWalk.i64_left]
 refine (ih.out _ _ rfl hA).mono ?_
 rintro e_W4 W4 ⟨rfl, O1, hA_W4, hf_W4⟩
 have q_kn := hf_W4.keep kn o_kn (fun h => h)
 have q_kx := hf_W4.keep kx o_kx (fun h => h)
 replace o_kn := hf_W4.not_own (lt_of kn) o_kn
 clear kn; have kn := q_kn; clear q_kn
 have c_kn := cells_of kn
 have f_kn := free_of kn
 have l_kn_W4 := lt_of kn
 replace o_kx := hf_W4.not_own (lt_of kx) o_kx
 clear kx; have kx := q_kx; clear q_kx
 have c_kx := cells_of kx
 have f_kx := free_of kx
 have l_kx_W4 := lt_of kx
 replace hF := hF.trans hf_W4.widen
 have z_W4 := hf_W4.size
 clear hA hf_W4; have hA := hA_W4; clear hA_W4
 refine hK.out _ _ ⟨(fun o => (c_kn o).trans (v_kn o).symm), (fun o => (c_kx o).trans (v_kx o).symm), (by omega), trivial⟩ (fun hHeld => ?_)
 clear hK K
 try simp only [PT]
 refine ty (i := 15) (v := ?_) rfl hHeld ?_ ?_
 rotate_left
 focus (intro w hSw; go_simp; (try simp only [IntWalk.i64_left]); try (with_reducible rfl))
 try simp only [PT]
 refine ty (i := 16) (v := ?_) rfl hHeld ?_ ?_
 rotate_left
 focus (intro w hSw; go_simp; (try simp only [IntWalk.i64_left]); try (with_reducible rfl))
 try simp only [PT]
 refine ty (i := 17) (v := ?_) rfl hHeld ?_ ?_
 rotate_left
 focus (intro w hSw; go_simp; (try simp only [IntWalk.i64_left]); try (with_reducible rfl))
 try simp only [PT]
 refine wpAnyH_ready (rs := [18]) (by kernel_rfl) (by simp) ?_
 refine ready_at rfl (fun K hK => ?_) AllReadyH.nil
 go_simp
 refine hK.out _ _ hHeld (fun hHeld => ?_)
 clear hK K
 try simp only [PT]
 refine wpAnyH_ready (rs := [19]) (by kernel_rfl) (by simp) ?_
 refine ready_at rfl (fun K hK => ?_) AllReadyH.nil
 go_simp
 refine hK.out _ _ hHeld (fun hHeld => ?_)
 clear hK K
 try simp only [PT]
 refine wpAnyH_done (by kernel_rfl) ?_ _
 refine NoPanic.normal ?_
 cases one with
 | true =>
  go_wp2_with fail
  refine calls_gen fun V5 hV_V5 => ?_
  have n_kn := congrArg (fun v : World => v.heap[W1.heap.size]?) hV_V5
  simp (maxDischargeDepth := 9) only [BK, not_false_eq_true, reduceCtorEq, kn, kx, l_kn_V1, l_kn_V2, l_kx_V2, l_kn_V2d, l_kx_V2d, l_kn_W2, l_kx_W2, l_kn_W3, l_kx_W3, l_kn_W4, l_kx_W4] at n_kn
  have n_kx := congrArg (fun v : World => v.heap[V1.heap.size]?) hV_V5
  simp (maxDischargeDepth := 9) only [BK, not_false_eq_true, reduceCtorEq, kn, kx, l_kn_V1, l_kn_V2, l_kx_V2, l_kn_V2d, l_kx_V2d, l_kn_W2, l_kx_W2, l_kn_W3, l_kx_W3, l_kn_W4, l_kx_W4] at n_kx
  have n_F : Fr (noX) O O1 w V5 := nF hV_V5
  have n_A : AP V5 ap u.2.2 O1 := nA hV_V5
  have z_V5 := Nat.le_of_eq (congrArg (fun v : World => v.heap.size) hV_V5).symm
  try simp only [SZ] at z_V5
  clear kn c_kn f_kn
  clear kx c_kx f_kx
  clear hV_V5
  clear hA
  have hA := n_A
  clear n_A
  clear hF
  have hF := n_F
  clear n_F
  have kn := n_kn; clear n_kn
  have c_kn := cells_of kn
  have f_kn := free_of kn
  have l_kn_V5 := lt_of kn
  have kx := n_kx; clear n_kx
  have c_kx := cells_of kx
  have f_kx := free_of kx
  have l_kx_V5 := lt_of kx
  refine (wKid_calls (⟨3, 0, (s.get h).k1, u.1, 0, 0, 0⟩) false _).mono ?_
  rintro e_W5 W5 ⟨rfl, hb_W5⟩
  replace hA := hA.below hb_W5
  replace hF := hF.below hb_W5
  replace kn := keep_blk hb_W5 kn
  have c_kn := cells_of kn
  have f_kn := free_of kn
  have l_kn_W5 := lt_of kn
  replace kx := keep_blk hb_W5 kx
  have c_kx := cells_of kx
  have f_kx := free_of kx
  have l_kx_W5 := lt_of kx
  have z_W5 := hb_W5.size
  clear hb_W5
  go_wp2_with fail
  refine calls_gen fun V6 hV_V6 => ?_
  have n_kn := congrArg (fun v : World => v.heap[W1.heap.size]?) hV_V6
  simp (maxDischargeDepth := 9) only [BK, not_false_eq_true, reduceCtorEq, kn, kx, l_kn_V1, l_kn_V2, l_kx_V2, l_kn_V2d, l_kx_V2d, l_kn_W2, l_kx_W2, l_kn_W3, l_kx_W3, l_kn_W4, l_kx_W4, l_kn_V5, l_kx_V5, l_kn_W5, l_kx_W5] at n_kn
  have n_kx := congrArg (fun v : World => v.heap[V1.heap.size]?) hV_V6
  simp (maxDischargeDepth := 9) only [BK, not_false_eq_true, reduceCtorEq, kn, kx, l_kn_V1, l_kn_V2, l_kx_V2, l_kn_V2d, l_kx_V2d, l_kn_W2, l_kx_W2, l_kn_W3, l_kx_W3, l_kn_W4, l_kx_W4, l_kn_V5, l_kx_V5, l_kn_W5, l_kx_W5] at n_kx
  have n_F : Fr (noX) O O1 w V6 := nF hV_V6
  have n_A : AP V6 ap u.2.2 O1 := nA hV_V6
  have z_V6 := Nat.le_of_eq (congrArg (fun v : World => v.heap.size) hV_V6).symm
  try simp only [SZ] at z_V6
  clear kn c_kn f_kn
  clear kx c_kx f_kx
  clear hV_V6
  clear hA
  have hA := n_A
  clear n_A
  clear hF
  have hF := n_F
  clear n_F
  have kn := n_kn; clear n_kn
  have c_kn := cells_of kn
  have f_kn := free_of kn
  have l_kn_V6 := lt_of kn
  have kx := n_kx; clear n_kx
  have c_kx := cells_of kx
  have f_kx := free_of kx
  have l_kx_V6 := lt_of kx
  refine (keep_calls ((s.get h).kid !true) _ hA).mono ?_
  rintro e_W6 W6 ⟨rfl, O2, hA_W6, hf_W6⟩
  have q_kn := hf_W6.keep kn o_kn (fun h => h)
  have q_kx := hf_W6.keep kx o_kx (fun h => h)
  replace o_kn := hf_W6.not_own (lt_of kn) o_kn
  clear kn; have kn := q_kn; clear q_kn
  have c_kn := cells_of kn
  have f_kn := free_of kn
  have l_kn_W6 := lt_of kn
  replace o_kx := hf_W6.not_own (lt_of kx) o_kx
  clear kx; have kx := q_kx; clear q_kx
  have c_kx := cells_of kx
  have f_kx := free_of kx
  have l_kx_W6 := lt_of kx
  replace hF := hF.trans hf_W6.widen
  have z_W6 := hf_W6.size
  clear hA hf_W6; have hA := hA_W6; clear hA_W6
  go_wp2_with fail
  refine calls_gen fun V7 hV_V7 => ?_
  have n_kn := congrArg (fun v : World => v.heap[W1.heap.size]?) hV_V7
  simp (maxDischargeDepth := 9) only [BK, not_false_eq_true, reduceCtorEq, kn, kx, l_kn_V1, l_kn_V2, l_kx_V2, l_kn_V2d, l_kx_V2d, l_kn_W2, l_kx_W2, l_kn_W3, l_kx_W3, l_kn_W4, l_kx_W4, l_kn_V5, l_kx_V5, l_kn_W5, l_kx_W5, l_kn_V6, l_kx_V6, l_kn_W6, l_kx_W6] at n_kn
  have n_kx := congrArg (fun v : World => v.heap[V1.heap.size]?) hV_V7
  simp (maxDischargeDepth := 9) only [BK, not_false_eq_true, reduceCtorEq, kn, kx, l_kn_V1, l_kn_V2, l_kx_V2, l_kn_V2d, l_kx_V2d, l_kn_W2, l_kx_W2, l_kn_W3, l_kx_W3, l_kn_W4, l_kx_W4, l_kn_V5, l_kx_V5, l_kn_W5, l_kx_W5, l_kn_V6, l_kx_V6, l_kn_W6, l_kx_W6] at n_kx
  have n_F : Fr (noX) O O2 w V7 := nF hV_V7
  have n_A : AP V7 ap (u.2.2.keep ((s.get h).kid !true)) O2 := nA hV_V7
  have z_V7 := Nat.le_of_eq (congrArg (fun v : World => v.heap.size) hV_V7).symm
  try simp only [SZ] at z_V7
  clear kn c_kn f_kn
  clear kx c_kx f_kx
  clear hV_V7
  clear hA
  have hA := n_A
  clear n_A
  clear hF
  have hF := n_F
  clear n_F
  have kn := n_kn; clear n_kn
  have c_kn := cells_of kn
  have f_kn := free_of kn
  have l_kn_V7 := lt_of kn
  have kx := n_kx; clear n_kx
  have c_kx := cells_of kx
  have f_kx := free_of kx
  have l_kx_V7 := lt_of kx
  refine (bInsert_calls _ _ _ _ Hv.out _ hA).mono ?_
  rintro e_W7 W7 ⟨rfl, O3, hA_W7, hf_W7⟩
  have q_kn := hf_W7.keep kn o_kn (fun h => h)
  have q_kx := hf_W7.keep kx o_kx (fun h => h)
  replace o_kn := hf_W7.not_own (lt_of kn) o_kn
  clear kn; have kn := q_kn; clear q_kn
  have c_kn := cells_of kn
  have f_kn := free_of kn
  have l_kn_W7 := lt_of kn
  replace o_kx := hf_W7.not_own (lt_of kx) o_kx
  clear kx; have kx := q_kx; clear q_kx
  have c_kx := cells_of kx
  have f_kx := free_of kx
  have l_kx_W7 := lt_of kx
  replace hF := hF.trans hf_W7.widen
  have z_W7 := hf_W7.size
  clear hA hf_W7; have hA := hA_W7; clear hA_W7
  go_wp2_with fail
  refine calls_gen fun V8 hV_V8 => ?_
  have n_kn := congrArg (fun v : World => v.heap[W1.heap.size]?) hV_V8
  simp (maxDischargeDepth := 9) only [BK, not_false_eq_true, reduceCtorEq, kn, kx, l_kn_V1, l_kn_V2, l_kx_V2, l_kn_V2d, l_kx_V2d, l_kn_W2, l_kx_W2, l_kn_W3, l_kx_W3, l_kn_W4, l_kx_W4, l_kn_V5, l_kx_V5, l_kn_W5, l_kx_W5, l_kn_V6, l_kx_V6, l_kn_W6, l_kx_W6, l_kn_V7, l_kx_V7, l_kn_W7, l_kx_W7] at n_kn
  have n_kx := congrArg (fun v : World => v.heap[V1.heap.size]?) hV_V8
  simp (maxDischargeDepth := 9) only [BK, not_false_eq_true, reduceCtorEq, kn, kx, l_kn_V1, l_kn_V2, l_kx_V2, l_kn_V2d, l_kx_V2d, l_kn_W2, l_kx_W2, l_kn_W3, l_kx_W3, l_kn_W4, l_kx_W4, l_kn_V5, l_kx_V5, l_kn_W5, l_kx_W5, l_kn_V6, l_kx_V6, l_kn_W6, l_kx_W6, l_kn_V7, l_kx_V7, l_kn_W7, l_kx_W7] at n_kx
  have n_F : Fr (noX) O O3 w V8 := nF hV_V8
  have n_A : AP V8 ap v.2.2 O3 := nA hV_V8
  have z_V8 := Nat.le_of_eq (congrArg (fun v : World => v.heap.size) hV_V8).symm
  try simp only [SZ] at z_V8
  clear kn c_kn f_kn
  clear kx c_kx f_kx
  clear hV_V8
  clear hA
  have hA := n_A
  clear n_A
  clear hF
  have hF := n_F
  clear n_F
  have kn := n_kn; clear n_kn
  have c_kn := cells_of kn
  have f_kn := free_of kn
  have l_kn_V8 := lt_of kn
  have kx := n_kx; clear n_kx
  have c_kx := cells_of kx
  have f_kx := free_of kx
  have l_kx_V8 := lt_of kx
  refine (wMade_calls (⟨3, v.1, (s.get h).k1, u.1, 0, 0, 0⟩) hz v.2.1 _ hA).mono ?_
  rintro e_W8 W8 ⟨rfl, O4, hA_W8, hf_W8⟩
  have q_kn := hf_W8.keep kn o_kn (fun h => h)
  have q_kx := hf_W8.keep kx o_kx (fun h => h)
  replace o_kn := hf_W8.not_own (lt_of kn) o_kn
  clear kn; have kn := q_kn; clear q_kn
  have c_kn := cells_of kn
  have f_kn := free_of kn
  have l_kn_W8 := lt_of kn
  replace o_kx := hf_W8.not_own (lt_of kx) o_kx
  clear kx; have kx := q_kx; clear q_kx
  have c_kx := cells_of kx
  have f_kx := free_of kx
  have l_kx_W8 := lt_of kx
  replace hF := hF.trans hf_W8.widen
  have z_W8 := hf_W8.size
  clear hA hf_W8; have hA := hA_W8; clear hA_W8
  go_wp2_with fail
  go_ret2
  rw [Hr.out]
  exact ⟨rfl, O4, hA, hF⟩
 | false =>
  go_wp2_with fail
  refine wp_gen fun V5 hV_V5 => ?_
  have n_kn := congrArg (fun v : World => v.heap[W1.heap.size]?) hV_V5
  simp (maxDischargeDepth := 9) only [BK, not_false_eq_true, reduceCtorEq, kn, kx, l_kn_V1, l_kn_V2, l_kx_V2, l_kn_V2d, l_kx_V2d, l_kn_W2, l_kx_W2, l_kn_W3, l_kx_W3, l_kn_W4, l_kx_W4] at n_kn
  have n_kx := congrArg (fun v : World => v.heap[V1.heap.size]?) hV_V5
  simp (maxDischargeDepth := 9) only [BK, not_false_eq_true, reduceCtorEq, kn, kx, l_kn_V1, l_kn_V2, l_kx_V2, l_kn_V2d, l_kx_V2d, l_kn_W2, l_kx_W2, l_kn_W3, l_kx_W3, l_kn_W4, l_kx_W4] at n_kx
  have n_F : Fr (noX) O O1 w V5 := nF hV_V5
  have n_A : AP V5 ap u.2.2 O1 := nA hV_V5
  have z_V5 := Nat.le_of_eq (congrArg (fun v : World => v.heap.size) hV_V5).symm
  try simp only [SZ] at z_V5
  clear kn c_kn f_kn
  clear kx c_kx f_kx
  clear hV_V5
  clear hA
  have hA := n_A
  clear n_A
  clear hF
  have hF := n_F
  clear n_F
  have kn := n_kn; clear n_kn
  have c_kn := cells_of kn
  have f_kn := free_of kn
  have l_kn_V5 := lt_of kn
  have kx := n_kx; clear n_kx
  have c_kx := cells_of kx
  have f_kx := free_of kx
  have l_kx_V5 := lt_of kx
  refine wp_region_noPanic ?_
  refine wp_region_held_drew (S := fun v => (∀ o, v.cell? ⟨W1.heap.size, o, none⟩ = V5.cell? ⟨W1.heap.size, o, none⟩) ∧ (V5.heap.size ≤ v.heap.size) ∧ AP v ap u.2.2 O1) (by kernel_rfl) ⟨(fun _ => rfl), (Nat.le_refl _), hA.drew⟩ (fun hHeld => ?_)
  generalize hV_V5d : V5.drew = V5d at hHeld ⊢
  have n_kn : V5d.heap[W1.heap.size]? = V5.heap[W1.heap.size]? := by rw [← hV_V5d]; rfl
  have d_kn := n_kn.trans kn
  clear n_kn c_kn f_kn
  have n_kx : V5d.heap[V1.heap.size]? = V5.heap[V1.heap.size]? := by rw [← hV_V5d]; rfl
  have d_kx := n_kx.trans kx
  clear n_kx c_kx f_kx
  have n_A : AP V5d ap u.2.2 O1 := by rw [← hV_V5d]; exact hA.drew
  clear hA; have hA := n_A; clear n_A
  have n_F : Fr (noX) O O1 w V5d := by rw [← hV_V5d]; exact hF.drew
  clear hF; have hF := n_F; clear n_F
  have z_V5d : V5.heap.size ≤ V5d.heap.size := by rw [← hV_V5d]; exact Nat.le_refl _
  have v_kn := cells_of kn
  clear kn; have kn := d_kn; clear d_kn
  clear kx; have kx := d_kx; clear d_kx
  have c_kn := cells_of kn
  have f_kn := free_of kn
  have l_kn_V5d := lt_of kn
  have c_kx := cells_of kx
  have f_kx := free_of kx
  have l_kx_V5d := lt_of kx
  clear hV_V5d
  refine ty (i := 0) (v := ?_) rfl hHeld ?_ ?_
  rotate_left
  focus (intro w hSw; go_simp; (try simp only [IntWalk.i64_left]); try (with_reducible rfl))
  try simp only [PT]
  refine ty (i := 1) (v := ?_) rfl hHeld ?_ ?_
  rotate_left
  focus (intro w hSw; go_simp; (try simp only [IntWalk.i64_left]); try (with_reducible rfl))
  try simp only [PT]
  refine ty (i := 2) (v := ?_) rfl hHeld ?_ ?_
  rotate_left
  focus (intro w hSw; go_simp; (try simp only [IntWalk.i64_left]); try (with_reducible rfl))
  try simp only [PT]
  refine ty (i := 3) (v := ?_) rfl hHeld ?_ ?_
  rotate_left
  focus (intro w hSw; go_simp; (try simp only [IntWalk.i64_left]); try (with_reducible rfl))
  try simp only [PT]
  refine ty (i := 4) (v := ?_) rfl hHeld ?_ ?_
  rotate_left
  focus (intro w hSw; go_simp; (try simp only [IntWalk.i64_left]); try (with_reducible rfl))
  try simp only [PT]
  refine ty (i := 5) (v := ?_) rfl hHeld ?_ ?_
  rotate_left
  focus (intro w hSw; go_simp; (try simp only [IntWalk.i64_left]); try (with_reducible rfl))
  try simp only [PT]
  refine ty (i := 7) (v := ?_) rfl hHeld ?_ ?_
  rotate_left
  focus (intro w hSw; go_simp; (try simp only [IntWalk.i64_left]); try (with_reducible rfl))
  try simp only [PT]
  refine wpAnyH_ready (rs := [6]) (by kernel_rfl) (by simp) ?_
  refine ready_at rfl (fun K hK => ?_) AllReadyH.nil
  go_simp
  refine gen_app (K := K) (fun D1 hV_D1 => ?_)
  have n_kn := congrArg (fun v : World => v.heap[W1.heap.size]?) hV_D1
  simp (maxDischargeDepth := 9) only [BK, not_false_eq_true, reduceCtorEq, kn, kx, l_kn_V1, l_kn_V2, l_kx_V2, l_kn_V2d, l_kx_V2d, l_kn_W2, l_kx_W2, l_kn_W3, l_kx_W3, l_kn_W4, l_kx_W4, l_kn_V5, l_kx_V5, l_kn_V5d, l_kx_V5d] at n_kn
  have n_kx := congrArg (fun v : World => v.heap[V1.heap.size]?) hV_D1
  simp (maxDischargeDepth := 9) only [BK, not_false_eq_true, reduceCtorEq, kn, kx, l_kn_V1, l_kn_V2, l_kx_V2, l_kn_V2d, l_kx_V2d, l_kn_W2, l_kx_W2, l_kn_W3, l_kx_W3, l_kn_W4, l_kx_W4, l_kn_V5, l_kx_V5, l_kn_V5d, l_kx_V5d] at n_kx
  have n_F : Fr (noX) O O1 w D1 := nF hV_D1
  have n_A : AP D1 ap u.2.2 O1 := nA hV_D1
  have z_D1 := Nat.le_of_eq (congrArg (fun v : World => v.heap.size) hV_D1).symm
  try simp only [SZ] at z_D1
  clear kn c_kn f_kn
  clear kx c_kx f_kx
  clear hV_D1
  clear hA
  have hA := n_A
  clear n_A
  clear hF
  have hF := n_F
  clear n_F
  have kn := n_kn; clear n_kn
  have c_kn := cells_of kn
  have f_kn := free_of kn
  have l_kn_D1 := lt_of kn
  have kx := n_kx; clear n_kx
  have c_kx := cells_of kx
  have f_kx := free_of kx
  have l_kx_D1 := lt_of kx
  refine hK.out _ _ ⟨(fun o => (c_kn o).trans (v_kn o).symm), (by omega), hA⟩ (fun hHeld => ?_)
  clear hK K
  try simp only [PT]
  refine ty (i := 8) (v := ?_) rfl hHeld ?_ ?_
  rotate_left
  focus (intro w hSw; go_simp; (try simp only [IntWalk.i64_left]); try (with_reducible rfl))
  try simp only [PT]
  refine wpAnyH_ready (rs := [9]) (by kernel_rfl) (by simp) ?_
  refine ready_at rfl (fun K hK => ?_) AllReadyH.nil
  go_simp
  refine gen_app (K := K) (fun D2 hV_D2 => ?_)
  have n_kn := congrArg (fun v : World => v.heap[W1.heap.size]?) hV_D2
  simp (maxDischargeDepth := 9) only [BK, not_false_eq_true, reduceCtorEq, kn, kx, l_kn_V1, l_kn_V2, l_kx_V2, l_kn_V2d, l_kx_V2d, l_kn_W2, l_kx_W2, l_kn_W3, l_kx_W3, l_kn_W4, l_kx_W4, l_kn_V5, l_kx_V5, l_kn_V5d, l_kx_V5d, l_kn_D1, l_kx_D1] at n_kn
  have n_kx := congrArg (fun v : World => v.heap[V1.heap.size]?) hV_D2
  simp (maxDischargeDepth := 9) only [BK, not_false_eq_true, reduceCtorEq, kn, kx, l_kn_V1, l_kn_V2, l_kx_V2, l_kn_V2d, l_kx_V2d, l_kn_W2, l_kx_W2, l_kn_W3, l_kx_W3, l_kn_W4, l_kx_W4, l_kn_V5, l_kx_V5, l_kn_V5d, l_kx_V5d, l_kn_D1, l_kx_D1] at n_kx
  have n_F : Fr (noX) O O1 w D2 := nF hV_D2
  have n_A : AP D2 ap u.2.2 O1 := nA hV_D2
  have z_D2 := Nat.le_of_eq (congrArg (fun v : World => v.heap.size) hV_D2).symm
  try simp only [SZ] at z_D2
  clear kn c_kn f_kn
  clear kx c_kx f_kx
  clear hV_D2
  clear hA
  have hA := n_A
  clear n_A
  clear hF
  have hF := n_F
  clear n_F
  have kn := n_kn; clear n_kn
  have c_kn := cells_of kn
  have f_kn := free_of kn
  have l_kn_D2 := lt_of kn
  have kx := n_kx; clear n_kx
  have c_kx := cells_of kx
  have f_kx := free_of kx
  have l_kx_D2 := lt_of kx
  refine hK.out _ _ ⟨(fun o => (c_kn o).trans (v_kn o).symm), (by omega), hA⟩ (fun hHeld => ?_)
  clear hK K
  try simp only [PT]
  refine wpAnyH_done (by kernel_rfl) ?_ _
  refine NoPanic.normal ?_
  go_wp2_with fail
  refine calls_gen fun V6 hV_V6 => ?_
  have n_kn := congrArg (fun v : World => v.heap[W1.heap.size]?) hV_V6
  simp (maxDischargeDepth := 9) only [BK, not_false_eq_true, reduceCtorEq, kn, kx, l_kn_V1, l_kn_V2, l_kx_V2, l_kn_V2d, l_kx_V2d, l_kn_W2, l_kx_W2, l_kn_W3, l_kx_W3, l_kn_W4, l_kx_W4, l_kn_V5, l_kx_V5, l_kn_V5d, l_kx_V5d, l_kn_D1, l_kx_D1, l_kn_D2, l_kx_D2] at n_kn
  have n_kx := congrArg (fun v : World => v.heap[V1.heap.size]?) hV_V6
  simp (maxDischargeDepth := 9) only [BK, not_false_eq_true, reduceCtorEq, kn, kx, l_kn_V1, l_kn_V2, l_kx_V2, l_kn_V2d, l_kx_V2d, l_kn_W2, l_kx_W2, l_kn_W3, l_kx_W3, l_kn_W4, l_kx_W4, l_kn_V5, l_kx_V5, l_kn_V5d, l_kx_V5d, l_kn_D1, l_kx_D1, l_kn_D2, l_kx_D2] at n_kx
  have n_F : Fr (noX) O O1 w V6 := nF hV_V6
  have n_A : AP V6 ap u.2.2 O1 := nA hV_V6
  have z_V6 := Nat.le_of_eq (congrArg (fun v : World => v.heap.size) hV_V6).symm
  try simp only [SZ] at z_V6
  clear kn c_kn f_kn
  clear kx c_kx f_kx
  clear hV_V6
  clear hA
  have hA := n_A
  clear n_A
  clear hF
  have hF := n_F
  clear n_F
  have kn := n_kn; clear n_kn
  have c_kn := cells_of kn
  have f_kn := free_of kn
  have l_kn_V6 := lt_of kn
  have kx := n_kx; clear n_kx
  have c_kx := cells_of kx
  have f_kx := free_of kx
  have l_kx_V6 := lt_of kx
  refine (wKid_calls (⟨3, 0, u.1, (s.get h).k2, 0, 0, 0⟩) true _).mono ?_
  rintro e_W5 W5 ⟨rfl, hb_W5⟩
  replace hA := hA.below hb_W5
  replace hF := hF.below hb_W5
  replace kn := keep_blk hb_W5 kn
  have c_kn := cells_of kn
  have f_kn := free_of kn
  have l_kn_W5 := lt_of kn
  replace kx := keep_blk hb_W5 kx
  have c_kx := cells_of kx
  have f_kx := free_of kx
  have l_kx_W5 := lt_of kx
  have z_W5 := hb_W5.size
  clear hb_W5
  go_wp2_with fail
  refine calls_gen fun V7 hV_V7 => ?_
  have n_kn := congrArg (fun v : World => v.heap[W1.heap.size]?) hV_V7
  simp (maxDischargeDepth := 9) only [BK, not_false_eq_true, reduceCtorEq, kn, kx, l_kn_V1, l_kn_V2, l_kx_V2, l_kn_V2d, l_kx_V2d, l_kn_W2, l_kx_W2, l_kn_W3, l_kx_W3, l_kn_W4, l_kx_W4, l_kn_V5, l_kx_V5, l_kn_V5d, l_kx_V5d, l_kn_D1, l_kx_D1, l_kn_D2, l_kx_D2, l_kn_V6, l_kx_V6, l_kn_W5, l_kx_W5] at n_kn
  have n_kx := congrArg (fun v : World => v.heap[V1.heap.size]?) hV_V7
  simp (maxDischargeDepth := 9) only [BK, not_false_eq_true, reduceCtorEq, kn, kx, l_kn_V1, l_kn_V2, l_kx_V2, l_kn_V2d, l_kx_V2d, l_kn_W2, l_kx_W2, l_kn_W3, l_kx_W3, l_kn_W4, l_kx_W4, l_kn_V5, l_kx_V5, l_kn_V5d, l_kx_V5d, l_kn_D1, l_kx_D1, l_kn_D2, l_kx_D2, l_kn_V6, l_kx_V6, l_kn_W5, l_kx_W5] at n_kx
  have n_F : Fr (noX) O O1 w V7 := nF hV_V7
  have n_A : AP V7 ap u.2.2 O1 := nA hV_V7
  have z_V7 := Nat.le_of_eq (congrArg (fun v : World => v.heap.size) hV_V7).symm
  try simp only [SZ] at z_V7
  clear kn c_kn f_kn
  clear kx c_kx f_kx
  clear hV_V7
  clear hA
  have hA := n_A
  clear n_A
  clear hF
  have hF := n_F
  clear n_F
  have kn := n_kn; clear n_kn
  have c_kn := cells_of kn
  have f_kn := free_of kn
  have l_kn_V7 := lt_of kn
  have kx := n_kx; clear n_kx
  have c_kx := cells_of kx
  have f_kx := free_of kx
  have l_kx_V7 := lt_of kx
  refine (keep_calls ((s.get h).kid !false) _ hA).mono ?_
  rintro e_W6 W6 ⟨rfl, O2, hA_W6, hf_W6⟩
  have q_kn := hf_W6.keep kn o_kn (fun h => h)
  have q_kx := hf_W6.keep kx o_kx (fun h => h)
  replace o_kn := hf_W6.not_own (lt_of kn) o_kn
  clear kn; have kn := q_kn; clear q_kn
  have c_kn := cells_of kn
  have f_kn := free_of kn
  have l_kn_W6 := lt_of kn
  replace o_kx := hf_W6.not_own (lt_of kx) o_kx
  clear kx; have kx := q_kx; clear q_kx
  have c_kx := cells_of kx
  have f_kx := free_of kx
  have l_kx_W6 := lt_of kx
  replace hF := hF.trans hf_W6.widen
  have z_W6 := hf_W6.size
  clear hA hf_W6; have hA := hA_W6; clear hA_W6
  go_wp2_with fail
  refine calls_gen fun V8 hV_V8 => ?_
  have n_kn := congrArg (fun v : World => v.heap[W1.heap.size]?) hV_V8
  simp (maxDischargeDepth := 9) only [BK, not_false_eq_true, reduceCtorEq, kn, kx, l_kn_V1, l_kn_V2, l_kx_V2, l_kn_V2d, l_kx_V2d, l_kn_W2, l_kx_W2, l_kn_W3, l_kx_W3, l_kn_W4, l_kx_W4, l_kn_V5, l_kx_V5, l_kn_V5d, l_kx_V5d, l_kn_D1, l_kx_D1, l_kn_D2, l_kx_D2, l_kn_V6, l_kx_V6, l_kn_W5, l_kx_W5, l_kn_V7, l_kx_V7, l_kn_W6, l_kx_W6] at n_kn
  have n_kx := congrArg (fun v : World => v.heap[V1.heap.size]?) hV_V8
  simp (maxDischargeDepth := 9) only [BK, not_false_eq_true, reduceCtorEq, kn, kx, l_kn_V1, l_kn_V2, l_kx_V2, l_kn_V2d, l_kx_V2d, l_kn_W2, l_kx_W2, l_kn_W3, l_kx_W3, l_kn_W4, l_kx_W4, l_kn_V5, l_kx_V5, l_kn_V5d, l_kx_V5d, l_kn_D1, l_kx_D1, l_kn_D2, l_kx_D2, l_kn_V6, l_kx_V6, l_kn_W5, l_kx_W5, l_kn_V7, l_kx_V7, l_kn_W6, l_kx_W6] at n_kx
  have n_F : Fr (noX) O O2 w V8 := nF hV_V8
  have n_A : AP V8 ap (u.2.2.keep ((s.get h).kid !false)) O2 := nA hV_V8
  have z_V8 := Nat.le_of_eq (congrArg (fun v : World => v.heap.size) hV_V8).symm
  try simp only [SZ] at z_V8
  clear kn c_kn f_kn
  clear kx c_kx f_kx
  clear hV_V8
  clear hA
  have hA := n_A
  clear n_A
  clear hF
  have hF := n_F
  clear n_F
  have kn := n_kn; clear n_kn
  have c_kn := cells_of kn
  have f_kn := free_of kn
  have l_kn_V8 := lt_of kn
  have kx := n_kx; clear n_kx
  have c_kx := cells_of kx
  have f_kx := free_of kx
  have l_kx_V8 := lt_of kx
  refine (bInsert_calls _ _ _ _ Hv.out _ hA).mono ?_
  rintro e_W7 W7 ⟨rfl, O3, hA_W7, hf_W7⟩
  have q_kn := hf_W7.keep kn o_kn (fun h => h)
  have q_kx := hf_W7.keep kx o_kx (fun h => h)
  replace o_kn := hf_W7.not_own (lt_of kn) o_kn
  clear kn; have kn := q_kn; clear q_kn
  have c_kn := cells_of kn
  have f_kn := free_of kn
  have l_kn_W7 := lt_of kn
  replace o_kx := hf_W7.not_own (lt_of kx) o_kx
  clear kx; have kx := q_kx; clear q_kx
  have c_kx := cells_of kx
  have f_kx := free_of kx
  have l_kx_W7 := lt_of kx
  replace hF := hF.trans hf_W7.widen
  have z_W7 := hf_W7.size
  clear hA hf_W7; have hA := hA_W7; clear hA_W7
  go_wp2_with fail
  refine calls_gen fun V9 hV_V9 => ?_
  have n_kn := congrArg (fun v : World => v.heap[W1.heap.size]?) hV_V9
  simp (maxDischargeDepth := 9) only [BK, not_false_eq_true, reduceCtorEq, kn, kx, l_kn_V1, l_kn_V2, l_kx_V2, l_kn_V2d, l_kx_V2d, l_kn_W2, l_kx_W2, l_kn_W3, l_kx_W3, l_kn_W4, l_kx_W4, l_kn_V5, l_kx_V5, l_kn_V5d, l_kx_V5d, l_kn_D1, l_kx_D1, l_kn_D2, l_kx_D2, l_kn_V6, l_kx_V6, l_kn_W5, l_kx_W5, l_kn_V7, l_kx_V7, l_kn_W6, l_kx_W6, l_kn_V8, l_kx_V8, l_kn_W7, l_kx_W7] at n_kn
  have n_kx := congrArg (fun v : World => v.heap[V1.heap.size]?) hV_V9
  simp (maxDischargeDepth := 9) only [BK, not_false_eq_true, reduceCtorEq, kn, kx, l_kn_V1, l_kn_V2, l_kx_V2, l_kn_V2d, l_kx_V2d, l_kn_W2, l_kx_W2, l_kn_W3, l_kx_W3, l_kn_W4, l_kx_W4, l_kn_V5, l_kx_V5, l_kn_V5d, l_kx_V5d, l_kn_D1, l_kx_D1, l_kn_D2, l_kx_D2, l_kn_V6, l_kx_V6, l_kn_W5, l_kx_W5, l_kn_V7, l_kx_V7, l_kn_W6, l_kx_W6, l_kn_V8, l_kx_V8, l_kn_W7, l_kx_W7] at n_kx
  have n_F : Fr (noX) O O3 w V9 := nF hV_V9
  have n_A : AP V9 ap v.2.2 O3 := nA hV_V9
  have z_V9 := Nat.le_of_eq (congrArg (fun v : World => v.heap.size) hV_V9).symm
  try simp only [SZ] at z_V9
  clear kn c_kn f_kn
  clear kx c_kx f_kx
  clear hV_V9
  clear hA
  have hA := n_A
  clear n_A
  clear hF
  have hF := n_F
  clear n_F
  have kn := n_kn; clear n_kn
  have c_kn := cells_of kn
  have f_kn := free_of kn
  have l_kn_V9 := lt_of kn
  have kx := n_kx; clear n_kx
  have c_kx := cells_of kx
  have f_kx := free_of kx
  have l_kx_V9 := lt_of kx
  refine (wMade_calls (⟨3, v.1, u.1, (s.get h).k2, 0, 0, 0⟩) hz v.2.1 _ hA).mono ?_
  rintro e_W8 W8 ⟨rfl, O4, hA_W8, hf_W8⟩
  have q_kn := hf_W8.keep kn o_kn (fun h => h)
  have q_kx := hf_W8.keep kx o_kx (fun h => h)
  replace o_kn := hf_W8.not_own (lt_of kn) o_kn
  clear kn; have kn := q_kn; clear q_kn
  have c_kn := cells_of kn
  have f_kn := free_of kn
  have l_kn_W8 := lt_of kn
  replace o_kx := hf_W8.not_own (lt_of kx) o_kx
  clear kx; have kx := q_kx; clear q_kx
  have c_kx := cells_of kx
  have f_kx := free_of kx
  have l_kx_W8 := lt_of kx
  replace hF := hF.trans hf_W8.widen
  have z_W8 := hf_W8.size
  clear hA hf_W8; have hA := hA_W8; clear hA_W8
  go_wp2_with fail
  go_ret2
  rw [Hr.out]
  exact ⟨rfl, O4, hA, hF⟩
set_option maxRecDepth 100000 in
set_option maxHeartbeats 4000000 in
theorem wIns_err (d : Nat) (hd : d + 1 ≤ 9) (s : Ar) (O : Nat → Prop) (h i c l : Int) (hl : l = 9 - ((d + 1 : Nat) : Int)) (r : Int × Int × Ar) (w : World) (one : Bool) (ho : symBit c l = one) (j : Int) (hj : wAlike s (s.get h).k0 i one = some j)
  (u : Int × Int × Ar) (he : ¬ u.2.1 = 0) (hr : r = (0, u.2.1, u.2.2))
  (ih : Hid (∀ (l' : Int) (w : World), l' = wrap64 (l + 1) → AP w ap s O → Calls Try.prog 51 #[ap, .int .i64 ((s.get h).kid one), .int .i64 j, .int .i64 c, .int .i64 l'] w fun e w' => e = .returned (.tuple #[.int .i64 u.1, .int .i64 u.2.1]) ∧ Did noX ap u.2.2 O w w'))
  (hA : AP w ap s O) :
  Calls Try.prog 51 #[ap, .int .i64 h, .int .i64 i, .int .i64 c, .int .i64 l] w fun e w' => e = .returned (.tuple #[.int .i64 r.1, .int .i64 r.2.1]) ∧ Did noX ap r.2.2 O w w' := by
 have d1 : decide (8 < l) = false := by simp; omega
 have d2 : (u.2.1 != 0) = true := by simp [he]
 have Ho := Lib.hid ho; have Hj := Lib.hid hj; have Hr := Lib.hid hr
 have hl0 : 0 ≤ l := by omega
 have hl1 : l ≤ 8 := by omega
 have hz : U64 0 := ⟨by decide, by decide⟩
 clear ho hj hr he hl hd
 go_enter Try.func51, Try.ntmps51
 go_wp2_with fail
 refine calls_gen fun V hV_V => ?_
 have n_F : Fr (noX) O O w V := nF hV_V
 have n_A : AP V ap s O := nA hV_V
 have z_V := Nat.le_of_eq (congrArg (fun v : World => v.heap.size) hV_V).symm
 try simp only [SZ] at z_V
 clear hV_V
 clear hA
 have hA := n_A
 clear n_A
 skip
 have hF := n_F
 clear n_F
 refine (wRow_calls _ _ hA).mono ?_
 rintro e_W1 W1 ⟨rfl, hb_W1⟩
 replace hA := hA.below hb_W1
 replace hF := hF.below hb_W1
 have z_W1 := hb_W1.size
 clear hb_W1
 unfold Nd.val
 go_wp2_with fail
 refine calls_gen fun V1 hV_V1 => ?_
 have n_kn := congrArg (fun v : World => v.heap[W1.heap.size]?) hV_V1
 simp (maxDischargeDepth := 9) only [BK, not_false_eq_true, reduceCtorEq] at n_kn
 have o_kn : ¬ O (W1.heap.size) := by first | exact hA.new (Nat.le_refl _) | exact hA.new (by omega)
 have n_F : Fr (noX) O O w V1 := nF hV_V1
 have n_A : AP V1 ap s O := nA hV_V1
 have z_V1 := Nat.le_of_eq (congrArg (fun v : World => v.heap.size) hV_V1).symm
 try simp only [SZ] at z_V1
 clear hV_V1
 clear hA
 have hA := n_A
 clear n_A
 clear hF
 have hF := n_F
 clear n_F
 have kn := n_kn; clear n_kn
 have c_kn := cells_of kn
 have f_kn := free_of kn
 have l_kn_V1 := lt_of kn
 refine (symBit_calls _ _ _).mono ?_
 rintro e_q w_q ⟨rfl, rfl⟩
 rw [Ho.out]
 go_wp2_with fail
 refine wp_gen fun V2 hV_V2 => ?_
 have n_kn := congrArg (fun v : World => v.heap[W1.heap.size]?) hV_V2
 simp (maxDischargeDepth := 9) only [BK, not_false_eq_true, reduceCtorEq, kn, l_kn_V1] at n_kn
 have n_kx := congrArg (fun v : World => v.heap[V1.heap.size]?) hV_V2
 simp (maxDischargeDepth := 9) only [BK, not_false_eq_true, reduceCtorEq, kn, l_kn_V1] at n_kx
 have o_kx : ¬ O (V1.heap.size) := by first | exact hA.new (Nat.le_refl _) | exact hA.new (by omega)
 have n_F : Fr (noX) O O w V2 := nF hV_V2
 have n_A : AP V2 ap s O := nA hV_V2
 have z_V2 := Nat.le_of_eq (congrArg (fun v : World => v.heap.size) hV_V2).symm
 try simp only [SZ] at z_V2
 clear kn c_kn f_kn
 clear hV_V2
 clear hA
 have hA := n_A
 clear n_A
 clear hF
 have hF := n_F
 clear n_F
 have kn := n_kn; clear n_kn
 have c_kn := cells_of kn
 have f_kn := free_of kn
 have l_kn_V2 := lt_of kn
 have kx := n_kx; clear n_kx
 have c_kx := cells_of kx
 have f_kx := free_of kx
 have l_kx_V2 := lt_of kx
 refine wp_region_noPanic ?_
 refine wp_region_held_drew (S := fun v => (∀ o, v.cell? ⟨W1.heap.size, o, none⟩ = V2.cell? ⟨W1.heap.size, o, none⟩) ∧ (∀ o, v.cell? ⟨V1.heap.size, o, none⟩ = V2.cell? ⟨V1.heap.size, o, none⟩) ∧ (V2.heap.size ≤ v.heap.size) ∧ True) (by kernel_rfl) ⟨(fun _ => rfl), (fun _ => rfl), (Nat.le_refl _), trivial⟩ (fun hHeld => ?_)
 generalize hV_V2d : V2.drew = V2d at hHeld ⊢
 have n_kn : V2d.heap[W1.heap.size]? = V2.heap[W1.heap.size]? := by rw [← hV_V2d]; rfl
 have d_kn := n_kn.trans kn
 clear n_kn c_kn f_kn
 have n_kx : V2d.heap[V1.heap.size]? = V2.heap[V1.heap.size]? := by rw [← hV_V2d]; rfl
 have d_kx := n_kx.trans kx
 clear n_kx c_kx f_kx
 have n_A : AP V2d ap s O := by rw [← hV_V2d]; exact hA.drew
 clear hA; have hA := n_A; clear n_A
 have n_F : Fr (noX) O O w V2d := by rw [← hV_V2d]; exact hF.drew
 clear hF; have hF := n_F; clear n_F
 have z_V2d : V2.heap.size ≤ V2d.heap.size := by rw [← hV_V2d]; exact Nat.le_refl _
 have v_kn := cells_of kn
 have v_kx := cells_of kx
 clear kn; have kn := d_kn; clear d_kn
 clear kx; have kx := d_kx; clear d_kx
 have c_kn := cells_of kn
 have f_kn := free_of kn
 have l_kn_V2d := lt_of kn
 have c_kx := cells_of kx
 have f_kx := free_of kx
 have l_kx_V2d := lt_of kx
 clear hV_V2d
 refine ty (i := 0) (v := ?_) rfl hHeld ?_ ?_
 rotate_left
 focus (intro w hSw; go_simp; (try simp only [IntWalk.i64_left]); try (with_reducible rfl))
 try simp only [PT]
 refine ty (i := 1) (v := ?_) rfl hHeld ?_ ?_
 rotate_left
 focus (intro w hSw; go_simp; (try simp only [IntWalk.i64_left]); try (with_reducible rfl))
 try simp only [PT]
 refine ty (i := 2) (v := ?_) rfl hHeld ?_ ?_
 rotate_left
 focus (intro w hSw; go_simp; (try simp only [IntWalk.i64_left]); try (with_reducible rfl))
 try simp only [PT]
 refine ty (i := 4) (v := ?_) rfl hHeld ?_ ?_
 rotate_left
 focus (intro w hSw; go_simp; (try simp only [IntWalk.i64_left]); try (with_reducible rfl))
 try simp only [PT]
 refine ty (i := 5) (v := ?_) rfl hHeld ?_ ?_
 rotate_left
 focus (intro w hSw; go_simp; (try simp only [IntWalk.i64_left]); try (with_reducible rfl))
 try simp only [PT]
 refine ty (i := 6) (v := ?_) rfl hHeld ?_ ?_
 rotate_left
 focus (intro w hSw; go_simp; (try simp only [IntWalk.i64_left]); try (with_reducible rfl))
 try simp only [PT]
 refine ty (i := 7) (v := ?_) rfl hHeld ?_ ?_
 rotate_left
 focus (intro w hSw; go_simp; (try simp only [IntWalk.i64_left]); try (with_reducible rfl))
 try simp only [PT]
 refine ty (i := 8) (v := ?_) rfl hHeld ?_ ?_
 rotate_left
 focus (intro w hSw; go_simp; (try simp only [IntWalk.i64_left]); try (with_reducible rfl))
 try simp only [PT]
 refine ty (i := 9) (v := ?_) rfl hHeld ?_ ?_
 rotate_left
 focus (intro w hSw; go_simp; (try simp only [IntWalk.i64_left]); try (with_reducible rfl))
 try simp only [PT]
 refine ty (i := 11) (v := ?_) rfl hHeld ?_ ?_
 rotate_left
 focus (intro w hSw; go_simp; (try simp only [IntWalk.i64_left]); try (with_reducible rfl))
 try simp only [PT]
 refine ty (i := 12) (v := ?_) rfl hHeld ?_ ?_
 rotate_left
 focus (intro w hSw; go_simp; (try simp only [IntWalk.i64_left]); try (with_reducible rfl))
 try simp only [PT]
 refine ty (i := 13) (v := ?_) rfl hHeld ?_ ?_
 rotate_left
 focus (intro w hSw; go_simp; (try simp only [IntWalk.i64_left]); try (with_reducible rfl))
 try simp only [PT]
 refine wpAnyH_ready (rs := [3]) (by kernel_rfl) (by simp) ?_
 refine ready_at rfl (fun K hK => ?_) AllReadyH.nil
 go_simp
 try simp only [IntWalk.i64_left]
 refine (wKid_calls (s.get h) one _).mono ?_
 rintro e_W2 W2 ⟨rfl, hb_W2⟩
 replace hA := hA.below hb_W2
 replace hF := hF.below hb_W2
 replace kn := keep_blk hb_W2 kn
 have c_kn := cells_of kn
 have f_kn := free_of kn
 have l_kn_W2 := lt_of kn
 replace kx := keep_blk hb_W2 kx
 have c_kx := cells_of kx
 have f_kx := free_of kx
 have l_kx_W2 := lt_of kx
 have z_W2 := hb_W2.size
 clear hb_W2
 refine hK.out _ _ ⟨(fun o => (c_kn o).trans (v_kn o).symm), (fun o => (c_kx o).trans (v_kx o).symm), (by omega), trivial⟩ (fun hHeld => ?_)
 clear hK K
 try simp only [PT]
 refine wpAnyH_ready (rs := [10]) (by kernel_rfl) (by simp) ?_
 refine ready_at rfl (fun K hK => ?_) AllReadyH.nil
 go_simp
 try simp only [IntWalk.i64_left]
 refine (wAlike_calls _ _ _ _ Hj.out _ hA).mono ?_
 rintro e_W3 W3 ⟨rfl, hb_W3⟩
 replace hA := hA.below hb_W3
 replace hF := hF.below hb_W3
 replace kn := keep_blk hb_W3 kn
 have c_kn := cells_of kn
 have f_kn := free_of kn
 have l_kn_W3 := lt_of kn
 replace kx := keep_blk hb_W3 kx
 have c_kx := cells_of kx
 have f_kx := free_of kx
 have l_kx_W3 := lt_of kx
 have z_W3 := hb_W3.size
 clear hb_W3
 refine hK.out _ _ ⟨(fun o => (c_kn o).trans (v_kn o).symm), (fun o => (c_kx o).trans (v_kx o).symm), (by omega), trivial⟩ (fun hHeld => ?_)
 clear hK K
 try simp only [PT]
 refine wpAnyH_ready (rs := [14]) (by kernel_rfl) (by simp) ?_
 refine ready_at rfl (fun K hK => ?_) AllReadyH.nil
 go_simp
 try simp only [IntWalk.i64_left]
 refine (ih.out _ _ rfl hA).mono ?_
 rintro e_W4 W4 ⟨rfl, O1, hA_W4, hf_W4⟩
 have q_kn := hf_W4.keep kn o_kn (fun h => h)
 have q_kx := hf_W4.keep kx o_kx (fun h => h)
 replace o_kn := hf_W4.not_own (lt_of kn) o_kn
 clear kn; have kn := q_kn; clear q_kn
 have c_kn := cells_of kn
 have f_kn := free_of kn
 have l_kn_W4 := lt_of kn
 replace o_kx := hf_W4.not_own (lt_of kx) o_kx
 clear kx; have kx := q_kx; clear q_kx
 have c_kx := cells_of kx
 have f_kx := free_of kx
 have l_kx_W4 := lt_of kx
 replace hF := hF.trans hf_W4.widen
 have z_W4 := hf_W4.size
 clear hA hf_W4; have hA := hA_W4; clear hA_W4
 refine hK.out _ _ ⟨(fun o => (c_kn o).trans (v_kn o).symm), (fun o => (c_kx o).trans (v_kx o).symm), (by omega), trivial⟩ (fun hHeld => ?_)
 clear hK K
 try simp only [PT]
 refine ty (i := 15) (v := ?_) rfl hHeld ?_ ?_
 rotate_left
 focus (intro w hSw; go_simp; (try simp only [IntWalk.i64_left]); try (with_reducible rfl))
 try simp only [PT]
 refine ty (i := 16) (v := ?_) rfl hHeld ?_ ?_
 rotate_left
 focus (intro w hSw; go_simp; (try simp only [IntWalk.i64_left]); try (with_reducible rfl))
 try simp only [PT]
 refine ty (i := 17) (v := ?_) rfl hHeld ?_ ?_
 rotate_left
 focus (intro w hSw; go_simp; (try simp only [IntWalk.i64_left]); try (with_reducible rfl))
 try simp only [PT]
 refine wpAnyH_ready (rs := [18]) (by kernel_rfl) (by simp) ?_
 refine ready_at rfl (fun K hK => ?_) AllReadyH.nil
 go_simp
 refine hK.out _ _ hHeld (fun hHeld => ?_)
 clear hK K
 try simp only [PT]
 refine wpAnyH_ready (rs := [19]) (by kernel_rfl) (by simp) ?_
 refine ready_at rfl (fun K hK => ?_) AllReadyH.nil
 go_simp
 refine hK.out _ _ hHeld (fun hHeld => ?_)
 clear hK K
 try simp only [PT]
 refine wpAnyH_done (by kernel_rfl) ?_ _
 refine NoPanic.normal ?_
 go_wp2_with fail
 go_ret2
 rw [Hr.out]
 exact ⟨rfl, O1, hA, hF⟩
set_option maxRecDepth 100000 in
set_option maxHeartbeats 800000 in
theorem wIns_end (s : Ar) (O : Nat → Prop) (h i c : Int) (w : World) (hA : AP w ap s O) :
  Calls Try.prog 51 #[ap, .int .i64 h, .int .i64 i, .int .i64 c, .int .i64 9] w fun e w' => e = .returned (.tuple #[.int .i64 0, .int .i64 0]) ∧ Did noX ap s O w w' := by
 go_enter Try.func51, Try.ntmps51
 go_wp2_with fail
 go_ret2
 exact ⟨rfl, O, hA, Fr.refl _ _ _⟩
theorem wIns_calls : ∀ (d : Nat) (hd : d ≤ 9) (s : Ar) (O : Nat → Prop) (h i c l : Int) (hl : l = 9 - (d : Int)) (r : Int × Int × Ar) (hr : wInsertL d s h i c = some r) (w : World) (hA : AP w ap s O),
  Calls Try.prog 51 #[ap, .int .i64 h, .int .i64 i, .int .i64 c, .int .i64 l] w fun e w' => e = .returned (.tuple #[.int .i64 r.1, .int .i64 r.2.1]) ∧ Did noX ap r.2.2 O w w'
 | 0, hd, s, O, h, i, c, l, hl, r, hr, w, hA => by
  obtain rfl : l = 9 := by simpa using hl
  unfold wInsertL at hr
  obtain rfl := Option.some.inj hr
  exact wIns_end s O h i c w hA
 | d + 1, hd, s, O, h, i, c, l, hl, r, hr, w, hA => by
  unfold wInsertL at hr
  dsimp only at hr
  obtain ⟨j, hj, hr⟩ := Option.bind_eq_some_iff.1 hr
  obtain ⟨u, hu, hr⟩ := Option.bind_eq_some_iff.1 hr
  have hl' : l = 8 - (d : Int) := by omega
  have hw : wrap64 (l + 1) = 9 - (d : Int) := by rw [IntWalk.wrap64_in _ (by omega)]; omega
  have ih : Hid (∀ (l' : Int) (w : World), l' = wrap64 (l + 1) → AP w ap s O → Calls Try.prog 51 #[ap, .int .i64 ((s.get h).kid (symBit c l)), .int .i64 j, .int .i64 c, .int .i64 l'] w fun e w' => e = .returned (.tuple #[.int .i64 u.1, .int .i64 u.2.1]) ∧ Did noX ap u.2.2 O w w') := by
   refine Lib.hid fun l' w hl2 hA => ?_
   rw [hl'] at *
   exact wIns_calls d (by omega) s O _ j c l' (by rw [hl2, hw]) u hu w hA
  by_cases he : u.2.1 = 0
  ·
   rw [if_pos he] at hr
   obtain ⟨v, hv, hr⟩ := Option.bind_eq_some_iff.1 hr
   have hr := (Option.some.inj hr).symm
   rw [← hl'] at hj hv hr
   exact wIns_step d hd s O h i c l hl r w _ rfl j hj u he v hv hr ih hA
  ·
   rw [if_neg he] at hr
   have hr := (Option.some.inj hr).symm
   rw [← hl'] at hj
   exact wIns_err d hd s O h i c l hl r w _ rfl j hj u he hr ih hA
set_option maxRecDepth 100000 in
set_option maxHeartbeats 1600000 in
theorem wInsert_calls (s : Ar) (O : Nat → Prop) (h i x : Int) (r : Int × Int × Ar) (hr : wInsert s h i x = some r) (w : World) (hA : AP w ap s O) :
  Calls Try.prog 28 #[ap, .int .i64 h, .int .i64 i, .int .i64 x] w fun e w' => e = .returned (.tuple #[.int .i64 r.1, .int .i64 r.2.1]) ∧ Did noX ap r.2.2 O w w' := by
 unfold wInsert at hr
 cases h0 : wIs x with
 | false =>
  rw [h0, if_neg (by decide)] at hr
  obtain rfl := Option.some.inj hr
  clear hr
  go_enter Try.func28, Try.ntmps28
  go_wp2_with fail
  refine calls_gen fun V hV_V => ?_
  have n_F : Fr (noX) O O w V := nF hV_V
  have n_A : AP V ap s O := nA hV_V
  have z_V := Nat.le_of_eq (congrArg (fun v : World => v.heap.size) hV_V).symm
  try simp only [SZ] at z_V
  clear hV_V
  clear hA
  have hA := n_A
  clear n_A
  skip
  have hF := n_F
  clear n_F
  refine (wIs_calls _ _).mono ?_
  rintro e_q w_q ⟨rfl, rfl⟩
  rw [h0]
  go_wp2_with fail
  go_ret2
  exact ⟨rfl, O, hA, hF⟩
 | true =>
  rw [h0, if_pos rfl] at hr
  by_cases h1 : i < 0
  ·
   have d1 : decide (i < 0) = true := by simpa using h1
   rw [if_pos (.inl h1)] at hr
   obtain rfl := Option.some.inj hr
   clear hr h1
   go_enter Try.func28, Try.ntmps28
   go_wp2_with fail
   refine calls_gen fun V hV_V => ?_
   have n_F : Fr (noX) O O w V := nF hV_V
   have n_A : AP V ap s O := nA hV_V
   have z_V := Nat.le_of_eq (congrArg (fun v : World => v.heap.size) hV_V).symm
   try simp only [SZ] at z_V
   clear hV_V
   clear hA
   have hA := n_A
   clear n_A
   skip
   have hF := n_F
   clear n_F
   refine (wIs_calls _ _).mono ?_
   rintro e_q w_q ⟨rfl, rfl⟩
   rw [h0]
   go_wp2_with fail
   go_ret2
   exact ⟨rfl, O, hA, hF⟩
  ·
   have d1 : decide (i < 0) = false := by simpa using h1
   by_cases h2 : wLen s h < i
   ·
    have d2 : decide (wLen s h < i) = true := by simpa using h2
    rw [if_pos (.inr h2)] at hr
    obtain rfl := Option.some.inj hr
    clear hr h1 h2
    go_enter Try.func28, Try.ntmps28
    go_wp2_with fail
    refine calls_gen fun V hV_V => ?_
    have n_F : Fr (noX) O O w V := nF hV_V
    have n_A : AP V ap s O := nA hV_V
    have z_V := Nat.le_of_eq (congrArg (fun v : World => v.heap.size) hV_V).symm
    try simp only [SZ] at z_V
    clear hV_V
    clear hA
    have hA := n_A
    clear n_A
    skip
    have hF := n_F
    clear n_F
    refine (wIs_calls _ _).mono ?_
    rintro e_q w_q ⟨rfl, rfl⟩
    rw [h0]
    go_wp2_with fail
    refine calls_gen fun V1 hV_V1 => ?_
    have n_F : Fr (noX) O O w V1 := nF hV_V1
    have n_A : AP V1 ap s O := nA hV_V1
    have z_V1 := Nat.le_of_eq (congrArg (fun v : World => v.heap.size) hV_V1).symm
    try simp only [SZ] at z_V1
    clear hV_V1
    clear hA
    have hA := n_A
    clear n_A
    clear hF
    have hF := n_F
    clear n_F
    refine (wLen_calls _ _ hA).mono ?_
    rintro e_W2 W2 ⟨rfl, hb_W2⟩
    replace hA := hA.below hb_W2
    replace hF := hF.below hb_W2
    have z_W2 := hb_W2.size
    clear hb_W2
    go_wp2_with fail
    go_ret2
    exact ⟨rfl, O, hA, hF⟩
   ·
    have d2 : decide (wLen s h < i) = false := by simpa using h2
    rw [if_neg (by omega)] at hr
    have Hr := Lib.hid hr
    clear hr h1 h2
    go_enter Try.func28, Try.ntmps28
    go_wp2_with fail
    refine calls_gen fun V hV_V => ?_
    have n_F : Fr (noX) O O w V := nF hV_V
    have n_A : AP V ap s O := nA hV_V
    have z_V := Nat.le_of_eq (congrArg (fun v : World => v.heap.size) hV_V).symm
    try simp only [SZ] at z_V
    clear hV_V
    clear hA
    have hA := n_A
    clear n_A
    skip
    have hF := n_F
    clear n_F
    refine (wIs_calls _ _).mono ?_
    rintro e_q w_q ⟨rfl, rfl⟩
    rw [h0]
    go_wp2_with fail
    refine calls_gen fun V1 hV_V1 => ?_
    have n_F : Fr (noX) O O w V1 := nF hV_V1
    have n_A : AP V1 ap s O := nA hV_V1
    have z_V1 := Nat.le_of_eq (congrArg (fun v : World => v.heap.size) hV_V1).symm
    try simp only [SZ] at z_V1
    clear hV_V1
    clear hA
    have hA := n_A
    clear n_A
    clear hF
    have hF := n_F
    clear n_F
    refine (wLen_calls _ _ hA).mono ?_
    rintro e_W2 W2 ⟨rfl, hb_W2⟩
    replace hA := hA.below hb_W2
    replace hF := hF.below hb_W2
    have z_W2 := hb_W2.size
    clear hb_W2
    go_wp2_with fail
    refine calls_gen fun V2 hV_V2 => ?_
    have n_F : Fr (noX) O O w V2 := nF hV_V2
    have n_A : AP V2 ap s O := nA hV_V2
    have z_V2 := Nat.le_of_eq (congrArg (fun v : World => v.heap.size) hV_V2).symm
    try simp only [SZ] at z_V2
    clear hV_V2
    clear hA
    have hA := n_A
    clear n_A
    clear hF
    have hF := n_F
    clear n_F
    refine (wIns_calls 9 (by omega) s O _ _ _ _ (by rfl) _ Hr.out _ hA).mono ?_
    rintro e_W3 W3 ⟨rfl, O1, hA_W3, hf_W3⟩
    replace hF := hF.trans hf_W3.widen
    have z_W3 := hf_W3.size
    clear hA hf_W3; have hA := hA_W3; clear hA_W3
    go_wp2_with fail
    go_ret2
    exact ⟨rfl, O1, hA, hF⟩
end Go.Proofs.Ytkgabbenmoocgaa
