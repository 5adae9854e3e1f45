/- Part 5 of what VersionNone needs: the walks of the program's functions, and plain facts. -/
import Derived.Test.YtpdpcgmkpgfblaaGreatVersionNoneM4
import Derived.Test.YtpdpcgmkpgfblaaGreatProg
/- Rows of symbols in an arena: a row with a symbol more. -/
namespace Go.Proofs.YtpdpcgmkpgfblaaGreat
set_option linter.unusedSimpArgs false
set_option linter.unusedVariables false
set_option linter.unnecessarySimpa false
open Go.RowKit
attribute [local go_sem ↓] Go.wp_at_zero Go.wp_at_succ
attribute [local go_sem] lt_s2 lt_s3 lt_s4
attribute [local go_sem] idx0 idx1 idx2 idx3
variable {ap : Value}
set_option maxRecDepth 100000 in
set_option maxHeartbeats 4000000 in
theorem wIns_step (d : Nat) (hd : d + 1 ≤ 9) (s : Ar) (O : Nat → Prop) (h i c l : Int) (hl : l = 9 - ((d + 1 : Nat) : Int)) (r : Int × Int × Ar) (w : World) (one : Bool) (ho : symBit c l = one) (j : Int) (hj : wAlike s (s.get h).k0 i one = some j)
  (u : Int × Int × Ar) (he : u.2.1 = 0) (v : Int × Int × Ar) (hv : bInsert (u.2.2.keep ((s.get h).kid !one)) (s.get h).k0 i one = some v) (hr : r = wMade v.2.2 ⟨3, v.1, if one then (s.get h).k1 else u.1, if one then u.1 else (s.get h).k2, 0, 0, 0⟩ v.2.1)
  (ih : Hid (∀ (l' : Int) (w : World), l' = wrap64 (l + 1) → AP w ap s O → Calls Tryz.prog 82 #[ap, .int .i64 ((s.get h).kid one), .int .i64 j, .int .i64 c, .int .i64 l'] w fun e w' => e = .returned (.tuple #[.int .i64 u.1, .int .i64 u.2.1]) ∧ Did noX ap u.2.2 O w w'))
  (hA : AP w ap s O) :
  Calls Tryz.prog 82 #[ap, .int .i64 h, .int .i64 i, .int .i64 c, .int .i64 l] w fun e w' => e = .returned (.tuple #[.int .i64 r.1, .int .i64 r.2.1]) ∧ Did noX ap r.2.2 O w w' := by
 have d1 : decide (8 < l) = false := by simp; omega
 have d2 : (u.2.1 != 0) = false := by simp [he]
 have Ho := Lib.hid ho; have Hj := Lib.hid hj; have Hv := Lib.hid hv; have Hr := Lib.hid hr
 have hl0 : 0 ≤ l := by omega
 have hl1 : l ≤ 8 := by omega
 have hz : U64 0 := ⟨by decide, by decide⟩
 clear ho hj hv hr he hl hd
 go_enter Tryz.func82, Tryz.ntmps82
 go_wp2_with fail
 refine calls_gen fun V hV_V => ?_
 have n_F : Fr (noX) O O w V := nF hV_V
 have n_A : AP V ap s O := nA hV_V
 have z_V := Nat.le_of_eq (congrArg (fun v : World => v.heap.size) hV_V).symm
 try simp only [SZ] at z_V
 clear hV_V
 clear hA
 have hA := n_A
 clear n_A
 skip
 have hF := n_F
 clear n_F
 refine (wRow_calls _ _ hA).mono ?_
 rintro e_W1 W1 ⟨rfl, hb_W1⟩
 replace hA := hA.below hb_W1
 replace hF := hF.below hb_W1
 have z_W1 := hb_W1.size
 clear hb_W1
 unfold Nd.val
 go_wp2_with fail
 refine calls_gen fun V1 hV_V1 => ?_
 have n_kn := congrArg (fun v : World => v.heap[W1.heap.size]?) hV_V1
 simp (maxDischargeDepth := 9) only [BK, not_false_eq_true, reduceCtorEq] at n_kn
 have o_kn : ¬ O (W1.heap.size) := by first | exact hA.new (Nat.le_refl _) | exact hA.new (by omega)
 have n_F : Fr (noX) O O w V1 := nF hV_V1
 have n_A : AP V1 ap s O := nA hV_V1
 have z_V1 := Nat.le_of_eq (congrArg (fun v : World => v.heap.size) hV_V1).symm
 try simp only [SZ] at z_V1
 clear hV_V1
 clear hA
 have hA := n_A
 clear n_A
 clear hF
 have hF := n_F
 clear n_F
 have kn := n_kn; clear n_kn
 have c_kn := cells_of kn
 have f_kn := free_of kn
 have l_kn_V1 := lt_of kn
 refine (symBit_calls _ _ _).mono ?_
 rintro e_q w_q ⟨rfl, rfl⟩
 rw [Ho.out]
 go_wp2_with fail
 refine wp_gen fun V2 hV_V2 => ?_
 have n_kn := congrArg (fun v : World => v.heap[W1.heap.size]?) hV_V2
 simp (maxDischargeDepth := 9) only [BK, not_false_eq_true, reduceCtorEq, kn, l_kn_V1] at n_kn
 have n_kx := congrArg (fun v : World => v.heap[V1.heap.size]?) hV_V2
 simp (maxDischargeDepth := 9) only [BK, not_false_eq_true, reduceCtorEq, kn, l_kn_V1] at n_kx
 have o_kx : ¬ O (V1.heap.size) := by first | exact hA.new (Nat.le_refl _) | exact hA.new (by omega)
 have n_F : Fr (noX) O O w V2 := nF hV_V2
 have n_A : AP V2 ap s O := nA hV_V2
 have z_V2 := Nat.le_of_eq (congrArg (fun v : World => v.heap.size) hV_V2).symm
 try simp only [SZ] at z_V2
 clear kn c_kn f_kn
 clear hV_V2
 clear hA
 have hA := n_A
 clear n_A
 clear hF
 have hF := n_F
 clear n_F
 have kn := n_kn; clear n_kn
 have c_kn := cells_of kn
 have f_kn := free_of kn
 have l_kn_V2 := lt_of kn
 have kx := n_kx; clear n_kx
 have c_kx := cells_of kx
 have f_kx := free_of kx
 have l_kx_V2 := lt_of kx
 refine wp_region_noPanic ?_
 refine wp_region_held_drew (S := fun v => (∀ o, v.cell? ⟨W1.heap.size, o, none⟩ = V2.cell? ⟨W1.heap.size, o, none⟩) ∧ (∀ o, v.cell? ⟨V1.heap.size, o, none⟩ = V2.cell? ⟨V1.heap.size, o, none⟩) ∧ (V2.heap.size ≤ v.heap.size) ∧ True) (by kernel_rfl) ⟨(fun _ => rfl), (fun _ => rfl), (Nat.le_refl _), trivial⟩ (fun hHeld => ?_)
 generalize hV_V2d : V2.drew = V2d at hHeld ⊢
 have n_kn : V2d.heap[W1.heap.size]? = V2.heap[W1.heap.size]? := by rw [← hV_V2d]; rfl
 have d_kn := n_kn.trans kn
 clear n_kn c_kn f_kn
 have n_kx : V2d.heap[V1.heap.size]? = V2.heap[V1.heap.size]? := by rw [← hV_V2d]; rfl
 have d_kx := n_kx.trans kx
 clear n_kx c_kx f_kx
 have n_A : AP V2d ap s O := by rw [← hV_V2d]; exact hA.drew
 clear hA; have hA := n_A; clear n_A
 have n_F : Fr (noX) O O w V2d := by rw [← hV_V2d]; exact hF.drew
 clear hF; have hF := n_F; clear n_F
 have z_V2d : V2.heap.size ≤ V2d.heap.size := by rw [← hV_V2d]; exact Nat.le_refl _
 have v_kn := cells_of kn
 have v_kx := cells_of kx
 clear kn; have kn := d_kn; clear d_kn
 clear kx; have kx := d_kx; clear d_kx
 have c_kn := cells_of kn
 have f_kn := free_of kn
 have l_kn_V2d := lt_of kn
 have c_kx := cells_of kx
 have f_kx := free_of kx
 have l_kx_V2d := lt_of kx
 clear hV_V2d
 refine ty (i := 0) (v := ?_) rfl hHeld ?_ ?_
 rotate_left
 focus (intro w hSw; go_simp; (try simp only [IntWalk.i64_left]); try (with_reducible rfl))
 try simp only [PT]
 refine ty (i := 1) (v := ?_) rfl hHeld ?_ ?_
 rotate_left
 focus (intro w hSw; go_simp; (try simp only [IntWalk.i64_left]); try (with_reducible rfl))
 try simp only [PT]
 refine ty (i := 2) (v := ?_) rfl hHeld ?_ ?_
 rotate_left
 focus (intro w hSw; go_simp; (try simp only [IntWalk.i64_left]); try (with_reducible rfl))
 try simp only [PT]
 refine ty (i := 4) (v := ?_) rfl hHeld ?_ ?_
 rotate_left
 focus (intro w hSw; go_simp; (try simp only [IntWalk.i64_left]); try (with_reducible rfl))
 try simp only [PT]
 refine ty (i := 5) (v := ?_) rfl hHeld ?_ ?_
 rotate_left
 focus (intro w hSw; go_simp; (try simp only [IntWalk.i64_left]); try (with_reducible rfl))
 try simp only [PT]
 refine ty (i := 6) (v := ?_) rfl hHeld ?_ ?_
 rotate_left
 focus (intro w hSw; go_simp; (try simp only [IntWalk.i64_left]); try (with_reducible rfl))
 try simp only [PT]
 refine ty (i := 7) (v := ?_) rfl hHeld ?_ ?_
 rotate_left
 focus (intro w hSw; go_simp; (try simp only [IntWalk.i64_left]); try (with_reducible rfl))
 try simp only [PT]
 refine ty (i := 8) (v := ?_) rfl hHeld ?_ ?_
 rotate_left
 focus (intro w hSw; go_simp; (try simp only [IntWalk.i64_left]); try (with_reducible rfl))
 try simp only [PT]
 refine ty (i := 9) (v := ?_) rfl hHeld ?_ ?_
 rotate_left
 focus (intro w hSw; go_simp; (try simp only [IntWalk.i64_left]); try (with_reducible rfl))
 try simp only [PT]
 refine ty (i := 11) (v := ?_) rfl hHeld ?_ ?_
 rotate_left
 focus (intro w hSw; go_simp; (try simp only [IntWalk.i64_left]); try (with_reducible rfl))
 try simp only [PT]
 refine ty (i := 12) (v := ?_) rfl hHeld ?_ ?_
 rotate_left
 focus (intro w hSw; go_simp; (try simp only [IntWalk.i64_left]); try (with_reducible rfl))
 try simp only [PT]
 refine ty (i := 13) (v := ?_) rfl hHeld ?_ ?_
 rotate_left
 focus (intro w hSw; go_simp; (try simp only [IntWalk.i64_left]); try (with_reducible rfl))
 try simp only [PT]
 refine wpAnyH_ready (rs := [3]) (by kernel_rfl) (by simp) ?_
 refine ready_at rfl (fun K hK => ?_) AllReadyH.nil
 go_simp
 try simp only [IntWalk.i64_left]
 refine (wKid_calls (s.get h) one _).mono ?_
 rintro e_W2 W2 ⟨rfl, hb_W2⟩
 replace hA := hA.below hb_W2
 replace hF := hF.below hb_W2
 replace kn := keep_blk hb_W2 kn
 have c_kn := cells_of kn
 have f_kn := free_of kn
 have l_kn_W2 := lt_of kn
 replace kx := keep_blk hb_W2 kx
 have c_kx := cells_of kx
 have f_kx := free_of kx
 have l_kx_W2 := lt_of kx
 have z_W2 := hb_W2.size
 clear hb_W2
 refine hK.out _ _ ⟨(fun o => (c_kn o).trans (v_kn o).symm), (fun o => (c_kx o).trans (v_kx o).symm), (by omega), trivial⟩ (fun hHeld => ?_)
 clear hK K
 try simp only [PT]
 refine wpAnyH_ready (rs := [10]) (by kernel_rfl) (by simp) ?_
 refine ready_at rfl (fun K hK => ?_) AllReadyH.nil
 go_simp
 try simp only [IntWalk.i64_left]
 refine (wAlike_calls _ _ _ _ Hj.out _ hA).mono ?_
 rintro e_W3 W3 ⟨rfl, hb_W3⟩
 replace hA := hA.below hb_W3
 replace hF := hF.below hb_W3
 replace kn := keep_blk hb_W3 kn
 have c_kn := cells_of kn
 have f_kn := free_of kn
 have l_kn_W3 := lt_of kn
 replace kx := keep_blk hb_W3 kx
 have c_kx := cells_of kx
 have f_kx := free_of kx
 have l_kx_W3 := lt_of kx
 have z_W3 := hb_W3.size
 clear hb_W3
 refine hK.out _ _ ⟨(fun o => (c_kn o).trans (v_kn o).symm), (fun o => (c_kx o).trans (v_kx o).symm), (by omega), trivial⟩ (fun hHeld => ?_)
 clear hK K
 try simp only [PT]
 refine wpAnyH_ready (rs := [14]) (by kernel_rfl) (by simp) ?_
 refine ready_at rfl (fun K hK => ?_) AllReadyH.nil
 go_simp
 try simp only [IntWalk.i64_left]
 refine (ih.out _ _ rfl hA).mono ?_
 rintro e_W4 W4 ⟨rfl, O1, hA_W4, hf_W4⟩
 have q_kn := hf_W4.keep kn o_kn (fun h => h)
 have q_kx := hf_W4.keep kx o_kx (fun h => h)
 replace o_kn := hf_W4.not_own (lt_of kn) o_kn
 clear kn; have kn := q_kn; clear q_kn
 have c_kn := cells_of kn
 have f_kn := free_of kn
 have l_kn_W4 := lt_of kn
 replace o_kx := hf_W4.not_own (lt_of kx) o_kx
 clear kx; have kx := q_kx; clear q_kx
 have c_kx := cells_of kx
 have f_kx := free_of kx
 have l_kx_W4 := lt_of kx
 replace hF := hF.trans hf_W4.widen
 have z_W4 := hf_W4.size
 clear hA hf_W4; have hA := hA_W4; clear hA_W4
 refine hK.out _ _ ⟨(fun o => (c_kn o).trans (v_kn o).symm), (fun o => (c_kx o).trans (v_kx o).symm), (by omega), trivial⟩ (fun hHeld => ?_)
 clear hK K
 try simp only [PT]
 refine ty (i := 15) (v := ?_) rfl hHeld ?_ ?_
 rotate_left
 focus (intro w hSw; go_simp; (try simp only [IntWalk.i64_left]); try (with_reducible rfl))
 try simp only [PT]
 refine ty (i := 16) (v := ?_) rfl hHeld ?_ ?_
 rotate_left
 focus (intro w hSw; go_simp; (try simp only [IntWalk.i64_left]); try (with_reducible rfl))
 try simp only [PT]
 refine ty (i := 17) (v := ?_) rfl hHeld ?_ ?_
 rotate_left
 focus (intro w hSw; go_simp; (try simp only [IntWalk.i64_left]); try (with_reducible rfl))
 try simp only [PT]
 refine wpAnyH_ready (rs := [18]) (by kernel_rfl) (by simp) ?_
 refine ready_at rfl (fun K hK => ?_) AllReadyH.nil
 go_simp
 refine hK.out _ _ hHeld (fun hHeld => ?_)
 clear hK K
 try simp only [PT]
 refine wpAnyH_ready (rs := [19]) (by kernel_rfl) (by simp) ?_
 refine ready_at rfl (fun K hK => ?_) AllReadyH.nil
 go_simp
 refine hK.out _ _ hHeld (fun hHeld => ?_)
 clear hK K
 try simp only [PT]
 refine wpAnyH_done (by kernel_rfl) ?_ _
 refine NoPanic.normal ?_
 cases one with
 | true =>
  go_wp2_with fail
  refine calls_gen fun V5 hV_V5 => ?_
  have n_kn := congrArg (fun v : World => v.heap[W1.heap.size]?) hV_V5
  simp (maxDischargeDepth := 9) only [BK, not_false_eq_true, reduceCtorEq, kn, kx, l_kn_V1, l_kn_V2, l_kx_V2, l_kn_V2d, l_kx_V2d, l_kn_W2, l_kx_W2, l_kn_W3, l_kx_W3, l_kn_W4, l_kx_W4] at n_kn
  have n_kx := congrArg (fun v : World => v.heap[V1.heap.size]?) hV_V5
  simp (maxDischargeDepth := 9) only [BK, not_false_eq_true, reduceCtorEq, kn, kx, l_kn_V1, l_kn_V2, l_kx_V2, l_kn_V2d, l_kx_V2d, l_kn_W2, l_kx_W2, l_kn_W3, l_kx_W3, l_kn_W4, l_kx_W4] at n_kx
  have n_F : Fr (noX) O O1 w V5 := nF hV_V5
  have n_A : AP V5 ap u.2.2 O1 := nA hV_V5
  have z_V5 := Nat.le_of_eq (congrArg (fun v : World => v.heap.size) hV_V5).symm
  try simp only [SZ] at z_V5
  clear kn c_kn f_kn
  clear kx c_kx f_kx
  clear hV_V5
  clear hA
  have hA := n_A
  clear n_A
  clear hF
  have hF := n_F
  clear n_F
  have kn := n_kn; clear n_kn
  have c_kn := cells_of kn
  have f_kn := free_of kn
  have l_kn_V5 := lt_of kn
  have kx := n_kx; clear n_kx
  have c_kx := cells_of kx
  have f_kx := free_of kx
  have l_kx_V5 := lt_of kx
  refine (wKid_calls (⟨3, 0, (s.get h).k1, u.1, 0, 0, 0⟩) false _).mono ?_
  rintro e_W5 W5 ⟨rfl, hb_W5⟩
  replace hA := hA.below hb_W5
  replace hF := hF.below hb_W5
  replace kn := keep_blk hb_W5 kn
  have c_kn := cells_of kn
  have f_kn := free_of kn
  have l_kn_W5 := lt_of kn
  replace kx := keep_blk hb_W5 kx
  have c_kx := cells_of kx
  have f_kx := free_of kx
  have l_kx_W5 := lt_of kx
  have z_W5 := hb_W5.size
  clear hb_W5
  go_wp2_with fail
  refine calls_gen fun V6 hV_V6 => ?_
  have n_kn := congrArg (fun v : World => v.heap[W1.heap.size]?) hV_V6
  simp (maxDischargeDepth := 9) only [BK, not_false_eq_true, reduceCtorEq, kn, kx, l_kn_V1, l_kn_V2, l_kx_V2, l_kn_V2d, l_kx_V2d, l_kn_W2, l_kx_W2, l_kn_W3, l_kx_W3, l_kn_W4, l_kx_W4, l_kn_V5, l_kx_V5, l_kn_W5, l_kx_W5] at n_kn
  have n_kx := congrArg (fun v : World => v.heap[V1.heap.size]?) hV_V6
  simp (maxDischargeDepth := 9) only [BK, not_false_eq_true, reduceCtorEq, kn, kx, l_kn_V1, l_kn_V2, l_kx_V2, l_kn_V2d, l_kx_V2d, l_kn_W2, l_kx_W2, l_kn_W3, l_kx_W3, l_kn_W4, l_kx_W4, l_kn_V5, l_kx_V5, l_kn_W5, l_kx_W5] at n_kx
  have n_F : Fr (noX) O O1 w V6 := nF hV_V6
  have n_A : AP V6 ap u.2.2 O1 := nA hV_V6
  have z_V6 := Nat.le_of_eq (congrArg (fun v : World => v.heap.size) hV_V6).symm
  try simp only [SZ] at z_V6
  clear kn c_kn f_kn
  clear kx c_kx f_kx
  clear hV_V6
  clear hA
  have hA := n_A
  clear n_A
  clear hF
  have hF := n_F
  clear n_F
  have kn := n_kn; clear n_kn
  have c_kn := cells_of kn
  have f_kn := free_of kn
  have l_kn_V6 := lt_of kn
  have kx := n_kx; clear n_kx
  have c_kx := cells_of kx
  have f_kx := free_of kx
  have l_kx_V6 := lt_of kx
  refine (keep_calls ((s.get h).kid !true) _ hA).mono ?_
  rintro e_W6 W6 ⟨rfl, O2, hA_W6, hf_W6⟩
  have q_kn := hf_W6.keep kn o_kn (fun h => h)
  have q_kx := hf_W6.keep kx o_kx (fun h => h)
  replace o_kn := hf_W6.not_own (lt_of kn) o_kn
  clear kn; have kn := q_kn; clear q_kn
  have c_kn := cells_of kn
  have f_kn := free_of kn
  have l_kn_W6 := lt_of kn
  replace o_kx := hf_W6.not_own (lt_of kx) o_kx
  clear kx; have kx := q_kx; clear q_kx
  have c_kx := cells_of kx
  have f_kx := free_of kx
  have l_kx_W6 := lt_of kx
  replace hF := hF.trans hf_W6.widen
  have z_W6 := hf_W6.size
  clear hA hf_W6; have hA := hA_W6; clear hA_W6
  go_wp2_with fail
  refine calls_gen fun V7 hV_V7 => ?_
  have n_kn := congrArg (fun v : World => v.heap[W1.heap.size]?) hV_V7
  simp (maxDischargeDepth := 9) only [BK, not_false_eq_true, reduceCtorEq, kn, kx, l_kn_V1, l_kn_V2, l_kx_V2, l_kn_V2d, l_kx_V2d, l_kn_W2, l_kx_W2, l_kn_W3, l_kx_W3, l_kn_W4, l_kx_W4, l_kn_V5, l_kx_V5, l_kn_W5, l_kx_W5, l_kn_V6, l_kx_V6, l_kn_W6, l_kx_W6] at n_kn
  have n_kx := congrArg (fun v : World => v.heap[V1.heap.size]?) hV_V7
  simp (maxDischargeDepth := 9) only [BK, not_false_eq_true, reduceCtorEq, kn, kx, l_kn_V1, l_kn_V2, l_kx_V2, l_kn_V2d, l_kx_V2d, l_kn_W2, l_kx_W2, l_kn_W3, l_kx_W3, l_kn_W4, l_kx_W4, l_kn_V5, l_kx_V5, l_kn_W5, l_kx_W5, l_kn_V6, l_kx_V6, l_kn_W6, l_kx_W6] at n_kx
  have n_F : Fr (noX) O O2 w V7 := nF hV_V7
  have n_A : AP V7 ap (u.2.2.keep ((s.get h).kid !true)) O2 := nA hV_V7
  have z_V7 := Nat.le_of_eq (congrArg (fun v : World => v.heap.size) hV_V7).symm
  try simp only [SZ] at z_V7
  clear kn c_kn f_kn
  clear kx c_kx f_kx
  clear hV_V7
  clear hA
  have hA := n_A
  clear n_A
  clear hF
  have hF := n_F
  clear n_F
  have kn := n_kn; clear n_kn
  have c_kn := cells_of kn
  have f_kn := free_of kn
  have l_kn_V7 := lt_of kn
  have kx := n_kx; clear n_kx
  have c_kx := cells_of kx
  have f_kx := free_of kx
  have l_kx_V7 := lt_of kx
  refine (bInsert_calls _ _ _ _ Hv.out _ hA).mono ?_
  rintro e_W7 W7 ⟨rfl, O3, hA_W7, hf_W7⟩
  have q_kn := hf_W7.keep kn o_kn (fun h => h)
  have q_kx := hf_W7.keep kx o_kx (fun h => h)
  replace o_kn := hf_W7.not_own (lt_of kn) o_kn
  clear kn; have kn := q_kn; clear q_kn
  have c_kn := cells_of kn
  have f_kn := free_of kn
  have l_kn_W7 := lt_of kn
  replace o_kx := hf_W7.not_own (lt_of kx) o_kx
  clear kx; have kx := q_kx; clear q_kx
  have c_kx := cells_of kx
  have f_kx := free_of kx
  have l_kx_W7 := lt_of kx
  replace hF := hF.trans hf_W7.widen
  have z_W7 := hf_W7.size
  clear hA hf_W7; have hA := hA_W7; clear hA_W7
  go_wp2_with fail
  refine calls_gen fun V8 hV_V8 => ?_
  have n_kn := congrArg (fun v : World => v.heap[W1.heap.size]?) hV_V8
  simp (maxDischargeDepth := 9) only [BK, not_false_eq_true, reduceCtorEq, kn, kx, l_kn_V1, l_kn_V2, l_kx_V2, l_kn_V2d, l_kx_V2d, l_kn_W2, l_kx_W2, l_kn_W3, l_kx_W3, l_kn_W4, l_kx_W4, l_kn_V5, l_kx_V5, l_kn_W5, l_kx_W5, l_kn_V6, l_kx_V6, l_kn_W6, l_kx_W6, l_kn_V7, l_kx_V7, l_kn_W7, l_kx_W7] at n_kn
  have n_kx := congrArg (fun v : World => v.heap[V1.heap.size]?) hV_V8
  simp (maxDischargeDepth := 9) only [BK, not_false_eq_true, reduceCtorEq, kn, kx, l_kn_V1, l_kn_V2, l_kx_V2, l_kn_V2d, l_kx_V2d, l_kn_W2, l_kx_W2, l_kn_W3, l_kx_W3, l_kn_W4, l_kx_W4, l_kn_V5, l_kx_V5, l_kn_W5, l_kx_W5, l_kn_V6, l_kx_V6, l_kn_W6, l_kx_W6, l_kn_V7, l_kx_V7, l_kn_W7, l_kx_W7] at n_kx
  have n_F : Fr (noX) O O3 w V8 := nF hV_V8
  have n_A : AP V8 ap v.2.2 O3 := nA hV_V8
  have z_V8 := Nat.le_of_eq (congrArg (fun v : World => v.heap.size) hV_V8).symm
  try simp only [SZ] at z_V8
  clear kn c_kn f_kn
  clear kx c_kx f_kx
  clear hV_V8
  clear hA
  have hA := n_A
  clear n_A
  clear hF
  have hF := n_F
  clear n_F
  have kn := n_kn; clear n_kn
  have c_kn := cells_of kn
  have f_kn := free_of kn
  have l_kn_V8 := lt_of kn
  have kx := n_kx; clear n_kx
  have c_kx := cells_of kx
  have f_kx := free_of kx
  have l_kx_V8 := lt_of kx
  refine (wMade_calls (⟨3, v.1, (s.get h).k1, u.1, 0, 0, 0⟩) hz v.2.1 _ hA).mono ?_
  rintro e_W8 W8 ⟨rfl, O4, hA_W8, hf_W8⟩
  have q_kn := hf_W8.keep kn o_kn (fun h => h)
  have q_kx := hf_W8.keep kx o_kx (fun h => h)
  replace o_kn := hf_W8.not_own (lt_of kn) o_kn
  clear kn; have kn := q_kn; clear q_kn
  have c_kn := cells_of kn
  have f_kn := free_of kn
  have l_kn_W8 := lt_of kn
  replace o_kx := hf_W8.not_own (lt_of kx) o_kx
  clear kx; have kx := q_kx; clear q_kx
  have c_kx := cells_of kx
  have f_kx := free_of kx
  have l_kx_W8 := lt_of kx
  replace hF := hF.trans hf_W8.widen
  have z_W8 := hf_W8.size
  clear hA hf_W8; have hA := hA_W8; clear hA_W8
  go_wp2_with fail
  go_ret2
  rw [Hr.out]
  exact ⟨rfl, O4, hA, hF⟩
 | false =>
  go_wp2_with fail
  refine wp_gen fun V5 hV_V5 => ?_
  have n_kn := congrArg (fun v : World => v.heap[W1.heap.size]?) hV_V5
  simp (maxDischargeDepth := 9) only [BK, not_false_eq_true, reduceCtorEq, kn, kx, l_kn_V1, l_kn_V2, l_kx_V2, l_kn_V2d, l_kx_V2d, l_kn_W2, l_kx_W2, l_kn_W3, l_kx_W3, l_kn_W4, l_kx_W4] at n_kn
  have n_kx := congrArg (fun v : World => v.heap[V1.heap.size]?) hV_V5
  simp (maxDischargeDepth := 9) only [BK, not_false_eq_true, reduceCtorEq, kn, kx, l_kn_V1, l_kn_V2, l_kx_V2, l_kn_V2d, l_kx_V2d, l_kn_W2, l_kx_W2, l_kn_W3, l_kx_W3, l_kn_W4, l_kx_W4] at n_kx
  have n_F : Fr (noX) O O1 w V5 := nF hV_V5
  have n_A : AP V5 ap u.2.2 O1 := nA hV_V5
  have z_V5 := Nat.le_of_eq (congrArg (fun v : World => v.heap.size) hV_V5).symm
  try simp only [SZ] at z_V5
  clear kn c_kn f_kn
  clear kx c_kx f_kx
  clear hV_V5
  clear hA
  have hA := n_A
  clear n_A
  clear hF
  have hF := n_F
  clear n_F
  have kn := n_kn; clear n_kn
  have c_kn := cells_of kn
  have f_kn := free_of kn
  have l_kn_V5 := lt_of kn
  have kx := n_kx; clear n_kx
  have c_kx := cells_of kx
  have f_kx := free_of kx
  have l_kx_V5 := lt_of kx
  refine wp_region_noPanic ?_
  refine wp_region_held_drew (S := fun v => (∀ o, v.cell? ⟨W1.heap.size, o, none⟩ = V5.cell? ⟨W1.heap.size, o, none⟩) ∧ (V5.heap.size ≤ v.heap.size) ∧ AP v ap u.2.2 O1) (by kernel_rfl) ⟨(fun _ => rfl), (Nat.le_refl _), hA.drew⟩ (fun hHeld => ?_)
  generalize hV_V5d : V5.drew = V5d at hHeld ⊢
  have n_kn : V5d.heap[W1.heap.size]? = V5.heap[W1.heap.size]? := by rw [← hV_V5d]; rfl
  have d_kn := n_kn.trans kn
  clear n_kn c_kn f_kn
  have n_kx : V5d.heap[V1.heap.size]? = V5.heap[V1.heap.size]? := by rw [← hV_V5d]; rfl
  have d_kx := n_kx.trans kx
  clear n_kx c_kx f_kx
  have n_A : AP V5d ap u.2.2 O1 := by rw [← hV_V5d]; exact hA.drew
  clear hA; have hA := n_A; clear n_A
  have n_F : Fr (noX) O O1 w V5d := by rw [← hV_V5d]; exact hF.drew
  clear hF; have hF := n_F; clear n_F
  have z_V5d : V5.heap.size ≤ V5d.heap.size := by rw [← hV_V5d]; exact Nat.le_refl _
  have v_kn := cells_of kn
  clear kn; have kn := d_kn; clear d_kn
  clear kx; have kx := d_kx; clear d_kx
  have c_kn := cells_of kn
  have f_kn := free_of kn
  have l_kn_V5d := lt_of kn
  have c_kx := cells_of kx
  have f_kx := free_of kx
  have l_kx_V5d := lt_of kx
  clear hV_V5d
  refine ty (i := 0) (v := ?_) rfl hHeld ?_ ?_
  rotate_left
  focus (intro w hSw; go_simp; (try simp only [IntWalk.i64_left]); try (with_reducible rfl))
  try simp only [PT]
  refine ty (i := 1) (v := ?_) rfl hHeld ?_ ?_
  rotate_left
  focus (intro w hSw; go_simp; (try simp only [IntWalk.i64_left]); try (with_reducible rfl))
  try simp only [PT]
  refine ty (i := 2) (v := ?_) rfl hHeld ?_ ?_
  rotate_left
  focus (intro w hSw; go_simp; (try simp only [IntWalk.i64_left]); try (with_reducible rfl))
  try simp only [PT]
  refine ty (i := 3) (v := ?_) rfl hHeld ?_ ?_
  rotate_left
  focus (intro w hSw; go_simp; (try simp only [IntWalk.i64_left]); try (with_reducible rfl))
  try simp only [PT]
  refine ty (i := 4) (v := ?_) rfl hHeld ?_ ?_
  rotate_left
  focus (intro w hSw; go_simp; (try simp only [IntWalk.i64_left]); try (with_reducible rfl))
  try simp only [PT]
  refine ty (i := 5) (v := ?_) rfl hHeld ?_ ?_
  rotate_left
  focus (intro w hSw; go_simp; (try simp only [IntWalk.i64_left]); try (with_reducible rfl))
  try simp only [PT]
  refine ty (i := 7) (v := ?_) rfl hHeld ?_ ?_
  rotate_left
  focus (intro w hSw; go_simp; (try simp only [IntWalk.i64_left]); try (with_reducible rfl))
  try simp only [PT]
  refine wpAnyH_ready (rs := [6]) (by kernel_rfl) (by simp) ?_
  refine ready_at rfl (fun K hK => ?_) AllReadyH.nil
  go_simp
  refine gen_app (K := K) (fun D1 hV_D1 => ?_)
  have n_kn := congrArg (fun v : World => v.heap[W1.heap.size]?) hV_D1
  simp (maxDischargeDepth := 9) only [BK, not_false_eq_true, reduceCtorEq, kn, kx, l_kn_V1, l_kn_V2, l_kx_V2, l_kn_V2d, l_kx_V2d, l_kn_W2, l_kx_W2, l_kn_W3, l_kx_W3, l_kn_W4, l_kx_W4, l_kn_V5, l_kx_V5, l_kn_V5d, l_kx_V5d] at n_kn
  have n_kx := congrArg (fun v : World => v.heap[V1.heap.size]?) hV_D1
  simp (maxDischargeDepth := 9) only [BK, not_false_eq_true, reduceCtorEq, kn, kx, l_kn_V1, l_kn_V2, l_kx_V2, l_kn_V2d, l_kx_V2d, l_kn_W2, l_kx_W2, l_kn_W3, l_kx_W3, l_kn_W4, l_kx_W4, l_kn_V5, l_kx_V5, l_kn_V5d, l_kx_V5d] at n_kx
  have n_F : Fr (noX) O O1 w D1 := nF hV_D1
  have n_A : AP D1 ap u.2.2 O1 := nA hV_D1
  have z_D1 := Nat.le_of_eq (congrArg (fun v : World => v.heap.size) hV_D1).symm
  try simp only [SZ] at z_D1
  clear kn c_kn f_kn
  clear kx c_kx f_kx
  clear hV_D1
  clear hA
  have hA := n_A
  clear n_A
  clear hF
  have hF := n_F
  clear n_F
  have kn := n_kn; clear n_kn
  have c_kn := cells_of kn
  have f_kn := free_of kn
  have l_kn_D1 := lt_of kn
  have kx := n_kx; clear n_kx
  have c_kx := cells_of kx
  have f_kx := free_of kx
  have l_kx_D1 := lt_of kx
  refine hK.out _ _ ⟨(fun o => (c_kn o).trans (v_kn o).symm), (by omega), hA⟩ (fun hHeld => ?_)
  clear hK K
  try simp only [PT]
  refine ty (i := 8) (v := ?_) rfl hHeld ?_ ?_
  rotate_left
  focus (intro w hSw; go_simp; (try simp only [IntWalk.i64_left]); try (with_reducible rfl))
  try simp only [PT]
  refine wpAnyH_ready (rs := [9]) (by kernel_rfl) (by simp) ?_
  refine ready_at rfl (fun K hK => ?_) AllReadyH.nil
  go_simp
  refine gen_app (K := K) (fun D2 hV_D2 => ?_)
  have n_kn := congrArg (fun v : World => v.heap[W1.heap.size]?) hV_D2
  simp (maxDischargeDepth := 9) only [BK, not_false_eq_true, reduceCtorEq, kn, kx, l_kn_V1, l_kn_V2, l_kx_V2, l_kn_V2d, l_kx_V2d, l_kn_W2, l_kx_W2, l_kn_W3, l_kx_W3, l_kn_W4, l_kx_W4, l_kn_V5, l_kx_V5, l_kn_V5d, l_kx_V5d, l_kn_D1, l_kx_D1] at n_kn
  have n_kx := congrArg (fun v : World => v.heap[V1.heap.size]?) hV_D2
  simp (maxDischargeDepth := 9) only [BK, not_false_eq_true, reduceCtorEq, kn, kx, l_kn_V1, l_kn_V2, l_kx_V2, l_kn_V2d, l_kx_V2d, l_kn_W2, l_kx_W2, l_kn_W3, l_kx_W3, l_kn_W4, l_kx_W4, l_kn_V5, l_kx_V5, l_kn_V5d, l_kx_V5d, l_kn_D1, l_kx_D1] at n_kx
  have n_F : Fr (noX) O O1 w D2 := nF hV_D2
  have n_A : AP D2 ap u.2.2 O1 := nA hV_D2
  have z_D2 := Nat.le_of_eq (congrArg (fun v : World => v.heap.size) hV_D2).symm
  try simp only [SZ] at z_D2
  clear kn c_kn f_kn
  clear kx c_kx f_kx
  clear hV_D2
  clear hA
  have hA := n_A
  clear n_A
  clear hF
  have hF := n_F
  clear n_F
  have kn := n_kn; clear n_kn
  have c_kn := cells_of kn
  have f_kn := free_of kn
  have l_kn_D2 := lt_of kn
  have kx := n_kx; clear n_kx
  have c_kx := cells_of kx
  have f_kx := free_of kx
  have l_kx_D2 := lt_of kx
  refine hK.out _ _ ⟨(fun o => (c_kn o).trans (v_kn o).symm), (by omega), hA⟩ (fun hHeld => ?_)
  clear hK K
  try simp only [PT]
  refine wpAnyH_done (by kernel_rfl) ?_ _
  refine NoPanic.normal ?_
  go_wp2_with fail
  refine calls_gen fun V6 hV_V6 => ?_
  have n_kn := congrArg (fun v : World => v.heap[W1.heap.size]?) hV_V6
  simp (maxDischargeDepth := 9) only [BK, not_false_eq_true, reduceCtorEq, kn, kx, l_kn_V1, l_kn_V2, l_kx_V2, l_kn_V2d, l_kx_V2d, l_kn_W2, l_kx_W2, l_kn_W3, l_kx_W3, l_kn_W4, l_kx_W4, l_kn_V5, l_kx_V5, l_kn_V5d, l_kx_V5d, l_kn_D1, l_kx_D1, l_kn_D2, l_kx_D2] at n_kn
  have n_kx := congrArg (fun v : World => v.heap[V1.heap.size]?) hV_V6
  simp (maxDischargeDepth := 9) only [BK, not_false_eq_true, reduceCtorEq, kn, kx, l_kn_V1, l_kn_V2, l_kx_V2, l_kn_V2d, l_kx_V2d, l_kn_W2, l_kx_W2, l_kn_W3, l_kx_W3, l_kn_W4, l_kx_W4, l_kn_V5, l_kx_V5, l_kn_V5d, l_kx_V5d, l_kn_D1, l_kx_D1, l_kn_D2, l_kx_D2] at n_kx
  have n_F : Fr (noX) O O1 w V6 := nF hV_V6
  have n_A : AP V6 ap u.2.2 O1 := nA hV_V6
  have z_V6 := Nat.le_of_eq (congrArg (fun v : World => v.heap.size) hV_V6).symm
  try simp only [SZ] at z_V6
  clear kn c_kn f_kn
  clear kx c_kx f_kx
  clear hV_V6
  clear hA
  have hA := n_A
  clear n_A
  clear hF
  have hF := n_F
  clear n_F
  have kn := n_kn; clear n_kn
  have c_kn := cells_of kn
  have f_kn := free_of kn
  have l_kn_V6 := lt_of kn
  have kx := n_kx; clear n_kx
  have c_kx := cells_of kx
  have f_kx := free_of kx
  have l_kx_V6 := lt_of kx
  refine (wKid_calls (⟨3, 0, u.1, (s.get h).k2, 0, 0, 0⟩) true _).mono ?_
  rintro e_W5 W5 ⟨rfl, hb_W5⟩
  replace hA := hA.below hb_W5
  replace hF := hF.below hb_W5
  replace kn := keep_blk hb_W5 kn
  have c_kn := cells_of kn
  have f_kn := free_of kn
  have l_kn_W5 := lt_of kn
  replace kx := keep_blk hb_W5 kx
  have c_kx := cells_of kx
  have f_kx := free_of kx
  have l_kx_W5 := lt_of kx
  have z_W5 := hb_W5.size
  clear hb_W5
  go_wp2_with fail
  refine calls_gen fun V7 hV_V7 => ?_
  have n_kn := congrArg (fun v : World => v.heap[W1.heap.size]?) hV_V7
  simp (maxDischargeDepth := 9) only [BK, not_false_eq_true, reduceCtorEq, kn, kx, l_kn_V1, l_kn_V2, l_kx_V2, l_kn_V2d, l_kx_V2d, l_kn_W2, l_kx_W2, l_kn_W3, l_kx_W3, l_kn_W4, l_kx_W4, l_kn_V5, l_kx_V5, l_kn_V5d, l_kx_V5d, l_kn_D1, l_kx_D1, l_kn_D2, l_kx_D2, l_kn_V6, l_kx_V6, l_kn_W5, l_kx_W5] at n_kn
  have n_kx := congrArg (fun v : World => v.heap[V1.heap.size]?) hV_V7
  simp (maxDischargeDepth := 9) only [BK, not_false_eq_true, reduceCtorEq, kn, kx, l_kn_V1, l_kn_V2, l_kx_V2, l_kn_V2d, l_kx_V2d, l_kn_W2, l_kx_W2, l_kn_W3, l_kx_W3, l_kn_W4, l_kx_W4, l_kn_V5, l_kx_V5, l_kn_V5d, l_kx_V5d, l_kn_D1, l_kx_D1, l_kn_D2, l_kx_D2, l_kn_V6, l_kx_V6, l_kn_W5, l_kx_W5] at n_kx
  have n_F : Fr (noX) O O1 w V7 := nF hV_V7
  have n_A : AP V7 ap u.2.2 O1 := nA hV_V7
  have z_V7 := Nat.le_of_eq (congrArg (fun v : World => v.heap.size) hV_V7).symm
  try simp only [SZ] at z_V7
  clear kn c_kn f_kn
  clear kx c_kx f_kx
  clear hV_V7
  clear hA
  have hA := n_A
  clear n_A
  clear hF
  have hF := n_F
  clear n_F
  have kn := n_kn; clear n_kn
  have c_kn := cells_of kn
  have f_kn := free_of kn
  have l_kn_V7 := lt_of kn
  have kx := n_kx; clear n_kx
  have c_kx := cells_of kx
  have f_kx := free_of kx
  have l_kx_V7 := lt_of kx
  refine (keep_calls ((s.get h).kid !false) _ hA).mono ?_
  rintro e_W6 W6 ⟨rfl, O2, hA_W6, hf_W6⟩
  have q_kn := hf_W6.keep kn o_kn (fun h => h)
  have q_kx := hf_W6.keep kx o_kx (fun h => h)
  replace o_kn := hf_W6.not_own (lt_of kn) o_kn
  clear kn; have kn := q_kn; clear q_kn
  have c_kn := cells_of kn
  have f_kn := free_of kn
  have l_kn_W6 := lt_of kn
  replace o_kx := hf_W6.not_own (lt_of kx) o_kx
  clear kx; have kx := q_kx; clear q_kx
  have c_kx := cells_of kx
  have f_kx := free_of kx
  have l_kx_W6 := lt_of kx
  replace hF := hF.trans hf_W6.widen
  have z_W6 := hf_W6.size
  clear hA hf_W6; have hA := hA_W6; clear hA_W6
  go_wp2_with fail
  refine calls_gen fun V8 hV_V8 => ?_
  have n_kn := congrArg (fun v : World => v.heap[W1.heap.size]?) hV_V8
  simp (maxDischargeDepth := 9) only [BK, not_false_eq_true, reduceCtorEq, kn, kx, l_kn_V1, l_kn_V2, l_kx_V2, l_kn_V2d, l_kx_V2d, l_kn_W2, l_kx_W2, l_kn_W3, l_kx_W3, l_kn_W4, l_kx_W4, l_kn_V5, l_kx_V5, l_kn_V5d, l_kx_V5d, l_kn_D1, l_kx_D1, l_kn_D2, l_kx_D2, l_kn_V6, l_kx_V6, l_kn_W5, l_kx_W5, l_kn_V7, l_kx_V7, l_kn_W6, l_kx_W6] at n_kn
  have n_kx := congrArg (fun v : World => v.heap[V1.heap.size]?) hV_V8
  simp (maxDischargeDepth := 9) only [BK, not_false_eq_true, reduceCtorEq, kn, kx, l_kn_V1, l_kn_V2, l_kx_V2, l_kn_V2d, l_kx_V2d, l_kn_W2, l_kx_W2, l_kn_W3, l_kx_W3, l_kn_W4, l_kx_W4, l_kn_V5, l_kx_V5, l_kn_V5d, l_kx_V5d, l_kn_D1, l_kx_D1, l_kn_D2, l_kx_D2, l_kn_V6, l_kx_V6, l_kn_W5, l_kx_W5, l_kn_V7, l_kx_V7, l_kn_W6, l_kx_W6] at n_kx
  have n_F : Fr (noX) O O2 w V8 := nF hV_V8
  have n_A : AP V8 ap (u.2.2.keep ((s.get h).kid !false)) O2 := nA hV_V8
  have z_V8 := Nat.le_of_eq (congrArg (fun v : World => v.heap.size) hV_V8).symm
  try simp only [SZ] at z_V8
  clear kn c_kn f_kn
  clear kx c_kx f_kx
  clear hV_V8
  clear hA
  have hA := n_A
  clear n_A
  clear hF
  have hF := n_F
  clear n_F
  have kn := n_kn; clear n_kn
  have c_kn := cells_of kn
  have f_kn := free_of kn
  have l_kn_V8 := lt_of kn
  have kx := n_kx; clear n_kx
  have c_kx := cells_of kx
  have f_kx := free_of kx
  have l_kx_V8 := lt_of kx
  refine (bInsert_calls _ _ _ _ Hv.out _ hA).mono ?_
  rintro e_W7 W7 ⟨rfl, O3, hA_W7, hf_W7⟩
  have q_kn := hf_W7.keep kn o_kn (fun h => h)
  have q_kx := hf_W7.keep kx o_kx (fun h => h)
  replace o_kn := hf_W7.not_own (lt_of kn) o_kn
  clear kn; have kn := q_kn; clear q_kn
  have c_kn := cells_of kn
  have f_kn := free_of kn
  have l_kn_W7 := lt_of kn
  replace o_kx := hf_W7.not_own (lt_of kx) o_kx
  clear kx; have kx := q_kx; clear q_kx
  have c_kx := cells_of kx
  have f_kx := free_of kx
  have l_kx_W7 := lt_of kx
  replace hF := hF.trans hf_W7.widen
  have z_W7 := hf_W7.size
  clear hA hf_W7; have hA := hA_W7; clear hA_W7
  go_wp2_with fail
  refine calls_gen fun V9 hV_V9 => ?_
  have n_kn := congrArg (fun v : World => v.heap[W1.heap.size]?) hV_V9
  simp (maxDischargeDepth := 9) only [BK, not_false_eq_true, reduceCtorEq, kn, kx, l_kn_V1, l_kn_V2, l_kx_V2, l_kn_V2d, l_kx_V2d, l_kn_W2, l_kx_W2, l_kn_W3, l_kx_W3, l_kn_W4, l_kx_W4, l_kn_V5, l_kx_V5, l_kn_V5d, l_kx_V5d, l_kn_D1, l_kx_D1, l_kn_D2, l_kx_D2, l_kn_V6, l_kx_V6, l_kn_W5, l_kx_W5, l_kn_V7, l_kx_V7, l_kn_W6, l_kx_W6, l_kn_V8, l_kx_V8, l_kn_W7, l_kx_W7] at n_kn
  have n_kx := congrArg (fun v : World => v.heap[V1.heap.size]?) hV_V9
  simp (maxDischargeDepth := 9) only [BK, not_false_eq_true, reduceCtorEq, kn, kx, l_kn_V1, l_kn_V2, l_kx_V2, l_kn_V2d, l_kx_V2d, l_kn_W2, l_kx_W2, l_kn_W3, l_kx_W3, l_kn_W4, l_kx_W4, l_kn_V5, l_kx_V5, l_kn_V5d, l_kx_V5d, l_kn_D1, l_kx_D1, l_kn_D2, l_kx_D2, l_kn_V6, l_kx_V6, l_kn_W5, l_kx_W5, l_kn_V7, l_kx_V7, l_kn_W6, l_kx_W6, l_kn_V8, l_kx_V8, l_kn_W7, l_kx_W7] at n_kx
  have n_F : Fr (noX) O O3 w V9 := nF hV_V9
  have n_A : AP V9 ap v.2.2 O3 := nA hV_V9
  have z_V9 := Nat.le_of_eq (congrArg (fun v : World => v.heap.size) hV_V9).symm
  try simp only [SZ] at z_V9
  clear kn c_kn f_kn
  clear kx c_kx f_kx
  clear hV_V9
  clear hA
  have hA := n_A
  clear n_A
  clear hF
  have hF := n_F
  clear n_F
  have kn := n_kn; clear n_kn
  have c_kn := cells_of kn
  have f_kn := free_of kn
  have l_kn_V9 := lt_of kn
  have kx := n_kx; clear n_kx
  have c_kx := cells_of kx
  have f_kx := free_of kx
  have l_kx_V9 := lt_of kx
  refine (wMade_calls (⟨3, v.1, u.1, (s.get h).k2, 0, 0, 0⟩) hz v.2.1 _ hA).mono ?_
  rintro e_W8 W8 ⟨rfl, O4, hA_W8, hf_W8⟩
  have q_kn := hf_W8.keep kn o_kn (fun h => h)
  have q_kx := hf_W8.keep kx o_kx (fun h => h)
  replace o_kn := hf_W8.not_own (lt_of kn) o_kn
  clear kn; have kn := q_kn; clear q_kn
  have c_kn := cells_of kn
  have f_kn := free_of kn
  have l_kn_W8 := lt_of kn
  replace o_kx := hf_W8.not_own (lt_of kx) o_kx
  clear kx; have kx := q_kx; clear q_kx
  have c_kx := cells_of kx
  have f_kx := free_of kx
  have l_kx_W8 := lt_of kx
  replace hF := hF.trans hf_W8.widen
  have z_W8 := hf_W8.size
  clear hA hf_W8; have hA := hA_W8; clear hA_W8
  go_wp2_with fail
  go_ret2
  rw [Hr.out]
  exact ⟨rfl, O4, hA, hF⟩
set_option maxRecDepth 100000 in
set_option maxHeartbeats 4000000 in
theorem wIns_err (d : Nat) (hd : d + 1 ≤ 9) (s : Ar) (O : Nat → Prop) (h i c l : Int) (hl : l = 9 - ((d + 1 : Nat) : Int)) (r : Int × Int × Ar) (w : World) (one : Bool) (ho : symBit c l = one) (j : Int) (hj : wAlike s (s.get h).k0 i one = some j)
  (u : Int × Int × Ar) (he : ¬ u.2.1 = 0) (hr : r = (0, u.2.1, u.2.2))
  (ih : Hid (∀ (l' : Int) (w : World), l' = wrap64 (l + 1) → AP w ap s O → Calls Tryz.prog 82 #[ap, .int .i64 ((s.get h).kid one), .int .i64 j, .int .i64 c, .int .i64 l'] w fun e w' => e = .returned (.tuple #[.int .i64 u.1, .int .i64 u.2.1]) ∧ Did noX ap u.2.2 O w w'))
  (hA : AP w ap s O) :
  Calls Tryz.prog 82 #[ap, .int .i64 h, .int .i64 i, .int .i64 c, .int .i64 l] w fun e w' => e = .returned (.tuple #[.int .i64 r.1, .int .i64 r.2.1]) ∧ Did noX ap r.2.2 O w w' := by
 have d1 : decide (8 < l) = false := by simp; omega
 have d2 : (u.2.1 != 0) = true := by simp [he]
 have Ho := Lib.hid ho; have Hj := Lib.hid hj; have Hr := Lib.hid hr
 have hl0 : 0 ≤ l := by omega
 have hl1 : l ≤ 8 := by omega
 have hz : U64 0 := ⟨by decide, by decide⟩
 clear ho hj hr he hl hd
 go_enter Tryz.func82, Tryz.ntmps82
 go_wp2_with fail
 refine calls_gen fun V hV_V => ?_
 have n_F : Fr (noX) O O w V := nF hV_V
 have n_A : AP V ap s O := nA hV_V
 have z_V := Nat.le_of_eq (congrArg (fun v : World => v.heap.size) hV_V).symm
 try simp only [SZ] at z_V
 clear hV_V
 clear hA
 have hA := n_A
 clear n_A
 skip
 have hF := n_F
 clear n_F
 refine (wRow_calls _ _ hA).mono ?_
 rintro e_W1 W1 ⟨rfl, hb_W1⟩
 replace hA := hA.below hb_W1
 replace hF := hF.below hb_W1
 have z_W1 := hb_W1.size
 clear hb_W1
 unfold Nd.val
 go_wp2_with fail
 refine calls_gen fun V1 hV_V1 => ?_
 have n_kn := congrArg (fun v : World => v.heap[W1.heap.size]?) hV_V1
 simp (maxDischargeDepth := 9) only [BK, not_false_eq_true, reduceCtorEq] at n_kn
 have o_kn : ¬ O (W1.heap.size) := by first | exact hA.new (Nat.le_refl _) | exact hA.new (by omega)
 have n_F : Fr (noX) O O w V1 := nF hV_V1
 have n_A : AP V1 ap s O := nA hV_V1
 have z_V1 := Nat.le_of_eq (congrArg (fun v : World => v.heap.size) hV_V1).symm
 try simp only [SZ] at z_V1
 clear hV_V1
 clear hA
 have hA := n_A
 clear n_A
 clear hF
 have hF := n_F
 clear n_F
 have kn := n_kn; clear n_kn
 have c_kn := cells_of kn
 have f_kn := free_of kn
 have l_kn_V1 := lt_of kn
 refine (symBit_calls _ _ _).mono ?_
 rintro e_q w_q ⟨rfl, rfl⟩
 rw [Ho.out]
 go_wp2_with fail
 refine wp_gen fun V2 hV_V2 => ?_
 have n_kn := congrArg (fun v : World => v.heap[W1.heap.size]?) hV_V2
 simp (maxDischargeDepth := 9) only [BK, not_false_eq_true, reduceCtorEq, kn, l_kn_V1] at n_kn
 have n_kx := congrArg (fun v : World => v.heap[V1.heap.size]?) hV_V2
 simp (maxDischargeDepth := 9) only [BK, not_false_eq_true, reduceCtorEq, kn, l_kn_V1] at n_kx
 have o_kx : ¬ O (V1.heap.size) := by first | exact hA.new (Nat.le_refl _) | exact hA.new (by omega)
 have n_F : Fr (noX) O O w V2 := nF hV_V2
 have n_A : AP V2 ap s O := nA hV_V2
 have z_V2 := Nat.le_of_eq (congrArg (fun v : World => v.heap.size) hV_V2).symm
 try simp only [SZ] at z_V2
 clear kn c_kn f_kn
 clear hV_V2
 clear hA
 have hA := n_A
 clear n_A
 clear hF
 have hF := n_F
 clear n_F
 have kn := n_kn; clear n_kn
 have c_kn := cells_of kn
 have f_kn := free_of kn
 have l_kn_V2 := lt_of kn
 have kx := n_kx; clear n_kx
 have c_kx := cells_of kx
 have f_kx := free_of kx
 have l_kx_V2 := lt_of kx
 refine wp_region_noPanic ?_
 refine wp_region_held_drew (S := fun v => (∀ o, v.cell? ⟨W1.heap.size, o, none⟩ = V2.cell? ⟨W1.heap.size, o, none⟩) ∧ (∀ o, v.cell? ⟨V1.heap.size, o, none⟩ = V2.cell? ⟨V1.heap.size, o, none⟩) ∧ (V2.heap.size ≤ v.heap.size) ∧ True) (by kernel_rfl) ⟨(fun _ => rfl), (fun _ => rfl), (Nat.le_refl _), trivial⟩ (fun hHeld => ?_)
 generalize hV_V2d : V2.drew = V2d at hHeld ⊢
 have n_kn : V2d.heap[W1.heap.size]? = V2.heap[W1.heap.size]? := by rw [← hV_V2d]; rfl
 have d_kn := n_kn.trans kn
 clear n_kn c_kn f_kn
 have n_kx : V2d.heap[V1.heap.size]? = V2.heap[V1.heap.size]? := by rw [← hV_V2d]; rfl
 have d_kx := n_kx.trans kx
 clear n_kx c_kx f_kx
 have n_A : AP V2d ap s O := by rw [← hV_V2d]; exact hA.drew
 clear hA; have hA := n_A; clear n_A
 have n_F : Fr (noX) O O w V2d := by rw [← hV_V2d]; exact hF.drew
 clear hF; have hF := n_F; clear n_F
 have z_V2d : V2.heap.size ≤ V2d.heap.size := by rw [← hV_V2d]; exact Nat.le_refl _
 have v_kn := cells_of kn
 have v_kx := cells_of kx
 clear kn; have kn := d_kn; clear d_kn
 clear kx; have kx := d_kx; clear d_kx
 have c_kn := cells_of kn
 have f_kn := free_of kn
 have l_kn_V2d := lt_of kn
 have c_kx := cells_of kx
 have f_kx := free_of kx
 have l_kx_V2d := lt_of kx
 clear hV_V2d
 refine ty (i := 0) (v := ?_) rfl hHeld ?_ ?_
 rotate_left
 focus (intro w hSw; go_simp; (try simp only [IntWalk.i64_left]); try (with_reducible rfl))
 try simp only [PT]
 refine ty (i := 1) (v := ?_) rfl hHeld ?_ ?_
 rotate_left
 focus (intro w hSw; go_simp; (try simp only [IntWalk.i64_left]); try (with_reducible rfl))
 try simp only [PT]
 refine ty (i := 2) (v := ?_) rfl hHeld ?_ ?_
 rotate_left
 focus (intro w hSw; go_simp; (try simp only [IntWalk.i64_left]); try (with_reducible rfl))
 try simp only [PT]
 refine ty (i := 4) (v := ?_) rfl hHeld ?_ ?_
 rotate_left
 focus (intro w hSw; go_simp; (try simp only [IntWalk.i64_left]); try (with_reducible rfl))
 try simp only [PT]
 refine ty (i := 5) (v := ?_) rfl hHeld ?_ ?_
 rotate_left
 focus (intro w hSw; go_simp; (try simp only [IntWalk.i64_left]); try (with_reducible rfl))
 try simp only [PT]
 refine ty (i := 6) (v := ?_) rfl hHeld ?_ ?_
 rotate_left
 focus (intro w hSw; go_simp; (try simp only [IntWalk.i64_left]); try (with_reducible rfl))
 try simp only [PT]
 refine ty (i := 7) (v := ?_) rfl hHeld ?_ ?_
 rotate_left
 focus (intro w hSw; go_simp; (try simp only [IntWalk.i64_left]); try (with_reducible rfl))
 try simp only [PT]
 refine ty (i := 8) (v := ?_) rfl hHeld ?_ ?_
 rotate_left
 focus (intro w hSw; go_simp; (try simp only [IntWalk.i64_left]); try (with_reducible rfl))
 try simp only [PT]
 refine ty (i := 9) (v := ?_) rfl hHeld ?_ ?_
 rotate_left
 focus (intro w hSw; go_simp; (try simp only [IntWalk.i64_left]); try (with_reducible rfl))
 try simp only [PT]
 refine ty (i := 11) (v := ?_) rfl hHeld ?_ ?_
 rotate_left
 focus (intro w hSw; go_simp; (try simp only [IntWalk.i64_left]); try (with_reducible rfl))
 try simp only [PT]
 refine ty (i := 12) (v := ?_) rfl hHeld ?_ ?_
 rotate_left
 focus (intro w hSw; go_simp; (try simp only [IntWalk.i64_left]); try (with_reducible rfl))
 try simp only [PT]
 refine ty (i := 13) (v := ?_) rfl hHeld ?_ ?_
 rotate_left
 focus (intro w hSw; go_simp; (try simp only [IntWalk.i64_left]); try (with_reducible rfl))
 try simp only [PT]
 refine wpAnyH_ready (rs := [3]) (by kernel_rfl) (by simp) ?_
 refine ready_at rfl (fun K hK => ?_) AllReadyH.nil
 go_simp
 try simp only [IntWalk.i64_left]
 refine (wKid_calls (s.get h) one _).mono ?_
 rintro e_W2 W2 ⟨rfl, hb_W2⟩
 replace hA := hA.below hb_W2
 replace hF := hF.below hb_W2
 replace kn := keep_blk hb_W2 kn
 have c_kn := cells_of kn
 have f_kn := free_of kn
 have l_kn_W2 := lt_of kn
 replace kx := keep_blk hb_W2 kx
 have c_kx := cells_of kx
 have f_kx := free_of kx
 have l_kx_W2 := lt_of kx
 have z_W2 := hb_W2.size
 clear hb_W2
 refine hK.out _ _ ⟨(fun o => (c_kn o).trans (v_kn o).symm), (fun o => (c_kx o).trans (v_kx o).symm), (by omega), trivial⟩ (fun hHeld => ?_)
 clear hK K
 try simp only [PT]
 refine wpAnyH_ready (rs := [10]) (by kernel_rfl) (by simp) ?_
 refine ready_at rfl (fun K hK => ?_) AllReadyH.nil
 go_simp
 try simp only [IntWalk.i64_left]
 refine (wAlike_calls _ _ _ _ Hj.out _ hA).mono ?_
 rintro e_W3 W3 ⟨rfl, hb_W3⟩
 replace hA := hA.below hb_W3
 replace hF := hF.below hb_W3
 replace kn := keep_blk hb_W3 kn
 have c_kn := cells_of kn
 have f_kn := free_of kn
 have l_kn_W3 := lt_of kn
 replace kx := keep_blk hb_W3 kx
 have c_kx := cells_of kx
 have f_kx := free_of kx
 have l_kx_W3 := lt_of kx
 have z_W3 := hb_W3.size
 clear hb_W3
 refine hK.out _ _ ⟨(fun o => (c_kn o).trans (v_kn o).symm), (fun o => (c_kx o).trans (v_kx o).symm), (by omega), trivial⟩ (fun hHeld => ?_)
 clear hK K
 try simp only [PT]
 refine wpAnyH_ready (rs := [14]) (by kernel_rfl) (by simp) ?_
 refine ready_at rfl (fun K hK => ?_) AllReadyH.nil
 go_simp
 try simp only [IntWalk.i64_left]
 refine (ih.out _ _ rfl hA).mono ?_
 rintro e_W4 W4 ⟨rfl, O1, hA_W4, hf_W4⟩
 have q_kn := hf_W4.keep kn o_kn (fun h => h)
 have q_kx := hf_W4.keep kx o_kx (fun h => h)
 replace o_kn := hf_W4.not_own (lt_of kn) o_kn
 clear kn; have kn := q_kn; clear q_kn
 have c_kn := cells_of kn
 have f_kn := free_of kn
 have l_kn_W4 := lt_of kn
 replace o_kx := hf_W4.not_own (lt_of kx) o_kx
 clear kx; have kx := q_kx; clear q_kx
 have c_kx := cells_of kx
 have f_kx := free_of kx
 have l_kx_W4 := lt_of kx
 replace hF := hF.trans hf_W4.widen
 have z_W4 := hf_W4.size
 clear hA hf_W4; have hA := hA_W4; clear hA_W4
 refine hK.out _ _ ⟨(fun o => (c_kn o).trans (v_kn o).symm), (fun o => (c_kx o).trans (v_kx o).symm), (by omega), trivial⟩ (fun hHeld => ?_)
 clear hK K
 try simp only [PT]
 refine ty (i := 15) (v := ?_) rfl hHeld ?_ ?_
 rotate_left
 focus (intro w hSw; go_simp; (try simp only [IntWalk.i64_left]); try (with_reducible rfl))
 try simp only [PT]
 refine ty (i := 16) (v := ?_) rfl hHeld ?_ ?_
 rotate_left
 focus (intro w hSw; go_simp; (try simp only [IntWalk.i64_left]); try (with_reducible rfl))
 try simp only [PT]
 refine ty (i := 17) (v := ?_) rfl hHeld ?_ ?_
 rotate_left
 focus (intro w hSw; go_simp; (try simp only [IntWalk.i64_left]); try (with_reducible rfl))
 try simp only [PT]
 refine wpAnyH_ready (rs := [18]) (by kernel_rfl) (by simp) ?_
 refine ready_at rfl (fun K hK => ?_) AllReadyH.nil
 go_simp
 refine hK.out _ _ hHeld (fun hHeld => ?_)
 clear hK K
 try simp only [PT]
 refine wpAnyH_ready (rs := [19]) (by kernel_rfl) (by simp) ?_
 refine ready_at rfl (fun K hK => ?_) AllReadyH.nil
 go_simp
 refine hK.out _ _ hHeld (fun hHeld => ?_)
 clear hK K
 try simp only [PT]
 refine wpAnyH_done (by kernel_rfl) ?_ _
 refine NoPanic.normal ?_
 go_wp2_with fail
 go_ret2
 rw [Hr.out]
 exact ⟨rfl, O1, hA, hF⟩
set_option maxRecDepth 100000 in
set_option maxHeartbeats 800000 in
theorem wIns_end (s : Ar) (O : Nat → Prop) (h i c : Int) (w : World) (hA : AP w ap s O) :
  Calls Tryz.prog 82 #[ap, .int .i64 h, .int .i64 i, .int .i64 c, .int .i64 9] w fun e w' => e = .returned (.tuple #[.int .i64 0, .int .i64 0]) ∧ Did noX ap s O w w' := by
 go_enter Tryz.func82, Tryz.ntmps82
 go_wp2_with fail
 go_ret2
 exact ⟨rfl, O, hA, Fr.refl _ _ _⟩
theorem wIns_calls : ∀ (d : Nat) (hd : d ≤ 9) (s : Ar) (O : Nat → Prop) (h i c l : Int) (hl : l = 9 - (d : Int)) (r : Int × Int × Ar) (hr : wInsertL d s h i c = some r) (w : World) (hA : AP w ap s O),
  Calls Tryz.prog 82 #[ap, .int .i64 h, .int .i64 i, .int .i64 c, .int .i64 l] w fun e w' => e = .returned (.tuple #[.int .i64 r.1, .int .i64 r.2.1]) ∧ Did noX ap r.2.2 O w w'
 | 0, hd, s, O, h, i, c, l, hl, r, hr, w, hA => by
  obtain rfl : l = 9 := by simpa using hl
  unfold wInsertL at hr
  obtain rfl := Option.some.inj hr
  exact wIns_end s O h i c w hA
 | d + 1, hd, s, O, h, i, c, l, hl, r, hr, w, hA => by
  unfold wInsertL at hr
  dsimp only at hr
  obtain ⟨j, hj, hr⟩ := Option.bind_eq_some_iff.1 hr
  obtain ⟨u, hu, hr⟩ := Option.bind_eq_some_iff.1 hr
  have hl' : l = 8 - (d : Int) := by omega
  have hw : wrap64 (l + 1) = 9 - (d : Int) := by rw [IntWalk.wrap64_in _ (by omega)]; omega
  have ih : Hid (∀ (l' : Int) (w : World), l' = wrap64 (l + 1) → AP w ap s O → Calls Tryz.prog 82 #[ap, .int .i64 ((s.get h).kid (symBit c l)), .int .i64 j, .int .i64 c, .int .i64 l'] w fun e w' => e = .returned (.tuple #[.int .i64 u.1, .int .i64 u.2.1]) ∧ Did noX ap u.2.2 O w w') := by
   refine Lib.hid fun l' w hl2 hA => ?_
   rw [hl'] at *
   exact wIns_calls d (by omega) s O _ j c l' (by rw [hl2, hw]) u hu w hA
  by_cases he : u.2.1 = 0
  ·
   rw [if_pos he] at hr
   obtain ⟨v, hv, hr⟩ := Option.bind_eq_some_iff.1 hr
   have hr := (Option.some.inj hr).symm
   rw [← hl'] at hj hv hr
   exact wIns_step d hd s O h i c l hl r w _ rfl j hj u he v hv hr ih hA
  ·
   rw [if_neg he] at hr
   have hr := (Option.some.inj hr).symm
   rw [← hl'] at hj
   exact wIns_err d hd s O h i c l hl r w _ rfl j hj u he hr ih hA
set_option maxRecDepth 100000 in
set_option maxHeartbeats 1600000 in
theorem wInsert_calls (s : Ar) (O : Nat → Prop) (h i x : Int) (r : Int × Int × Ar) (hr : wInsert s h i x = some r) (w : World) (hA : AP w ap s O) :
  Calls Tryz.prog 39 #[ap, .int .i64 h, .int .i64 i, .int .i64 x] w fun e w' => e = .returned (.tuple #[.int .i64 r.1, .int .i64 r.2.1]) ∧ Did noX ap r.2.2 O w w' := by
 unfold wInsert at hr
 cases h0 : wIs x with
 | false =>
  rw [h0, if_neg (by decide)] at hr
  obtain rfl := Option.some.inj hr
  clear hr
  go_enter Tryz.func39, Tryz.ntmps39
  go_wp2_with fail
  refine calls_gen fun V hV_V => ?_
  have n_F : Fr (noX) O O w V := nF hV_V
  have n_A : AP V ap s O := nA hV_V
  have z_V := Nat.le_of_eq (congrArg (fun v : World => v.heap.size) hV_V).symm
  try simp only [SZ] at z_V
  clear hV_V
  clear hA
  have hA := n_A
  clear n_A
  skip
  have hF := n_F
  clear n_F
  refine (wIs_calls _ _).mono ?_
  rintro e_q w_q ⟨rfl, rfl⟩
  rw [h0]
  go_wp2_with fail
  go_ret2
  exact ⟨rfl, O, hA, hF⟩
 | true =>
  rw [h0, if_pos rfl] at hr
  by_cases h1 : i < 0
  ·
   have d1 : decide (i < 0) = true := by simpa using h1
   rw [if_pos (.inl h1)] at hr
   obtain rfl := Option.some.inj hr
   clear hr h1
   go_enter Tryz.func39, Tryz.ntmps39
   go_wp2_with fail
   refine calls_gen fun V hV_V => ?_
   have n_F : Fr (noX) O O w V := nF hV_V
   have n_A : AP V ap s O := nA hV_V
   have z_V := Nat.le_of_eq (congrArg (fun v : World => v.heap.size) hV_V).symm
   try simp only [SZ] at z_V
   clear hV_V
   clear hA
   have hA := n_A
   clear n_A
   skip
   have hF := n_F
   clear n_F
   refine (wIs_calls _ _).mono ?_
   rintro e_q w_q ⟨rfl, rfl⟩
   rw [h0]
   go_wp2_with fail
   go_ret2
   exact ⟨rfl, O, hA, hF⟩
  ·
   have d1 : decide (i < 0) = false := by simpa using h1
   by_cases h2 : wLen s h < i
   ·
    have d2 : decide (wLen s h < i) = true := by simpa using h2
    rw [if_pos (.inr h2)] at hr
    obtain rfl := Option.some.inj hr
    clear hr h1 h2
    go_enter Tryz.func39, Tryz.ntmps39
    go_wp2_with fail
    refine calls_gen fun V hV_V => ?_
    have n_F : Fr (noX) O O w V := nF hV_V
    have n_A : AP V ap s O := nA hV_V
    have z_V := Nat.le_of_eq (congrArg (fun v : World => v.heap.size) hV_V).symm
    try simp only [SZ] at z_V
    clear hV_V
    clear hA
    have hA := n_A
    clear n_A
    skip
    have hF := n_F
    clear n_F
    refine (wIs_calls _ _).mono ?_
    rintro e_q w_q ⟨rfl, rfl⟩
    rw [h0]
    go_wp2_with fail
    refine calls_gen fun V1 hV_V1 => ?_
    have n_F : Fr (noX) O O w V1 := nF hV_V1
    have n_A : AP V1 ap s O := nA hV_V1
    have z_V1 := Nat.le_of_eq (congrArg (fun v : World => v.heap.size) hV_V1).symm
    try simp only [SZ] at z_V1
    clear hV_V1
    clear hA
    have hA := n_A
    clear n_A
    clear hF
    have hF := n_F
    clear n_F
    refine (wLen_calls _ _ hA).mono ?_
    rintro e_W2 W2 ⟨rfl, hb_W2⟩
    replace hA := hA.below hb_W2
    replace hF := hF.below hb_W2
    have z_W2 := hb_W2.size
    clear hb_W2
    go_wp2_with fail
    go_ret2
    exact ⟨rfl, O, hA, hF⟩
   ·
    have d2 : decide (wLen s h < i) = false := by simpa using h2
    rw [if_neg (by omega)] at hr
    have Hr := Lib.hid hr
    clear hr h1 h2
    go_enter Tryz.func39, Tryz.ntmps39
    go_wp2_with fail
    refine calls_gen fun V hV_V => ?_
    have n_F : Fr (noX) O O w V := nF hV_V
    have n_A : AP V ap s O := nA hV_V
    have z_V := Nat.le_of_eq (congrArg (fun v : World => v.heap.size) hV_V).symm
    try simp only [SZ] at z_V
    clear hV_V
    clear hA
    have hA := n_A
    clear n_A
    skip
    have hF := n_F
    clear n_F
    refine (wIs_calls _ _).mono ?_
    rintro e_q w_q ⟨rfl, rfl⟩
    rw [h0]
    go_wp2_with fail
    refine calls_gen fun V1 hV_V1 => ?_
    have n_F : Fr (noX) O O w V1 := nF hV_V1
    have n_A : AP V1 ap s O := nA hV_V1
    have z_V1 := Nat.le_of_eq (congrArg (fun v : World => v.heap.size) hV_V1).symm
    try simp only [SZ] at z_V1
    clear hV_V1
    clear hA
    have hA := n_A
    clear n_A
    clear hF
    have hF := n_F
    clear n_F
    refine (wLen_calls _ _ hA).mono ?_
    rintro e_W2 W2 ⟨rfl, hb_W2⟩
    replace hA := hA.below hb_W2
    replace hF := hF.below hb_W2
    have z_W2 := hb_W2.size
    clear hb_W2
    go_wp2_with fail
    refine calls_gen fun V2 hV_V2 => ?_
    have n_F : Fr (noX) O O w V2 := nF hV_V2
    have n_A : AP V2 ap s O := nA hV_V2
    have z_V2 := Nat.le_of_eq (congrArg (fun v : World => v.heap.size) hV_V2).symm
    try simp only [SZ] at z_V2
    clear hV_V2
    clear hA
    have hA := n_A
    clear n_A
    clear hF
    have hF := n_F
    clear n_F
    refine (wIns_calls 9 (by omega) s O _ _ _ _ (by rfl) _ Hr.out _ hA).mono ?_
    rintro e_W3 W3 ⟨rfl, O1, hA_W3, hf_W3⟩
    replace hF := hF.trans hf_W3.widen
    have z_W3 := hf_W3.size
    clear hA hf_W3; have hA := hA_W3; clear hA_W3
    go_wp2_with fail
    go_ret2
    exact ⟨rfl, O1, hA, hF⟩
end Go.Proofs.YtpdpcgmkpgfblaaGreat
/- The tree that makes nodes of lists: its small ways; a list's length. -/
namespace Go.Proofs.YtpdpcgmkpgfblaaGreat
set_option linter.unusedSimpArgs false
set_option linter.unusedVariables false
set_option linter.unnecessarySimpa false
open Go.RowKit
attribute [local go_sem ↓] Go.wp_at_zero Go.wp_at_succ
attribute [local go_sem] lt_s2 lt_s3 lt_s4
attribute [local go_sem] idx0 idx1 idx2 idx3
/-- The tree whose struct is block tb. -/
structure LB (w : World) (tb : Nat) (ap : Value) (t : Tb) (O : Nat → Prop) : Prop where
 hA : AP w ap t.s O
 blk : w.heap[tb]? = some (.cells #[ap, .int .i64 t.e] 123 (0, 0))
 no : ¬ O tb
/-- What a call on a tree leaves. -/
def DidL (tb : Nat) (ap : Value) (t' : Tb) (O : Nat → Prop) (w w' : World) : Prop := ∃ O', LB w' tb ap t' O' ∧ Fr (oneX tb) O O' w w'
variable {ap : Value} {O : Nat → Prop} {tb : Nat} {t : Tb} {s : Ar}
set_option maxRecDepth 100000 in
set_option maxHeartbeats 800000 in
theorem lLen_calls (h : Int) (w : World) (hA : AP w ap s O) :
  Calls Tryz.prog 24 #[ap, .int .i64 h] w fun e w' => e = .returned (.int .i64 (lLen s h)) ∧ Below w.heap.size w w' := by
 unfold lLen
 cases h1 : lIs s h with
 | false =>
  go_enter Tryz.func24, Tryz.ntmps24
  go_wp2_with fail
  refine calls_gen fun V hV_V => ?_
  have n_B : Below w.heap.size w V := nB hV_V
  have n_A : AP V ap s O := nA hV_V
  have z_V := Nat.le_of_eq (congrArg (fun v : World => v.heap.size) hV_V).symm
  try simp only [SZ] at z_V
  clear hV_V
  clear hA
  have hA := n_A
  clear n_A
  skip
  have hB := n_B
  clear n_B
  refine (lRow_calls _ _ hA).mono ?_
  rintro e_w1 w1 ⟨rfl, hb_w1⟩
  replace hA := hA.below hb_w1
  replace hB := below_step hB hb_w1
  have z_w1 := hb_w1.size
  clear hb_w1
  unfold Nd.val
  go_wp2_with fail
  go_ret
  exact ⟨rfl, by (repeat' first | with_reducible assumption | with_reducible exact Below.refl _ _ | with_reducible refine Below.alloc ?_ ?_ _ | with_reducible refine Below.setCell ?_ ?_ _ | with_reducible refine below_drewN ?_ _ | with_reducible refine Below.drew ?_ | exact Nat.le_refl _ | ((try dsimp only); omega) | (simp only [siz_alloc, siz_set]; omega))⟩
 | true =>
  rw [if_pos rfl]
  by_cases h2 : (s.get h).tag = 4
  ·
   have d1 : ((s.get h).tag == 4) = true := by simpa using h2
   rw [if_pos h2]
   clear h2
   go_enter Tryz.func24, Tryz.ntmps24
   go_wp2_with fail
   refine calls_gen fun V hV_V => ?_
   have n_B : Below w.heap.size w V := nB hV_V
   have n_A : AP V ap s O := nA hV_V
   have z_V := Nat.le_of_eq (congrArg (fun v : World => v.heap.size) hV_V).symm
   try simp only [SZ] at z_V
   clear hV_V
   clear hA
   have hA := n_A
   clear n_A
   skip
   have hB := n_B
   clear n_B
   refine (lRow_calls _ _ hA).mono ?_
   rintro e_w1 w1 ⟨rfl, hb_w1⟩
   replace hA := hA.below hb_w1
   replace hB := below_step hB hb_w1
   have z_w1 := hb_w1.size
   clear hb_w1
   unfold Nd.val
   go_wp2_with fail
   go_ret
   exact ⟨rfl, by (repeat' first | with_reducible assumption | with_reducible exact Below.refl _ _ | with_reducible refine Below.alloc ?_ ?_ _ | with_reducible refine Below.setCell ?_ ?_ _ | with_reducible refine below_drewN ?_ _ | with_reducible refine Below.drew ?_ | exact Nat.le_refl _ | ((try dsimp only); omega) | (simp only [siz_alloc, siz_set]; omega))⟩
  ·
   have d1 : ((s.get h).tag == 4) = false := by simpa using h2
   rw [if_neg h2]
   clear h2
   go_enter Tryz.func24, Tryz.ntmps24
   go_wp2_with fail
   refine calls_gen fun V hV_V => ?_
   have n_B : Below w.heap.size w V := nB hV_V
   have n_A : AP V ap s O := nA hV_V
   have z_V := Nat.le_of_eq (congrArg (fun v : World => v.heap.size) hV_V).symm
   try simp only [SZ] at z_V
   clear hV_V
   clear hA
   have hA := n_A
   clear n_A
   skip
   have hB := n_B
   clear n_B
   refine (lRow_calls _ _ hA).mono ?_
   rintro e_w1 w1 ⟨rfl, hb_w1⟩
   replace hA := hA.below hb_w1
   replace hB := below_step hB hb_w1
   have z_w1 := hb_w1.size
   clear hb_w1
   unfold Nd.val
   go_wp2_with fail
   go_ret
   exact ⟨rfl, by (repeat' first | with_reducible assumption | with_reducible exact Below.refl _ _ | with_reducible refine Below.alloc ?_ ?_ _ | with_reducible refine Below.setCell ?_ ?_ _ | with_reducible refine below_drewN ?_ _ | with_reducible refine Below.drew ?_ | exact Nat.le_refl _ | ((try dsimp only); omega) | (simp only [siz_alloc, siz_set]; omega))⟩
set_option maxRecDepth 100000 in
set_option maxHeartbeats 800000 in
theorem lKeep_calls (h : Int) (w : World) (hT : LB w tb ap t O) :
  Calls Tryz.prog 91 #[.pointer (some ⟨tb, 0, none⟩), .int .i64 h] w fun e w' => e = .returned (.int .i64 h) ∧ DidL tb ap (t.keep h) O w w' := by
 go_enter Tryz.func91, Tryz.ntmps91
 have hA := hT.hA
 have kt := hT.blk
 have o_kt := hT.no
 have c_kt := cells_of kt
 have f_kt := free_of kt
 have l_kt_w := lt_of kt
 go_wp2_with fail
 refine calls_gen fun V hV_V => ?_
 have n_kt := congrArg (fun v : World => v.heap[tb]?) hV_V
 simp (maxDischargeDepth := 9) only [BK, not_false_eq_true, reduceCtorEq, kt, l_kt_w] at n_kt
 have n_F : Fr (oneX tb) O O w V := nF hV_V
 have n_A : AP V ap t.s O := nA hV_V
 have z_V := Nat.le_of_eq (congrArg (fun v : World => v.heap.size) hV_V).symm
 try simp only [SZ] at z_V
 clear kt c_kt f_kt
 clear hV_V
 clear hA
 have hA := n_A
 clear n_A
 skip
 have hF := n_F
 clear n_F
 have kt := n_kt; clear n_kt
 have c_kt := cells_of kt
 have f_kt := free_of kt
 have l_kt_V := lt_of kt
 refine (keep_calls _ _ hA).mono ?_
 rintro e_W W ⟨rfl, O1, hA_W, hf_W⟩
 have q_kt := hf_W.keep kt o_kt (fun h => h)
 replace o_kt := hf_W.not_own (lt_of kt) o_kt
 clear kt; have kt := q_kt; clear q_kt
 have c_kt := cells_of kt
 have f_kt := free_of kt
 have l_kt_W := lt_of kt
 replace hF := hF.trans hf_W.widen
 have z_W := hf_W.size
 clear hA hf_W; have hA := hA_W; clear hA_W
 go_wp2_with fail
 go_ret
 refine ⟨rfl, O1, ⟨hA, kt, o_kt⟩, hF⟩
set_option maxRecDepth 100000 in
set_option maxHeartbeats 1600000 in
theorem lNode_calls (n : Nd) (hn : U64 n.a) (w : World) (hT : LB w tb ap t O) :
  Calls Tryz.prog 121 #[.pointer (some ⟨tb, 0, none⟩), n.val] w fun e w' => e = .returned (.int .i64 (t.lnode n).1) ∧ DidL tb ap (t.lnode n).2 O w w' := by
 by_cases he : t.e = 0
 ·
  have d1 : (t.e == 0) = true := by simpa using he
  have e1 : Hid (t.lnode n = ((t.s.make n).1, ⟨((t.s.make n).2.2.drop n.k0).drop n.k1, (t.s.make n).2.1⟩)) := by
   show _ = _
   unfold Tb.lnode Tb.nodeD; rw [if_pos he]; rfl
  clear he
  unfold Nd.val
  go_enter Tryz.func121, Tryz.ntmps121
  have hA := hT.hA
  have kt := hT.blk
  have o_kt := hT.no
  have c_kt := cells_of kt
  have f_kt := free_of kt
  have l_kt_w := lt_of kt
  go_wp2_with fail
  refine wp_gen fun V hV_V => ?_
  have n_kt := congrArg (fun v : World => v.heap[tb]?) hV_V
  simp (maxDischargeDepth := 9) only [BK, not_false_eq_true, reduceCtorEq, kt, l_kt_w] at n_kt
  have n_kn := congrArg (fun v : World => v.heap[w.heap.size]?) hV_V
  simp (maxDischargeDepth := 9) only [BK, not_false_eq_true, reduceCtorEq, kt, l_kt_w] at n_kn
  have o_kn : ¬ O (w.heap.size) := by first | exact hA.new (Nat.le_refl _) | exact hA.new (by omega)
  have n_F : Fr ((oneX tb)) O O w V := nF hV_V
  have n_A : AP V ap t.s O := nA hV_V
  have z_V := Nat.le_of_eq (congrArg (fun v : World => v.heap.size) hV_V).symm
  try simp only [SZ] at z_V
  clear kt c_kt f_kt
  clear hV_V
  clear hA
  have hA := n_A
  clear n_A
  skip
  have hF := n_F
  clear n_F
  have kt := n_kt; clear n_kt
  have c_kt := cells_of kt
  have f_kt := free_of kt
  have l_kt_V := lt_of kt
  have kn := n_kn; clear n_kn
  have c_kn := cells_of kn
  have f_kn := free_of kn
  have l_kn_V := lt_of kn
  refine wp_region_noPanic ?_
  refine wp_region_held_drew (S := fun v => (v.cell? ⟨tb, 0, none⟩ = V.cell? ⟨tb, 0, none⟩) ∧ (∀ o, v.cell? ⟨w.heap.size, o, none⟩ = V.cell? ⟨w.heap.size, o, none⟩) ∧ (V.heap.size ≤ v.heap.size) ∧ True) (by kernel_rfl) ⟨rfl, (fun _ => rfl), (Nat.le_refl _), trivial⟩ (fun hHeld => ?_)
  generalize hV_Vd : V.drew = Vd at hHeld ⊢
  have n_kt : Vd.heap[tb]? = V.heap[tb]? := by rw [← hV_Vd]; rfl
  have d_kt := n_kt.trans kt
  clear n_kt c_kt f_kt
  have n_kn : Vd.heap[w.heap.size]? = V.heap[w.heap.size]? := by rw [← hV_Vd]; rfl
  have d_kn := n_kn.trans kn
  clear n_kn c_kn f_kn
  have n_A : AP Vd ap t.s O := by rw [← hV_Vd]; exact hA.drew
  clear hA; have hA := n_A; clear n_A
  have n_F : Fr ((oneX tb)) O O w Vd := by rw [← hV_Vd]; exact hF.drew
  clear hF; have hF := n_F; clear n_F
  have z_Vd : V.heap.size ≤ Vd.heap.size := by rw [← hV_Vd]; exact Nat.le_refl _
  have v_kt := cells_of kt
  have v_kn := cells_of kn
  clear kt; have kt := d_kt; clear d_kt
  clear kn; have kn := d_kn; clear d_kn
  have c_kt := cells_of kt
  have f_kt := free_of kt
  have l_kt_Vd := lt_of kt
  have c_kn := cells_of kn
  have f_kn := free_of kn
  have l_kn_Vd := lt_of kn
  clear hV_Vd
  refine ty (i := 0) (v := ?_) rfl hHeld ?_ ?_
  rotate_left
  focus (intro w hSw; go_simp; (try simp only [IntWalk.i64_left]); try (with_reducible rfl))
  try simp only [PT]
  refine ty (i := 1) (v := ?_) rfl hHeld ?_ ?_
  rotate_left
  focus (intro w hSw; go_simp; (try simp only [IntWalk.i64_left]); try (with_reducible rfl))
  try simp only [PT]
  refine ty (i := 2) (v := ?_) rfl hHeld ?_ ?_
  rotate_left
  focus (intro w hSw; go_simp; (try simp only [IntWalk.i64_left]); try (with_reducible rfl))
  try simp only [PT]
  refine ty (i := 3) (v := ?_) rfl hHeld ?_ ?_
  rotate_left
  focus (intro w hSw; go_simp; (try simp only [IntWalk.i64_left]); try (with_reducible rfl))
  try simp only [PT]
  refine ty (i := 4) (v := ?_) rfl hHeld ?_ ?_
  rotate_left
  focus (intro w hSw; go_simp; (try simp only [IntWalk.i64_left]); try (with_reducible rfl))
  try simp only [PT]
  refine ty (i := 5) (v := ?_) rfl hHeld ?_ ?_
  rotate_left
  focus (intro w hSw; go_simp; (try simp only [IntWalk.i64_left]); try (with_reducible rfl))
  try simp only [PT]
  refine wpAnyH_ready (rs := [6]) (by kernel_rfl) (by simp) ?_
  refine ready_at rfl (fun K hK => ?_) AllReadyH.nil
  go_simp
  try simp only [IntWalk.i64_left]
  refine (make_calls n hn _ hA).mono ?_
  rintro e_W W ⟨rfl, O1, hA_W, hf_W⟩
  have q_kt := hf_W.keep kt o_kt (fun h => h)
  have q_kn := hf_W.keep kn o_kn (fun h => h)
  replace o_kt := hf_W.not_own (lt_of kt) o_kt
  clear kt; have kt := q_kt; clear q_kt
  have c_kt := cells_of kt
  have f_kt := free_of kt
  have l_kt_W := lt_of kt
  replace o_kn := hf_W.not_own (lt_of kn) o_kn
  clear kn; have kn := q_kn; clear q_kn
  have c_kn := cells_of kn
  have f_kn := free_of kn
  have l_kn_W := lt_of kn
  replace hF := hF.trans hf_W.widen
  have z_W := hf_W.size
  clear hA hf_W; have hA := hA_W; clear hA_W
  refine hK.out _ _ ⟨((c_kt 0).trans (v_kt 0).symm), (fun o => (c_kn o).trans (v_kn o).symm), (by omega), trivial⟩ (fun hHeld => ?_)
  clear hK K
  try simp only [PT]
  refine ty (i := 7) (v := ?_) rfl hHeld ?_ ?_
  rotate_left
  focus (intro w hSw; go_simp; (try simp only [IntWalk.i64_left]); try (with_reducible rfl))
  try simp only [PT]
  refine ty (i := 8) (v := ?_) rfl hHeld ?_ ?_
  rotate_left
  focus (intro w hSw; go_simp; (try simp only [IntWalk.i64_left]); try (with_reducible rfl))
  try simp only [PT]
  refine ty (i := 9) (v := ?_) rfl hHeld ?_ ?_
  rotate_left
  focus (intro w hSw; go_simp; (try simp only [IntWalk.i64_left]); try (with_reducible rfl))
  try simp only [PT]
  refine wpAnyH_ready (rs := [10]) (by kernel_rfl) (by simp) ?_
  refine ready_at rfl (fun K hK => ?_) AllReadyH.nil
  go_simp
  refine hK.out _ _ hHeld (fun hHeld => ?_)
  clear hK K
  try simp only [PT]
  refine ty (i := 11) (v := ?_) rfl hHeld ?_ ?_
  rotate_left
  focus (intro w hSw; go_simp; (try simp only [IntWalk.i64_left]); try (with_reducible rfl))
  try simp only [PT]
  refine ty (i := 12) (v := ?_) rfl hHeld ?_ ?_
  rotate_left
  focus (intro w hSw; go_simp; (try simp only [IntWalk.i64_left]); try (with_reducible rfl))
  try simp only [PT]
  refine wpAnyH_ready (rs := [13]) (by kernel_rfl) (by simp) ?_
  refine ready_at rfl (fun K hK => ?_) AllReadyH.nil
  go_simp
  refine gen_app (K := K) (fun D hV_D => ?_)
  have n_kt := congrArg (fun v : World => v.heap[tb]?) hV_D
  simp (maxDischargeDepth := 9) only [BK, not_false_eq_true, reduceCtorEq, kt, kn, l_kt_w, l_kt_V, l_kn_V, l_kt_Vd, l_kn_Vd, l_kt_W, l_kn_W] at n_kt
  have n_kn := congrArg (fun v : World => v.heap[w.heap.size]?) hV_D
  simp (maxDischargeDepth := 9) only [BK, not_false_eq_true, reduceCtorEq, kt, kn, l_kt_w, l_kt_V, l_kn_V, l_kt_Vd, l_kn_Vd, l_kt_W, l_kn_W] at n_kn
  have n_F : Fr ((oneX tb)) O O1 w D := nF hV_D
  have n_A : AP D ap ((t.s.make n).2.2) O1 := nA hV_D
  have z_D := Nat.le_of_eq (congrArg (fun v : World => v.heap.size) hV_D).symm
  try simp only [SZ] at z_D
  clear kt c_kt f_kt
  clear kn c_kn f_kn
  clear hV_D
  clear hA
  have hA := n_A
  clear n_A
  clear hF
  have hF := n_F
  clear n_F
  have kt := n_kt; clear n_kt
  have c_kt := cells_of kt
  have f_kt := free_of kt
  have l_kt_D := lt_of kt
  have kn := n_kn; clear n_kn
  have c_kn := cells_of kn
  have f_kn := free_of kn
  have l_kn_D := lt_of kn
  refine hK.out _ _ ⟨((c_kt 0).trans (v_kt 0).symm), (fun o => (c_kn o).trans (v_kn o).symm), (by omega), trivial⟩ (fun hHeld => ?_)
  clear hK K
  try simp only [PT]
  refine wpAnyH_done (by kernel_rfl) ?_ _
  refine NoPanic.normal ?_
  go_wp2_with fail
  refine wp_gen fun D1 hV_D1 => ?_
  have n_kt := congrArg (fun v : World => v.heap[tb]?) hV_D1
  simp (maxDischargeDepth := 9) only [BK, not_false_eq_true, reduceCtorEq, kt, kn, l_kt_w, l_kt_V, l_kn_V, l_kt_Vd, l_kn_Vd, l_kt_W, l_kn_W, l_kt_D, l_kn_D] at n_kt
  have n_kn := congrArg (fun v : World => v.heap[w.heap.size]?) hV_D1
  simp (maxDischargeDepth := 9) only [BK, not_false_eq_true, reduceCtorEq, kt, kn, l_kt_w, l_kt_V, l_kn_V, l_kt_Vd, l_kn_Vd, l_kt_W, l_kn_W, l_kt_D, l_kn_D] at n_kn
  have n_F : Fr ((oneX tb)) O O1 w D1 := nF hV_D1
  have n_A : AP D1 ap ((t.s.make n).2.2) O1 := nA hV_D1
  have z_D1 := Nat.le_of_eq (congrArg (fun v : World => v.heap.size) hV_D1).symm
  try simp only [SZ] at z_D1
  clear kt c_kt f_kt
  clear kn c_kn f_kn
  clear hV_D1
  clear hA
  have hA := n_A
  clear n_A
  clear hF
  have hF := n_F
  clear n_F
  have kt := n_kt; clear n_kt
  have c_kt := cells_of kt
  have f_kt := free_of kt
  have l_kt_D1 := lt_of kt
  have kn := n_kn; clear n_kn
  have c_kn := cells_of kn
  have f_kn := free_of kn
  have l_kn_D1 := lt_of kn
  refine wp_region_noPanic ?_
  refine wp_region_held_drew (S := fun v => (∀ o, v.cell? ⟨tb, o, none⟩ = D1.cell? ⟨tb, o, none⟩) ∧ (∀ o, v.cell? ⟨w.heap.size, o, none⟩ = D1.cell? ⟨w.heap.size, o, none⟩) ∧ (D1.heap.size ≤ v.heap.size) ∧ True) (by kernel_rfl) ⟨(fun _ => rfl), (fun _ => rfl), (Nat.le_refl _), trivial⟩ (fun hHeld => ?_)
  generalize hV_D1d : D1.drew = D1d at hHeld ⊢
  have n_kt : D1d.heap[tb]? = D1.heap[tb]? := by rw [← hV_D1d]; rfl
  have d_kt := n_kt.trans kt
  clear n_kt c_kt f_kt
  have n_kn : D1d.heap[w.heap.size]? = D1.heap[w.heap.size]? := by rw [← hV_D1d]; rfl
  have d_kn := n_kn.trans kn
  clear n_kn c_kn f_kn
  have n_A : AP D1d ap ((t.s.make n).2.2) O1 := by rw [← hV_D1d]; exact hA.drew
  clear hA; have hA := n_A; clear n_A
  have n_F : Fr ((oneX tb)) O O1 w D1d := by rw [← hV_D1d]; exact hF.drew
  clear hF; have hF := n_F; clear n_F
  have z_D1d : D1.heap.size ≤ D1d.heap.size := by rw [← hV_D1d]; exact Nat.le_refl _
  have v_kt := cells_of kt
  have v_kn := cells_of kn
  clear kt; have kt := d_kt; clear d_kt
  clear kn; have kn := d_kn; clear d_kn
  have c_kt := cells_of kt
  have f_kt := free_of kt
  have l_kt_D1d := lt_of kt
  have c_kn := cells_of kn
  have f_kn := free_of kn
  have l_kn_D1d := lt_of kn
  clear hV_D1d
  refine ty (i := 0) (v := ?_) rfl hHeld ?_ ?_
  rotate_left
  focus (intro w hSw; go_simp; (try simp only [IntWalk.i64_left]); try (with_reducible rfl))
  try simp only [PT]
  refine ty (i := 1) (v := ?_) rfl hHeld ?_ ?_
  rotate_left
  focus (intro w hSw; go_simp; (try simp only [IntWalk.i64_left]); try (with_reducible rfl))
  try simp only [PT]
  refine ty (i := 2) (v := ?_) rfl hHeld ?_ ?_
  rotate_left
  focus (intro w hSw; go_simp; (try simp only [IntWalk.i64_left]); try (with_reducible rfl))
  try simp only [PT]
  refine ty (i := 3) (v := ?_) rfl hHeld ?_ ?_
  rotate_left
  focus (intro w hSw; go_simp; (try simp only [IntWalk.i64_left]); try (with_reducible rfl))
  try simp only [PT]
  refine ty (i := 4) (v := ?_) rfl hHeld ?_ ?_
  rotate_left
  focus (intro w hSw; go_simp; (try simp only [IntWalk.i64_left]); try (with_reducible rfl))
  try simp only [PT]
  refine ty (i := 5) (v := ?_) rfl hHeld ?_ ?_
  rotate_left
  focus (intro w hSw; go_simp; (try simp only [IntWalk.i64_left]); try (with_reducible rfl))
  try simp only [PT]
  refine ty (i := 6) (v := ?_) rfl hHeld ?_ ?_
  rotate_left
  focus (intro w hSw; go_simp; (try simp only [IntWalk.i64_left]); try (with_reducible rfl))
  try simp only [PT]
  refine wpAnyH_ready (rs := [7]) (by kernel_rfl) (by simp) ?_
  refine ready_at rfl (fun K hK => ?_) AllReadyH.nil
  go_simp
  try simp only [IntWalk.i64_left]
  refine (drop_calls _ _ hA).mono ?_
  rintro e_W2 W2 ⟨rfl, O2, hA_W2, hf_W2⟩
  have q_kt := hf_W2.keep kt o_kt (fun h => h)
  have q_kn := hf_W2.keep kn o_kn (fun h => h)
  replace o_kt := hf_W2.not_own (lt_of kt) o_kt
  clear kt; have kt := q_kt; clear q_kt
  have c_kt := cells_of kt
  have f_kt := free_of kt
  have l_kt_W2 := lt_of kt
  replace o_kn := hf_W2.not_own (lt_of kn) o_kn
  clear kn; have kn := q_kn; clear q_kn
  have c_kn := cells_of kn
  have f_kn := free_of kn
  have l_kn_W2 := lt_of kn
  replace hF := hF.trans hf_W2.widen
  have z_W2 := hf_W2.size
  clear hA hf_W2; have hA := hA_W2; clear hA_W2
  refine hK.out _ _ ⟨(fun o => (c_kt o).trans (v_kt o).symm), (fun o => (c_kn o).trans (v_kn o).symm), (by omega), trivial⟩ (fun hHeld => ?_)
  clear hK K
  try simp only [PT]
  refine wpAnyH_done (by kernel_rfl) ?_ _
  refine NoPanic.normal ?_
  go_wp2_with fail
  refine wp_gen fun D2 hV_D2 => ?_
  have n_kt := congrArg (fun v : World => v.heap[tb]?) hV_D2
  simp (maxDischargeDepth := 9) only [BK, not_false_eq_true, reduceCtorEq, kt, kn, l_kt_w, l_kt_V, l_kn_V, l_kt_Vd, l_kn_Vd, l_kt_W, l_kn_W, l_kt_D, l_kn_D, l_kt_D1, l_kn_D1, l_kt_D1d, l_kn_D1d, l_kt_W2, l_kn_W2] at n_kt
  have n_kn := congrArg (fun v : World => v.heap[w.heap.size]?) hV_D2
  simp (maxDischargeDepth := 9) only [BK, not_false_eq_true, reduceCtorEq, kt, kn, l_kt_w, l_kt_V, l_kn_V, l_kt_Vd, l_kn_Vd, l_kt_W, l_kn_W, l_kt_D, l_kn_D, l_kt_D1, l_kn_D1, l_kt_D1d, l_kn_D1d, l_kt_W2, l_kn_W2] at n_kn
  have n_F : Fr ((oneX tb)) O O2 w D2 := nF hV_D2
  have n_A : AP D2 ap (((t.s.make n).2.2).drop n.k0) O2 := nA hV_D2
  have z_D2 := Nat.le_of_eq (congrArg (fun v : World => v.heap.size) hV_D2).symm
  try simp only [SZ] at z_D2
  clear kt c_kt f_kt
  clear kn c_kn f_kn
  clear hV_D2
  clear hA
  have hA := n_A
  clear n_A
  clear hF
  have hF := n_F
  clear n_F
  have kt := n_kt; clear n_kt
  have c_kt := cells_of kt
  have f_kt := free_of kt
  have l_kt_D2 := lt_of kt
  have kn := n_kn; clear n_kn
  have c_kn := cells_of kn
  have f_kn := free_of kn
  have l_kn_D2 := lt_of kn
  refine wp_region_noPanic ?_
  refine wp_region_held_drew (S := fun v => (∀ o, v.cell? ⟨tb, o, none⟩ = D2.cell? ⟨tb, o, none⟩) ∧ (∀ o, v.cell? ⟨w.heap.size, o, none⟩ = D2.cell? ⟨w.heap.size, o, none⟩) ∧ (D2.heap.size ≤ v.heap.size) ∧ True) (by kernel_rfl) ⟨(fun _ => rfl), (fun _ => rfl), (Nat.le_refl _), trivial⟩ (fun hHeld => ?_)
  generalize hV_D2d : D2.drew = D2d at hHeld ⊢
  have n_kt : D2d.heap[tb]? = D2.heap[tb]? := by rw [← hV_D2d]; rfl
  have d_kt := n_kt.trans kt
  clear n_kt c_kt f_kt
  have n_kn : D2d.heap[w.heap.size]? = D2.heap[w.heap.size]? := by rw [← hV_D2d]; rfl
  have d_kn := n_kn.trans kn
  clear n_kn c_kn f_kn
  have n_A : AP D2d ap (((t.s.make n).2.2).drop n.k0) O2 := by rw [← hV_D2d]; exact hA.drew
  clear hA; have hA := n_A; clear n_A
  have n_F : Fr ((oneX tb)) O O2 w D2d := by rw [← hV_D2d]; exact hF.drew
  clear hF; have hF := n_F; clear n_F
  have z_D2d : D2.heap.size ≤ D2d.heap.size := by rw [← hV_D2d]; exact Nat.le_refl _
  have v_kt := cells_of kt
  have v_kn := cells_of kn
  clear kt; have kt := d_kt; clear d_kt
  clear kn; have kn := d_kn; clear d_kn
  have c_kt := cells_of kt
  have f_kt := free_of kt
  have l_kt_D2d := lt_of kt
  have c_kn := cells_of kn
  have f_kn := free_of kn
  have l_kn_D2d := lt_of kn
  clear hV_D2d
  refine ty (i := 0) (v := ?_) rfl hHeld ?_ ?_
  rotate_left
  focus (intro w hSw; go_simp; (try simp only [IntWalk.i64_left]); try (with_reducible rfl))
  try simp only [PT]
  refine ty (i := 1) (v := ?_) rfl hHeld ?_ ?_
  rotate_left
  focus (intro w hSw; go_simp; (try simp only [IntWalk.i64_left]); try (with_reducible rfl))
  try simp only [PT]
  refine ty (i := 2) (v := ?_) rfl hHeld ?_ ?_
  rotate_left
  focus (intro w hSw; go_simp; (try simp only [IntWalk.i64_left]); try (with_reducible rfl))
  try simp only [PT]
  refine ty (i := 3) (v := ?_) rfl hHeld ?_ ?_
  rotate_left
  focus (intro w hSw; go_simp; (try simp only [IntWalk.i64_left]); try (with_reducible rfl))
  try simp only [PT]
  refine ty (i := 4) (v := ?_) rfl hHeld ?_ ?_
  rotate_left
  focus (intro w hSw; go_simp; (try simp only [IntWalk.i64_left]); try (with_reducible rfl))
  try simp only [PT]
  refine ty (i := 5) (v := ?_) rfl hHeld ?_ ?_
  rotate_left
  focus (intro w hSw; go_simp; (try simp only [IntWalk.i64_left]); try (with_reducible rfl))
  try simp only [PT]
  refine ty (i := 6) (v := ?_) rfl hHeld ?_ ?_
  rotate_left
  focus (intro w hSw; go_simp; (try simp only [IntWalk.i64_left]); try (with_reducible rfl))
  try simp only [PT]
  refine wpAnyH_ready (rs := [7]) (by kernel_rfl) (by simp) ?_
  refine ready_at rfl (fun K hK => ?_) AllReadyH.nil
  go_simp
  try simp only [IntWalk.i64_left]
  refine (drop_calls _ _ hA).mono ?_
  rintro e_W3 W3 ⟨rfl, O3, hA_W3, hf_W3⟩
  have q_kt := hf_W3.keep kt o_kt (fun h => h)
  have q_kn := hf_W3.keep kn o_kn (fun h => h)
  replace o_kt := hf_W3.not_own (lt_of kt) o_kt
  clear kt; have kt := q_kt; clear q_kt
  have c_kt := cells_of kt
  have f_kt := free_of kt
  have l_kt_W3 := lt_of kt
  replace o_kn := hf_W3.not_own (lt_of kn) o_kn
  clear kn; have kn := q_kn; clear q_kn
  have c_kn := cells_of kn
  have f_kn := free_of kn
  have l_kn_W3 := lt_of kn
  replace hF := hF.trans hf_W3.widen
  have z_W3 := hf_W3.size
  clear hA hf_W3; have hA := hA_W3; clear hA_W3
  refine hK.out _ _ ⟨(fun o => (c_kt o).trans (v_kt o).symm), (fun o => (c_kn o).trans (v_kn o).symm), (by omega), trivial⟩ (fun hHeld => ?_)
  clear hK K
  try simp only [PT]
  refine wpAnyH_done (by kernel_rfl) ?_ _
  refine NoPanic.normal ?_
  go_wp2_with fail
  go_ret
  refine ⟨by rw [e1.out]; rfl, ?_⟩
  rw [e1.out]
  exact ⟨O3, ⟨hA, kt, o_kt⟩, hF⟩
 ·
  have d1 : (t.e == 0) = false := by simpa using he
  have e1 : Hid (t.lnode n = (0, ⟨(t.s.drop n.k0).drop n.k1, t.e⟩)) := by
   show _ = _
   unfold Tb.lnode Tb.nodeD; rw [if_neg he]; rfl
  clear he
  unfold Nd.val
  go_enter Tryz.func121, Tryz.ntmps121
  have hA := hT.hA
  have kt := hT.blk
  have o_kt := hT.no
  have c_kt := cells_of kt
  have f_kt := free_of kt
  have l_kt_w := lt_of kt
  go_wp2_with fail
  refine wp_gen fun D1 hV_D1 => ?_
  have n_kt := congrArg (fun v : World => v.heap[tb]?) hV_D1
  simp (maxDischargeDepth := 9) only [BK, not_false_eq_true, reduceCtorEq, kt, l_kt_w] at n_kt
  have n_kn := congrArg (fun v : World => v.heap[w.heap.size]?) hV_D1
  simp (maxDischargeDepth := 9) only [BK, not_false_eq_true, reduceCtorEq, kt, l_kt_w] at n_kn
  have o_kn : ¬ O (w.heap.size) := by first | exact hA.new (Nat.le_refl _) | exact hA.new (by omega)
  have n_F : Fr ((oneX tb)) O O w D1 := nF hV_D1
  have n_A : AP D1 ap t.s O := nA hV_D1
  have z_D1 := Nat.le_of_eq (congrArg (fun v : World => v.heap.size) hV_D1).symm
  try simp only [SZ] at z_D1
  clear kt c_kt f_kt
  clear hV_D1
  clear hA
  have hA := n_A
  clear n_A
  skip
  have hF := n_F
  clear n_F
  have kt := n_kt; clear n_kt
  have c_kt := cells_of kt
  have f_kt := free_of kt
  have l_kt_D1 := lt_of kt
  have kn := n_kn; clear n_kn
  have c_kn := cells_of kn
  have f_kn := free_of kn
  have l_kn_D1 := lt_of kn
  refine wp_region_noPanic ?_
  refine wp_region_held_drew (S := fun v => (∀ o, v.cell? ⟨tb, o, none⟩ = D1.cell? ⟨tb, o, none⟩) ∧ (∀ o, v.cell? ⟨w.heap.size, o, none⟩ = D1.cell? ⟨w.heap.size, o, none⟩) ∧ (D1.heap.size ≤ v.heap.size) ∧ True) (by kernel_rfl) ⟨(fun _ => rfl), (fun _ => rfl), (Nat.le_refl _), trivial⟩ (fun hHeld => ?_)
  generalize hV_D1d : D1.drew = D1d at hHeld ⊢
  have n_kt : D1d.heap[tb]? = D1.heap[tb]? := by rw [← hV_D1d]; rfl
  have d_kt := n_kt.trans kt
  clear n_kt c_kt f_kt
  have n_kn : D1d.heap[w.heap.size]? = D1.heap[w.heap.size]? := by rw [← hV_D1d]; rfl
  have d_kn := n_kn.trans kn
  clear n_kn c_kn f_kn
  have n_A : AP D1d ap t.s O := by rw [← hV_D1d]; exact hA.drew
  clear hA; have hA := n_A; clear n_A
  have n_F : Fr ((oneX tb)) O O w D1d := by rw [← hV_D1d]; exact hF.drew
  clear hF; have hF := n_F; clear n_F
  have z_D1d : D1.heap.size ≤ D1d.heap.size := by rw [← hV_D1d]; exact Nat.le_refl _
  have v_kt := cells_of kt
  have v_kn := cells_of kn
  clear kt; have kt := d_kt; clear d_kt
  clear kn; have kn := d_kn; clear d_kn
  have c_kt := cells_of kt
  have f_kt := free_of kt
  have l_kt_D1d := lt_of kt
  have c_kn := cells_of kn
  have f_kn := free_of kn
  have l_kn_D1d := lt_of kn
  clear hV_D1d
  refine ty (i := 0) (v := ?_) rfl hHeld ?_ ?_
  rotate_left
  focus (intro w hSw; go_simp; (try simp only [IntWalk.i64_left]); try (with_reducible rfl))
  try simp only [PT]
  refine ty (i := 1) (v := ?_) rfl hHeld ?_ ?_
  rotate_left
  focus (intro w hSw; go_simp; (try simp only [IntWalk.i64_left]); try (with_reducible rfl))
  try simp only [PT]
  refine ty (i := 2) (v := ?_) rfl hHeld ?_ ?_
  rotate_left
  focus (intro w hSw; go_simp; (try simp only [IntWalk.i64_left]); try (with_reducible rfl))
  try simp only [PT]
  refine ty (i := 3) (v := ?_) rfl hHeld ?_ ?_
  rotate_left
  focus (intro w hSw; go_simp; (try simp only [IntWalk.i64_left]); try (with_reducible rfl))
  try simp only [PT]
  refine ty (i := 4) (v := ?_) rfl hHeld ?_ ?_
  rotate_left
  focus (intro w hSw; go_simp; (try simp only [IntWalk.i64_left]); try (with_reducible rfl))
  try simp only [PT]
  refine ty (i := 5) (v := ?_) rfl hHeld ?_ ?_
  rotate_left
  focus (intro w hSw; go_simp; (try simp only [IntWalk.i64_left]); try (with_reducible rfl))
  try simp only [PT]
  refine ty (i := 6) (v := ?_) rfl hHeld ?_ ?_
  rotate_left
  focus (intro w hSw; go_simp; (try simp only [IntWalk.i64_left]); try (with_reducible rfl))
  try simp only [PT]
  refine wpAnyH_ready (rs := [7]) (by kernel_rfl) (by simp) ?_
  refine ready_at rfl (fun K hK => ?_) AllReadyH.nil
  go_simp
  try simp only [IntWalk.i64_left]
  refine (drop_calls _ _ hA).mono ?_
  rintro e_W2 W2 ⟨rfl, O2, hA_W2, hf_W2⟩
  have q_kt := hf_W2.keep kt o_kt (fun h => h)
  have q_kn := hf_W2.keep kn o_kn (fun h => h)
  replace o_kt := hf_W2.not_own (lt_of kt) o_kt
  clear kt; have kt := q_kt; clear q_kt
  have c_kt := cells_of kt
  have f_kt := free_of kt
  have l_kt_W2 := lt_of kt
  replace o_kn := hf_W2.not_own (lt_of kn) o_kn
  clear kn; have kn := q_kn; clear q_kn
  have c_kn := cells_of kn
  have f_kn := free_of kn
  have l_kn_W2 := lt_of kn
  replace hF := hF.trans hf_W2.widen
  have z_W2 := hf_W2.size
  clear hA hf_W2; have hA := hA_W2; clear hA_W2
  refine hK.out _ _ ⟨(fun o => (c_kt o).trans (v_kt o).symm), (fun o => (c_kn o).trans (v_kn o).symm), (by omega), trivial⟩ (fun hHeld => ?_)
  clear hK K
  try simp only [PT]
  refine wpAnyH_done (by kernel_rfl) ?_ _
  refine NoPanic.normal ?_
  go_wp2_with fail
  refine wp_gen fun D2 hV_D2 => ?_
  have n_kt := congrArg (fun v : World => v.heap[tb]?) hV_D2
  simp (maxDischargeDepth := 9) only [BK, not_false_eq_true, reduceCtorEq, kt, kn, l_kt_w, l_kt_D1, l_kn_D1, l_kt_D1d, l_kn_D1d, l_kt_W2, l_kn_W2] at n_kt
  have n_kn := congrArg (fun v : World => v.heap[w.heap.size]?) hV_D2
  simp (maxDischargeDepth := 9) only [BK, not_false_eq_true, reduceCtorEq, kt, kn, l_kt_w, l_kt_D1, l_kn_D1, l_kt_D1d, l_kn_D1d, l_kt_W2, l_kn_W2] at n_kn
  have n_F : Fr ((oneX tb)) O O2 w D2 := nF hV_D2
  have n_A : AP D2 ap (t.s.drop n.k0) O2 := nA hV_D2
  have z_D2 := Nat.le_of_eq (congrArg (fun v : World => v.heap.size) hV_D2).symm
  try simp only [SZ] at z_D2
  clear kt c_kt f_kt
  clear kn c_kn f_kn
  clear hV_D2
  clear hA
  have hA := n_A
  clear n_A
  clear hF
  have hF := n_F
  clear n_F
  have kt := n_kt; clear n_kt
  have c_kt := cells_of kt
  have f_kt := free_of kt
  have l_kt_D2 := lt_of kt
  have kn := n_kn; clear n_kn
  have c_kn := cells_of kn
  have f_kn := free_of kn
  have l_kn_D2 := lt_of kn
  refine wp_region_noPanic ?_
  refine wp_region_held_drew (S := fun v => (∀ o, v.cell? ⟨tb, o, none⟩ = D2.cell? ⟨tb, o, none⟩) ∧ (∀ o, v.cell? ⟨w.heap.size, o, none⟩ = D2.cell? ⟨w.heap.size, o, none⟩) ∧ (D2.heap.size ≤ v.heap.size) ∧ True) (by kernel_rfl) ⟨(fun _ => rfl), (fun _ => rfl), (Nat.le_refl _), trivial⟩ (fun hHeld => ?_)
  generalize hV_D2d : D2.drew = D2d at hHeld ⊢
  have n_kt : D2d.heap[tb]? = D2.heap[tb]? := by rw [← hV_D2d]; rfl
  have d_kt := n_kt.trans kt
  clear n_kt c_kt f_kt
  have n_kn : D2d.heap[w.heap.size]? = D2.heap[w.heap.size]? := by rw [← hV_D2d]; rfl
  have d_kn := n_kn.trans kn
  clear n_kn c_kn f_kn
  have n_A : AP D2d ap (t.s.drop n.k0) O2 := by rw [← hV_D2d]; exact hA.drew
  clear hA; have hA := n_A; clear n_A
  have n_F : Fr ((oneX tb)) O O2 w D2d := by rw [← hV_D2d]; exact hF.drew
  clear hF; have hF := n_F; clear n_F
  have z_D2d : D2.heap.size ≤ D2d.heap.size := by rw [← hV_D2d]; exact Nat.le_refl _
  have v_kt := cells_of kt
  have v_kn := cells_of kn
  clear kt; have kt := d_kt; clear d_kt
  clear kn; have kn := d_kn; clear d_kn
  have c_kt := cells_of kt
  have f_kt := free_of kt
  have l_kt_D2d := lt_of kt
  have c_kn := cells_of kn
  have f_kn := free_of kn
  have l_kn_D2d := lt_of kn
  clear hV_D2d
  refine ty (i := 0) (v := ?_) rfl hHeld ?_ ?_
  rotate_left
  focus (intro w hSw; go_simp; (try simp only [IntWalk.i64_left]); try (with_reducible rfl))
  try simp only [PT]
  refine ty (i := 1) (v := ?_) rfl hHeld ?_ ?_
  rotate_left
  focus (intro w hSw; go_simp; (try simp only [IntWalk.i64_left]); try (with_reducible rfl))
  try simp only [PT]
  refine ty (i := 2) (v := ?_) rfl hHeld ?_ ?_
  rotate_left
  focus (intro w hSw; go_simp; (try simp only [IntWalk.i64_left]); try (with_reducible rfl))
  try simp only [PT]
  refine ty (i := 3) (v := ?_) rfl hHeld ?_ ?_
  rotate_left
  focus (intro w hSw; go_simp; (try simp only [IntWalk.i64_left]); try (with_reducible rfl))
  try simp only [PT]
  refine ty (i := 4) (v := ?_) rfl hHeld ?_ ?_
  rotate_left
  focus (intro w hSw; go_simp; (try simp only [IntWalk.i64_left]); try (with_reducible rfl))
  try simp only [PT]
  refine ty (i := 5) (v := ?_) rfl hHeld ?_ ?_
  rotate_left
  focus (intro w hSw; go_simp; (try simp only [IntWalk.i64_left]); try (with_reducible rfl))
  try simp only [PT]
  refine ty (i := 6) (v := ?_) rfl hHeld ?_ ?_
  rotate_left
  focus (intro w hSw; go_simp; (try simp only [IntWalk.i64_left]); try (with_reducible rfl))
  try simp only [PT]
  refine wpAnyH_ready (rs := [7]) (by kernel_rfl) (by simp) ?_
  refine ready_at rfl (fun K hK => ?_) AllReadyH.nil
  go_simp
  try simp only [IntWalk.i64_left]
  refine (drop_calls _ _ hA).mono ?_
  rintro e_W3 W3 ⟨rfl, O3, hA_W3, hf_W3⟩
  have q_kt := hf_W3.keep kt o_kt (fun h => h)
  have q_kn := hf_W3.keep kn o_kn (fun h => h)
  replace o_kt := hf_W3.not_own (lt_of kt) o_kt
  clear kt; have kt := q_kt; clear q_kt
  have c_kt := cells_of kt
  have f_kt := free_of kt
  have l_kt_W3 := lt_of kt
  replace o_kn := hf_W3.not_own (lt_of kn) o_kn
  clear kn; have kn := q_kn; clear q_kn
  have c_kn := cells_of kn
  have f_kn := free_of kn
  have l_kn_W3 := lt_of kn
  replace hF := hF.trans hf_W3.widen
  have z_W3 := hf_W3.size
  clear hA hf_W3; have hA := hA_W3; clear hA_W3
  refine hK.out _ _ ⟨(fun o => (c_kt o).trans (v_kt o).symm), (fun o => (c_kn o).trans (v_kn o).symm), (by omega), trivial⟩ (fun hHeld => ?_)
  clear hK K
  try simp only [PT]
  refine wpAnyH_done (by kernel_rfl) ?_ _
  refine NoPanic.normal ?_
  go_wp2_with fail
  go_ret
  refine ⟨by rw [e1.out]; rfl, ?_⟩
  rw [e1.out]
  exact ⟨O3, ⟨hA, kt, o_kt⟩, hF⟩
set_option maxRecDepth 100000 in
set_option maxHeartbeats 800000 in
theorem lItem_calls (x : Int × Int) (w : World) (hT : LB w tb ap t O) :
  Calls Tryz.prog 89 #[.pointer (some ⟨tb, 0, none⟩), .agg #[.int .i64 x.1, .int .i64 x.2]] w fun e w' => e = .returned (.int .i64 (t.item x).1) ∧ DidL tb ap (t.item x).2 O w w' := by
 go_enter Tryz.func89, Tryz.ntmps89
 have hA := hT.hA
 have kt := hT.blk
 have o_kt := hT.no
 have c_kt := cells_of kt
 have f_kt := free_of kt
 have l_kt_w := lt_of kt
 go_wp2_with fail
 refine calls_gen fun D1 hV_D1 => ?_
 have n_kt := congrArg (fun v : World => v.heap[tb]?) hV_D1
 simp (maxDischargeDepth := 9) only [BK, not_false_eq_true, reduceCtorEq, kt, l_kt_w] at n_kt
 have n_kn := congrArg (fun v : World => v.heap[w.heap.size]?) hV_D1
 simp (maxDischargeDepth := 9) only [BK, not_false_eq_true, reduceCtorEq, kt, l_kt_w] at n_kn
 have o_kn : ¬ O (w.heap.size) := by first | exact hA.new (Nat.le_refl _) | exact hA.new (by omega)
 have n_F : Fr ((oneX tb)) O O w D1 := nF hV_D1
 have n_A : AP D1 ap t.s O := nA hV_D1
 have z_D1 := Nat.le_of_eq (congrArg (fun v : World => v.heap.size) hV_D1).symm
 try simp only [SZ] at z_D1
 clear kt c_kt f_kt
 clear hV_D1
 clear hA
 have hA := n_A
 clear n_A
 skip
 have hF := n_F
 clear n_F
 have kt := n_kt; clear n_kt
 have c_kt := cells_of kt
 have f_kt := free_of kt
 have l_kt_D1 := lt_of kt
 have kn := n_kn; clear n_kn
 have c_kn := cells_of kn
 have f_kn := free_of kn
 have l_kn_D1 := lt_of kn
 refine (lNode_calls ⟨4, 0, 0, 0, 0, u64 x.1, u64 x.2⟩ (U64.u64 _) _ ⟨hA, kt, o_kt⟩).mono ?_
 rintro e_W2 W2 ⟨rfl, O2, hT_W2, hf_W2⟩
 have q_kn := hf_W2.keep kn o_kn (by unfold oneX; omega)
 replace o_kn := hf_W2.not_own (lt_of kn) o_kn
 clear kn; have kn := q_kn; clear q_kn
 have c_kn := cells_of kn
 have f_kn := free_of kn
 have l_kn_W2 := lt_of kn
 clear kt c_kt f_kt o_kt; have kt := hT_W2.blk; have o_kt := hT_W2.no
 have c_kt := cells_of kt
 have f_kt := free_of kt
 have l_kt_W2 := lt_of kt
 replace hF := hF.trans hf_W2
 have z_W2 := hf_W2.size
 clear hA hf_W2; have hA := hT_W2.hA; clear hT_W2
 go_wp2_with fail
 go_ret
 exact ⟨rfl, O2, ⟨hA, kt, o_kt⟩, hF⟩
set_option maxRecDepth 100000 in
set_option maxHeartbeats 800000 in
theorem lPair_calls (x y : Int) (w : World) (hT : LB w tb ap t O) :
  Calls Tryz.prog 124 #[.pointer (some ⟨tb, 0, none⟩), .int .i64 x, .int .i64 y] w fun e w' => e = .returned (.int .i64 (t.lpair x y).1) ∧ DidL tb ap (t.lpair x y).2 O w w' := by
 have hu : U64 (u64 (wrap64 (lLen t.s x + lLen t.s y))) := U64.u64 _
 go_enter Tryz.func124, Tryz.ntmps124
 have hA := hT.hA
 have kt := hT.blk
 have o_kt := hT.no
 have c_kt := cells_of kt
 have f_kt := free_of kt
 have l_kt_w := lt_of kt
 go_wp2_with fail
 refine wp_gen fun V hV_V => ?_
 have n_kt := congrArg (fun v : World => v.heap[tb]?) hV_V
 simp (maxDischargeDepth := 9) only [BK, not_false_eq_true, reduceCtorEq, kt, l_kt_w] at n_kt
 have n_F : Fr ((oneX tb)) O O w V := nF hV_V
 have n_A : AP V ap t.s O := nA hV_V
 have z_V := Nat.le_of_eq (congrArg (fun v : World => v.heap.size) hV_V).symm
 try simp only [SZ] at z_V
 clear kt c_kt f_kt
 clear hV_V
 clear hA
 have hA := n_A
 clear n_A
 skip
 have hF := n_F
 clear n_F
 have kt := n_kt; clear n_kt
 have c_kt := cells_of kt
 have f_kt := free_of kt
 have l_kt_V := lt_of kt
 refine wp_region_noPanic ?_
 refine wp_region_held_drew (S := fun v => (v.cell? ⟨tb, 0, none⟩ = V.cell? ⟨tb, 0, none⟩) ∧ (V.heap.size ≤ v.heap.size) ∧ True) (by kernel_rfl) ⟨rfl, (Nat.le_refl _), trivial⟩ (fun hHeld => ?_)
 generalize hV_Vd : V.drew = Vd at hHeld ⊢
 have n_kt : Vd.heap[tb]? = V.heap[tb]? := by rw [← hV_Vd]; rfl
 have d_kt := n_kt.trans kt
 clear n_kt c_kt f_kt
 have n_A : AP Vd ap t.s O := by rw [← hV_Vd]; exact hA.drew
 clear hA; have hA := n_A; clear n_A
 have n_F : Fr ((oneX tb)) O O w Vd := by rw [← hV_Vd]; exact hF.drew
 clear hF; have hF := n_F; clear n_F
 have z_Vd : V.heap.size ≤ Vd.heap.size := by rw [← hV_Vd]; exact Nat.le_refl _
 have v_kt := cells_of kt
 clear kt; have kt := d_kt; clear d_kt
 have c_kt := cells_of kt
 have f_kt := free_of kt
 have l_kt_Vd := lt_of kt
 clear hV_Vd
 refine ty (i := 0) (v := ?_) rfl hHeld ?_ ?_
 rotate_left
 focus (intro w hSw; go_simp; (try simp only [IntWalk.i64_left]); try (with_reducible rfl))
 try simp only [PT]
 refine ty (i := 1) (v := ?_) rfl hHeld ?_ ?_
 rotate_left
 focus (intro w hSw; go_simp; (try simp only [IntWalk.i64_left]); try (with_reducible rfl))
 try simp only [PT]
 refine ty (i := 2) (v := ?_) rfl hHeld ?_ ?_
 rotate_left
 focus (intro w hSw; go_simp; (try simp only [IntWalk.i64_left]); try (with_reducible rfl))
 try simp only [PT]
 refine ty (i := 3) (v := ?_) rfl hHeld ?_ ?_
 rotate_left
 focus (intro w hSw; go_simp; (try simp only [IntWalk.i64_left]); try (with_reducible rfl))
 try simp only [PT]
 refine ty (i := 4) (v := ?_) rfl hHeld ?_ ?_
 rotate_left
 focus (intro w hSw; go_simp; (try simp only [IntWalk.i64_left]); try (with_reducible rfl))
 try simp only [PT]
 refine ty (i := 5) (v := ?_) rfl hHeld ?_ ?_
 rotate_left
 focus (intro w hSw; go_simp; (try simp only [IntWalk.i64_left]); try (with_reducible rfl))
 try simp only [PT]
 refine ty (i := 6) (v := ?_) rfl hHeld ?_ ?_
 rotate_left
 focus (intro w hSw; go_simp; (try simp only [IntWalk.i64_left]); try (with_reducible rfl))
 try simp only [PT]
 refine ty (i := 7) (v := ?_) rfl hHeld ?_ ?_
 rotate_left
 focus (intro w hSw; go_simp; (try simp only [IntWalk.i64_left]); try (with_reducible rfl))
 try simp only [PT]
 refine ty (i := 8) (v := ?_) rfl hHeld ?_ ?_
 rotate_left
 focus (intro w hSw; go_simp; (try simp only [IntWalk.i64_left]); try (with_reducible rfl))
 try simp only [PT]
 refine ty (i := 10) (v := ?_) rfl hHeld ?_ ?_
 rotate_left
 focus (intro w hSw; go_simp; (try simp only [IntWalk.i64_left]); try (with_reducible rfl))
 try simp only [PT]
 refine ty (i := 11) (v := ?_) rfl hHeld ?_ ?_
 rotate_left
 focus (intro w hSw; go_simp; (try simp only [IntWalk.i64_left]); try (with_reducible rfl))
 try simp only [PT]
 refine ty (i := 12) (v := ?_) rfl hHeld ?_ ?_
 rotate_left
 focus (intro w hSw; go_simp; (try simp only [IntWalk.i64_left]); try (with_reducible rfl))
 try simp only [PT]
 refine ty (i := 13) (v := ?_) rfl hHeld ?_ ?_
 rotate_left
 focus (intro w hSw; go_simp; (try simp only [IntWalk.i64_left]); try (with_reducible rfl))
 try simp only [PT]
 refine ty (i := 14) (v := ?_) rfl hHeld ?_ ?_
 rotate_left
 focus (intro w hSw; go_simp; (try simp only [IntWalk.i64_left]); try (with_reducible rfl))
 try simp only [PT]
 refine wpAnyH_ready (rs := [9]) (by kernel_rfl) (by simp) ?_
 refine ready_at rfl (fun K hK => ?_) AllReadyH.nil
 go_simp
 try simp only [IntWalk.i64_left]
 refine (lLen_calls _ _ hA).mono ?_
 rintro e_W1 W1 ⟨rfl, hb_W1⟩
 replace hA := hA.below hb_W1
 replace hF := hF.below hb_W1
 replace kt := keep_blk hb_W1 kt
 have c_kt := cells_of kt
 have f_kt := free_of kt
 have l_kt_W1 := lt_of kt
 have z_W1 := hb_W1.size
 clear hb_W1
 refine hK.out _ _ ⟨((c_kt 0).trans (v_kt 0).symm), (by omega), trivial⟩ (fun hHeld => ?_)
 clear hK K
 try simp only [PT]
 refine wpAnyH_ready (rs := [15]) (by kernel_rfl) (by simp) ?_
 refine ready_at rfl (fun K hK => ?_) AllReadyH.nil
 go_simp
 try simp only [IntWalk.i64_left]
 refine (lLen_calls _ _ hA).mono ?_
 rintro e_W2 W2 ⟨rfl, hb_W2⟩
 replace hA := hA.below hb_W2
 replace hF := hF.below hb_W2
 replace kt := keep_blk hb_W2 kt
 have c_kt := cells_of kt
 have f_kt := free_of kt
 have l_kt_W2 := lt_of kt
 have z_W2 := hb_W2.size
 clear hb_W2
 refine hK.out _ _ ⟨((c_kt 0).trans (v_kt 0).symm), (by omega), trivial⟩ (fun hHeld => ?_)
 clear hK K
 try simp only [PT]
 refine ty (i := 16) (v := ?_) rfl hHeld ?_ ?_
 rotate_left
 focus (intro w hSw; go_simp; (try simp only [IntWalk.i64_left]); try (with_reducible rfl))
 try simp only [PT]
 refine ty (i := 17) (v := ?_) rfl hHeld ?_ ?_
 rotate_left
 focus (intro w hSw; go_simp; (try simp only [IntWalk.i64_left]); try (with_reducible rfl))
 try simp only [PT]
 refine ty (i := 18) (v := ?_) rfl hHeld ?_ ?_
 rotate_left
 focus (intro w hSw; go_simp; (try simp only [IntWalk.i64_left]); try (with_reducible rfl))
 try simp only [PT]
 refine wpAnyH_ready (rs := [19]) (by kernel_rfl) (by simp) ?_
 refine ready_at rfl (fun K hK => ?_) AllReadyH.nil
 go_simp
 try simp only [IntWalk.i64_left]
 refine (lNode_calls ⟨5, x, y, 0, 0, u64 (wrap64 (lLen t.s x + lLen t.s y)), 0⟩ hu _ ⟨hA, kt, o_kt⟩).mono ?_
 rintro e_W5 W5 ⟨rfl, O2, hT_W5, hf_W5⟩
 clear kt c_kt f_kt o_kt; have kt := hT_W5.blk; have o_kt := hT_W5.no
 have c_kt := cells_of kt
 have f_kt := free_of kt
 have l_kt_W5 := lt_of kt
 replace hF := hF.trans hf_W5
 have z_W5 := hf_W5.size
 clear hA hf_W5; have hA := hT_W5.hA; clear hT_W5
 refine hK.out _ _ ⟨((c_kt 0).trans (v_kt 0).symm), (by omega), trivial⟩ (fun hHeld => ?_)
 clear hK K
 try simp only [PT]
 refine wpAnyH_ready (rs := [20]) (by kernel_rfl) (by simp) ?_
 refine ready_at rfl (fun K hK => ?_) AllReadyH.nil
 go_simp
 refine hK.out _ _ hHeld (fun hHeld => ?_)
 clear hK K
 try simp only [PT]
 refine wpAnyH_done (by kernel_rfl) ?_ _
 refine NoPanic.normal ?_
 go_wp2_with fail
 go_ret
 exact ⟨rfl, O2, ⟨hA, kt, o_kt⟩, hF⟩
set_option maxRecDepth 100000 in
set_option maxHeartbeats 800000 in
theorem lTold_calls (h : Int) (w : World) (hT : LB w tb ap t O) :
  Calls Tryz.prog 86 #[.pointer (some ⟨tb, 0, none⟩), .int .i64 h] w fun e w' => e = .returned (.tuple #[.int .i64 (Tb.told (h, t)).1, .int .i64 (Tb.told (h, t)).2.1]) ∧ DidL tb ap t O w w' := by
 by_cases he : t.e = 0
 ·
  have d1 : (t.e != 0) = false := by simp [he]
  have e1 : Hid (Tb.told (h, t) = (h, 0, t.s)) := by show _ = _; unfold Tb.told; rw [if_pos he]
  clear he
  go_enter Tryz.func86, Tryz.ntmps86
  have hA := hT.hA
  have kt := hT.blk
  have o_kt := hT.no
  have c_kt := cells_of kt
  have f_kt := free_of kt
  have l_kt_w := lt_of kt
  go_wp2_with fail
  go_ret2
  rw [e1.out]
  exact ⟨rfl, O, hT, Fr.refl _ _ _⟩
 ·
  have d1 : (t.e != 0) = true := by simp [he]
  have e1 : Hid (Tb.told (h, t) = (0, t.e, t.s)) := by show _ = _; unfold Tb.told; rw [if_neg he]
  clear he
  go_enter Tryz.func86, Tryz.ntmps86
  have hA := hT.hA
  have kt := hT.blk
  have o_kt := hT.no
  have c_kt := cells_of kt
  have f_kt := free_of kt
  have l_kt_w := lt_of kt
  go_wp2_with fail
  refine wp_gen fun V hV_V => ?_
  have n_kt := congrArg (fun v : World => v.heap[tb]?) hV_V
  simp (maxDischargeDepth := 9) only [BK, not_false_eq_true, reduceCtorEq, kt, l_kt_w] at n_kt
  have n_F : Fr ((oneX tb)) O O w V := nF hV_V
  have n_A : AP V ap t.s O := nA hV_V
  have z_V := Nat.le_of_eq (congrArg (fun v : World => v.heap.size) hV_V).symm
  try simp only [SZ] at z_V
  clear kt c_kt f_kt
  clear hV_V
  clear hA
  have hA := n_A
  clear n_A
  skip
  have hF := n_F
  clear n_F
  have kt := n_kt; clear n_kt
  have c_kt := cells_of kt
  have f_kt := free_of kt
  have l_kt_V := lt_of kt
  refine wp_region_noPanic ?_
  refine wp_region_held_drew (S := fun v => (∀ o, v.cell? ⟨tb, o, none⟩ = V.cell? ⟨tb, o, none⟩) ∧ (V.heap.size ≤ v.heap.size) ∧ AP v ap t.s O) (by kernel_rfl) ⟨(fun _ => rfl), (Nat.le_refl _), hA.drew⟩ (fun hHeld => ?_)
  generalize hV_Vd : V.drew = Vd at hHeld ⊢
  have n_kt : Vd.heap[tb]? = V.heap[tb]? := by rw [← hV_Vd]; rfl
  have d_kt := n_kt.trans kt
  clear n_kt c_kt f_kt
  have n_A : AP Vd ap t.s O := by rw [← hV_Vd]; exact hA.drew
  clear hA; have hA := n_A; clear n_A
  have n_F : Fr ((oneX tb)) O O w Vd := by rw [← hV_Vd]; exact hF.drew
  clear hF; have hF := n_F; clear n_F
  have z_Vd : V.heap.size ≤ Vd.heap.size := by rw [← hV_Vd]; exact Nat.le_refl _
  have v_kt := cells_of kt
  clear kt; have kt := d_kt; clear d_kt
  have c_kt := cells_of kt
  have f_kt := free_of kt
  have l_kt_Vd := lt_of kt
  clear hV_Vd
  refine ty (i := 0) (v := ?_) rfl hHeld ?_ ?_
  rotate_left
  focus (intro w hSw; go_simp; (try simp only [IntWalk.i64_left]); try (with_reducible rfl))
  try simp only [PT]
  refine ty (i := 1) (v := ?_) rfl hHeld ?_ ?_
  rotate_left
  focus (intro w hSw; go_simp; (try simp only [IntWalk.i64_left]); try (with_reducible rfl))
  try simp only [PT]
  refine ty (i := 2) (v := ?_) rfl hHeld ?_ ?_
  rotate_left
  focus (intro w hSw; go_simp; (try simp only [IntWalk.i64_left]); try (with_reducible rfl))
  try simp only [PT]
  refine ty (i := 3) (v := ?_) rfl hHeld ?_ ?_
  rotate_left
  focus (intro w hSw; go_simp; (try simp only [IntWalk.i64_left]); try (with_reducible rfl))
  try simp only [PT]
  refine wpAnyH_ready (rs := [4]) (by kernel_rfl) (by simp) ?_
  refine ready_at rfl (fun K hK => ?_) AllReadyH.nil
  go_simp
  refine hK.out _ _ hHeld (fun hHeld => ?_)
  clear hK K
  try simp only [PT]
  refine wpAnyH_ready (rs := [5]) (by kernel_rfl) (by simp) ?_
  refine ready_at rfl (fun K hK => ?_) AllReadyH.nil
  go_simp
  refine hK.out _ _ hHeld (fun hHeld => ?_)
  clear hK K
  try simp only [PT]
  refine wpAnyH_done (by kernel_rfl) ?_ _
  refine NoPanic.normal ?_
  go_wp2_with fail
  go_ret2
  rw [e1.out]
  exact ⟨rfl, O, ⟨hA, kt, o_kt⟩, hF⟩
set_option maxRecDepth 100000 in
set_option maxHeartbeats 800000 in
theorem lHigh_calls : ∀ (k : Nat) (h r : Int) (w : World), lHigh k t.s h = some r → LB w tb ap t O →
  Calls Tryz.prog 122 #[.pointer (some ⟨tb, 0, none⟩), .int .i64 h] w fun e w' => e = .returned (.int .i64 r) ∧ Below w.heap.size w w'
 | 0, h, r, w, hr, hT => by cases hr
 | k + 1, h, r, w, hr, hT => by
  have ih := Lib.hid (lHigh_calls k)
  unfold lHigh at hr
  cases h1 : lIs t.s h with
  | false =>
   rw [h1, if_neg (by decide)] at hr
   cases hr
   go_enter Tryz.func122, Tryz.ntmps122
   have hA := hT.hA
   have kt := hT.blk
   have o_kt := hT.no
   have c_kt := cells_of kt
   have f_kt := free_of kt
   have l_kt_w := lt_of kt
   go_wp2_with fail
   refine calls_gen fun V hV_V => ?_
   have n_kt := congrArg (fun v : World => v.heap[tb]?) hV_V
   simp (maxDischargeDepth := 9) only [BK, not_false_eq_true, reduceCtorEq, kt, l_kt_w] at n_kt
   have n_B : Below w.heap.size w V := nB hV_V
   have n_A : AP V ap t.s O := nA hV_V
   have z_V := Nat.le_of_eq (congrArg (fun v : World => v.heap.size) hV_V).symm
   try simp only [SZ] at z_V
   clear kt c_kt f_kt
   clear hV_V
   clear hA
   have hA := n_A
   clear n_A
   skip
   have hB := n_B
   clear n_B
   have kt := n_kt; clear n_kt
   have c_kt := cells_of kt
   have f_kt := free_of kt
   have l_kt_V := lt_of kt
   refine (lRow_calls _ _ hA).mono ?_
   rintro e_W1 W1 ⟨rfl, hb_W1⟩
   replace hA := hA.below hb_W1
   replace hB := below_step hB hb_W1
   replace kt := keep_blk hb_W1 kt
   have c_kt := cells_of kt
   have f_kt := free_of kt
   have l_kt_W1 := lt_of kt
   have z_W1 := hb_W1.size
   clear hb_W1
   unfold Nd.val
   go_wp2_with fail
   go_ret
   exact ⟨rfl, by (repeat' first | with_reducible assumption | with_reducible exact Below.refl _ _ | with_reducible refine Below.alloc ?_ ?_ _ | with_reducible refine Below.setCell ?_ ?_ _ | with_reducible refine below_drewN ?_ _ | with_reducible refine Below.drew ?_ | exact Nat.le_refl _ | ((try dsimp only); omega) | (simp only [siz_alloc, siz_set]; omega))⟩
  | true =>
   rw [h1, if_pos rfl] at hr
   by_cases h2 : (t.s.get h).tag = 4
   ·
    have d1 : ((t.s.get h).tag == 4) = true := by simpa using h2
    rw [if_pos h2] at hr
    cases hr
    clear h2
    go_enter Tryz.func122, Tryz.ntmps122
    have hA := hT.hA
    have kt := hT.blk
    have o_kt := hT.no
    have c_kt := cells_of kt
    have f_kt := free_of kt
    have l_kt_w := lt_of kt
    go_wp2_with fail
    refine calls_gen fun V hV_V => ?_
    have n_kt := congrArg (fun v : World => v.heap[tb]?) hV_V
    simp (maxDischargeDepth := 9) only [BK, not_false_eq_true, reduceCtorEq, kt, l_kt_w] at n_kt
    have n_B : Below w.heap.size w V := nB hV_V
    have n_A : AP V ap t.s O := nA hV_V
    have z_V := Nat.le_of_eq (congrArg (fun v : World => v.heap.size) hV_V).symm
    try simp only [SZ] at z_V
    clear kt c_kt f_kt
    clear hV_V
    clear hA
    have hA := n_A
    clear n_A
    skip
    have hB := n_B
    clear n_B
    have kt := n_kt; clear n_kt
    have c_kt := cells_of kt
    have f_kt := free_of kt
    have l_kt_V := lt_of kt
    refine (lRow_calls _ _ hA).mono ?_
    rintro e_W1 W1 ⟨rfl, hb_W1⟩
    replace hA := hA.below hb_W1
    replace hB := below_step hB hb_W1
    replace kt := keep_blk hb_W1 kt
    have c_kt := cells_of kt
    have f_kt := free_of kt
    have l_kt_W1 := lt_of kt
    have z_W1 := hb_W1.size
    clear hb_W1
    unfold Nd.val
    go_wp2_with fail
    go_ret
    exact ⟨rfl, by (repeat' first | with_reducible assumption | with_reducible exact Below.refl _ _ | with_reducible refine Below.alloc ?_ ?_ _ | with_reducible refine Below.setCell ?_ ?_ _ | with_reducible refine below_drewN ?_ _ | with_reducible refine Below.drew ?_ | exact Nat.le_refl _ | ((try dsimp only); omega) | (simp only [siz_alloc, siz_set]; omega))⟩
   ·
    have d1 : ((t.s.get h).tag == 4) = false := by simpa using h2
    rw [if_neg h2] at hr
    clear h2
    obtain ⟨p, hp, hr⟩ := Option.bind_eq_some_iff.1 hr
    obtain ⟨q, hq, hr⟩ := Option.bind_eq_some_iff.1 hr
    have hr := Option.some.inj hr
    have Hp := Lib.hid hp; have Hq := Lib.hid hq; have Hr := Lib.hid hr
    clear hp hq hr
    by_cases hpq : p < q
    all_goals
     go_enter Tryz.func122, Tryz.ntmps122
     have hA := hT.hA
     have kt := hT.blk
     have o_kt := hT.no
     have c_kt := cells_of kt
     have f_kt := free_of kt
     have l_kt_w := lt_of kt
     go_wp2_with fail
     refine calls_gen fun V hV_V => ?_
     have n_kt := congrArg (fun v : World => v.heap[tb]?) hV_V
     simp (maxDischargeDepth := 9) only [BK, not_false_eq_true, reduceCtorEq, kt, l_kt_w] at n_kt
     have n_B : Below w.heap.size w V := nB hV_V
     have n_A : AP V ap t.s O := nA hV_V
     have z_V := Nat.le_of_eq (congrArg (fun v : World => v.heap.size) hV_V).symm
     try simp only [SZ] at z_V
     clear kt c_kt f_kt
     clear hV_V
     clear hA
     have hA := n_A
     clear n_A
     skip
     have hB := n_B
     clear n_B
     have kt := n_kt; clear n_kt
     have c_kt := cells_of kt
     have f_kt := free_of kt
     have l_kt_V := lt_of kt
     refine (lRow_calls _ _ hA).mono ?_
     rintro e_W1 W1 ⟨rfl, hb_W1⟩
     replace hA := hA.below hb_W1
     replace hB := below_step hB hb_W1
     replace kt := keep_blk hb_W1 kt
     have c_kt := cells_of kt
     have f_kt := free_of kt
     have l_kt_W1 := lt_of kt
     have z_W1 := hb_W1.size
     clear hb_W1
     unfold Nd.val
     go_wp2_with fail
     refine wp_gen fun V1 hV_V1 => ?_
     have n_kt := congrArg (fun v : World => v.heap[tb]?) hV_V1
     simp (maxDischargeDepth := 9) only [BK, not_false_eq_true, reduceCtorEq, kt, l_kt_w, l_kt_V, l_kt_W1] at n_kt
     have n_kn := congrArg (fun v : World => v.heap[W1.heap.size]?) hV_V1
     simp (maxDischargeDepth := 9) only [BK, not_false_eq_true, reduceCtorEq, kt, l_kt_w, l_kt_V, l_kt_W1] at n_kn
     have o_kn : ¬ O (W1.heap.size) := by first | exact hA.new (Nat.le_refl _) | exact hA.new (by omega)
     have n_B : Below w.heap.size w V1 := nB hV_V1
     have n_A : AP V1 ap t.s O := nA hV_V1
     have z_V1 := Nat.le_of_eq (congrArg (fun v : World => v.heap.size) hV_V1).symm
     try simp only [SZ] at z_V1
     clear kt c_kt f_kt
     clear hV_V1
     clear hA
     have hA := n_A
     clear n_A
     clear hB
     have hB := n_B
     clear n_B
     have kt := n_kt; clear n_kt
     have c_kt := cells_of kt
     have f_kt := free_of kt
     have l_kt_V1 := lt_of kt
     have kn := n_kn; clear n_kn
     have c_kn := cells_of kn
     have f_kn := free_of kn
     have l_kn_V1 := lt_of kn
     refine wp_region_noPanic ?_
     refine wp_region_held_drew (S := fun v => (∀ o, v.cell? ⟨tb, o, none⟩ = V1.cell? ⟨tb, o, none⟩) ∧ (∀ o, v.cell? ⟨W1.heap.size, o, none⟩ = V1.cell? ⟨W1.heap.size, o, none⟩) ∧ (V1.heap.size ≤ v.heap.size) ∧ AP v ap t.s O) (by kernel_rfl) ⟨(fun _ => rfl), (fun _ => rfl), (Nat.le_refl _), hA.drew⟩ (fun hHeld => ?_)
     generalize hV_V1d : V1.drew = V1d at hHeld ⊢
     have n_kt : V1d.heap[tb]? = V1.heap[tb]? := by rw [← hV_V1d]; rfl
     have d_kt := n_kt.trans kt
     clear n_kt c_kt f_kt
     have n_kn : V1d.heap[W1.heap.size]? = V1.heap[W1.heap.size]? := by rw [← hV_V1d]; rfl
     have d_kn := n_kn.trans kn
     clear n_kn c_kn f_kn
     have n_A : AP V1d ap t.s O := by rw [← hV_V1d]; exact hA.drew
     clear hA; have hA := n_A; clear n_A
     have n_B : Below w.heap.size w V1d := by rw [← hV_V1d]; exact hB.drew
     clear hB; have hB := n_B; clear n_B
     have z_V1d : V1.heap.size ≤ V1d.heap.size := by rw [← hV_V1d]; exact Nat.le_refl _
     have v_kt := cells_of kt
     have v_kn := cells_of kn
     clear kt; have kt := d_kt; clear d_kt
     clear kn; have kn := d_kn; clear d_kn
     have c_kt := cells_of kt
     have f_kt := free_of kt
     have l_kt_V1d := lt_of kt
     have c_kn := cells_of kn
     have f_kn := free_of kn
     have l_kn_V1d := lt_of kn
     clear hV_V1d
     refine ty (i := 0) (v := ?_) rfl hHeld ?_ ?_
     rotate_left
     focus (intro w hSw; go_simp; (try simp only [IntWalk.i64_left]); try (with_reducible rfl))
     try simp only [PT]
     refine ty (i := 1) (v := ?_) rfl hHeld ?_ ?_
     rotate_left
     focus (intro w hSw; go_simp; (try simp only [IntWalk.i64_left]); try (with_reducible rfl))
     try simp only [PT]
     refine ty (i := 2) (v := ?_) rfl hHeld ?_ ?_
     rotate_left
     focus (intro w hSw; go_simp; (try simp only [IntWalk.i64_left]); try (with_reducible rfl))
     try simp only [PT]
     refine ty (i := 3) (v := ?_) rfl hHeld ?_ ?_
     rotate_left
     focus (intro w hSw; go_simp; (try simp only [IntWalk.i64_left]); try (with_reducible rfl))
     try simp only [PT]
     refine ty (i := 5) (v := ?_) rfl hHeld ?_ ?_
     rotate_left
     focus (intro w hSw; go_simp; (try simp only [IntWalk.i64_left]); try (with_reducible rfl))
     try simp only [PT]
     refine ty (i := 6) (v := ?_) rfl hHeld ?_ ?_
     rotate_left
     focus (intro w hSw; go_simp; (try simp only [IntWalk.i64_left]); try (with_reducible rfl))
     try simp only [PT]
     refine ty (i := 7) (v := ?_) rfl hHeld ?_ ?_
     rotate_left
     focus (intro w hSw; go_simp; (try simp only [IntWalk.i64_left]); try (with_reducible rfl))
     try simp only [PT]
     refine ty (i := 8) (v := ?_) rfl hHeld ?_ ?_
     rotate_left
     focus (intro w hSw; go_simp; (try simp only [IntWalk.i64_left]); try (with_reducible rfl))
     try simp only [PT]
     refine wpAnyH_ready (rs := [4]) (by kernel_rfl) (by simp) ?_
     refine ready_at rfl (fun K hK => ?_) AllReadyH.nil
     go_simp
     try simp only [IntWalk.i64_left]
     refine (ih.out _ _ _ Hp.out ⟨hA, kt, o_kt⟩).mono ?_
     rintro e_W2 W2 ⟨rfl, hb_W2⟩
     replace hA := hA.below hb_W2
     replace hB := below_step hB hb_W2
     replace kt := keep_blk hb_W2 kt
     have c_kt := cells_of kt
     have f_kt := free_of kt
     have l_kt_W2 := lt_of kt
     replace kn := keep_blk hb_W2 kn
     have c_kn := cells_of kn
     have f_kn := free_of kn
     have l_kn_W2 := lt_of kn
     have z_W2 := hb_W2.size
     clear hb_W2
     refine hK.out _ _ ⟨(fun o => (c_kt o).trans (v_kt o).symm), (fun o => (c_kn o).trans (v_kn o).symm), (by omega), hA⟩ (fun hHeld => ?_)
     clear hK K
     try simp only [PT]
     refine wpAnyH_ready (rs := [9]) (by kernel_rfl) (by simp) ?_
     refine ready_at rfl (fun K hK => ?_) AllReadyH.nil
     go_simp
     try simp only [IntWalk.i64_left]
     refine (ih.out _ _ _ Hq.out ⟨hA, kt, o_kt⟩).mono ?_
     rintro e_W3 W3 ⟨rfl, hb_W3⟩
     replace hA := hA.below hb_W3
     replace hB := below_step hB hb_W3
     replace kt := keep_blk hb_W3 kt
     have c_kt := cells_of kt
     have f_kt := free_of kt
     have l_kt_W3 := lt_of kt
     replace kn := keep_blk hb_W3 kn
     have c_kn := cells_of kn
     have f_kn := free_of kn
     have l_kn_W3 := lt_of kn
     have z_W3 := hb_W3.size
     clear hb_W3
     refine hK.out _ _ ⟨(fun o => (c_kt o).trans (v_kt o).symm), (fun o => (c_kn o).trans (v_kn o).symm), (by omega), hA⟩ (fun hHeld => ?_)
     clear hK K
     try simp only [PT]
     refine ty (i := 10) (v := ?_) rfl hHeld ?_ ?_
     rotate_left
     focus (intro w hSw; go_simp; (try simp only [IntWalk.i64_left]); try (with_reducible rfl))
     try simp only [PT]
     refine ty (i := 11) (v := ?_) rfl hHeld ?_ ?_
     rotate_left
     focus (intro w hSw; go_simp; (try simp only [IntWalk.i64_left]); try (with_reducible rfl))
     try simp only [PT]
     refine wpAnyH_ready (rs := [12]) (by kernel_rfl) (by simp) ?_
     refine ready_at rfl (fun K hK => ?_) AllReadyH.nil
     go_simp
     refine hK.out _ _ hHeld (fun hHeld => ?_)
     clear hK K
     try simp only [PT]
     refine wpAnyH_done (by kernel_rfl) ?_ _
     refine NoPanic.normal ?_
     go_wp2_with fail
     go_ret
     refine ⟨?_, by (repeat' first | with_reducible assumption | with_reducible exact Below.refl _ _ | with_reducible refine Below.alloc ?_ ?_ _ | with_reducible refine Below.setCell ?_ ?_ _ | with_reducible refine below_drewN ?_ _ | with_reducible refine Below.drew ?_ | exact Nat.le_refl _ | ((try dsimp only); omega) | (simp only [siz_alloc, siz_set]; omega))⟩
     rw [← Hr.out]
     unfold imax
     first | rw [if_pos hpq] | rw [if_neg (Int.not_lt.2 hpq)]
     simp only [IntWalk.i64_left]
     rfl
set_option maxRecDepth 100000 in
set_option maxHeartbeats 800000 in
theorem lOpen_calls (h : Int) (w : World) (hT : LB w tb ap t O) :
  Calls Tryz.prog 123 #[.pointer (some ⟨tb, 0, none⟩), .int .i64 h] w fun e w' => e = .returned (.tuple #[.int .i64 (t.s.get h).k0, .int .i64 (t.s.get h).k1]) ∧ DidL tb ap (t.opened h) O w w' := by
 go_enter Tryz.func123, Tryz.ntmps123
 have hA := hT.hA
 have kt := hT.blk
 have o_kt := hT.no
 have c_kt := cells_of kt
 have f_kt := free_of kt
 have l_kt_w := lt_of kt
 go_wp2_with fail
 refine calls_gen fun V hV_V => ?_
 have n_kt := congrArg (fun v : World => v.heap[tb]?) hV_V
 simp (maxDischargeDepth := 9) only [BK, not_false_eq_true, reduceCtorEq, kt, l_kt_w] at n_kt
 have n_F : Fr ((oneX tb)) O O w V := nF hV_V
 have n_A : AP V ap t.s O := nA hV_V
 have z_V := Nat.le_of_eq (congrArg (fun v : World => v.heap.size) hV_V).symm
 try simp only [SZ] at z_V
 clear kt c_kt f_kt
 clear hV_V
 clear hA
 have hA := n_A
 clear n_A
 skip
 have hF := n_F
 clear n_F
 have kt := n_kt; clear n_kt
 have c_kt := cells_of kt
 have f_kt := free_of kt
 have l_kt_V := lt_of kt
 refine (lRow_calls _ _ hA).mono ?_
 rintro e_W1 W1 ⟨rfl, hb_W1⟩
 replace hA := hA.below hb_W1
 replace hF := hF.below hb_W1
 replace kt := keep_blk hb_W1 kt
 have c_kt := cells_of kt
 have f_kt := free_of kt
 have l_kt_W1 := lt_of kt
 have z_W1 := hb_W1.size
 clear hb_W1
 unfold Nd.val
 go_wp2_with fail
 refine wp_gen fun V1 hV_V1 => ?_
 have n_kt := congrArg (fun v : World => v.heap[tb]?) hV_V1
 simp (maxDischargeDepth := 9) only [BK, not_false_eq_true, reduceCtorEq, kt, l_kt_w, l_kt_V, l_kt_W1] at n_kt
 have n_kn := congrArg (fun v : World => v.heap[W1.heap.size]?) hV_V1
 simp (maxDischargeDepth := 9) only [BK, not_false_eq_true, reduceCtorEq, kt, l_kt_w, l_kt_V, l_kt_W1] at n_kn
 have o_kn : ¬ O (W1.heap.size) := by first | exact hA.new (Nat.le_refl _) | exact hA.new (by omega)
 have n_F : Fr ((oneX tb)) O O w V1 := nF hV_V1
 have n_A : AP V1 ap t.s O := nA hV_V1
 have z_V1 := Nat.le_of_eq (congrArg (fun v : World => v.heap.size) hV_V1).symm
 try simp only [SZ] at z_V1
 clear kt c_kt f_kt
 clear hV_V1
 clear hA
 have hA := n_A
 clear n_A
 clear hF
 have hF := n_F
 clear n_F
 have kt := n_kt; clear n_kt
 have c_kt := cells_of kt
 have f_kt := free_of kt
 have l_kt_V1 := lt_of kt
 have kn := n_kn; clear n_kn
 have c_kn := cells_of kn
 have f_kn := free_of kn
 have l_kn_V1 := lt_of kn
 refine wp_region_noPanic ?_
 refine wp_region_held_drew (S := fun v => (∀ o, v.cell? ⟨tb, o, none⟩ = V1.cell? ⟨tb, o, none⟩) ∧ (∀ o, v.cell? ⟨W1.heap.size, o, none⟩ = V1.cell? ⟨W1.heap.size, o, none⟩) ∧ (V1.heap.size ≤ v.heap.size) ∧ True) (by kernel_rfl) ⟨(fun _ => rfl), (fun _ => rfl), (Nat.le_refl _), trivial⟩ (fun hHeld => ?_)
 generalize hV_V1d : V1.drew = V1d at hHeld ⊢
 have n_kt : V1d.heap[tb]? = V1.heap[tb]? := by rw [← hV_V1d]; rfl
 have d_kt := n_kt.trans kt
 clear n_kt c_kt f_kt
 have n_kn : V1d.heap[W1.heap.size]? = V1.heap[W1.heap.size]? := by rw [← hV_V1d]; rfl
 have d_kn := n_kn.trans kn
 clear n_kn c_kn f_kn
 have n_A : AP V1d ap t.s O := by rw [← hV_V1d]; exact hA.drew
 clear hA; have hA := n_A; clear n_A
 have n_F : Fr ((oneX tb)) O O w V1d := by rw [← hV_V1d]; exact hF.drew
 clear hF; have hF := n_F; clear n_F
 have z_V1d : V1.heap.size ≤ V1d.heap.size := by rw [← hV_V1d]; exact Nat.le_refl _
 have v_kt := cells_of kt
 have v_kn := cells_of kn
 clear kt; have kt := d_kt; clear d_kt
 clear kn; have kn := d_kn; clear d_kn
 have c_kt := cells_of kt
 have f_kt := free_of kt
 have l_kt_V1d := lt_of kt
 have c_kn := cells_of kn
 have f_kn := free_of kn
 have l_kn_V1d := lt_of kn
 clear hV_V1d
 refine ty (i := 0) (v := ?_) rfl hHeld ?_ ?_
 rotate_left
 focus (intro w hSw; go_simp; (try simp only [IntWalk.i64_left]); try (with_reducible rfl))
 try simp only [PT]
 refine ty (i := 1) (v := ?_) rfl hHeld ?_ ?_
 rotate_left
 focus (intro w hSw; go_simp; (try simp only [IntWalk.i64_left]); try (with_reducible rfl))
 try simp only [PT]
 refine ty (i := 2) (v := ?_) rfl hHeld ?_ ?_
 rotate_left
 focus (intro w hSw; go_simp; (try simp only [IntWalk.i64_left]); try (with_reducible rfl))
 try simp only [PT]
 refine ty (i := 3) (v := ?_) rfl hHeld ?_ ?_
 rotate_left
 focus (intro w hSw; go_simp; (try simp only [IntWalk.i64_left]); try (with_reducible rfl))
 try simp only [PT]
 refine ty (i := 5) (v := ?_) rfl hHeld ?_ ?_
 rotate_left
 focus (intro w hSw; go_simp; (try simp only [IntWalk.i64_left]); try (with_reducible rfl))
 try simp only [PT]
 refine ty (i := 6) (v := ?_) rfl hHeld ?_ ?_
 rotate_left
 focus (intro w hSw; go_simp; (try simp only [IntWalk.i64_left]); try (with_reducible rfl))
 try simp only [PT]
 refine ty (i := 7) (v := ?_) rfl hHeld ?_ ?_
 rotate_left
 focus (intro w hSw; go_simp; (try simp only [IntWalk.i64_left]); try (with_reducible rfl))
 try simp only [PT]
 refine ty (i := 8) (v := ?_) rfl hHeld ?_ ?_
 rotate_left
 focus (intro w hSw; go_simp; (try simp only [IntWalk.i64_left]); try (with_reducible rfl))
 try simp only [PT]
 refine wpAnyH_ready (rs := [4]) (by kernel_rfl) (by simp) ?_
 refine ready_at rfl (fun K hK => ?_) AllReadyH.nil
 go_simp
 try simp only [IntWalk.i64_left]
 refine (lKeep_calls (t := t) (t.s.get h).k0 _ ⟨hA, kt, o_kt⟩).mono ?_
 rintro e_W2 W2 ⟨rfl, O1, hT_W2, hf_W2⟩
 have q_kn := hf_W2.keep kn o_kn (by unfold oneX; omega)
 replace o_kn := hf_W2.not_own (lt_of kn) o_kn
 clear kn; have kn := q_kn; clear q_kn
 have c_kn := cells_of kn
 have f_kn := free_of kn
 have l_kn_W2 := lt_of kn
 clear kt c_kt f_kt o_kt; have kt := hT_W2.blk; have o_kt := hT_W2.no
 have c_kt := cells_of kt
 have f_kt := free_of kt
 have l_kt_W2 := lt_of kt
 replace hF := hF.trans hf_W2
 have z_W2 := hf_W2.size
 clear hA hf_W2; have hA := hT_W2.hA; clear hT_W2
 refine hK.out _ _ ⟨(fun o => (c_kt o).trans (v_kt o).symm), (fun o => (c_kn o).trans (v_kn o).symm), (by omega), trivial⟩ (fun hHeld => ?_)
 clear hK K
 try simp only [PT]
 refine wpAnyH_ready (rs := [9]) (by kernel_rfl) (by simp) ?_
 refine ready_at rfl (fun K hK => ?_) AllReadyH.nil
 go_simp
 try simp only [IntWalk.i64_left]
 refine (lKeep_calls (t := t.keep (t.s.get h).k0) (t.s.get h).k1 _ ⟨hA, kt, o_kt⟩).mono ?_
 rintro e_W3 W3 ⟨rfl, O2, hT_W3, hf_W3⟩
 have q_kn := hf_W3.keep kn o_kn (by unfold oneX; omega)
 replace o_kn := hf_W3.not_own (lt_of kn) o_kn
 clear kn; have kn := q_kn; clear q_kn
 have c_kn := cells_of kn
 have f_kn := free_of kn
 have l_kn_W3 := lt_of kn
 clear kt c_kt f_kt o_kt; have kt := hT_W3.blk; have o_kt := hT_W3.no
 have c_kt := cells_of kt
 have f_kt := free_of kt
 have l_kt_W3 := lt_of kt
 replace hF := hF.trans hf_W3
 have z_W3 := hf_W3.size
 clear hA hf_W3; have hA := hT_W3.hA; clear hT_W3
 refine hK.out _ _ ⟨(fun o => (c_kt o).trans (v_kt o).symm), (fun o => (c_kn o).trans (v_kn o).symm), (by omega), trivial⟩ (fun hHeld => ?_)
 clear hK K
 try simp only [PT]
 refine wpAnyH_ready (rs := [10]) (by kernel_rfl) (by simp) ?_
 refine ready_at rfl (fun K hK => ?_) AllReadyH.nil
 go_simp
 refine hK.out _ _ hHeld (fun hHeld => ?_)
 clear hK K
 try simp only [PT]
 refine wpAnyH_ready (rs := [11]) (by kernel_rfl) (by simp) ?_
 refine ready_at rfl (fun K hK => ?_) AllReadyH.nil
 go_simp
 refine hK.out _ _ hHeld (fun hHeld => ?_)
 clear hK K
 try simp only [PT]
 refine wpAnyH_done (by kernel_rfl) ?_ _
 refine NoPanic.normal ?_
 go_wp2_with fail
 refine calls_gen fun V4 hV_V4 => ?_
 have n_kt := congrArg (fun v : World => v.heap[tb]?) hV_V4
 simp (maxDischargeDepth := 9) only [BK, not_false_eq_true, reduceCtorEq, kt, kn, l_kt_w, l_kt_V, l_kt_W1, l_kt_V1, l_kn_V1, l_kt_V1d, l_kn_V1d, l_kn_W2, l_kt_W2, l_kn_W3, l_kt_W3] at n_kt
 have n_kn := congrArg (fun v : World => v.heap[W1.heap.size]?) hV_V4
 simp (maxDischargeDepth := 9) only [BK, not_false_eq_true, reduceCtorEq, kt, kn, l_kt_w, l_kt_V, l_kt_W1, l_kt_V1, l_kn_V1, l_kt_V1d, l_kn_V1d, l_kn_W2, l_kt_W2, l_kn_W3, l_kt_W3] at n_kn
 have n_F : Fr ((oneX tb)) O O2 w V4 := nF hV_V4
 have n_A : AP V4 ap ((t.keep (t.s.get h).k0).keep (t.s.get h).k1).s O2 := nA hV_V4
 have z_V4 := Nat.le_of_eq (congrArg (fun v : World => v.heap.size) hV_V4).symm
 try simp only [SZ] at z_V4
 clear kt c_kt f_kt
 clear kn c_kn f_kn
 clear hV_V4
 clear hA
 have hA := n_A
 clear n_A
 clear hF
 have hF := n_F
 clear n_F
 have kt := n_kt; clear n_kt
 have c_kt := cells_of kt
 have f_kt := free_of kt
 have l_kt_V4 := lt_of kt
 have kn := n_kn; clear n_kn
 have c_kn := cells_of kn
 have f_kn := free_of kn
 have l_kn_V4 := lt_of kn
 refine (drop_calls _ _ hA).mono ?_
 rintro e_W5 W5 ⟨rfl, O3, hA_W5, hf_W5⟩
 have q_kt := hf_W5.keep kt o_kt (fun h => h)
 have q_kn := hf_W5.keep kn o_kn (fun h => h)
 replace o_kt := hf_W5.not_own (lt_of kt) o_kt
 clear kt; have kt := q_kt; clear q_kt
 have c_kt := cells_of kt
 have f_kt := free_of kt
 have l_kt_W5 := lt_of kt
 replace o_kn := hf_W5.not_own (lt_of kn) o_kn
 clear kn; have kn := q_kn; clear q_kn
 have c_kn := cells_of kn
 have f_kn := free_of kn
 have l_kn_W5 := lt_of kn
 replace hF := hF.trans hf_W5.widen
 have z_W5 := hf_W5.size
 clear hA hf_W5; have hA := hA_W5; clear hA_W5
 go_wp2_with fail
 go_ret2
 exact ⟨rfl, O3, ⟨hA, kt, o_kt⟩, hF⟩
end Go.Proofs.YtpdpcgmkpgfblaaGreat
/- Loops whose rounds hand on a number of their own; rows of two cells an element. -/
namespace Go.Proofs.YtpdpcgmkpgfblaaGreat
set_option linter.unusedSimpArgs false
set_option linter.unusedVariables false
set_option linter.unnecessarySimpa false
open Go.RowKit
theorem handed_gen {J : Nat → Act → World → Prop} {n : Nat} {a : Act} {w : World} (h : ∀ v, v = w → Handed J n a v) : Handed J n a w := h w rfl
/-- A slice value that reads as a row of cells, so many an element. -/
def Rx (w : World) (size : Nat) (v : Value) (n : Nat) (xs : List Value) : Prop :=
  xs.length = n * size ∧ ∃ A cap, v = .slice A n cap ∧ (0 < n → ∃ g, A = some ⟨g, 0, none⟩ ∧ g < w.heap.size ∧ ∀ j, j < n * size → w.cell? ⟨g, j, none⟩ = xs[j]?)
theorem Rx.below {w w' : World} {size n : Nat} {v : Value} {xs : List Value} (h : Rx w size v n xs) (hb : Below w.heap.size w w') : Rx w' size v n xs := by
  obtain ⟨h1, A, cap, rfl, h2⟩ := h
  refine ⟨h1, A, cap, rfl, fun hn => ?_⟩
  obtain ⟨g, rfl, hg, hc⟩ := h2 hn
  exact ⟨g, rfl, Nat.lt_of_lt_of_le hg hb.size, fun j hj => (hb.cell (by exact hg)).trans (hc j hj)⟩
theorem Rx.of_own {w : World} {base : Nat} {e : TypeId} {size n : Nat} {v : Value} {xs : List Value} (h : w.ownsRow base e size v n xs) : Rx w size v n xs := by
  rcases h.2 with ⟨rfl, h0⟩ | ⟨g, cap, cur, rfl, hg, hc, hcap, hs, hx⟩
  · subst h0; exact ⟨h.1, none, 0, rfl, fun h => absurd h (by omega)⟩
  · refine ⟨h.1, some ⟨g, 0, none⟩, cap, rfl, fun _ => ⟨g, rfl, lt_of hc, fun j hj => h.cellAt j hj⟩⟩
/-- The string of bytes. -/
def strOf (l : List UInt8) : Value := .string ⟨l.toArray⟩
theorem str_index (l : List UInt8) (i : Nat) (b : UInt8) (h : l[i]? = some b) (w : World) : (Instr.index 9 (strOf l) (.int .i64 (i : Int))).run Tryz.prog w = .ok (.int .u8 (b.toNat : Int)) w := by
  unfold strOf
  obtain ⟨h1, h2⟩ := List.getElem?_eq_some_iff.1 h
  rw [run_index_string w 9 ⟨l.toArray⟩ .i64 (i : Int) (by kernel_rfl)]
  have h3 : (⟨l.toArray⟩ : ByteArray).size = l.length := by simp [ByteArray.size]
  rw [dif_pos ⟨by omega, by rw [h3]; omega⟩]
  congr 3
  rw [← h2]
  rfl
theorem str_len (l : List UInt8) (w : World) : (Builtin.len_ #[9] 3 #[strOf l]).run Tryz.prog w = .ok (.int .i64 (l.length : Int)) w := by
  unfold strOf
  rw [run_len_string w 9 3 _ (by kernel_rfl)]
  have h3 : (⟨l.toArray⟩ : ByteArray).size = l.length := by simp [ByteArray.size]
  rw [h3]; rfl
theorem own_mono {w : World} {base base' : Nat} {e : TypeId} {size n : Nat} {v : Value} {xs : List Value} (h : w.ownsRow base e size v n xs) (hb : base' ≤ base) : w.ownsRow base' e size v n xs := by
  refine ⟨h.1, ?_⟩
  rcases h.2 with h0 | ⟨g, cap, cur, hv, hg, hc⟩
  · exact .inl h0
  · exact .inr ⟨g, cap, cur, hv, Nat.le_trans hb hg, hc⟩
/-- The cells of a row of items. -/
def itemCells : List (Int × Int) → List Value
  | [] => []
  | x :: l => .int .i64 x.1 :: .int .i64 x.2 :: itemCells l
theorem itemCells_append (a b : List (Int × Int)) : itemCells (a ++ b) = itemCells a ++ itemCells b := by
  induction a with
  | nil => rfl
  | cons x a ih => simp [itemCells, ih]
theorem itemCells_length (l : List (Int × Int)) : (itemCells l).length = l.length * 2 := by
  induction l with
  | nil => rfl
  | cons x l ih => simp [itemCells, ih]; omega
theorem itemCells_at (l : List (Int × Int)) (i : Nat) (x : Int × Int) (h : l[i]? = some x) : (itemCells l)[i * 2]? = some (.int .i64 x.1) ∧ (itemCells l)[i * 2 + 1]? = some (.int .i64 x.2) := by
  induction l generalizing i with
  | nil => simp at h
  | cons y l ih =>
    cases i with
    | zero => simp at h; subst h; exact ⟨rfl, rfl⟩
    | succ i =>
      have := ih i (by simpa using h)
      rw [show (i + 1) * 2 = i * 2 + 1 + 1 by omega]
      exact this
end Go.Proofs.YtpdpcgmkpgfblaaGreat
/- Lists in an arena: an item, all items; tables. -/
namespace Go.Proofs.YtpdpcgmkpgfblaaGreat
set_option linter.unusedSimpArgs false
set_option linter.unusedVariables false
set_option linter.unnecessarySimpa false
open Go.RowKit
attribute [local go_sem ↓] Go.wp_at_zero Go.wp_at_succ
attribute [local go_sem] lt_s2 lt_s3 lt_s4
attribute [local go_sem] idx0 idx1 idx2 idx3
variable {ap : Value} {s : Ar} {O : Nat → Prop}
set_option maxRecDepth 100000 in
set_option maxHeartbeats 2000000 in
theorem lGet_calls (h i : Int) (r : (Int × Int) × Bool) (hr : lGet s h i = some r) (w : World) (hA : AP w ap s O) :
    Calls Tryz.prog 22 #[ap, .int .i64 h, .int .i64 i] w fun e w' => e = .returned (.tuple #[.agg #[.int .i64 r.1.1, .int .i64 r.1.2], .bool r.2]) ∧ Below w.heap.size w w' := by
  unfold lGet at hr
  by_cases h1 : i < 0
  · rw [if_pos (.inl h1)] at hr
    have d1 : decide (i < 0) = true := by simpa using h1
    obtain rfl := Option.some.inj hr
    clear h1 hr
    go_enter Tryz.func22, Tryz.ntmps22
    go_wp2_with fail
    refine bodyPost_ret (v := .tuple #[.agg #[.int .i64 0, .int .i64 0], .bool false]) (by simp [results, Tryz.results22, go_sem, *]) rfl ⟨rfl, by (repeat' first | with_reducible assumption | with_reducible exact Below.refl _ _ | with_reducible refine Below.alloc ?_ ?_ _ | with_reducible refine Below.setCell ?_ ?_ _ | with_reducible refine below_drewN ?_ _ | with_reducible refine Below.drew ?_ | exact Nat.le_refl _ | ((try dsimp only); omega) | (simp only [siz_alloc, siz_set]; omega))⟩
  · have d1 : decide (i < 0) = false := by simpa using h1
    by_cases h2 : lLen s h ≤ i
    · rw [if_pos (.inr h2)] at hr
      have d2 : decide (lLen s h ≤ i) = true := by simpa using h2
      obtain rfl := Option.some.inj hr
      clear h1 h2 hr
      go_enter Tryz.func22, Tryz.ntmps22
      go_wp2_with fail
      refine calls_gen fun V hV_V => ?_
      have n_kr := congrArg (fun v : World => v.heap[w.heap.size]?) hV_V
      simp (maxDischargeDepth := 9) only [BK, not_false_eq_true, reduceCtorEq] at n_kr
      have o_kr : ¬ O (w.heap.size) := by first | exact hA.new (Nat.le_refl _) | exact hA.new (by omega)
      have n_B : Below w.heap.size w V := nB hV_V
      have n_A : AP V ap s O := nA hV_V
      have z_V := Nat.le_of_eq (congrArg (fun v : World => v.heap.size) hV_V).symm
      try simp only [SZ] at z_V
      clear hV_V
      clear hA
      have hA := n_A
      clear n_A
      skip
      have hB := n_B
      clear n_B
      have kr := n_kr; clear n_kr
      have c_kr := cells_of kr
      have f_kr := free_of kr
      have l_kr_V := lt_of kr
      refine (lLen_calls _ _ hA).mono ?_
      rintro e_W1 W1 ⟨rfl, hb_W1⟩
      replace hA := hA.below hb_W1
      replace hB := below_step hB hb_W1
      replace kr := keep_blk hb_W1 kr
      have c_kr := cells_of kr
      have f_kr := free_of kr
      have l_kr_W1 := lt_of kr
      have z_W1 := hb_W1.size
      clear hb_W1
      go_wp2_with fail
      refine bodyPost_ret (v := .tuple #[.agg #[.int .i64 0, .int .i64 0], .bool false]) (by simp [results, Tryz.results22, go_sem, *]) rfl ⟨rfl, by (repeat' first | with_reducible assumption | with_reducible exact Below.refl _ _ | with_reducible refine Below.alloc ?_ ?_ _ | with_reducible refine Below.setCell ?_ ?_ _ | with_reducible refine below_drewN ?_ _ | with_reducible refine Below.drew ?_ | exact Nat.le_refl _ | ((try dsimp only); omega) | (simp only [siz_alloc, siz_set]; omega))⟩
    · rw [if_neg (by omega)] at hr
      have d2 : decide (lLen s h ≤ i) = false := by simpa using h2
      clear h1 h2
      obtain ⟨b, hb, rfl⟩ := Option.map_eq_some_iff.1 hr
      have hb' := Lib.hid hb; clear hb hr
      have hA0 := Lib.hid hA
      go_enter Tryz.func22, Tryz.ntmps22
      go_wp2_with fail
      refine calls_gen fun V hV_V => ?_
      have n_kr := congrArg (fun v : World => v.heap[w.heap.size]?) hV_V
      simp (maxDischargeDepth := 9) only [BK, not_false_eq_true, reduceCtorEq] at n_kr
      have o_kr : ¬ O (w.heap.size) := by first | exact hA.new (Nat.le_refl _) | exact hA.new (by omega)
      have n_B : Below w.heap.size w V := nB hV_V
      have n_A : AP V ap s O := nA hV_V
      have z_V := Nat.le_of_eq (congrArg (fun v : World => v.heap.size) hV_V).symm
      try simp only [SZ] at z_V
      clear hV_V
      clear hA
      have hA := n_A
      clear n_A
      skip
      have hB := n_B
      clear n_B
      have kr := n_kr; clear n_kr
      have c_kr := cells_of kr
      have f_kr := free_of kr
      have l_kr_V := lt_of kr
      refine (lLen_calls _ _ hA).mono ?_
      rintro e_W1 W1 ⟨rfl, hb_W1⟩
      replace hA := hA.below hb_W1
      replace hB := below_step hB hb_W1
      replace kr := keep_blk hb_W1 kr
      have c_kr := cells_of kr
      have f_kr := free_of kr
      have l_kr_W1 := lt_of kr
      have z_W1 := hb_W1.size
      clear hb_W1
      go_wp2_with fail
      refine calls_gen fun V1 hV_V1 => ?_
      have n_kr := congrArg (fun v : World => v.heap[w.heap.size]?) hV_V1
      simp (maxDischargeDepth := 9) only [BK, not_false_eq_true, reduceCtorEq, kr, l_kr_V, l_kr_W1] at n_kr
      have n_B : Below w.heap.size w V1 := nB hV_V1
      have n_A : AP V1 ap s O := nA hV_V1
      have z_V1 := Nat.le_of_eq (congrArg (fun v : World => v.heap.size) hV_V1).symm
      try simp only [SZ] at z_V1
      clear kr c_kr f_kr
      clear hV_V1
      clear hA
      have hA := n_A
      clear n_A
      clear hB
      have hB := n_B
      clear n_B
      have kr := n_kr; clear n_kr
      have c_kr := cells_of kr
      have f_kr := free_of kr
      have l_kr_V1 := lt_of kr
      refine (lRow_calls _ _ hA).mono ?_
      rintro e_W2 W2 ⟨rfl, hb_W2⟩
      replace hA := hA.below hb_W2
      replace hB := below_step hB hb_W2
      replace kr := keep_blk hb_W2 kr
      have c_kr := cells_of kr
      have f_kr := free_of kr
      have l_kr_W2 := lt_of kr
      have z_W2 := hb_W2.size
      clear hb_W2
      unfold Nd.val
      go_wp2_with fail
      refine wp_gen fun V2 hV_V2 => ?_
      have n_kr := congrArg (fun v : World => v.heap[w.heap.size]?) hV_V2
      simp (maxDischargeDepth := 9) only [BK, not_false_eq_true, reduceCtorEq, kr, l_kr_V, l_kr_W1, l_kr_V1, l_kr_W2] at n_kr
      have n_kn := congrArg (fun v : World => v.heap[W2.heap.size]?) hV_V2
      simp (maxDischargeDepth := 9) only [BK, not_false_eq_true, reduceCtorEq, kr, l_kr_V, l_kr_W1, l_kr_V1, l_kr_W2] at n_kn
      have o_kn : ¬ O (W2.heap.size) := by first | exact hA.new (Nat.le_refl _) | exact hA.new (by omega)
      have n_B : Below w.heap.size w V2 := nB hV_V2
      have n_A : AP V2 ap s O := nA hV_V2
      have z_V2 := Nat.le_of_eq (congrArg (fun v : World => v.heap.size) hV_V2).symm
      try simp only [SZ] at z_V2
      clear kr c_kr f_kr
      clear hV_V2
      clear hA
      have hA := n_A
      clear n_A
      clear hB
      have hB := n_B
      clear n_B
      have kr := n_kr; clear n_kr
      have c_kr := cells_of kr
      have f_kr := free_of kr
      have l_kr_V2 := lt_of kr
      have kn := n_kn; clear n_kn
      have c_kn := cells_of kn
      have f_kn := free_of kn
      have l_kn_V2 := lt_of kn
      go_loopg [1, 2] rounds (fun k p q wr => ∃ x y : Int, p = .int .i64 x ∧ q = .int .i64 y ∧ wr.heap[W2.heap.size]? = some (.cells #[.int .i64 (s.get x).tag, .int .i64 (s.get x).k0, .int .i64 (s.get x).k1, .int .i64 (s.get x).k2, .int .i64 (s.get x).k3, .int .u64 (s.get x).a, .int .u64 (s.get x).b] 44 (0, 0)) ∧ wr.heap[w.heap.size]? = some (.cells #[.int .i64 0, .int .i64 0] 56 (0, 0)) ∧ Below w.heap.size w wr ∧ Hid (lGetL k s x y = some b))
      case atStart => exact ⟨h, i, rfl, rfl, kn, kr, hB, hb'⟩
      case round =>
        clear kn kr c_kn c_kr f_kn f_kr hA hB hb'
        obtain ⟨x, y, rfl, rfl, kn, kr, hB, hb'⟩ := hrel
        have hA := hA0.out.below hB
        have c_kn := cells_of kn
        have f_kn := free_of kn
        have l_kn_wr := lt_of kn
        have c_kr := cells_of kr
        have f_kr := free_of kr
        have l_kr_wr := lt_of kr
        have hb := hb'.out
        clear hb'
        cases gk with
        | zero => exact absurd hb (by simp [lGetL])
        | succ k =>
          unfold lGetL at hb
          by_cases h3 : (s.get x).tag = 5
          · rw [if_pos h3] at hb
            have d3 : ((s.get x).tag == 5) = true := by simpa using h3
            clear h3
            by_cases h4 : lLen s (s.get x).k0 ≤ y
            · rw [if_pos h4] at hb
              have d4 : decide (lLen s (s.get x).k0 ≤ y) = true := by simpa using h4
              have hb' := Lib.hid hb; clear hb h4
              go_wp2_with fail
              refine calls_gen fun V3 hV_V3 => ?_
              have n_kn := congrArg (fun v : World => v.heap[W2.heap.size]?) hV_V3
              simp (maxDischargeDepth := 9) only [BK, not_false_eq_true, reduceCtorEq, kn, kr, l_kn_wr, l_kr_wr, l_kr_W2] at n_kn
              have n_kr := congrArg (fun v : World => v.heap[w.heap.size]?) hV_V3
              simp (maxDischargeDepth := 9) only [BK, not_false_eq_true, reduceCtorEq, kn, kr, l_kn_wr, l_kr_wr, l_kr_W2] at n_kr
              have n_B : Below w.heap.size w V3 := nB hV_V3
              have n_A : AP V3 ap s O := nA hV_V3
              have z_V3 := Nat.le_of_eq (congrArg (fun v : World => v.heap.size) hV_V3).symm
              try simp only [SZ] at z_V3
              clear kn c_kn f_kn
              clear kr c_kr f_kr
              clear hV_V3
              clear hA
              have hA := n_A
              clear n_A
              clear hB
              have hB := n_B
              clear n_B
              have kn := n_kn; clear n_kn
              have c_kn := cells_of kn
              have f_kn := free_of kn
              have l_kn_V3 := lt_of kn
              have kr := n_kr; clear n_kr
              have c_kr := cells_of kr
              have f_kr := free_of kr
              have l_kr_V3 := lt_of kr
              refine (lLen_calls _ _ hA).mono ?_
              rintro e_W3 W3 ⟨rfl, hb_W3⟩
              replace hA := hA.below hb_W3
              replace hB := below_step hB hb_W3
              replace kn := keep_blk hb_W3 kn
              have c_kn := cells_of kn
              have f_kn := free_of kn
              have l_kn_W3 := lt_of kn
              replace kr := keep_blk hb_W3 kr
              have c_kr := cells_of kr
              have f_kr := free_of kr
              have l_kr_W3 := lt_of kr
              have z_W3 := hb_W3.size
              clear hb_W3
              go_wp2_with fail
              refine calls_gen fun V4 hV_V4 => ?_
              have n_kn := congrArg (fun v : World => v.heap[W2.heap.size]?) hV_V4
              simp (maxDischargeDepth := 9) only [BK, not_false_eq_true, reduceCtorEq, kn, kr, l_kn_wr, l_kr_wr, l_kr_W2, l_kn_V3, l_kr_V3, l_kn_W3, l_kr_W3] at n_kn
              have n_kr := congrArg (fun v : World => v.heap[w.heap.size]?) hV_V4
              simp (maxDischargeDepth := 9) only [BK, not_false_eq_true, reduceCtorEq, kn, kr, l_kn_wr, l_kr_wr, l_kr_W2, l_kn_V3, l_kr_V3, l_kn_W3, l_kr_W3] at n_kr
              have n_B : Below w.heap.size w V4 := nB hV_V4
              have n_A : AP V4 ap s O := nA hV_V4
              have z_V4 := Nat.le_of_eq (congrArg (fun v : World => v.heap.size) hV_V4).symm
              try simp only [SZ] at z_V4
              clear kn c_kn f_kn
              clear kr c_kr f_kr
              clear hV_V4
              clear hA
              have hA := n_A
              clear n_A
              clear hB
              have hB := n_B
              clear n_B
              have kn := n_kn; clear n_kn
              have c_kn := cells_of kn
              have f_kn := free_of kn
              have l_kn_V4 := lt_of kn
              have kr := n_kr; clear n_kr
              have c_kr := cells_of kr
              have f_kr := free_of kr
              have l_kr_V4 := lt_of kr
              refine (lRow_calls _ _ hA).mono ?_
              rintro e_W4 W4 ⟨rfl, hb_W4⟩
              replace hA := hA.below hb_W4
              replace hB := below_step hB hb_W4
              replace kn := keep_blk hb_W4 kn
              have c_kn := cells_of kn
              have f_kn := free_of kn
              have l_kn_W4 := lt_of kn
              replace kr := keep_blk hb_W4 kr
              have c_kr := cells_of kr
              have f_kr := free_of kr
              have l_kr_W4 := lt_of kr
              have z_W4 := hb_W4.size
              clear hb_W4
              unfold Nd.val
              go_wp2_with fail
              refine handed_gen fun V5 hV_V5 => ?_
              have n_kn := congrArg (fun v : World => v.heap[W2.heap.size]?) hV_V5
              simp (maxDischargeDepth := 9) only [BK, not_false_eq_true, reduceCtorEq, kn, kr, l_kn_wr, l_kr_wr, l_kr_W2, l_kn_V3, l_kr_V3, l_kn_W3, l_kr_W3, l_kn_V4, l_kr_V4, l_kn_W4, l_kr_W4] at n_kn
              have n_kr := congrArg (fun v : World => v.heap[w.heap.size]?) hV_V5
              simp (maxDischargeDepth := 9) only [BK, not_false_eq_true, reduceCtorEq, kn, kr, l_kn_wr, l_kr_wr, l_kr_W2, l_kn_V3, l_kr_V3, l_kn_W3, l_kr_W3, l_kn_V4, l_kr_V4, l_kn_W4, l_kr_W4] at n_kr
              have n_B : Below w.heap.size w V5 := nB hV_V5
              have n_A : AP V5 ap s O := nA hV_V5
              have z_V5 := Nat.le_of_eq (congrArg (fun v : World => v.heap.size) hV_V5).symm
              try simp only [SZ] at z_V5
              clear kn c_kn f_kn
              clear kr c_kr f_kr
              clear hV_V5
              clear hA
              have hA := n_A
              clear n_A
              clear hB
              have hB := n_B
              clear n_B
              have kn := n_kn; clear n_kn
              have c_kn := cells_of kn
              have f_kn := free_of kn
              have l_kn_V5 := lt_of kn
              have kr := n_kr; clear n_kr
              have c_kr := cells_of kr
              have f_kr := free_of kr
              have l_kr_V5 := lt_of kr
              go_roundg k
              case measure => omega
              case rel => exact ⟨_, _, rfl, rfl, kn, kr, hB, hb'⟩
            · rw [if_neg h4] at hb
              have d4 : decide (lLen s (s.get x).k0 ≤ y) = false := by simpa using h4
              have hb' := Lib.hid hb; clear hb h4
              go_wp2_with fail
              refine calls_gen fun V3 hV_V3 => ?_
              have n_kn := congrArg (fun v : World => v.heap[W2.heap.size]?) hV_V3
              simp (maxDischargeDepth := 9) only [BK, not_false_eq_true, reduceCtorEq, kn, kr, l_kn_wr, l_kr_wr, l_kr_W2] at n_kn
              have n_kr := congrArg (fun v : World => v.heap[w.heap.size]?) hV_V3
              simp (maxDischargeDepth := 9) only [BK, not_false_eq_true, reduceCtorEq, kn, kr, l_kn_wr, l_kr_wr, l_kr_W2] at n_kr
              have n_B : Below w.heap.size w V3 := nB hV_V3
              have n_A : AP V3 ap s O := nA hV_V3
              have z_V3 := Nat.le_of_eq (congrArg (fun v : World => v.heap.size) hV_V3).symm
              try simp only [SZ] at z_V3
              clear kn c_kn f_kn
              clear kr c_kr f_kr
              clear hV_V3
              clear hA
              have hA := n_A
              clear n_A
              clear hB
              have hB := n_B
              clear n_B
              have kn := n_kn; clear n_kn
              have c_kn := cells_of kn
              have f_kn := free_of kn
              have l_kn_V3 := lt_of kn
              have kr := n_kr; clear n_kr
              have c_kr := cells_of kr
              have f_kr := free_of kr
              have l_kr_V3 := lt_of kr
              refine (lLen_calls _ _ hA).mono ?_
              rintro e_W3 W3 ⟨rfl, hb_W3⟩
              replace hA := hA.below hb_W3
              replace hB := below_step hB hb_W3
              replace kn := keep_blk hb_W3 kn
              have c_kn := cells_of kn
              have f_kn := free_of kn
              have l_kn_W3 := lt_of kn
              replace kr := keep_blk hb_W3 kr
              have c_kr := cells_of kr
              have f_kr := free_of kr
              have l_kr_W3 := lt_of kr
              have z_W3 := hb_W3.size
              clear hb_W3
              go_wp2_with fail
              refine calls_gen fun V4 hV_V4 => ?_
              have n_kn := congrArg (fun v : World => v.heap[W2.heap.size]?) hV_V4
              simp (maxDischargeDepth := 9) only [BK, not_false_eq_true, reduceCtorEq, kn, kr, l_kn_wr, l_kr_wr, l_kr_W2, l_kn_V3, l_kr_V3, l_kn_W3, l_kr_W3] at n_kn
              have n_kr := congrArg (fun v : World => v.heap[w.heap.size]?) hV_V4
              simp (maxDischargeDepth := 9) only [BK, not_false_eq_true, reduceCtorEq, kn, kr, l_kn_wr, l_kr_wr, l_kr_W2, l_kn_V3, l_kr_V3, l_kn_W3, l_kr_W3] at n_kr
              have n_B : Below w.heap.size w V4 := nB hV_V4
              have n_A : AP V4 ap s O := nA hV_V4
              have z_V4 := Nat.le_of_eq (congrArg (fun v : World => v.heap.size) hV_V4).symm
              try simp only [SZ] at z_V4
              clear kn c_kn f_kn
              clear kr c_kr f_kr
              clear hV_V4
              clear hA
              have hA := n_A
              clear n_A
              clear hB
              have hB := n_B
              clear n_B
              have kn := n_kn; clear n_kn
              have c_kn := cells_of kn
              have f_kn := free_of kn
              have l_kn_V4 := lt_of kn
              have kr := n_kr; clear n_kr
              have c_kr := cells_of kr
              have f_kr := free_of kr
              have l_kr_V4 := lt_of kr
              refine (lRow_calls _ _ hA).mono ?_
              rintro e_W4 W4 ⟨rfl, hb_W4⟩
              replace hA := hA.below hb_W4
              replace hB := below_step hB hb_W4
              replace kn := keep_blk hb_W4 kn
              have c_kn := cells_of kn
              have f_kn := free_of kn
              have l_kn_W4 := lt_of kn
              replace kr := keep_blk hb_W4 kr
              have c_kr := cells_of kr
              have f_kr := free_of kr
              have l_kr_W4 := lt_of kr
              have z_W4 := hb_W4.size
              clear hb_W4
              unfold Nd.val
              go_wp2_with fail
              refine handed_gen fun V5 hV_V5 => ?_
              have n_kn := congrArg (fun v : World => v.heap[W2.heap.size]?) hV_V5
              simp (maxDischargeDepth := 9) only [BK, not_false_eq_true, reduceCtorEq, kn, kr, l_kn_wr, l_kr_wr, l_kr_W2, l_kn_V3, l_kr_V3, l_kn_W3, l_kr_W3, l_kn_V4, l_kr_V4, l_kn_W4, l_kr_W4] at n_kn
              have n_kr := congrArg (fun v : World => v.heap[w.heap.size]?) hV_V5
              simp (maxDischargeDepth := 9) only [BK, not_false_eq_true, reduceCtorEq, kn, kr, l_kn_wr, l_kr_wr, l_kr_W2, l_kn_V3, l_kr_V3, l_kn_W3, l_kr_W3, l_kn_V4, l_kr_V4, l_kn_W4, l_kr_W4] at n_kr
              have n_B : Below w.heap.size w V5 := nB hV_V5
              have n_A : AP V5 ap s O := nA hV_V5
              have z_V5 := Nat.le_of_eq (congrArg (fun v : World => v.heap.size) hV_V5).symm
              try simp only [SZ] at z_V5
              clear kn c_kn f_kn
              clear kr c_kr f_kr
              clear hV_V5
              clear hA
              have hA := n_A
              clear n_A
              clear hB
              have hB := n_B
              clear n_B
              have kn := n_kn; clear n_kn
              have c_kn := cells_of kn
              have f_kn := free_of kn
              have l_kn_V5 := lt_of kn
              have kr := n_kr; clear n_kr
              have c_kr := cells_of kr
              have f_kr := free_of kr
              have l_kr_V5 := lt_of kr
              go_roundg k
              case measure => omega
              case rel => exact ⟨_, _, rfl, rfl, kn, kr, hB, hb'⟩
          · rw [if_neg h3] at hb
            have d3 : ((s.get x).tag == 5) = false := by simpa using h3
            obtain rfl := Option.some.inj hb
            clear h3 hb
            go_wp2_with fail
            refine bodyPost_ret (v := .tuple #[.agg #[.int .i64 (wrap64 (s.get x).a), .int .i64 (wrap64 (s.get x).b)], .bool true]) (by simp [results, Tryz.results22, go_sem, *]) rfl ⟨rfl, by (repeat' first | with_reducible assumption | with_reducible exact Below.refl _ _ | with_reducible refine Below.alloc ?_ ?_ _ | with_reducible refine Below.setCell ?_ ?_ _ | with_reducible refine below_drewN ?_ _ | with_reducible refine Below.drew ?_ | exact Nat.le_refl _ | ((try dsimp only); omega) | (simp only [siz_alloc, siz_set]; omega))⟩
end Go.Proofs.YtpdpcgmkpgfblaaGreat
/- Lists in an arena: all items. -/
namespace Go.Proofs.YtpdpcgmkpgfblaaGreat
set_option linter.unusedSimpArgs false
set_option linter.unusedVariables false
set_option linter.unnecessarySimpa false
open Go.RowKit
attribute [local go_sem ↓] Go.wp_at_zero Go.wp_at_succ
attribute [local go_sem] lt_s2 lt_s3 lt_s4
attribute [local go_sem] idx0 idx1 idx2 idx3
variable {ap : Value} {s : Ar} {O : Nat → Prop}
theorem eachO_len {α : Type} {f : Int → Option α} : ∀ (d : Nat) (i : Int) (l : List α), eachO f d i = some l → l.length = d
  | 0, i, l, h => by cases h; rfl
  | d + 1, i, l, h => by
    unfold eachO at h
    obtain ⟨x, hx, h⟩ := Option.bind_eq_some_iff.1 h
    obtain ⟨m, hm, h⟩ := Option.bind_eq_some_iff.1 h
    cases h
    simp [eachO_len d (i + 1) m hm]
set_option maxRecDepth 100000 in
set_option maxHeartbeats 2000000 in
theorem lAll_calls (h : Int) (l : List (Int × Int)) (hr : lAll s h = some l) (hl : l.length ≤ 50000) (w : World) (hA : AP w ap s O) :
    Calls Tryz.prog 56 #[ap, .int .i64 h] w fun e w' => ∃ v, e = .returned v ∧ w'.ownsRow w.heap.size 56 2 v l.length (itemCells l) ∧ Below w.heap.size w w' := by
  have hA0 := Lib.hid hA
  have hr' := Lib.hid hr
  have hlen : l.length = (lLen s h).toNat := eachO_len _ _ _ hr
  clear hr
  go_enter Tryz.func56, Tryz.ntmps56
  go_wp2_with fail
  refine calls_gen fun V hV_V => ?_
  have n_B : Below w.heap.size w V := nB hV_V
  have n_A : AP V ap s O := nA hV_V
  have z_V := Nat.le_of_eq (congrArg (fun v : World => v.heap.size) hV_V).symm
  try simp only [SZ] at z_V
  clear hV_V
  clear hA
  have hA := n_A
  clear n_A
  skip
  have hB := n_B
  clear n_B
  refine (lLen_calls _ _ hA).mono ?_
  rintro e_W1 W1 ⟨rfl, hb_W1⟩
  replace hA := hA.below hb_W1
  replace hB := below_step hB hb_W1
  have z_W1 := hb_W1.size
  clear hb_W1
  go_wp2_with fail
  refine wp_gen fun V1 hV_V1 => ?_
  have n_B : Below w.heap.size w V1 := nB hV_V1
  have n_A : AP V1 ap s O := nA hV_V1
  have z_V1 := Nat.le_of_eq (congrArg (fun v : World => v.heap.size) hV_V1).symm
  try simp only [SZ] at z_V1
  clear hV_V1
  clear hA
  have hA := n_A
  clear n_A
  clear hB
  have hB := n_B
  clear n_B
  go_loopg [5, 12] (lLen s h).toNat (fun k p q wr => ∃ (i : Int) (d0 rest : List (Int × Int)), q = .int .i64 i ∧ 0 ≤ i ∧ i ≤ 50000 ∧ (d0.length : Int) = i ∧ k = (lLen s h - i).toNat ∧ Hid (eachO (fun i => (lGet s h i).map (·.1)) k i = some rest) ∧ Hid (l = d0 ++ rest) ∧ Hid (wr.ownsRow w.heap.size 56 2 p d0.length (itemCells d0)) ∧ Below w.heap.size w wr)
  case atStart => exact ⟨0, [], l, rfl, by omega, by omega, rfl, by simp, hr', Lib.hid rfl, Lib.hid (own_nil _ _ _ _), hB⟩
  case round =>
    clear hA hB hr'
    obtain ⟨i, d0, rest, rfl, hi0, hi1, hdl, hk, He, Hl, Hown, hB0⟩ := hrel
    have hA := hA0.out.below hB0
    by_cases hlt : i < lLen s h
    · have d1 : decide (i < lLen s h) = true := by simpa using hlt
      obtain ⟨k, rfl⟩ : ∃ k, gk = k + 1 := ⟨gk - 1, by omega⟩
      have he := He.out
      unfold eachO at he
      obtain ⟨x, hx, he⟩ := Option.bind_eq_some_iff.1 he
      obtain ⟨rest', he', hrest⟩ := Option.bind_eq_some_iff.1 he
      obtain ⟨g, hg, hgx⟩ := Option.map_eq_some_iff.1 hx
      have hrest := Option.some.inj hrest
      have hlx : l.length = d0.length + (1 + rest'.length) := by rw [Hl.out, ← hrest]; simp; omega
      have Hg := Lib.hid hg
      have Hx := Lib.hid hgx
      have He' := Lib.hid he'
      have Hl' : Hid (l = (d0 ++ [x]) ++ rest') := Lib.hid (by rw [Hl.out, ← hrest]; simp)
      clear He Hl he hx he' hrest hg hgx
      have hw0 := hB0.size
      have HB0 := Lib.hid hB0; clear hB0
      have hB := Below.refl wr.heap.size wr
      go_wp2_with fail
      refine calls_gen fun V2 hV_V2 => ?_
      have n_B : Below wr.heap.size wr V2 := nB hV_V2
      have n_A : AP V2 ap s O := nA hV_V2
      have z_V2 := Nat.le_of_eq (congrArg (fun v : World => v.heap.size) hV_V2).symm
      try simp only [SZ] at z_V2
      clear hV_V2
      clear hA
      have hA := n_A
      clear n_A
      clear hB
      have hB := n_B
      clear n_B
      refine (lGet_calls _ _ g Hg.out _ hA).mono ?_
      rintro e_W2 W2 ⟨rfl, hb_W2⟩
      replace hA := hA.below hb_W2
      replace hB := below_step hB hb_W2
      have z_W2 := hb_W2.size
      clear hb_W2
      have Hbl := Lib.hid (below_step HB0.out hB)
      have hown := own_below Hown.out hB
      clear Hown
      go_wp2_with (at_builtin; refine wpList_push _ (by rfl) _ _ 88 (by rfl) (w.heap.size) 56 (.agg #[.int .i64 0, .int .i64 0]) 2 16 Tryz.underlying88 (by kernel_rfl) (by rfl) (by omega) _ _ _ (by rfl) (hown.alloc _) _ (by rfl) (by rw [siz_alloc]; rfl) (by simp [Value.oneCell']) (by unfold maxLen; omega) (by omega) (by simp only [siz_alloc]; omega) ?_; intro g_W c_W W3 hown_W hlow_W hlt_W)
      have h1 : wrap64 (i + 1) = i + 1 := IntWalk.wrap64_in _ (by omega)
      go_wp2_with fail
      go_roundg k
      case measure => omega
      case rel =>
        refine ⟨i + 1, d0 ++ [x], rest', by rw [← h1], by omega, by omega, by simp; omega, by omega, He', Hl', ?_, low_step (Hbl.out.alloc (by omega) _) (by omega) hlow_W⟩
        rw [itemCells_append, List.length_append, ← Hx.out]
        exact Lib.hid hown_W
    · have d1 : decide (i < lLen s h) = false := by simpa using hlt
      obtain rfl : gk = 0 := by omega
      have he := He.out
      unfold eachO at he
      obtain rfl := Option.some.inj he
      have hl2 := Hl.out
      simp only [List.append_nil] at hl2
      have hn : d0.length = l.length := by rw [hl2]
      clear He Hl he
      go_wp2_with fail
      go_ret
      refine ⟨u5, rfl, ?_, hB0⟩
      rw [hl2]; exact Hown.out
end Go.Proofs.YtpdpcgmkpgfblaaGreat
