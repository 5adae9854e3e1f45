/- LeafJoins and LeafAll, LeafBack: walked. -/
import Derived.Test.YtdcgalekcciggaaLeafLaws
namespace Go.Proofs.Ytdcgalekcciggaa
set_option linter.unusedSimpArgs false
set_option linter.unusedVariables false
set_option linter.unnecessarySimpa false
open Go.RowKit
attribute [local go_sem ↓] Go.wp_at_zero Go.wp_at_succ
attribute [local go_sem] lt_s2 lt_s3 lt_s4 lt_s5 lt_s6 ne_s2 ne_t2 ne_s3 ne_t3 ne_s4 ne_t4
theorem hold_alt (b n : Nat) (hb : b < 2 ^ 64) (hn : n ≤ 64) : ∃ x : List Bool, x.length = n ∧
    ((decide ((x.length : Int) < 64) = true ∧ Hid (Go.bits .and .u64 (b : Int) (IntKind.u64.wrap (IntKind.u64.wrap (2 ^ x.length) - 1)) = (pack x : Int))) ∨ (decide ((x.length : Int) < 64) = false ∧ Hid ((b : Int) = (pack x : Int)))) := by
  refine ⟨unpack (b % 2 ^ n) n, unpack_length _ _, ?_⟩
  rw [unpack_length]
  rcases Nat.lt_or_ge n 64 with h | h
  · exact .inl ⟨by simp; omega, mask_value b n hb h⟩
  · obtain rfl : n = 64 := by omega
    exact .inr ⟨by simp, by show _ = _; rw [pack_unpack _ _ (Nat.mod_lt _ (Nat.two_pow_pos 64)), Nat.mod_eq_of_lt hb]⟩
theorem count_all (x : List Bool) (h : x.length ≤ 64) : (x.take (64 : Int).toNat).count true = x.count true := by
  rw [List.take_of_length_le (by show x.length ≤ 64; exact h)]
set_option maxHeartbeats 1000000 in
theorem joins_core (b c : Nat) (x y z p q : List Bool) (i : Int) (hxy : x.length + y.length ≤ 64) (HZ : Hid (z = x ++ y)) (hz : z.length ≤ 64) (HP : Hid (p = z.take i.toNat)) (HQ : Hid (q = z.drop i.toNat)) (HPQ : Hid (z = p ++ q)) (hpq : p.length + q.length ≤ 64)
    (HX : (decide ((x.length : Int) < 64) = true ∧ Hid (Go.bits .and .u64 (b : Int) (IntKind.u64.wrap (IntKind.u64.wrap (2 ^ x.length) - 1)) = (pack x : Int))) ∨ (decide ((x.length : Int) < 64) = false ∧ Hid ((b : Int) = (pack x : Int))))
    (HY : (decide ((y.length : Int) < 64) = true ∧ Hid (Go.bits .and .u64 (c : Int) (IntKind.u64.wrap (IntKind.u64.wrap (2 ^ y.length) - 1)) = (pack y : Int))) ∨ (decide ((y.length : Int) < 64) = false ∧ Hid ((c : Int) = (pack y : Int)))) (w : World) :
    Calls Try.prog 4 #[.int .u64 (b : Int), .int .u64 (c : Int), .int .i64 (x.length : Int), .int .i64 (y.length : Int), .int .i64 i] w fun e w' => e = .returned (.bool true) ∧ Below w.heap.size w w' := by
  have hx : x.length ≤ 64 := by omega
  have hy : y.length ≤ 64 := by omega
  have d1 : decide ((x.length : Int) < 0) = false := by simp
  have d2 : decide ((y.length : Int) < 0) = false := by simp
  have d3 : decide ((64 : Int) < (x.length : Int)) = false := by simp; omega
  have d4 : decide ((64 : Int) < (y.length : Int)) = false := by simp; omega
  have d5 : decide ((64 : Int) < (x.length : Int) + (y.length : Int)) = false := by simp; omega
  have d6 : ((z.length : Int) != (x.length : Int) + (y.length : Int)) = false := by rw [HZ.out]; simp
  have RX : Hid (((x.count true : Nat) : Int) = ((x.take (64 : Int).toNat).count true : Int)) := by show _ = _; rw [count_all x hx]
  have RY : Hid (((y.count true : Nat) : Int) = ((y.take (64 : Int).toNat).count true : Int)) := by show _ = _; rw [count_all y hy]
  have RZ : Hid (((x.count true : Nat) : Int) + ((y.count true : Nat) : Int) = ((z.take (64 : Int).toNat).count true : Int)) := by show _ = _; rw [count_all z hz, HZ.out, List.count_append]; simp
  have RN : Hid (((x.count true : Nat) : Int) = ((z.take (x.length : Int).toNat).count true : Int)) := by show _ = _; rw [HZ.out]; simp
  have RM : Hid (((x.count true : Nat) : Int) = ((x.take (x.length : Int).toNat).count true : Int)) := by show _ = _; simp
  have SX : Hid (x = z.take (x.length : Int).toNat) := by show _ = _; rw [HZ.out]; simp
  have SY : Hid (y = z.drop (x.length : Int).toNat) := by show _ = _; rw [HZ.out]; simp
  obtain ⟨cx, hcx⟩ : ∃ cx, cx = x.count true := ⟨_, rfl⟩
  obtain ⟨cy, hcy⟩ : ∃ cy, cy = y.count true := ⟨_, rfl⟩
  have lx : cx ≤ 64 := by rw [hcx]; exact Nat.le_trans List.count_le_length hx
  have ly : cy ≤ 64 := by rw [hcy]; exact Nat.le_trans List.count_le_length hy
  rw [← hcx] at RX RZ RN RM
  rw [← hcy] at RY RZ
  clear hcx hcy
  rcases HX with ⟨e1, HA⟩ | ⟨e1, HA⟩ <;> rcases HY with ⟨e2, HB⟩ | ⟨e2, HB⟩
  all_goals
    go_enter Try.func4, Try.ntmps4
    go_wp2_with fail
    refine calls_gen fun V1 hV_V1 => ?_
    have n_b : Below w.heap.size w V1 := by rw [hV_V1]; (repeat' first | assumption | exact Below.refl _ _ | refine Below.alloc ?_ (by first | exact Nat.le_refl _ | omega | (simp only [siz_alloc, siz_set]; omega)) _ | refine Below.setCell ?_ (by first | exact Nat.le_refl _ | omega | (simp only [siz_alloc, siz_set]; omega)) _ | refine below_drewN ?_ _ | refine Below.drew ?_)
    clear hV_V1
    refine (alive_true _).mono ?_
    rintro e_W1 W1 ⟨rfl, hb_W1⟩
    have b1 := below_step n_b hb_W1; clear n_b
    have z_W1 := b1.size
    clear hb_W1
    go_wp2_with fail
    rw [HA.out, HB.out]
    go_wp2_with fail
    refine calls_gen fun V2 hV_V2 => ?_
    have n_k0 := congrArg (fun v : World => v.heap[W1.heap.size]?) hV_V2
    have n_k1 := congrArg (fun v : World => v.heap[W1.heap.size + 1]?) hV_V2
    simp (maxDischargeDepth := 9) only [blk_new, blk_old, blk_far, lt_succ_of, ne_of_lt1, ne_of_lt2, blk_set, blk_drew, blk_drewN, siz_alloc, siz_set, setAt_cells, Option.map_some, List.setIfInBounds_toArray, List.set_cons_zero, List.set_cons_succ, List.set_nil, ne_eq, not_false_eq_true, Nat.lt_add_one, Nat.add_right_cancel_iff, Nat.add_left_cancel_iff, lt_s2, ne_s2, ne_t2, lt_s3, ne_s3, ne_t3, lt_s4, ne_s4, ne_t4, lt_s5, ne_s5, ne_t5, lt_s6, ne_s6, ne_t6, lt_s7, ne_s7, ne_t7, lt_s8, ne_s8, ne_t8, Nat.succ_ne_self, Nat.lt_irrefl, reduceCtorEq] at n_k0
    simp (maxDischargeDepth := 9) only [blk_new, blk_old, blk_far, lt_succ_of, ne_of_lt1, ne_of_lt2, blk_set, blk_drew, blk_drewN, siz_alloc, siz_set, setAt_cells, Option.map_some, List.setIfInBounds_toArray, List.set_cons_zero, List.set_cons_succ, List.set_nil, ne_eq, not_false_eq_true, Nat.lt_add_one, Nat.add_right_cancel_iff, Nat.add_left_cancel_iff, lt_s2, ne_s2, ne_t2, lt_s3, ne_s3, ne_t3, lt_s4, ne_s4, ne_t4, lt_s5, ne_s5, ne_t5, lt_s6, ne_s6, ne_t6, lt_s7, ne_s7, ne_t7, lt_s8, ne_s8, ne_t8, Nat.succ_ne_self, Nat.lt_irrefl, reduceCtorEq] at n_k1
    have n_b : Below w.heap.size w V2 := by rw [hV_V2]; (repeat' first | assumption | exact Below.refl _ _ | refine Below.alloc ?_ (by first | exact Nat.le_refl _ | omega | (simp only [siz_alloc, siz_set]; omega)) _ | refine Below.setCell ?_ (by first | exact Nat.le_refl _ | omega | (simp only [siz_alloc, siz_set]; omega)) _ | refine below_drewN ?_ _ | refine Below.drew ?_)
    have k0 := n_k0; clear n_k0
    have k1 := n_k1; clear n_k1
    clear hV_V2
    refine (join_at x y z hxy _ _ _ _ rfl rfl rfl rfl HZ.out _).mono ?_
    rintro e_W2 W2 ⟨rfl, hb_W2⟩
    have b2 := below_step n_b hb_W2; clear n_b
    replace k0 := keep_blk hb_W2 k0
    have c_k0 := cells_of k0
    have f_k0 := free_of k0
    have l_k0_W2 := lt_of k0
    replace k1 := keep_blk hb_W2 k1
    have c_k1 := cells_of k1
    have f_k1 := free_of k1
    have l_k1_W2 := lt_of k1
    have z_W2 := b2.size
    clear hb_W2
    go_wp2_with fail
    refine wp_gen fun V3 hV_V3 => ?_
    have n_k0 := congrArg (fun v : World => v.heap[W1.heap.size]?) hV_V3
    have n_k1 := congrArg (fun v : World => v.heap[W1.heap.size + 1]?) hV_V3
    have n_k2 := congrArg (fun v : World => v.heap[W2.heap.size]?) hV_V3
    simp (maxDischargeDepth := 9) only [blk_new, blk_old, blk_far, lt_succ_of, ne_of_lt1, ne_of_lt2, blk_set, blk_drew, blk_drewN, siz_alloc, siz_set, setAt_cells, Option.map_some, List.setIfInBounds_toArray, List.set_cons_zero, List.set_cons_succ, List.set_nil, ne_eq, not_false_eq_true, Nat.lt_add_one, Nat.add_right_cancel_iff, Nat.add_left_cancel_iff, lt_s2, ne_s2, ne_t2, lt_s3, ne_s3, ne_t3, lt_s4, ne_s4, ne_t4, lt_s5, ne_s5, ne_t5, lt_s6, ne_s6, ne_t6, lt_s7, ne_s7, ne_t7, lt_s8, ne_s8, ne_t8, Nat.succ_ne_self, Nat.lt_irrefl, reduceCtorEq, k0, k1, l_k0_W2, l_k1_W2] at n_k0
    simp (maxDischargeDepth := 9) only [blk_new, blk_old, blk_far, lt_succ_of, ne_of_lt1, ne_of_lt2, blk_set, blk_drew, blk_drewN, siz_alloc, siz_set, setAt_cells, Option.map_some, List.setIfInBounds_toArray, List.set_cons_zero, List.set_cons_succ, List.set_nil, ne_eq, not_false_eq_true, Nat.lt_add_one, Nat.add_right_cancel_iff, Nat.add_left_cancel_iff, lt_s2, ne_s2, ne_t2, lt_s3, ne_s3, ne_t3, lt_s4, ne_s4, ne_t4, lt_s5, ne_s5, ne_t5, lt_s6, ne_s6, ne_t6, lt_s7, ne_s7, ne_t7, lt_s8, ne_s8, ne_t8, Nat.succ_ne_self, Nat.lt_irrefl, reduceCtorEq, k0, k1, l_k0_W2, l_k1_W2] at n_k1
    simp (maxDischargeDepth := 9) only [blk_new, blk_old, blk_far, lt_succ_of, ne_of_lt1, ne_of_lt2, blk_set, blk_drew, blk_drewN, siz_alloc, siz_set, setAt_cells, Option.map_some, List.setIfInBounds_toArray, List.set_cons_zero, List.set_cons_succ, List.set_nil, ne_eq, not_false_eq_true, Nat.lt_add_one, Nat.add_right_cancel_iff, Nat.add_left_cancel_iff, lt_s2, ne_s2, ne_t2, lt_s3, ne_s3, ne_t3, lt_s4, ne_s4, ne_t4, lt_s5, ne_s5, ne_t5, lt_s6, ne_s6, ne_t6, lt_s7, ne_s7, ne_t7, lt_s8, ne_s8, ne_t8, Nat.succ_ne_self, Nat.lt_irrefl, reduceCtorEq, k0, k1, l_k0_W2, l_k1_W2] at n_k2
    have n_b : Below w.heap.size w V3 := by rw [hV_V3]; (repeat' first | assumption | exact Below.refl _ _ | refine Below.alloc ?_ (by first | exact Nat.le_refl _ | omega | (simp only [siz_alloc, siz_set]; omega)) _ | refine Below.setCell ?_ (by first | exact Nat.le_refl _ | omega | (simp only [siz_alloc, siz_set]; omega)) _ | refine below_drewN ?_ _ | refine Below.drew ?_)
    clear k0 c_k0 f_k0
    clear k1 c_k1 f_k1
    have k0 := n_k0; clear n_k0
    have k1 := n_k1; clear n_k1
    have k2 := n_k2; clear n_k2
    clear hV_V3
    have g_k0 := grown_cells k0
    have g_k1 := grown_cells k1
    have g_k2 := grown_cells k2
    refine wp_region_quiet_below (by kernel_rfl) (by kernel_rfl) ?_
    repeat (go_big_quiet_step ((go_at_call 11; first | with_reducible exact Calls.regrown_of (rank_at z hz _ _ _ _ rfl rfl RZ.out _) | with_reducible exact Calls.regrown_of (rank_at x hx _ _ _ _ rfl rfl RX.out _) | with_reducible exact Calls.regrown_of (rank_at y hy _ _ _ _ rfl rfl RY.out _))))
    refine wpQuiet_nil ?_
    intro W3 hW_W3
    have hb_W3 := below_of_regrown hW_W3
    have b3 := below_step n_b hb_W3; clear n_b hW_W3
    clear g_k0 g_k1 g_k2
    replace k0 := keep_blk hb_W3 k0
    have c_k0 := cells_of k0
    have f_k0 := free_of k0
    have l_k0_W3 := lt_of k0
    replace k1 := keep_blk hb_W3 k1
    have c_k1 := cells_of k1
    have f_k1 := free_of k1
    have l_k1_W3 := lt_of k1
    replace k2 := keep_blk hb_W3 k2
    have c_k2 := cells_of k2
    have f_k2 := free_of k2
    have l_k2_W3 := lt_of k2
    have z_W3 := b3.size
    clear hb_W3
    go_wp2_with fail
    refine calls_gen fun V4 hV_V4 => ?_
    have n_k0 := congrArg (fun v : World => v.heap[W1.heap.size]?) hV_V4
    have n_k1 := congrArg (fun v : World => v.heap[W1.heap.size + 1]?) hV_V4
    have n_k2 := congrArg (fun v : World => v.heap[W2.heap.size]?) hV_V4
    simp (maxDischargeDepth := 9) only [blk_new, blk_old, blk_far, lt_succ_of, ne_of_lt1, ne_of_lt2, blk_set, blk_drew, blk_drewN, siz_alloc, siz_set, setAt_cells, Option.map_some, List.setIfInBounds_toArray, List.set_cons_zero, List.set_cons_succ, List.set_nil, ne_eq, not_false_eq_true, Nat.lt_add_one, Nat.add_right_cancel_iff, Nat.add_left_cancel_iff, lt_s2, ne_s2, ne_t2, lt_s3, ne_s3, ne_t3, lt_s4, ne_s4, ne_t4, lt_s5, ne_s5, ne_t5, lt_s6, ne_s6, ne_t6, lt_s7, ne_s7, ne_t7, lt_s8, ne_s8, ne_t8, Nat.succ_ne_self, Nat.lt_irrefl, reduceCtorEq, k0, k1, k2, l_k0_W2, l_k1_W2, l_k0_W3, l_k1_W3, l_k2_W3] at n_k0
    simp (maxDischargeDepth := 9) only [blk_new, blk_old, blk_far, lt_succ_of, ne_of_lt1, ne_of_lt2, blk_set, blk_drew, blk_drewN, siz_alloc, siz_set, setAt_cells, Option.map_some, List.setIfInBounds_toArray, List.set_cons_zero, List.set_cons_succ, List.set_nil, ne_eq, not_false_eq_true, Nat.lt_add_one, Nat.add_right_cancel_iff, Nat.add_left_cancel_iff, lt_s2, ne_s2, ne_t2, lt_s3, ne_s3, ne_t3, lt_s4, ne_s4, ne_t4, lt_s5, ne_s5, ne_t5, lt_s6, ne_s6, ne_t6, lt_s7, ne_s7, ne_t7, lt_s8, ne_s8, ne_t8, Nat.succ_ne_self, Nat.lt_irrefl, reduceCtorEq, k0, k1, k2, l_k0_W2, l_k1_W2, l_k0_W3, l_k1_W3, l_k2_W3] at n_k1
    simp (maxDischargeDepth := 9) only [blk_new, blk_old, blk_far, lt_succ_of, ne_of_lt1, ne_of_lt2, blk_set, blk_drew, blk_drewN, siz_alloc, siz_set, setAt_cells, Option.map_some, List.setIfInBounds_toArray, List.set_cons_zero, List.set_cons_succ, List.set_nil, ne_eq, not_false_eq_true, Nat.lt_add_one, Nat.add_right_cancel_iff, Nat.add_left_cancel_iff, lt_s2, ne_s2, ne_t2, lt_s3, ne_s3, ne_t3, lt_s4, ne_s4, ne_t4, lt_s5, ne_s5, ne_t5, lt_s6, ne_s6, ne_t6, lt_s7, ne_s7, ne_t7, lt_s8, ne_s8, ne_t8, Nat.succ_ne_self, Nat.lt_irrefl, reduceCtorEq, k0, k1, k2, l_k0_W2, l_k1_W2, l_k0_W3, l_k1_W3, l_k2_W3] at n_k2
    have n_b : Below w.heap.size w V4 := by rw [hV_V4]; (repeat' first | assumption | exact Below.refl _ _ | refine Below.alloc ?_ (by first | exact Nat.le_refl _ | omega | (simp only [siz_alloc, siz_set]; omega)) _ | refine Below.setCell ?_ (by first | exact Nat.le_refl _ | omega | (simp only [siz_alloc, siz_set]; omega)) _ | refine below_drewN ?_ _ | refine Below.drew ?_)
    clear k0 c_k0 f_k0
    clear k1 c_k1 f_k1
    clear k2 c_k2 f_k2
    have k0 := n_k0; clear n_k0
    have k1 := n_k1; clear n_k1
    have k2 := n_k2; clear n_k2
    clear hV_V4
    refine (split_at z hz x y _ SX.out SY.out _ _ rfl rfl _).mono ?_
    rintro e_W4 W4 ⟨rfl, hb_W4⟩
    have b4 := below_step n_b hb_W4; clear n_b
    replace k0 := keep_blk hb_W4 k0
    have c_k0 := cells_of k0
    have f_k0 := free_of k0
    have l_k0_W4 := lt_of k0
    replace k1 := keep_blk hb_W4 k1
    have c_k1 := cells_of k1
    have f_k1 := free_of k1
    have l_k1_W4 := lt_of k1
    replace k2 := keep_blk hb_W4 k2
    have c_k2 := cells_of k2
    have f_k2 := free_of k2
    have l_k2_W4 := lt_of k2
    have z_W4 := b4.size
    clear hb_W4
    go_wp2_with fail
    refine calls_gen fun V5 hV_V5 => ?_
    have n_k0 := congrArg (fun v : World => v.heap[W1.heap.size]?) hV_V5
    have n_k1 := congrArg (fun v : World => v.heap[W1.heap.size + 1]?) hV_V5
    have n_k2 := congrArg (fun v : World => v.heap[W2.heap.size]?) hV_V5
    have n_k3 := congrArg (fun v : World => v.heap[W4.heap.size]?) hV_V5
    have n_k4 := congrArg (fun v : World => v.heap[W4.heap.size + 1]?) hV_V5
    simp (maxDischargeDepth := 9) only [blk_new, blk_old, blk_far, lt_succ_of, ne_of_lt1, ne_of_lt2, blk_set, blk_drew, blk_drewN, siz_alloc, siz_set, setAt_cells, Option.map_some, List.setIfInBounds_toArray, List.set_cons_zero, List.set_cons_succ, List.set_nil, ne_eq, not_false_eq_true, Nat.lt_add_one, Nat.add_right_cancel_iff, Nat.add_left_cancel_iff, lt_s2, ne_s2, ne_t2, lt_s3, ne_s3, ne_t3, lt_s4, ne_s4, ne_t4, lt_s5, ne_s5, ne_t5, lt_s6, ne_s6, ne_t6, lt_s7, ne_s7, ne_t7, lt_s8, ne_s8, ne_t8, Nat.succ_ne_self, Nat.lt_irrefl, reduceCtorEq, k0, k1, k2, l_k0_W2, l_k1_W2, l_k0_W3, l_k1_W3, l_k2_W3, l_k0_W4, l_k1_W4, l_k2_W4] at n_k0
    simp (maxDischargeDepth := 9) only [blk_new, blk_old, blk_far, lt_succ_of, ne_of_lt1, ne_of_lt2, blk_set, blk_drew, blk_drewN, siz_alloc, siz_set, setAt_cells, Option.map_some, List.setIfInBounds_toArray, List.set_cons_zero, List.set_cons_succ, List.set_nil, ne_eq, not_false_eq_true, Nat.lt_add_one, Nat.add_right_cancel_iff, Nat.add_left_cancel_iff, lt_s2, ne_s2, ne_t2, lt_s3, ne_s3, ne_t3, lt_s4, ne_s4, ne_t4, lt_s5, ne_s5, ne_t5, lt_s6, ne_s6, ne_t6, lt_s7, ne_s7, ne_t7, lt_s8, ne_s8, ne_t8, Nat.succ_ne_self, Nat.lt_irrefl, reduceCtorEq, k0, k1, k2, l_k0_W2, l_k1_W2, l_k0_W3, l_k1_W3, l_k2_W3, l_k0_W4, l_k1_W4, l_k2_W4] at n_k1
    simp (maxDischargeDepth := 9) only [blk_new, blk_old, blk_far, lt_succ_of, ne_of_lt1, ne_of_lt2, blk_set, blk_drew, blk_drewN, siz_alloc, siz_set, setAt_cells, Option.map_some, List.setIfInBounds_toArray, List.set_cons_zero, List.set_cons_succ, List.set_nil, ne_eq, not_false_eq_true, Nat.lt_add_one, Nat.add_right_cancel_iff, Nat.add_left_cancel_iff, lt_s2, ne_s2, ne_t2, lt_s3, ne_s3, ne_t3, lt_s4, ne_s4, ne_t4, lt_s5, ne_s5, ne_t5, lt_s6, ne_s6, ne_t6, lt_s7, ne_s7, ne_t7, lt_s8, ne_s8, ne_t8, Nat.succ_ne_self, Nat.lt_irrefl, reduceCtorEq, k0, k1, k2, l_k0_W2, l_k1_W2, l_k0_W3, l_k1_W3, l_k2_W3, l_k0_W4, l_k1_W4, l_k2_W4] at n_k2
    simp (maxDischargeDepth := 9) only [blk_new, blk_old, blk_far, lt_succ_of, ne_of_lt1, ne_of_lt2, blk_set, blk_drew, blk_drewN, siz_alloc, siz_set, setAt_cells, Option.map_some, List.setIfInBounds_toArray, List.set_cons_zero, List.set_cons_succ, List.set_nil, ne_eq, not_false_eq_true, Nat.lt_add_one, Nat.add_right_cancel_iff, Nat.add_left_cancel_iff, lt_s2, ne_s2, ne_t2, lt_s3, ne_s3, ne_t3, lt_s4, ne_s4, ne_t4, lt_s5, ne_s5, ne_t5, lt_s6, ne_s6, ne_t6, lt_s7, ne_s7, ne_t7, lt_s8, ne_s8, ne_t8, Nat.succ_ne_self, Nat.lt_irrefl, reduceCtorEq, k0, k1, k2, l_k0_W2, l_k1_W2, l_k0_W3, l_k1_W3, l_k2_W3, l_k0_W4, l_k1_W4, l_k2_W4] at n_k3
    simp (maxDischargeDepth := 9) only [blk_new, blk_old, blk_far, lt_succ_of, ne_of_lt1, ne_of_lt2, blk_set, blk_drew, blk_drewN, siz_alloc, siz_set, setAt_cells, Option.map_some, List.setIfInBounds_toArray, List.set_cons_zero, List.set_cons_succ, List.set_nil, ne_eq, not_false_eq_true, Nat.lt_add_one, Nat.add_right_cancel_iff, Nat.add_left_cancel_iff, lt_s2, ne_s2, ne_t2, lt_s3, ne_s3, ne_t3, lt_s4, ne_s4, ne_t4, lt_s5, ne_s5, ne_t5, lt_s6, ne_s6, ne_t6, lt_s7, ne_s7, ne_t7, lt_s8, ne_s8, ne_t8, Nat.succ_ne_self, Nat.lt_irrefl, reduceCtorEq, k0, k1, k2, l_k0_W2, l_k1_W2, l_k0_W3, l_k1_W3, l_k2_W3, l_k0_W4, l_k1_W4, l_k2_W4] at n_k4
    have n_b : Below w.heap.size w V5 := by rw [hV_V5]; (repeat' first | assumption | exact Below.refl _ _ | refine Below.alloc ?_ (by first | exact Nat.le_refl _ | omega | (simp only [siz_alloc, siz_set]; omega)) _ | refine Below.setCell ?_ (by first | exact Nat.le_refl _ | omega | (simp only [siz_alloc, siz_set]; omega)) _ | refine below_drewN ?_ _ | refine Below.drew ?_)
    clear k0 c_k0 f_k0
    clear k1 c_k1 f_k1
    clear k2 c_k2 f_k2
    have k0 := n_k0; clear n_k0
    have k1 := n_k1; clear n_k1
    have k2 := n_k2; clear n_k2
    have k3 := n_k3; clear n_k3
    have k4 := n_k4; clear n_k4
    clear hV_V5
    refine (split_at z hz p q _ HP.out HQ.out _ _ rfl rfl _).mono ?_
    rintro e_W5 W5 ⟨rfl, hb_W5⟩
    have b5 := below_step n_b hb_W5; clear n_b
    replace k0 := keep_blk hb_W5 k0
    have c_k0 := cells_of k0
    have f_k0 := free_of k0
    have l_k0_W5 := lt_of k0
    replace k1 := keep_blk hb_W5 k1
    have c_k1 := cells_of k1
    have f_k1 := free_of k1
    have l_k1_W5 := lt_of k1
    replace k2 := keep_blk hb_W5 k2
    have c_k2 := cells_of k2
    have f_k2 := free_of k2
    have l_k2_W5 := lt_of k2
    replace k3 := keep_blk hb_W5 k3
    have c_k3 := cells_of k3
    have f_k3 := free_of k3
    have l_k3_W5 := lt_of k3
    replace k4 := keep_blk hb_W5 k4
    have c_k4 := cells_of k4
    have f_k4 := free_of k4
    have l_k4_W5 := lt_of k4
    have z_W5 := b5.size
    clear hb_W5
    go_wp2_with fail
    refine calls_gen fun V6 hV_V6 => ?_
    have n_k0 := congrArg (fun v : World => v.heap[W1.heap.size]?) hV_V6
    have n_k1 := congrArg (fun v : World => v.heap[W1.heap.size + 1]?) hV_V6
    have n_k2 := congrArg (fun v : World => v.heap[W2.heap.size]?) hV_V6
    have n_k3 := congrArg (fun v : World => v.heap[W4.heap.size]?) hV_V6
    have n_k4 := congrArg (fun v : World => v.heap[W4.heap.size + 1]?) hV_V6
    have n_k5 := congrArg (fun v : World => v.heap[W5.heap.size]?) hV_V6
    have n_k6 := congrArg (fun v : World => v.heap[W5.heap.size + 1]?) hV_V6
    simp (maxDischargeDepth := 9) only [blk_new, blk_old, blk_far, lt_succ_of, ne_of_lt1, ne_of_lt2, blk_set, blk_drew, blk_drewN, siz_alloc, siz_set, setAt_cells, Option.map_some, List.setIfInBounds_toArray, List.set_cons_zero, List.set_cons_succ, List.set_nil, ne_eq, not_false_eq_true, Nat.lt_add_one, Nat.add_right_cancel_iff, Nat.add_left_cancel_iff, lt_s2, ne_s2, ne_t2, lt_s3, ne_s3, ne_t3, lt_s4, ne_s4, ne_t4, lt_s5, ne_s5, ne_t5, lt_s6, ne_s6, ne_t6, lt_s7, ne_s7, ne_t7, lt_s8, ne_s8, ne_t8, Nat.succ_ne_self, Nat.lt_irrefl, reduceCtorEq, k0, k1, k2, k3, k4, l_k0_W2, l_k1_W2, l_k0_W3, l_k1_W3, l_k2_W3, l_k0_W4, l_k1_W4, l_k2_W4, l_k0_W5, l_k1_W5, l_k2_W5, l_k3_W5, l_k4_W5] at n_k0
    simp (maxDischargeDepth := 9) only [blk_new, blk_old, blk_far, lt_succ_of, ne_of_lt1, ne_of_lt2, blk_set, blk_drew, blk_drewN, siz_alloc, siz_set, setAt_cells, Option.map_some, List.setIfInBounds_toArray, List.set_cons_zero, List.set_cons_succ, List.set_nil, ne_eq, not_false_eq_true, Nat.lt_add_one, Nat.add_right_cancel_iff, Nat.add_left_cancel_iff, lt_s2, ne_s2, ne_t2, lt_s3, ne_s3, ne_t3, lt_s4, ne_s4, ne_t4, lt_s5, ne_s5, ne_t5, lt_s6, ne_s6, ne_t6, lt_s7, ne_s7, ne_t7, lt_s8, ne_s8, ne_t8, Nat.succ_ne_self, Nat.lt_irrefl, reduceCtorEq, k0, k1, k2, k3, k4, l_k0_W2, l_k1_W2, l_k0_W3, l_k1_W3, l_k2_W3, l_k0_W4, l_k1_W4, l_k2_W4, l_k0_W5, l_k1_W5, l_k2_W5, l_k3_W5, l_k4_W5] at n_k1
    simp (maxDischargeDepth := 9) only [blk_new, blk_old, blk_far, lt_succ_of, ne_of_lt1, ne_of_lt2, blk_set, blk_drew, blk_drewN, siz_alloc, siz_set, setAt_cells, Option.map_some, List.setIfInBounds_toArray, List.set_cons_zero, List.set_cons_succ, List.set_nil, ne_eq, not_false_eq_true, Nat.lt_add_one, Nat.add_right_cancel_iff, Nat.add_left_cancel_iff, lt_s2, ne_s2, ne_t2, lt_s3, ne_s3, ne_t3, lt_s4, ne_s4, ne_t4, lt_s5, ne_s5, ne_t5, lt_s6, ne_s6, ne_t6, lt_s7, ne_s7, ne_t7, lt_s8, ne_s8, ne_t8, Nat.succ_ne_self, Nat.lt_irrefl, reduceCtorEq, k0, k1, k2, k3, k4, l_k0_W2, l_k1_W2, l_k0_W3, l_k1_W3, l_k2_W3, l_k0_W4, l_k1_W4, l_k2_W4, l_k0_W5, l_k1_W5, l_k2_W5, l_k3_W5, l_k4_W5] at n_k2
    simp (maxDischargeDepth := 9) only [blk_new, blk_old, blk_far, lt_succ_of, ne_of_lt1, ne_of_lt2, blk_set, blk_drew, blk_drewN, siz_alloc, siz_set, setAt_cells, Option.map_some, List.setIfInBounds_toArray, List.set_cons_zero, List.set_cons_succ, List.set_nil, ne_eq, not_false_eq_true, Nat.lt_add_one, Nat.add_right_cancel_iff, Nat.add_left_cancel_iff, lt_s2, ne_s2, ne_t2, lt_s3, ne_s3, ne_t3, lt_s4, ne_s4, ne_t4, lt_s5, ne_s5, ne_t5, lt_s6, ne_s6, ne_t6, lt_s7, ne_s7, ne_t7, lt_s8, ne_s8, ne_t8, Nat.succ_ne_self, Nat.lt_irrefl, reduceCtorEq, k0, k1, k2, k3, k4, l_k0_W2, l_k1_W2, l_k0_W3, l_k1_W3, l_k2_W3, l_k0_W4, l_k1_W4, l_k2_W4, l_k0_W5, l_k1_W5, l_k2_W5, l_k3_W5, l_k4_W5] at n_k3
    simp (maxDischargeDepth := 9) only [blk_new, blk_old, blk_far, lt_succ_of, ne_of_lt1, ne_of_lt2, blk_set, blk_drew, blk_drewN, siz_alloc, siz_set, setAt_cells, Option.map_some, List.setIfInBounds_toArray, List.set_cons_zero, List.set_cons_succ, List.set_nil, ne_eq, not_false_eq_true, Nat.lt_add_one, Nat.add_right_cancel_iff, Nat.add_left_cancel_iff, lt_s2, ne_s2, ne_t2, lt_s3, ne_s3, ne_t3, lt_s4, ne_s4, ne_t4, lt_s5, ne_s5, ne_t5, lt_s6, ne_s6, ne_t6, lt_s7, ne_s7, ne_t7, lt_s8, ne_s8, ne_t8, Nat.succ_ne_self, Nat.lt_irrefl, reduceCtorEq, k0, k1, k2, k3, k4, l_k0_W2, l_k1_W2, l_k0_W3, l_k1_W3, l_k2_W3, l_k0_W4, l_k1_W4, l_k2_W4, l_k0_W5, l_k1_W5, l_k2_W5, l_k3_W5, l_k4_W5] at n_k4
    simp (maxDischargeDepth := 9) only [blk_new, blk_old, blk_far, lt_succ_of, ne_of_lt1, ne_of_lt2, blk_set, blk_drew, blk_drewN, siz_alloc, siz_set, setAt_cells, Option.map_some, List.setIfInBounds_toArray, List.set_cons_zero, List.set_cons_succ, List.set_nil, ne_eq, not_false_eq_true, Nat.lt_add_one, Nat.add_right_cancel_iff, Nat.add_left_cancel_iff, lt_s2, ne_s2, ne_t2, lt_s3, ne_s3, ne_t3, lt_s4, ne_s4, ne_t4, lt_s5, ne_s5, ne_t5, lt_s6, ne_s6, ne_t6, lt_s7, ne_s7, ne_t7, lt_s8, ne_s8, ne_t8, Nat.succ_ne_self, Nat.lt_irrefl, reduceCtorEq, k0, k1, k2, k3, k4, l_k0_W2, l_k1_W2, l_k0_W3, l_k1_W3, l_k2_W3, l_k0_W4, l_k1_W4, l_k2_W4, l_k0_W5, l_k1_W5, l_k2_W5, l_k3_W5, l_k4_W5] at n_k5
    simp (maxDischargeDepth := 9) only [blk_new, blk_old, blk_far, lt_succ_of, ne_of_lt1, ne_of_lt2, blk_set, blk_drew, blk_drewN, siz_alloc, siz_set, setAt_cells, Option.map_some, List.setIfInBounds_toArray, List.set_cons_zero, List.set_cons_succ, List.set_nil, ne_eq, not_false_eq_true, Nat.lt_add_one, Nat.add_right_cancel_iff, Nat.add_left_cancel_iff, lt_s2, ne_s2, ne_t2, lt_s3, ne_s3, ne_t3, lt_s4, ne_s4, ne_t4, lt_s5, ne_s5, ne_t5, lt_s6, ne_s6, ne_t6, lt_s7, ne_s7, ne_t7, lt_s8, ne_s8, ne_t8, Nat.succ_ne_self, Nat.lt_irrefl, reduceCtorEq, k0, k1, k2, k3, k4, l_k0_W2, l_k1_W2, l_k0_W3, l_k1_W3, l_k2_W3, l_k0_W4, l_k1_W4, l_k2_W4, l_k0_W5, l_k1_W5, l_k2_W5, l_k3_W5, l_k4_W5] at n_k6
    have n_b : Below w.heap.size w V6 := by rw [hV_V6]; (repeat' first | assumption | exact Below.refl _ _ | refine Below.alloc ?_ (by first | exact Nat.le_refl _ | omega | (simp only [siz_alloc, siz_set]; omega)) _ | refine Below.setCell ?_ (by first | exact Nat.le_refl _ | omega | (simp only [siz_alloc, siz_set]; omega)) _ | refine below_drewN ?_ _ | refine Below.drew ?_)
    clear k0 c_k0 f_k0
    clear k1 c_k1 f_k1
    clear k2 c_k2 f_k2
    clear k3 c_k3 f_k3
    clear k4 c_k4 f_k4
    have k0 := n_k0; clear n_k0
    have k1 := n_k1; clear n_k1
    have k2 := n_k2; clear n_k2
    have k3 := n_k3; clear n_k3
    have k4 := n_k4; clear n_k4
    have k5 := n_k5; clear n_k5
    have k6 := n_k6; clear n_k6
    clear hV_V6
    refine (join_at p q z hpq _ _ _ _ rfl rfl rfl rfl HPQ.out _).mono ?_
    rintro e_W6 W6 ⟨rfl, hb_W6⟩
    have b6 := below_step n_b hb_W6; clear n_b
    replace k0 := keep_blk hb_W6 k0
    have c_k0 := cells_of k0
    have f_k0 := free_of k0
    have l_k0_W6 := lt_of k0
    replace k1 := keep_blk hb_W6 k1
    have c_k1 := cells_of k1
    have f_k1 := free_of k1
    have l_k1_W6 := lt_of k1
    replace k2 := keep_blk hb_W6 k2
    have c_k2 := cells_of k2
    have f_k2 := free_of k2
    have l_k2_W6 := lt_of k2
    replace k3 := keep_blk hb_W6 k3
    have c_k3 := cells_of k3
    have f_k3 := free_of k3
    have l_k3_W6 := lt_of k3
    replace k4 := keep_blk hb_W6 k4
    have c_k4 := cells_of k4
    have f_k4 := free_of k4
    have l_k4_W6 := lt_of k4
    replace k5 := keep_blk hb_W6 k5
    have c_k5 := cells_of k5
    have f_k5 := free_of k5
    have l_k5_W6 := lt_of k5
    replace k6 := keep_blk hb_W6 k6
    have c_k6 := cells_of k6
    have f_k6 := free_of k6
    have l_k6_W6 := lt_of k6
    have z_W6 := b6.size
    clear hb_W6
    go_wp2_with fail
    refine wp_gen fun V7 hV_V7 => ?_
    have n_k0 := congrArg (fun v : World => v.heap[W1.heap.size]?) hV_V7
    have n_k1 := congrArg (fun v : World => v.heap[W1.heap.size + 1]?) hV_V7
    have n_k2 := congrArg (fun v : World => v.heap[W2.heap.size]?) hV_V7
    have n_k3 := congrArg (fun v : World => v.heap[W4.heap.size]?) hV_V7
    have n_k4 := congrArg (fun v : World => v.heap[W4.heap.size + 1]?) hV_V7
    have n_k5 := congrArg (fun v : World => v.heap[W5.heap.size]?) hV_V7
    have n_k6 := congrArg (fun v : World => v.heap[W5.heap.size + 1]?) hV_V7
    have n_k7 := congrArg (fun v : World => v.heap[W6.heap.size]?) hV_V7
    simp (maxDischargeDepth := 9) only [blk_new, blk_old, blk_far, lt_succ_of, ne_of_lt1, ne_of_lt2, blk_set, blk_drew, blk_drewN, siz_alloc, siz_set, setAt_cells, Option.map_some, List.setIfInBounds_toArray, List.set_cons_zero, List.set_cons_succ, List.set_nil, ne_eq, not_false_eq_true, Nat.lt_add_one, Nat.add_right_cancel_iff, Nat.add_left_cancel_iff, lt_s2, ne_s2, ne_t2, lt_s3, ne_s3, ne_t3, lt_s4, ne_s4, ne_t4, lt_s5, ne_s5, ne_t5, lt_s6, ne_s6, ne_t6, lt_s7, ne_s7, ne_t7, lt_s8, ne_s8, ne_t8, Nat.succ_ne_self, Nat.lt_irrefl, reduceCtorEq, k0, k1, k2, k3, k4, k5, k6, l_k0_W2, l_k1_W2, l_k0_W3, l_k1_W3, l_k2_W3, l_k0_W4, l_k1_W4, l_k2_W4, l_k0_W5, l_k1_W5, l_k2_W5, l_k3_W5, l_k4_W5, l_k0_W6, l_k1_W6, l_k2_W6, l_k3_W6, l_k4_W6, l_k5_W6, l_k6_W6] at n_k0
    simp (maxDischargeDepth := 9) only [blk_new, blk_old, blk_far, lt_succ_of, ne_of_lt1, ne_of_lt2, blk_set, blk_drew, blk_drewN, siz_alloc, siz_set, setAt_cells, Option.map_some, List.setIfInBounds_toArray, List.set_cons_zero, List.set_cons_succ, List.set_nil, ne_eq, not_false_eq_true, Nat.lt_add_one, Nat.add_right_cancel_iff, Nat.add_left_cancel_iff, lt_s2, ne_s2, ne_t2, lt_s3, ne_s3, ne_t3, lt_s4, ne_s4, ne_t4, lt_s5, ne_s5, ne_t5, lt_s6, ne_s6, ne_t6, lt_s7, ne_s7, ne_t7, lt_s8, ne_s8, ne_t8, Nat.succ_ne_self, Nat.lt_irrefl, reduceCtorEq, k0, k1, k2, k3, k4, k5, k6, l_k0_W2, l_k1_W2, l_k0_W3, l_k1_W3, l_k2_W3, l_k0_W4, l_k1_W4, l_k2_W4, l_k0_W5, l_k1_W5, l_k2_W5, l_k3_W5, l_k4_W5, l_k0_W6, l_k1_W6, l_k2_W6, l_k3_W6, l_k4_W6, l_k5_W6, l_k6_W6] at n_k1
    simp (maxDischargeDepth := 9) only [blk_new, blk_old, blk_far, lt_succ_of, ne_of_lt1, ne_of_lt2, blk_set, blk_drew, blk_drewN, siz_alloc, siz_set, setAt_cells, Option.map_some, List.setIfInBounds_toArray, List.set_cons_zero, List.set_cons_succ, List.set_nil, ne_eq, not_false_eq_true, Nat.lt_add_one, Nat.add_right_cancel_iff, Nat.add_left_cancel_iff, lt_s2, ne_s2, ne_t2, lt_s3, ne_s3, ne_t3, lt_s4, ne_s4, ne_t4, lt_s5, ne_s5, ne_t5, lt_s6, ne_s6, ne_t6, lt_s7, ne_s7, ne_t7, lt_s8, ne_s8, ne_t8, Nat.succ_ne_self, Nat.lt_irrefl, reduceCtorEq, k0, k1, k2, k3, k4, k5, k6, l_k0_W2, l_k1_W2, l_k0_W3, l_k1_W3, l_k2_W3, l_k0_W4, l_k1_W4, l_k2_W4, l_k0_W5, l_k1_W5, l_k2_W5, l_k3_W5, l_k4_W5, l_k0_W6, l_k1_W6, l_k2_W6, l_k3_W6, l_k4_W6, l_k5_W6, l_k6_W6] at n_k2
    simp (maxDischargeDepth := 9) only [blk_new, blk_old, blk_far, lt_succ_of, ne_of_lt1, ne_of_lt2, blk_set, blk_drew, blk_drewN, siz_alloc, siz_set, setAt_cells, Option.map_some, List.setIfInBounds_toArray, List.set_cons_zero, List.set_cons_succ, List.set_nil, ne_eq, not_false_eq_true, Nat.lt_add_one, Nat.add_right_cancel_iff, Nat.add_left_cancel_iff, lt_s2, ne_s2, ne_t2, lt_s3, ne_s3, ne_t3, lt_s4, ne_s4, ne_t4, lt_s5, ne_s5, ne_t5, lt_s6, ne_s6, ne_t6, lt_s7, ne_s7, ne_t7, lt_s8, ne_s8, ne_t8, Nat.succ_ne_self, Nat.lt_irrefl, reduceCtorEq, k0, k1, k2, k3, k4, k5, k6, l_k0_W2, l_k1_W2, l_k0_W3, l_k1_W3, l_k2_W3, l_k0_W4, l_k1_W4, l_k2_W4, l_k0_W5, l_k1_W5, l_k2_W5, l_k3_W5, l_k4_W5, l_k0_W6, l_k1_W6, l_k2_W6, l_k3_W6, l_k4_W6, l_k5_W6, l_k6_W6] at n_k3
    simp (maxDischargeDepth := 9) only [blk_new, blk_old, blk_far, lt_succ_of, ne_of_lt1, ne_of_lt2, blk_set, blk_drew, blk_drewN, siz_alloc, siz_set, setAt_cells, Option.map_some, List.setIfInBounds_toArray, List.set_cons_zero, List.set_cons_succ, List.set_nil, ne_eq, not_false_eq_true, Nat.lt_add_one, Nat.add_right_cancel_iff, Nat.add_left_cancel_iff, lt_s2, ne_s2, ne_t2, lt_s3, ne_s3, ne_t3, lt_s4, ne_s4, ne_t4, lt_s5, ne_s5, ne_t5, lt_s6, ne_s6, ne_t6, lt_s7, ne_s7, ne_t7, lt_s8, ne_s8, ne_t8, Nat.succ_ne_self, Nat.lt_irrefl, reduceCtorEq, k0, k1, k2, k3, k4, k5, k6, l_k0_W2, l_k1_W2, l_k0_W3, l_k1_W3, l_k2_W3, l_k0_W4, l_k1_W4, l_k2_W4, l_k0_W5, l_k1_W5, l_k2_W5, l_k3_W5, l_k4_W5, l_k0_W6, l_k1_W6, l_k2_W6, l_k3_W6, l_k4_W6, l_k5_W6, l_k6_W6] at n_k4
    simp (maxDischargeDepth := 9) only [blk_new, blk_old, blk_far, lt_succ_of, ne_of_lt1, ne_of_lt2, blk_set, blk_drew, blk_drewN, siz_alloc, siz_set, setAt_cells, Option.map_some, List.setIfInBounds_toArray, List.set_cons_zero, List.set_cons_succ, List.set_nil, ne_eq, not_false_eq_true, Nat.lt_add_one, Nat.add_right_cancel_iff, Nat.add_left_cancel_iff, lt_s2, ne_s2, ne_t2, lt_s3, ne_s3, ne_t3, lt_s4, ne_s4, ne_t4, lt_s5, ne_s5, ne_t5, lt_s6, ne_s6, ne_t6, lt_s7, ne_s7, ne_t7, lt_s8, ne_s8, ne_t8, Nat.succ_ne_self, Nat.lt_irrefl, reduceCtorEq, k0, k1, k2, k3, k4, k5, k6, l_k0_W2, l_k1_W2, l_k0_W3, l_k1_W3, l_k2_W3, l_k0_W4, l_k1_W4, l_k2_W4, l_k0_W5, l_k1_W5, l_k2_W5, l_k3_W5, l_k4_W5, l_k0_W6, l_k1_W6, l_k2_W6, l_k3_W6, l_k4_W6, l_k5_W6, l_k6_W6] at n_k5
    simp (maxDischargeDepth := 9) only [blk_new, blk_old, blk_far, lt_succ_of, ne_of_lt1, ne_of_lt2, blk_set, blk_drew, blk_drewN, siz_alloc, siz_set, setAt_cells, Option.map_some, List.setIfInBounds_toArray, List.set_cons_zero, List.set_cons_succ, List.set_nil, ne_eq, not_false_eq_true, Nat.lt_add_one, Nat.add_right_cancel_iff, Nat.add_left_cancel_iff, lt_s2, ne_s2, ne_t2, lt_s3, ne_s3, ne_t3, lt_s4, ne_s4, ne_t4, lt_s5, ne_s5, ne_t5, lt_s6, ne_s6, ne_t6, lt_s7, ne_s7, ne_t7, lt_s8, ne_s8, ne_t8, Nat.succ_ne_self, Nat.lt_irrefl, reduceCtorEq, k0, k1, k2, k3, k4, k5, k6, l_k0_W2, l_k1_W2, l_k0_W3, l_k1_W3, l_k2_W3, l_k0_W4, l_k1_W4, l_k2_W4, l_k0_W5, l_k1_W5, l_k2_W5, l_k3_W5, l_k4_W5, l_k0_W6, l_k1_W6, l_k2_W6, l_k3_W6, l_k4_W6, l_k5_W6, l_k6_W6] at n_k6
    simp (maxDischargeDepth := 9) only [blk_new, blk_old, blk_far, lt_succ_of, ne_of_lt1, ne_of_lt2, blk_set, blk_drew, blk_drewN, siz_alloc, siz_set, setAt_cells, Option.map_some, List.setIfInBounds_toArray, List.set_cons_zero, List.set_cons_succ, List.set_nil, ne_eq, not_false_eq_true, Nat.lt_add_one, Nat.add_right_cancel_iff, Nat.add_left_cancel_iff, lt_s2, ne_s2, ne_t2, lt_s3, ne_s3, ne_t3, lt_s4, ne_s4, ne_t4, lt_s5, ne_s5, ne_t5, lt_s6, ne_s6, ne_t6, lt_s7, ne_s7, ne_t7, lt_s8, ne_s8, ne_t8, Nat.succ_ne_self, Nat.lt_irrefl, reduceCtorEq, k0, k1, k2, k3, k4, k5, k6, l_k0_W2, l_k1_W2, l_k0_W3, l_k1_W3, l_k2_W3, l_k0_W4, l_k1_W4, l_k2_W4, l_k0_W5, l_k1_W5, l_k2_W5, l_k3_W5, l_k4_W5, l_k0_W6, l_k1_W6, l_k2_W6, l_k3_W6, l_k4_W6, l_k5_W6, l_k6_W6] at n_k7
    have n_b : Below w.heap.size w V7 := by rw [hV_V7]; (repeat' first | assumption | exact Below.refl _ _ | refine Below.alloc ?_ (by first | exact Nat.le_refl _ | omega | (simp only [siz_alloc, siz_set]; omega)) _ | refine Below.setCell ?_ (by first | exact Nat.le_refl _ | omega | (simp only [siz_alloc, siz_set]; omega)) _ | refine below_drewN ?_ _ | refine Below.drew ?_)
    clear k0 c_k0 f_k0
    clear k1 c_k1 f_k1
    clear k2 c_k2 f_k2
    clear k3 c_k3 f_k3
    clear k4 c_k4 f_k4
    clear k5 c_k5 f_k5
    clear k6 c_k6 f_k6
    have k0 := n_k0; clear n_k0
    have k1 := n_k1; clear n_k1
    have k2 := n_k2; clear n_k2
    have k3 := n_k3; clear n_k3
    have k4 := n_k4; clear n_k4
    have k5 := n_k5; clear n_k5
    have k6 := n_k6; clear n_k6
    have k7 := n_k7; clear n_k7
    clear hV_V7
    have g_k0 := grown_cells k0
    have g_k1 := grown_cells k1
    have g_k2 := grown_cells k2
    have g_k3 := grown_cells k3
    have g_k4 := grown_cells k4
    have g_k5 := grown_cells k5
    have g_k6 := grown_cells k6
    have g_k7 := grown_cells k7
    refine wp_region_quiet_below (by kernel_rfl) (by kernel_rfl) ?_
    repeat (go_big_quiet_step ((go_at_call 11; first | with_reducible exact Calls.regrown_of (rank_at z hz _ _ _ _ rfl rfl RN.out _) | with_reducible exact Calls.regrown_of (rank_at x hx _ _ _ _ rfl rfl RM.out _))))
    refine wpQuiet_nil ?_
    intro W7 hW_W7
    have hb_W7 := below_of_regrown hW_W7
    have b7 := below_step n_b hb_W7; clear n_b hW_W7
    clear g_k0 g_k1 g_k2 g_k3 g_k4 g_k5 g_k6 g_k7
    replace k0 := keep_blk hb_W7 k0
    have c_k0 := cells_of k0
    have f_k0 := free_of k0
    have l_k0_W7 := lt_of k0
    replace k1 := keep_blk hb_W7 k1
    have c_k1 := cells_of k1
    have f_k1 := free_of k1
    have l_k1_W7 := lt_of k1
    replace k2 := keep_blk hb_W7 k2
    have c_k2 := cells_of k2
    have f_k2 := free_of k2
    have l_k2_W7 := lt_of k2
    replace k3 := keep_blk hb_W7 k3
    have c_k3 := cells_of k3
    have f_k3 := free_of k3
    have l_k3_W7 := lt_of k3
    replace k4 := keep_blk hb_W7 k4
    have c_k4 := cells_of k4
    have f_k4 := free_of k4
    have l_k4_W7 := lt_of k4
    replace k5 := keep_blk hb_W7 k5
    have c_k5 := cells_of k5
    have f_k5 := free_of k5
    have l_k5_W7 := lt_of k5
    replace k6 := keep_blk hb_W7 k6
    have c_k6 := cells_of k6
    have f_k6 := free_of k6
    have l_k6_W7 := lt_of k6
    replace k7 := keep_blk hb_W7 k7
    have c_k7 := cells_of k7
    have f_k7 := free_of k7
    have l_k7_W7 := lt_of k7
    have z_W7 := b7.size
    clear hb_W7
    go_wp2
    go_ret
    exact ⟨rfl, b7⟩
theorem joins_walk (b c n m i : Int) (hb : (Lit.int .u64 b).wf = true) (hc : (Lit.int .u64 c).wf = true) (w : World) :
    Calls Try.prog 4 #[.int .u64 b, .int .u64 c, .int .i64 n, .int .i64 m, .int .i64 i] w fun e w' => e = .returned (.bool true) ∧ Below w.heap.size w w' := by
  obtain ⟨h1, h2⟩ := wf_u64 hb
  obtain ⟨h3, h4⟩ := wf_u64 hc
  clear hb hc
  by_cases g1 : n < 0
  · have d1 : decide (n < 0) = true := by simpa using g1
    go_enter Try.func4, Try.ntmps4
    go_wp2_with fail
    refine calls_gen fun V1 hV_V1 => ?_
    have n_b : Below w.heap.size w V1 := by rw [hV_V1]; (repeat' first | assumption | exact Below.refl _ _ | refine Below.alloc ?_ (by first | exact Nat.le_refl _ | omega | (simp only [siz_alloc, siz_set]; omega)) _ | refine Below.setCell ?_ (by first | exact Nat.le_refl _ | omega | (simp only [siz_alloc, siz_set]; omega)) _ | refine below_drewN ?_ _ | refine Below.drew ?_)
    clear hV_V1
    refine (alive_true _).mono ?_
    rintro e_W1 W1 ⟨rfl, hb_W1⟩
    have b1 := below_step n_b hb_W1; clear n_b
    have z_W1 := b1.size
    clear hb_W1
    go_wp2
    go_ret
    exact ⟨rfl, b1⟩
  · have d1 : decide (n < 0) = false := by simp; omega
    by_cases g2 : m < 0
    · have d2 : decide (m < 0) = true := by simpa using g2
      go_enter Try.func4, Try.ntmps4
      go_wp2_with fail
      refine calls_gen fun V1 hV_V1 => ?_
      have n_b : Below w.heap.size w V1 := by rw [hV_V1]; (repeat' first | assumption | exact Below.refl _ _ | refine Below.alloc ?_ (by first | exact Nat.le_refl _ | omega | (simp only [siz_alloc, siz_set]; omega)) _ | refine Below.setCell ?_ (by first | exact Nat.le_refl _ | omega | (simp only [siz_alloc, siz_set]; omega)) _ | refine below_drewN ?_ _ | refine Below.drew ?_)
      clear hV_V1
      refine (alive_true _).mono ?_
      rintro e_W1 W1 ⟨rfl, hb_W1⟩
      have b1 := below_step n_b hb_W1; clear n_b
      have z_W1 := b1.size
      clear hb_W1
      go_wp2
      go_ret
      exact ⟨rfl, b1⟩
    · have d2 : decide (m < 0) = false := by simp; omega
      by_cases g3 : 64 < n
      · have d3 : decide ((64 : Int) < n) = true := by simpa using g3
        go_enter Try.func4, Try.ntmps4
        go_wp2_with fail
        refine calls_gen fun V1 hV_V1 => ?_
        have n_b : Below w.heap.size w V1 := by rw [hV_V1]; (repeat' first | assumption | exact Below.refl _ _ | refine Below.alloc ?_ (by first | exact Nat.le_refl _ | omega | (simp only [siz_alloc, siz_set]; omega)) _ | refine Below.setCell ?_ (by first | exact Nat.le_refl _ | omega | (simp only [siz_alloc, siz_set]; omega)) _ | refine below_drewN ?_ _ | refine Below.drew ?_)
        clear hV_V1
        refine (alive_true _).mono ?_
        rintro e_W1 W1 ⟨rfl, hb_W1⟩
        have b1 := below_step n_b hb_W1; clear n_b
        have z_W1 := b1.size
        clear hb_W1
        go_wp2
        go_ret
        exact ⟨rfl, b1⟩
      · have d3 : decide ((64 : Int) < n) = false := by simp; omega
        by_cases g4 : 64 < m
        · have d4 : decide ((64 : Int) < m) = true := by simpa using g4
          go_enter Try.func4, Try.ntmps4
          go_wp2_with fail
          refine calls_gen fun V1 hV_V1 => ?_
          have n_b : Below w.heap.size w V1 := by rw [hV_V1]; (repeat' first | assumption | exact Below.refl _ _ | refine Below.alloc ?_ (by first | exact Nat.le_refl _ | omega | (simp only [siz_alloc, siz_set]; omega)) _ | refine Below.setCell ?_ (by first | exact Nat.le_refl _ | omega | (simp only [siz_alloc, siz_set]; omega)) _ | refine below_drewN ?_ _ | refine Below.drew ?_)
          clear hV_V1
          refine (alive_true _).mono ?_
          rintro e_W1 W1 ⟨rfl, hb_W1⟩
          have b1 := below_step n_b hb_W1; clear n_b
          have z_W1 := b1.size
          clear hb_W1
          go_wp2
          go_ret
          exact ⟨rfl, b1⟩
        · have d4 : decide ((64 : Int) < m) = false := by simp; omega
          by_cases g5 : 64 < n + m
          · have d5 : decide ((64 : Int) < n + m) = true := by simpa using g5
            go_enter Try.func4, Try.ntmps4
            go_wp2_with fail
            refine calls_gen fun V1 hV_V1 => ?_
            have n_b : Below w.heap.size w V1 := by rw [hV_V1]; (repeat' first | assumption | exact Below.refl _ _ | refine Below.alloc ?_ (by first | exact Nat.le_refl _ | omega | (simp only [siz_alloc, siz_set]; omega)) _ | refine Below.setCell ?_ (by first | exact Nat.le_refl _ | omega | (simp only [siz_alloc, siz_set]; omega)) _ | refine below_drewN ?_ _ | refine Below.drew ?_)
            clear hV_V1
            refine (alive_true _).mono ?_
            rintro e_W1 W1 ⟨rfl, hb_W1⟩
            have b1 := below_step n_b hb_W1; clear n_b
            have z_W1 := b1.size
            clear hb_W1
            go_wp2
            go_ret
            exact ⟨rfl, b1⟩
          · clear d1 d2 d3 d4
            obtain ⟨b, rfl⟩ := Int.eq_ofNat_of_zero_le h1
            obtain ⟨c, rfl⟩ := Int.eq_ofNat_of_zero_le h3
            obtain ⟨n, rfl⟩ := Int.eq_ofNat_of_zero_le (show 0 ≤ n by omega)
            obtain ⟨m, rfl⟩ := Int.eq_ofNat_of_zero_le (show 0 ≤ m by omega)
            obtain ⟨x, rfl, hx⟩ := hold_alt b n (by omega) (by omega)
            obtain ⟨y, rfl, hy⟩ := hold_alt c m (by omega) (by omega)
            exact joins_core b c x y _ _ _ i (by omega) rfl (by simp; omega) rfl rfl (by show _ = _; rw [List.take_append_drop]) (by rw [← List.length_append, List.take_append_drop]; simp; omega) hx hy w
theorem tmod_bd (i : Int) (n : Nat) : -(n : Int) ≤ i.tmod ((n : Int) + 1) ∧ i.tmod ((n : Int) + 1) ≤ n := by
  have h := Int.tmod_lt_of_pos i (show (0:Int) < (n : Int) + 1 by omega)
  have h2 := Int.tmod_lt_of_pos (-i) (show (0:Int) < (n : Int) + 1 by omega)
  rw [Int.neg_tmod] at h2
  omega
theorem tmod_in (i : Int) (n : Nat) : ∃ K : Nat, (i.tmod ((n : Int) + 1) + n + 1) % ((n : Int) + 1) = (K : Int) ∧ K ≤ n := by
  have h := Int.emod_nonneg (i.tmod ((n : Int) + 1) + n + 1) (show ((n : Int) + 1) ≠ 0 by omega)
  have h2 := Int.emod_lt_of_pos (i.tmod ((n : Int) + 1) + n + 1) (show (0:Int) < (n : Int) + 1 by omega)
  exact ⟨((i.tmod ((n : Int) + 1) + n + 1) % ((n : Int) + 1)).toNat, by omega, by omega⟩
theorem insL_getD (l : List Bool) (K : Nat) (one : Bool) (hK : K ≤ l.length) : (insL l K one).getD K false = one ∧ (∀ j, j < K → (insL l K one).getD j false = l.getD j false) ∧ (∀ j, K ≤ j → (insL l K one).getD (j + 1) false = l.getD j false) := by
  have hl : (l.take K).length = K := by simp; omega
  refine ⟨?_, fun j hj => ?_, fun j hj => ?_⟩
  · simp only [insL, List.getD_eq_getElem?_getD]
    rw [List.getElem?_append_right (by omega), hl]; simp
  · simp only [insL, List.getD_eq_getElem?_getD]
    rw [List.getElem?_append_left (by omega), List.getElem?_take_of_lt hj]
  · simp only [insL, List.getD_eq_getElem?_getD]
    rw [List.getElem?_append_right (by omega), hl, show j + 1 - K = (j - K) + 1 by omega, List.getElem?_cons_succ, List.getElem?_drop]
    congr 2; omega
set_option maxHeartbeats 1000000 in
theorem all_core (b : Nat) (x c : List Bool) (i : Int) (K : Nat) (one : Bool) (hx : x.length < 64) (hK : K ≤ x.length) (HC : Hid (c = insL x K one)) (hc : c.length ≤ 64) (hi0 : -(x.length : Int) ≤ i.tmod ((x.length : Int) + 1)) (hi1 : i.tmod ((x.length : Int) + 1) ≤ x.length) (hk : (i.tmod ((x.length : Int) + 1) + x.length + 1) % ((x.length : Int) + 1) = (K : Int))
    (HA : Hid (Go.bits .and .u64 (b : Int) (IntKind.u64.wrap (IntKind.u64.wrap (2 ^ x.length) - 1)) = (pack x : Int))) (w : World) :
    Calls Try.prog 5 #[.int .u64 (b : Int), .int .i64 (x.length : Int), .int .i64 i, .bool one] w fun e w' => e = .returned (.bool true) ∧ Below w.heap.size w w' := by
  obtain ⟨gk, glt, gge⟩ := insL_getD x K one hK
  have d1 : decide ((x.length : Int) < 0) = false := by simp
  have d3 : decide ((64 : Int) ≤ (x.length : Int)) = false := by simp; omega
  have d6 : ((c.length : Int) != (x.length : Int) + 1) = false := by rw [HC.out, insL_length]; simp
  have GK : Hid (one = getL c (K : Int)) := by show _ = _; rw [HC.out, getL_nat, gk]
  have GL : ∀ j, j < K → Hid (x.getD j false = getL c (j : Int)) := fun j hj => by show _ = _; rw [HC.out, getL_nat, glt j hj]
  have GG : ∀ j, K ≤ j → Hid (x.getD j false = getL c ((j : Int) + 1)) := fun j hj => by show _ = _; rw [HC.out, show ((j : Int) + 1) = ((j + 1 : Nat) : Int) by omega, getL_nat, gge j hj]
  have GX : ∀ j : Nat, Hid (x.getD j false = getL x (j : Int)) := fun j => by show _ = _; rw [getL_nat]
  have HGL := Lib.hid GL; have HGG := Lib.hid GG; have HGX := Lib.hid GX
  clear GL GG GX gk glt gge
  go_enter Try.func5, Try.ntmps5
  go_wp2_with fail
  refine calls_gen fun V1 hV_V1 => ?_
  have n_b : Below w.heap.size w V1 := by rw [hV_V1]; (repeat' first | assumption | exact Below.refl _ _ | refine Below.alloc ?_ (by first | exact Nat.le_refl _ | omega | (simp only [siz_alloc, siz_set]; omega)) _ | refine Below.setCell ?_ (by first | exact Nat.le_refl _ | omega | (simp only [siz_alloc, siz_set]; omega)) _ | refine below_drewN ?_ _ | refine Below.drew ?_)
  clear hV_V1
  refine (alive_true _).mono ?_
  rintro e_W1 W1 ⟨rfl, hb_W1⟩
  have b1 := below_step n_b hb_W1; clear n_b
  have z_W1 := b1.size
  clear hb_W1
  go_wp2_with fail
  rw [HA.out]
  go_wp2_with fail
  refine calls_gen fun V2 hV_V2 => ?_
  have n_k0 := congrArg (fun v : World => v.heap[W1.heap.size]?) hV_V2
  simp (maxDischargeDepth := 9) only [blk_new, blk_old, blk_far, lt_succ_of, ne_of_lt1, ne_of_lt2, blk_set, blk_drew, blk_drewN, siz_alloc, siz_set, setAt_cells, Option.map_some, List.setIfInBounds_toArray, List.set_cons_zero, List.set_cons_succ, List.set_nil, ne_eq, not_false_eq_true, Nat.lt_add_one, Nat.add_right_cancel_iff, Nat.add_left_cancel_iff, lt_s2, ne_s2, ne_t2, lt_s3, ne_s3, ne_t3, lt_s4, ne_s4, ne_t4, lt_s5, ne_s5, ne_t5, lt_s6, ne_s6, ne_t6, lt_s7, ne_s7, ne_t7, lt_s8, ne_s8, ne_t8, Nat.succ_ne_self, Nat.lt_irrefl, reduceCtorEq] at n_k0
  have n_b : Below w.heap.size w V2 := by rw [hV_V2]; (repeat' first | assumption | exact Below.refl _ _ | refine Below.alloc ?_ (by first | exact Nat.le_refl _ | omega | (simp only [siz_alloc, siz_set]; omega)) _ | refine Below.setCell ?_ (by first | exact Nat.le_refl _ | omega | (simp only [siz_alloc, siz_set]; omega)) _ | refine below_drewN ?_ _ | refine Below.drew ?_)
  have k0 := n_k0; clear n_k0
  clear hV_V2
  refine (insert_at x c _ one (by omega) (by omega) hx _ _ rfl rfl (by rw [HC.out]; simp) _).mono ?_
  rintro e_W2 W2 ⟨rfl, hb_W2⟩
  have b2 := below_step n_b hb_W2; clear n_b
  replace k0 := keep_blk hb_W2 k0
  have c_k0 := cells_of k0
  have f_k0 := free_of k0
  have l_k0_W2 := lt_of k0
  have z_W2 := b2.size
  clear hb_W2
  go_wp2_with fail
  refine calls_gen fun V3 hV_V3 => ?_
  have n_k0 := congrArg (fun v : World => v.heap[W1.heap.size]?) hV_V3
  have n_k1 := congrArg (fun v : World => v.heap[W2.heap.size]?) hV_V3
  simp (maxDischargeDepth := 9) only [blk_new, blk_old, blk_far, lt_succ_of, ne_of_lt1, ne_of_lt2, blk_set, blk_drew, blk_drewN, siz_alloc, siz_set, setAt_cells, Option.map_some, List.setIfInBounds_toArray, List.set_cons_zero, List.set_cons_succ, List.set_nil, ne_eq, not_false_eq_true, Nat.lt_add_one, Nat.add_right_cancel_iff, Nat.add_left_cancel_iff, lt_s2, ne_s2, ne_t2, lt_s3, ne_s3, ne_t3, lt_s4, ne_s4, ne_t4, lt_s5, ne_s5, ne_t5, lt_s6, ne_s6, ne_t6, lt_s7, ne_s7, ne_t7, lt_s8, ne_s8, ne_t8, Nat.succ_ne_self, Nat.lt_irrefl, reduceCtorEq, k0, l_k0_W2] at n_k0
  simp (maxDischargeDepth := 9) only [blk_new, blk_old, blk_far, lt_succ_of, ne_of_lt1, ne_of_lt2, blk_set, blk_drew, blk_drewN, siz_alloc, siz_set, setAt_cells, Option.map_some, List.setIfInBounds_toArray, List.set_cons_zero, List.set_cons_succ, List.set_nil, ne_eq, not_false_eq_true, Nat.lt_add_one, Nat.add_right_cancel_iff, Nat.add_left_cancel_iff, lt_s2, ne_s2, ne_t2, lt_s3, ne_s3, ne_t3, lt_s4, ne_s4, ne_t4, lt_s5, ne_s5, ne_t5, lt_s6, ne_s6, ne_t6, lt_s7, ne_s7, ne_t7, lt_s8, ne_s8, ne_t8, Nat.succ_ne_self, Nat.lt_irrefl, reduceCtorEq, k0, l_k0_W2] at n_k1
  have n_b : Below w.heap.size w V3 := by rw [hV_V3]; (repeat' first | assumption | exact Below.refl _ _ | refine Below.alloc ?_ (by first | exact Nat.le_refl _ | omega | (simp only [siz_alloc, siz_set]; omega)) _ | refine Below.setCell ?_ (by first | exact Nat.le_refl _ | omega | (simp only [siz_alloc, siz_set]; omega)) _ | refine below_drewN ?_ _ | refine Below.drew ?_)
  clear k0 c_k0 f_k0
  have k0 := n_k0; clear n_k0
  have k1 := n_k1; clear n_k1
  clear hV_V3
  refine (get_at c hc _ _ _ one rfl rfl GK.out _).mono ?_
  rintro e_W3 W3 ⟨rfl, hb_W3⟩
  have b3 := below_step n_b hb_W3; clear n_b
  replace k0 := keep_blk hb_W3 k0
  have c_k0 := cells_of k0
  have f_k0 := free_of k0
  have l_k0_W3 := lt_of k0
  replace k1 := keep_blk hb_W3 k1
  have c_k1 := cells_of k1
  have f_k1 := free_of k1
  have l_k1_W3 := lt_of k1
  have z_W3 := b3.size
  clear hb_W3
  go_wp2_with fail
  have K_k0 := k0
  have K_k1 := k1
  go_loopw [13] (fun s wr => (∃ j : Nat, j ≤ x.length ∧ s = .int .i64 (j : Int)) ∧ Below w.heap.size w wr ∧ wr.heap[W1.heap.size]? = W3.heap[W1.heap.size]? ∧ wr.heap[W2.heap.size]? = W3.heap[W2.heap.size]? ∧ True) (fun s _ => x.length - (intOf s).toNat)
  case atStart => exact ⟨⟨0, Nat.zero_le _, rfl⟩, b3, rfl, rfl, trivial⟩
  case round =>
    obtain ⟨⟨j, hj, rfl⟩, bw, e_k0, e_k1, -⟩ := hrel
    replace k0 := e_k0.trans k0; clear e_k0
    have c_k0 := cells_of k0
    have f_k0 := free_of k0
    have l_k0_wr := lt_of k0
    replace k1 := e_k1.trans k1; clear e_k1
    have c_k1 := cells_of k1
    have f_k1 := free_of k1
    have l_k1_wr := lt_of k1
    have z_wr := bw.size
    have gx := HGX.out j
    by_cases hlt : j < x.length
    · by_cases hjk : j < K
      · have g := HGL.out j hjk
        generalize x.getD j false = β at g gx
        go_wp2_with fail
        refine wp_gen fun V5 hV_V5 => ?_
        have n_k0 := congrArg (fun v : World => v.heap[W1.heap.size]?) hV_V5
        have n_k1 := congrArg (fun v : World => v.heap[W2.heap.size]?) hV_V5
        simp (maxDischargeDepth := 9) only [blk_new, blk_old, blk_far, lt_succ_of, ne_of_lt1, ne_of_lt2, blk_set, blk_drew, blk_drewN, siz_alloc, siz_set, setAt_cells, Option.map_some, List.setIfInBounds_toArray, List.set_cons_zero, List.set_cons_succ, List.set_nil, ne_eq, not_false_eq_true, Nat.lt_add_one, Nat.add_right_cancel_iff, Nat.add_left_cancel_iff, lt_s2, ne_s2, ne_t2, lt_s3, ne_s3, ne_t3, lt_s4, ne_s4, ne_t4, lt_s5, ne_s5, ne_t5, lt_s6, ne_s6, ne_t6, lt_s7, ne_s7, ne_t7, lt_s8, ne_s8, ne_t8, Nat.succ_ne_self, Nat.lt_irrefl, reduceCtorEq, k0, k1, l_k0_W2, l_k0_W3, l_k1_W3, l_k0_wr, l_k1_wr] at n_k0
        simp (maxDischargeDepth := 9) only [blk_new, blk_old, blk_far, lt_succ_of, ne_of_lt1, ne_of_lt2, blk_set, blk_drew, blk_drewN, siz_alloc, siz_set, setAt_cells, Option.map_some, List.setIfInBounds_toArray, List.set_cons_zero, List.set_cons_succ, List.set_nil, ne_eq, not_false_eq_true, Nat.lt_add_one, Nat.add_right_cancel_iff, Nat.add_left_cancel_iff, lt_s2, ne_s2, ne_t2, lt_s3, ne_s3, ne_t3, lt_s4, ne_s4, ne_t4, lt_s5, ne_s5, ne_t5, lt_s6, ne_s6, ne_t6, lt_s7, ne_s7, ne_t7, lt_s8, ne_s8, ne_t8, Nat.succ_ne_self, Nat.lt_irrefl, reduceCtorEq, k0, k1, l_k0_W2, l_k0_W3, l_k1_W3, l_k0_wr, l_k1_wr] at n_k1
        have n_b : Below w.heap.size w V5 := by rw [hV_V5]; (repeat' first | assumption | exact Below.refl _ _ | refine Below.alloc ?_ (by first | exact Nat.le_refl _ | omega | (simp only [siz_alloc, siz_set]; omega)) _ | refine Below.setCell ?_ (by first | exact Nat.le_refl _ | omega | (simp only [siz_alloc, siz_set]; omega)) _ | refine below_drewN ?_ _ | refine Below.drew ?_)
        clear k0 c_k0 f_k0
        clear k1 c_k1 f_k1
        have k0 := n_k0; clear n_k0
        have k1 := n_k1; clear n_k1
        clear hV_V5
        have g_k0 := grown_cells k0
        have g_k1 := grown_cells k1
        refine wp_region_quiet_below (by kernel_rfl) (by kernel_rfl) ?_
        repeat (go_big_quiet_step ((go_at_call 13; first | with_reducible exact Calls.regrown_of (get_at c hc _ _ _ β rfl rfl g.out _) | with_reducible exact Calls.regrown_of (get_at x (by omega) _ _ _ β rfl rfl gx.out _))))
        refine wpQuiet_nil ?_
        intro W5 hW_W5
        have hb_W5 := below_of_regrown hW_W5
        have b5 := below_step n_b hb_W5; clear n_b hW_W5
        clear g_k0 g_k1
        replace k0 := keep_blk hb_W5 k0
        have c_k0 := cells_of k0
        have f_k0 := free_of k0
        have l_k0_W5 := lt_of k0
        replace k1 := keep_blk hb_W5 k1
        have c_k1 := cells_of k1
        have f_k1 := free_of k1
        have l_k1_W5 := lt_of k1
        have z_W5 := b5.size
        clear hb_W5
        go_wp2_with fail
        go_roundw
        case rel => exact ⟨⟨j + 1, by omega, by go_num⟩, b5, k0.trans K_k0.symm, k1.trans K_k1.symm, trivial⟩
        case measure => simp [intOf]; omega
      · have g := HGG.out j (by omega)
        generalize x.getD j false = β at g gx
        go_wp2_with fail
        refine wp_gen fun V5 hV_V5 => ?_
        have n_k0 := congrArg (fun v : World => v.heap[W1.heap.size]?) hV_V5
        have n_k1 := congrArg (fun v : World => v.heap[W2.heap.size]?) hV_V5
        simp (maxDischargeDepth := 9) only [blk_new, blk_old, blk_far, lt_succ_of, ne_of_lt1, ne_of_lt2, blk_set, blk_drew, blk_drewN, siz_alloc, siz_set, setAt_cells, Option.map_some, List.setIfInBounds_toArray, List.set_cons_zero, List.set_cons_succ, List.set_nil, ne_eq, not_false_eq_true, Nat.lt_add_one, Nat.add_right_cancel_iff, Nat.add_left_cancel_iff, lt_s2, ne_s2, ne_t2, lt_s3, ne_s3, ne_t3, lt_s4, ne_s4, ne_t4, lt_s5, ne_s5, ne_t5, lt_s6, ne_s6, ne_t6, lt_s7, ne_s7, ne_t7, lt_s8, ne_s8, ne_t8, Nat.succ_ne_self, Nat.lt_irrefl, reduceCtorEq, k0, k1, l_k0_W2, l_k0_W3, l_k1_W3, l_k0_wr, l_k1_wr] at n_k0
        simp (maxDischargeDepth := 9) only [blk_new, blk_old, blk_far, lt_succ_of, ne_of_lt1, ne_of_lt2, blk_set, blk_drew, blk_drewN, siz_alloc, siz_set, setAt_cells, Option.map_some, List.setIfInBounds_toArray, List.set_cons_zero, List.set_cons_succ, List.set_nil, ne_eq, not_false_eq_true, Nat.lt_add_one, Nat.add_right_cancel_iff, Nat.add_left_cancel_iff, lt_s2, ne_s2, ne_t2, lt_s3, ne_s3, ne_t3, lt_s4, ne_s4, ne_t4, lt_s5, ne_s5, ne_t5, lt_s6, ne_s6, ne_t6, lt_s7, ne_s7, ne_t7, lt_s8, ne_s8, ne_t8, Nat.succ_ne_self, Nat.lt_irrefl, reduceCtorEq, k0, k1, l_k0_W2, l_k0_W3, l_k1_W3, l_k0_wr, l_k1_wr] at n_k1
        have n_b : Below w.heap.size w V5 := by rw [hV_V5]; (repeat' first | assumption | exact Below.refl _ _ | refine Below.alloc ?_ (by first | exact Nat.le_refl _ | omega | (simp only [siz_alloc, siz_set]; omega)) _ | refine Below.setCell ?_ (by first | exact Nat.le_refl _ | omega | (simp only [siz_alloc, siz_set]; omega)) _ | refine below_drewN ?_ _ | refine Below.drew ?_)
        clear k0 c_k0 f_k0
        clear k1 c_k1 f_k1
        have k0 := n_k0; clear n_k0
        have k1 := n_k1; clear n_k1
        clear hV_V5
        have g_k0 := grown_cells k0
        have g_k1 := grown_cells k1
        refine wp_region_quiet_below (by kernel_rfl) (by kernel_rfl) ?_
        repeat (go_big_quiet_step ((go_at_call 13; first | with_reducible exact Calls.regrown_of (get_at c hc _ _ _ β rfl rfl g.out _) | with_reducible exact Calls.regrown_of (get_at x (by omega) _ _ _ β rfl rfl gx.out _))))
        refine wpQuiet_nil ?_
        intro W5 hW_W5
        have hb_W5 := below_of_regrown hW_W5
        have b5 := below_step n_b hb_W5; clear n_b hW_W5
        clear g_k0 g_k1
        replace k0 := keep_blk hb_W5 k0
        have c_k0 := cells_of k0
        have f_k0 := free_of k0
        have l_k0_W5 := lt_of k0
        replace k1 := keep_blk hb_W5 k1
        have c_k1 := cells_of k1
        have f_k1 := free_of k1
        have l_k1_W5 := lt_of k1
        have z_W5 := b5.size
        clear hb_W5
        go_wp2_with fail
        go_roundw
        case rel => exact ⟨⟨j + 1, by omega, by go_num⟩, b5, k0.trans K_k0.symm, k1.trans K_k1.symm, trivial⟩
        case measure => simp [intOf]; omega
    · go_wp2_with fail
      refine calls_gen fun V6 hV_V6 => ?_
      have n_k0 := congrArg (fun v : World => v.heap[W1.heap.size]?) hV_V6
      have n_k1 := congrArg (fun v : World => v.heap[W2.heap.size]?) hV_V6
      simp (maxDischargeDepth := 9) only [blk_new, blk_old, blk_far, lt_succ_of, ne_of_lt1, ne_of_lt2, blk_set, blk_drew, blk_drewN, siz_alloc, siz_set, setAt_cells, Option.map_some, List.setIfInBounds_toArray, List.set_cons_zero, List.set_cons_succ, List.set_nil, ne_eq, not_false_eq_true, Nat.lt_add_one, Nat.add_right_cancel_iff, Nat.add_left_cancel_iff, lt_s2, ne_s2, ne_t2, lt_s3, ne_s3, ne_t3, lt_s4, ne_s4, ne_t4, lt_s5, ne_s5, ne_t5, lt_s6, ne_s6, ne_t6, lt_s7, ne_s7, ne_t7, lt_s8, ne_s8, ne_t8, Nat.succ_ne_self, Nat.lt_irrefl, reduceCtorEq, k0, k1, l_k0_W2, l_k0_W3, l_k1_W3, l_k0_wr, l_k1_wr] at n_k0
      simp (maxDischargeDepth := 9) only [blk_new, blk_old, blk_far, lt_succ_of, ne_of_lt1, ne_of_lt2, blk_set, blk_drew, blk_drewN, siz_alloc, siz_set, setAt_cells, Option.map_some, List.setIfInBounds_toArray, List.set_cons_zero, List.set_cons_succ, List.set_nil, ne_eq, not_false_eq_true, Nat.lt_add_one, Nat.add_right_cancel_iff, Nat.add_left_cancel_iff, lt_s2, ne_s2, ne_t2, lt_s3, ne_s3, ne_t3, lt_s4, ne_s4, ne_t4, lt_s5, ne_s5, ne_t5, lt_s6, ne_s6, ne_t6, lt_s7, ne_s7, ne_t7, lt_s8, ne_s8, ne_t8, Nat.succ_ne_self, Nat.lt_irrefl, reduceCtorEq, k0, k1, l_k0_W2, l_k0_W3, l_k1_W3, l_k0_wr, l_k1_wr] at n_k1
      have n_b : Below w.heap.size w V6 := by rw [hV_V6]; (repeat' first | assumption | exact Below.refl _ _ | refine Below.alloc ?_ (by first | exact Nat.le_refl _ | omega | (simp only [siz_alloc, siz_set]; omega)) _ | refine Below.setCell ?_ (by first | exact Nat.le_refl _ | omega | (simp only [siz_alloc, siz_set]; omega)) _ | refine below_drewN ?_ _ | refine Below.drew ?_)
      clear k0 c_k0 f_k0
      clear k1 c_k1 f_k1
      have k0 := n_k0; clear n_k0
      have k1 := n_k1; clear n_k1
      clear hV_V6
      refine (right_yes c hc _).mono ?_
      rintro e_W6 W6 ⟨rfl, hb_W6⟩
      have b6 := below_step n_b hb_W6; clear n_b
      replace k0 := keep_blk hb_W6 k0
      have c_k0 := cells_of k0
      have f_k0 := free_of k0
      have l_k0_W6 := lt_of k0
      replace k1 := keep_blk hb_W6 k1
      have c_k1 := cells_of k1
      have f_k1 := free_of k1
      have l_k1_W6 := lt_of k1
      have z_W6 := b6.size
      clear hb_W6
      go_wp2
      go_ret
      exact ⟨rfl, b6⟩
theorem all_walk (b n i : Int) (one : Bool) (hb : (Lit.int .u64 b).wf = true) (w : World) :
    Calls Try.prog 5 #[.int .u64 b, .int .i64 n, .int .i64 i, .bool one] w fun e w' => e = .returned (.bool true) ∧ Below w.heap.size w w' := by
  obtain ⟨h1, h2⟩ := wf_u64 hb
  clear hb
  by_cases g1 : n < 0
  · have d1 : decide (n < 0) = true := by simpa using g1
    go_enter Try.func5, Try.ntmps5
    go_wp2_with fail
    refine calls_gen fun V1 hV_V1 => ?_
    have n_b : Below w.heap.size w V1 := by rw [hV_V1]; (repeat' first | assumption | exact Below.refl _ _ | refine Below.alloc ?_ (by first | exact Nat.le_refl _ | omega | (simp only [siz_alloc, siz_set]; omega)) _ | refine Below.setCell ?_ (by first | exact Nat.le_refl _ | omega | (simp only [siz_alloc, siz_set]; omega)) _ | refine below_drewN ?_ _ | refine Below.drew ?_)
    clear hV_V1
    refine (alive_true _).mono ?_
    rintro e_W1 W1 ⟨rfl, hb_W1⟩
    have b1 := below_step n_b hb_W1; clear n_b
    have z_W1 := b1.size
    clear hb_W1
    go_wp2
    go_ret
    exact ⟨rfl, b1⟩
  · have d1 : decide (n < 0) = false := by simp; omega
    by_cases g3 : 64 ≤ n
    · have d3 : decide ((64 : Int) ≤ n) = true := by simpa using g3
      go_enter Try.func5, Try.ntmps5
      go_wp2_with fail
      refine calls_gen fun V1 hV_V1 => ?_
      have n_b : Below w.heap.size w V1 := by rw [hV_V1]; (repeat' first | assumption | exact Below.refl _ _ | refine Below.alloc ?_ (by first | exact Nat.le_refl _ | omega | (simp only [siz_alloc, siz_set]; omega)) _ | refine Below.setCell ?_ (by first | exact Nat.le_refl _ | omega | (simp only [siz_alloc, siz_set]; omega)) _ | refine below_drewN ?_ _ | refine Below.drew ?_)
      clear hV_V1
      refine (alive_true _).mono ?_
      rintro e_W1 W1 ⟨rfl, hb_W1⟩
      have b1 := below_step n_b hb_W1; clear n_b
      have z_W1 := b1.size
      clear hb_W1
      go_wp2
      go_ret
      exact ⟨rfl, b1⟩
    · clear d1
      obtain ⟨b, rfl⟩ := Int.eq_ofNat_of_zero_le h1
      obtain ⟨n, rfl⟩ := Int.eq_ofNat_of_zero_le (show 0 ≤ n by omega)
      obtain ⟨x, rfl, hx⟩ := hold_alt b n (by omega) (by omega)
      have hx' : Hid (Go.bits .and .u64 (b : Int) (IntKind.u64.wrap (IntKind.u64.wrap (2 ^ x.length) - 1)) = (pack x : Int)) := by
        rcases hx with ⟨_, h⟩ | ⟨h, _⟩
        · exact h
        · simp at h; omega
      obtain ⟨K, hk, hK⟩ := tmod_in i x.length
      obtain ⟨t1, t2⟩ := tmod_bd i x.length
      exact all_core b x _ i K one (by omega) hK rfl (by rw [insL_length]; omega) t1 t2 hk hx' w
end Go.Proofs.Ytdcgalekcciggaa
