/- LeafBack, LeafWrong: walked. -/
import Derived.Test.YtdcgalekcciggaaLeafJoins
namespace Go.Proofs.Ytdcgalekcciggaa
set_option linter.unusedSimpArgs false
set_option linter.unusedVariables false
set_option linter.unnecessarySimpa false
open Go.RowKit
attribute [local go_sem ↓] Go.wp_at_zero Go.wp_at_succ
attribute [local go_sem] lt_s2 lt_s3 lt_s4 lt_s5 lt_s6 ne_s2 ne_t2 ne_s3 ne_t3 ne_s4 ne_t4
theorem delete_at (l c : List Bool) (i : Int) (hi : 0 ≤ i) (hi2 : i < l.length) (hl : l.length ≤ 64) (A n : Int) (hA : A = pack l) (hn : n = l.length) (hc : c = l.eraseIdx i.toNat) (w : World) :
    Calls Try.prog 20 #[.agg #[.int .u64 A, .int .i64 n], .int .i64 i] w fun e w' =>
      e = .returned (.tuple #[.agg #[.int .u64 (pack c : Int), .int .i64 (c.length : Int)], .bool true]) ∧ Below w.heap.size w w' := by
  obtain ⟨i, rfl⟩ := Int.eq_ofNat_of_zero_le hi
  subst hA hn hc; exact delete_yes l i (by omega) hl w
theorem erase_insL (l : List Bool) (K : Nat) (one : Bool) (hK : K ≤ l.length) : (insL l K one).eraseIdx K = l := by
  have hl : (l.take K).length = K := by simp; omega
  rw [insL, List.eraseIdx_append_of_length_le (by omega), hl, Nat.sub_self]
  simp
set_option maxHeartbeats 1000000 in
theorem back_lt (b : Nat) (x c p q : List Bool) (i : Int) (K : Nat) (one : Bool) (hx : x.length < 64) (hK : K ≤ x.length) (HC : Hid (c = insL x K one)) (hc : c.length ≤ 64) (hKc : K < c.length) (HP : Hid (p = x.take K)) (HQ : Hid (q = x.drop K)) (hpq : p.length + q.length ≤ 64) (hp : p.length = K)
    (hi0 : -(x.length : Int) ≤ i.tmod ((x.length : Int) + 1)) (hi1 : i.tmod ((x.length : Int) + 1) ≤ x.length) (hk : (i.tmod ((x.length : Int) + 1) + x.length + 1) % ((x.length : Int) + 1) = (K : Int))
    (HA : Hid (Go.bits .and .u64 (b : Int) (IntKind.u64.wrap (IntKind.u64.wrap (2 ^ x.length) - 1)) = (pack x : Int))) (w : World) :
    Calls Try.prog 7 #[.int .u64 (b : Int), .int .i64 (x.length : Int), .int .i64 i, .bool one] w fun e w' => e = .returned (.bool true) ∧ Below w.heap.size w w' := by
  obtain ⟨gk, _, _⟩ := insL_getD x K one hK
  have d1 : decide ((x.length : Int) < 0) = false := by simp
  have d2 : decide ((64 : Int) < (x.length : Int)) = false := by simp; omega
  have d3 : decide ((x.length : Int) < (64 : Int)) = true := by simp; omega
  have d4 : ((x.length : Int) == 64) = false := by simp; omega
  have d5 : ((p.length : Int) != (K : Int)) = false := by rw [hp]; simp
  have HPQ : Hid (x = p ++ q) := by show _ = _; rw [HP.out, HQ.out, List.take_append_drop]
  have GK : Hid (one = getL c (K : Int)) := by show _ = _; rw [HC.out, getL_nat, gk]
  have HD : Hid (x = c.eraseIdx (K : Int).toNat) := by show _ = _; rw [HC.out, Int.toNat_natCast, erase_insL x K one hK]
  have hp6 : p.length ≤ 64 := by omega
  have hq6 : q.length ≤ 64 := by omega
  have RP : Hid (((p.count true : Nat) : Int) = ((p.take (64 : Int).toNat).count true : Int)) := by show _ = _; rw [count_all p hp6]
  have RQ : Hid (((q.count true : Nat) : Int) = ((q.take (64 : Int).toNat).count true : Int)) := by show _ = _; rw [count_all q hq6]
  have RX : Hid (((p.count true : Nat) : Int) + ((q.count true : Nat) : Int) = ((x.take (64 : Int).toNat).count true : Int)) := by show _ = _; rw [count_all x (by omega), HPQ.out, List.count_append]; simp
  obtain ⟨cx, hcx⟩ : ∃ cx, cx = p.count true := ⟨_, rfl⟩
  obtain ⟨cy, hcy⟩ : ∃ cy, cy = q.count true := ⟨_, rfl⟩
  have lx : cx ≤ 64 := by rw [hcx]; exact Nat.le_trans List.count_le_length hp6
  have ly : cy ≤ 64 := by rw [hcy]; exact Nat.le_trans List.count_le_length hq6
  rw [← hcx] at RP RX
  rw [← hcy] at RQ RX
  clear hcx hcy gk hp
  go_enter Try.func7, Try.ntmps7
  go_wp2_with fail
  refine calls_gen fun V1 hV_V1 => ?_
  have n_b : Below w.heap.size w V1 := by rw [hV_V1]; (repeat' first | assumption | exact Below.refl _ _ | refine Below.alloc ?_ (by first | exact Nat.le_refl _ | omega | (simp only [siz_alloc, siz_set]; omega)) _ | refine Below.setCell ?_ (by first | exact Nat.le_refl _ | omega | (simp only [siz_alloc, siz_set]; omega)) _ | refine below_drewN ?_ _ | refine Below.drew ?_)
  clear hV_V1
  refine (alive_true _).mono ?_
  rintro e_W1 W1 ⟨rfl, hb_W1⟩
  have b1 := below_step n_b hb_W1; clear n_b
  have z_W1 := b1.size
  clear hb_W1
  go_wp2_with fail
  rw [HA.out]
  go_wp2_with fail
  refine calls_gen fun V2 hV_V2 => ?_
  have n_k0 := congrArg (fun v : World => v.heap[W1.heap.size]?) hV_V2
  simp (maxDischargeDepth := 9) only [blk_new, blk_old, blk_far, lt_succ_of, ne_of_lt1, ne_of_lt2, blk_set, blk_drew, blk_drewN, siz_alloc, siz_set, setAt_cells, Option.map_some, List.setIfInBounds_toArray, List.set_cons_zero, List.set_cons_succ, List.set_nil, ne_eq, not_false_eq_true, Nat.lt_add_one, Nat.add_right_cancel_iff, Nat.add_left_cancel_iff, lt_s2, ne_s2, ne_t2, lt_s3, ne_s3, ne_t3, lt_s4, ne_s4, ne_t4, lt_s5, ne_s5, ne_t5, lt_s6, ne_s6, ne_t6, lt_s7, ne_s7, ne_t7, lt_s8, ne_s8, ne_t8, Nat.succ_ne_self, Nat.lt_irrefl, reduceCtorEq] at n_k0
  have n_b : Below w.heap.size w V2 := by rw [hV_V2]; (repeat' first | assumption | exact Below.refl _ _ | refine Below.alloc ?_ (by first | exact Nat.le_refl _ | omega | (simp only [siz_alloc, siz_set]; omega)) _ | refine Below.setCell ?_ (by first | exact Nat.le_refl _ | omega | (simp only [siz_alloc, siz_set]; omega)) _ | refine below_drewN ?_ _ | refine Below.drew ?_)
  have k0 := n_k0; clear n_k0
  clear hV_V2
  refine (split_at x (by omega) p q _ (by rw [HP.out]; simp) (by rw [HQ.out]; simp) _ _ rfl rfl _).mono ?_
  rintro e_W2 W2 ⟨rfl, hb_W2⟩
  have b2 := below_step n_b hb_W2; clear n_b
  replace k0 := keep_blk hb_W2 k0
  have c_k0 := cells_of k0
  have f_k0 := free_of k0
  have l_k0_W2 := lt_of k0
  have z_W2 := b2.size
  clear hb_W2
  go_wp2_with fail
  refine calls_gen fun V3 hV_V3 => ?_
  have n_k0 := congrArg (fun v : World => v.heap[W1.heap.size]?) hV_V3
  have n_k1 := congrArg (fun v : World => v.heap[W2.heap.size]?) hV_V3
  have n_k2 := congrArg (fun v : World => v.heap[W2.heap.size + 1]?) hV_V3
  simp (maxDischargeDepth := 9) only [blk_new, blk_old, blk_far, lt_succ_of, ne_of_lt1, ne_of_lt2, blk_set, blk_drew, blk_drewN, siz_alloc, siz_set, setAt_cells, Option.map_some, List.setIfInBounds_toArray, List.set_cons_zero, List.set_cons_succ, List.set_nil, ne_eq, not_false_eq_true, Nat.lt_add_one, Nat.add_right_cancel_iff, Nat.add_left_cancel_iff, lt_s2, ne_s2, ne_t2, lt_s3, ne_s3, ne_t3, lt_s4, ne_s4, ne_t4, lt_s5, ne_s5, ne_t5, lt_s6, ne_s6, ne_t6, lt_s7, ne_s7, ne_t7, lt_s8, ne_s8, ne_t8, Nat.succ_ne_self, Nat.lt_irrefl, reduceCtorEq, k0, l_k0_W2] at n_k0
  simp (maxDischargeDepth := 9) only [blk_new, blk_old, blk_far, lt_succ_of, ne_of_lt1, ne_of_lt2, blk_set, blk_drew, blk_drewN, siz_alloc, siz_set, setAt_cells, Option.map_some, List.setIfInBounds_toArray, List.set_cons_zero, List.set_cons_succ, List.set_nil, ne_eq, not_false_eq_true, Nat.lt_add_one, Nat.add_right_cancel_iff, Nat.add_left_cancel_iff, lt_s2, ne_s2, ne_t2, lt_s3, ne_s3, ne_t3, lt_s4, ne_s4, ne_t4, lt_s5, ne_s5, ne_t5, lt_s6, ne_s6, ne_t6, lt_s7, ne_s7, ne_t7, lt_s8, ne_s8, ne_t8, Nat.succ_ne_self, Nat.lt_irrefl, reduceCtorEq, k0, l_k0_W2] at n_k1
  simp (maxDischargeDepth := 9) only [blk_new, blk_old, blk_far, lt_succ_of, ne_of_lt1, ne_of_lt2, blk_set, blk_drew, blk_drewN, siz_alloc, siz_set, setAt_cells, Option.map_some, List.setIfInBounds_toArray, List.set_cons_zero, List.set_cons_succ, List.set_nil, ne_eq, not_false_eq_true, Nat.lt_add_one, Nat.add_right_cancel_iff, Nat.add_left_cancel_iff, lt_s2, ne_s2, ne_t2, lt_s3, ne_s3, ne_t3, lt_s4, ne_s4, ne_t4, lt_s5, ne_s5, ne_t5, lt_s6, ne_s6, ne_t6, lt_s7, ne_s7, ne_t7, lt_s8, ne_s8, ne_t8, Nat.succ_ne_self, Nat.lt_irrefl, reduceCtorEq, k0, l_k0_W2] at n_k2
  have n_b : Below w.heap.size w V3 := by rw [hV_V3]; (repeat' first | assumption | exact Below.refl _ _ | refine Below.alloc ?_ (by first | exact Nat.le_refl _ | omega | (simp only [siz_alloc, siz_set]; omega)) _ | refine Below.setCell ?_ (by first | exact Nat.le_refl _ | omega | (simp only [siz_alloc, siz_set]; omega)) _ | refine below_drewN ?_ _ | refine Below.drew ?_)
  clear k0 c_k0 f_k0
  have k0 := n_k0; clear n_k0
  have k1 := n_k1; clear n_k1
  have k2 := n_k2; clear n_k2
  clear hV_V3
  refine (join_at p q x hpq _ _ _ _ rfl rfl rfl rfl HPQ.out _).mono ?_
  rintro e_W3 W3 ⟨rfl, hb_W3⟩
  have b3 := below_step n_b hb_W3; clear n_b
  replace k0 := keep_blk hb_W3 k0
  have c_k0 := cells_of k0
  have f_k0 := free_of k0
  have l_k0_W3 := lt_of k0
  replace k1 := keep_blk hb_W3 k1
  have c_k1 := cells_of k1
  have f_k1 := free_of k1
  have l_k1_W3 := lt_of k1
  replace k2 := keep_blk hb_W3 k2
  have c_k2 := cells_of k2
  have f_k2 := free_of k2
  have l_k2_W3 := lt_of k2
  have z_W3 := b3.size
  clear hb_W3
  go_wp2_with fail
  refine wp_gen fun V4 hV_V4 => ?_
  have n_k0 := congrArg (fun v : World => v.heap[W1.heap.size]?) hV_V4
  have n_k1 := congrArg (fun v : World => v.heap[W2.heap.size]?) hV_V4
  have n_k2 := congrArg (fun v : World => v.heap[W2.heap.size + 1]?) hV_V4
  have n_k3 := congrArg (fun v : World => v.heap[W3.heap.size]?) hV_V4
  simp (maxDischargeDepth := 9) only [blk_new, blk_old, blk_far, lt_succ_of, ne_of_lt1, ne_of_lt2, blk_set, blk_drew, blk_drewN, siz_alloc, siz_set, setAt_cells, Option.map_some, List.setIfInBounds_toArray, List.set_cons_zero, List.set_cons_succ, List.set_nil, ne_eq, not_false_eq_true, Nat.lt_add_one, Nat.add_right_cancel_iff, Nat.add_left_cancel_iff, lt_s2, ne_s2, ne_t2, lt_s3, ne_s3, ne_t3, lt_s4, ne_s4, ne_t4, lt_s5, ne_s5, ne_t5, lt_s6, ne_s6, ne_t6, lt_s7, ne_s7, ne_t7, lt_s8, ne_s8, ne_t8, Nat.succ_ne_self, Nat.lt_irrefl, reduceCtorEq, k0, k1, k2, l_k0_W2, l_k0_W3, l_k1_W3, l_k2_W3] at n_k0
  simp (maxDischargeDepth := 9) only [blk_new, blk_old, blk_far, lt_succ_of, ne_of_lt1, ne_of_lt2, blk_set, blk_drew, blk_drewN, siz_alloc, siz_set, setAt_cells, Option.map_some, List.setIfInBounds_toArray, List.set_cons_zero, List.set_cons_succ, List.set_nil, ne_eq, not_false_eq_true, Nat.lt_add_one, Nat.add_right_cancel_iff, Nat.add_left_cancel_iff, lt_s2, ne_s2, ne_t2, lt_s3, ne_s3, ne_t3, lt_s4, ne_s4, ne_t4, lt_s5, ne_s5, ne_t5, lt_s6, ne_s6, ne_t6, lt_s7, ne_s7, ne_t7, lt_s8, ne_s8, ne_t8, Nat.succ_ne_self, Nat.lt_irrefl, reduceCtorEq, k0, k1, k2, l_k0_W2, l_k0_W3, l_k1_W3, l_k2_W3] at n_k1
  simp (maxDischargeDepth := 9) only [blk_new, blk_old, blk_far, lt_succ_of, ne_of_lt1, ne_of_lt2, blk_set, blk_drew, blk_drewN, siz_alloc, siz_set, setAt_cells, Option.map_some, List.setIfInBounds_toArray, List.set_cons_zero, List.set_cons_succ, List.set_nil, ne_eq, not_false_eq_true, Nat.lt_add_one, Nat.add_right_cancel_iff, Nat.add_left_cancel_iff, lt_s2, ne_s2, ne_t2, lt_s3, ne_s3, ne_t3, lt_s4, ne_s4, ne_t4, lt_s5, ne_s5, ne_t5, lt_s6, ne_s6, ne_t6, lt_s7, ne_s7, ne_t7, lt_s8, ne_s8, ne_t8, Nat.succ_ne_self, Nat.lt_irrefl, reduceCtorEq, k0, k1, k2, l_k0_W2, l_k0_W3, l_k1_W3, l_k2_W3] at n_k2
  simp (maxDischargeDepth := 9) only [blk_new, blk_old, blk_far, lt_succ_of, ne_of_lt1, ne_of_lt2, blk_set, blk_drew, blk_drewN, siz_alloc, siz_set, setAt_cells, Option.map_some, List.setIfInBounds_toArray, List.set_cons_zero, List.set_cons_succ, List.set_nil, ne_eq, not_false_eq_true, Nat.lt_add_one, Nat.add_right_cancel_iff, Nat.add_left_cancel_iff, lt_s2, ne_s2, ne_t2, lt_s3, ne_s3, ne_t3, lt_s4, ne_s4, ne_t4, lt_s5, ne_s5, ne_t5, lt_s6, ne_s6, ne_t6, lt_s7, ne_s7, ne_t7, lt_s8, ne_s8, ne_t8, Nat.succ_ne_self, Nat.lt_irrefl, reduceCtorEq, k0, k1, k2, l_k0_W2, l_k0_W3, l_k1_W3, l_k2_W3] at n_k3
  have n_b : Below w.heap.size w V4 := by rw [hV_V4]; (repeat' first | assumption | exact Below.refl _ _ | refine Below.alloc ?_ (by first | exact Nat.le_refl _ | omega | (simp only [siz_alloc, siz_set]; omega)) _ | refine Below.setCell ?_ (by first | exact Nat.le_refl _ | omega | (simp only [siz_alloc, siz_set]; omega)) _ | refine below_drewN ?_ _ | refine Below.drew ?_)
  clear k0 c_k0 f_k0
  clear k1 c_k1 f_k1
  clear k2 c_k2 f_k2
  have k0 := n_k0; clear n_k0
  have k1 := n_k1; clear n_k1
  have k2 := n_k2; clear n_k2
  have k3 := n_k3; clear n_k3
  clear hV_V4
  have g_k0 := grown_cells k0
  have g_k1 := grown_cells k1
  have g_k2 := grown_cells k2
  have g_k3 := grown_cells k3
  refine wp_region_quiet_below (by kernel_rfl) (by kernel_rfl) ?_
  repeat (go_big_quiet_step (first | (go_at_call 17; with_reducible exact Calls.regrown_of (right_yes x (by omega) _)) | (go_at_call 11; first | with_reducible exact Calls.regrown_of (rank_at x (by omega) _ _ _ _ rfl rfl RX.out _) | with_reducible exact Calls.regrown_of (rank_at p hp6 _ _ _ _ rfl rfl RP.out _) | with_reducible exact Calls.regrown_of (rank_at q hq6 _ _ _ _ rfl rfl RQ.out _))))
  refine wpQuiet_nil ?_
  intro W4 hW_W4
  have hb_W4 := below_of_regrown hW_W4
  have b4 := below_step n_b hb_W4; clear n_b hW_W4
  clear g_k0 g_k1 g_k2 g_k3
  replace k0 := keep_blk hb_W4 k0
  have c_k0 := cells_of k0
  have f_k0 := free_of k0
  have l_k0_W4 := lt_of k0
  replace k1 := keep_blk hb_W4 k1
  have c_k1 := cells_of k1
  have f_k1 := free_of k1
  have l_k1_W4 := lt_of k1
  replace k2 := keep_blk hb_W4 k2
  have c_k2 := cells_of k2
  have f_k2 := free_of k2
  have l_k2_W4 := lt_of k2
  replace k3 := keep_blk hb_W4 k3
  have c_k3 := cells_of k3
  have f_k3 := free_of k3
  have l_k3_W4 := lt_of k3
  have z_W4 := b4.size
  clear hb_W4
  go_wp2_with fail
  refine calls_gen fun V5 hV_V5 => ?_
  have n_k0 := congrArg (fun v : World => v.heap[W1.heap.size]?) hV_V5
  have n_k1 := congrArg (fun v : World => v.heap[W2.heap.size]?) hV_V5
  have n_k2 := congrArg (fun v : World => v.heap[W2.heap.size + 1]?) hV_V5
  have n_k3 := congrArg (fun v : World => v.heap[W3.heap.size]?) hV_V5
  simp (maxDischargeDepth := 9) only [blk_new, blk_old, blk_far, lt_succ_of, ne_of_lt1, ne_of_lt2, blk_set, blk_drew, blk_drewN, siz_alloc, siz_set, setAt_cells, Option.map_some, List.setIfInBounds_toArray, List.set_cons_zero, List.set_cons_succ, List.set_nil, ne_eq, not_false_eq_true, Nat.lt_add_one, Nat.add_right_cancel_iff, Nat.add_left_cancel_iff, lt_s2, ne_s2, ne_t2, lt_s3, ne_s3, ne_t3, lt_s4, ne_s4, ne_t4, lt_s5, ne_s5, ne_t5, lt_s6, ne_s6, ne_t6, lt_s7, ne_s7, ne_t7, lt_s8, ne_s8, ne_t8, Nat.succ_ne_self, Nat.lt_irrefl, reduceCtorEq, k0, k1, k2, k3, l_k0_W2, l_k0_W3, l_k1_W3, l_k2_W3, l_k0_W4, l_k1_W4, l_k2_W4, l_k3_W4] at n_k0
  simp (maxDischargeDepth := 9) only [blk_new, blk_old, blk_far, lt_succ_of, ne_of_lt1, ne_of_lt2, blk_set, blk_drew, blk_drewN, siz_alloc, siz_set, setAt_cells, Option.map_some, List.setIfInBounds_toArray, List.set_cons_zero, List.set_cons_succ, List.set_nil, ne_eq, not_false_eq_true, Nat.lt_add_one, Nat.add_right_cancel_iff, Nat.add_left_cancel_iff, lt_s2, ne_s2, ne_t2, lt_s3, ne_s3, ne_t3, lt_s4, ne_s4, ne_t4, lt_s5, ne_s5, ne_t5, lt_s6, ne_s6, ne_t6, lt_s7, ne_s7, ne_t7, lt_s8, ne_s8, ne_t8, Nat.succ_ne_self, Nat.lt_irrefl, reduceCtorEq, k0, k1, k2, k3, l_k0_W2, l_k0_W3, l_k1_W3, l_k2_W3, l_k0_W4, l_k1_W4, l_k2_W4, l_k3_W4] at n_k1
  simp (maxDischargeDepth := 9) only [blk_new, blk_old, blk_far, lt_succ_of, ne_of_lt1, ne_of_lt2, blk_set, blk_drew, blk_drewN, siz_alloc, siz_set, setAt_cells, Option.map_some, List.setIfInBounds_toArray, List.set_cons_zero, List.set_cons_succ, List.set_nil, ne_eq, not_false_eq_true, Nat.lt_add_one, Nat.add_right_cancel_iff, Nat.add_left_cancel_iff, lt_s2, ne_s2, ne_t2, lt_s3, ne_s3, ne_t3, lt_s4, ne_s4, ne_t4, lt_s5, ne_s5, ne_t5, lt_s6, ne_s6, ne_t6, lt_s7, ne_s7, ne_t7, lt_s8, ne_s8, ne_t8, Nat.succ_ne_self, Nat.lt_irrefl, reduceCtorEq, k0, k1, k2, k3, l_k0_W2, l_k0_W3, l_k1_W3, l_k2_W3, l_k0_W4, l_k1_W4, l_k2_W4, l_k3_W4] at n_k2
  simp (maxDischargeDepth := 9) only [blk_new, blk_old, blk_far, lt_succ_of, ne_of_lt1, ne_of_lt2, blk_set, blk_drew, blk_drewN, siz_alloc, siz_set, setAt_cells, Option.map_some, List.setIfInBounds_toArray, List.set_cons_zero, List.set_cons_succ, List.set_nil, ne_eq, not_false_eq_true, Nat.lt_add_one, Nat.add_right_cancel_iff, Nat.add_left_cancel_iff, lt_s2, ne_s2, ne_t2, lt_s3, ne_s3, ne_t3, lt_s4, ne_s4, ne_t4, lt_s5, ne_s5, ne_t5, lt_s6, ne_s6, ne_t6, lt_s7, ne_s7, ne_t7, lt_s8, ne_s8, ne_t8, Nat.succ_ne_self, Nat.lt_irrefl, reduceCtorEq, k0, k1, k2, k3, l_k0_W2, l_k0_W3, l_k1_W3, l_k2_W3, l_k0_W4, l_k1_W4, l_k2_W4, l_k3_W4] at n_k3
  have n_b : Below w.heap.size w V5 := by rw [hV_V5]; (repeat' first | assumption | exact Below.refl _ _ | refine Below.alloc ?_ (by first | exact Nat.le_refl _ | omega | (simp only [siz_alloc, siz_set]; omega)) _ | refine Below.setCell ?_ (by first | exact Nat.le_refl _ | omega | (simp only [siz_alloc, siz_set]; omega)) _ | refine below_drewN ?_ _ | refine Below.drew ?_)
  clear k0 c_k0 f_k0
  clear k1 c_k1 f_k1
  clear k2 c_k2 f_k2
  clear k3 c_k3 f_k3
  have k0 := n_k0; clear n_k0
  have k1 := n_k1; clear n_k1
  have k2 := n_k2; clear n_k2
  have k3 := n_k3; clear n_k3
  clear hV_V5
  refine (insert_at x c _ one (by omega) (by omega) hx _ _ rfl rfl (by rw [HC.out]; simp) _).mono ?_
  rintro e_W5 W5 ⟨rfl, hb_W5⟩
  have b5 := below_step n_b hb_W5; clear n_b
  replace k0 := keep_blk hb_W5 k0
  have c_k0 := cells_of k0
  have f_k0 := free_of k0
  have l_k0_W5 := lt_of k0
  replace k1 := keep_blk hb_W5 k1
  have c_k1 := cells_of k1
  have f_k1 := free_of k1
  have l_k1_W5 := lt_of k1
  replace k2 := keep_blk hb_W5 k2
  have c_k2 := cells_of k2
  have f_k2 := free_of k2
  have l_k2_W5 := lt_of k2
  replace k3 := keep_blk hb_W5 k3
  have c_k3 := cells_of k3
  have f_k3 := free_of k3
  have l_k3_W5 := lt_of k3
  have z_W5 := b5.size
  clear hb_W5
  go_wp2_with fail
  refine calls_gen fun V6 hV_V6 => ?_
  have n_k0 := congrArg (fun v : World => v.heap[W1.heap.size]?) hV_V6
  have n_k4 := congrArg (fun v : World => v.heap[W5.heap.size]?) hV_V6
  simp (maxDischargeDepth := 9) only [blk_new, blk_old, blk_far, lt_succ_of, ne_of_lt1, ne_of_lt2, blk_set, blk_drew, blk_drewN, siz_alloc, siz_set, setAt_cells, Option.map_some, List.setIfInBounds_toArray, List.set_cons_zero, List.set_cons_succ, List.set_nil, ne_eq, not_false_eq_true, Nat.lt_add_one, Nat.add_right_cancel_iff, Nat.add_left_cancel_iff, lt_s2, ne_s2, ne_t2, lt_s3, ne_s3, ne_t3, lt_s4, ne_s4, ne_t4, lt_s5, ne_s5, ne_t5, lt_s6, ne_s6, ne_t6, lt_s7, ne_s7, ne_t7, lt_s8, ne_s8, ne_t8, Nat.succ_ne_self, Nat.lt_irrefl, reduceCtorEq, k0, k1, k2, k3, l_k0_W2, l_k0_W3, l_k1_W3, l_k2_W3, l_k0_W4, l_k1_W4, l_k2_W4, l_k3_W4, l_k0_W5, l_k1_W5, l_k2_W5, l_k3_W5] at n_k0
  simp (maxDischargeDepth := 9) only [blk_new, blk_old, blk_far, lt_succ_of, ne_of_lt1, ne_of_lt2, blk_set, blk_drew, blk_drewN, siz_alloc, siz_set, setAt_cells, Option.map_some, List.setIfInBounds_toArray, List.set_cons_zero, List.set_cons_succ, List.set_nil, ne_eq, not_false_eq_true, Nat.lt_add_one, Nat.add_right_cancel_iff, Nat.add_left_cancel_iff, lt_s2, ne_s2, ne_t2, lt_s3, ne_s3, ne_t3, lt_s4, ne_s4, ne_t4, lt_s5, ne_s5, ne_t5, lt_s6, ne_s6, ne_t6, lt_s7, ne_s7, ne_t7, lt_s8, ne_s8, ne_t8, Nat.succ_ne_self, Nat.lt_irrefl, reduceCtorEq, k0, k1, k2, k3, l_k0_W2, l_k0_W3, l_k1_W3, l_k2_W3, l_k0_W4, l_k1_W4, l_k2_W4, l_k3_W4, l_k0_W5, l_k1_W5, l_k2_W5, l_k3_W5] at n_k4
  have n_b : Below w.heap.size w V6 := by rw [hV_V6]; (repeat' first | assumption | exact Below.refl _ _ | refine Below.alloc ?_ (by first | exact Nat.le_refl _ | omega | (simp only [siz_alloc, siz_set]; omega)) _ | refine Below.setCell ?_ (by first | exact Nat.le_refl _ | omega | (simp only [siz_alloc, siz_set]; omega)) _ | refine below_drewN ?_ _ | refine Below.drew ?_)
  clear k0 c_k0 f_k0
  clear k1 c_k1 f_k1
  clear k2 c_k2 f_k2
  clear k3 c_k3 f_k3
  have k0 := n_k0; clear n_k0
  have k4 := n_k4; clear n_k4
  clear hV_V6
  refine (delete_at c x _ (by omega) (by omega) hc _ _ rfl rfl HD.out _).mono ?_
  rintro e_W6 W6 ⟨rfl, hb_W6⟩
  have b6 := below_step n_b hb_W6; clear n_b
  replace k0 := keep_blk hb_W6 k0
  have c_k0 := cells_of k0
  have f_k0 := free_of k0
  have l_k0_W6 := lt_of k0
  replace k4 := keep_blk hb_W6 k4
  have c_k4 := cells_of k4
  have f_k4 := free_of k4
  have l_k4_W6 := lt_of k4
  have z_W6 := b6.size
  clear hb_W6
  go_wp2_with fail
  refine calls_gen fun V7 hV_V7 => ?_
  have n_k0 := congrArg (fun v : World => v.heap[W1.heap.size]?) hV_V7
  have n_k4 := congrArg (fun v : World => v.heap[W5.heap.size]?) hV_V7
  have n_k5 := congrArg (fun v : World => v.heap[W6.heap.size]?) hV_V7
  simp (maxDischargeDepth := 9) only [blk_new, blk_old, blk_far, lt_succ_of, ne_of_lt1, ne_of_lt2, blk_set, blk_drew, blk_drewN, siz_alloc, siz_set, setAt_cells, Option.map_some, List.setIfInBounds_toArray, List.set_cons_zero, List.set_cons_succ, List.set_nil, ne_eq, not_false_eq_true, Nat.lt_add_one, Nat.add_right_cancel_iff, Nat.add_left_cancel_iff, lt_s2, ne_s2, ne_t2, lt_s3, ne_s3, ne_t3, lt_s4, ne_s4, ne_t4, lt_s5, ne_s5, ne_t5, lt_s6, ne_s6, ne_t6, lt_s7, ne_s7, ne_t7, lt_s8, ne_s8, ne_t8, Nat.succ_ne_self, Nat.lt_irrefl, reduceCtorEq, k0, k4, l_k0_W2, l_k0_W3, l_k1_W3, l_k2_W3, l_k0_W4, l_k1_W4, l_k2_W4, l_k3_W4, l_k0_W5, l_k1_W5, l_k2_W5, l_k3_W5, l_k0_W6, l_k4_W6] at n_k0
  simp (maxDischargeDepth := 9) only [blk_new, blk_old, blk_far, lt_succ_of, ne_of_lt1, ne_of_lt2, blk_set, blk_drew, blk_drewN, siz_alloc, siz_set, setAt_cells, Option.map_some, List.setIfInBounds_toArray, List.set_cons_zero, List.set_cons_succ, List.set_nil, ne_eq, not_false_eq_true, Nat.lt_add_one, Nat.add_right_cancel_iff, Nat.add_left_cancel_iff, lt_s2, ne_s2, ne_t2, lt_s3, ne_s3, ne_t3, lt_s4, ne_s4, ne_t4, lt_s5, ne_s5, ne_t5, lt_s6, ne_s6, ne_t6, lt_s7, ne_s7, ne_t7, lt_s8, ne_s8, ne_t8, Nat.succ_ne_self, Nat.lt_irrefl, reduceCtorEq, k0, k4, l_k0_W2, l_k0_W3, l_k1_W3, l_k2_W3, l_k0_W4, l_k1_W4, l_k2_W4, l_k3_W4, l_k0_W5, l_k1_W5, l_k2_W5, l_k3_W5, l_k0_W6, l_k4_W6] at n_k4
  simp (maxDischargeDepth := 9) only [blk_new, blk_old, blk_far, lt_succ_of, ne_of_lt1, ne_of_lt2, blk_set, blk_drew, blk_drewN, siz_alloc, siz_set, setAt_cells, Option.map_some, List.setIfInBounds_toArray, List.set_cons_zero, List.set_cons_succ, List.set_nil, ne_eq, not_false_eq_true, Nat.lt_add_one, Nat.add_right_cancel_iff, Nat.add_left_cancel_iff, lt_s2, ne_s2, ne_t2, lt_s3, ne_s3, ne_t3, lt_s4, ne_s4, ne_t4, lt_s5, ne_s5, ne_t5, lt_s6, ne_s6, ne_t6, lt_s7, ne_s7, ne_t7, lt_s8, ne_s8, ne_t8, Nat.succ_ne_self, Nat.lt_irrefl, reduceCtorEq, k0, k4, l_k0_W2, l_k0_W3, l_k1_W3, l_k2_W3, l_k0_W4, l_k1_W4, l_k2_W4, l_k3_W4, l_k0_W5, l_k1_W5, l_k2_W5, l_k3_W5, l_k0_W6, l_k4_W6] at n_k5
  have n_b : Below w.heap.size w V7 := by rw [hV_V7]; (repeat' first | assumption | exact Below.refl _ _ | refine Below.alloc ?_ (by first | exact Nat.le_refl _ | omega | (simp only [siz_alloc, siz_set]; omega)) _ | refine Below.setCell ?_ (by first | exact Nat.le_refl _ | omega | (simp only [siz_alloc, siz_set]; omega)) _ | refine below_drewN ?_ _ | refine Below.drew ?_)
  clear k0 c_k0 f_k0
  clear k4 c_k4 f_k4
  have k0 := n_k0; clear n_k0
  have k4 := n_k4; clear n_k4
  have k5 := n_k5; clear n_k5
  clear hV_V7
  refine (get_at c hc _ _ _ one rfl rfl GK.out _).mono ?_
  rintro e_W7 W7 ⟨rfl, hb_W7⟩
  have b7 := below_step n_b hb_W7; clear n_b
  replace k0 := keep_blk hb_W7 k0
  have c_k0 := cells_of k0
  have f_k0 := free_of k0
  have l_k0_W7 := lt_of k0
  replace k4 := keep_blk hb_W7 k4
  have c_k4 := cells_of k4
  have f_k4 := free_of k4
  have l_k4_W7 := lt_of k4
  replace k5 := keep_blk hb_W7 k5
  have c_k5 := cells_of k5
  have f_k5 := free_of k5
  have l_k5_W7 := lt_of k5
  have z_W7 := b7.size
  clear hb_W7
  go_wp2
  go_ret
  exact ⟨ret_bool (by cases one <;> rfl), b7⟩
set_option maxHeartbeats 1000000 in
theorem back_ge (b : Nat) (x p q : List Bool) (i : Int) (K : Nat) (one : Bool) (hx : x.length ≤ 64) (hK : K ≤ x.length) (HP : Hid (p = x.take K)) (HQ : Hid (q = x.drop K)) (hpq : p.length + q.length ≤ 64) (hp : p.length = K) (d4 : ((x.length : Int) == 64) = true) (hx6 : Hid (x.length = 64))
    (hi0 : -(x.length : Int) ≤ i.tmod ((x.length : Int) + 1)) (hi1 : i.tmod ((x.length : Int) + 1) ≤ x.length) (hk : (i.tmod ((x.length : Int) + 1) + x.length + 1) % ((x.length : Int) + 1) = (K : Int))
    (HA : Hid ((b : Int) = (pack x : Int))) (w : World) :
    Calls Try.prog 7 #[.int .u64 (b : Int), .int .i64 (x.length : Int), .int .i64 i, .bool one] w fun e w' => e = .returned (.bool true) ∧ Below w.heap.size w w' := by
  have d1 : decide ((x.length : Int) < 0) = false := by simp
  have d2 : decide ((64 : Int) < (x.length : Int)) = false := by simp; omega
  have d3 : decide ((x.length : Int) < (64 : Int)) = false := by have := hx6.out; simp; omega
  have d5 : ((p.length : Int) != (K : Int)) = false := by rw [hp]; simp
  have HPQ : Hid (x = p ++ q) := by show _ = _; rw [HP.out, HQ.out, List.take_append_drop]
  have hp6 : p.length ≤ 64 := by omega
  have hq6 : q.length ≤ 64 := by omega
  have RP : Hid (((p.count true : Nat) : Int) = ((p.take (64 : Int).toNat).count true : Int)) := by show _ = _; rw [count_all p hp6]
  have RQ : Hid (((q.count true : Nat) : Int) = ((q.take (64 : Int).toNat).count true : Int)) := by show _ = _; rw [count_all q hq6]
  have RX : Hid (((p.count true : Nat) : Int) + ((q.count true : Nat) : Int) = ((x.take (64 : Int).toNat).count true : Int)) := by show _ = _; rw [count_all x (by omega), HPQ.out, List.count_append]; simp
  obtain ⟨cx, hcx⟩ : ∃ cx, cx = p.count true := ⟨_, rfl⟩
  obtain ⟨cy, hcy⟩ : ∃ cy, cy = q.count true := ⟨_, rfl⟩
  have lx : cx ≤ 64 := by rw [hcx]; exact Nat.le_trans List.count_le_length hp6
  have ly : cy ≤ 64 := by rw [hcy]; exact Nat.le_trans List.count_le_length hq6
  rw [← hcx] at RP RX
  rw [← hcy] at RQ RX
  clear hcx hcy hp
  go_enter Try.func7, Try.ntmps7
  go_wp2_with fail
  refine calls_gen fun V1 hV_V1 => ?_
  have n_b : Below w.heap.size w V1 := by rw [hV_V1]; (repeat' first | assumption | exact Below.refl _ _ | refine Below.alloc ?_ (by first | exact Nat.le_refl _ | omega | (simp only [siz_alloc, siz_set]; omega)) _ | refine Below.setCell ?_ (by first | exact Nat.le_refl _ | omega | (simp only [siz_alloc, siz_set]; omega)) _ | refine below_drewN ?_ _ | refine Below.drew ?_)
  clear hV_V1
  refine (alive_true _).mono ?_
  rintro e_W1 W1 ⟨rfl, hb_W1⟩
  have b1 := below_step n_b hb_W1; clear n_b
  have z_W1 := b1.size
  clear hb_W1
  go_wp2_with fail
  rw [HA.out]
  go_wp2_with fail
  refine calls_gen fun V2 hV_V2 => ?_
  have n_k0 := congrArg (fun v : World => v.heap[W1.heap.size]?) hV_V2
  simp (maxDischargeDepth := 9) only [blk_new, blk_old, blk_far, lt_succ_of, ne_of_lt1, ne_of_lt2, blk_set, blk_drew, blk_drewN, siz_alloc, siz_set, setAt_cells, Option.map_some, List.setIfInBounds_toArray, List.set_cons_zero, List.set_cons_succ, List.set_nil, ne_eq, not_false_eq_true, Nat.lt_add_one, Nat.add_right_cancel_iff, Nat.add_left_cancel_iff, lt_s2, ne_s2, ne_t2, lt_s3, ne_s3, ne_t3, lt_s4, ne_s4, ne_t4, lt_s5, ne_s5, ne_t5, lt_s6, ne_s6, ne_t6, lt_s7, ne_s7, ne_t7, lt_s8, ne_s8, ne_t8, Nat.succ_ne_self, Nat.lt_irrefl, reduceCtorEq] at n_k0
  have n_b : Below w.heap.size w V2 := by rw [hV_V2]; (repeat' first | assumption | exact Below.refl _ _ | refine Below.alloc ?_ (by first | exact Nat.le_refl _ | omega | (simp only [siz_alloc, siz_set]; omega)) _ | refine Below.setCell ?_ (by first | exact Nat.le_refl _ | omega | (simp only [siz_alloc, siz_set]; omega)) _ | refine below_drewN ?_ _ | refine Below.drew ?_)
  have k0 := n_k0; clear n_k0
  clear hV_V2
  refine (split_at x (by omega) p q _ (by rw [HP.out]; simp) (by rw [HQ.out]; simp) _ _ rfl rfl _).mono ?_
  rintro e_W2 W2 ⟨rfl, hb_W2⟩
  have b2 := below_step n_b hb_W2; clear n_b
  replace k0 := keep_blk hb_W2 k0
  have c_k0 := cells_of k0
  have f_k0 := free_of k0
  have l_k0_W2 := lt_of k0
  have z_W2 := b2.size
  clear hb_W2
  go_wp2_with fail
  refine calls_gen fun V3 hV_V3 => ?_
  have n_k0 := congrArg (fun v : World => v.heap[W1.heap.size]?) hV_V3
  have n_k1 := congrArg (fun v : World => v.heap[W2.heap.size]?) hV_V3
  have n_k2 := congrArg (fun v : World => v.heap[W2.heap.size + 1]?) hV_V3
  simp (maxDischargeDepth := 9) only [blk_new, blk_old, blk_far, lt_succ_of, ne_of_lt1, ne_of_lt2, blk_set, blk_drew, blk_drewN, siz_alloc, siz_set, setAt_cells, Option.map_some, List.setIfInBounds_toArray, List.set_cons_zero, List.set_cons_succ, List.set_nil, ne_eq, not_false_eq_true, Nat.lt_add_one, Nat.add_right_cancel_iff, Nat.add_left_cancel_iff, lt_s2, ne_s2, ne_t2, lt_s3, ne_s3, ne_t3, lt_s4, ne_s4, ne_t4, lt_s5, ne_s5, ne_t5, lt_s6, ne_s6, ne_t6, lt_s7, ne_s7, ne_t7, lt_s8, ne_s8, ne_t8, Nat.succ_ne_self, Nat.lt_irrefl, reduceCtorEq, k0, l_k0_W2] at n_k0
  simp (maxDischargeDepth := 9) only [blk_new, blk_old, blk_far, lt_succ_of, ne_of_lt1, ne_of_lt2, blk_set, blk_drew, blk_drewN, siz_alloc, siz_set, setAt_cells, Option.map_some, List.setIfInBounds_toArray, List.set_cons_zero, List.set_cons_succ, List.set_nil, ne_eq, not_false_eq_true, Nat.lt_add_one, Nat.add_right_cancel_iff, Nat.add_left_cancel_iff, lt_s2, ne_s2, ne_t2, lt_s3, ne_s3, ne_t3, lt_s4, ne_s4, ne_t4, lt_s5, ne_s5, ne_t5, lt_s6, ne_s6, ne_t6, lt_s7, ne_s7, ne_t7, lt_s8, ne_s8, ne_t8, Nat.succ_ne_self, Nat.lt_irrefl, reduceCtorEq, k0, l_k0_W2] at n_k1
  simp (maxDischargeDepth := 9) only [blk_new, blk_old, blk_far, lt_succ_of, ne_of_lt1, ne_of_lt2, blk_set, blk_drew, blk_drewN, siz_alloc, siz_set, setAt_cells, Option.map_some, List.setIfInBounds_toArray, List.set_cons_zero, List.set_cons_succ, List.set_nil, ne_eq, not_false_eq_true, Nat.lt_add_one, Nat.add_right_cancel_iff, Nat.add_left_cancel_iff, lt_s2, ne_s2, ne_t2, lt_s3, ne_s3, ne_t3, lt_s4, ne_s4, ne_t4, lt_s5, ne_s5, ne_t5, lt_s6, ne_s6, ne_t6, lt_s7, ne_s7, ne_t7, lt_s8, ne_s8, ne_t8, Nat.succ_ne_self, Nat.lt_irrefl, reduceCtorEq, k0, l_k0_W2] at n_k2
  have n_b : Below w.heap.size w V3 := by rw [hV_V3]; (repeat' first | assumption | exact Below.refl _ _ | refine Below.alloc ?_ (by first | exact Nat.le_refl _ | omega | (simp only [siz_alloc, siz_set]; omega)) _ | refine Below.setCell ?_ (by first | exact Nat.le_refl _ | omega | (simp only [siz_alloc, siz_set]; omega)) _ | refine below_drewN ?_ _ | refine Below.drew ?_)
  clear k0 c_k0 f_k0
  have k0 := n_k0; clear n_k0
  have k1 := n_k1; clear n_k1
  have k2 := n_k2; clear n_k2
  clear hV_V3
  refine (join_at p q x hpq _ _ _ _ rfl rfl rfl rfl HPQ.out _).mono ?_
  rintro e_W3 W3 ⟨rfl, hb_W3⟩
  have b3 := below_step n_b hb_W3; clear n_b
  replace k0 := keep_blk hb_W3 k0
  have c_k0 := cells_of k0
  have f_k0 := free_of k0
  have l_k0_W3 := lt_of k0
  replace k1 := keep_blk hb_W3 k1
  have c_k1 := cells_of k1
  have f_k1 := free_of k1
  have l_k1_W3 := lt_of k1
  replace k2 := keep_blk hb_W3 k2
  have c_k2 := cells_of k2
  have f_k2 := free_of k2
  have l_k2_W3 := lt_of k2
  have z_W3 := b3.size
  clear hb_W3
  go_wp2_with fail
  refine wp_gen fun V4 hV_V4 => ?_
  have n_k0 := congrArg (fun v : World => v.heap[W1.heap.size]?) hV_V4
  have n_k1 := congrArg (fun v : World => v.heap[W2.heap.size]?) hV_V4
  have n_k2 := congrArg (fun v : World => v.heap[W2.heap.size + 1]?) hV_V4
  have n_k3 := congrArg (fun v : World => v.heap[W3.heap.size]?) hV_V4
  simp (maxDischargeDepth := 9) only [blk_new, blk_old, blk_far, lt_succ_of, ne_of_lt1, ne_of_lt2, blk_set, blk_drew, blk_drewN, siz_alloc, siz_set, setAt_cells, Option.map_some, List.setIfInBounds_toArray, List.set_cons_zero, List.set_cons_succ, List.set_nil, ne_eq, not_false_eq_true, Nat.lt_add_one, Nat.add_right_cancel_iff, Nat.add_left_cancel_iff, lt_s2, ne_s2, ne_t2, lt_s3, ne_s3, ne_t3, lt_s4, ne_s4, ne_t4, lt_s5, ne_s5, ne_t5, lt_s6, ne_s6, ne_t6, lt_s7, ne_s7, ne_t7, lt_s8, ne_s8, ne_t8, Nat.succ_ne_self, Nat.lt_irrefl, reduceCtorEq, k0, k1, k2, l_k0_W2, l_k0_W3, l_k1_W3, l_k2_W3] at n_k0
  simp (maxDischargeDepth := 9) only [blk_new, blk_old, blk_far, lt_succ_of, ne_of_lt1, ne_of_lt2, blk_set, blk_drew, blk_drewN, siz_alloc, siz_set, setAt_cells, Option.map_some, List.setIfInBounds_toArray, List.set_cons_zero, List.set_cons_succ, List.set_nil, ne_eq, not_false_eq_true, Nat.lt_add_one, Nat.add_right_cancel_iff, Nat.add_left_cancel_iff, lt_s2, ne_s2, ne_t2, lt_s3, ne_s3, ne_t3, lt_s4, ne_s4, ne_t4, lt_s5, ne_s5, ne_t5, lt_s6, ne_s6, ne_t6, lt_s7, ne_s7, ne_t7, lt_s8, ne_s8, ne_t8, Nat.succ_ne_self, Nat.lt_irrefl, reduceCtorEq, k0, k1, k2, l_k0_W2, l_k0_W3, l_k1_W3, l_k2_W3] at n_k1
  simp (maxDischargeDepth := 9) only [blk_new, blk_old, blk_far, lt_succ_of, ne_of_lt1, ne_of_lt2, blk_set, blk_drew, blk_drewN, siz_alloc, siz_set, setAt_cells, Option.map_some, List.setIfInBounds_toArray, List.set_cons_zero, List.set_cons_succ, List.set_nil, ne_eq, not_false_eq_true, Nat.lt_add_one, Nat.add_right_cancel_iff, Nat.add_left_cancel_iff, lt_s2, ne_s2, ne_t2, lt_s3, ne_s3, ne_t3, lt_s4, ne_s4, ne_t4, lt_s5, ne_s5, ne_t5, lt_s6, ne_s6, ne_t6, lt_s7, ne_s7, ne_t7, lt_s8, ne_s8, ne_t8, Nat.succ_ne_self, Nat.lt_irrefl, reduceCtorEq, k0, k1, k2, l_k0_W2, l_k0_W3, l_k1_W3, l_k2_W3] at n_k2
  simp (maxDischargeDepth := 9) only [blk_new, blk_old, blk_far, lt_succ_of, ne_of_lt1, ne_of_lt2, blk_set, blk_drew, blk_drewN, siz_alloc, siz_set, setAt_cells, Option.map_some, List.setIfInBounds_toArray, List.set_cons_zero, List.set_cons_succ, List.set_nil, ne_eq, not_false_eq_true, Nat.lt_add_one, Nat.add_right_cancel_iff, Nat.add_left_cancel_iff, lt_s2, ne_s2, ne_t2, lt_s3, ne_s3, ne_t3, lt_s4, ne_s4, ne_t4, lt_s5, ne_s5, ne_t5, lt_s6, ne_s6, ne_t6, lt_s7, ne_s7, ne_t7, lt_s8, ne_s8, ne_t8, Nat.succ_ne_self, Nat.lt_irrefl, reduceCtorEq, k0, k1, k2, l_k0_W2, l_k0_W3, l_k1_W3, l_k2_W3] at n_k3
  have n_b : Below w.heap.size w V4 := by rw [hV_V4]; (repeat' first | assumption | exact Below.refl _ _ | refine Below.alloc ?_ (by first | exact Nat.le_refl _ | omega | (simp only [siz_alloc, siz_set]; omega)) _ | refine Below.setCell ?_ (by first | exact Nat.le_refl _ | omega | (simp only [siz_alloc, siz_set]; omega)) _ | refine below_drewN ?_ _ | refine Below.drew ?_)
  clear k0 c_k0 f_k0
  clear k1 c_k1 f_k1
  clear k2 c_k2 f_k2
  have k0 := n_k0; clear n_k0
  have k1 := n_k1; clear n_k1
  have k2 := n_k2; clear n_k2
  have k3 := n_k3; clear n_k3
  clear hV_V4
  have g_k0 := grown_cells k0
  have g_k1 := grown_cells k1
  have g_k2 := grown_cells k2
  have g_k3 := grown_cells k3
  refine wp_region_quiet_below (by kernel_rfl) (by kernel_rfl) ?_
  repeat (go_big_quiet_step (first | (go_at_call 17; with_reducible exact Calls.regrown_of (right_yes x (by omega) _)) | (go_at_call 11; first | with_reducible exact Calls.regrown_of (rank_at x (by omega) _ _ _ _ rfl rfl RX.out _) | with_reducible exact Calls.regrown_of (rank_at p hp6 _ _ _ _ rfl rfl RP.out _) | with_reducible exact Calls.regrown_of (rank_at q hq6 _ _ _ _ rfl rfl RQ.out _))))
  refine wpQuiet_nil ?_
  intro W4 hW_W4
  have hb_W4 := below_of_regrown hW_W4
  have b4 := below_step n_b hb_W4; clear n_b hW_W4
  clear g_k0 g_k1 g_k2 g_k3
  replace k0 := keep_blk hb_W4 k0
  have c_k0 := cells_of k0
  have f_k0 := free_of k0
  have l_k0_W4 := lt_of k0
  replace k1 := keep_blk hb_W4 k1
  have c_k1 := cells_of k1
  have f_k1 := free_of k1
  have l_k1_W4 := lt_of k1
  replace k2 := keep_blk hb_W4 k2
  have c_k2 := cells_of k2
  have f_k2 := free_of k2
  have l_k2_W4 := lt_of k2
  replace k3 := keep_blk hb_W4 k3
  have c_k3 := cells_of k3
  have f_k3 := free_of k3
  have l_k3_W4 := lt_of k3
  have z_W4 := b4.size
  clear hb_W4
  go_wp2_with fail
  refine calls_gen fun V5 hV_V5 => ?_
  have n_k0 := congrArg (fun v : World => v.heap[W1.heap.size]?) hV_V5
  have n_k1 := congrArg (fun v : World => v.heap[W2.heap.size]?) hV_V5
  have n_k2 := congrArg (fun v : World => v.heap[W2.heap.size + 1]?) hV_V5
  have n_k3 := congrArg (fun v : World => v.heap[W3.heap.size]?) hV_V5
  simp (maxDischargeDepth := 9) only [blk_new, blk_old, blk_far, lt_succ_of, ne_of_lt1, ne_of_lt2, blk_set, blk_drew, blk_drewN, siz_alloc, siz_set, setAt_cells, Option.map_some, List.setIfInBounds_toArray, List.set_cons_zero, List.set_cons_succ, List.set_nil, ne_eq, not_false_eq_true, Nat.lt_add_one, Nat.add_right_cancel_iff, Nat.add_left_cancel_iff, lt_s2, ne_s2, ne_t2, lt_s3, ne_s3, ne_t3, lt_s4, ne_s4, ne_t4, lt_s5, ne_s5, ne_t5, lt_s6, ne_s6, ne_t6, lt_s7, ne_s7, ne_t7, lt_s8, ne_s8, ne_t8, Nat.succ_ne_self, Nat.lt_irrefl, reduceCtorEq, k0, k1, k2, k3, l_k0_W2, l_k0_W3, l_k1_W3, l_k2_W3, l_k0_W4, l_k1_W4, l_k2_W4, l_k3_W4] at n_k0
  simp (maxDischargeDepth := 9) only [blk_new, blk_old, blk_far, lt_succ_of, ne_of_lt1, ne_of_lt2, blk_set, blk_drew, blk_drewN, siz_alloc, siz_set, setAt_cells, Option.map_some, List.setIfInBounds_toArray, List.set_cons_zero, List.set_cons_succ, List.set_nil, ne_eq, not_false_eq_true, Nat.lt_add_one, Nat.add_right_cancel_iff, Nat.add_left_cancel_iff, lt_s2, ne_s2, ne_t2, lt_s3, ne_s3, ne_t3, lt_s4, ne_s4, ne_t4, lt_s5, ne_s5, ne_t5, lt_s6, ne_s6, ne_t6, lt_s7, ne_s7, ne_t7, lt_s8, ne_s8, ne_t8, Nat.succ_ne_self, Nat.lt_irrefl, reduceCtorEq, k0, k1, k2, k3, l_k0_W2, l_k0_W3, l_k1_W3, l_k2_W3, l_k0_W4, l_k1_W4, l_k2_W4, l_k3_W4] at n_k1
  simp (maxDischargeDepth := 9) only [blk_new, blk_old, blk_far, lt_succ_of, ne_of_lt1, ne_of_lt2, blk_set, blk_drew, blk_drewN, siz_alloc, siz_set, setAt_cells, Option.map_some, List.setIfInBounds_toArray, List.set_cons_zero, List.set_cons_succ, List.set_nil, ne_eq, not_false_eq_true, Nat.lt_add_one, Nat.add_right_cancel_iff, Nat.add_left_cancel_iff, lt_s2, ne_s2, ne_t2, lt_s3, ne_s3, ne_t3, lt_s4, ne_s4, ne_t4, lt_s5, ne_s5, ne_t5, lt_s6, ne_s6, ne_t6, lt_s7, ne_s7, ne_t7, lt_s8, ne_s8, ne_t8, Nat.succ_ne_self, Nat.lt_irrefl, reduceCtorEq, k0, k1, k2, k3, l_k0_W2, l_k0_W3, l_k1_W3, l_k2_W3, l_k0_W4, l_k1_W4, l_k2_W4, l_k3_W4] at n_k2
  simp (maxDischargeDepth := 9) only [blk_new, blk_old, blk_far, lt_succ_of, ne_of_lt1, ne_of_lt2, blk_set, blk_drew, blk_drewN, siz_alloc, siz_set, setAt_cells, Option.map_some, List.setIfInBounds_toArray, List.set_cons_zero, List.set_cons_succ, List.set_nil, ne_eq, not_false_eq_true, Nat.lt_add_one, Nat.add_right_cancel_iff, Nat.add_left_cancel_iff, lt_s2, ne_s2, ne_t2, lt_s3, ne_s3, ne_t3, lt_s4, ne_s4, ne_t4, lt_s5, ne_s5, ne_t5, lt_s6, ne_s6, ne_t6, lt_s7, ne_s7, ne_t7, lt_s8, ne_s8, ne_t8, Nat.succ_ne_self, Nat.lt_irrefl, reduceCtorEq, k0, k1, k2, k3, l_k0_W2, l_k0_W3, l_k1_W3, l_k2_W3, l_k0_W4, l_k1_W4, l_k2_W4, l_k3_W4] at n_k3
  have n_b : Below w.heap.size w V5 := by rw [hV_V5]; (repeat' first | assumption | exact Below.refl _ _ | refine Below.alloc ?_ (by first | exact Nat.le_refl _ | omega | (simp only [siz_alloc, siz_set]; omega)) _ | refine Below.setCell ?_ (by first | exact Nat.le_refl _ | omega | (simp only [siz_alloc, siz_set]; omega)) _ | refine below_drewN ?_ _ | refine Below.drew ?_)
  clear k0 c_k0 f_k0
  clear k1 c_k1 f_k1
  clear k2 c_k2 f_k2
  clear k3 c_k3 f_k3
  have k0 := n_k0; clear n_k0
  have k1 := n_k1; clear n_k1
  have k2 := n_k2; clear n_k2
  have k3 := n_k3; clear n_k3
  clear hV_V5
  refine (insert_out x hx _ one (.inr (.inr hx6.out)) _).mono ?_
  rintro e_W5 W5 ⟨rfl, hb_W5⟩
  have b5 := below_step n_b hb_W5; clear n_b
  replace k0 := keep_blk hb_W5 k0
  have c_k0 := cells_of k0
  have f_k0 := free_of k0
  have l_k0_W5 := lt_of k0
  replace k1 := keep_blk hb_W5 k1
  have c_k1 := cells_of k1
  have f_k1 := free_of k1
  have l_k1_W5 := lt_of k1
  replace k2 := keep_blk hb_W5 k2
  have c_k2 := cells_of k2
  have f_k2 := free_of k2
  have l_k2_W5 := lt_of k2
  replace k3 := keep_blk hb_W5 k3
  have c_k3 := cells_of k3
  have f_k3 := free_of k3
  have l_k3_W5 := lt_of k3
  have z_W5 := b5.size
  clear hb_W5
  go_wp2
  go_ret
  refine ⟨rfl, ?_⟩
  (repeat' first | assumption | exact Below.refl _ _ | refine Below.alloc ?_ (by first | exact Nat.le_refl _ | omega | (simp only [siz_alloc, siz_set]; omega)) _ | refine Below.setCell ?_ (by first | exact Nat.le_refl _ | omega | (simp only [siz_alloc, siz_set]; omega)) _ | refine below_drewN ?_ _ | refine Below.drew ?_)
theorem back_walk (b n i : Int) (one : Bool) (hb : (Lit.int .u64 b).wf = true) (w : World) :
    Calls Try.prog 7 #[.int .u64 b, .int .i64 n, .int .i64 i, .bool one] w fun e w' => e = .returned (.bool true) ∧ Below w.heap.size w w' := by
  obtain ⟨h1, h2⟩ := wf_u64 hb
  clear hb
  by_cases g1 : n < 0
  · have d1 : decide (n < 0) = true := by simpa using g1
    go_enter Try.func7, Try.ntmps7
    go_wp2_with fail
    refine calls_gen fun V1 hV_V1 => ?_
    have n_b : Below w.heap.size w V1 := by rw [hV_V1]; (repeat' first | assumption | exact Below.refl _ _ | refine Below.alloc ?_ (by first | exact Nat.le_refl _ | omega | (simp only [siz_alloc, siz_set]; omega)) _ | refine Below.setCell ?_ (by first | exact Nat.le_refl _ | omega | (simp only [siz_alloc, siz_set]; omega)) _ | refine below_drewN ?_ _ | refine Below.drew ?_)
    clear hV_V1
    refine (alive_true _).mono ?_
    rintro e_W1 W1 ⟨rfl, hb_W1⟩
    have b1 := below_step n_b hb_W1; clear n_b
    have z_W1 := b1.size
    clear hb_W1
    go_wp2
    go_ret
    exact ⟨rfl, b1⟩
  · have d1 : decide (n < 0) = false := by simp; omega
    by_cases g3 : 64 < n
    · have d3 : decide ((64 : Int) < n) = true := by simpa using g3
      go_enter Try.func7, Try.ntmps7
      go_wp2_with fail
      refine calls_gen fun V1 hV_V1 => ?_
      have n_b : Below w.heap.size w V1 := by rw [hV_V1]; (repeat' first | assumption | exact Below.refl _ _ | refine Below.alloc ?_ (by first | exact Nat.le_refl _ | omega | (simp only [siz_alloc, siz_set]; omega)) _ | refine Below.setCell ?_ (by first | exact Nat.le_refl _ | omega | (simp only [siz_alloc, siz_set]; omega)) _ | refine below_drewN ?_ _ | refine Below.drew ?_)
      clear hV_V1
      refine (alive_true _).mono ?_
      rintro e_W1 W1 ⟨rfl, hb_W1⟩
      have b1 := below_step n_b hb_W1; clear n_b
      have z_W1 := b1.size
      clear hb_W1
      go_wp2
      go_ret
      exact ⟨rfl, b1⟩
    · clear d1
      obtain ⟨b, rfl⟩ := Int.eq_ofNat_of_zero_le h1
      obtain ⟨n, rfl⟩ := Int.eq_ofNat_of_zero_le (show 0 ≤ n by omega)
      obtain ⟨x, rfl, hx⟩ := hold_alt b n (by omega) (by omega)
      obtain ⟨K, hk, hK⟩ := tmod_in i x.length
      obtain ⟨t1, t2⟩ := tmod_bd i x.length
      rcases hx with ⟨h, hA⟩ | ⟨h, hA⟩
      · have hlt : x.length < 64 := by simp at h; omega
        exact back_lt b x _ _ _ i K one hlt hK rfl (by rw [insL_length]; omega) (by rw [insL_length]; omega) rfl rfl (by simp; omega) (by simp; omega) t1 t2 hk hA w
      · have hge : x.length = 64 := by simp at h; omega
        exact back_ge b x _ _ i K one (by omega) hK rfl rfl (by simp; omega) (by simp; omega) (by rw [hge]; rfl) hge t1 t2 hk hA w
set_option maxHeartbeats 1000000 in
theorem wrong_no (b : Nat) (n i k : Int) (one : Bool) (hb : b < 2 ^ 64) (h : ¬ Rt b n) (w : World) :
    Calls Try.prog 9 #[.agg #[.int .u64 (b : Int), .int .i64 n], .int .i64 i, .int .i64 k, .bool one] w fun e w' => e = .returned (.bool true) ∧ Below w.heap.size w w' := by
  have H := Lib.hid h
  clear h
  go_enter Try.func9, Try.ntmps9
  go_wp2_with fail
  refine calls_gen fun V0 hV_V0 => ?_
  have n_k0 := congrArg (fun v : World => v.heap[w.heap.size]?) hV_V0
  simp (maxDischargeDepth := 9) only [blk_new, blk_old, blk_far, lt_succ_of, ne_of_lt1, ne_of_lt2, blk_set, blk_drew, blk_drewN, siz_alloc, siz_set, setAt_cells, Option.map_some, List.setIfInBounds_toArray, List.set_cons_zero, List.set_cons_succ, List.set_nil, ne_eq, not_false_eq_true, Nat.lt_add_one, Nat.add_right_cancel_iff, Nat.add_left_cancel_iff, lt_s2, ne_s2, ne_t2, lt_s3, ne_s3, ne_t3, lt_s4, ne_s4, ne_t4, lt_s5, ne_s5, ne_t5, lt_s6, ne_s6, ne_t6, lt_s7, ne_s7, ne_t7, lt_s8, ne_s8, ne_t8, Nat.succ_ne_self, Nat.lt_irrefl, reduceCtorEq] at n_k0
  have n_b : Below w.heap.size w V0 := by rw [hV_V0]; (repeat' first | assumption | exact Below.refl _ _ | refine Below.alloc ?_ (by first | exact Nat.le_refl _ | omega | (simp only [siz_alloc, siz_set]; omega)) _ | refine Below.setCell ?_ (by first | exact Nat.le_refl _ | omega | (simp only [siz_alloc, siz_set]; omega)) _ | refine below_drewN ?_ _ | refine Below.drew ?_)
  have k0 := n_k0; clear n_k0
  clear hV_V0
  refine (right_no b n hb H.out _).mono ?_
  rintro e_W0 W0 ⟨rfl, hb_W0⟩
  have b0 := below_step n_b hb_W0; clear n_b
  replace k0 := keep_blk hb_W0 k0
  have c_k0 := cells_of k0
  have f_k0 := free_of k0
  have l_k0_W0 := lt_of k0
  have z_W0 := b0.size
  clear hb_W0
  go_wp2_with fail
  refine calls_gen fun V1 hV_V1 => ?_
  have n_k0 := congrArg (fun v : World => v.heap[w.heap.size]?) hV_V1
  simp (maxDischargeDepth := 9) only [blk_new, blk_old, blk_far, lt_succ_of, ne_of_lt1, ne_of_lt2, blk_set, blk_drew, blk_drewN, siz_alloc, siz_set, setAt_cells, Option.map_some, List.setIfInBounds_toArray, List.set_cons_zero, List.set_cons_succ, List.set_nil, ne_eq, not_false_eq_true, Nat.lt_add_one, Nat.add_right_cancel_iff, Nat.add_left_cancel_iff, lt_s2, ne_s2, ne_t2, lt_s3, ne_s3, ne_t3, lt_s4, ne_s4, ne_t4, lt_s5, ne_s5, ne_t5, lt_s6, ne_s6, ne_t6, lt_s7, ne_s7, ne_t7, lt_s8, ne_s8, ne_t8, Nat.succ_ne_self, Nat.lt_irrefl, reduceCtorEq, k0, l_k0_W0] at n_k0
  have n_b : Below w.heap.size w V1 := by rw [hV_V1]; (repeat' first | assumption | exact Below.refl _ _ | refine Below.alloc ?_ (by first | exact Nat.le_refl _ | omega | (simp only [siz_alloc, siz_set]; omega)) _ | refine Below.setCell ?_ (by first | exact Nat.le_refl _ | omega | (simp only [siz_alloc, siz_set]; omega)) _ | refine below_drewN ?_ _ | refine Below.drew ?_)
  clear k0 c_k0 f_k0
  have k0 := n_k0; clear n_k0
  clear hV_V1
  refine (alive_true _).mono ?_
  rintro e_W1 W1 ⟨rfl, hb_W1⟩
  have b1 := below_step n_b hb_W1; clear n_b
  replace k0 := keep_blk hb_W1 k0
  have c_k0 := cells_of k0
  have f_k0 := free_of k0
  have l_k0_W1 := lt_of k0
  have z_W1 := b1.size
  clear hb_W1
  go_wp2_with fail
  refine calls_gen fun V2 hV_V2 => ?_
  have n_k0 := congrArg (fun v : World => v.heap[w.heap.size]?) hV_V2
  simp (maxDischargeDepth := 9) only [blk_new, blk_old, blk_far, lt_succ_of, ne_of_lt1, ne_of_lt2, blk_set, blk_drew, blk_drewN, siz_alloc, siz_set, setAt_cells, Option.map_some, List.setIfInBounds_toArray, List.set_cons_zero, List.set_cons_succ, List.set_nil, ne_eq, not_false_eq_true, Nat.lt_add_one, Nat.add_right_cancel_iff, Nat.add_left_cancel_iff, lt_s2, ne_s2, ne_t2, lt_s3, ne_s3, ne_t3, lt_s4, ne_s4, ne_t4, lt_s5, ne_s5, ne_t5, lt_s6, ne_s6, ne_t6, lt_s7, ne_s7, ne_t7, lt_s8, ne_s8, ne_t8, Nat.succ_ne_self, Nat.lt_irrefl, reduceCtorEq, k0, l_k0_W0, l_k0_W1] at n_k0
  have n_b : Below w.heap.size w V2 := by rw [hV_V2]; (repeat' first | assumption | exact Below.refl _ _ | refine Below.alloc ?_ (by first | exact Nat.le_refl _ | omega | (simp only [siz_alloc, siz_set]; omega)) _ | refine Below.setCell ?_ (by first | exact Nat.le_refl _ | omega | (simp only [siz_alloc, siz_set]; omega)) _ | refine below_drewN ?_ _ | refine Below.drew ?_)
  clear k0 c_k0 f_k0
  have k0 := n_k0; clear n_k0
  clear hV_V2
  refine (insert_no b n hb H.out _ _ _).mono ?_
  rintro e_W2 W2 ⟨rfl, hb_W2⟩
  have b2 := below_step n_b hb_W2; clear n_b
  replace k0 := keep_blk hb_W2 k0
  have c_k0 := cells_of k0
  have f_k0 := free_of k0
  have l_k0_W2 := lt_of k0
  have z_W2 := b2.size
  clear hb_W2
  go_wp2_with fail
  refine calls_gen fun V3 hV_V3 => ?_
  have n_k0 := congrArg (fun v : World => v.heap[w.heap.size]?) hV_V3
  have n_k1 := congrArg (fun v : World => v.heap[W2.heap.size]?) hV_V3
  simp (maxDischargeDepth := 9) only [blk_new, blk_old, blk_far, lt_succ_of, ne_of_lt1, ne_of_lt2, blk_set, blk_drew, blk_drewN, siz_alloc, siz_set, setAt_cells, Option.map_some, List.setIfInBounds_toArray, List.set_cons_zero, List.set_cons_succ, List.set_nil, ne_eq, not_false_eq_true, Nat.lt_add_one, Nat.add_right_cancel_iff, Nat.add_left_cancel_iff, lt_s2, ne_s2, ne_t2, lt_s3, ne_s3, ne_t3, lt_s4, ne_s4, ne_t4, lt_s5, ne_s5, ne_t5, lt_s6, ne_s6, ne_t6, lt_s7, ne_s7, ne_t7, lt_s8, ne_s8, ne_t8, Nat.succ_ne_self, Nat.lt_irrefl, reduceCtorEq, k0, l_k0_W0, l_k0_W1, l_k0_W2] at n_k0
  simp (maxDischargeDepth := 9) only [blk_new, blk_old, blk_far, lt_succ_of, ne_of_lt1, ne_of_lt2, blk_set, blk_drew, blk_drewN, siz_alloc, siz_set, setAt_cells, Option.map_some, List.setIfInBounds_toArray, List.set_cons_zero, List.set_cons_succ, List.set_nil, ne_eq, not_false_eq_true, Nat.lt_add_one, Nat.add_right_cancel_iff, Nat.add_left_cancel_iff, lt_s2, ne_s2, ne_t2, lt_s3, ne_s3, ne_t3, lt_s4, ne_s4, ne_t4, lt_s5, ne_s5, ne_t5, lt_s6, ne_s6, ne_t6, lt_s7, ne_s7, ne_t7, lt_s8, ne_s8, ne_t8, Nat.succ_ne_self, Nat.lt_irrefl, reduceCtorEq, k0, l_k0_W0, l_k0_W1, l_k0_W2] at n_k1
  have n_b : Below w.heap.size w V3 := by rw [hV_V3]; (repeat' first | assumption | exact Below.refl _ _ | refine Below.alloc ?_ (by first | exact Nat.le_refl _ | omega | (simp only [siz_alloc, siz_set]; omega)) _ | refine Below.setCell ?_ (by first | exact Nat.le_refl _ | omega | (simp only [siz_alloc, siz_set]; omega)) _ | refine below_drewN ?_ _ | refine Below.drew ?_)
  clear k0 c_k0 f_k0
  have k0 := n_k0; clear n_k0
  have k1 := n_k1; clear n_k1
  clear hV_V3
  refine (delete_no b n hb H.out _ _).mono ?_
  rintro e_W3 W3 ⟨rfl, hb_W3⟩
  have b3 := below_step n_b hb_W3; clear n_b
  replace k0 := keep_blk hb_W3 k0
  have c_k0 := cells_of k0
  have f_k0 := free_of k0
  have l_k0_W3 := lt_of k0
  replace k1 := keep_blk hb_W3 k1
  have c_k1 := cells_of k1
  have f_k1 := free_of k1
  have l_k1_W3 := lt_of k1
  have z_W3 := b3.size
  clear hb_W3
  go_wp2_with fail
  refine calls_gen fun V4 hV_V4 => ?_
  have n_k0 := congrArg (fun v : World => v.heap[w.heap.size]?) hV_V4
  have n_k1 := congrArg (fun v : World => v.heap[W2.heap.size]?) hV_V4
  have n_k2 := congrArg (fun v : World => v.heap[W3.heap.size]?) hV_V4
  simp (maxDischargeDepth := 9) only [blk_new, blk_old, blk_far, lt_succ_of, ne_of_lt1, ne_of_lt2, blk_set, blk_drew, blk_drewN, siz_alloc, siz_set, setAt_cells, Option.map_some, List.setIfInBounds_toArray, List.set_cons_zero, List.set_cons_succ, List.set_nil, ne_eq, not_false_eq_true, Nat.lt_add_one, Nat.add_right_cancel_iff, Nat.add_left_cancel_iff, lt_s2, ne_s2, ne_t2, lt_s3, ne_s3, ne_t3, lt_s4, ne_s4, ne_t4, lt_s5, ne_s5, ne_t5, lt_s6, ne_s6, ne_t6, lt_s7, ne_s7, ne_t7, lt_s8, ne_s8, ne_t8, Nat.succ_ne_self, Nat.lt_irrefl, reduceCtorEq, k0, k1, l_k0_W0, l_k0_W1, l_k0_W2, l_k0_W3, l_k1_W3] at n_k0
  simp (maxDischargeDepth := 9) only [blk_new, blk_old, blk_far, lt_succ_of, ne_of_lt1, ne_of_lt2, blk_set, blk_drew, blk_drewN, siz_alloc, siz_set, setAt_cells, Option.map_some, List.setIfInBounds_toArray, List.set_cons_zero, List.set_cons_succ, List.set_nil, ne_eq, not_false_eq_true, Nat.lt_add_one, Nat.add_right_cancel_iff, Nat.add_left_cancel_iff, lt_s2, ne_s2, ne_t2, lt_s3, ne_s3, ne_t3, lt_s4, ne_s4, ne_t4, lt_s5, ne_s5, ne_t5, lt_s6, ne_s6, ne_t6, lt_s7, ne_s7, ne_t7, lt_s8, ne_s8, ne_t8, Nat.succ_ne_self, Nat.lt_irrefl, reduceCtorEq, k0, k1, l_k0_W0, l_k0_W1, l_k0_W2, l_k0_W3, l_k1_W3] at n_k1
  simp (maxDischargeDepth := 9) only [blk_new, blk_old, blk_far, lt_succ_of, ne_of_lt1, ne_of_lt2, blk_set, blk_drew, blk_drewN, siz_alloc, siz_set, setAt_cells, Option.map_some, List.setIfInBounds_toArray, List.set_cons_zero, List.set_cons_succ, List.set_nil, ne_eq, not_false_eq_true, Nat.lt_add_one, Nat.add_right_cancel_iff, Nat.add_left_cancel_iff, lt_s2, ne_s2, ne_t2, lt_s3, ne_s3, ne_t3, lt_s4, ne_s4, ne_t4, lt_s5, ne_s5, ne_t5, lt_s6, ne_s6, ne_t6, lt_s7, ne_s7, ne_t7, lt_s8, ne_s8, ne_t8, Nat.succ_ne_self, Nat.lt_irrefl, reduceCtorEq, k0, k1, l_k0_W0, l_k0_W1, l_k0_W2, l_k0_W3, l_k1_W3] at n_k2
  have n_b : Below w.heap.size w V4 := by rw [hV_V4]; (repeat' first | assumption | exact Below.refl _ _ | refine Below.alloc ?_ (by first | exact Nat.le_refl _ | omega | (simp only [siz_alloc, siz_set]; omega)) _ | refine Below.setCell ?_ (by first | exact Nat.le_refl _ | omega | (simp only [siz_alloc, siz_set]; omega)) _ | refine below_drewN ?_ _ | refine Below.drew ?_)
  clear k0 c_k0 f_k0
  clear k1 c_k1 f_k1
  have k0 := n_k0; clear n_k0
  have k1 := n_k1; clear n_k1
  have k2 := n_k2; clear n_k2
  clear hV_V4
  refine (split_no b n _ hb H.out _).mono ?_
  rintro e_W4 W4 ⟨rfl, hb_W4⟩
  have b4 := below_step n_b hb_W4; clear n_b
  replace k0 := keep_blk hb_W4 k0
  have c_k0 := cells_of k0
  have f_k0 := free_of k0
  have l_k0_W4 := lt_of k0
  replace k1 := keep_blk hb_W4 k1
  have c_k1 := cells_of k1
  have f_k1 := free_of k1
  have l_k1_W4 := lt_of k1
  replace k2 := keep_blk hb_W4 k2
  have c_k2 := cells_of k2
  have f_k2 := free_of k2
  have l_k2_W4 := lt_of k2
  have z_W4 := b4.size
  clear hb_W4
  go_wp2_with fail
  refine calls_gen fun V5 hV_V5 => ?_
  have n_k0 := congrArg (fun v : World => v.heap[w.heap.size]?) hV_V5
  have n_k1 := congrArg (fun v : World => v.heap[W2.heap.size]?) hV_V5
  have n_k2 := congrArg (fun v : World => v.heap[W3.heap.size]?) hV_V5
  have n_k3 := congrArg (fun v : World => v.heap[W4.heap.size]?) hV_V5
  have n_k4 := congrArg (fun v : World => v.heap[W4.heap.size + 1]?) hV_V5
  simp (maxDischargeDepth := 9) only [blk_new, blk_old, blk_far, lt_succ_of, ne_of_lt1, ne_of_lt2, blk_set, blk_drew, blk_drewN, siz_alloc, siz_set, setAt_cells, Option.map_some, List.setIfInBounds_toArray, List.set_cons_zero, List.set_cons_succ, List.set_nil, ne_eq, not_false_eq_true, Nat.lt_add_one, Nat.add_right_cancel_iff, Nat.add_left_cancel_iff, lt_s2, ne_s2, ne_t2, lt_s3, ne_s3, ne_t3, lt_s4, ne_s4, ne_t4, lt_s5, ne_s5, ne_t5, lt_s6, ne_s6, ne_t6, lt_s7, ne_s7, ne_t7, lt_s8, ne_s8, ne_t8, Nat.succ_ne_self, Nat.lt_irrefl, reduceCtorEq, k0, k1, k2, l_k0_W0, l_k0_W1, l_k0_W2, l_k0_W3, l_k1_W3, l_k0_W4, l_k1_W4, l_k2_W4] at n_k0
  simp (maxDischargeDepth := 9) only [blk_new, blk_old, blk_far, lt_succ_of, ne_of_lt1, ne_of_lt2, blk_set, blk_drew, blk_drewN, siz_alloc, siz_set, setAt_cells, Option.map_some, List.setIfInBounds_toArray, List.set_cons_zero, List.set_cons_succ, List.set_nil, ne_eq, not_false_eq_true, Nat.lt_add_one, Nat.add_right_cancel_iff, Nat.add_left_cancel_iff, lt_s2, ne_s2, ne_t2, lt_s3, ne_s3, ne_t3, lt_s4, ne_s4, ne_t4, lt_s5, ne_s5, ne_t5, lt_s6, ne_s6, ne_t6, lt_s7, ne_s7, ne_t7, lt_s8, ne_s8, ne_t8, Nat.succ_ne_self, Nat.lt_irrefl, reduceCtorEq, k0, k1, k2, l_k0_W0, l_k0_W1, l_k0_W2, l_k0_W3, l_k1_W3, l_k0_W4, l_k1_W4, l_k2_W4] at n_k1
  simp (maxDischargeDepth := 9) only [blk_new, blk_old, blk_far, lt_succ_of, ne_of_lt1, ne_of_lt2, blk_set, blk_drew, blk_drewN, siz_alloc, siz_set, setAt_cells, Option.map_some, List.setIfInBounds_toArray, List.set_cons_zero, List.set_cons_succ, List.set_nil, ne_eq, not_false_eq_true, Nat.lt_add_one, Nat.add_right_cancel_iff, Nat.add_left_cancel_iff, lt_s2, ne_s2, ne_t2, lt_s3, ne_s3, ne_t3, lt_s4, ne_s4, ne_t4, lt_s5, ne_s5, ne_t5, lt_s6, ne_s6, ne_t6, lt_s7, ne_s7, ne_t7, lt_s8, ne_s8, ne_t8, Nat.succ_ne_self, Nat.lt_irrefl, reduceCtorEq, k0, k1, k2, l_k0_W0, l_k0_W1, l_k0_W2, l_k0_W3, l_k1_W3, l_k0_W4, l_k1_W4, l_k2_W4] at n_k2
  simp (maxDischargeDepth := 9) only [blk_new, blk_old, blk_far, lt_succ_of, ne_of_lt1, ne_of_lt2, blk_set, blk_drew, blk_drewN, siz_alloc, siz_set, setAt_cells, Option.map_some, List.setIfInBounds_toArray, List.set_cons_zero, List.set_cons_succ, List.set_nil, ne_eq, not_false_eq_true, Nat.lt_add_one, Nat.add_right_cancel_iff, Nat.add_left_cancel_iff, lt_s2, ne_s2, ne_t2, lt_s3, ne_s3, ne_t3, lt_s4, ne_s4, ne_t4, lt_s5, ne_s5, ne_t5, lt_s6, ne_s6, ne_t6, lt_s7, ne_s7, ne_t7, lt_s8, ne_s8, ne_t8, Nat.succ_ne_self, Nat.lt_irrefl, reduceCtorEq, k0, k1, k2, l_k0_W0, l_k0_W1, l_k0_W2, l_k0_W3, l_k1_W3, l_k0_W4, l_k1_W4, l_k2_W4] at n_k3
  simp (maxDischargeDepth := 9) only [blk_new, blk_old, blk_far, lt_succ_of, ne_of_lt1, ne_of_lt2, blk_set, blk_drew, blk_drewN, siz_alloc, siz_set, setAt_cells, Option.map_some, List.setIfInBounds_toArray, List.set_cons_zero, List.set_cons_succ, List.set_nil, ne_eq, not_false_eq_true, Nat.lt_add_one, Nat.add_right_cancel_iff, Nat.add_left_cancel_iff, lt_s2, ne_s2, ne_t2, lt_s3, ne_s3, ne_t3, lt_s4, ne_s4, ne_t4, lt_s5, ne_s5, ne_t5, lt_s6, ne_s6, ne_t6, lt_s7, ne_s7, ne_t7, lt_s8, ne_s8, ne_t8, Nat.succ_ne_self, Nat.lt_irrefl, reduceCtorEq, k0, k1, k2, l_k0_W0, l_k0_W1, l_k0_W2, l_k0_W3, l_k1_W3, l_k0_W4, l_k1_W4, l_k2_W4] at n_k4
  have n_b : Below w.heap.size w V5 := by rw [hV_V5]; (repeat' first | assumption | exact Below.refl _ _ | refine Below.alloc ?_ (by first | exact Nat.le_refl _ | omega | (simp only [siz_alloc, siz_set]; omega)) _ | refine Below.setCell ?_ (by first | exact Nat.le_refl _ | omega | (simp only [siz_alloc, siz_set]; omega)) _ | refine below_drewN ?_ _ | refine Below.drew ?_)
  clear k0 c_k0 f_k0
  clear k1 c_k1 f_k1
  clear k2 c_k2 f_k2
  have k0 := n_k0; clear n_k0
  have k1 := n_k1; clear n_k1
  have k2 := n_k2; clear n_k2
  have k3 := n_k3; clear n_k3
  have k4 := n_k4; clear n_k4
  clear hV_V5
  refine (join_no1 b n hb H.out _ _ _).mono ?_
  rintro e_W5 W5 ⟨rfl, hb_W5⟩
  have b5 := below_step n_b hb_W5; clear n_b
  replace k0 := keep_blk hb_W5 k0
  have c_k0 := cells_of k0
  have f_k0 := free_of k0
  have l_k0_W5 := lt_of k0
  replace k1 := keep_blk hb_W5 k1
  have c_k1 := cells_of k1
  have f_k1 := free_of k1
  have l_k1_W5 := lt_of k1
  replace k2 := keep_blk hb_W5 k2
  have c_k2 := cells_of k2
  have f_k2 := free_of k2
  have l_k2_W5 := lt_of k2
  replace k3 := keep_blk hb_W5 k3
  have c_k3 := cells_of k3
  have f_k3 := free_of k3
  have l_k3_W5 := lt_of k3
  replace k4 := keep_blk hb_W5 k4
  have c_k4 := cells_of k4
  have f_k4 := free_of k4
  have l_k4_W5 := lt_of k4
  have z_W5 := b5.size
  clear hb_W5
  go_wp2_with fail
  refine calls_gen fun V6 hV_V6 => ?_
  have n_k0 := congrArg (fun v : World => v.heap[w.heap.size]?) hV_V6
  have n_k1 := congrArg (fun v : World => v.heap[W2.heap.size]?) hV_V6
  have n_k2 := congrArg (fun v : World => v.heap[W3.heap.size]?) hV_V6
  have n_k3 := congrArg (fun v : World => v.heap[W4.heap.size]?) hV_V6
  have n_k4 := congrArg (fun v : World => v.heap[W4.heap.size + 1]?) hV_V6
  have n_k5 := congrArg (fun v : World => v.heap[W5.heap.size]?) hV_V6
  have n_k6 := congrArg (fun v : World => v.heap[W5.heap.size + 1]?) hV_V6
  simp (maxDischargeDepth := 9) only [blk_new, blk_old, blk_far, lt_succ_of, ne_of_lt1, ne_of_lt2, blk_set, blk_drew, blk_drewN, siz_alloc, siz_set, setAt_cells, Option.map_some, List.setIfInBounds_toArray, List.set_cons_zero, List.set_cons_succ, List.set_nil, ne_eq, not_false_eq_true, Nat.lt_add_one, Nat.add_right_cancel_iff, Nat.add_left_cancel_iff, lt_s2, ne_s2, ne_t2, lt_s3, ne_s3, ne_t3, lt_s4, ne_s4, ne_t4, lt_s5, ne_s5, ne_t5, lt_s6, ne_s6, ne_t6, lt_s7, ne_s7, ne_t7, lt_s8, ne_s8, ne_t8, Nat.succ_ne_self, Nat.lt_irrefl, reduceCtorEq, k0, k1, k2, k3, k4, l_k0_W0, l_k0_W1, l_k0_W2, l_k0_W3, l_k1_W3, l_k0_W4, l_k1_W4, l_k2_W4, l_k0_W5, l_k1_W5, l_k2_W5, l_k3_W5, l_k4_W5] at n_k0
  simp (maxDischargeDepth := 9) only [blk_new, blk_old, blk_far, lt_succ_of, ne_of_lt1, ne_of_lt2, blk_set, blk_drew, blk_drewN, siz_alloc, siz_set, setAt_cells, Option.map_some, List.setIfInBounds_toArray, List.set_cons_zero, List.set_cons_succ, List.set_nil, ne_eq, not_false_eq_true, Nat.lt_add_one, Nat.add_right_cancel_iff, Nat.add_left_cancel_iff, lt_s2, ne_s2, ne_t2, lt_s3, ne_s3, ne_t3, lt_s4, ne_s4, ne_t4, lt_s5, ne_s5, ne_t5, lt_s6, ne_s6, ne_t6, lt_s7, ne_s7, ne_t7, lt_s8, ne_s8, ne_t8, Nat.succ_ne_self, Nat.lt_irrefl, reduceCtorEq, k0, k1, k2, k3, k4, l_k0_W0, l_k0_W1, l_k0_W2, l_k0_W3, l_k1_W3, l_k0_W4, l_k1_W4, l_k2_W4, l_k0_W5, l_k1_W5, l_k2_W5, l_k3_W5, l_k4_W5] at n_k1
  simp (maxDischargeDepth := 9) only [blk_new, blk_old, blk_far, lt_succ_of, ne_of_lt1, ne_of_lt2, blk_set, blk_drew, blk_drewN, siz_alloc, siz_set, setAt_cells, Option.map_some, List.setIfInBounds_toArray, List.set_cons_zero, List.set_cons_succ, List.set_nil, ne_eq, not_false_eq_true, Nat.lt_add_one, Nat.add_right_cancel_iff, Nat.add_left_cancel_iff, lt_s2, ne_s2, ne_t2, lt_s3, ne_s3, ne_t3, lt_s4, ne_s4, ne_t4, lt_s5, ne_s5, ne_t5, lt_s6, ne_s6, ne_t6, lt_s7, ne_s7, ne_t7, lt_s8, ne_s8, ne_t8, Nat.succ_ne_self, Nat.lt_irrefl, reduceCtorEq, k0, k1, k2, k3, k4, l_k0_W0, l_k0_W1, l_k0_W2, l_k0_W3, l_k1_W3, l_k0_W4, l_k1_W4, l_k2_W4, l_k0_W5, l_k1_W5, l_k2_W5, l_k3_W5, l_k4_W5] at n_k2
  simp (maxDischargeDepth := 9) only [blk_new, blk_old, blk_far, lt_succ_of, ne_of_lt1, ne_of_lt2, blk_set, blk_drew, blk_drewN, siz_alloc, siz_set, setAt_cells, Option.map_some, List.setIfInBounds_toArray, List.set_cons_zero, List.set_cons_succ, List.set_nil, ne_eq, not_false_eq_true, Nat.lt_add_one, Nat.add_right_cancel_iff, Nat.add_left_cancel_iff, lt_s2, ne_s2, ne_t2, lt_s3, ne_s3, ne_t3, lt_s4, ne_s4, ne_t4, lt_s5, ne_s5, ne_t5, lt_s6, ne_s6, ne_t6, lt_s7, ne_s7, ne_t7, lt_s8, ne_s8, ne_t8, Nat.succ_ne_self, Nat.lt_irrefl, reduceCtorEq, k0, k1, k2, k3, k4, l_k0_W0, l_k0_W1, l_k0_W2, l_k0_W3, l_k1_W3, l_k0_W4, l_k1_W4, l_k2_W4, l_k0_W5, l_k1_W5, l_k2_W5, l_k3_W5, l_k4_W5] at n_k3
  simp (maxDischargeDepth := 9) only [blk_new, blk_old, blk_far, lt_succ_of, ne_of_lt1, ne_of_lt2, blk_set, blk_drew, blk_drewN, siz_alloc, siz_set, setAt_cells, Option.map_some, List.setIfInBounds_toArray, List.set_cons_zero, List.set_cons_succ, List.set_nil, ne_eq, not_false_eq_true, Nat.lt_add_one, Nat.add_right_cancel_iff, Nat.add_left_cancel_iff, lt_s2, ne_s2, ne_t2, lt_s3, ne_s3, ne_t3, lt_s4, ne_s4, ne_t4, lt_s5, ne_s5, ne_t5, lt_s6, ne_s6, ne_t6, lt_s7, ne_s7, ne_t7, lt_s8, ne_s8, ne_t8, Nat.succ_ne_self, Nat.lt_irrefl, reduceCtorEq, k0, k1, k2, k3, k4, l_k0_W0, l_k0_W1, l_k0_W2, l_k0_W3, l_k1_W3, l_k0_W4, l_k1_W4, l_k2_W4, l_k0_W5, l_k1_W5, l_k2_W5, l_k3_W5, l_k4_W5] at n_k4
  simp (maxDischargeDepth := 9) only [blk_new, blk_old, blk_far, lt_succ_of, ne_of_lt1, ne_of_lt2, blk_set, blk_drew, blk_drewN, siz_alloc, siz_set, setAt_cells, Option.map_some, List.setIfInBounds_toArray, List.set_cons_zero, List.set_cons_succ, List.set_nil, ne_eq, not_false_eq_true, Nat.lt_add_one, Nat.add_right_cancel_iff, Nat.add_left_cancel_iff, lt_s2, ne_s2, ne_t2, lt_s3, ne_s3, ne_t3, lt_s4, ne_s4, ne_t4, lt_s5, ne_s5, ne_t5, lt_s6, ne_s6, ne_t6, lt_s7, ne_s7, ne_t7, lt_s8, ne_s8, ne_t8, Nat.succ_ne_self, Nat.lt_irrefl, reduceCtorEq, k0, k1, k2, k3, k4, l_k0_W0, l_k0_W1, l_k0_W2, l_k0_W3, l_k1_W3, l_k0_W4, l_k1_W4, l_k2_W4, l_k0_W5, l_k1_W5, l_k2_W5, l_k3_W5, l_k4_W5] at n_k5
  simp (maxDischargeDepth := 9) only [blk_new, blk_old, blk_far, lt_succ_of, ne_of_lt1, ne_of_lt2, blk_set, blk_drew, blk_drewN, siz_alloc, siz_set, setAt_cells, Option.map_some, List.setIfInBounds_toArray, List.set_cons_zero, List.set_cons_succ, List.set_nil, ne_eq, not_false_eq_true, Nat.lt_add_one, Nat.add_right_cancel_iff, Nat.add_left_cancel_iff, lt_s2, ne_s2, ne_t2, lt_s3, ne_s3, ne_t3, lt_s4, ne_s4, ne_t4, lt_s5, ne_s5, ne_t5, lt_s6, ne_s6, ne_t6, lt_s7, ne_s7, ne_t7, lt_s8, ne_s8, ne_t8, Nat.succ_ne_self, Nat.lt_irrefl, reduceCtorEq, k0, k1, k2, k3, k4, l_k0_W0, l_k0_W1, l_k0_W2, l_k0_W3, l_k1_W3, l_k0_W4, l_k1_W4, l_k2_W4, l_k0_W5, l_k1_W5, l_k2_W5, l_k3_W5, l_k4_W5] at n_k6
  have n_b : Below w.heap.size w V6 := by rw [hV_V6]; (repeat' first | assumption | exact Below.refl _ _ | refine Below.alloc ?_ (by first | exact Nat.le_refl _ | omega | (simp only [siz_alloc, siz_set]; omega)) _ | refine Below.setCell ?_ (by first | exact Nat.le_refl _ | omega | (simp only [siz_alloc, siz_set]; omega)) _ | refine below_drewN ?_ _ | refine Below.drew ?_)
  clear k0 c_k0 f_k0
  clear k1 c_k1 f_k1
  clear k2 c_k2 f_k2
  clear k3 c_k3 f_k3
  clear k4 c_k4 f_k4
  have k0 := n_k0; clear n_k0
  have k1 := n_k1; clear n_k1
  have k2 := n_k2; clear n_k2
  have k3 := n_k3; clear n_k3
  have k4 := n_k4; clear n_k4
  have k5 := n_k5; clear n_k5
  have k6 := n_k6; clear n_k6
  clear hV_V6
  refine (get_no b n _ hb H.out _).mono ?_
  rintro e_W6 W6 ⟨rfl, hb_W6⟩
  have b6 := below_step n_b hb_W6; clear n_b
  replace k0 := keep_blk hb_W6 k0
  have c_k0 := cells_of k0
  have f_k0 := free_of k0
  have l_k0_W6 := lt_of k0
  replace k1 := keep_blk hb_W6 k1
  have c_k1 := cells_of k1
  have f_k1 := free_of k1
  have l_k1_W6 := lt_of k1
  replace k2 := keep_blk hb_W6 k2
  have c_k2 := cells_of k2
  have f_k2 := free_of k2
  have l_k2_W6 := lt_of k2
  replace k3 := keep_blk hb_W6 k3
  have c_k3 := cells_of k3
  have f_k3 := free_of k3
  have l_k3_W6 := lt_of k3
  replace k4 := keep_blk hb_W6 k4
  have c_k4 := cells_of k4
  have f_k4 := free_of k4
  have l_k4_W6 := lt_of k4
  replace k5 := keep_blk hb_W6 k5
  have c_k5 := cells_of k5
  have f_k5 := free_of k5
  have l_k5_W6 := lt_of k5
  replace k6 := keep_blk hb_W6 k6
  have c_k6 := cells_of k6
  have f_k6 := free_of k6
  have l_k6_W6 := lt_of k6
  have z_W6 := b6.size
  clear hb_W6
  go_wp2_with fail
  refine calls_gen fun V7 hV_V7 => ?_
  have n_k0 := congrArg (fun v : World => v.heap[w.heap.size]?) hV_V7
  have n_k1 := congrArg (fun v : World => v.heap[W2.heap.size]?) hV_V7
  have n_k2 := congrArg (fun v : World => v.heap[W3.heap.size]?) hV_V7
  have n_k3 := congrArg (fun v : World => v.heap[W4.heap.size]?) hV_V7
  have n_k4 := congrArg (fun v : World => v.heap[W4.heap.size + 1]?) hV_V7
  have n_k5 := congrArg (fun v : World => v.heap[W5.heap.size]?) hV_V7
  have n_k6 := congrArg (fun v : World => v.heap[W5.heap.size + 1]?) hV_V7
  simp (maxDischargeDepth := 9) only [blk_new, blk_old, blk_far, lt_succ_of, ne_of_lt1, ne_of_lt2, blk_set, blk_drew, blk_drewN, siz_alloc, siz_set, setAt_cells, Option.map_some, List.setIfInBounds_toArray, List.set_cons_zero, List.set_cons_succ, List.set_nil, ne_eq, not_false_eq_true, Nat.lt_add_one, Nat.add_right_cancel_iff, Nat.add_left_cancel_iff, lt_s2, ne_s2, ne_t2, lt_s3, ne_s3, ne_t3, lt_s4, ne_s4, ne_t4, lt_s5, ne_s5, ne_t5, lt_s6, ne_s6, ne_t6, lt_s7, ne_s7, ne_t7, lt_s8, ne_s8, ne_t8, Nat.succ_ne_self, Nat.lt_irrefl, reduceCtorEq, k0, k1, k2, k3, k4, k5, k6, l_k0_W0, l_k0_W1, l_k0_W2, l_k0_W3, l_k1_W3, l_k0_W4, l_k1_W4, l_k2_W4, l_k0_W5, l_k1_W5, l_k2_W5, l_k3_W5, l_k4_W5, l_k0_W6, l_k1_W6, l_k2_W6, l_k3_W6, l_k4_W6, l_k5_W6, l_k6_W6] at n_k0
  simp (maxDischargeDepth := 9) only [blk_new, blk_old, blk_far, lt_succ_of, ne_of_lt1, ne_of_lt2, blk_set, blk_drew, blk_drewN, siz_alloc, siz_set, setAt_cells, Option.map_some, List.setIfInBounds_toArray, List.set_cons_zero, List.set_cons_succ, List.set_nil, ne_eq, not_false_eq_true, Nat.lt_add_one, Nat.add_right_cancel_iff, Nat.add_left_cancel_iff, lt_s2, ne_s2, ne_t2, lt_s3, ne_s3, ne_t3, lt_s4, ne_s4, ne_t4, lt_s5, ne_s5, ne_t5, lt_s6, ne_s6, ne_t6, lt_s7, ne_s7, ne_t7, lt_s8, ne_s8, ne_t8, Nat.succ_ne_self, Nat.lt_irrefl, reduceCtorEq, k0, k1, k2, k3, k4, k5, k6, l_k0_W0, l_k0_W1, l_k0_W2, l_k0_W3, l_k1_W3, l_k0_W4, l_k1_W4, l_k2_W4, l_k0_W5, l_k1_W5, l_k2_W5, l_k3_W5, l_k4_W5, l_k0_W6, l_k1_W6, l_k2_W6, l_k3_W6, l_k4_W6, l_k5_W6, l_k6_W6] at n_k1
  simp (maxDischargeDepth := 9) only [blk_new, blk_old, blk_far, lt_succ_of, ne_of_lt1, ne_of_lt2, blk_set, blk_drew, blk_drewN, siz_alloc, siz_set, setAt_cells, Option.map_some, List.setIfInBounds_toArray, List.set_cons_zero, List.set_cons_succ, List.set_nil, ne_eq, not_false_eq_true, Nat.lt_add_one, Nat.add_right_cancel_iff, Nat.add_left_cancel_iff, lt_s2, ne_s2, ne_t2, lt_s3, ne_s3, ne_t3, lt_s4, ne_s4, ne_t4, lt_s5, ne_s5, ne_t5, lt_s6, ne_s6, ne_t6, lt_s7, ne_s7, ne_t7, lt_s8, ne_s8, ne_t8, Nat.succ_ne_self, Nat.lt_irrefl, reduceCtorEq, k0, k1, k2, k3, k4, k5, k6, l_k0_W0, l_k0_W1, l_k0_W2, l_k0_W3, l_k1_W3, l_k0_W4, l_k1_W4, l_k2_W4, l_k0_W5, l_k1_W5, l_k2_W5, l_k3_W5, l_k4_W5, l_k0_W6, l_k1_W6, l_k2_W6, l_k3_W6, l_k4_W6, l_k5_W6, l_k6_W6] at n_k2
  simp (maxDischargeDepth := 9) only [blk_new, blk_old, blk_far, lt_succ_of, ne_of_lt1, ne_of_lt2, blk_set, blk_drew, blk_drewN, siz_alloc, siz_set, setAt_cells, Option.map_some, List.setIfInBounds_toArray, List.set_cons_zero, List.set_cons_succ, List.set_nil, ne_eq, not_false_eq_true, Nat.lt_add_one, Nat.add_right_cancel_iff, Nat.add_left_cancel_iff, lt_s2, ne_s2, ne_t2, lt_s3, ne_s3, ne_t3, lt_s4, ne_s4, ne_t4, lt_s5, ne_s5, ne_t5, lt_s6, ne_s6, ne_t6, lt_s7, ne_s7, ne_t7, lt_s8, ne_s8, ne_t8, Nat.succ_ne_self, Nat.lt_irrefl, reduceCtorEq, k0, k1, k2, k3, k4, k5, k6, l_k0_W0, l_k0_W1, l_k0_W2, l_k0_W3, l_k1_W3, l_k0_W4, l_k1_W4, l_k2_W4, l_k0_W5, l_k1_W5, l_k2_W5, l_k3_W5, l_k4_W5, l_k0_W6, l_k1_W6, l_k2_W6, l_k3_W6, l_k4_W6, l_k5_W6, l_k6_W6] at n_k3
  simp (maxDischargeDepth := 9) only [blk_new, blk_old, blk_far, lt_succ_of, ne_of_lt1, ne_of_lt2, blk_set, blk_drew, blk_drewN, siz_alloc, siz_set, setAt_cells, Option.map_some, List.setIfInBounds_toArray, List.set_cons_zero, List.set_cons_succ, List.set_nil, ne_eq, not_false_eq_true, Nat.lt_add_one, Nat.add_right_cancel_iff, Nat.add_left_cancel_iff, lt_s2, ne_s2, ne_t2, lt_s3, ne_s3, ne_t3, lt_s4, ne_s4, ne_t4, lt_s5, ne_s5, ne_t5, lt_s6, ne_s6, ne_t6, lt_s7, ne_s7, ne_t7, lt_s8, ne_s8, ne_t8, Nat.succ_ne_self, Nat.lt_irrefl, reduceCtorEq, k0, k1, k2, k3, k4, k5, k6, l_k0_W0, l_k0_W1, l_k0_W2, l_k0_W3, l_k1_W3, l_k0_W4, l_k1_W4, l_k2_W4, l_k0_W5, l_k1_W5, l_k2_W5, l_k3_W5, l_k4_W5, l_k0_W6, l_k1_W6, l_k2_W6, l_k3_W6, l_k4_W6, l_k5_W6, l_k6_W6] at n_k4
  simp (maxDischargeDepth := 9) only [blk_new, blk_old, blk_far, lt_succ_of, ne_of_lt1, ne_of_lt2, blk_set, blk_drew, blk_drewN, siz_alloc, siz_set, setAt_cells, Option.map_some, List.setIfInBounds_toArray, List.set_cons_zero, List.set_cons_succ, List.set_nil, ne_eq, not_false_eq_true, Nat.lt_add_one, Nat.add_right_cancel_iff, Nat.add_left_cancel_iff, lt_s2, ne_s2, ne_t2, lt_s3, ne_s3, ne_t3, lt_s4, ne_s4, ne_t4, lt_s5, ne_s5, ne_t5, lt_s6, ne_s6, ne_t6, lt_s7, ne_s7, ne_t7, lt_s8, ne_s8, ne_t8, Nat.succ_ne_self, Nat.lt_irrefl, reduceCtorEq, k0, k1, k2, k3, k4, k5, k6, l_k0_W0, l_k0_W1, l_k0_W2, l_k0_W3, l_k1_W3, l_k0_W4, l_k1_W4, l_k2_W4, l_k0_W5, l_k1_W5, l_k2_W5, l_k3_W5, l_k4_W5, l_k0_W6, l_k1_W6, l_k2_W6, l_k3_W6, l_k4_W6, l_k5_W6, l_k6_W6] at n_k5
  simp (maxDischargeDepth := 9) only [blk_new, blk_old, blk_far, lt_succ_of, ne_of_lt1, ne_of_lt2, blk_set, blk_drew, blk_drewN, siz_alloc, siz_set, setAt_cells, Option.map_some, List.setIfInBounds_toArray, List.set_cons_zero, List.set_cons_succ, List.set_nil, ne_eq, not_false_eq_true, Nat.lt_add_one, Nat.add_right_cancel_iff, Nat.add_left_cancel_iff, lt_s2, ne_s2, ne_t2, lt_s3, ne_s3, ne_t3, lt_s4, ne_s4, ne_t4, lt_s5, ne_s5, ne_t5, lt_s6, ne_s6, ne_t6, lt_s7, ne_s7, ne_t7, lt_s8, ne_s8, ne_t8, Nat.succ_ne_self, Nat.lt_irrefl, reduceCtorEq, k0, k1, k2, k3, k4, k5, k6, l_k0_W0, l_k0_W1, l_k0_W2, l_k0_W3, l_k1_W3, l_k0_W4, l_k1_W4, l_k2_W4, l_k0_W5, l_k1_W5, l_k2_W5, l_k3_W5, l_k4_W5, l_k0_W6, l_k1_W6, l_k2_W6, l_k3_W6, l_k4_W6, l_k5_W6, l_k6_W6] at n_k6
  have n_b : Below w.heap.size w V7 := by rw [hV_V7]; (repeat' first | assumption | exact Below.refl _ _ | refine Below.alloc ?_ (by first | exact Nat.le_refl _ | omega | (simp only [siz_alloc, siz_set]; omega)) _ | refine Below.setCell ?_ (by first | exact Nat.le_refl _ | omega | (simp only [siz_alloc, siz_set]; omega)) _ | refine below_drewN ?_ _ | refine Below.drew ?_)
  clear k0 c_k0 f_k0
  clear k1 c_k1 f_k1
  clear k2 c_k2 f_k2
  clear k3 c_k3 f_k3
  clear k4 c_k4 f_k4
  clear k5 c_k5 f_k5
  clear k6 c_k6 f_k6
  have k0 := n_k0; clear n_k0
  have k1 := n_k1; clear n_k1
  have k2 := n_k2; clear n_k2
  have k3 := n_k3; clear n_k3
  have k4 := n_k4; clear n_k4
  have k5 := n_k5; clear n_k5
  have k6 := n_k6; clear n_k6
  clear hV_V7
  refine (rank_no b n _ hb H.out _).mono ?_
  rintro e_W7 W7 ⟨rfl, hb_W7⟩
  have b7 := below_step n_b hb_W7; clear n_b
  replace k0 := keep_blk hb_W7 k0
  have c_k0 := cells_of k0
  have f_k0 := free_of k0
  have l_k0_W7 := lt_of k0
  replace k1 := keep_blk hb_W7 k1
  have c_k1 := cells_of k1
  have f_k1 := free_of k1
  have l_k1_W7 := lt_of k1
  replace k2 := keep_blk hb_W7 k2
  have c_k2 := cells_of k2
  have f_k2 := free_of k2
  have l_k2_W7 := lt_of k2
  replace k3 := keep_blk hb_W7 k3
  have c_k3 := cells_of k3
  have f_k3 := free_of k3
  have l_k3_W7 := lt_of k3
  replace k4 := keep_blk hb_W7 k4
  have c_k4 := cells_of k4
  have f_k4 := free_of k4
  have l_k4_W7 := lt_of k4
  replace k5 := keep_blk hb_W7 k5
  have c_k5 := cells_of k5
  have f_k5 := free_of k5
  have l_k5_W7 := lt_of k5
  replace k6 := keep_blk hb_W7 k6
  have c_k6 := cells_of k6
  have f_k6 := free_of k6
  have l_k6_W7 := lt_of k6
  have z_W7 := b7.size
  clear hb_W7
  go_wp2_with fail
  refine calls_gen fun V8 hV_V8 => ?_
  have n_k0 := congrArg (fun v : World => v.heap[w.heap.size]?) hV_V8
  have n_k1 := congrArg (fun v : World => v.heap[W2.heap.size]?) hV_V8
  have n_k2 := congrArg (fun v : World => v.heap[W3.heap.size]?) hV_V8
  have n_k3 := congrArg (fun v : World => v.heap[W4.heap.size]?) hV_V8
  have n_k4 := congrArg (fun v : World => v.heap[W4.heap.size + 1]?) hV_V8
  have n_k5 := congrArg (fun v : World => v.heap[W5.heap.size]?) hV_V8
  have n_k6 := congrArg (fun v : World => v.heap[W5.heap.size + 1]?) hV_V8
  simp (maxDischargeDepth := 9) only [blk_new, blk_old, blk_far, lt_succ_of, ne_of_lt1, ne_of_lt2, blk_set, blk_drew, blk_drewN, siz_alloc, siz_set, setAt_cells, Option.map_some, List.setIfInBounds_toArray, List.set_cons_zero, List.set_cons_succ, List.set_nil, ne_eq, not_false_eq_true, Nat.lt_add_one, Nat.add_right_cancel_iff, Nat.add_left_cancel_iff, lt_s2, ne_s2, ne_t2, lt_s3, ne_s3, ne_t3, lt_s4, ne_s4, ne_t4, lt_s5, ne_s5, ne_t5, lt_s6, ne_s6, ne_t6, lt_s7, ne_s7, ne_t7, lt_s8, ne_s8, ne_t8, Nat.succ_ne_self, Nat.lt_irrefl, reduceCtorEq, k0, k1, k2, k3, k4, k5, k6, l_k0_W0, l_k0_W1, l_k0_W2, l_k0_W3, l_k1_W3, l_k0_W4, l_k1_W4, l_k2_W4, l_k0_W5, l_k1_W5, l_k2_W5, l_k3_W5, l_k4_W5, l_k0_W6, l_k1_W6, l_k2_W6, l_k3_W6, l_k4_W6, l_k5_W6, l_k6_W6, l_k0_W7, l_k1_W7, l_k2_W7, l_k3_W7, l_k4_W7, l_k5_W7, l_k6_W7] at n_k0
  simp (maxDischargeDepth := 9) only [blk_new, blk_old, blk_far, lt_succ_of, ne_of_lt1, ne_of_lt2, blk_set, blk_drew, blk_drewN, siz_alloc, siz_set, setAt_cells, Option.map_some, List.setIfInBounds_toArray, List.set_cons_zero, List.set_cons_succ, List.set_nil, ne_eq, not_false_eq_true, Nat.lt_add_one, Nat.add_right_cancel_iff, Nat.add_left_cancel_iff, lt_s2, ne_s2, ne_t2, lt_s3, ne_s3, ne_t3, lt_s4, ne_s4, ne_t4, lt_s5, ne_s5, ne_t5, lt_s6, ne_s6, ne_t6, lt_s7, ne_s7, ne_t7, lt_s8, ne_s8, ne_t8, Nat.succ_ne_self, Nat.lt_irrefl, reduceCtorEq, k0, k1, k2, k3, k4, k5, k6, l_k0_W0, l_k0_W1, l_k0_W2, l_k0_W3, l_k1_W3, l_k0_W4, l_k1_W4, l_k2_W4, l_k0_W5, l_k1_W5, l_k2_W5, l_k3_W5, l_k4_W5, l_k0_W6, l_k1_W6, l_k2_W6, l_k3_W6, l_k4_W6, l_k5_W6, l_k6_W6, l_k0_W7, l_k1_W7, l_k2_W7, l_k3_W7, l_k4_W7, l_k5_W7, l_k6_W7] at n_k1
  simp (maxDischargeDepth := 9) only [blk_new, blk_old, blk_far, lt_succ_of, ne_of_lt1, ne_of_lt2, blk_set, blk_drew, blk_drewN, siz_alloc, siz_set, setAt_cells, Option.map_some, List.setIfInBounds_toArray, List.set_cons_zero, List.set_cons_succ, List.set_nil, ne_eq, not_false_eq_true, Nat.lt_add_one, Nat.add_right_cancel_iff, Nat.add_left_cancel_iff, lt_s2, ne_s2, ne_t2, lt_s3, ne_s3, ne_t3, lt_s4, ne_s4, ne_t4, lt_s5, ne_s5, ne_t5, lt_s6, ne_s6, ne_t6, lt_s7, ne_s7, ne_t7, lt_s8, ne_s8, ne_t8, Nat.succ_ne_self, Nat.lt_irrefl, reduceCtorEq, k0, k1, k2, k3, k4, k5, k6, l_k0_W0, l_k0_W1, l_k0_W2, l_k0_W3, l_k1_W3, l_k0_W4, l_k1_W4, l_k2_W4, l_k0_W5, l_k1_W5, l_k2_W5, l_k3_W5, l_k4_W5, l_k0_W6, l_k1_W6, l_k2_W6, l_k3_W6, l_k4_W6, l_k5_W6, l_k6_W6, l_k0_W7, l_k1_W7, l_k2_W7, l_k3_W7, l_k4_W7, l_k5_W7, l_k6_W7] at n_k2
  simp (maxDischargeDepth := 9) only [blk_new, blk_old, blk_far, lt_succ_of, ne_of_lt1, ne_of_lt2, blk_set, blk_drew, blk_drewN, siz_alloc, siz_set, setAt_cells, Option.map_some, List.setIfInBounds_toArray, List.set_cons_zero, List.set_cons_succ, List.set_nil, ne_eq, not_false_eq_true, Nat.lt_add_one, Nat.add_right_cancel_iff, Nat.add_left_cancel_iff, lt_s2, ne_s2, ne_t2, lt_s3, ne_s3, ne_t3, lt_s4, ne_s4, ne_t4, lt_s5, ne_s5, ne_t5, lt_s6, ne_s6, ne_t6, lt_s7, ne_s7, ne_t7, lt_s8, ne_s8, ne_t8, Nat.succ_ne_self, Nat.lt_irrefl, reduceCtorEq, k0, k1, k2, k3, k4, k5, k6, l_k0_W0, l_k0_W1, l_k0_W2, l_k0_W3, l_k1_W3, l_k0_W4, l_k1_W4, l_k2_W4, l_k0_W5, l_k1_W5, l_k2_W5, l_k3_W5, l_k4_W5, l_k0_W6, l_k1_W6, l_k2_W6, l_k3_W6, l_k4_W6, l_k5_W6, l_k6_W6, l_k0_W7, l_k1_W7, l_k2_W7, l_k3_W7, l_k4_W7, l_k5_W7, l_k6_W7] at n_k3
  simp (maxDischargeDepth := 9) only [blk_new, blk_old, blk_far, lt_succ_of, ne_of_lt1, ne_of_lt2, blk_set, blk_drew, blk_drewN, siz_alloc, siz_set, setAt_cells, Option.map_some, List.setIfInBounds_toArray, List.set_cons_zero, List.set_cons_succ, List.set_nil, ne_eq, not_false_eq_true, Nat.lt_add_one, Nat.add_right_cancel_iff, Nat.add_left_cancel_iff, lt_s2, ne_s2, ne_t2, lt_s3, ne_s3, ne_t3, lt_s4, ne_s4, ne_t4, lt_s5, ne_s5, ne_t5, lt_s6, ne_s6, ne_t6, lt_s7, ne_s7, ne_t7, lt_s8, ne_s8, ne_t8, Nat.succ_ne_self, Nat.lt_irrefl, reduceCtorEq, k0, k1, k2, k3, k4, k5, k6, l_k0_W0, l_k0_W1, l_k0_W2, l_k0_W3, l_k1_W3, l_k0_W4, l_k1_W4, l_k2_W4, l_k0_W5, l_k1_W5, l_k2_W5, l_k3_W5, l_k4_W5, l_k0_W6, l_k1_W6, l_k2_W6, l_k3_W6, l_k4_W6, l_k5_W6, l_k6_W6, l_k0_W7, l_k1_W7, l_k2_W7, l_k3_W7, l_k4_W7, l_k5_W7, l_k6_W7] at n_k4
  simp (maxDischargeDepth := 9) only [blk_new, blk_old, blk_far, lt_succ_of, ne_of_lt1, ne_of_lt2, blk_set, blk_drew, blk_drewN, siz_alloc, siz_set, setAt_cells, Option.map_some, List.setIfInBounds_toArray, List.set_cons_zero, List.set_cons_succ, List.set_nil, ne_eq, not_false_eq_true, Nat.lt_add_one, Nat.add_right_cancel_iff, Nat.add_left_cancel_iff, lt_s2, ne_s2, ne_t2, lt_s3, ne_s3, ne_t3, lt_s4, ne_s4, ne_t4, lt_s5, ne_s5, ne_t5, lt_s6, ne_s6, ne_t6, lt_s7, ne_s7, ne_t7, lt_s8, ne_s8, ne_t8, Nat.succ_ne_self, Nat.lt_irrefl, reduceCtorEq, k0, k1, k2, k3, k4, k5, k6, l_k0_W0, l_k0_W1, l_k0_W2, l_k0_W3, l_k1_W3, l_k0_W4, l_k1_W4, l_k2_W4, l_k0_W5, l_k1_W5, l_k2_W5, l_k3_W5, l_k4_W5, l_k0_W6, l_k1_W6, l_k2_W6, l_k3_W6, l_k4_W6, l_k5_W6, l_k6_W6, l_k0_W7, l_k1_W7, l_k2_W7, l_k3_W7, l_k4_W7, l_k5_W7, l_k6_W7] at n_k5
  simp (maxDischargeDepth := 9) only [blk_new, blk_old, blk_far, lt_succ_of, ne_of_lt1, ne_of_lt2, blk_set, blk_drew, blk_drewN, siz_alloc, siz_set, setAt_cells, Option.map_some, List.setIfInBounds_toArray, List.set_cons_zero, List.set_cons_succ, List.set_nil, ne_eq, not_false_eq_true, Nat.lt_add_one, Nat.add_right_cancel_iff, Nat.add_left_cancel_iff, lt_s2, ne_s2, ne_t2, lt_s3, ne_s3, ne_t3, lt_s4, ne_s4, ne_t4, lt_s5, ne_s5, ne_t5, lt_s6, ne_s6, ne_t6, lt_s7, ne_s7, ne_t7, lt_s8, ne_s8, ne_t8, Nat.succ_ne_self, Nat.lt_irrefl, reduceCtorEq, k0, k1, k2, k3, k4, k5, k6, l_k0_W0, l_k0_W1, l_k0_W2, l_k0_W3, l_k1_W3, l_k0_W4, l_k1_W4, l_k2_W4, l_k0_W5, l_k1_W5, l_k2_W5, l_k3_W5, l_k4_W5, l_k0_W6, l_k1_W6, l_k2_W6, l_k3_W6, l_k4_W6, l_k5_W6, l_k6_W6, l_k0_W7, l_k1_W7, l_k2_W7, l_k3_W7, l_k4_W7, l_k5_W7, l_k6_W7] at n_k6
  have n_b : Below w.heap.size w V8 := by rw [hV_V8]; (repeat' first | assumption | exact Below.refl _ _ | refine Below.alloc ?_ (by first | exact Nat.le_refl _ | omega | (simp only [siz_alloc, siz_set]; omega)) _ | refine Below.setCell ?_ (by first | exact Nat.le_refl _ | omega | (simp only [siz_alloc, siz_set]; omega)) _ | refine below_drewN ?_ _ | refine Below.drew ?_)
  clear k0 c_k0 f_k0
  clear k1 c_k1 f_k1
  clear k2 c_k2 f_k2
  clear k3 c_k3 f_k3
  clear k4 c_k4 f_k4
  clear k5 c_k5 f_k5
  clear k6 c_k6 f_k6
  have k0 := n_k0; clear n_k0
  have k1 := n_k1; clear n_k1
  have k2 := n_k2; clear n_k2
  have k3 := n_k3; clear n_k3
  have k4 := n_k4; clear n_k4
  have k5 := n_k5; clear n_k5
  have k6 := n_k6; clear n_k6
  clear hV_V8
  refine (select_no b n _ _ hb H.out _).mono ?_
  rintro e_W8 W8 ⟨rfl, hb_W8⟩
  have b8 := below_step n_b hb_W8; clear n_b
  replace k0 := keep_blk hb_W8 k0
  have c_k0 := cells_of k0
  have f_k0 := free_of k0
  have l_k0_W8 := lt_of k0
  replace k1 := keep_blk hb_W8 k1
  have c_k1 := cells_of k1
  have f_k1 := free_of k1
  have l_k1_W8 := lt_of k1
  replace k2 := keep_blk hb_W8 k2
  have c_k2 := cells_of k2
  have f_k2 := free_of k2
  have l_k2_W8 := lt_of k2
  replace k3 := keep_blk hb_W8 k3
  have c_k3 := cells_of k3
  have f_k3 := free_of k3
  have l_k3_W8 := lt_of k3
  replace k4 := keep_blk hb_W8 k4
  have c_k4 := cells_of k4
  have f_k4 := free_of k4
  have l_k4_W8 := lt_of k4
  replace k5 := keep_blk hb_W8 k5
  have c_k5 := cells_of k5
  have f_k5 := free_of k5
  have l_k5_W8 := lt_of k5
  replace k6 := keep_blk hb_W8 k6
  have c_k6 := cells_of k6
  have f_k6 := free_of k6
  have l_k6_W8 := lt_of k6
  have z_W8 := b8.size
  clear hb_W8
  go_wp2
  go_ret
  refine ⟨rfl, ?_⟩
  (repeat' first | assumption | exact Below.refl _ _ | refine Below.alloc ?_ (by first | exact Nat.le_refl _ | omega | (simp only [siz_alloc, siz_set]; omega)) _ | refine Below.setCell ?_ (by first | exact Nat.le_refl _ | omega | (simp only [siz_alloc, siz_set]; omega)) _ | refine below_drewN ?_ _ | refine Below.drew ?_)
set_option maxHeartbeats 400000 in
theorem wrong_walk (b n i k : Int) (one : Bool) (hb : (Lit.int .u64 b).wf = true) (w : World) :
    Calls Try.prog 9 #[.agg #[.int .u64 b, .int .i64 n], .int .i64 i, .int .i64 k, .bool one] w fun e w' => e = .returned (.bool true) ∧ Below w.heap.size w w' := by
  obtain ⟨h1, h2⟩ := wf_u64 hb
  clear hb
  obtain ⟨b, rfl⟩ := Int.eq_ofNat_of_zero_le h1
  by_cases h : Rt b n
  · obtain ⟨n, rfl⟩ := Int.eq_ofNat_of_zero_le h.1
    have g : decide (b < 2 ^ n) = true := by have := h.2.2; simpa using this
    have hn : n ≤ 64 := by have := h.2.1; omega
    clear h
    go_enter Try.func9, Try.ntmps9
    go_wp2_with fail
    refine (right_nat b n hn (by omega) _).mono ?_
    rintro e0 W0 ⟨rfl, hb0⟩
    rw [g]
    have b0 := below_step (below_box _ _) hb0
    clear hb0
    go_wp2_with fail
    refine calls_gen fun V1 hV_V1 => ?_
    have n_b : Below w.heap.size w V1 := by rw [hV_V1]; (repeat' first | assumption | exact Below.refl _ _ | refine Below.alloc ?_ (by first | exact Nat.le_refl _ | omega | (simp only [siz_alloc, siz_set]; omega)) _ | refine Below.setCell ?_ (by first | exact Nat.le_refl _ | omega | (simp only [siz_alloc, siz_set]; omega)) _ | refine below_drewN ?_ _ | refine Below.drew ?_)
    clear hV_V1
    refine (alive_true _).mono ?_
    rintro e_W1 W1 ⟨rfl, hb_W1⟩
    have b1 := below_step n_b hb_W1; clear n_b
    have z_W1 := b1.size
    clear hb_W1
    go_wp2
    go_ret
    refine ⟨rfl, ?_⟩
    (repeat' first | assumption | exact Below.refl _ _ | refine Below.alloc ?_ (by first | exact Nat.le_refl _ | omega | (simp only [siz_alloc, siz_set]; omega)) _ | refine Below.setCell ?_ (by first | exact Nat.le_refl _ | omega | (simp only [siz_alloc, siz_set]; omega)) _ | refine below_drewN ?_ _ | refine Below.drew ?_)
  · exact wrong_no b n i k one (by omega) h w
end Go.Proofs.Ytdcgalekcciggaa
