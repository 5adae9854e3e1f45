/- The statements of chapter 7 on leaves: each walked, and shown to be true at every input. -/
import Derived.Test.YtdcgalekcciggaaLeaf
namespace Go.Proofs.Ytdcgalekcciggaa
set_option linter.unusedSimpArgs false
set_option linter.unusedVariables false
set_option linter.unnecessarySimpa false
open Go.RowKit
attribute [local go_sem ↓] Go.wp_at_zero Go.wp_at_succ
attribute [local go_sem] lt_s2 lt_s3 lt_s4 lt_s5 lt_s6 ne_s2 ne_t2 ne_s3 ne_t3 ne_s4 ne_t4
theorem insert_at (l c : List Bool) (i : Int) (one : Bool) (hi : 0 ≤ i) (hi2 : i ≤ l.length) (hl : l.length < 64) (A n : Int) (hA : A = pack l) (hn : n = l.length) (hc : c = insL l i.toNat one) (w : World) :
    Calls Try.prog 16 #[.agg #[.int .u64 A, .int .i64 n], .int .i64 i, .bool one] w fun e w' =>
      e = .returned (.tuple #[.agg #[.int .u64 (pack c : Int), .int .i64 (c.length : Int)], .bool true]) ∧ Below w.heap.size w w' := by
  obtain ⟨i, rfl⟩ := Int.eq_ofNat_of_zero_le hi
  subst hA hn hc; exact insert_yes l i one (by omega) hl w
theorem rank_at (l : List Bool) (hl : l.length ≤ 64) (i : Int) (A n r : Int) (hA : A = pack l) (hn : n = l.length) (hr : r = (l.take i.toNat).count true) (w : World) :
    Calls Try.prog 11 #[.agg #[.int .u64 A, .int .i64 n], .int .i64 i] w fun e w' => e = .returned (.int .i64 r) ∧ Below w.heap.size w w' := by
  subst hA hn hr; exact rank_list l hl i w
theorem select_at (l : List Bool) (hl : l.length ≤ 64) (one : Bool) (k : Int) (hk : k ≤ 9223372036854775807) (A n r : Int) (hA : A = pack l) (hn : n = l.length) (hr : r = selL l one k) (w : World) :
    Calls Try.prog 12 #[.agg #[.int .u64 A, .int .i64 n], .bool one, .int .i64 k] w fun e w' => e = .returned (.int .i64 r) ∧ Below w.heap.size w w' := by
  subst hA hn hr; exact select_list l hl one k hk w
theorem get_at (l : List Bool) (hl : l.length ≤ 64) (i : Int) (A n : Int) (r : Bool) (hA : A = pack l) (hn : n = l.length) (hr : r = getL l i) (w : World) :
    Calls Try.prog 13 #[.agg #[.int .u64 A, .int .i64 n], .int .i64 i] w fun e w' => e = .returned (.bool r) ∧ Below w.heap.size w w' := by
  subst hA hn hr; exact get_list l hl i w
set_option maxHeartbeats 1000000 in
theorem alive_true (w : World) : Calls Try.prog 10 #[] w fun e w' => e = .returned (.bool true) ∧ Below w.heap.size w w' := by
  have p1 : (pack [true] : Int) = 1 := by decide
  have p2 : (pack [false, true] : Int) = 2 := by decide
  have q1 := Lib.hid p1; have q2 := Lib.hid p2
  clear p1 p2
  go_enter Try.func10, Try.ntmps10
  go_wp2_with fail
  refine calls_gen fun V1 hV_V1 => ?_
  have n_b : Below w.heap.size w V1 := by rw [hV_V1]; (repeat' first | assumption | exact Below.refl _ _ | refine Below.alloc ?_ (by first | exact Nat.le_refl _ | omega | (simp only [siz_alloc, siz_set]; omega)) _ | refine Below.setCell ?_ (by first | exact Nat.le_refl _ | omega | (simp only [siz_alloc, siz_set]; omega)) _ | refine below_drewN ?_ _ | refine Below.drew ?_)
  clear hV_V1
  refine (insert_at [] [true] 0 true (by omega) (by simp) (by simp) _ _ (by rfl) (by rfl) (by rfl) _).mono ?_
  rintro e_W1 W1 ⟨rfl, hb_W1⟩
  have b1 := below_step n_b hb_W1; clear n_b
  have z_W1 := b1.size
  clear hb_W1
  rw [q1.out]
  go_wp2_with fail
  refine calls_gen fun V2 hV_V2 => ?_
  have n_k0 := congrArg (fun v : World => v.heap[W1.heap.size]?) hV_V2
  simp (maxDischargeDepth := 9) only [blk_new, blk_old, blk_far, lt_succ_of, ne_of_lt1, ne_of_lt2, blk_set, blk_drew, blk_drewN, siz_alloc, siz_set, setAt_cells, Option.map_some, List.setIfInBounds_toArray, List.set_cons_zero, List.set_cons_succ, List.set_nil, ne_eq, not_false_eq_true, Nat.lt_add_one, Nat.add_right_cancel_iff, Nat.add_left_cancel_iff, lt_s2, ne_s2, ne_t2, lt_s3, ne_s3, ne_t3, lt_s4, ne_s4, ne_t4, lt_s5, ne_s5, ne_t5, lt_s6, ne_s6, ne_t6, lt_s7, ne_s7, ne_t7, lt_s8, ne_s8, ne_t8, Nat.succ_ne_self, Nat.lt_irrefl, reduceCtorEq] at n_k0
  have n_b : Below w.heap.size w V2 := by rw [hV_V2]; (repeat' first | assumption | exact Below.refl _ _ | refine Below.alloc ?_ (by first | exact Nat.le_refl _ | omega | (simp only [siz_alloc, siz_set]; omega)) _ | refine Below.setCell ?_ (by first | exact Nat.le_refl _ | omega | (simp only [siz_alloc, siz_set]; omega)) _ | refine below_drewN ?_ _ | refine Below.drew ?_)
  have k0 := n_k0; clear n_k0
  clear hV_V2
  refine (insert_at [true] [false, true] 0 false (by omega) (by simp) (by simp) _ _ q1.out.symm (by rfl) (by rfl) _).mono ?_
  rintro e_W2 W2 ⟨rfl, hb_W2⟩
  have b2 := below_step n_b hb_W2; clear n_b
  replace k0 := keep_blk hb_W2 k0
  have c_k0 := cells_of k0
  have f_k0 := free_of k0
  have l_k0_W2 := lt_of k0
  have z_W2 := b2.size
  clear hb_W2
  rw [q2.out]
  go_wp2_with fail
  refine calls_gen fun V3 hV_V3 => ?_
  have n_k0 := congrArg (fun v : World => v.heap[W1.heap.size]?) hV_V3
  have n_k1 := congrArg (fun v : World => v.heap[W2.heap.size]?) hV_V3
  simp (maxDischargeDepth := 9) only [blk_new, blk_old, blk_far, lt_succ_of, ne_of_lt1, ne_of_lt2, blk_set, blk_drew, blk_drewN, siz_alloc, siz_set, setAt_cells, Option.map_some, List.setIfInBounds_toArray, List.set_cons_zero, List.set_cons_succ, List.set_nil, ne_eq, not_false_eq_true, Nat.lt_add_one, Nat.add_right_cancel_iff, Nat.add_left_cancel_iff, lt_s2, ne_s2, ne_t2, lt_s3, ne_s3, ne_t3, lt_s4, ne_s4, ne_t4, lt_s5, ne_s5, ne_t5, lt_s6, ne_s6, ne_t6, lt_s7, ne_s7, ne_t7, lt_s8, ne_s8, ne_t8, Nat.succ_ne_self, Nat.lt_irrefl, reduceCtorEq, k0, l_k0_W2] at n_k0
  simp (maxDischargeDepth := 9) only [blk_new, blk_old, blk_far, lt_succ_of, ne_of_lt1, ne_of_lt2, blk_set, blk_drew, blk_drewN, siz_alloc, siz_set, setAt_cells, Option.map_some, List.setIfInBounds_toArray, List.set_cons_zero, List.set_cons_succ, List.set_nil, ne_eq, not_false_eq_true, Nat.lt_add_one, Nat.add_right_cancel_iff, Nat.add_left_cancel_iff, lt_s2, ne_s2, ne_t2, lt_s3, ne_s3, ne_t3, lt_s4, ne_s4, ne_t4, lt_s5, ne_s5, ne_t5, lt_s6, ne_s6, ne_t6, lt_s7, ne_s7, ne_t7, lt_s8, ne_s8, ne_t8, Nat.succ_ne_self, Nat.lt_irrefl, reduceCtorEq, k0, l_k0_W2] at n_k1
  have n_b : Below w.heap.size w V3 := by rw [hV_V3]; (repeat' first | assumption | exact Below.refl _ _ | refine Below.alloc ?_ (by first | exact Nat.le_refl _ | omega | (simp only [siz_alloc, siz_set]; omega)) _ | refine Below.setCell ?_ (by first | exact Nat.le_refl _ | omega | (simp only [siz_alloc, siz_set]; omega)) _ | refine below_drewN ?_ _ | refine Below.drew ?_)
  clear k0 c_k0 f_k0
  have k0 := n_k0; clear n_k0
  have k1 := n_k1; clear n_k1
  clear hV_V3
  refine (rank_at [false, true] (by simp) _ _ _ 1 q2.out.symm (by rfl) (by decide) _).mono ?_
  rintro e_W3 W3 ⟨rfl, hb_W3⟩
  have b3 := below_step n_b hb_W3; clear n_b
  replace k0 := keep_blk hb_W3 k0
  have c_k0 := cells_of k0
  have f_k0 := free_of k0
  have l_k0_W3 := lt_of k0
  replace k1 := keep_blk hb_W3 k1
  have c_k1 := cells_of k1
  have f_k1 := free_of k1
  have l_k1_W3 := lt_of k1
  have z_W3 := b3.size
  clear hb_W3
  go_wp2_with fail
  refine calls_gen fun V4 hV_V4 => ?_
  have n_k0 := congrArg (fun v : World => v.heap[W1.heap.size]?) hV_V4
  have n_k1 := congrArg (fun v : World => v.heap[W2.heap.size]?) hV_V4
  simp (maxDischargeDepth := 9) only [blk_new, blk_old, blk_far, lt_succ_of, ne_of_lt1, ne_of_lt2, blk_set, blk_drew, blk_drewN, siz_alloc, siz_set, setAt_cells, Option.map_some, List.setIfInBounds_toArray, List.set_cons_zero, List.set_cons_succ, List.set_nil, ne_eq, not_false_eq_true, Nat.lt_add_one, Nat.add_right_cancel_iff, Nat.add_left_cancel_iff, lt_s2, ne_s2, ne_t2, lt_s3, ne_s3, ne_t3, lt_s4, ne_s4, ne_t4, lt_s5, ne_s5, ne_t5, lt_s6, ne_s6, ne_t6, lt_s7, ne_s7, ne_t7, lt_s8, ne_s8, ne_t8, Nat.succ_ne_self, Nat.lt_irrefl, reduceCtorEq, k0, k1, l_k0_W2, l_k0_W3, l_k1_W3] at n_k0
  simp (maxDischargeDepth := 9) only [blk_new, blk_old, blk_far, lt_succ_of, ne_of_lt1, ne_of_lt2, blk_set, blk_drew, blk_drewN, siz_alloc, siz_set, setAt_cells, Option.map_some, List.setIfInBounds_toArray, List.set_cons_zero, List.set_cons_succ, List.set_nil, ne_eq, not_false_eq_true, Nat.lt_add_one, Nat.add_right_cancel_iff, Nat.add_left_cancel_iff, lt_s2, ne_s2, ne_t2, lt_s3, ne_s3, ne_t3, lt_s4, ne_s4, ne_t4, lt_s5, ne_s5, ne_t5, lt_s6, ne_s6, ne_t6, lt_s7, ne_s7, ne_t7, lt_s8, ne_s8, ne_t8, Nat.succ_ne_self, Nat.lt_irrefl, reduceCtorEq, k0, k1, l_k0_W2, l_k0_W3, l_k1_W3] at n_k1
  have n_b : Below w.heap.size w V4 := by rw [hV_V4]; (repeat' first | assumption | exact Below.refl _ _ | refine Below.alloc ?_ (by first | exact Nat.le_refl _ | omega | (simp only [siz_alloc, siz_set]; omega)) _ | refine Below.setCell ?_ (by first | exact Nat.le_refl _ | omega | (simp only [siz_alloc, siz_set]; omega)) _ | refine below_drewN ?_ _ | refine Below.drew ?_)
  clear k0 c_k0 f_k0
  clear k1 c_k1 f_k1
  have k0 := n_k0; clear n_k0
  have k1 := n_k1; clear n_k1
  clear hV_V4
  refine (select_at [false, true] (by simp) _ _ (by omega) _ _ 1 q2.out.symm (by rfl) (by decide) _).mono ?_
  rintro e_W4 W4 ⟨rfl, hb_W4⟩
  have b4 := below_step n_b hb_W4; clear n_b
  replace k0 := keep_blk hb_W4 k0
  have c_k0 := cells_of k0
  have f_k0 := free_of k0
  have l_k0_W4 := lt_of k0
  replace k1 := keep_blk hb_W4 k1
  have c_k1 := cells_of k1
  have f_k1 := free_of k1
  have l_k1_W4 := lt_of k1
  have z_W4 := b4.size
  clear hb_W4
  go_wp2_with fail
  refine calls_gen fun V5 hV_V5 => ?_
  have n_k0 := congrArg (fun v : World => v.heap[W1.heap.size]?) hV_V5
  have n_k1 := congrArg (fun v : World => v.heap[W2.heap.size]?) hV_V5
  simp (maxDischargeDepth := 9) only [blk_new, blk_old, blk_far, lt_succ_of, ne_of_lt1, ne_of_lt2, blk_set, blk_drew, blk_drewN, siz_alloc, siz_set, setAt_cells, Option.map_some, List.setIfInBounds_toArray, List.set_cons_zero, List.set_cons_succ, List.set_nil, ne_eq, not_false_eq_true, Nat.lt_add_one, Nat.add_right_cancel_iff, Nat.add_left_cancel_iff, lt_s2, ne_s2, ne_t2, lt_s3, ne_s3, ne_t3, lt_s4, ne_s4, ne_t4, lt_s5, ne_s5, ne_t5, lt_s6, ne_s6, ne_t6, lt_s7, ne_s7, ne_t7, lt_s8, ne_s8, ne_t8, Nat.succ_ne_self, Nat.lt_irrefl, reduceCtorEq, k0, k1, l_k0_W2, l_k0_W3, l_k1_W3, l_k0_W4, l_k1_W4] at n_k0
  simp (maxDischargeDepth := 9) only [blk_new, blk_old, blk_far, lt_succ_of, ne_of_lt1, ne_of_lt2, blk_set, blk_drew, blk_drewN, siz_alloc, siz_set, setAt_cells, Option.map_some, List.setIfInBounds_toArray, List.set_cons_zero, List.set_cons_succ, List.set_nil, ne_eq, not_false_eq_true, Nat.lt_add_one, Nat.add_right_cancel_iff, Nat.add_left_cancel_iff, lt_s2, ne_s2, ne_t2, lt_s3, ne_s3, ne_t3, lt_s4, ne_s4, ne_t4, lt_s5, ne_s5, ne_t5, lt_s6, ne_s6, ne_t6, lt_s7, ne_s7, ne_t7, lt_s8, ne_s8, ne_t8, Nat.succ_ne_self, Nat.lt_irrefl, reduceCtorEq, k0, k1, l_k0_W2, l_k0_W3, l_k1_W3, l_k0_W4, l_k1_W4] at n_k1
  have n_b : Below w.heap.size w V5 := by rw [hV_V5]; (repeat' first | assumption | exact Below.refl _ _ | refine Below.alloc ?_ (by first | exact Nat.le_refl _ | omega | (simp only [siz_alloc, siz_set]; omega)) _ | refine Below.setCell ?_ (by first | exact Nat.le_refl _ | omega | (simp only [siz_alloc, siz_set]; omega)) _ | refine below_drewN ?_ _ | refine Below.drew ?_)
  clear k0 c_k0 f_k0
  clear k1 c_k1 f_k1
  have k0 := n_k0; clear n_k0
  have k1 := n_k1; clear n_k1
  clear hV_V5
  refine (get_at [false, true] (by simp) _ _ _ true q2.out.symm (by rfl) (by decide) _).mono ?_
  rintro e_W5 W5 ⟨rfl, hb_W5⟩
  have b5 := below_step n_b hb_W5; clear n_b
  replace k0 := keep_blk hb_W5 k0
  have c_k0 := cells_of k0
  have f_k0 := free_of k0
  have l_k0_W5 := lt_of k0
  replace k1 := keep_blk hb_W5 k1
  have c_k1 := cells_of k1
  have f_k1 := free_of k1
  have l_k1_W5 := lt_of k1
  have z_W5 := b5.size
  clear hb_W5
  go_wp2
  go_ret
  exact ⟨rfl, b5⟩
theorem sel_in (one : Bool) : ∀ (l : List Bool) (k p : Nat), k < l.count one → ∃ i : Nat, selFrom one l k p = ((p + i : Nat) : Int) ∧ i < l.length ∧ l.getD i false = one ∧ (l.take i).count one = k
  | [], k, p, h => by simp at h
  | b :: l, k, p, h => by
    by_cases hb : b = one
    · subst hb
      by_cases hk : k = 0
      · subst hk; exact ⟨0, by simp [selFrom], by simp, by simp, by simp⟩
      · obtain ⟨i, h1, h2, h3, h4⟩ := sel_in b l (k - 1) (p + 1) (by simp at h; omega)
        refine ⟨i + 1, by rw [selFrom, if_pos rfl, if_neg hk, h1]; congr 1; omega, by simp; omega, by simpa using h3, by simp [h4]; omega⟩
    · obtain ⟨i, h1, h2, h3, h4⟩ := sel_in one l k (p + 1) (by rwa [List.count_cons_of_ne hb] at h)
      exact ⟨i + 1, by rw [selFrom, if_neg hb, h1]; congr 1; omega, by simp; omega, by simpa using h3, by rw [List.take_succ_cons, List.count_cons_of_ne hb, h4]⟩
theorem sel_out (one : Bool) : ∀ (l : List Bool) (k p : Nat), l.count one ≤ k → selFrom one l k p = -1
  | [], k, p, h => rfl
  | b :: l, k, p, h => by
    by_cases hb : b = one
    · subst hb
      simp at h
      rw [selFrom, if_pos rfl, if_neg (by omega), sel_out b l (k - 1) (p + 1) (by omega)]
    · rw [List.count_cons_of_ne hb] at h
      rw [selFrom, if_neg hb, sel_out one l k (p + 1) h]
theorem count_both (l : List Bool) : l.count true + l.count false = l.length := by
  induction l with
  | nil => rfl
  | cons b l ih => cases b <;> simp <;> omega
theorem mask_value (b n : Nat) (hb : b < 2 ^ 64) (hn : n < 64) : Go.bits .and .u64 (b : Int) (IntKind.u64.wrap (IntKind.u64.wrap (2 ^ n) - 1)) = (pack (unpack (b % 2 ^ n) n) : Int) := by
  rw [wrap_first n hn, and_first b n hb (by omega), pack_unpack _ _ (Nat.mod_lt _ (Nat.two_pow_pos n))]
set_option maxHeartbeats 1000000 in
theorem ranks_00 (b m : Nat) (x : List Bool) (ones : Nat) (k : Int) (hk : k ≤ 9223372036854775807) (hk0 : 0 ≤ k) (hm : m ≤ 64) (hm6 : m < 64) (hx : x.length ≤ 64) (hxn : Hid ((x.length : Int) = (m : Int))) (HA : Hid ((Go.bits .and .u64 (b : Int) (IntKind.u64.wrap (IntKind.u64.wrap (2 ^ m) - 1))) = (pack x : Int)))
    (HO : Hid ((ones : Int) = ((x.take ((m : Int).toNat)).count true : Int))) (ho : ones ≤ m) (H1 : Hid (-1 = selL x true k)) (t1 : decide (k < (ones : Int)) = false) (H0 : Hid (-1 = selL x false k)) (t0 : decide (k < (m : Int) - (ones : Int)) = false) (w : World) :
    Calls Try.prog 3 #[.int .u64 (b : Int), .int .i64 (m : Int), .int .i64 k] w fun e w' => e = .returned (.bool true) ∧ Below w.heap.size w w' := by
    have d1 : decide ((m : Int) < 0) = false := by simp
    have d2 : decide ((64 : Int) < (m : Int)) = false := by simp; omega
    have d3 : decide ((m : Int) < (64 : Int)) = true := by simp; omega
    have d4 : decide ((0 : Int) ≤ k) = true := by simpa using hk0
    go_enter Try.func3, Try.ntmps3
    go_wp2_with fail
    refine calls_gen fun V1 hV_V1 => ?_
    have n_b : Below w.heap.size w V1 := by rw [hV_V1]; (repeat' first | assumption | exact Below.refl _ _ | refine Below.alloc ?_ (by first | exact Nat.le_refl _ | omega | (simp only [siz_alloc, siz_set]; omega)) _ | refine Below.setCell ?_ (by first | exact Nat.le_refl _ | omega | (simp only [siz_alloc, siz_set]; omega)) _ | refine below_drewN ?_ _ | refine Below.drew ?_)
    clear hV_V1
    refine (alive_true _).mono ?_
    rintro e_W1 W1 ⟨rfl, hb_W1⟩
    have b1 := below_step n_b hb_W1; clear n_b
    have z_W1 := b1.size
    clear hb_W1
    go_wp2_with fail
    refine calls_gen fun V2 hV_V2 => ?_
    have n_k0 := congrArg (fun v : World => v.heap[W1.heap.size]?) hV_V2
    simp (maxDischargeDepth := 9) only [blk_new, blk_old, blk_far, lt_succ_of, ne_of_lt1, ne_of_lt2, blk_set, blk_drew, blk_drewN, siz_alloc, siz_set, setAt_cells, Option.map_some, List.setIfInBounds_toArray, List.set_cons_zero, List.set_cons_succ, List.set_nil, ne_eq, not_false_eq_true, Nat.lt_add_one, Nat.add_right_cancel_iff, Nat.add_left_cancel_iff, lt_s2, ne_s2, ne_t2, lt_s3, ne_s3, ne_t3, lt_s4, ne_s4, ne_t4, lt_s5, ne_s5, ne_t5, lt_s6, ne_s6, ne_t6, lt_s7, ne_s7, ne_t7, lt_s8, ne_s8, ne_t8, Nat.succ_ne_self, Nat.lt_irrefl, reduceCtorEq] at n_k0
    have n_b : Below w.heap.size w V2 := by rw [hV_V2]; (repeat' first | assumption | exact Below.refl _ _ | refine Below.alloc ?_ (by first | exact Nat.le_refl _ | omega | (simp only [siz_alloc, siz_set]; omega)) _ | refine Below.setCell ?_ (by first | exact Nat.le_refl _ | omega | (simp only [siz_alloc, siz_set]; omega)) _ | refine below_drewN ?_ _ | refine Below.drew ?_)
    have k0 := n_k0; clear n_k0
    clear hV_V2
    refine (rank_at x hx _ _ _ (ones : Int) HA.out hxn.out.symm HO.out _).mono ?_
    rintro e_W2 W2 ⟨rfl, hb_W2⟩
    have b2 := below_step n_b hb_W2; clear n_b
    replace k0 := keep_blk hb_W2 k0
    have c_k0 := cells_of k0
    have f_k0 := free_of k0
    have l_k0_W2 := lt_of k0
    have z_W2 := b2.size
    clear hb_W2
    go_wp2_with fail
    refine wp_gen fun V3 hV_V3 => ?_
    have n_k0 := congrArg (fun v : World => v.heap[W1.heap.size]?) hV_V3
    simp (maxDischargeDepth := 9) only [blk_new, blk_old, blk_far, lt_succ_of, ne_of_lt1, ne_of_lt2, blk_set, blk_drew, blk_drewN, siz_alloc, siz_set, setAt_cells, Option.map_some, List.setIfInBounds_toArray, List.set_cons_zero, List.set_cons_succ, List.set_nil, ne_eq, not_false_eq_true, Nat.lt_add_one, Nat.add_right_cancel_iff, Nat.add_left_cancel_iff, lt_s2, ne_s2, ne_t2, lt_s3, ne_s3, ne_t3, lt_s4, ne_s4, ne_t4, lt_s5, ne_s5, ne_t5, lt_s6, ne_s6, ne_t6, lt_s7, ne_s7, ne_t7, lt_s8, ne_s8, ne_t8, Nat.succ_ne_self, Nat.lt_irrefl, reduceCtorEq, k0, l_k0_W2] at n_k0
    have n_b : Below w.heap.size w V3 := by rw [hV_V3]; (repeat' first | assumption | exact Below.refl _ _ | refine Below.alloc ?_ (by first | exact Nat.le_refl _ | omega | (simp only [siz_alloc, siz_set]; omega)) _ | refine Below.setCell ?_ (by first | exact Nat.le_refl _ | omega | (simp only [siz_alloc, siz_set]; omega)) _ | refine below_drewN ?_ _ | refine Below.drew ?_)
    clear k0 c_k0 f_k0
    have k0 := n_k0; clear n_k0
    clear hV_V3
    have g_k0 := grown_cells k0
    refine wp_region_quiet_below (by kernel_rfl) (by kernel_rfl) ?_
    repeat (go_big_quiet_step ((first | (go_at_call 12; with_reducible exact Calls.regrown_of (select_at x hx true k hk _ _ (-1) HA.out hxn.out.symm H1.out _)) | (go_at_call 12; with_reducible exact Calls.regrown_of (select_at x hx false k hk _ _ (-1) HA.out hxn.out.symm H0.out _)))))
    refine wpQuiet_nil ?_
    intro W3 hW_W3
    have hb_W3 := below_of_regrown hW_W3
    have b3 := below_step n_b hb_W3; clear n_b hW_W3
    clear g_k0
    replace k0 := keep_blk hb_W3 k0
    have c_k0 := cells_of k0
    have f_k0 := free_of k0
    have l_k0_W3 := lt_of k0
    have z_W3 := b3.size
    clear hb_W3
    go_wp2_with fail
    go_wp2
    go_ret
    exact ⟨ret_bool (by first | rfl | (simp; done) | (simp; omega)), by (repeat' first | assumption)⟩
set_option maxHeartbeats 1000000 in
theorem ranks_00b (b : Nat) (x : List Bool) (ones : Nat) (k : Int) (hk : k ≤ 9223372036854775807) (hk0 : 0 ≤ k) (hx : x.length ≤ 64) (hxn : Hid ((x.length : Int) = (64 : Int))) (HA : Hid ((b : Int) = (pack x : Int)))
    (HO : Hid ((ones : Int) = ((x.take ((64 : Int).toNat)).count true : Int))) (ho : ones ≤ 64) (H1 : Hid (-1 = selL x true k)) (t1 : decide (k < (ones : Int)) = false) (H0 : Hid (-1 = selL x false k)) (t0 : decide (k < (64 : Int) - (ones : Int)) = false) (w : World) :
    Calls Try.prog 3 #[.int .u64 (b : Int), .int .i64 (64 : Int), .int .i64 k] w fun e w' => e = .returned (.bool true) ∧ Below w.heap.size w w' := by
    have d4 : decide ((0 : Int) ≤ k) = true := by simpa using hk0
    go_enter Try.func3, Try.ntmps3
    go_wp2_with fail
    refine calls_gen fun V1 hV_V1 => ?_
    have n_b : Below w.heap.size w V1 := by rw [hV_V1]; (repeat' first | assumption | exact Below.refl _ _ | refine Below.alloc ?_ (by first | exact Nat.le_refl _ | omega | (simp only [siz_alloc, siz_set]; omega)) _ | refine Below.setCell ?_ (by first | exact Nat.le_refl _ | omega | (simp only [siz_alloc, siz_set]; omega)) _ | refine below_drewN ?_ _ | refine Below.drew ?_)
    clear hV_V1
    refine (alive_true _).mono ?_
    rintro e_W1 W1 ⟨rfl, hb_W1⟩
    have b1 := below_step n_b hb_W1; clear n_b
    have z_W1 := b1.size
    clear hb_W1
    go_wp2_with fail
    refine calls_gen fun V2 hV_V2 => ?_
    have n_k0 := congrArg (fun v : World => v.heap[W1.heap.size]?) hV_V2
    simp (maxDischargeDepth := 9) only [blk_new, blk_old, blk_far, lt_succ_of, ne_of_lt1, ne_of_lt2, blk_set, blk_drew, blk_drewN, siz_alloc, siz_set, setAt_cells, Option.map_some, List.setIfInBounds_toArray, List.set_cons_zero, List.set_cons_succ, List.set_nil, ne_eq, not_false_eq_true, Nat.lt_add_one, Nat.add_right_cancel_iff, Nat.add_left_cancel_iff, lt_s2, ne_s2, ne_t2, lt_s3, ne_s3, ne_t3, lt_s4, ne_s4, ne_t4, lt_s5, ne_s5, ne_t5, lt_s6, ne_s6, ne_t6, lt_s7, ne_s7, ne_t7, lt_s8, ne_s8, ne_t8, Nat.succ_ne_self, Nat.lt_irrefl, reduceCtorEq] at n_k0
    have n_b : Below w.heap.size w V2 := by rw [hV_V2]; (repeat' first | assumption | exact Below.refl _ _ | refine Below.alloc ?_ (by first | exact Nat.le_refl _ | omega | (simp only [siz_alloc, siz_set]; omega)) _ | refine Below.setCell ?_ (by first | exact Nat.le_refl _ | omega | (simp only [siz_alloc, siz_set]; omega)) _ | refine below_drewN ?_ _ | refine Below.drew ?_)
    have k0 := n_k0; clear n_k0
    clear hV_V2
    refine (rank_at x hx _ _ _ (ones : Int) HA.out hxn.out.symm HO.out _).mono ?_
    rintro e_W2 W2 ⟨rfl, hb_W2⟩
    have b2 := below_step n_b hb_W2; clear n_b
    replace k0 := keep_blk hb_W2 k0
    have c_k0 := cells_of k0
    have f_k0 := free_of k0
    have l_k0_W2 := lt_of k0
    have z_W2 := b2.size
    clear hb_W2
    go_wp2_with fail
    refine wp_gen fun V3 hV_V3 => ?_
    have n_k0 := congrArg (fun v : World => v.heap[W1.heap.size]?) hV_V3
    simp (maxDischargeDepth := 9) only [blk_new, blk_old, blk_far, lt_succ_of, ne_of_lt1, ne_of_lt2, blk_set, blk_drew, blk_drewN, siz_alloc, siz_set, setAt_cells, Option.map_some, List.setIfInBounds_toArray, List.set_cons_zero, List.set_cons_succ, List.set_nil, ne_eq, not_false_eq_true, Nat.lt_add_one, Nat.add_right_cancel_iff, Nat.add_left_cancel_iff, lt_s2, ne_s2, ne_t2, lt_s3, ne_s3, ne_t3, lt_s4, ne_s4, ne_t4, lt_s5, ne_s5, ne_t5, lt_s6, ne_s6, ne_t6, lt_s7, ne_s7, ne_t7, lt_s8, ne_s8, ne_t8, Nat.succ_ne_self, Nat.lt_irrefl, reduceCtorEq, k0, l_k0_W2] at n_k0
    have n_b : Below w.heap.size w V3 := by rw [hV_V3]; (repeat' first | assumption | exact Below.refl _ _ | refine Below.alloc ?_ (by first | exact Nat.le_refl _ | omega | (simp only [siz_alloc, siz_set]; omega)) _ | refine Below.setCell ?_ (by first | exact Nat.le_refl _ | omega | (simp only [siz_alloc, siz_set]; omega)) _ | refine below_drewN ?_ _ | refine Below.drew ?_)
    clear k0 c_k0 f_k0
    have k0 := n_k0; clear n_k0
    clear hV_V3
    have g_k0 := grown_cells k0
    refine wp_region_quiet_below (by kernel_rfl) (by kernel_rfl) ?_
    repeat (go_big_quiet_step ((first | (go_at_call 12; with_reducible exact Calls.regrown_of (select_at x hx true k hk _ _ (-1) HA.out hxn.out.symm H1.out _)) | (go_at_call 12; with_reducible exact Calls.regrown_of (select_at x hx false k hk _ _ (-1) HA.out hxn.out.symm H0.out _)))))
    refine wpQuiet_nil ?_
    intro W3 hW_W3
    have hb_W3 := below_of_regrown hW_W3
    have b3 := below_step n_b hb_W3; clear n_b hW_W3
    clear g_k0
    replace k0 := keep_blk hb_W3 k0
    have c_k0 := cells_of k0
    have f_k0 := free_of k0
    have l_k0_W3 := lt_of k0
    have z_W3 := b3.size
    clear hb_W3
    go_wp2_with fail
    go_wp2
    go_ret
    exact ⟨ret_bool (by first | rfl | (simp; done) | (simp; omega)), by (repeat' first | assumption)⟩
set_option maxHeartbeats 1000000 in
theorem ranks_01 (b m : Nat) (x : List Bool) (ones : Nat) (k : Int) (j : Nat) (hk : k ≤ 9223372036854775807) (hk0 : 0 ≤ k) (hm : m ≤ 64) (hm6 : m < 64) (hx : x.length ≤ 64) (hxn : Hid ((x.length : Int) = (m : Int))) (HA : Hid ((Go.bits .and .u64 (b : Int) (IntKind.u64.wrap (IntKind.u64.wrap (2 ^ m) - 1))) = (pack x : Int)))
    (HO : Hid ((ones : Int) = ((x.take ((m : Int).toNat)).count true : Int))) (ho : ones ≤ m) (H1 : Hid (-1 = selL x true k)) (t1 : decide (k < (ones : Int)) = false) (GJ : Hid (false = getL x (j : Int))) (RJ : Hid ((j : Int) - k = ((x.take ((j : Int).toNat)).count true : Int))) (H0 : Hid ((j : Int) = selL x false k)) (t0 : decide (k < (m : Int) - (ones : Int)) = true) (hj : j < 64) (hjk : k ≤ j) (w : World) :
    Calls Try.prog 3 #[.int .u64 (b : Int), .int .i64 (m : Int), .int .i64 k] w fun e w' => e = .returned (.bool true) ∧ Below w.heap.size w w' := by
    have d1 : decide ((m : Int) < 0) = false := by simp
    have d2 : decide ((64 : Int) < (m : Int)) = false := by simp; omega
    have d3 : decide ((m : Int) < (64 : Int)) = true := by simp; omega
    have d4 : decide ((0 : Int) ≤ k) = true := by simpa using hk0
    go_enter Try.func3, Try.ntmps3
    go_wp2_with fail
    refine calls_gen fun V1 hV_V1 => ?_
    have n_b : Below w.heap.size w V1 := by rw [hV_V1]; (repeat' first | assumption | exact Below.refl _ _ | refine Below.alloc ?_ (by first | exact Nat.le_refl _ | omega | (simp only [siz_alloc, siz_set]; omega)) _ | refine Below.setCell ?_ (by first | exact Nat.le_refl _ | omega | (simp only [siz_alloc, siz_set]; omega)) _ | refine below_drewN ?_ _ | refine Below.drew ?_)
    clear hV_V1
    refine (alive_true _).mono ?_
    rintro e_W1 W1 ⟨rfl, hb_W1⟩
    have b1 := below_step n_b hb_W1; clear n_b
    have z_W1 := b1.size
    clear hb_W1
    go_wp2_with fail
    refine calls_gen fun V2 hV_V2 => ?_
    have n_k0 := congrArg (fun v : World => v.heap[W1.heap.size]?) hV_V2
    simp (maxDischargeDepth := 9) only [blk_new, blk_old, blk_far, lt_succ_of, ne_of_lt1, ne_of_lt2, blk_set, blk_drew, blk_drewN, siz_alloc, siz_set, setAt_cells, Option.map_some, List.setIfInBounds_toArray, List.set_cons_zero, List.set_cons_succ, List.set_nil, ne_eq, not_false_eq_true, Nat.lt_add_one, Nat.add_right_cancel_iff, Nat.add_left_cancel_iff, lt_s2, ne_s2, ne_t2, lt_s3, ne_s3, ne_t3, lt_s4, ne_s4, ne_t4, lt_s5, ne_s5, ne_t5, lt_s6, ne_s6, ne_t6, lt_s7, ne_s7, ne_t7, lt_s8, ne_s8, ne_t8, Nat.succ_ne_self, Nat.lt_irrefl, reduceCtorEq] at n_k0
    have n_b : Below w.heap.size w V2 := by rw [hV_V2]; (repeat' first | assumption | exact Below.refl _ _ | refine Below.alloc ?_ (by first | exact Nat.le_refl _ | omega | (simp only [siz_alloc, siz_set]; omega)) _ | refine Below.setCell ?_ (by first | exact Nat.le_refl _ | omega | (simp only [siz_alloc, siz_set]; omega)) _ | refine below_drewN ?_ _ | refine Below.drew ?_)
    have k0 := n_k0; clear n_k0
    clear hV_V2
    refine (rank_at x hx _ _ _ (ones : Int) HA.out hxn.out.symm HO.out _).mono ?_
    rintro e_W2 W2 ⟨rfl, hb_W2⟩
    have b2 := below_step n_b hb_W2; clear n_b
    replace k0 := keep_blk hb_W2 k0
    have c_k0 := cells_of k0
    have f_k0 := free_of k0
    have l_k0_W2 := lt_of k0
    have z_W2 := b2.size
    clear hb_W2
    go_wp2_with fail
    refine wp_gen fun V3 hV_V3 => ?_
    have n_k0 := congrArg (fun v : World => v.heap[W1.heap.size]?) hV_V3
    simp (maxDischargeDepth := 9) only [blk_new, blk_old, blk_far, lt_succ_of, ne_of_lt1, ne_of_lt2, blk_set, blk_drew, blk_drewN, siz_alloc, siz_set, setAt_cells, Option.map_some, List.setIfInBounds_toArray, List.set_cons_zero, List.set_cons_succ, List.set_nil, ne_eq, not_false_eq_true, Nat.lt_add_one, Nat.add_right_cancel_iff, Nat.add_left_cancel_iff, lt_s2, ne_s2, ne_t2, lt_s3, ne_s3, ne_t3, lt_s4, ne_s4, ne_t4, lt_s5, ne_s5, ne_t5, lt_s6, ne_s6, ne_t6, lt_s7, ne_s7, ne_t7, lt_s8, ne_s8, ne_t8, Nat.succ_ne_self, Nat.lt_irrefl, reduceCtorEq, k0, l_k0_W2] at n_k0
    have n_b : Below w.heap.size w V3 := by rw [hV_V3]; (repeat' first | assumption | exact Below.refl _ _ | refine Below.alloc ?_ (by first | exact Nat.le_refl _ | omega | (simp only [siz_alloc, siz_set]; omega)) _ | refine Below.setCell ?_ (by first | exact Nat.le_refl _ | omega | (simp only [siz_alloc, siz_set]; omega)) _ | refine below_drewN ?_ _ | refine Below.drew ?_)
    clear k0 c_k0 f_k0
    have k0 := n_k0; clear n_k0
    clear hV_V3
    have g_k0 := grown_cells k0
    refine wp_region_quiet_below (by kernel_rfl) (by kernel_rfl) ?_
    repeat (go_big_quiet_step ((first | (go_at_call 12; with_reducible exact Calls.regrown_of (select_at x hx true k hk _ _ (-1) HA.out hxn.out.symm H1.out _)) | (go_at_call 12; with_reducible exact Calls.regrown_of (select_at x hx false k hk _ _ (j : Int) HA.out hxn.out.symm H0.out _)))))
    refine wpQuiet_nil ?_
    intro W3 hW_W3
    have hb_W3 := below_of_regrown hW_W3
    have b3 := below_step n_b hb_W3; clear n_b hW_W3
    clear g_k0
    replace k0 := keep_blk hb_W3 k0
    have c_k0 := cells_of k0
    have f_k0 := free_of k0
    have l_k0_W3 := lt_of k0
    have z_W3 := b3.size
    clear hb_W3
    go_wp2_with fail
    go_wp2_with fail
    refine calls_gen fun V8 hV_V8 => ?_
    have n_k0 := congrArg (fun v : World => v.heap[W1.heap.size]?) hV_V8
    simp (maxDischargeDepth := 9) only [blk_new, blk_old, blk_far, lt_succ_of, ne_of_lt1, ne_of_lt2, blk_set, blk_drew, blk_drewN, siz_alloc, siz_set, setAt_cells, Option.map_some, List.setIfInBounds_toArray, List.set_cons_zero, List.set_cons_succ, List.set_nil, ne_eq, not_false_eq_true, Nat.lt_add_one, Nat.add_right_cancel_iff, Nat.add_left_cancel_iff, lt_s2, ne_s2, ne_t2, lt_s3, ne_s3, ne_t3, lt_s4, ne_s4, ne_t4, lt_s5, ne_s5, ne_t5, lt_s6, ne_s6, ne_t6, lt_s7, ne_s7, ne_t7, lt_s8, ne_s8, ne_t8, Nat.succ_ne_self, Nat.lt_irrefl, reduceCtorEq, k0, l_k0_W2, l_k0_W3] at n_k0
    have n_b : Below w.heap.size w V8 := by rw [hV_V8]; (repeat' first | assumption | exact Below.refl _ _ | refine Below.alloc ?_ (by first | exact Nat.le_refl _ | omega | (simp only [siz_alloc, siz_set]; omega)) _ | refine Below.setCell ?_ (by first | exact Nat.le_refl _ | omega | (simp only [siz_alloc, siz_set]; omega)) _ | refine below_drewN ?_ _ | refine Below.drew ?_)
    clear k0 c_k0 f_k0
    have k0 := n_k0; clear n_k0
    clear hV_V8
    refine (get_at x hx _ _ _ false HA.out hxn.out.symm GJ.out _).mono ?_
    rintro e_W8 W8 ⟨rfl, hb_W8⟩
    have b8 := below_step n_b hb_W8; clear n_b
    replace k0 := keep_blk hb_W8 k0
    have c_k0 := cells_of k0
    have f_k0 := free_of k0
    have l_k0_W8 := lt_of k0
    have z_W8 := b8.size
    clear hb_W8
    go_wp2_with fail
    refine calls_gen fun V9 hV_V9 => ?_
    have n_k0 := congrArg (fun v : World => v.heap[W1.heap.size]?) hV_V9
    simp (maxDischargeDepth := 9) only [blk_new, blk_old, blk_far, lt_succ_of, ne_of_lt1, ne_of_lt2, blk_set, blk_drew, blk_drewN, siz_alloc, siz_set, setAt_cells, Option.map_some, List.setIfInBounds_toArray, List.set_cons_zero, List.set_cons_succ, List.set_nil, ne_eq, not_false_eq_true, Nat.lt_add_one, Nat.add_right_cancel_iff, Nat.add_left_cancel_iff, lt_s2, ne_s2, ne_t2, lt_s3, ne_s3, ne_t3, lt_s4, ne_s4, ne_t4, lt_s5, ne_s5, ne_t5, lt_s6, ne_s6, ne_t6, lt_s7, ne_s7, ne_t7, lt_s8, ne_s8, ne_t8, Nat.succ_ne_self, Nat.lt_irrefl, reduceCtorEq, k0, l_k0_W2, l_k0_W3, l_k0_W8] at n_k0
    have n_b : Below w.heap.size w V9 := by rw [hV_V9]; (repeat' first | assumption | exact Below.refl _ _ | refine Below.alloc ?_ (by first | exact Nat.le_refl _ | omega | (simp only [siz_alloc, siz_set]; omega)) _ | refine Below.setCell ?_ (by first | exact Nat.le_refl _ | omega | (simp only [siz_alloc, siz_set]; omega)) _ | refine below_drewN ?_ _ | refine Below.drew ?_)
    clear k0 c_k0 f_k0
    have k0 := n_k0; clear n_k0
    clear hV_V9
    refine (rank_at x hx _ _ _ ((j : Int) - k) HA.out hxn.out.symm RJ.out _).mono ?_
    rintro e_W9 W9 ⟨rfl, hb_W9⟩
    have b9 := below_step n_b hb_W9; clear n_b
    replace k0 := keep_blk hb_W9 k0
    have c_k0 := cells_of k0
    have f_k0 := free_of k0
    have l_k0_W9 := lt_of k0
    have z_W9 := b9.size
    clear hb_W9
    go_wp2
    go_ret
    exact ⟨ret_bool (by first | rfl | (simp; done) | (simp; omega)), by (repeat' first | assumption)⟩
set_option maxHeartbeats 1000000 in
theorem ranks_01b (b : Nat) (x : List Bool) (ones : Nat) (k : Int) (j : Nat) (hk : k ≤ 9223372036854775807) (hk0 : 0 ≤ k) (hx : x.length ≤ 64) (hxn : Hid ((x.length : Int) = (64 : Int))) (HA : Hid ((b : Int) = (pack x : Int)))
    (HO : Hid ((ones : Int) = ((x.take ((64 : Int).toNat)).count true : Int))) (ho : ones ≤ 64) (H1 : Hid (-1 = selL x true k)) (t1 : decide (k < (ones : Int)) = false) (GJ : Hid (false = getL x (j : Int))) (RJ : Hid ((j : Int) - k = ((x.take ((j : Int).toNat)).count true : Int))) (H0 : Hid ((j : Int) = selL x false k)) (t0 : decide (k < (64 : Int) - (ones : Int)) = true) (hj : j < 64) (hjk : k ≤ j) (w : World) :
    Calls Try.prog 3 #[.int .u64 (b : Int), .int .i64 (64 : Int), .int .i64 k] w fun e w' => e = .returned (.bool true) ∧ Below w.heap.size w w' := by
    have d4 : decide ((0 : Int) ≤ k) = true := by simpa using hk0
    go_enter Try.func3, Try.ntmps3
    go_wp2_with fail
    refine calls_gen fun V1 hV_V1 => ?_
    have n_b : Below w.heap.size w V1 := by rw [hV_V1]; (repeat' first | assumption | exact Below.refl _ _ | refine Below.alloc ?_ (by first | exact Nat.le_refl _ | omega | (simp only [siz_alloc, siz_set]; omega)) _ | refine Below.setCell ?_ (by first | exact Nat.le_refl _ | omega | (simp only [siz_alloc, siz_set]; omega)) _ | refine below_drewN ?_ _ | refine Below.drew ?_)
    clear hV_V1
    refine (alive_true _).mono ?_
    rintro e_W1 W1 ⟨rfl, hb_W1⟩
    have b1 := below_step n_b hb_W1; clear n_b
    have z_W1 := b1.size
    clear hb_W1
    go_wp2_with fail
    refine calls_gen fun V2 hV_V2 => ?_
    have n_k0 := congrArg (fun v : World => v.heap[W1.heap.size]?) hV_V2
    simp (maxDischargeDepth := 9) only [blk_new, blk_old, blk_far, lt_succ_of, ne_of_lt1, ne_of_lt2, blk_set, blk_drew, blk_drewN, siz_alloc, siz_set, setAt_cells, Option.map_some, List.setIfInBounds_toArray, List.set_cons_zero, List.set_cons_succ, List.set_nil, ne_eq, not_false_eq_true, Nat.lt_add_one, Nat.add_right_cancel_iff, Nat.add_left_cancel_iff, lt_s2, ne_s2, ne_t2, lt_s3, ne_s3, ne_t3, lt_s4, ne_s4, ne_t4, lt_s5, ne_s5, ne_t5, lt_s6, ne_s6, ne_t6, lt_s7, ne_s7, ne_t7, lt_s8, ne_s8, ne_t8, Nat.succ_ne_self, Nat.lt_irrefl, reduceCtorEq] at n_k0
    have n_b : Below w.heap.size w V2 := by rw [hV_V2]; (repeat' first | assumption | exact Below.refl _ _ | refine Below.alloc ?_ (by first | exact Nat.le_refl _ | omega | (simp only [siz_alloc, siz_set]; omega)) _ | refine Below.setCell ?_ (by first | exact Nat.le_refl _ | omega | (simp only [siz_alloc, siz_set]; omega)) _ | refine below_drewN ?_ _ | refine Below.drew ?_)
    have k0 := n_k0; clear n_k0
    clear hV_V2
    refine (rank_at x hx _ _ _ (ones : Int) HA.out hxn.out.symm HO.out _).mono ?_
    rintro e_W2 W2 ⟨rfl, hb_W2⟩
    have b2 := below_step n_b hb_W2; clear n_b
    replace k0 := keep_blk hb_W2 k0
    have c_k0 := cells_of k0
    have f_k0 := free_of k0
    have l_k0_W2 := lt_of k0
    have z_W2 := b2.size
    clear hb_W2
    go_wp2_with fail
    refine wp_gen fun V3 hV_V3 => ?_
    have n_k0 := congrArg (fun v : World => v.heap[W1.heap.size]?) hV_V3
    simp (maxDischargeDepth := 9) only [blk_new, blk_old, blk_far, lt_succ_of, ne_of_lt1, ne_of_lt2, blk_set, blk_drew, blk_drewN, siz_alloc, siz_set, setAt_cells, Option.map_some, List.setIfInBounds_toArray, List.set_cons_zero, List.set_cons_succ, List.set_nil, ne_eq, not_false_eq_true, Nat.lt_add_one, Nat.add_right_cancel_iff, Nat.add_left_cancel_iff, lt_s2, ne_s2, ne_t2, lt_s3, ne_s3, ne_t3, lt_s4, ne_s4, ne_t4, lt_s5, ne_s5, ne_t5, lt_s6, ne_s6, ne_t6, lt_s7, ne_s7, ne_t7, lt_s8, ne_s8, ne_t8, Nat.succ_ne_self, Nat.lt_irrefl, reduceCtorEq, k0, l_k0_W2] at n_k0
    have n_b : Below w.heap.size w V3 := by rw [hV_V3]; (repeat' first | assumption | exact Below.refl _ _ | refine Below.alloc ?_ (by first | exact Nat.le_refl _ | omega | (simp only [siz_alloc, siz_set]; omega)) _ | refine Below.setCell ?_ (by first | exact Nat.le_refl _ | omega | (simp only [siz_alloc, siz_set]; omega)) _ | refine below_drewN ?_ _ | refine Below.drew ?_)
    clear k0 c_k0 f_k0
    have k0 := n_k0; clear n_k0
    clear hV_V3
    have g_k0 := grown_cells k0
    refine wp_region_quiet_below (by kernel_rfl) (by kernel_rfl) ?_
    repeat (go_big_quiet_step ((first | (go_at_call 12; with_reducible exact Calls.regrown_of (select_at x hx true k hk _ _ (-1) HA.out hxn.out.symm H1.out _)) | (go_at_call 12; with_reducible exact Calls.regrown_of (select_at x hx false k hk _ _ (j : Int) HA.out hxn.out.symm H0.out _)))))
    refine wpQuiet_nil ?_
    intro W3 hW_W3
    have hb_W3 := below_of_regrown hW_W3
    have b3 := below_step n_b hb_W3; clear n_b hW_W3
    clear g_k0
    replace k0 := keep_blk hb_W3 k0
    have c_k0 := cells_of k0
    have f_k0 := free_of k0
    have l_k0_W3 := lt_of k0
    have z_W3 := b3.size
    clear hb_W3
    go_wp2_with fail
    go_wp2_with fail
    refine calls_gen fun V8 hV_V8 => ?_
    have n_k0 := congrArg (fun v : World => v.heap[W1.heap.size]?) hV_V8
    simp (maxDischargeDepth := 9) only [blk_new, blk_old, blk_far, lt_succ_of, ne_of_lt1, ne_of_lt2, blk_set, blk_drew, blk_drewN, siz_alloc, siz_set, setAt_cells, Option.map_some, List.setIfInBounds_toArray, List.set_cons_zero, List.set_cons_succ, List.set_nil, ne_eq, not_false_eq_true, Nat.lt_add_one, Nat.add_right_cancel_iff, Nat.add_left_cancel_iff, lt_s2, ne_s2, ne_t2, lt_s3, ne_s3, ne_t3, lt_s4, ne_s4, ne_t4, lt_s5, ne_s5, ne_t5, lt_s6, ne_s6, ne_t6, lt_s7, ne_s7, ne_t7, lt_s8, ne_s8, ne_t8, Nat.succ_ne_self, Nat.lt_irrefl, reduceCtorEq, k0, l_k0_W2, l_k0_W3] at n_k0
    have n_b : Below w.heap.size w V8 := by rw [hV_V8]; (repeat' first | assumption | exact Below.refl _ _ | refine Below.alloc ?_ (by first | exact Nat.le_refl _ | omega | (simp only [siz_alloc, siz_set]; omega)) _ | refine Below.setCell ?_ (by first | exact Nat.le_refl _ | omega | (simp only [siz_alloc, siz_set]; omega)) _ | refine below_drewN ?_ _ | refine Below.drew ?_)
    clear k0 c_k0 f_k0
    have k0 := n_k0; clear n_k0
    clear hV_V8
    refine (get_at x hx _ _ _ false HA.out hxn.out.symm GJ.out _).mono ?_
    rintro e_W8 W8 ⟨rfl, hb_W8⟩
    have b8 := below_step n_b hb_W8; clear n_b
    replace k0 := keep_blk hb_W8 k0
    have c_k0 := cells_of k0
    have f_k0 := free_of k0
    have l_k0_W8 := lt_of k0
    have z_W8 := b8.size
    clear hb_W8
    go_wp2_with fail
    refine calls_gen fun V9 hV_V9 => ?_
    have n_k0 := congrArg (fun v : World => v.heap[W1.heap.size]?) hV_V9
    simp (maxDischargeDepth := 9) only [blk_new, blk_old, blk_far, lt_succ_of, ne_of_lt1, ne_of_lt2, blk_set, blk_drew, blk_drewN, siz_alloc, siz_set, setAt_cells, Option.map_some, List.setIfInBounds_toArray, List.set_cons_zero, List.set_cons_succ, List.set_nil, ne_eq, not_false_eq_true, Nat.lt_add_one, Nat.add_right_cancel_iff, Nat.add_left_cancel_iff, lt_s2, ne_s2, ne_t2, lt_s3, ne_s3, ne_t3, lt_s4, ne_s4, ne_t4, lt_s5, ne_s5, ne_t5, lt_s6, ne_s6, ne_t6, lt_s7, ne_s7, ne_t7, lt_s8, ne_s8, ne_t8, Nat.succ_ne_self, Nat.lt_irrefl, reduceCtorEq, k0, l_k0_W2, l_k0_W3, l_k0_W8] at n_k0
    have n_b : Below w.heap.size w V9 := by rw [hV_V9]; (repeat' first | assumption | exact Below.refl _ _ | refine Below.alloc ?_ (by first | exact Nat.le_refl _ | omega | (simp only [siz_alloc, siz_set]; omega)) _ | refine Below.setCell ?_ (by first | exact Nat.le_refl _ | omega | (simp only [siz_alloc, siz_set]; omega)) _ | refine below_drewN ?_ _ | refine Below.drew ?_)
    clear k0 c_k0 f_k0
    have k0 := n_k0; clear n_k0
    clear hV_V9
    refine (rank_at x hx _ _ _ ((j : Int) - k) HA.out hxn.out.symm RJ.out _).mono ?_
    rintro e_W9 W9 ⟨rfl, hb_W9⟩
    have b9 := below_step n_b hb_W9; clear n_b
    replace k0 := keep_blk hb_W9 k0
    have c_k0 := cells_of k0
    have f_k0 := free_of k0
    have l_k0_W9 := lt_of k0
    have z_W9 := b9.size
    clear hb_W9
    go_wp2
    go_ret
    exact ⟨ret_bool (by first | rfl | (simp; done) | (simp; omega)), by (repeat' first | assumption)⟩
set_option maxHeartbeats 1000000 in
theorem ranks_10 (b m : Nat) (x : List Bool) (ones : Nat) (k : Int) (i : Nat) (hk : k ≤ 9223372036854775807) (hk0 : 0 ≤ k) (hm : m ≤ 64) (hm6 : m < 64) (hx : x.length ≤ 64) (hxn : Hid ((x.length : Int) = (m : Int))) (HA : Hid ((Go.bits .and .u64 (b : Int) (IntKind.u64.wrap (IntKind.u64.wrap (2 ^ m) - 1))) = (pack x : Int)))
    (HO : Hid ((ones : Int) = ((x.take ((m : Int).toNat)).count true : Int))) (ho : ones ≤ m) (GI : Hid (true = getL x (i : Int))) (RI : Hid (k = ((x.take ((i : Int).toNat)).count true : Int))) (H1 : Hid ((i : Int) = selL x true k)) (t1 : decide (k < (ones : Int)) = true) (hi : i < 64) (H0 : Hid (-1 = selL x false k)) (t0 : decide (k < (m : Int) - (ones : Int)) = false) (w : World) :
    Calls Try.prog 3 #[.int .u64 (b : Int), .int .i64 (m : Int), .int .i64 k] w fun e w' => e = .returned (.bool true) ∧ Below w.heap.size w w' := by
    have d1 : decide ((m : Int) < 0) = false := by simp
    have d2 : decide ((64 : Int) < (m : Int)) = false := by simp; omega
    have d3 : decide ((m : Int) < (64 : Int)) = true := by simp; omega
    have d4 : decide ((0 : Int) ≤ k) = true := by simpa using hk0
    go_enter Try.func3, Try.ntmps3
    go_wp2_with fail
    refine calls_gen fun V1 hV_V1 => ?_
    have n_b : Below w.heap.size w V1 := by rw [hV_V1]; (repeat' first | assumption | exact Below.refl _ _ | refine Below.alloc ?_ (by first | exact Nat.le_refl _ | omega | (simp only [siz_alloc, siz_set]; omega)) _ | refine Below.setCell ?_ (by first | exact Nat.le_refl _ | omega | (simp only [siz_alloc, siz_set]; omega)) _ | refine below_drewN ?_ _ | refine Below.drew ?_)
    clear hV_V1
    refine (alive_true _).mono ?_
    rintro e_W1 W1 ⟨rfl, hb_W1⟩
    have b1 := below_step n_b hb_W1; clear n_b
    have z_W1 := b1.size
    clear hb_W1
    go_wp2_with fail
    refine calls_gen fun V2 hV_V2 => ?_
    have n_k0 := congrArg (fun v : World => v.heap[W1.heap.size]?) hV_V2
    simp (maxDischargeDepth := 9) only [blk_new, blk_old, blk_far, lt_succ_of, ne_of_lt1, ne_of_lt2, blk_set, blk_drew, blk_drewN, siz_alloc, siz_set, setAt_cells, Option.map_some, List.setIfInBounds_toArray, List.set_cons_zero, List.set_cons_succ, List.set_nil, ne_eq, not_false_eq_true, Nat.lt_add_one, Nat.add_right_cancel_iff, Nat.add_left_cancel_iff, lt_s2, ne_s2, ne_t2, lt_s3, ne_s3, ne_t3, lt_s4, ne_s4, ne_t4, lt_s5, ne_s5, ne_t5, lt_s6, ne_s6, ne_t6, lt_s7, ne_s7, ne_t7, lt_s8, ne_s8, ne_t8, Nat.succ_ne_self, Nat.lt_irrefl, reduceCtorEq] at n_k0
    have n_b : Below w.heap.size w V2 := by rw [hV_V2]; (repeat' first | assumption | exact Below.refl _ _ | refine Below.alloc ?_ (by first | exact Nat.le_refl _ | omega | (simp only [siz_alloc, siz_set]; omega)) _ | refine Below.setCell ?_ (by first | exact Nat.le_refl _ | omega | (simp only [siz_alloc, siz_set]; omega)) _ | refine below_drewN ?_ _ | refine Below.drew ?_)
    have k0 := n_k0; clear n_k0
    clear hV_V2
    refine (rank_at x hx _ _ _ (ones : Int) HA.out hxn.out.symm HO.out _).mono ?_
    rintro e_W2 W2 ⟨rfl, hb_W2⟩
    have b2 := below_step n_b hb_W2; clear n_b
    replace k0 := keep_blk hb_W2 k0
    have c_k0 := cells_of k0
    have f_k0 := free_of k0
    have l_k0_W2 := lt_of k0
    have z_W2 := b2.size
    clear hb_W2
    go_wp2_with fail
    refine wp_gen fun V3 hV_V3 => ?_
    have n_k0 := congrArg (fun v : World => v.heap[W1.heap.size]?) hV_V3
    simp (maxDischargeDepth := 9) only [blk_new, blk_old, blk_far, lt_succ_of, ne_of_lt1, ne_of_lt2, blk_set, blk_drew, blk_drewN, siz_alloc, siz_set, setAt_cells, Option.map_some, List.setIfInBounds_toArray, List.set_cons_zero, List.set_cons_succ, List.set_nil, ne_eq, not_false_eq_true, Nat.lt_add_one, Nat.add_right_cancel_iff, Nat.add_left_cancel_iff, lt_s2, ne_s2, ne_t2, lt_s3, ne_s3, ne_t3, lt_s4, ne_s4, ne_t4, lt_s5, ne_s5, ne_t5, lt_s6, ne_s6, ne_t6, lt_s7, ne_s7, ne_t7, lt_s8, ne_s8, ne_t8, Nat.succ_ne_self, Nat.lt_irrefl, reduceCtorEq, k0, l_k0_W2] at n_k0
    have n_b : Below w.heap.size w V3 := by rw [hV_V3]; (repeat' first | assumption | exact Below.refl _ _ | refine Below.alloc ?_ (by first | exact Nat.le_refl _ | omega | (simp only [siz_alloc, siz_set]; omega)) _ | refine Below.setCell ?_ (by first | exact Nat.le_refl _ | omega | (simp only [siz_alloc, siz_set]; omega)) _ | refine below_drewN ?_ _ | refine Below.drew ?_)
    clear k0 c_k0 f_k0
    have k0 := n_k0; clear n_k0
    clear hV_V3
    have g_k0 := grown_cells k0
    refine wp_region_quiet_below (by kernel_rfl) (by kernel_rfl) ?_
    repeat (go_big_quiet_step ((first | (go_at_call 12; with_reducible exact Calls.regrown_of (select_at x hx true k hk _ _ (i : Int) HA.out hxn.out.symm H1.out _)) | (go_at_call 12; with_reducible exact Calls.regrown_of (select_at x hx false k hk _ _ (-1) HA.out hxn.out.symm H0.out _)))))
    refine wpQuiet_nil ?_
    intro W3 hW_W3
    have hb_W3 := below_of_regrown hW_W3
    have b3 := below_step n_b hb_W3; clear n_b hW_W3
    clear g_k0
    replace k0 := keep_blk hb_W3 k0
    have c_k0 := cells_of k0
    have f_k0 := free_of k0
    have l_k0_W3 := lt_of k0
    have z_W3 := b3.size
    clear hb_W3
    go_wp2_with fail
    go_wp2_with fail
    refine calls_gen fun V6 hV_V6 => ?_
    have n_k0 := congrArg (fun v : World => v.heap[W1.heap.size]?) hV_V6
    simp (maxDischargeDepth := 9) only [blk_new, blk_old, blk_far, lt_succ_of, ne_of_lt1, ne_of_lt2, blk_set, blk_drew, blk_drewN, siz_alloc, siz_set, setAt_cells, Option.map_some, List.setIfInBounds_toArray, List.set_cons_zero, List.set_cons_succ, List.set_nil, ne_eq, not_false_eq_true, Nat.lt_add_one, Nat.add_right_cancel_iff, Nat.add_left_cancel_iff, lt_s2, ne_s2, ne_t2, lt_s3, ne_s3, ne_t3, lt_s4, ne_s4, ne_t4, lt_s5, ne_s5, ne_t5, lt_s6, ne_s6, ne_t6, lt_s7, ne_s7, ne_t7, lt_s8, ne_s8, ne_t8, Nat.succ_ne_self, Nat.lt_irrefl, reduceCtorEq, k0, l_k0_W2, l_k0_W3] at n_k0
    have n_b : Below w.heap.size w V6 := by rw [hV_V6]; (repeat' first | assumption | exact Below.refl _ _ | refine Below.alloc ?_ (by first | exact Nat.le_refl _ | omega | (simp only [siz_alloc, siz_set]; omega)) _ | refine Below.setCell ?_ (by first | exact Nat.le_refl _ | omega | (simp only [siz_alloc, siz_set]; omega)) _ | refine below_drewN ?_ _ | refine Below.drew ?_)
    clear k0 c_k0 f_k0
    have k0 := n_k0; clear n_k0
    clear hV_V6
    refine (get_at x hx _ _ _ true HA.out hxn.out.symm GI.out _).mono ?_
    rintro e_W6 W6 ⟨rfl, hb_W6⟩
    have b6 := below_step n_b hb_W6; clear n_b
    replace k0 := keep_blk hb_W6 k0
    have c_k0 := cells_of k0
    have f_k0 := free_of k0
    have l_k0_W6 := lt_of k0
    have z_W6 := b6.size
    clear hb_W6
    go_wp2_with fail
    refine calls_gen fun V7 hV_V7 => ?_
    have n_k0 := congrArg (fun v : World => v.heap[W1.heap.size]?) hV_V7
    simp (maxDischargeDepth := 9) only [blk_new, blk_old, blk_far, lt_succ_of, ne_of_lt1, ne_of_lt2, blk_set, blk_drew, blk_drewN, siz_alloc, siz_set, setAt_cells, Option.map_some, List.setIfInBounds_toArray, List.set_cons_zero, List.set_cons_succ, List.set_nil, ne_eq, not_false_eq_true, Nat.lt_add_one, Nat.add_right_cancel_iff, Nat.add_left_cancel_iff, lt_s2, ne_s2, ne_t2, lt_s3, ne_s3, ne_t3, lt_s4, ne_s4, ne_t4, lt_s5, ne_s5, ne_t5, lt_s6, ne_s6, ne_t6, lt_s7, ne_s7, ne_t7, lt_s8, ne_s8, ne_t8, Nat.succ_ne_self, Nat.lt_irrefl, reduceCtorEq, k0, l_k0_W2, l_k0_W3, l_k0_W6] at n_k0
    have n_b : Below w.heap.size w V7 := by rw [hV_V7]; (repeat' first | assumption | exact Below.refl _ _ | refine Below.alloc ?_ (by first | exact Nat.le_refl _ | omega | (simp only [siz_alloc, siz_set]; omega)) _ | refine Below.setCell ?_ (by first | exact Nat.le_refl _ | omega | (simp only [siz_alloc, siz_set]; omega)) _ | refine below_drewN ?_ _ | refine Below.drew ?_)
    clear k0 c_k0 f_k0
    have k0 := n_k0; clear n_k0
    clear hV_V7
    refine (rank_at x hx _ _ _ k HA.out hxn.out.symm RI.out _).mono ?_
    rintro e_W7 W7 ⟨rfl, hb_W7⟩
    have b7 := below_step n_b hb_W7; clear n_b
    replace k0 := keep_blk hb_W7 k0
    have c_k0 := cells_of k0
    have f_k0 := free_of k0
    have l_k0_W7 := lt_of k0
    have z_W7 := b7.size
    clear hb_W7
    go_wp2
    go_ret
    exact ⟨ret_bool (by first | rfl | (simp; done) | (simp; omega)), by (repeat' first | assumption)⟩
set_option maxHeartbeats 1000000 in
theorem ranks_10b (b : Nat) (x : List Bool) (ones : Nat) (k : Int) (i : Nat) (hk : k ≤ 9223372036854775807) (hk0 : 0 ≤ k) (hx : x.length ≤ 64) (hxn : Hid ((x.length : Int) = (64 : Int))) (HA : Hid ((b : Int) = (pack x : Int)))
    (HO : Hid ((ones : Int) = ((x.take ((64 : Int).toNat)).count true : Int))) (ho : ones ≤ 64) (GI : Hid (true = getL x (i : Int))) (RI : Hid (k = ((x.take ((i : Int).toNat)).count true : Int))) (H1 : Hid ((i : Int) = selL x true k)) (t1 : decide (k < (ones : Int)) = true) (hi : i < 64) (H0 : Hid (-1 = selL x false k)) (t0 : decide (k < (64 : Int) - (ones : Int)) = false) (w : World) :
    Calls Try.prog 3 #[.int .u64 (b : Int), .int .i64 (64 : Int), .int .i64 k] w fun e w' => e = .returned (.bool true) ∧ Below w.heap.size w w' := by
    have d4 : decide ((0 : Int) ≤ k) = true := by simpa using hk0
    go_enter Try.func3, Try.ntmps3
    go_wp2_with fail
    refine calls_gen fun V1 hV_V1 => ?_
    have n_b : Below w.heap.size w V1 := by rw [hV_V1]; (repeat' first | assumption | exact Below.refl _ _ | refine Below.alloc ?_ (by first | exact Nat.le_refl _ | omega | (simp only [siz_alloc, siz_set]; omega)) _ | refine Below.setCell ?_ (by first | exact Nat.le_refl _ | omega | (simp only [siz_alloc, siz_set]; omega)) _ | refine below_drewN ?_ _ | refine Below.drew ?_)
    clear hV_V1
    refine (alive_true _).mono ?_
    rintro e_W1 W1 ⟨rfl, hb_W1⟩
    have b1 := below_step n_b hb_W1; clear n_b
    have z_W1 := b1.size
    clear hb_W1
    go_wp2_with fail
    refine calls_gen fun V2 hV_V2 => ?_
    have n_k0 := congrArg (fun v : World => v.heap[W1.heap.size]?) hV_V2
    simp (maxDischargeDepth := 9) only [blk_new, blk_old, blk_far, lt_succ_of, ne_of_lt1, ne_of_lt2, blk_set, blk_drew, blk_drewN, siz_alloc, siz_set, setAt_cells, Option.map_some, List.setIfInBounds_toArray, List.set_cons_zero, List.set_cons_succ, List.set_nil, ne_eq, not_false_eq_true, Nat.lt_add_one, Nat.add_right_cancel_iff, Nat.add_left_cancel_iff, lt_s2, ne_s2, ne_t2, lt_s3, ne_s3, ne_t3, lt_s4, ne_s4, ne_t4, lt_s5, ne_s5, ne_t5, lt_s6, ne_s6, ne_t6, lt_s7, ne_s7, ne_t7, lt_s8, ne_s8, ne_t8, Nat.succ_ne_self, Nat.lt_irrefl, reduceCtorEq] at n_k0
    have n_b : Below w.heap.size w V2 := by rw [hV_V2]; (repeat' first | assumption | exact Below.refl _ _ | refine Below.alloc ?_ (by first | exact Nat.le_refl _ | omega | (simp only [siz_alloc, siz_set]; omega)) _ | refine Below.setCell ?_ (by first | exact Nat.le_refl _ | omega | (simp only [siz_alloc, siz_set]; omega)) _ | refine below_drewN ?_ _ | refine Below.drew ?_)
    have k0 := n_k0; clear n_k0
    clear hV_V2
    refine (rank_at x hx _ _ _ (ones : Int) HA.out hxn.out.symm HO.out _).mono ?_
    rintro e_W2 W2 ⟨rfl, hb_W2⟩
    have b2 := below_step n_b hb_W2; clear n_b
    replace k0 := keep_blk hb_W2 k0
    have c_k0 := cells_of k0
    have f_k0 := free_of k0
    have l_k0_W2 := lt_of k0
    have z_W2 := b2.size
    clear hb_W2
    go_wp2_with fail
    refine wp_gen fun V3 hV_V3 => ?_
    have n_k0 := congrArg (fun v : World => v.heap[W1.heap.size]?) hV_V3
    simp (maxDischargeDepth := 9) only [blk_new, blk_old, blk_far, lt_succ_of, ne_of_lt1, ne_of_lt2, blk_set, blk_drew, blk_drewN, siz_alloc, siz_set, setAt_cells, Option.map_some, List.setIfInBounds_toArray, List.set_cons_zero, List.set_cons_succ, List.set_nil, ne_eq, not_false_eq_true, Nat.lt_add_one, Nat.add_right_cancel_iff, Nat.add_left_cancel_iff, lt_s2, ne_s2, ne_t2, lt_s3, ne_s3, ne_t3, lt_s4, ne_s4, ne_t4, lt_s5, ne_s5, ne_t5, lt_s6, ne_s6, ne_t6, lt_s7, ne_s7, ne_t7, lt_s8, ne_s8, ne_t8, Nat.succ_ne_self, Nat.lt_irrefl, reduceCtorEq, k0, l_k0_W2] at n_k0
    have n_b : Below w.heap.size w V3 := by rw [hV_V3]; (repeat' first | assumption | exact Below.refl _ _ | refine Below.alloc ?_ (by first | exact Nat.le_refl _ | omega | (simp only [siz_alloc, siz_set]; omega)) _ | refine Below.setCell ?_ (by first | exact Nat.le_refl _ | omega | (simp only [siz_alloc, siz_set]; omega)) _ | refine below_drewN ?_ _ | refine Below.drew ?_)
    clear k0 c_k0 f_k0
    have k0 := n_k0; clear n_k0
    clear hV_V3
    have g_k0 := grown_cells k0
    refine wp_region_quiet_below (by kernel_rfl) (by kernel_rfl) ?_
    repeat (go_big_quiet_step ((first | (go_at_call 12; with_reducible exact Calls.regrown_of (select_at x hx true k hk _ _ (i : Int) HA.out hxn.out.symm H1.out _)) | (go_at_call 12; with_reducible exact Calls.regrown_of (select_at x hx false k hk _ _ (-1) HA.out hxn.out.symm H0.out _)))))
    refine wpQuiet_nil ?_
    intro W3 hW_W3
    have hb_W3 := below_of_regrown hW_W3
    have b3 := below_step n_b hb_W3; clear n_b hW_W3
    clear g_k0
    replace k0 := keep_blk hb_W3 k0
    have c_k0 := cells_of k0
    have f_k0 := free_of k0
    have l_k0_W3 := lt_of k0
    have z_W3 := b3.size
    clear hb_W3
    go_wp2_with fail
    go_wp2_with fail
    refine calls_gen fun V6 hV_V6 => ?_
    have n_k0 := congrArg (fun v : World => v.heap[W1.heap.size]?) hV_V6
    simp (maxDischargeDepth := 9) only [blk_new, blk_old, blk_far, lt_succ_of, ne_of_lt1, ne_of_lt2, blk_set, blk_drew, blk_drewN, siz_alloc, siz_set, setAt_cells, Option.map_some, List.setIfInBounds_toArray, List.set_cons_zero, List.set_cons_succ, List.set_nil, ne_eq, not_false_eq_true, Nat.lt_add_one, Nat.add_right_cancel_iff, Nat.add_left_cancel_iff, lt_s2, ne_s2, ne_t2, lt_s3, ne_s3, ne_t3, lt_s4, ne_s4, ne_t4, lt_s5, ne_s5, ne_t5, lt_s6, ne_s6, ne_t6, lt_s7, ne_s7, ne_t7, lt_s8, ne_s8, ne_t8, Nat.succ_ne_self, Nat.lt_irrefl, reduceCtorEq, k0, l_k0_W2, l_k0_W3] at n_k0
    have n_b : Below w.heap.size w V6 := by rw [hV_V6]; (repeat' first | assumption | exact Below.refl _ _ | refine Below.alloc ?_ (by first | exact Nat.le_refl _ | omega | (simp only [siz_alloc, siz_set]; omega)) _ | refine Below.setCell ?_ (by first | exact Nat.le_refl _ | omega | (simp only [siz_alloc, siz_set]; omega)) _ | refine below_drewN ?_ _ | refine Below.drew ?_)
    clear k0 c_k0 f_k0
    have k0 := n_k0; clear n_k0
    clear hV_V6
    refine (get_at x hx _ _ _ true HA.out hxn.out.symm GI.out _).mono ?_
    rintro e_W6 W6 ⟨rfl, hb_W6⟩
    have b6 := below_step n_b hb_W6; clear n_b
    replace k0 := keep_blk hb_W6 k0
    have c_k0 := cells_of k0
    have f_k0 := free_of k0
    have l_k0_W6 := lt_of k0
    have z_W6 := b6.size
    clear hb_W6
    go_wp2_with fail
    refine calls_gen fun V7 hV_V7 => ?_
    have n_k0 := congrArg (fun v : World => v.heap[W1.heap.size]?) hV_V7
    simp (maxDischargeDepth := 9) only [blk_new, blk_old, blk_far, lt_succ_of, ne_of_lt1, ne_of_lt2, blk_set, blk_drew, blk_drewN, siz_alloc, siz_set, setAt_cells, Option.map_some, List.setIfInBounds_toArray, List.set_cons_zero, List.set_cons_succ, List.set_nil, ne_eq, not_false_eq_true, Nat.lt_add_one, Nat.add_right_cancel_iff, Nat.add_left_cancel_iff, lt_s2, ne_s2, ne_t2, lt_s3, ne_s3, ne_t3, lt_s4, ne_s4, ne_t4, lt_s5, ne_s5, ne_t5, lt_s6, ne_s6, ne_t6, lt_s7, ne_s7, ne_t7, lt_s8, ne_s8, ne_t8, Nat.succ_ne_self, Nat.lt_irrefl, reduceCtorEq, k0, l_k0_W2, l_k0_W3, l_k0_W6] at n_k0
    have n_b : Below w.heap.size w V7 := by rw [hV_V7]; (repeat' first | assumption | exact Below.refl _ _ | refine Below.alloc ?_ (by first | exact Nat.le_refl _ | omega | (simp only [siz_alloc, siz_set]; omega)) _ | refine Below.setCell ?_ (by first | exact Nat.le_refl _ | omega | (simp only [siz_alloc, siz_set]; omega)) _ | refine below_drewN ?_ _ | refine Below.drew ?_)
    clear k0 c_k0 f_k0
    have k0 := n_k0; clear n_k0
    clear hV_V7
    refine (rank_at x hx _ _ _ k HA.out hxn.out.symm RI.out _).mono ?_
    rintro e_W7 W7 ⟨rfl, hb_W7⟩
    have b7 := below_step n_b hb_W7; clear n_b
    replace k0 := keep_blk hb_W7 k0
    have c_k0 := cells_of k0
    have f_k0 := free_of k0
    have l_k0_W7 := lt_of k0
    have z_W7 := b7.size
    clear hb_W7
    go_wp2
    go_ret
    exact ⟨ret_bool (by first | rfl | (simp; done) | (simp; omega)), by (repeat' first | assumption)⟩
set_option maxHeartbeats 1000000 in
theorem ranks_11 (b m : Nat) (x : List Bool) (ones : Nat) (k : Int) (i : Nat) (j : Nat) (hk : k ≤ 9223372036854775807) (hk0 : 0 ≤ k) (hm : m ≤ 64) (hm6 : m < 64) (hx : x.length ≤ 64) (hxn : Hid ((x.length : Int) = (m : Int))) (HA : Hid ((Go.bits .and .u64 (b : Int) (IntKind.u64.wrap (IntKind.u64.wrap (2 ^ m) - 1))) = (pack x : Int)))
    (HO : Hid ((ones : Int) = ((x.take ((m : Int).toNat)).count true : Int))) (ho : ones ≤ m) (GI : Hid (true = getL x (i : Int))) (RI : Hid (k = ((x.take ((i : Int).toNat)).count true : Int))) (H1 : Hid ((i : Int) = selL x true k)) (t1 : decide (k < (ones : Int)) = true) (hi : i < 64) (GJ : Hid (false = getL x (j : Int))) (RJ : Hid ((j : Int) - k = ((x.take ((j : Int).toNat)).count true : Int))) (H0 : Hid ((j : Int) = selL x false k)) (t0 : decide (k < (m : Int) - (ones : Int)) = true) (hj : j < 64) (hjk : k ≤ j) (w : World) :
    Calls Try.prog 3 #[.int .u64 (b : Int), .int .i64 (m : Int), .int .i64 k] w fun e w' => e = .returned (.bool true) ∧ Below w.heap.size w w' := by
    have d1 : decide ((m : Int) < 0) = false := by simp
    have d2 : decide ((64 : Int) < (m : Int)) = false := by simp; omega
    have d3 : decide ((m : Int) < (64 : Int)) = true := by simp; omega
    have d4 : decide ((0 : Int) ≤ k) = true := by simpa using hk0
    go_enter Try.func3, Try.ntmps3
    go_wp2_with fail
    refine calls_gen fun V1 hV_V1 => ?_
    have n_b : Below w.heap.size w V1 := by rw [hV_V1]; (repeat' first | assumption | exact Below.refl _ _ | refine Below.alloc ?_ (by first | exact Nat.le_refl _ | omega | (simp only [siz_alloc, siz_set]; omega)) _ | refine Below.setCell ?_ (by first | exact Nat.le_refl _ | omega | (simp only [siz_alloc, siz_set]; omega)) _ | refine below_drewN ?_ _ | refine Below.drew ?_)
    clear hV_V1
    refine (alive_true _).mono ?_
    rintro e_W1 W1 ⟨rfl, hb_W1⟩
    have b1 := below_step n_b hb_W1; clear n_b
    have z_W1 := b1.size
    clear hb_W1
    go_wp2_with fail
    refine calls_gen fun V2 hV_V2 => ?_
    have n_k0 := congrArg (fun v : World => v.heap[W1.heap.size]?) hV_V2
    simp (maxDischargeDepth := 9) only [blk_new, blk_old, blk_far, lt_succ_of, ne_of_lt1, ne_of_lt2, blk_set, blk_drew, blk_drewN, siz_alloc, siz_set, setAt_cells, Option.map_some, List.setIfInBounds_toArray, List.set_cons_zero, List.set_cons_succ, List.set_nil, ne_eq, not_false_eq_true, Nat.lt_add_one, Nat.add_right_cancel_iff, Nat.add_left_cancel_iff, lt_s2, ne_s2, ne_t2, lt_s3, ne_s3, ne_t3, lt_s4, ne_s4, ne_t4, lt_s5, ne_s5, ne_t5, lt_s6, ne_s6, ne_t6, lt_s7, ne_s7, ne_t7, lt_s8, ne_s8, ne_t8, Nat.succ_ne_self, Nat.lt_irrefl, reduceCtorEq] at n_k0
    have n_b : Below w.heap.size w V2 := by rw [hV_V2]; (repeat' first | assumption | exact Below.refl _ _ | refine Below.alloc ?_ (by first | exact Nat.le_refl _ | omega | (simp only [siz_alloc, siz_set]; omega)) _ | refine Below.setCell ?_ (by first | exact Nat.le_refl _ | omega | (simp only [siz_alloc, siz_set]; omega)) _ | refine below_drewN ?_ _ | refine Below.drew ?_)
    have k0 := n_k0; clear n_k0
    clear hV_V2
    refine (rank_at x hx _ _ _ (ones : Int) HA.out hxn.out.symm HO.out _).mono ?_
    rintro e_W2 W2 ⟨rfl, hb_W2⟩
    have b2 := below_step n_b hb_W2; clear n_b
    replace k0 := keep_blk hb_W2 k0
    have c_k0 := cells_of k0
    have f_k0 := free_of k0
    have l_k0_W2 := lt_of k0
    have z_W2 := b2.size
    clear hb_W2
    go_wp2_with fail
    refine wp_gen fun V3 hV_V3 => ?_
    have n_k0 := congrArg (fun v : World => v.heap[W1.heap.size]?) hV_V3
    simp (maxDischargeDepth := 9) only [blk_new, blk_old, blk_far, lt_succ_of, ne_of_lt1, ne_of_lt2, blk_set, blk_drew, blk_drewN, siz_alloc, siz_set, setAt_cells, Option.map_some, List.setIfInBounds_toArray, List.set_cons_zero, List.set_cons_succ, List.set_nil, ne_eq, not_false_eq_true, Nat.lt_add_one, Nat.add_right_cancel_iff, Nat.add_left_cancel_iff, lt_s2, ne_s2, ne_t2, lt_s3, ne_s3, ne_t3, lt_s4, ne_s4, ne_t4, lt_s5, ne_s5, ne_t5, lt_s6, ne_s6, ne_t6, lt_s7, ne_s7, ne_t7, lt_s8, ne_s8, ne_t8, Nat.succ_ne_self, Nat.lt_irrefl, reduceCtorEq, k0, l_k0_W2] at n_k0
    have n_b : Below w.heap.size w V3 := by rw [hV_V3]; (repeat' first | assumption | exact Below.refl _ _ | refine Below.alloc ?_ (by first | exact Nat.le_refl _ | omega | (simp only [siz_alloc, siz_set]; omega)) _ | refine Below.setCell ?_ (by first | exact Nat.le_refl _ | omega | (simp only [siz_alloc, siz_set]; omega)) _ | refine below_drewN ?_ _ | refine Below.drew ?_)
    clear k0 c_k0 f_k0
    have k0 := n_k0; clear n_k0
    clear hV_V3
    have g_k0 := grown_cells k0
    refine wp_region_quiet_below (by kernel_rfl) (by kernel_rfl) ?_
    repeat (go_big_quiet_step ((first | (go_at_call 12; with_reducible exact Calls.regrown_of (select_at x hx true k hk _ _ (i : Int) HA.out hxn.out.symm H1.out _)) | (go_at_call 12; with_reducible exact Calls.regrown_of (select_at x hx false k hk _ _ (j : Int) HA.out hxn.out.symm H0.out _)))))
    refine wpQuiet_nil ?_
    intro W3 hW_W3
    have hb_W3 := below_of_regrown hW_W3
    have b3 := below_step n_b hb_W3; clear n_b hW_W3
    clear g_k0
    replace k0 := keep_blk hb_W3 k0
    have c_k0 := cells_of k0
    have f_k0 := free_of k0
    have l_k0_W3 := lt_of k0
    have z_W3 := b3.size
    clear hb_W3
    go_wp2_with fail
    go_wp2_with fail
    refine calls_gen fun V6 hV_V6 => ?_
    have n_k0 := congrArg (fun v : World => v.heap[W1.heap.size]?) hV_V6
    simp (maxDischargeDepth := 9) only [blk_new, blk_old, blk_far, lt_succ_of, ne_of_lt1, ne_of_lt2, blk_set, blk_drew, blk_drewN, siz_alloc, siz_set, setAt_cells, Option.map_some, List.setIfInBounds_toArray, List.set_cons_zero, List.set_cons_succ, List.set_nil, ne_eq, not_false_eq_true, Nat.lt_add_one, Nat.add_right_cancel_iff, Nat.add_left_cancel_iff, lt_s2, ne_s2, ne_t2, lt_s3, ne_s3, ne_t3, lt_s4, ne_s4, ne_t4, lt_s5, ne_s5, ne_t5, lt_s6, ne_s6, ne_t6, lt_s7, ne_s7, ne_t7, lt_s8, ne_s8, ne_t8, Nat.succ_ne_self, Nat.lt_irrefl, reduceCtorEq, k0, l_k0_W2, l_k0_W3] at n_k0
    have n_b : Below w.heap.size w V6 := by rw [hV_V6]; (repeat' first | assumption | exact Below.refl _ _ | refine Below.alloc ?_ (by first | exact Nat.le_refl _ | omega | (simp only [siz_alloc, siz_set]; omega)) _ | refine Below.setCell ?_ (by first | exact Nat.le_refl _ | omega | (simp only [siz_alloc, siz_set]; omega)) _ | refine below_drewN ?_ _ | refine Below.drew ?_)
    clear k0 c_k0 f_k0
    have k0 := n_k0; clear n_k0
    clear hV_V6
    refine (get_at x hx _ _ _ true HA.out hxn.out.symm GI.out _).mono ?_
    rintro e_W6 W6 ⟨rfl, hb_W6⟩
    have b6 := below_step n_b hb_W6; clear n_b
    replace k0 := keep_blk hb_W6 k0
    have c_k0 := cells_of k0
    have f_k0 := free_of k0
    have l_k0_W6 := lt_of k0
    have z_W6 := b6.size
    clear hb_W6
    go_wp2_with fail
    refine calls_gen fun V7 hV_V7 => ?_
    have n_k0 := congrArg (fun v : World => v.heap[W1.heap.size]?) hV_V7
    simp (maxDischargeDepth := 9) only [blk_new, blk_old, blk_far, lt_succ_of, ne_of_lt1, ne_of_lt2, blk_set, blk_drew, blk_drewN, siz_alloc, siz_set, setAt_cells, Option.map_some, List.setIfInBounds_toArray, List.set_cons_zero, List.set_cons_succ, List.set_nil, ne_eq, not_false_eq_true, Nat.lt_add_one, Nat.add_right_cancel_iff, Nat.add_left_cancel_iff, lt_s2, ne_s2, ne_t2, lt_s3, ne_s3, ne_t3, lt_s4, ne_s4, ne_t4, lt_s5, ne_s5, ne_t5, lt_s6, ne_s6, ne_t6, lt_s7, ne_s7, ne_t7, lt_s8, ne_s8, ne_t8, Nat.succ_ne_self, Nat.lt_irrefl, reduceCtorEq, k0, l_k0_W2, l_k0_W3, l_k0_W6] at n_k0
    have n_b : Below w.heap.size w V7 := by rw [hV_V7]; (repeat' first | assumption | exact Below.refl _ _ | refine Below.alloc ?_ (by first | exact Nat.le_refl _ | omega | (simp only [siz_alloc, siz_set]; omega)) _ | refine Below.setCell ?_ (by first | exact Nat.le_refl _ | omega | (simp only [siz_alloc, siz_set]; omega)) _ | refine below_drewN ?_ _ | refine Below.drew ?_)
    clear k0 c_k0 f_k0
    have k0 := n_k0; clear n_k0
    clear hV_V7
    refine (rank_at x hx _ _ _ k HA.out hxn.out.symm RI.out _).mono ?_
    rintro e_W7 W7 ⟨rfl, hb_W7⟩
    have b7 := below_step n_b hb_W7; clear n_b
    replace k0 := keep_blk hb_W7 k0
    have c_k0 := cells_of k0
    have f_k0 := free_of k0
    have l_k0_W7 := lt_of k0
    have z_W7 := b7.size
    clear hb_W7
    go_wp2_with fail
    refine calls_gen fun V8 hV_V8 => ?_
    have n_k0 := congrArg (fun v : World => v.heap[W1.heap.size]?) hV_V8
    simp (maxDischargeDepth := 9) only [blk_new, blk_old, blk_far, lt_succ_of, ne_of_lt1, ne_of_lt2, blk_set, blk_drew, blk_drewN, siz_alloc, siz_set, setAt_cells, Option.map_some, List.setIfInBounds_toArray, List.set_cons_zero, List.set_cons_succ, List.set_nil, ne_eq, not_false_eq_true, Nat.lt_add_one, Nat.add_right_cancel_iff, Nat.add_left_cancel_iff, lt_s2, ne_s2, ne_t2, lt_s3, ne_s3, ne_t3, lt_s4, ne_s4, ne_t4, lt_s5, ne_s5, ne_t5, lt_s6, ne_s6, ne_t6, lt_s7, ne_s7, ne_t7, lt_s8, ne_s8, ne_t8, Nat.succ_ne_self, Nat.lt_irrefl, reduceCtorEq, k0, l_k0_W2, l_k0_W3, l_k0_W6, l_k0_W7] at n_k0
    have n_b : Below w.heap.size w V8 := by rw [hV_V8]; (repeat' first | assumption | exact Below.refl _ _ | refine Below.alloc ?_ (by first | exact Nat.le_refl _ | omega | (simp only [siz_alloc, siz_set]; omega)) _ | refine Below.setCell ?_ (by first | exact Nat.le_refl _ | omega | (simp only [siz_alloc, siz_set]; omega)) _ | refine below_drewN ?_ _ | refine Below.drew ?_)
    clear k0 c_k0 f_k0
    have k0 := n_k0; clear n_k0
    clear hV_V8
    refine (get_at x hx _ _ _ false HA.out hxn.out.symm GJ.out _).mono ?_
    rintro e_W8 W8 ⟨rfl, hb_W8⟩
    have b8 := below_step n_b hb_W8; clear n_b
    replace k0 := keep_blk hb_W8 k0
    have c_k0 := cells_of k0
    have f_k0 := free_of k0
    have l_k0_W8 := lt_of k0
    have z_W8 := b8.size
    clear hb_W8
    go_wp2_with fail
    refine calls_gen fun V9 hV_V9 => ?_
    have n_k0 := congrArg (fun v : World => v.heap[W1.heap.size]?) hV_V9
    simp (maxDischargeDepth := 9) only [blk_new, blk_old, blk_far, lt_succ_of, ne_of_lt1, ne_of_lt2, blk_set, blk_drew, blk_drewN, siz_alloc, siz_set, setAt_cells, Option.map_some, List.setIfInBounds_toArray, List.set_cons_zero, List.set_cons_succ, List.set_nil, ne_eq, not_false_eq_true, Nat.lt_add_one, Nat.add_right_cancel_iff, Nat.add_left_cancel_iff, lt_s2, ne_s2, ne_t2, lt_s3, ne_s3, ne_t3, lt_s4, ne_s4, ne_t4, lt_s5, ne_s5, ne_t5, lt_s6, ne_s6, ne_t6, lt_s7, ne_s7, ne_t7, lt_s8, ne_s8, ne_t8, Nat.succ_ne_self, Nat.lt_irrefl, reduceCtorEq, k0, l_k0_W2, l_k0_W3, l_k0_W6, l_k0_W7, l_k0_W8] at n_k0
    have n_b : Below w.heap.size w V9 := by rw [hV_V9]; (repeat' first | assumption | exact Below.refl _ _ | refine Below.alloc ?_ (by first | exact Nat.le_refl _ | omega | (simp only [siz_alloc, siz_set]; omega)) _ | refine Below.setCell ?_ (by first | exact Nat.le_refl _ | omega | (simp only [siz_alloc, siz_set]; omega)) _ | refine below_drewN ?_ _ | refine Below.drew ?_)
    clear k0 c_k0 f_k0
    have k0 := n_k0; clear n_k0
    clear hV_V9
    refine (rank_at x hx _ _ _ ((j : Int) - k) HA.out hxn.out.symm RJ.out _).mono ?_
    rintro e_W9 W9 ⟨rfl, hb_W9⟩
    have b9 := below_step n_b hb_W9; clear n_b
    replace k0 := keep_blk hb_W9 k0
    have c_k0 := cells_of k0
    have f_k0 := free_of k0
    have l_k0_W9 := lt_of k0
    have z_W9 := b9.size
    clear hb_W9
    go_wp2
    go_ret
    exact ⟨ret_bool (by first | rfl | (simp; done) | (simp; omega)), by (repeat' first | assumption)⟩
set_option maxHeartbeats 1000000 in
theorem ranks_11b (b : Nat) (x : List Bool) (ones : Nat) (k : Int) (i : Nat) (j : Nat) (hk : k ≤ 9223372036854775807) (hk0 : 0 ≤ k) (hx : x.length ≤ 64) (hxn : Hid ((x.length : Int) = (64 : Int))) (HA : Hid ((b : Int) = (pack x : Int)))
    (HO : Hid ((ones : Int) = ((x.take ((64 : Int).toNat)).count true : Int))) (ho : ones ≤ 64) (GI : Hid (true = getL x (i : Int))) (RI : Hid (k = ((x.take ((i : Int).toNat)).count true : Int))) (H1 : Hid ((i : Int) = selL x true k)) (t1 : decide (k < (ones : Int)) = true) (hi : i < 64) (GJ : Hid (false = getL x (j : Int))) (RJ : Hid ((j : Int) - k = ((x.take ((j : Int).toNat)).count true : Int))) (H0 : Hid ((j : Int) = selL x false k)) (t0 : decide (k < (64 : Int) - (ones : Int)) = true) (hj : j < 64) (hjk : k ≤ j) (w : World) :
    Calls Try.prog 3 #[.int .u64 (b : Int), .int .i64 (64 : Int), .int .i64 k] w fun e w' => e = .returned (.bool true) ∧ Below w.heap.size w w' := by
    have d4 : decide ((0 : Int) ≤ k) = true := by simpa using hk0
    go_enter Try.func3, Try.ntmps3
    go_wp2_with fail
    refine calls_gen fun V1 hV_V1 => ?_
    have n_b : Below w.heap.size w V1 := by rw [hV_V1]; (repeat' first | assumption | exact Below.refl _ _ | refine Below.alloc ?_ (by first | exact Nat.le_refl _ | omega | (simp only [siz_alloc, siz_set]; omega)) _ | refine Below.setCell ?_ (by first | exact Nat.le_refl _ | omega | (simp only [siz_alloc, siz_set]; omega)) _ | refine below_drewN ?_ _ | refine Below.drew ?_)
    clear hV_V1
    refine (alive_true _).mono ?_
    rintro e_W1 W1 ⟨rfl, hb_W1⟩
    have b1 := below_step n_b hb_W1; clear n_b
    have z_W1 := b1.size
    clear hb_W1
    go_wp2_with fail
    refine calls_gen fun V2 hV_V2 => ?_
    have n_k0 := congrArg (fun v : World => v.heap[W1.heap.size]?) hV_V2
    simp (maxDischargeDepth := 9) only [blk_new, blk_old, blk_far, lt_succ_of, ne_of_lt1, ne_of_lt2, blk_set, blk_drew, blk_drewN, siz_alloc, siz_set, setAt_cells, Option.map_some, List.setIfInBounds_toArray, List.set_cons_zero, List.set_cons_succ, List.set_nil, ne_eq, not_false_eq_true, Nat.lt_add_one, Nat.add_right_cancel_iff, Nat.add_left_cancel_iff, lt_s2, ne_s2, ne_t2, lt_s3, ne_s3, ne_t3, lt_s4, ne_s4, ne_t4, lt_s5, ne_s5, ne_t5, lt_s6, ne_s6, ne_t6, lt_s7, ne_s7, ne_t7, lt_s8, ne_s8, ne_t8, Nat.succ_ne_self, Nat.lt_irrefl, reduceCtorEq] at n_k0
    have n_b : Below w.heap.size w V2 := by rw [hV_V2]; (repeat' first | assumption | exact Below.refl _ _ | refine Below.alloc ?_ (by first | exact Nat.le_refl _ | omega | (simp only [siz_alloc, siz_set]; omega)) _ | refine Below.setCell ?_ (by first | exact Nat.le_refl _ | omega | (simp only [siz_alloc, siz_set]; omega)) _ | refine below_drewN ?_ _ | refine Below.drew ?_)
    have k0 := n_k0; clear n_k0
    clear hV_V2
    refine (rank_at x hx _ _ _ (ones : Int) HA.out hxn.out.symm HO.out _).mono ?_
    rintro e_W2 W2 ⟨rfl, hb_W2⟩
    have b2 := below_step n_b hb_W2; clear n_b
    replace k0 := keep_blk hb_W2 k0
    have c_k0 := cells_of k0
    have f_k0 := free_of k0
    have l_k0_W2 := lt_of k0
    have z_W2 := b2.size
    clear hb_W2
    go_wp2_with fail
    refine wp_gen fun V3 hV_V3 => ?_
    have n_k0 := congrArg (fun v : World => v.heap[W1.heap.size]?) hV_V3
    simp (maxDischargeDepth := 9) only [blk_new, blk_old, blk_far, lt_succ_of, ne_of_lt1, ne_of_lt2, blk_set, blk_drew, blk_drewN, siz_alloc, siz_set, setAt_cells, Option.map_some, List.setIfInBounds_toArray, List.set_cons_zero, List.set_cons_succ, List.set_nil, ne_eq, not_false_eq_true, Nat.lt_add_one, Nat.add_right_cancel_iff, Nat.add_left_cancel_iff, lt_s2, ne_s2, ne_t2, lt_s3, ne_s3, ne_t3, lt_s4, ne_s4, ne_t4, lt_s5, ne_s5, ne_t5, lt_s6, ne_s6, ne_t6, lt_s7, ne_s7, ne_t7, lt_s8, ne_s8, ne_t8, Nat.succ_ne_self, Nat.lt_irrefl, reduceCtorEq, k0, l_k0_W2] at n_k0
    have n_b : Below w.heap.size w V3 := by rw [hV_V3]; (repeat' first | assumption | exact Below.refl _ _ | refine Below.alloc ?_ (by first | exact Nat.le_refl _ | omega | (simp only [siz_alloc, siz_set]; omega)) _ | refine Below.setCell ?_ (by first | exact Nat.le_refl _ | omega | (simp only [siz_alloc, siz_set]; omega)) _ | refine below_drewN ?_ _ | refine Below.drew ?_)
    clear k0 c_k0 f_k0
    have k0 := n_k0; clear n_k0
    clear hV_V3
    have g_k0 := grown_cells k0
    refine wp_region_quiet_below (by kernel_rfl) (by kernel_rfl) ?_
    repeat (go_big_quiet_step ((first | (go_at_call 12; with_reducible exact Calls.regrown_of (select_at x hx true k hk _ _ (i : Int) HA.out hxn.out.symm H1.out _)) | (go_at_call 12; with_reducible exact Calls.regrown_of (select_at x hx false k hk _ _ (j : Int) HA.out hxn.out.symm H0.out _)))))
    refine wpQuiet_nil ?_
    intro W3 hW_W3
    have hb_W3 := below_of_regrown hW_W3
    have b3 := below_step n_b hb_W3; clear n_b hW_W3
    clear g_k0
    replace k0 := keep_blk hb_W3 k0
    have c_k0 := cells_of k0
    have f_k0 := free_of k0
    have l_k0_W3 := lt_of k0
    have z_W3 := b3.size
    clear hb_W3
    go_wp2_with fail
    go_wp2_with fail
    refine calls_gen fun V6 hV_V6 => ?_
    have n_k0 := congrArg (fun v : World => v.heap[W1.heap.size]?) hV_V6
    simp (maxDischargeDepth := 9) only [blk_new, blk_old, blk_far, lt_succ_of, ne_of_lt1, ne_of_lt2, blk_set, blk_drew, blk_drewN, siz_alloc, siz_set, setAt_cells, Option.map_some, List.setIfInBounds_toArray, List.set_cons_zero, List.set_cons_succ, List.set_nil, ne_eq, not_false_eq_true, Nat.lt_add_one, Nat.add_right_cancel_iff, Nat.add_left_cancel_iff, lt_s2, ne_s2, ne_t2, lt_s3, ne_s3, ne_t3, lt_s4, ne_s4, ne_t4, lt_s5, ne_s5, ne_t5, lt_s6, ne_s6, ne_t6, lt_s7, ne_s7, ne_t7, lt_s8, ne_s8, ne_t8, Nat.succ_ne_self, Nat.lt_irrefl, reduceCtorEq, k0, l_k0_W2, l_k0_W3] at n_k0
    have n_b : Below w.heap.size w V6 := by rw [hV_V6]; (repeat' first | assumption | exact Below.refl _ _ | refine Below.alloc ?_ (by first | exact Nat.le_refl _ | omega | (simp only [siz_alloc, siz_set]; omega)) _ | refine Below.setCell ?_ (by first | exact Nat.le_refl _ | omega | (simp only [siz_alloc, siz_set]; omega)) _ | refine below_drewN ?_ _ | refine Below.drew ?_)
    clear k0 c_k0 f_k0
    have k0 := n_k0; clear n_k0
    clear hV_V6
    refine (get_at x hx _ _ _ true HA.out hxn.out.symm GI.out _).mono ?_
    rintro e_W6 W6 ⟨rfl, hb_W6⟩
    have b6 := below_step n_b hb_W6; clear n_b
    replace k0 := keep_blk hb_W6 k0
    have c_k0 := cells_of k0
    have f_k0 := free_of k0
    have l_k0_W6 := lt_of k0
    have z_W6 := b6.size
    clear hb_W6
    go_wp2_with fail
    refine calls_gen fun V7 hV_V7 => ?_
    have n_k0 := congrArg (fun v : World => v.heap[W1.heap.size]?) hV_V7
    simp (maxDischargeDepth := 9) only [blk_new, blk_old, blk_far, lt_succ_of, ne_of_lt1, ne_of_lt2, blk_set, blk_drew, blk_drewN, siz_alloc, siz_set, setAt_cells, Option.map_some, List.setIfInBounds_toArray, List.set_cons_zero, List.set_cons_succ, List.set_nil, ne_eq, not_false_eq_true, Nat.lt_add_one, Nat.add_right_cancel_iff, Nat.add_left_cancel_iff, lt_s2, ne_s2, ne_t2, lt_s3, ne_s3, ne_t3, lt_s4, ne_s4, ne_t4, lt_s5, ne_s5, ne_t5, lt_s6, ne_s6, ne_t6, lt_s7, ne_s7, ne_t7, lt_s8, ne_s8, ne_t8, Nat.succ_ne_self, Nat.lt_irrefl, reduceCtorEq, k0, l_k0_W2, l_k0_W3, l_k0_W6] at n_k0
    have n_b : Below w.heap.size w V7 := by rw [hV_V7]; (repeat' first | assumption | exact Below.refl _ _ | refine Below.alloc ?_ (by first | exact Nat.le_refl _ | omega | (simp only [siz_alloc, siz_set]; omega)) _ | refine Below.setCell ?_ (by first | exact Nat.le_refl _ | omega | (simp only [siz_alloc, siz_set]; omega)) _ | refine below_drewN ?_ _ | refine Below.drew ?_)
    clear k0 c_k0 f_k0
    have k0 := n_k0; clear n_k0
    clear hV_V7
    refine (rank_at x hx _ _ _ k HA.out hxn.out.symm RI.out _).mono ?_
    rintro e_W7 W7 ⟨rfl, hb_W7⟩
    have b7 := below_step n_b hb_W7; clear n_b
    replace k0 := keep_blk hb_W7 k0
    have c_k0 := cells_of k0
    have f_k0 := free_of k0
    have l_k0_W7 := lt_of k0
    have z_W7 := b7.size
    clear hb_W7
    go_wp2_with fail
    refine calls_gen fun V8 hV_V8 => ?_
    have n_k0 := congrArg (fun v : World => v.heap[W1.heap.size]?) hV_V8
    simp (maxDischargeDepth := 9) only [blk_new, blk_old, blk_far, lt_succ_of, ne_of_lt1, ne_of_lt2, blk_set, blk_drew, blk_drewN, siz_alloc, siz_set, setAt_cells, Option.map_some, List.setIfInBounds_toArray, List.set_cons_zero, List.set_cons_succ, List.set_nil, ne_eq, not_false_eq_true, Nat.lt_add_one, Nat.add_right_cancel_iff, Nat.add_left_cancel_iff, lt_s2, ne_s2, ne_t2, lt_s3, ne_s3, ne_t3, lt_s4, ne_s4, ne_t4, lt_s5, ne_s5, ne_t5, lt_s6, ne_s6, ne_t6, lt_s7, ne_s7, ne_t7, lt_s8, ne_s8, ne_t8, Nat.succ_ne_self, Nat.lt_irrefl, reduceCtorEq, k0, l_k0_W2, l_k0_W3, l_k0_W6, l_k0_W7] at n_k0
    have n_b : Below w.heap.size w V8 := by rw [hV_V8]; (repeat' first | assumption | exact Below.refl _ _ | refine Below.alloc ?_ (by first | exact Nat.le_refl _ | omega | (simp only [siz_alloc, siz_set]; omega)) _ | refine Below.setCell ?_ (by first | exact Nat.le_refl _ | omega | (simp only [siz_alloc, siz_set]; omega)) _ | refine below_drewN ?_ _ | refine Below.drew ?_)
    clear k0 c_k0 f_k0
    have k0 := n_k0; clear n_k0
    clear hV_V8
    refine (get_at x hx _ _ _ false HA.out hxn.out.symm GJ.out _).mono ?_
    rintro e_W8 W8 ⟨rfl, hb_W8⟩
    have b8 := below_step n_b hb_W8; clear n_b
    replace k0 := keep_blk hb_W8 k0
    have c_k0 := cells_of k0
    have f_k0 := free_of k0
    have l_k0_W8 := lt_of k0
    have z_W8 := b8.size
    clear hb_W8
    go_wp2_with fail
    refine calls_gen fun V9 hV_V9 => ?_
    have n_k0 := congrArg (fun v : World => v.heap[W1.heap.size]?) hV_V9
    simp (maxDischargeDepth := 9) only [blk_new, blk_old, blk_far, lt_succ_of, ne_of_lt1, ne_of_lt2, blk_set, blk_drew, blk_drewN, siz_alloc, siz_set, setAt_cells, Option.map_some, List.setIfInBounds_toArray, List.set_cons_zero, List.set_cons_succ, List.set_nil, ne_eq, not_false_eq_true, Nat.lt_add_one, Nat.add_right_cancel_iff, Nat.add_left_cancel_iff, lt_s2, ne_s2, ne_t2, lt_s3, ne_s3, ne_t3, lt_s4, ne_s4, ne_t4, lt_s5, ne_s5, ne_t5, lt_s6, ne_s6, ne_t6, lt_s7, ne_s7, ne_t7, lt_s8, ne_s8, ne_t8, Nat.succ_ne_self, Nat.lt_irrefl, reduceCtorEq, k0, l_k0_W2, l_k0_W3, l_k0_W6, l_k0_W7, l_k0_W8] at n_k0
    have n_b : Below w.heap.size w V9 := by rw [hV_V9]; (repeat' first | assumption | exact Below.refl _ _ | refine Below.alloc ?_ (by first | exact Nat.le_refl _ | omega | (simp only [siz_alloc, siz_set]; omega)) _ | refine Below.setCell ?_ (by first | exact Nat.le_refl _ | omega | (simp only [siz_alloc, siz_set]; omega)) _ | refine below_drewN ?_ _ | refine Below.drew ?_)
    clear k0 c_k0 f_k0
    have k0 := n_k0; clear n_k0
    clear hV_V9
    refine (rank_at x hx _ _ _ ((j : Int) - k) HA.out hxn.out.symm RJ.out _).mono ?_
    rintro e_W9 W9 ⟨rfl, hb_W9⟩
    have b9 := below_step n_b hb_W9; clear n_b
    replace k0 := keep_blk hb_W9 k0
    have c_k0 := cells_of k0
    have f_k0 := free_of k0
    have l_k0_W9 := lt_of k0
    have z_W9 := b9.size
    clear hb_W9
    go_wp2
    go_ret
    exact ⟨ret_bool (by first | rfl | (simp; done) | (simp; omega)), by (repeat' first | assumption)⟩
set_option maxHeartbeats 1000000 in
theorem ranks_n (b m : Nat) (x : List Bool) (ones : Nat) (k : Int) (hk : k ≤ 9223372036854775807) (hk0 : k < 0) (hm : m ≤ 64) (hm6 : m < 64) (hx : x.length ≤ 64) (hxn : Hid ((x.length : Int) = (m : Int))) (HA : Hid ((Go.bits .and .u64 (b : Int) (IntKind.u64.wrap (IntKind.u64.wrap (2 ^ m) - 1))) = (pack x : Int)))
    (HO : Hid ((ones : Int) = ((x.take (((m : Int)).toNat)).count true : Int))) (ho : ones ≤ m) (H1 : Hid (-1 = selL x true k)) (H0 : Hid (-1 = selL x false k)) (w : World) :
    Calls Try.prog 3 #[.int .u64 (b : Int), .int .i64 (m : Int), .int .i64 k] w fun e w' => e = .returned (.bool true) ∧ Below w.heap.size w w' := by
    have d1 : decide ((m : Int) < 0) = false := by simp
    have d2 : decide ((64 : Int) < (m : Int)) = false := by simp; omega
    have d3 : decide ((m : Int) < (64 : Int)) = true := by simp; omega
    have d4 : decide ((0 : Int) ≤ k) = false := by simp; omega
    go_enter Try.func3, Try.ntmps3
    go_wp2_with fail
    refine calls_gen fun V1 hV_V1 => ?_
    have n_b : Below w.heap.size w V1 := by rw [hV_V1]; (repeat' first | assumption | exact Below.refl _ _ | refine Below.alloc ?_ (by first | exact Nat.le_refl _ | omega | (simp only [siz_alloc, siz_set]; omega)) _ | refine Below.setCell ?_ (by first | exact Nat.le_refl _ | omega | (simp only [siz_alloc, siz_set]; omega)) _ | refine below_drewN ?_ _ | refine Below.drew ?_)
    clear hV_V1
    refine (alive_true _).mono ?_
    rintro e_W1 W1 ⟨rfl, hb_W1⟩
    have b1 := below_step n_b hb_W1; clear n_b
    have z_W1 := b1.size
    clear hb_W1
    go_wp2_with fail
    refine calls_gen fun V2 hV_V2 => ?_
    have n_k0 := congrArg (fun v : World => v.heap[W1.heap.size]?) hV_V2
    simp (maxDischargeDepth := 9) only [blk_new, blk_old, blk_far, lt_succ_of, ne_of_lt1, ne_of_lt2, blk_set, blk_drew, blk_drewN, siz_alloc, siz_set, setAt_cells, Option.map_some, List.setIfInBounds_toArray, List.set_cons_zero, List.set_cons_succ, List.set_nil, ne_eq, not_false_eq_true, Nat.lt_add_one, Nat.add_right_cancel_iff, Nat.add_left_cancel_iff, lt_s2, ne_s2, ne_t2, lt_s3, ne_s3, ne_t3, lt_s4, ne_s4, ne_t4, lt_s5, ne_s5, ne_t5, lt_s6, ne_s6, ne_t6, lt_s7, ne_s7, ne_t7, lt_s8, ne_s8, ne_t8, Nat.succ_ne_self, Nat.lt_irrefl, reduceCtorEq] at n_k0
    have n_b : Below w.heap.size w V2 := by rw [hV_V2]; (repeat' first | assumption | exact Below.refl _ _ | refine Below.alloc ?_ (by first | exact Nat.le_refl _ | omega | (simp only [siz_alloc, siz_set]; omega)) _ | refine Below.setCell ?_ (by first | exact Nat.le_refl _ | omega | (simp only [siz_alloc, siz_set]; omega)) _ | refine below_drewN ?_ _ | refine Below.drew ?_)
    have k0 := n_k0; clear n_k0
    clear hV_V2
    refine (rank_at x hx _ _ _ (ones : Int) HA.out hxn.out.symm HO.out _).mono ?_
    rintro e_W2 W2 ⟨rfl, hb_W2⟩
    have b2 := below_step n_b hb_W2; clear n_b
    replace k0 := keep_blk hb_W2 k0
    have c_k0 := cells_of k0
    have f_k0 := free_of k0
    have l_k0_W2 := lt_of k0
    have z_W2 := b2.size
    clear hb_W2
    go_wp2_with fail
    refine wp_gen fun V3 hV_V3 => ?_
    have n_k0 := congrArg (fun v : World => v.heap[W1.heap.size]?) hV_V3
    simp (maxDischargeDepth := 9) only [blk_new, blk_old, blk_far, lt_succ_of, ne_of_lt1, ne_of_lt2, blk_set, blk_drew, blk_drewN, siz_alloc, siz_set, setAt_cells, Option.map_some, List.setIfInBounds_toArray, List.set_cons_zero, List.set_cons_succ, List.set_nil, ne_eq, not_false_eq_true, Nat.lt_add_one, Nat.add_right_cancel_iff, Nat.add_left_cancel_iff, lt_s2, ne_s2, ne_t2, lt_s3, ne_s3, ne_t3, lt_s4, ne_s4, ne_t4, lt_s5, ne_s5, ne_t5, lt_s6, ne_s6, ne_t6, lt_s7, ne_s7, ne_t7, lt_s8, ne_s8, ne_t8, Nat.succ_ne_self, Nat.lt_irrefl, reduceCtorEq, k0, l_k0_W2] at n_k0
    have n_b : Below w.heap.size w V3 := by rw [hV_V3]; (repeat' first | assumption | exact Below.refl _ _ | refine Below.alloc ?_ (by first | exact Nat.le_refl _ | omega | (simp only [siz_alloc, siz_set]; omega)) _ | refine Below.setCell ?_ (by first | exact Nat.le_refl _ | omega | (simp only [siz_alloc, siz_set]; omega)) _ | refine below_drewN ?_ _ | refine Below.drew ?_)
    clear k0 c_k0 f_k0
    have k0 := n_k0; clear n_k0
    clear hV_V3
    have g_k0 := grown_cells k0
    refine wp_region_quiet_below (by kernel_rfl) (by kernel_rfl) ?_
    repeat (go_big_quiet_step ((first | (go_at_call 12; with_reducible exact Calls.regrown_of (select_at x hx true k hk _ _ (-1) HA.out hxn.out.symm H1.out _)) | (go_at_call 12; with_reducible exact Calls.regrown_of (select_at x hx false k hk _ _ (-1) HA.out hxn.out.symm H0.out _)))))
    refine wpQuiet_nil ?_
    intro W3 hW_W3
    have hb_W3 := below_of_regrown hW_W3
    have b3 := below_step n_b hb_W3; clear n_b hW_W3
    clear g_k0
    replace k0 := keep_blk hb_W3 k0
    have c_k0 := cells_of k0
    have f_k0 := free_of k0
    have l_k0_W3 := lt_of k0
    have z_W3 := b3.size
    clear hb_W3
    go_wp2
    go_ret
    exact ⟨ret_bool (by first | rfl | (simp; done) | (simp; omega)), by (repeat' first | assumption)⟩
set_option maxHeartbeats 1000000 in
theorem ranks_nb (b : Nat) (x : List Bool) (ones : Nat) (k : Int) (hk : k ≤ 9223372036854775807) (hk0 : k < 0) (hx : x.length ≤ 64) (hxn : Hid ((x.length : Int) = (64 : Int))) (HA : Hid ((b : Int) = (pack x : Int)))
    (HO : Hid ((ones : Int) = ((x.take (((64 : Int)).toNat)).count true : Int))) (ho : ones ≤ 64) (H1 : Hid (-1 = selL x true k)) (H0 : Hid (-1 = selL x false k)) (w : World) :
    Calls Try.prog 3 #[.int .u64 (b : Int), .int .i64 (64 : Int), .int .i64 k] w fun e w' => e = .returned (.bool true) ∧ Below w.heap.size w w' := by
    have d4 : decide ((0 : Int) ≤ k) = false := by simp; omega
    go_enter Try.func3, Try.ntmps3
    go_wp2_with fail
    refine calls_gen fun V1 hV_V1 => ?_
    have n_b : Below w.heap.size w V1 := by rw [hV_V1]; (repeat' first | assumption | exact Below.refl _ _ | refine Below.alloc ?_ (by first | exact Nat.le_refl _ | omega | (simp only [siz_alloc, siz_set]; omega)) _ | refine Below.setCell ?_ (by first | exact Nat.le_refl _ | omega | (simp only [siz_alloc, siz_set]; omega)) _ | refine below_drewN ?_ _ | refine Below.drew ?_)
    clear hV_V1
    refine (alive_true _).mono ?_
    rintro e_W1 W1 ⟨rfl, hb_W1⟩
    have b1 := below_step n_b hb_W1; clear n_b
    have z_W1 := b1.size
    clear hb_W1
    go_wp2_with fail
    refine calls_gen fun V2 hV_V2 => ?_
    have n_k0 := congrArg (fun v : World => v.heap[W1.heap.size]?) hV_V2
    simp (maxDischargeDepth := 9) only [blk_new, blk_old, blk_far, lt_succ_of, ne_of_lt1, ne_of_lt2, blk_set, blk_drew, blk_drewN, siz_alloc, siz_set, setAt_cells, Option.map_some, List.setIfInBounds_toArray, List.set_cons_zero, List.set_cons_succ, List.set_nil, ne_eq, not_false_eq_true, Nat.lt_add_one, Nat.add_right_cancel_iff, Nat.add_left_cancel_iff, lt_s2, ne_s2, ne_t2, lt_s3, ne_s3, ne_t3, lt_s4, ne_s4, ne_t4, lt_s5, ne_s5, ne_t5, lt_s6, ne_s6, ne_t6, lt_s7, ne_s7, ne_t7, lt_s8, ne_s8, ne_t8, Nat.succ_ne_self, Nat.lt_irrefl, reduceCtorEq] at n_k0
    have n_b : Below w.heap.size w V2 := by rw [hV_V2]; (repeat' first | assumption | exact Below.refl _ _ | refine Below.alloc ?_ (by first | exact Nat.le_refl _ | omega | (simp only [siz_alloc, siz_set]; omega)) _ | refine Below.setCell ?_ (by first | exact Nat.le_refl _ | omega | (simp only [siz_alloc, siz_set]; omega)) _ | refine below_drewN ?_ _ | refine Below.drew ?_)
    have k0 := n_k0; clear n_k0
    clear hV_V2
    refine (rank_at x hx _ _ _ (ones : Int) HA.out hxn.out.symm HO.out _).mono ?_
    rintro e_W2 W2 ⟨rfl, hb_W2⟩
    have b2 := below_step n_b hb_W2; clear n_b
    replace k0 := keep_blk hb_W2 k0
    have c_k0 := cells_of k0
    have f_k0 := free_of k0
    have l_k0_W2 := lt_of k0
    have z_W2 := b2.size
    clear hb_W2
    go_wp2_with fail
    refine wp_gen fun V3 hV_V3 => ?_
    have n_k0 := congrArg (fun v : World => v.heap[W1.heap.size]?) hV_V3
    simp (maxDischargeDepth := 9) only [blk_new, blk_old, blk_far, lt_succ_of, ne_of_lt1, ne_of_lt2, blk_set, blk_drew, blk_drewN, siz_alloc, siz_set, setAt_cells, Option.map_some, List.setIfInBounds_toArray, List.set_cons_zero, List.set_cons_succ, List.set_nil, ne_eq, not_false_eq_true, Nat.lt_add_one, Nat.add_right_cancel_iff, Nat.add_left_cancel_iff, lt_s2, ne_s2, ne_t2, lt_s3, ne_s3, ne_t3, lt_s4, ne_s4, ne_t4, lt_s5, ne_s5, ne_t5, lt_s6, ne_s6, ne_t6, lt_s7, ne_s7, ne_t7, lt_s8, ne_s8, ne_t8, Nat.succ_ne_self, Nat.lt_irrefl, reduceCtorEq, k0, l_k0_W2] at n_k0
    have n_b : Below w.heap.size w V3 := by rw [hV_V3]; (repeat' first | assumption | exact Below.refl _ _ | refine Below.alloc ?_ (by first | exact Nat.le_refl _ | omega | (simp only [siz_alloc, siz_set]; omega)) _ | refine Below.setCell ?_ (by first | exact Nat.le_refl _ | omega | (simp only [siz_alloc, siz_set]; omega)) _ | refine below_drewN ?_ _ | refine Below.drew ?_)
    clear k0 c_k0 f_k0
    have k0 := n_k0; clear n_k0
    clear hV_V3
    have g_k0 := grown_cells k0
    refine wp_region_quiet_below (by kernel_rfl) (by kernel_rfl) ?_
    repeat (go_big_quiet_step ((first | (go_at_call 12; with_reducible exact Calls.regrown_of (select_at x hx true k hk _ _ (-1) HA.out hxn.out.symm H1.out _)) | (go_at_call 12; with_reducible exact Calls.regrown_of (select_at x hx false k hk _ _ (-1) HA.out hxn.out.symm H0.out _)))))
    refine wpQuiet_nil ?_
    intro W3 hW_W3
    have hb_W3 := below_of_regrown hW_W3
    have b3 := below_step n_b hb_W3; clear n_b hW_W3
    clear g_k0
    replace k0 := keep_blk hb_W3 k0
    have c_k0 := cells_of k0
    have f_k0 := free_of k0
    have l_k0_W3 := lt_of k0
    have z_W3 := b3.size
    clear hb_W3
    go_wp2
    go_ret
    exact ⟨ret_bool (by first | rfl | (simp; done) | (simp; omega)), by (repeat' first | assumption)⟩
theorem selL_in (l : List Bool) (one : Bool) (k : Int) (h0 : 0 ≤ k) (h : k < l.count one) :
    ∃ i : Nat, selL l one k = (i : Int) ∧ i < l.length ∧ getL l (i : Int) = one ∧ ((l.take i).count one : Int) = k := by
  obtain ⟨k, rfl⟩ := Int.eq_ofNat_of_zero_le h0
  obtain ⟨i, h1, h2, h3, h4⟩ := sel_in one l k 0 (by omega)
  refine ⟨i, ?_, h2, by rw [getL_nat, h3], by omega⟩
  unfold selL; rw [if_neg (by omega), Int.toNat_natCast, h1]; simp
theorem selL_out (l : List Bool) (one : Bool) (k : Int) (h : ¬ (0 ≤ k ∧ k < l.count one)) : selL l one k = -1 := by
  unfold selL
  by_cases h0 : k < 0
  · rw [if_pos h0]
  · rw [if_neg h0, sel_out _ _ _ _ (by omega)]
theorem take_count (l : List Bool) (j : Nat) (hj : j ≤ l.length) : (l.take j).count true + (l.take j).count false = j := by
  have := count_both (l.take j); rw [List.length_take, Nat.min_eq_left hj] at this; exact this
theorem ranks_any (b : Nat) (n k : Int) (hb : b < 2 ^ 64) (hn : 0 ≤ n) (hn2 : n ≤ 64) (hk : k ≤ 9223372036854775807) (w : World) :
    Calls Try.prog 3 #[.int .u64 (b : Int), .int .i64 n, .int .i64 k] w fun e w' => e = .returned (.bool true) ∧ Below w.heap.size w w' := by
  obtain ⟨m, rfl⟩ := Int.eq_ofNat_of_zero_le hn
  obtain ⟨x, hx⟩ : ∃ x, x = unpack (b % 2 ^ m) m := ⟨_, rfl⟩
  have hl : x.length = m := by rw [hx, unpack_length]
  have hO : ((x.count true : Nat) : Int) = ((x.take ((m : Int).toNat)).count true : Int) := by rw [Int.toNat_natCast, ← hl, List.take_length]
  have hc := count_both x
  have hlt : m < 64 → Go.bits .and .u64 (b : Int) (IntKind.u64.wrap (IntKind.u64.wrap (2 ^ m) - 1)) = (pack x : Int) := fun h => by rw [hx]; exact mask_value b m hb h
  have hge : m = 64 → (b : Int) = (pack x : Int) := fun h => by
    have hb' : b < 2 ^ m := by rw [h]; exact hb
    rw [hx, pack_unpack _ _ (Nat.mod_lt _ (Nat.two_pow_pos m)), Nat.mod_eq_of_lt hb']
  by_cases h0 : k < 0
  · have e1 := selL_out x true k (by omega)
    have e0 := selL_out x false k (by omega)
    rcases Nat.lt_or_ge m 64 with h | h
    · exact ranks_n b m x _ k hk h0 (by omega) h (by omega) (by show _ = _; omega) (hlt h) hO (by omega) e1.symm e0.symm w
    · obtain rfl : m = 64 := by omega
      exact ranks_nb b x _ k hk h0 (by omega) (by show _ = _; omega) (hge rfl) hO (by omega) e1.symm e0.symm w
  · by_cases hA : k < x.count true
    · obtain ⟨i, a1, a2, a3, a4⟩ := selL_in x true k (by omega) hA
      by_cases hB : k < x.count false
      · obtain ⟨j, c1, c2, c3, c4⟩ := selL_in x false k (by omega) hB
        have ht := take_count x j (by omega)
        rcases Nat.lt_or_ge m 64 with h | h
        · exact ranks_11 b m x _ k i j hk (by omega) (by omega) h (by omega) (by show _ = _; omega) (hlt h) hO (by omega) a3.symm a4.symm a1.symm (by simpa using hA) (by omega) c3.symm (by show _ = _; rw [Int.toNat_natCast]; omega) c1.symm (by simp; omega) (by omega) (by omega) w
        · obtain rfl : m = 64 := by omega
          exact ranks_11b b x _ k i j hk (by omega) (by omega) (by show _ = _; omega) (hge rfl) hO (by omega) a3.symm a4.symm a1.symm (by simpa using hA) (by omega) c3.symm (by show _ = _; rw [Int.toNat_natCast]; omega) c1.symm (by simp; omega) (by omega) (by omega) w
      · have e0 := selL_out x false k (by omega)
        rcases Nat.lt_or_ge m 64 with h | h
        · exact ranks_10 b m x _ k i hk (by omega) (by omega) h (by omega) (by show _ = _; omega) (hlt h) hO (by omega) a3.symm a4.symm a1.symm (by simpa using hA) (by omega) e0.symm (by simp; omega) w
        · obtain rfl : m = 64 := by omega
          exact ranks_10b b x _ k i hk (by omega) (by omega) (by show _ = _; omega) (hge rfl) hO (by omega) a3.symm a4.symm a1.symm (by simpa using hA) (by omega) e0.symm (by simp; omega) w
    · have e1 := selL_out x true k (by omega)
      by_cases hB : k < x.count false
      · obtain ⟨j, c1, c2, c3, c4⟩ := selL_in x false k (by omega) hB
        have ht := take_count x j (by omega)
        rcases Nat.lt_or_ge m 64 with h | h
        · exact ranks_01 b m x _ k j hk (by omega) (by omega) h (by omega) (by show _ = _; omega) (hlt h) hO (by omega) e1.symm (by simp; omega) c3.symm (by show _ = _; rw [Int.toNat_natCast]; omega) c1.symm (by simp; omega) (by omega) (by omega) w
        · obtain rfl : m = 64 := by omega
          exact ranks_01b b x _ k j hk (by omega) (by omega) (by show _ = _; omega) (hge rfl) hO (by omega) e1.symm (by simp; omega) c3.symm (by show _ = _; rw [Int.toNat_natCast]; omega) c1.symm (by simp; omega) (by omega) (by omega) w
      · have e0 := selL_out x false k (by omega)
        rcases Nat.lt_or_ge m 64 with h | h
        · exact ranks_00 b m x _ k hk (by omega) (by omega) h (by omega) (by show _ = _; omega) (hlt h) hO (by omega) e1.symm (by simp; omega) e0.symm (by simp; omega) w
        · obtain rfl : m = 64 := by omega
          exact ranks_00b b x _ k hk (by omega) (by omega) (by show _ = _; omega) (hge rfl) hO (by omega) e1.symm (by simp; omega) e0.symm (by simp; omega) w
set_option maxHeartbeats 400000 in
theorem ranks_out (b n k : Int) (hn : n < 0 ∨ 64 < n) (w : World) :
    Calls Try.prog 3 #[.int .u64 b, .int .i64 n, .int .i64 k] w fun e w' => e = .returned (.bool true) ∧ Below w.heap.size w w' := by
  by_cases h : n < 0
  · have d1 : decide (n < 0) = true := by simpa using h
    go_enter Try.func3, Try.ntmps3
    go_wp2_with fail
    refine calls_gen fun V1 hV_V1 => ?_
    have n_b : Below w.heap.size w V1 := by rw [hV_V1]; (repeat' first | assumption | exact Below.refl _ _ | refine Below.alloc ?_ (by first | exact Nat.le_refl _ | omega | (simp only [siz_alloc, siz_set]; omega)) _ | refine Below.setCell ?_ (by first | exact Nat.le_refl _ | omega | (simp only [siz_alloc, siz_set]; omega)) _ | refine below_drewN ?_ _ | refine Below.drew ?_)
    clear hV_V1
    refine (alive_true _).mono ?_
    rintro e_W1 W1 ⟨rfl, hb_W1⟩
    have b1 := below_step n_b hb_W1; clear n_b
    have z_W1 := b1.size
    clear hb_W1
    go_wp2
    go_ret
    exact ⟨rfl, b1⟩
  · have d1 : decide (n < 0) = false := by simp; omega
    have d2 : decide ((64 : Int) < n) = true := by simp; omega
    go_enter Try.func3, Try.ntmps3
    go_wp2_with fail
    refine calls_gen fun V1 hV_V1 => ?_
    have n_b : Below w.heap.size w V1 := by rw [hV_V1]; (repeat' first | assumption | exact Below.refl _ _ | refine Below.alloc ?_ (by first | exact Nat.le_refl _ | omega | (simp only [siz_alloc, siz_set]; omega)) _ | refine Below.setCell ?_ (by first | exact Nat.le_refl _ | omega | (simp only [siz_alloc, siz_set]; omega)) _ | refine below_drewN ?_ _ | refine Below.drew ?_)
    clear hV_V1
    refine (alive_true _).mono ?_
    rintro e_W1 W1 ⟨rfl, hb_W1⟩
    have b1 := below_step n_b hb_W1; clear n_b
    have z_W1 := b1.size
    clear hb_W1
    go_wp2
    go_ret
    exact ⟨rfl, b1⟩
theorem ranks_walk (b n k : Int) (hb : (Lit.int .u64 b).wf = true) (hk : (Lit.int .i64 k).wf = true) (w : World) :
    Calls Try.prog 3 #[.int .u64 b, .int .i64 n, .int .i64 k] w fun e w' => e = .returned (.bool true) ∧ Below w.heap.size w w' := by
  obtain ⟨h1, h2⟩ := wf_u64 hb
  obtain ⟨_, h4⟩ := wf_i64 hk
  by_cases hn : n < 0 ∨ 64 < n
  · exact ranks_out b n k hn w
  · obtain ⟨b, rfl⟩ := Int.eq_ofNat_of_zero_le h1
    exact ranks_any b n k (by omega) (by omega) (by omega) (by omega) w
end Go.Proofs.Ytdcgalekcciggaa
