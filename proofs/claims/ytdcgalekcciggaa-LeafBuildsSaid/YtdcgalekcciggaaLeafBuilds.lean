/- LeafBuilds: walked. -/
import Derived.Test.YtdcgalekcciggaaLeafPack
namespace Go.Proofs.Ytdcgalekcciggaa
set_option linter.unusedSimpArgs false
set_option linter.unusedVariables false
set_option linter.unnecessarySimpa false
open Go.RowKit
attribute [local go_sem ↓] Go.wp_at_zero Go.wp_at_succ
attribute [local go_sem] lt_s2 lt_s3 lt_s4 lt_s5 lt_s6 ne_s2 ne_t2 ne_s3 ne_t3 ne_s4 ne_t4
theorem insL_end (l : List Bool) (k : Nat) (hk : k < l.length) : l.take (k + 1) = insL (l.take k) k (l.getD k false) := by
  have hl : (l.take k).length = k := by simp; omega
  have e1 : (l.take k).take k = l.take k := List.take_of_length_le (by omega)
  have e2 : (l.take k).drop k = [] := List.drop_of_length_le (by omega)
  rw [insL, e1, e2, List.take_succ_eq_append_getElem hk]
  simp [List.getD_eq_getElem?_getD, hk]
set_option maxHeartbeats 1000000 in
theorem builds_long (A : Option Addr) (n c : Nat) (hn : 64 < n) (w : World) :
    Calls Try.prog 8 #[.slice A n c] w fun e w' => e = .returned (.bool true) ∧ Below w.heap.size w w' := by
  have d1 : decide ((64 : Int) < (n : Int)) = true := by simp; omega
  go_enter Try.func8, Try.ntmps8
  go_wp2_with fail
  refine calls_gen fun V1 hV_V1 => ?_
  have n_b : Below w.heap.size w V1 := by rw [hV_V1]; (repeat' first | assumption | exact Below.refl _ _ | refine Below.alloc ?_ (by first | exact Nat.le_refl _ | omega | (simp only [siz_alloc, siz_set]; omega)) _ | refine Below.setCell ?_ (by first | exact Nat.le_refl _ | omega | (simp only [siz_alloc, siz_set]; omega)) _ | refine below_drewN ?_ _ | refine Below.drew ?_)
  clear hV_V1
  refine (alive_true _).mono ?_
  rintro e_W1 W1 ⟨rfl, hb_W1⟩
  have b1 := below_step n_b hb_W1; clear n_b
  have z_W1 := b1.size
  clear hb_W1
  go_wp2
  go_ret
  refine ⟨rfl, ?_⟩
  (repeat' first | assumption | exact Below.refl _ _ | refine Below.alloc ?_ (by first | exact Nat.le_refl _ | omega | (simp only [siz_alloc, siz_set]; omega)) _ | refine Below.setCell ?_ (by first | exact Nat.le_refl _ | omega | (simp only [siz_alloc, siz_set]; omega)) _ | refine below_drewN ?_ _ | refine Below.drew ?_)
set_option maxHeartbeats 1000000 in
theorem builds_short (A : Option Addr) (n c : Nat) (l : List Bool) (hl : l.length = n) (hn : n ≤ 64) (w : World) (hr : Rd w A n (l.map .bool)) :
    Calls Try.prog 8 #[.slice A n c] w fun e w' => e = .returned (.bool true) ∧ Below w.heap.size w w' := by
  have d1 : decide ((64 : Int) < (n : Int)) = false := by simp; omega
  have HL := Lib.hid hl
  clear hl
  go_enter Try.func8, Try.ntmps8
  go_wp2_with fail
  refine calls_gen fun V1 hV_V1 => ?_
  have n_b : Below w.heap.size w V1 := by rw [hV_V1]; (repeat' first | assumption | exact Below.refl _ _ | refine Below.alloc ?_ (by first | exact Nat.le_refl _ | omega | (simp only [siz_alloc, siz_set]; omega)) _ | refine Below.setCell ?_ (by first | exact Nat.le_refl _ | omega | (simp only [siz_alloc, siz_set]; omega)) _ | refine below_drewN ?_ _ | refine Below.drew ?_)
  clear hV_V1
  refine (alive_true _).mono ?_
  rintro e_W1 W1 ⟨rfl, hb_W1⟩
  have b1 := below_step n_b hb_W1; clear n_b
  have z_W1 := b1.size
  clear hb_W1
  go_wp2_with fail
  go_loopw [23] (fun j wr => ∃ k : Nat, k ≤ n ∧ j = .int .i64 (k : Int) ∧ wr.heap[W1.heap.size]? = some (.cells #[.int .u64 (pack (l.take k) : Int), .int .i64 (k : Int)] 25 (0, 0)) ∧ Below w.heap.size w wr) (fun j _ => n - (intOf j).toNat)
  case atStart => exact ⟨0, Nat.zero_le _, rfl, by simp only [blk_new, blk_old, blk_far, lt_succ_of, ne_of_lt1, ne_of_lt2, blk_set, blk_drew, blk_drewN, siz_alloc, siz_set, setAt_cells, Option.map_some, List.setIfInBounds_toArray, List.set_cons_zero, List.set_cons_succ, List.set_nil, ne_eq, not_false_eq_true, Nat.lt_add_one, Nat.add_right_cancel_iff, Nat.add_left_cancel_iff, lt_s2, ne_s2, ne_t2, lt_s3, ne_s3, ne_t3, lt_s4, ne_s4, ne_t4, lt_s5, ne_s5, ne_t5, lt_s6, ne_s6, ne_t6, lt_s7, ne_s7, ne_t7, lt_s8, ne_s8, ne_t8, Nat.succ_ne_self, Nat.lt_irrefl, reduceCtorEq]; rfl, by (repeat' first | assumption | exact Below.refl _ _ | refine Below.alloc ?_ (by first | exact Nat.le_refl _ | omega | (simp only [siz_alloc, siz_set]; omega)) _ | refine Below.setCell ?_ (by first | exact Nat.le_refl _ | omega | (simp only [siz_alloc, siz_set]; omega)) _ | refine below_drewN ?_ _ | refine Below.drew ?_)⟩
  case round =>
    obtain ⟨k, hk, rfl, k0, hw⟩ := hrel
    have c_k0 := cells_of k0
    have f_k0 := free_of k0
    have l_k0_wr := lt_of k0
    have z_wr := hw.size
    have hr' := hr.below hw
    by_cases hlt : k < n
    · obtain ⟨ad, rfl, hcell⟩ := hr'.at_ hlt
      have hcell := hcell _ (get_map l k (by rw [HL.out]; exact hlt))
      have HI := Lib.hid (insL_end l k (by rw [HL.out]; exact hlt))
      have HN : Hid ((l.take (k + 1)).length = k + 1) := by show _ = _; rw [List.length_take, HL.out]; omega
      have HM : Hid ((l.take k).length = k) := by show _ = _; rw [List.length_take, HL.out]; omega
      obtain ⟨x, hx⟩ : ∃ x, x = l.take k := ⟨_, rfl⟩
      obtain ⟨y, hy⟩ : ∃ y, y = l.take (k + 1) := ⟨_, rfl⟩
      rw [← hx] at HM HI k0 c_k0
      rw [← hy] at HN HI
      have HX := Lib.hid hx; have HY := Lib.hid hy
      clear hx hy
      have d2 : ((y.length : Int) != (k : Int) + 1) = false := by rw [HN.out]; simp
      generalize l.getD k false = β at hcell HI
      have b0 := hw
      go_wp2_with fail
      refine calls_gen fun V2 hV_V2 => ?_
      have n_k0 := congrArg (fun v : World => v.heap[W1.heap.size]?) hV_V2
      simp (maxDischargeDepth := 9) only [blk_new, blk_old, blk_far, lt_succ_of, ne_of_lt1, ne_of_lt2, blk_set, blk_drew, blk_drewN, siz_alloc, siz_set, setAt_cells, Option.map_some, List.setIfInBounds_toArray, List.set_cons_zero, List.set_cons_succ, List.set_nil, ne_eq, not_false_eq_true, Nat.lt_add_one, Nat.add_right_cancel_iff, Nat.add_left_cancel_iff, lt_s2, ne_s2, ne_t2, lt_s3, ne_s3, ne_t3, lt_s4, ne_s4, ne_t4, lt_s5, ne_s5, ne_t5, lt_s6, ne_s6, ne_t6, lt_s7, ne_s7, ne_t7, lt_s8, ne_s8, ne_t8, Nat.succ_ne_self, Nat.lt_irrefl, reduceCtorEq, k0, l_k0_wr] at n_k0
      have n_b : Below w.heap.size w V2 := by rw [hV_V2]; (repeat' first | assumption | exact Below.refl _ _ | refine Below.alloc ?_ (by first | exact Nat.le_refl _ | omega | (simp only [siz_alloc, siz_set]; omega)) _ | refine Below.setCell ?_ (by first | exact Nat.le_refl _ | omega | (simp only [siz_alloc, siz_set]; omega)) _ | refine below_drewN ?_ _ | refine Below.drew ?_)
      clear k0 c_k0 f_k0
      have k0 := n_k0; clear n_k0
      clear hV_V2
      refine (insert_at x y _ β (by omega) (by rw [HM.out]; exact Int.le_refl _) (by rw [HM.out]; omega) _ _ rfl (by rw [HM.out]) (by rw [HI.out]; simp) _).mono ?_
      rintro e_W2 W2 ⟨rfl, hb_W2⟩
      have b0 := below_step n_b hb_W2; clear n_b
      replace k0 := keep_blk hb_W2 k0
      have c_k0 := cells_of k0
      have f_k0 := free_of k0
      have l_k0_W2 := lt_of k0
      have z_W2 := b0.size
      clear hb_W2
      go_wp2_with fail
      go_roundw
      case rel => exact ⟨k + 1, by omega, by go_num, by simp only [blk_new, blk_old, blk_far, lt_succ_of, ne_of_lt1, ne_of_lt2, blk_set, blk_drew, blk_drewN, siz_alloc, siz_set, setAt_cells, Option.map_some, List.setIfInBounds_toArray, List.set_cons_zero, List.set_cons_succ, List.set_nil, ne_eq, not_false_eq_true, Nat.lt_add_one, Nat.add_right_cancel_iff, Nat.add_left_cancel_iff, lt_s2, ne_s2, ne_t2, lt_s3, ne_s3, ne_t3, lt_s4, ne_s4, ne_t4, lt_s5, ne_s5, ne_t5, lt_s6, ne_s6, ne_t6, lt_s7, ne_s7, ne_t7, lt_s8, ne_s8, ne_t8, Nat.succ_ne_self, Nat.lt_irrefl, reduceCtorEq, k0, l_k0_W2]; rw [← HY.out, HN.out], by (repeat' first | assumption | exact Below.refl _ _ | refine Below.alloc ?_ (by first | exact Nat.le_refl _ | omega | (simp only [siz_alloc, siz_set]; omega)) _ | refine Below.setCell ?_ (by first | exact Nat.le_refl _ | omega | (simp only [siz_alloc, siz_set]; omega)) _ | refine below_drewN ?_ _ | refine Below.drew ?_)⟩
      case measure => simp [intOf]; omega
    · obtain rfl : k = n := by omega
      have ht : l.take k = l := List.take_of_length_le (by rw [HL.out]; exact Nat.le_refl _)
      rw [ht] at k0 c_k0
      clear ht
      have b0 := hw
      go_wp2_with fail
      refine wp_gen fun V3 hV_V3 => ?_
      have n_k0 := congrArg (fun v : World => v.heap[W1.heap.size]?) hV_V3
      simp (maxDischargeDepth := 9) only [blk_new, blk_old, blk_far, lt_succ_of, ne_of_lt1, ne_of_lt2, blk_set, blk_drew, blk_drewN, siz_alloc, siz_set, setAt_cells, Option.map_some, List.setIfInBounds_toArray, List.set_cons_zero, List.set_cons_succ, List.set_nil, ne_eq, not_false_eq_true, Nat.lt_add_one, Nat.add_right_cancel_iff, Nat.add_left_cancel_iff, lt_s2, ne_s2, ne_t2, lt_s3, ne_s3, ne_t3, lt_s4, ne_s4, ne_t4, lt_s5, ne_s5, ne_t5, lt_s6, ne_s6, ne_t6, lt_s7, ne_s7, ne_t7, lt_s8, ne_s8, ne_t8, Nat.succ_ne_self, Nat.lt_irrefl, reduceCtorEq, k0, l_k0_wr] at n_k0
      have n_b : Below w.heap.size w V3 := by rw [hV_V3]; (repeat' first | assumption | exact Below.refl _ _ | refine Below.alloc ?_ (by first | exact Nat.le_refl _ | omega | (simp only [siz_alloc, siz_set]; omega)) _ | refine Below.setCell ?_ (by first | exact Nat.le_refl _ | omega | (simp only [siz_alloc, siz_set]; omega)) _ | refine below_drewN ?_ _ | refine Below.drew ?_)
      clear k0 c_k0 f_k0
      have k0 := n_k0; clear n_k0
      clear hV_V3
      have g_k0 := grown_cells k0
      refine wp_region_quiet_below (by kernel_rfl) (by kernel_rfl) ?_
      repeat (go_big_quiet_step ((go_at_call 19; with_reducible exact Calls.regrown_of (pack_calls A k c l HL.out (by omega) _ ((hr.below n_b).below (below_regrown _ _ _))))))
      refine wpQuiet_nil ?_
      intro W3 hW_W3
      have hb_W3 := below_of_regrown hW_W3
      have b0 := below_step n_b hb_W3; clear n_b hW_W3
      clear g_k0
      replace k0 := keep_blk hb_W3 k0
      have c_k0 := cells_of k0
      have f_k0 := free_of k0
      have l_k0_W3 := lt_of k0
      have z_W3 := b0.size
      clear hb_W3
      go_wp2_with fail
      go_loopw [52] (fun j wr => ∃ i : Nat, i ≤ k ∧ j = .int .i64 (i : Int) ∧ wr.heap[W1.heap.size]? = some (.cells #[.int .u64 (pack (l.drop i) : Int), .int .i64 ((l.drop i).length : Int)] 25 (0, 0)) ∧ Below w.heap.size w wr) (fun j _ => k - (intOf j).toNat)
      case atStart => exact ⟨0, Nat.zero_le _, rfl, by rw [k0, List.drop_zero, HL.out], b0⟩
      case round =>
        clear k0 c_k0 f_k0 hw hr'
        obtain ⟨i, hi, rfl, k0, hw⟩ := hrel
        have c_k0 := cells_of k0
        have f_k0 := free_of k0
        have l_k0_wr2 := lt_of k0
        have z_wr := hw.size
        have hr' := hr.below hw
        by_cases hlt : i < k
        · obtain ⟨ad, rfl, hcell⟩ := hr'.at_ hlt
          have hcell := hcell _ (get_map l i (by rw [HL.out]; exact hlt))
          obtain ⟨x, hx⟩ : ∃ x, x = l.drop i := ⟨_, rfl⟩
          obtain ⟨y, hy⟩ : ∃ y, y = l.drop (i + 1) := ⟨_, rfl⟩
          have hxl : x.length + i = k := by rw [hx, List.length_drop, HL.out]; omega
          have HE : Hid (y = x.eraseIdx (0 : Int).toNat) := by show _ = _; have e : l.drop i = l[i]'(by rw [HL.out]; exact hlt) :: l.drop (i + 1) := List.drop_eq_getElem_cons _; rw [hx, hy, e]; rfl
          have HG : Hid (l.getD i false = getL x 0) := by
            show _ = _
            rw [hx]; simp [getL, List.getD_eq_getElem?_getD]
          rw [← hx] at k0 c_k0
          have HX := Lib.hid hx; have HY := Lib.hid hy
          have hx6 : x.length ≤ 64 := by omega
          have hx0 : 0 < (x.length : Int) := by omega
          clear hx hy
          have HXL := Lib.hid hxl
          clear hxl
          generalize l.getD i false = β at hcell HG
          have b0 := hw
          go_wp2_with fail
          refine calls_gen fun V4 hV_V4 => ?_
          have n_k0 := congrArg (fun v : World => v.heap[W1.heap.size]?) hV_V4
          simp (maxDischargeDepth := 9) only [blk_new, blk_old, blk_far, lt_succ_of, ne_of_lt1, ne_of_lt2, blk_set, blk_drew, blk_drewN, siz_alloc, siz_set, setAt_cells, Option.map_some, List.setIfInBounds_toArray, List.set_cons_zero, List.set_cons_succ, List.set_nil, ne_eq, not_false_eq_true, Nat.lt_add_one, Nat.add_right_cancel_iff, Nat.add_left_cancel_iff, lt_s2, ne_s2, ne_t2, lt_s3, ne_s3, ne_t3, lt_s4, ne_s4, ne_t4, lt_s5, ne_s5, ne_t5, lt_s6, ne_s6, ne_t6, lt_s7, ne_s7, ne_t7, lt_s8, ne_s8, ne_t8, Nat.succ_ne_self, Nat.lt_irrefl, reduceCtorEq, k0, l_k0_wr2] at n_k0
          have n_b : Below w.heap.size w V4 := by rw [hV_V4]; (repeat' first | assumption | exact Below.refl _ _ | refine Below.alloc ?_ (by first | exact Nat.le_refl _ | omega | (simp only [siz_alloc, siz_set]; omega)) _ | refine Below.setCell ?_ (by first | exact Nat.le_refl _ | omega | (simp only [siz_alloc, siz_set]; omega)) _ | refine below_drewN ?_ _ | refine Below.drew ?_)
          clear k0 c_k0 f_k0
          have k0 := n_k0; clear n_k0
          clear hV_V4
          refine (get_at x hx6 _ _ _ β rfl rfl HG.out _).mono ?_
          rintro e_W4 W4 ⟨rfl, hb_W4⟩
          have b0 := below_step n_b hb_W4; clear n_b
          replace k0 := keep_blk hb_W4 k0
          have c_k0 := cells_of k0
          have f_k0 := free_of k0
          have l_k0_W4 := lt_of k0
          have z_W4 := b0.size
          clear hb_W4
          go_wp2_with fail
          refine calls_gen fun V5 hV_V5 => ?_
          have n_k0 := congrArg (fun v : World => v.heap[W1.heap.size]?) hV_V5
          simp (maxDischargeDepth := 9) only [blk_new, blk_old, blk_far, lt_succ_of, ne_of_lt1, ne_of_lt2, blk_set, blk_drew, blk_drewN, siz_alloc, siz_set, setAt_cells, Option.map_some, List.setIfInBounds_toArray, List.set_cons_zero, List.set_cons_succ, List.set_nil, ne_eq, not_false_eq_true, Nat.lt_add_one, Nat.add_right_cancel_iff, Nat.add_left_cancel_iff, lt_s2, ne_s2, ne_t2, lt_s3, ne_s3, ne_t3, lt_s4, ne_s4, ne_t4, lt_s5, ne_s5, ne_t5, lt_s6, ne_s6, ne_t6, lt_s7, ne_s7, ne_t7, lt_s8, ne_s8, ne_t8, Nat.succ_ne_self, Nat.lt_irrefl, reduceCtorEq, k0, l_k0_wr2, l_k0_W4] at n_k0
          have n_b : Below w.heap.size w V5 := by rw [hV_V5]; (repeat' first | assumption | exact Below.refl _ _ | refine Below.alloc ?_ (by first | exact Nat.le_refl _ | omega | (simp only [siz_alloc, siz_set]; omega)) _ | refine Below.setCell ?_ (by first | exact Nat.le_refl _ | omega | (simp only [siz_alloc, siz_set]; omega)) _ | refine below_drewN ?_ _ | refine Below.drew ?_)
          clear k0 c_k0 f_k0
          have k0 := n_k0; clear n_k0
          clear hV_V5
          refine (delete_at x y _ (by omega) hx0 hx6 _ _ rfl rfl HE.out _).mono ?_
          rintro e_W5 W5 ⟨rfl, hb_W5⟩
          have b0 := below_step n_b hb_W5; clear n_b
          replace k0 := keep_blk hb_W5 k0
          have c_k0 := cells_of k0
          have f_k0 := free_of k0
          have l_k0_W5 := lt_of k0
          have z_W5 := b0.size
          clear hb_W5
          go_wp2_with fail
          go_roundw
          case rel => exact ⟨i + 1, by omega, by go_num, by rw [← HY.out]; simp only [blk_new, blk_old, blk_far, lt_succ_of, ne_of_lt1, ne_of_lt2, blk_set, blk_drew, blk_drewN, siz_alloc, siz_set, setAt_cells, Option.map_some, List.setIfInBounds_toArray, List.set_cons_zero, List.set_cons_succ, List.set_nil, ne_eq, not_false_eq_true, Nat.lt_add_one, Nat.add_right_cancel_iff, Nat.add_left_cancel_iff, lt_s2, ne_s2, ne_t2, lt_s3, ne_s3, ne_t3, lt_s4, ne_s4, ne_t4, lt_s5, ne_s5, ne_t5, lt_s6, ne_s6, ne_t6, lt_s7, ne_s7, ne_t7, lt_s8, ne_s8, ne_t8, Nat.succ_ne_self, Nat.lt_irrefl, reduceCtorEq, k0, l_k0_W5], by (repeat' first | assumption | exact Below.refl _ _ | refine Below.alloc ?_ (by first | exact Nat.le_refl _ | omega | (simp only [siz_alloc, siz_set]; omega)) _ | refine Below.setCell ?_ (by first | exact Nat.le_refl _ | omega | (simp only [siz_alloc, siz_set]; omega)) _ | refine below_drewN ?_ _ | refine Below.drew ?_)⟩
          case measure => simp [intOf]; omega
        · obtain rfl : i = k := by omega
          have hd : l.drop i = [] := List.drop_of_length_le (by rw [HL.out]; exact Nat.le_refl _)
          rw [hd] at k0 c_k0
          clear hd
          go_wp2
          go_ret
          exact ⟨rfl, hw⟩
theorem builds_calls (A : Option Addr) (n c : Nat) (l : List Bool) (hl : l.length = n) (w : World) (hr : Rd w A n (l.map .bool)) :
    Calls Try.prog 8 #[.slice A n c] w fun e w' => e = .returned (.bool true) ∧ Below w.heap.size w w' := by
  rcases Nat.lt_or_ge 64 n with h | h
  · exact builds_long A n c h w
  · exact builds_short A n c l hl h w hr
end Go.Proofs.Ytdcgalekcciggaa
