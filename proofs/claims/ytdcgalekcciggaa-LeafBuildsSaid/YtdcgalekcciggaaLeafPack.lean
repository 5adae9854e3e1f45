/- The law's own pack: a row of bits as a leaf. -/
import Derived.Test.YtdcgalekcciggaaLeafBack
import Derived.Test.YtdcgalekcciggaaRows2
namespace Go.Proofs.Ytdcgalekcciggaa
set_option linter.unusedSimpArgs false
set_option linter.unusedVariables false
set_option linter.unnecessarySimpa false
open Go.RowKit
attribute [local go_sem ↓] Go.wp_at_zero Go.wp_at_succ
attribute [local go_sem] lt_s2 lt_s3 lt_s4 lt_s5 lt_s6 ne_s2 ne_t2 ne_s3 ne_t3 ne_s4 ne_t4
theorem take_snoc_true (l : List Bool) (k : Nat) (hk : k < l.length) (h64 : l.length ≤ 64) (ht : l.getD k false = true) :
    Go.bits .or .u64 (pack (l.take k) : Int) (IntKind.u64.wrap (2 ^ k)) = (pack (l.take (k + 1)) : Int) := by
  have hl : (l.take k).length = k := by simp; omega
  have e : l.take (k + 1) = l.take k ++ [true] := by
    rw [List.take_succ_eq_append_getElem hk]; simp [List.getD_eq_getElem?_getD, hk] at ht; rw [ht]
  have := or_bit (l.take k) (by rw [hl]; omega)
  rw [hl] at this
  rw [this, e]
theorem take_snoc_false (l : List Bool) (k : Nat) (hk : k < l.length) (hf : l.getD k false = false) : pack (l.take (k + 1)) = pack (l.take k) := by
  have e : l.take (k + 1) = l.take k ++ [false] := by
    rw [List.take_succ_eq_append_getElem hk]; simp [List.getD_eq_getElem?_getD, hk] at hf; rw [hf]
  rw [e, pack_snoc]; simp
theorem get_map (l : List Bool) (k : Nat) (hk : k < l.length) : (l.map Value.bool)[k]? = some (.bool (l.getD k false)) := by
  simp [List.getElem?_map, List.getElem?_eq_getElem hk, List.getD_eq_getElem?_getD]
set_option maxHeartbeats 1000000 in
theorem pack_calls (A : Option Addr) (n c : Nat) (l : List Bool) (hl : l.length = n) (hn : n ≤ 64) (w : World) (hr : Rd w A n (l.map .bool)) :
    Calls Try.prog 19 #[.slice A n c] w fun e w' => e = .returned (.agg #[.int .u64 (pack l : Int), .int .i64 (n : Int)]) ∧ Below w.heap.size w w' := by
  have HL := Lib.hid hl
  clear hl
  go_enter Try.func19, Try.ntmps19
  go_wp2_with fail
  go_loopw [11] (fun j wr => ∃ k : Nat, k ≤ n ∧ j = .int .i64 (k : Int) ∧ wr.heap[w.heap.size]? = some (.cells #[.int .u64 0, .int .i64 0] 25 (0, 0)) ∧ wr.heap[w.heap.size + 1]? = some (.cells #[.int .u64 (pack (l.take k) : Int), .int .i64 (n : Int)] 25 (0, 0)) ∧ Below w.heap.size w wr) (fun j _ => n - (intOf j).toNat)
  case atStart => exact ⟨0, Nat.zero_le _, rfl, by simp only [blk_new, blk_old, blk_far, lt_succ_of, ne_of_lt1, ne_of_lt2, blk_set, blk_drew, blk_drewN, siz_alloc, siz_set, setAt_cells, Option.map_some, List.setIfInBounds_toArray, List.set_cons_zero, List.set_cons_succ, List.set_nil, ne_eq, not_false_eq_true, Nat.lt_add_one, Nat.add_right_cancel_iff, Nat.add_left_cancel_iff, lt_s2, ne_s2, ne_t2, lt_s3, ne_s3, ne_t3, lt_s4, ne_s4, ne_t4, lt_s5, ne_s5, ne_t5, lt_s6, ne_s6, ne_t6, lt_s7, ne_s7, ne_t7, lt_s8, ne_s8, ne_t8, Nat.succ_ne_self, Nat.lt_irrefl, reduceCtorEq], by simp only [blk_new, blk_old, blk_far, lt_succ_of, ne_of_lt1, ne_of_lt2, blk_set, blk_drew, blk_drewN, siz_alloc, siz_set, setAt_cells, Option.map_some, List.setIfInBounds_toArray, List.set_cons_zero, List.set_cons_succ, List.set_nil, ne_eq, not_false_eq_true, Nat.lt_add_one, Nat.add_right_cancel_iff, Nat.add_left_cancel_iff, lt_s2, ne_s2, ne_t2, lt_s3, ne_s3, ne_t3, lt_s4, ne_s4, ne_t4, lt_s5, ne_s5, ne_t5, lt_s6, ne_s6, ne_t6, lt_s7, ne_s7, ne_t7, lt_s8, ne_s8, ne_t8, Nat.succ_ne_self, Nat.lt_irrefl, reduceCtorEq]; rfl, by (repeat' first | assumption | exact Below.refl _ _ | refine Below.alloc ?_ (by first | exact Nat.le_refl _ | omega | (simp only [siz_alloc, siz_set]; omega)) _ | refine Below.setCell ?_ (by first | exact Nat.le_refl _ | omega | (simp only [siz_alloc, siz_set]; omega)) _ | refine below_drewN ?_ _ | refine Below.drew ?_)⟩
  case round =>
    obtain ⟨k, hk, rfl, k0, k1, hw⟩ := hrel
    have c_k0 := cells_of k0; have f_k0 := free_of k0; have l_k0 := lt_of k0
    have c_k1 := cells_of k1; have f_k1 := free_of k1; have l_k1 := lt_of k1
    have hr' := hr.below hw
    by_cases hlt : k < n
    · obtain ⟨ad, rfl, hcell⟩ := hr'.at_ hlt
      have hcell := hcell _ (get_map l k (by rw [HL.out]; exact hlt))
      have hT := take_snoc_true l k (by rw [HL.out]; exact hlt) (by rw [HL.out]; exact hn)
      have hF := take_snoc_false l k (by rw [HL.out]; exact hlt)
      generalize l.getD k false = β at hcell hT hF
      have HT := Lib.hid hT; have HF := Lib.hid hF
      clear hT hF
      cases β
      · go_wp2_with fail
        go_roundw
        case rel => exact ⟨k + 1, by omega, by go_num, k0, by rw [HF.out rfl]; exact k1, hw⟩
        case measure => simp [intOf]; omega
      · go_wp2_with fail
        go_roundw
        case rel => exact ⟨k + 1, by omega, by go_num, by simp only [blk_new, blk_old, blk_far, lt_succ_of, ne_of_lt1, ne_of_lt2, blk_set, blk_drew, blk_drewN, siz_alloc, siz_set, setAt_cells, Option.map_some, List.setIfInBounds_toArray, List.set_cons_zero, List.set_cons_succ, List.set_nil, ne_eq, not_false_eq_true, Nat.lt_add_one, Nat.add_right_cancel_iff, Nat.add_left_cancel_iff, lt_s2, ne_s2, ne_t2, lt_s3, ne_s3, ne_t3, lt_s4, ne_s4, ne_t4, lt_s5, ne_s5, ne_t5, lt_s6, ne_s6, ne_t6, lt_s7, ne_s7, ne_t7, lt_s8, ne_s8, ne_t8, Nat.succ_ne_self, Nat.lt_irrefl, reduceCtorEq, k0], by rw [← HT.out rfl]; simp only [blk_new, blk_old, blk_far, lt_succ_of, ne_of_lt1, ne_of_lt2, blk_set, blk_drew, blk_drewN, siz_alloc, siz_set, setAt_cells, Option.map_some, List.setIfInBounds_toArray, List.set_cons_zero, List.set_cons_succ, List.set_nil, ne_eq, not_false_eq_true, Nat.lt_add_one, Nat.add_right_cancel_iff, Nat.add_left_cancel_iff, lt_s2, ne_s2, ne_t2, lt_s3, ne_s3, ne_t3, lt_s4, ne_s4, ne_t4, lt_s5, ne_s5, ne_t5, lt_s6, ne_s6, ne_t6, lt_s7, ne_s7, ne_t7, lt_s8, ne_s8, ne_t8, Nat.succ_ne_self, Nat.lt_irrefl, reduceCtorEq, k1], by (repeat' first | assumption | exact Below.refl _ _ | refine Below.alloc ?_ (by first | exact Nat.le_refl _ | omega | (simp only [siz_alloc, siz_set]; omega)) _ | refine Below.setCell ?_ (by first | exact Nat.le_refl _ | omega | (simp only [siz_alloc, siz_set]; omega)) _ | refine below_drewN ?_ _ | refine Below.drew ?_)⟩
        case measure => simp [intOf]; omega
    · obtain rfl : k = n := by omega
      have ht : l.take k = l := List.take_of_length_le (by rw [HL.out]; exact Nat.le_refl _)
      rw [ht] at k1 c_k1
      clear ht
      go_wp2
      refine bodyPost_ret (v := .agg #[.int .u64 (pack l : Int), .int .i64 (k : Int)]) (by simp [results, Try.results19, go_sem, *]) rfl ⟨rfl, ?_⟩
      (repeat' first | assumption | exact Below.refl _ _ | refine Below.alloc ?_ (by first | exact Nat.le_refl _ | omega | (simp only [siz_alloc, siz_set]; omega)) _ | refine Below.setCell ?_ (by first | exact Nat.le_refl _ | omega | (simp only [siz_alloc, siz_set]; omega)) _ | refine below_drewN ?_ _ | refine Below.drew ?_)
end Go.Proofs.Ytdcgalekcciggaa
