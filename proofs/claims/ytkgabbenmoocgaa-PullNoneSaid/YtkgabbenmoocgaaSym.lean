/- A symbol's bits. -/
import Derived.Test.YtkgabbenmoocgaaProg
import Derived.Test.YtkgabbenmoocgaaModelWq
import Derived.Test.YtkgabbenmoocgaaWords
namespace Go.Proofs.Ytkgabbenmoocgaa
set_option linter.unusedSimpArgs false
set_option linter.unusedVariables false
set_option linter.unnecessarySimpa false
open Go.RowKit
attribute [local go_sem ↓] Go.wp_at_zero Go.wp_at_succ
set_option maxHeartbeats 400000 in
theorem symBit_out (x l : Int) (h : x < 0 ∨ 257 ≤ x ∨ l < 0 ∨ 9 ≤ l) (w : World) : Calls Try.prog 75 #[.int .i64 x, .int .i64 l] w fun e w' => e = .returned (.bool false) ∧ w = w' := by
  by_cases h1 : x < 0
  · have d1 : decide (x < 0) = true := by simpa using h1
    go_enter Try.func75, Try.ntmps75
    go_wp2_with fail
    go_ret
    exact ⟨rfl, rfl⟩
  · have d1 : decide (x < 0) = false := by simpa using h1
    by_cases h2 : 257 ≤ x
    · have d2 : decide (257 ≤ x) = true := by simpa using h2
      go_enter Try.func75, Try.ntmps75
      go_wp2_with fail
      go_ret
      exact ⟨rfl, rfl⟩
    · have d2 : decide (257 ≤ x) = false := by simpa using h2
      by_cases h3 : l < 0
      · have d3 : decide (l < 0) = true := by simpa using h3
        go_enter Try.func75, Try.ntmps75
        go_wp2_with fail
        go_ret
        exact ⟨rfl, rfl⟩
      · have d3 : decide (l < 0) = false := by simpa using h3
        have d4 : decide (9 ≤ l) = true := by simp; omega
        go_enter Try.func75, Try.ntmps75
        go_wp2_with fail
        go_ret
        exact ⟨rfl, rfl⟩
theorem and_one_i64 (E : Int) : bits BinOp.and IntKind.i64 E 1 = E % 2 := by
  have h1 : (BitVec.ofInt 64 1).toNat = 2 ^ 1 - 1 := by decide
  have key : (BitVec.ofInt 64 E &&& BitVec.ofInt 64 1).toNat = (E % ((2 ^ 64 : Nat) : Int)).toNat % 2 ^ 1 := by
    rw [BitVec.toNat_and, BitVec.toNat_ofInt, h1, Nat.and_two_pow_sub_one_eq_mod]
  show IntKind.i64.wrap ((BitVec.ofInt 64 E &&& BitVec.ofInt 64 1).toNat : Nat) = E % 2
  rw [key, IntKind.wrap_i64]
  omega
set_option maxHeartbeats 1000000 in
theorem symBit_in (n k : Nat) (hn : n < 257) (hk : k < 9) (w : World) : Calls Try.prog 75 #[.int .i64 (n : Int), .int .i64 (k : Int)] w fun e w' => e = .returned (.bool (n.testBit (8 - k))) ∧ w = w' := by
  have d1 : decide ((n : Int) < 0) = false := by simp
  have d2 : decide (257 ≤ (n : Int)) = false := by simp; omega
  have d3 : decide ((k : Int) < 0) = false := by simp
  have d4 : decide (9 ≤ (k : Int)) = false := by simp; omega
  go_enter Try.func75, Try.ntmps75
  go_wp2_with fail
  go_ret
  refine ⟨?_, rfl⟩
  show Ending.returned (.bool (bits BinOp.and IntKind.i64 ((n : Int) / 2 ^ (8 - k)) 1 == 1)) = _
  rw [and_one_i64]
  congr 2
  rw [Nat.testBit, Nat.shiftRight_eq_div_pow, Nat.and_comm, Nat.and_one_is_mod]
  rw [show ((n : Int) / 2 ^ (8 - k)) = ((n / 2 ^ (8 - k) : Nat) : Int) by simp]
  generalize n / 2 ^ (8 - k) = m
  rcases Nat.mod_two_eq_zero_or_one m with h | h
  · rw [h, show ((m : Int) % 2) = 0 by omega]; rfl
  · rw [h, show ((m : Int) % 2) = 1 by omega]; rfl
theorem symBit_calls (x l : Int) (w : World) : Calls Try.prog 75 #[.int .i64 x, .int .i64 l] w fun e w' => e = .returned (.bool (symBit x l)) ∧ w = w' := by
  by_cases h : x < 0 ∨ 257 ≤ x ∨ l < 0 ∨ 9 ≤ l
  · have e : symBit x l = false := by
      unfold symBit
      rcases h with h | h | h | h
      · rw [show decide (0 ≤ x) = false by simpa using h]; simp
      · rw [show decide (x < 257) = false by simpa using h]; simp
      · rw [show decide (0 ≤ l) = false by simpa using h]; simp
      · rw [show decide (l < 9) = false by simpa using h]; simp
    rw [e]; exact symBit_out x l h w
  · obtain ⟨n, rfl⟩ := Int.eq_ofNat_of_zero_le (show 0 ≤ x by omega)
    obtain ⟨k, rfl⟩ := Int.eq_ofNat_of_zero_le (show 0 ≤ l by omega)
    have e : symBit n k = n.testBit (8 - k) := by
      unfold symBit
      rw [show decide ((n : Int) < 257) = true by simp; omega, show decide ((k : Int) < 9) = true by simp; omega, show (8 - (k : Int)).toNat = 8 - k by omega]
      simp
    rw [e]; exact symBit_in n k (by omega) (by omega) w
end Go.Proofs.Ytkgabbenmoocgaa
