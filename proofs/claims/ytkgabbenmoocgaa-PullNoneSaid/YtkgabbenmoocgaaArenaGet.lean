/- The arena's ways that only read. -/
import Derived.Test.YtkgabbenmoocgaaProg
import Derived.Test.YtkgabbenmoocgaaArena
namespace Go.Proofs.Ytkgabbenmoocgaa
set_option linter.unusedSimpArgs false
set_option linter.unusedVariables false
set_option linter.unnecessarySimpa false
open Go.RowKit
attribute [local go_sem ↓] Go.wp_at_zero Go.wp_at_succ
attribute [local go_sem] lt_s2 lt_s3 lt_s4
variable {ap : Value} {s : Ar} {O : Nat → Prop}
set_option maxHeartbeats 400000 in
theorem size_raw {p nb cb ub : Nat} {wv : Value} (w : World) (hA : RawS w p s nb cb ub wv O) (hs : s.size ≤ 6000) :
    Calls Try.prog 65 #[.pointer (some ⟨p, 0, none⟩)] w fun e w' => e = .returned (.int .i64 (s.size : Int)) ∧ w = w' := by
  have cp := hA.reads.cp
  go_enter Try.func65, Try.ntmps65
  go_wp2_with fail
  go_ret
  exact ⟨rfl, rfl⟩
set_option maxHeartbeats 400000 in
theorem size_nil (w : World) :
    Calls Try.prog 65 #[.pointer none] w fun e w' => e = .returned (.int .i64 0) ∧ w = w' := by
  go_enter Try.func65, Try.ntmps65
  go_wp2_with fail
  go_ret
  exact ⟨rfl, rfl⟩
theorem size_calls (w : World) (hA : AP w ap s O) :
    Calls Try.prog 65 #[ap] w fun e w' => e = .returned (.int .i64 (s.size : Int)) ∧ w = w' := by
  rcases hA.2 with ⟨rfl, rfl, _⟩ | ⟨p, nb, cb, ub, wv, rfl, h⟩
  · exact size_nil w
  · exact size_raw w h hA.1.small
set_option maxHeartbeats 400000 in
theorem count_in (h : Nat) (h1 : 1 ≤ h) (h2 : h ≤ s.size) (w : World) (hA : AP w ap s O) :
    Calls Try.prog 36 #[ap, .int .i64 (h : Int)] w fun e w' => e = .returned (.int .i64 (s.count h)) ∧ w = w' := by
  obtain ⟨p, nb, cb, ub, wv, rfl, hR⟩ := hA.raw (by omega)
  have cp := hR.reads.cp
  have cc := hR.reads.cc h h2
  have hs := hA.1.small
  have d1 : decide ((h : Int) < 1) = false := by simp; omega
  have d2 : decide ((s.size : Int) < (h : Int)) = false := by simp; omega
  clear hR
  go_enter Try.func36, Try.ntmps36
  go_wp2_with fail
  refine (size_calls _ hA).mono ?_
  rintro e w1 ⟨rfl, rfl⟩
  go_wp2_with fail
  go_ret
  exact ⟨rfl, rfl⟩
set_option maxHeartbeats 400000 in
theorem count_out (h : Int) (ho : h < 1 ∨ s.size < h) (w : World) (hA : AP w ap s O) :
    Calls Try.prog 36 #[ap, .int .i64 h] w fun e w' => e = .returned (.int .i64 0) ∧ w = w' := by
  by_cases h1 : h < 1
  · have d1 : decide (h < 1) = true := by simpa using h1
    go_enter Try.func36, Try.ntmps36
    go_wp2_with fail
    go_ret
    exact ⟨rfl, rfl⟩
  · have d1 : decide (h < 1) = false := by simp; omega
    have d2 : decide ((s.size : Int) < h) = true := by simp; omega
    go_enter Try.func36, Try.ntmps36
    go_wp2_with fail
    refine (size_calls _ hA).mono ?_
    rintro e w1 ⟨rfl, rfl⟩
    go_wp2_with fail
    go_ret
    exact ⟨rfl, rfl⟩
theorem count_calls (h : Int) (w : World) (hA : AP w ap s O) :
    Calls Try.prog 36 #[ap, .int .i64 h] w fun e w' => e = .returned (.int .i64 (s.cnt h)) ∧ w = w' := by
  unfold Ar.cnt
  by_cases hh : 1 ≤ h ∧ h ≤ s.size
  · obtain ⟨n, rfl⟩ := Int.eq_ofNat_of_zero_le (show 0 ≤ h by omega)
    rw [if_pos hh]; exact count_in n (by omega) (by omega) w hA
  · rw [if_neg hh]; exact count_out h (by omega) w hA
set_option maxHeartbeats 400000 in
theorem aget_yes (h : Nat) (h1 : 1 ≤ h) (h2 : h ≤ s.size) (hu : s.used h = true) (w : World) (hA : AP w ap s O) :
    Calls Try.prog 66 #[ap, .int .i64 (h : Int)] w fun e w' => e = .returned (.tuple #[(s.node h).val, .bool true]) ∧ Below w.heap.size w w' := by
  obtain ⟨p, nb, cb, ub, wv, rfl, hR⟩ := hA.raw (by omega)
  have d1 : decide ((h : Int) < 1) = false := by simp; omega
  have d2 : decide ((s.size : Int) < (h : Int)) = false := by simp; omega
  have d3 : (h : Int) < (s.size : Int) + 1 := by omega
  have d4 : (0 : Int) ≤ (h : Int) := by omega
  have hs := hA.1.small
  go_enter Try.func66, Try.ntmps66
  go_wp2_with fail
  refine (size_calls _ (hA.alloc _)).mono ?_
  rintro e w1 ⟨rfl, rfl⟩
  obtain ⟨cp, -, cu, n0, n1, n2, n3, n4, n5, n6⟩ := hR.reads
  have cu := cu h h2
  rw [hu] at cu
  have n0 := n0 h h2; have n1 := n1 h h2; have n2 := n2 h h2; have n3 := n3 h h2; have n4 := n4 h h2; have n5 := n5 h h2; have n6 := n6 h h2
  have l1 := lt_of hR.hp; have l2 := lt_of hR.hn; have l3 := lt_of hR.hu
  clear hR hA
  go_wp2_with fail
  refine bodyPost_ret (v := .tuple #[(s.node h).val, .bool true]) (by simp [results, Try.results66, go_sem, Nd.val]) rfl ⟨rfl, ?_⟩
  (repeat' first | with_reducible assumption | with_reducible exact Below.refl _ _ | with_reducible refine Below.alloc ?_ ?_ _ | with_reducible refine Below.setCell ?_ ?_ _ | with_reducible refine below_drewN ?_ _ | with_reducible refine Below.drew ?_ | exact Nat.le_refl _ | ((try dsimp only); omega) | (simp only [siz_alloc, siz_set]; omega))
set_option maxHeartbeats 400000 in
theorem aget_no (h : Int) (ho : h < 1 ∨ s.size < h ∨ s.used h.toNat = false) (w : World) (hA : AP w ap s O) :
    Calls Try.prog 66 #[ap, .int .i64 h] w fun e w' => e = .returned (.tuple #[Nd.zero.val, .bool false]) ∧ Below w.heap.size w w' := by
  by_cases h1 : h < 1
  · have d1 : decide (h < 1) = true := by simpa using h1
    go_enter Try.func66, Try.ntmps66
    go_wp2_with fail
    refine bodyPost_ret (v := .tuple #[Nd.zero.val, .bool false]) (by simp [results, Try.results66, go_sem, Nd.val, Nd.zero]) rfl ⟨rfl, ?_⟩
    (repeat' first | with_reducible assumption | with_reducible exact Below.refl _ _ | with_reducible refine Below.alloc ?_ ?_ _ | with_reducible refine Below.setCell ?_ ?_ _ | with_reducible refine below_drewN ?_ _ | with_reducible refine Below.drew ?_ | exact Nat.le_refl _ | ((try dsimp only); omega) | (simp only [siz_alloc, siz_set]; omega))
  · have d1 : decide (h < 1) = false := by simp; omega
    by_cases h2 : s.size < h
    · have d2 : decide ((s.size : Int) < h) = true := by simp; omega
      go_enter Try.func66, Try.ntmps66
      go_wp2_with fail
      refine (size_calls _ (hA.alloc _)).mono ?_
      rintro e w1 ⟨rfl, rfl⟩
      go_wp2_with fail
      refine bodyPost_ret (v := .tuple #[Nd.zero.val, .bool false]) (by simp [results, Try.results66, go_sem, Nd.val, Nd.zero]) rfl ⟨rfl, ?_⟩
      (repeat' first | with_reducible assumption | with_reducible exact Below.refl _ _ | with_reducible refine Below.alloc ?_ ?_ _ | with_reducible refine Below.setCell ?_ ?_ _ | with_reducible refine below_drewN ?_ _ | with_reducible refine Below.drew ?_ | exact Nat.le_refl _ | ((try dsimp only); omega) | (simp only [siz_alloc, siz_set]; omega))
    · obtain ⟨h, rfl⟩ := Int.eq_ofNat_of_zero_le (show 0 ≤ h by omega)
      have hu : s.used h = false := by rcases ho with g | g | g; omega; omega; simpa using g
      obtain ⟨p, nb, cb, ub, wv, rfl, hR⟩ := hA.raw (by omega)
      have d2 : decide ((s.size : Int) < (h : Int)) = false := by simp; omega
      have d3 : (h : Int) < (s.size : Int) + 1 := by omega
      have d4 : (0 : Int) ≤ (h : Int) := by omega
      have hs := hA.1.small
      clear ho
      go_enter Try.func66, Try.ntmps66
      go_wp2_with fail
      refine (size_calls _ (hA.alloc _)).mono ?_
      rintro e w1 ⟨rfl, rfl⟩
      obtain ⟨cp, -, cu, -, -, -, -, -, -, -⟩ := hR.reads
      have cu := cu h (by omega)
      rw [hu] at cu
      have l1 := lt_of hR.hp; have l3 := lt_of hR.hu
      clear hR hA
      go_wp2_with fail
      refine bodyPost_ret (v := .tuple #[Nd.zero.val, .bool false]) (by simp [results, Try.results66, go_sem, Nd.val, Nd.zero]) rfl ⟨rfl, ?_⟩
      (repeat' first | with_reducible assumption | with_reducible exact Below.refl _ _ | with_reducible refine Below.alloc ?_ ?_ _ | with_reducible refine Below.setCell ?_ ?_ _ | with_reducible refine below_drewN ?_ _ | with_reducible refine Below.drew ?_ | exact Nat.le_refl _ | ((try dsimp only); omega) | (simp only [siz_alloc, siz_set]; omega))
theorem aget_calls (h : Int) (w : World) (hA : AP w ap s O) :
    Calls Try.prog 66 #[ap, .int .i64 h] w fun e w' => e = .returned (.tuple #[(s.get h).val, .bool (s.has h)]) ∧ Below w.heap.size w w' := by
  by_cases hh : s.has h = true
  · have h3 := hh
    unfold Ar.has at h3
    simp only [Bool.and_eq_true, decide_eq_true_eq] at h3
    obtain ⟨n, rfl⟩ := Int.eq_ofNat_of_zero_le (show 0 ≤ h by omega)
    unfold Ar.get; rw [if_pos hh, hh]; exact aget_yes n (by omega) (by omega) h3.2.2 w hA
  · unfold Ar.get; rw [if_neg hh, Bool.eq_false_iff.2 hh]
    refine aget_no h ?_ w hA
    unfold Ar.has at hh
    simp only [Bool.and_eq_true, decide_eq_true_eq, not_and, Bool.not_eq_true] at hh
    by_cases h1 : 1 ≤ h
    · by_cases h2 : h ≤ s.size
      · exact .inr (.inr (hh h1 h2))
      · omega
    · omega
set_option maxHeartbeats 400000 in
theorem pending_calls (w : World) (hA : AP w ap s O) :
    Calls Try.prog 63 #[ap] w fun e w' => e = .returned (.int .i64 (s.wait.length : Int)) ∧ w = w' := by
  rcases hA.2 with ⟨rfl, rfl, _⟩ | ⟨p, nb, cb, ub, wv, rfl, h⟩
  · go_enter Try.func63, Try.ntmps63
    go_wp2_with fail
    go_ret
    exact ⟨rfl, rfl⟩
  · have cp := RawS.reads h |>.cp
    rcases h.hw with ⟨rfl, hl⟩ | ⟨g, off, cap, c, rfl, _⟩
    · have hl : s.wait.length = 0 := by rw [hl]; rfl
      have hl := Lib.hid hl
      clear h hA
      go_enter Try.func63, Try.ntmps63
      go_wp2_with fail
      go_ret
      exact ⟨by rw [hl.out]; rfl, rfl⟩
    · clear h hA
      go_enter Try.func63, Try.ntmps63
      go_wp2_with fail
      go_ret
      exact ⟨rfl, rfl⟩
end Go.Proofs.Ytkgabbenmoocgaa
