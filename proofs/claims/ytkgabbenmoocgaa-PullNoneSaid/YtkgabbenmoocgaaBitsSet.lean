/- Rows of bits in an arena: a row with a bit more. -/
import Derived.Test.YtkgabbenmoocgaaInsert
namespace Go.Proofs.Ytkgabbenmoocgaa
set_option linter.unusedSimpArgs false
set_option linter.unusedVariables false
set_option linter.unnecessarySimpa false
open Go.RowKit
attribute [local go_sem ↓] Go.wp_at_zero Go.wp_at_succ
attribute [local go_sem] lt_s2 lt_s3 lt_s4
variable {ap : Value} {O : Nat → Prop} {s : Ar}
theorem AP.ptr {w : World} (h : AP w ap s O) : ∃ q, ap = .pointer q := by
  rcases h.2 with ⟨h, _⟩ | ⟨p, _, _, _, _, h, _⟩
  · exact ⟨_, h⟩
  · exact ⟨_, h⟩
set_option maxRecDepth 100000 in
set_option maxHeartbeats 2000000 in
theorem bInsert_calls (h i : Int) (one : Bool) (r : Int × Int × Ar) (hr : bInsert s h i one = some r) (w : World) (hA : AP w ap s O) :
    Calls Try.prog 29 #[ap, .int .i64 h, .int .i64 i, .bool one] w fun e w' => e = .returned (.tuple #[.int .i64 r.1, .int .i64 r.2.1]) ∧ Did noX ap r.2.2 O w w' := by
  obtain ⟨q, rfl⟩ := hA.ptr
  unfold bInsert at hr
  by_cases h1 : i < 0
  · have d1 : decide (i < 0) = true := by simpa using h1
    rw [if_pos (.inl h1)] at hr
    obtain rfl := Option.some.inj hr
    clear hr h1
    go_enter Try.func29, Try.ntmps29
    go_wp2_with fail
    go_ret2
    exact ⟨rfl, O, hA, Fr.refl _ _ _⟩
  · have d1 : decide (i < 0) = false := by simpa using h1
    by_cases h2 : bLen s h < i
    · have d2 : decide (bLen s h < i) = true := by simpa using h2
      rw [if_pos (.inr h2)] at hr
      obtain rfl := Option.some.inj hr
      clear hr h1 h2
      go_enter Try.func29, Try.ntmps29
      go_wp2_with fail
      refine calls_gen fun V hV_V => ?_
      have n_F : Fr (noX) O O w V := nF hV_V
      have n_A : AP V (.pointer q) s O := nA hV_V
      have z_V := Nat.le_of_eq (congrArg (fun v : World => v.heap.size) hV_V).symm
      try simp only [SZ] at z_V
      clear hV_V
      clear hA
      have hA := n_A
      clear n_A
      skip
      have hF := n_F
      clear n_F
      refine (bLen_calls _ _ hA).mono ?_
      rintro e_W1 W1 ⟨rfl, hb_W1⟩
      replace hA := hA.below hb_W1
      replace hF := hF.below hb_W1
      have z_W1 := hb_W1.size
      clear hb_W1
      go_wp2_with fail
      go_ret2
      exact ⟨rfl, O, hA, hF⟩
    · have d2 : decide (bLen s h < i) = false := by simpa using h2
      rw [if_neg (by omega)] at hr
      obtain ⟨u, hu, rfl⟩ := Option.map_eq_some_iff.1 hr
      have Hu := Lib.hid hu
      clear hr hu h1 h2
      go_enter Try.func29, Try.ntmps29
      go_wp2_with fail
      refine calls_gen fun V hV_V => ?_
      have n_F : Fr (noX) O O w V := nF hV_V
      have n_A : AP V (.pointer q) s O := nA hV_V
      have z_V := Nat.le_of_eq (congrArg (fun v : World => v.heap.size) hV_V).symm
      try simp only [SZ] at z_V
      clear hV_V
      clear hA
      have hA := n_A
      clear n_A
      skip
      have hF := n_F
      clear n_F
      refine (bLen_calls _ _ hA).mono ?_
      rintro e_W1 W1 ⟨rfl, hb_W1⟩
      replace hA := hA.below hb_W1
      replace hF := hF.below hb_W1
      have z_W1 := hb_W1.size
      clear hb_W1
      go_wp2_with fail
      refine calls_gen fun V1 hV_V1 => ?_
      have n_kt := congrArg (fun v : World => v.heap[W1.heap.size]?) hV_V1
      simp (maxDischargeDepth := 9) only [BK, not_false_eq_true, reduceCtorEq] at n_kt
      have o_kt : ¬ O (W1.heap.size) := by first | exact hA.new (Nat.le_refl _) | exact hA.new (by omega)
      have n_F : Fr (noX) O O w V1 := nF hV_V1
      have n_A : AP V1 (.pointer q) s O := nA hV_V1
      have z_V1 := Nat.le_of_eq (congrArg (fun v : World => v.heap.size) hV_V1).symm
      try simp only [SZ] at z_V1
      clear hV_V1
      clear hA
      have hA := n_A
      clear n_A
      clear hF
      have hF := n_F
      clear n_F
      have kt := n_kt; clear n_kt
      have c_kt := cells_of kt
      have f_kt := free_of kt
      have l_kt_V1 := lt_of kt
      refine (tInsert_calls one rounds ⟨s, 0⟩ _ _ _ _ _ Hu.out ⟨hA, kt, o_kt⟩).mono ?_
      rintro e_W2 W2 ⟨rfl, O1, hT_W2, hf_W2⟩
      clear kt c_kt f_kt o_kt; have kt := hT_W2.blk; have o_kt := hT_W2.no
      have c_kt := cells_of kt
      have f_kt := free_of kt
      have l_kt_W2 := lt_of kt
      replace hF := hF.trans_new hf_W2 (by omega)
      have z_W2 := hf_W2.size
      clear hA hf_W2; have hA := hT_W2.hA; clear hT_W2
      go_wp2_with fail
      refine calls_gen fun V2 hV_V2 => ?_
      have n_kt := congrArg (fun v : World => v.heap[W1.heap.size]?) hV_V2
      simp (maxDischargeDepth := 9) only [BK, not_false_eq_true, reduceCtorEq, kt, l_kt_V1, l_kt_W2] at n_kt
      have n_F : Fr (noX) O O1 w V2 := nF hV_V2
      have n_A : AP V2 (.pointer q) (u.2).s O1 := nA hV_V2
      have z_V2 := Nat.le_of_eq (congrArg (fun v : World => v.heap.size) hV_V2).symm
      try simp only [SZ] at z_V2
      clear kt c_kt f_kt
      clear hV_V2
      clear hA
      have hA := n_A
      clear n_A
      clear hF
      have hF := n_F
      clear n_F
      have kt := n_kt; clear n_kt
      have c_kt := cells_of kt
      have f_kt := free_of kt
      have l_kt_V2 := lt_of kt
      refine (tTold_calls (t := u.2) u.1 _ ⟨hA, kt, o_kt⟩).mono ?_
      rintro e_W3 W3 ⟨rfl, O2, hT_W3, hf_W3⟩
      clear kt c_kt f_kt o_kt; have kt := hT_W3.blk; have o_kt := hT_W3.no
      have c_kt := cells_of kt
      have f_kt := free_of kt
      have l_kt_W3 := lt_of kt
      replace hF := hF.trans_new hf_W3 (by omega)
      have z_W3 := hf_W3.size
      clear hA hf_W3; have hA := hT_W3.hA; clear hT_W3
      go_wp2_with fail
      go_ret2
      refine ⟨rfl, O2, ?_, hF⟩
      have e : (Tb.told u).2.2 = u.2.s := by unfold Tb.told; split <;> rfl
      rw [e]; exact hA
end Go.Proofs.Ytkgabbenmoocgaa
