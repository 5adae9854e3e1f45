/- Walks: small whole numbers as floats; a step; where a walk goes. -/
import Derived.Test.YtkgabbenmoocgaaLoops
import Derived.Test.YtkgabbenmoocgaaModelPull
import Derived.Test.YtkgabbenmoocgaaArenaGet
namespace Go.Proofs.Ytkgabbenmoocgaa
set_option linter.unusedSimpArgs false
set_option linter.unusedVariables false
set_option linter.unnecessarySimpa false
open Go.RowKit
attribute [local go_sem ↓] Go.wp_at_zero Go.wp_at_succ
/-- A whole number as a float. -/
def zb (i : Int) : Nat := FloatKind.f64.nearest i
theorem zb_all (P : Int → Bool) (h : (List.range 100).all (fun i => P ((i : Int) - 50)) = true) (i : Int) (h1 : -50 ≤ i) (h2 : i < 50) : P i = true := by
  rw [List.all_eq_true] at h
  have := h (i + 50).toNat (List.mem_range.2 (by omega))
  rw [show (((i + 50).toNat : Nat) : Int) - 50 = i by omega] at this
  exact this
theorem zb_add1 (i : Int) (h1 : -50 ≤ i) (h2 : i < 50) : FloatKind.f64.format.add (zb i) (zb 1) = some (zb (i + 1)) := by
  have := zb_all (fun i => FloatKind.f64.format.add (zb i) (zb 1) == some (zb (i + 1))) (by decide +kernel) i h1 h2
  simpa using this
theorem zb_addm (i : Int) (h1 : -50 ≤ i) (h2 : i < 50) : FloatKind.f64.format.add (zb i) (zb (-1)) = some (zb (i - 1)) := by
  have := zb_all (fun i => FloatKind.f64.format.add (zb i) (zb (-1)) == some (zb (i - 1))) (by decide +kernel) i h1 h2
  simpa using this
theorem zb_add0 (i : Int) (h1 : -50 ≤ i) (h2 : i < 50) : FloatKind.f64.format.add (zb i) (zb 0) = some (zb i) := by
  have := zb_all (fun i => FloatKind.f64.format.add (zb i) (zb 0) == some (zb i)) (by decide +kernel) i h1 h2
  simpa using this
theorem zb_eq0 (i : Int) (h1 : -50 ≤ i) (h2 : i < 50) : (FloatKind.f64.format.order (zb i) 0 == some .eq) = decide (i = 0) := by
  have := zb_all (fun i => (FloatKind.f64.format.order (zb i) 0 == some .eq) == decide (i = 0)) (by decide +kernel) i h1 h2
  simpa using this
theorem zb_zero : zb 0 = 0 := by decide +kernel
theorem run_real (a b : Nat) (w : World) : (Builtin.real_ #[34] 80 #[.complex .f64 a b]).run Try.prog w = .ok (.float .f64 a) w := by kernel_rfl
theorem run_imag (a b : Nat) (w : World) : (Builtin.imag_ #[34] 80 #[.complex .f64 a b]).run Try.prog w = .ok (.float .f64 b) w := by kernel_rfl
theorem run_cplx (a b : Nat) (w : World) : (Builtin.complex_ #[80, 80] 34 #[.float .f64 a, .float .f64 b]).run Try.prog w = .ok (.complex .f64 a b) w := by kernel_rfl
theorem run_feq (a b : Nat) (w : World) : (binOp BinOp.eql 80 (.float .f64 a) (.float .f64 b)).run Try.prog w = .ok (.bool (FloatKind.f64.format.order a b == some .eq)) w := by kernel_rfl
theorem run_neg1 (w : World) : (Op.unary UnOp.neg (.float .f64 4607182418800017408)).run Try.prog w = .ok (.float .f64 13830554455654793216) w := by kernel_rfl
theorem run_neg0 (w : World) : (Op.unary UnOp.neg (.float .f64 0)).run Try.prog w = .ok (.float .f64 9223372036854775808) w := by kernel_rfl
attribute [local go_sem] run_real run_imag run_cplx run_feq run_neg1 run_neg0
theorem and_three (b : UInt8) : bits BinOp.and IntKind.i64 (b.toNat : Int) 3 = ((b.toNat % 4 : Nat) : Int) := by
  have h : (List.range 256).all (fun n => bits BinOp.and IntKind.i64 (n : Int) 3 == ((n % 4 : Nat) : Int)) = true := by decide +kernel
  rw [List.all_eq_true] at h
  have := h b.toNat (List.mem_range.2 b.toNat_lt)
  simpa using this
set_option maxHeartbeats 400000 in
theorem plain_calls (f : Nat) (w : World) : Calls Try.prog 104 #[.float .f64 f] w fun e w' => e = .returned (.float .f64 (if FloatKind.f64.format.order f 0 = some .eq then 0 else f)) ∧ w = w' := by
  by_cases h : FloatKind.f64.format.order f 0 = some .eq
  · rw [if_pos h]
    go_enter Try.func104, Try.ntmps104
    go_wp2_with fail
    go_ret
    exact ⟨rfl, rfl⟩
  · rw [if_neg h]
    have hf : (FloatKind.f64.format.order f 0 == some .eq) = false := by simpa using h
    clear h
    go_enter Try.func104, Try.ntmps104
    go_wp2_with fail
    go_ret
    exact ⟨rfl, rfl⟩
theorem plain_z (i : Int) (h1 : -50 ≤ i) (h2 : i < 50) (w : World) : Calls Try.prog 104 #[.float .f64 (zb i)] w fun e w' => e = .returned (.float .f64 (zb i)) ∧ w = w' := by
  refine (plain_calls (zb i) w).mono ?_
  rintro e w' ⟨rfl, rfl⟩
  have h3 := zb_eq0 i h1 h2
  by_cases h : i = 0
  · subst h; exact ⟨by simp [zb_zero], rfl⟩
  · rw [if_neg (by intro h4; rw [h4] at h3; simp [h] at h3)]; exact ⟨rfl, rfl⟩
set_option maxRecDepth 100000 in
set_option maxHeartbeats 800000 in
theorem turn_z (x y : Int) (hx : -50 ≤ x ∧ x < 50) (hy : -50 ≤ y ∧ y < 50) (w : World) : Calls Try.prog 92 #[.complex .f64 (zb x) (zb y), .int .i64 0] w fun e w' => e = .returned (.complex .f64 (zb x) (zb y)) ∧ w = w' := by
  go_enter Try.func92, Try.ntmps92
  go_wp2_with fail
  refine (plain_z x hx.1 hx.2 _).mono ?_
  rintro e1 w1 ⟨rfl, rfl⟩
  go_wp2_with fail
  refine (plain_z y hy.1 hy.2 _).mono ?_
  rintro e1 w1 ⟨rfl, rfl⟩
  go_wp2_with fail
  go_ret
  exact ⟨rfl, rfl⟩
theorem plain_c (f g : Nat) (h : (if FloatKind.f64.format.order f 0 = some .eq then 0 else f) = g) (w : World) : Calls Try.prog 104 #[.float .f64 f] w fun e w' => e = .returned (.float .f64 g) ∧ w = w' := by
  subst h; exact plain_calls f w
set_option maxRecDepth 100000 in
set_option maxHeartbeats 1600000 in
theorem turn_b (b : UInt8) (w : World) : Calls Try.prog 92 #[.complex .f64 4607182418800017408 0, .int .i64 (b.toNat : Int)] w fun e w' => e = .returned (.complex .f64 (zb (stepOf b (0, 0)).1) (zb (stepOf b (0, 0)).2)) ∧ w = w' := by
  have ha := and_three b
  rcases (show b.toNat % 4 = 0 ∨ b.toNat % 4 = 1 ∨ b.toNat % 4 = 2 ∨ b.toNat % 4 = 3 by omega) with h | h | h | h
  · have e : Hid (stepOf b (0, 0) = (1, 0)) := by show _ = _; unfold stepOf; simp [h]
    rw [h] at ha
    clear h
    go_enter Try.func92, Try.ntmps92
    go_wp2_with fail
    refine (plain_c 4607182418800017408 4607182418800017408 (by decide +kernel) _).mono ?_
    rintro e1 w1 ⟨rfl, rfl⟩
    go_wp2_with fail
    refine (plain_c 0 0 (by decide +kernel) _).mono ?_
    rintro e1 w1 ⟨rfl, rfl⟩
    go_wp2_with fail
    go_ret
    exact ⟨by rw [e.out, show zb 1 = 4607182418800017408 by decide +kernel, zb_zero]; rfl, rfl⟩
  · have e : Hid (stepOf b (0, 0) = (0, 1)) := by show _ = _; unfold stepOf; simp [h]
    rw [h] at ha
    clear h
    go_enter Try.func92, Try.ntmps92
    go_wp2_with fail
    refine (plain_c 9223372036854775808 0 (by decide +kernel) _).mono ?_
    rintro e1 w1 ⟨rfl, rfl⟩
    go_wp2_with fail
    refine (plain_c 4607182418800017408 4607182418800017408 (by decide +kernel) _).mono ?_
    rintro e1 w1 ⟨rfl, rfl⟩
    go_wp2_with fail
    go_ret
    exact ⟨by rw [e.out, show zb 1 = 4607182418800017408 by decide +kernel, zb_zero]; rfl, rfl⟩
  · have e : Hid (stepOf b (0, 0) = (-1, 0)) := by show _ = _; unfold stepOf; simp [h]
    rw [h] at ha
    clear h
    go_enter Try.func92, Try.ntmps92
    go_wp2_with fail
    refine (plain_c 13830554455654793216 13830554455654793216 (by decide +kernel) _).mono ?_
    rintro e1 w1 ⟨rfl, rfl⟩
    go_wp2_with fail
    refine (plain_c 9223372036854775808 0 (by decide +kernel) _).mono ?_
    rintro e1 w1 ⟨rfl, rfl⟩
    go_wp2_with fail
    go_ret
    exact ⟨by rw [e.out, show zb (-1) = 13830554455654793216 by decide +kernel, zb_zero]; rfl, rfl⟩
  · have e : Hid (stepOf b (0, 0) = (0, -1)) := by show _ = _; unfold stepOf; simp [h]
    rw [h] at ha
    clear h
    go_enter Try.func92, Try.ntmps92
    go_wp2_with fail
    refine (plain_c 0 0 (by decide +kernel) _).mono ?_
    rintro e1 w1 ⟨rfl, rfl⟩
    go_wp2_with fail
    refine (plain_c 13830554455654793216 13830554455654793216 (by decide +kernel) _).mono ?_
    rintro e1 w1 ⟨rfl, rfl⟩
    go_wp2_with fail
    go_ret
    exact ⟨by rw [e.out, show zb (-1) = 13830554455654793216 by decide +kernel, zb_zero]; rfl, rfl⟩
theorem wstep_calls (b : UInt8) (w : World) : Calls Try.prog 91 #[.int .u8 (b.toNat : Int)] w fun e w' => e = .returned (.complex .f64 (zb (stepOf b (0, 0)).1) (zb (stepOf b (0, 0)).2)) ∧ w = w' := by
  have hb := b.toNat_lt
  have e : IntKind.i64.wrap (b.toNat : Int) = (b.toNat : Int) := by rw [IntWalk.i64_left]; exact IntWalk.wrap64_in _ (by omega)
  have e' : wrap64 (b.toNat : Int) = (b.toNat : Int) := IntWalk.wrap64_in _ (by omega)
  go_enter Try.func91, Try.ntmps91
  go_wp2_with fail
  refine (turn_b b _).mono ?_
  rintro e1 w1 ⟨rfl, rfl⟩
  go_wp2_with fail
  go_ret
  exact ⟨rfl, rfl⟩
/-- The places of a walk. -/
def pathOf : Int × Int → List UInt8 → List (Int × Int)
  | z, [] => [z]
  | z, b :: l => z :: pathOf (stepOf b z) l
theorem pathOf_length (z : Int × Int) (l : List UInt8) : (pathOf z l).length = l.length + 1 := by
  induction l generalizing z with
  | nil => rfl
  | cons b l ih => simp [pathOf, ih]
theorem pathOf_snoc (z : Int × Int) (l : List UInt8) (b : UInt8) : pathOf z (l ++ [b]) = pathOf z l ++ [stepOf b (l.foldl (fun z b => stepOf b z) z)] := by
  induction l generalizing z with
  | nil => rfl
  | cons a l ih => simp [pathOf, ih]
theorem pathOf_last (z : Int × Int) (l : List UInt8) : (pathOf z l)[l.length]? = some (l.foldl (fun z b => stepOf b z) z) := by
  induction l generalizing z with
  | nil => rfl
  | cons a l ih => simp [pathOf, ih]
theorem stepOf_add (b : UInt8) (z : Int × Int) : stepOf b z = (z.1 + (stepOf b (0, 0)).1, z.2 + (stepOf b (0, 0)).2) := by
  unfold stepOf
  split
  · simp
  · split
    · simp
    · split <;> simp <;> omega
theorem stepOf_small (b : UInt8) : stepOf b (0, 0) = (1, 0) ∨ stepOf b (0, 0) = (0, 1) ∨ stepOf b (0, 0) = (-1, 0) ∨ stepOf b (0, 0) = (0, -1) := by
  unfold stepOf
  split
  · exact .inl rfl
  · split
    · exact .inr (.inl rfl)
    · split
      · exact .inr (.inr (.inl rfl))
      · exact .inr (.inr (.inr rfl))
theorem fold_near (l : List UInt8) (z : Int × Int) (n : Nat) (h : -(n : Int) ≤ z.1 ∧ z.1 ≤ n ∧ -(n : Int) ≤ z.2 ∧ z.2 ≤ n) :
    -((n + l.length : Nat) : Int) ≤ (l.foldl (fun z b => stepOf b z) z).1 ∧ (l.foldl (fun z b => stepOf b z) z).1 ≤ (n + l.length : Nat) ∧ -((n + l.length : Nat) : Int) ≤ (l.foldl (fun z b => stepOf b z) z).2 ∧ (l.foldl (fun z b => stepOf b z) z).2 ≤ (n + l.length : Nat) := by
  induction l generalizing z n with
  | nil => simpa using h
  | cons b l ih =>
    have := ih (stepOf b z) (n + 1) (by
      rw [stepOf_add]
      rcases stepOf_small b with e | e | e | e <;> rw [e] <;> simp <;> omega)
    simp only [List.foldl_cons, List.length_cons]
    rw [show n + (l.length + 1) = n + 1 + l.length by omega]
    exact this
theorem walk_near (l : List UInt8) (h : l.length ≤ 48) : -48 ≤ (walkOf l).1 ∧ (walkOf l).1 ≤ 48 ∧ -48 ≤ (walkOf l).2 ∧ (walkOf l).2 ≤ 48 := by
  have := fold_near l (0, 0) 0 (by simp)
  unfold walkOf
  omega
end Go.Proofs.Ytkgabbenmoocgaa
