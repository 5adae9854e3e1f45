/- Rows of symbols in an arena: a node of kids that are handed over. -/
import Derived.Test.YtkgabbenmoocgaaArenaMake
import Derived.Test.YtkgabbenmoocgaaHeld
namespace Go.Proofs.Ytkgabbenmoocgaa
set_option linter.unusedSimpArgs false
set_option linter.unusedVariables false
set_option linter.unnecessarySimpa false
open Go.RowKit
attribute [local go_sem ↓] Go.wp_at_zero Go.wp_at_succ
attribute [local go_sem] lt_s2 lt_s3 lt_s4
attribute [local go_sem] idx0 idx1 idx2 idx3
variable {ap : Value} {s : Ar} {O : Nat → Prop}
set_option maxRecDepth 100000 in
set_option maxHeartbeats 4000000 in
theorem wMade_calls (n : Nd) (hn : U64 n.a) (e : Int) (w : World) (hA : AP w ap s O) :
    Calls Try.prog 77 #[ap, n.val, .int .i64 e] w fun e' w' => e' = .returned (.tuple #[.int .i64 (wMade s n e).1, .int .i64 (wMade s n e).2.1]) ∧ Did noX ap (wMade s n e).2.2 O w w' := by
  by_cases h1 : e = 0 ∧ n.k0 ≠ 0
  · have d1 : (e == 0) = true := by simpa using h1.1
    have d2 : (n.k0 != 0) = true := by simpa using h1.2
    have E : Hid (wMade s n e = ((s.make n).1, (s.make n).2.1, (s.make n).2.2.dropAll n.kids)) := by show _ = _; unfold wMade; rw [if_pos h1]
    clear h1
    unfold Nd.val
    go_enter Try.func77, Try.ntmps77
    go_wp2_with fail
    refine calls_gen fun V hV_V => ?_
    have n_kn := congrArg (fun v : World => v.heap[w.heap.size]?) hV_V
    simp (maxDischargeDepth := 9) only [BK, not_false_eq_true, reduceCtorEq] at n_kn
    have o_kn : ¬ O (w.heap.size) := by first | exact hA.new (Nat.le_refl _) | exact hA.new (by omega)
    have n_F : Fr (noX) O O w V := nF hV_V
    have n_A : AP V ap s O := nA hV_V
    have z_V := Nat.le_of_eq (congrArg (fun v : World => v.heap.size) hV_V).symm
    try simp only [SZ] at z_V
    clear hV_V
    clear hA
    have hA := n_A
    clear n_A
    skip
    have hF := n_F
    clear n_F
    have kn := n_kn; clear n_kn
    have c_kn := cells_of kn
    have f_kn := free_of kn
    have l_kn_V := lt_of kn
    refine (make_calls n hn _ hA).mono ?_
    rintro e_W1 W1 ⟨rfl, O1, hA_W1, hf_W1⟩
    have q_kn := hf_W1.keep kn o_kn (fun h => h)
    replace o_kn := hf_W1.not_own (lt_of kn) o_kn
    clear kn; have kn := q_kn; clear q_kn
    have c_kn := cells_of kn
    have f_kn := free_of kn
    have l_kn_W1 := lt_of kn
    replace hF := hF.trans hf_W1.widen
    have z_W1 := hf_W1.size
    clear hA hf_W1; have hA := hA_W1; clear hA_W1
    go_wp2_with fail
    go_loopw [27] (fun x wr => ∃ i : Nat, i ≤ 4 ∧ x = .int .i64 i ∧ ∃ O', AP wr ap (((s.make n).2.2).dropAll (n.kids.take i)) O' ∧ Fr noX O O' w wr) (fun x _ => 4 - (intOf x).toNat)
    case atStart => exact ⟨0, by omega, rfl, _, hA, hF⟩
    case round =>
      obtain ⟨i, hi, rfl, O', hA', hF'⟩ := hrel
      rcases (show i = 0 ∨ i = 1 ∨ i = 2 ∨ i = 3 ∨ i = 4 by omega) with rfl | rfl | rfl | rfl | rfl
      · have HA := Lib.hid hA'; have HF := Lib.hid hF'; clear hA' hF'
        go_wp2_with fail
        refine (drop_calls _ _ HA.out).mono ?_
        rintro e1 w1 ⟨rfl, O1, hA1, hf1⟩
        go_wp2_with fail
        go_roundw
        case rel => exact ⟨1, by omega, rfl, O1, hA1, HF.out.trans hf1⟩
        case measure => simp [intOf]
      · have HA := Lib.hid hA'; have HF := Lib.hid hF'; clear hA' hF'
        go_wp2_with fail
        refine (drop_calls _ _ HA.out).mono ?_
        rintro e1 w1 ⟨rfl, O1, hA1, hf1⟩
        go_wp2_with fail
        go_roundw
        case rel => exact ⟨2, by omega, rfl, O1, hA1, HF.out.trans hf1⟩
        case measure => simp [intOf]
      · have HA := Lib.hid hA'; have HF := Lib.hid hF'; clear hA' hF'
        go_wp2_with fail
        refine (drop_calls _ _ HA.out).mono ?_
        rintro e1 w1 ⟨rfl, O1, hA1, hf1⟩
        go_wp2_with fail
        go_roundw
        case rel => exact ⟨3, by omega, rfl, O1, hA1, HF.out.trans hf1⟩
        case measure => simp [intOf]
      · have HA := Lib.hid hA'; have HF := Lib.hid hF'; clear hA' hF'
        go_wp2_with fail
        refine (drop_calls _ _ HA.out).mono ?_
        rintro e1 w1 ⟨rfl, O1, hA1, hf1⟩
        go_wp2_with fail
        go_roundw
        case rel => exact ⟨4, by omega, rfl, O1, hA1, HF.out.trans hf1⟩
        case measure => simp [intOf]
      · have HA := Lib.hid hA'; have HF := Lib.hid hF'; clear hA' hF'
        go_wp2_with fail
        go_ret2
        exact ⟨by rw [E.out]; rfl, by rw [E.out]; exact ⟨O', HA.out, HF.out⟩⟩
  · have E : Hid (wMade s n e = (0, e, s.dropAll n.kids)) := by show _ = _; unfold wMade; rw [if_neg h1]
    by_cases h2 : e = 0
    · have d1 : (e == 0) = true := by simpa using h2
      have d2 : (n.k0 != 0) = false := by simp; exact Classical.byContradiction fun h => h1 ⟨h2, h⟩
      clear h1 h2
      unfold Nd.val
      go_enter Try.func77, Try.ntmps77
      have hF := (Fr.refl noX O w).alloc (.cells #[.int .i64 n.tag, .int .i64 n.k0, .int .i64 n.k1, .int .i64 n.k2, .int .i64 n.k3, .int .u64 n.a, .int .u64 n.b] 47 (0, 0))
      replace hA := hA.alloc (.cells #[.int .i64 n.tag, .int .i64 n.k0, .int .i64 n.k1, .int .i64 n.k2, .int .i64 n.k3, .int .u64 n.a, .int .u64 n.b] 47 (0, 0))
      go_wp2_with fail
      go_loopw [27] (fun x wr => ∃ i : Nat, i ≤ 4 ∧ x = .int .i64 i ∧ ∃ O', AP wr ap ((s).dropAll (n.kids.take i)) O' ∧ Fr noX O O' w wr) (fun x _ => 4 - (intOf x).toNat)
      case atStart => exact ⟨0, by omega, rfl, _, hA, hF⟩
      case round =>
        obtain ⟨i, hi, rfl, O', hA', hF'⟩ := hrel
        rcases (show i = 0 ∨ i = 1 ∨ i = 2 ∨ i = 3 ∨ i = 4 by omega) with rfl | rfl | rfl | rfl | rfl
        · have HA := Lib.hid hA'; have HF := Lib.hid hF'; clear hA' hF'
          go_wp2_with fail
          refine (drop_calls _ _ HA.out).mono ?_
          rintro e1 w1 ⟨rfl, O1, hA1, hf1⟩
          go_wp2_with fail
          go_roundw
          case rel => exact ⟨1, by omega, rfl, O1, hA1, HF.out.trans hf1⟩
          case measure => simp [intOf]
        · have HA := Lib.hid hA'; have HF := Lib.hid hF'; clear hA' hF'
          go_wp2_with fail
          refine (drop_calls _ _ HA.out).mono ?_
          rintro e1 w1 ⟨rfl, O1, hA1, hf1⟩
          go_wp2_with fail
          go_roundw
          case rel => exact ⟨2, by omega, rfl, O1, hA1, HF.out.trans hf1⟩
          case measure => simp [intOf]
        · have HA := Lib.hid hA'; have HF := Lib.hid hF'; clear hA' hF'
          go_wp2_with fail
          refine (drop_calls _ _ HA.out).mono ?_
          rintro e1 w1 ⟨rfl, O1, hA1, hf1⟩
          go_wp2_with fail
          go_roundw
          case rel => exact ⟨3, by omega, rfl, O1, hA1, HF.out.trans hf1⟩
          case measure => simp [intOf]
        · have HA := Lib.hid hA'; have HF := Lib.hid hF'; clear hA' hF'
          go_wp2_with fail
          refine (drop_calls _ _ HA.out).mono ?_
          rintro e1 w1 ⟨rfl, O1, hA1, hf1⟩
          go_wp2_with fail
          go_roundw
          case rel => exact ⟨4, by omega, rfl, O1, hA1, HF.out.trans hf1⟩
          case measure => simp [intOf]
        · have HA := Lib.hid hA'; have HF := Lib.hid hF'; clear hA' hF'
          go_wp2_with fail
          go_ret2
          exact ⟨by rw [E.out]; rfl, by rw [E.out]; exact ⟨O', HA.out, HF.out⟩⟩
    · have d1 : (e == 0) = false := by simpa using h2
      clear h1 h2
      unfold Nd.val
      go_enter Try.func77, Try.ntmps77
      have hF := (Fr.refl noX O w).alloc (.cells #[.int .i64 n.tag, .int .i64 n.k0, .int .i64 n.k1, .int .i64 n.k2, .int .i64 n.k3, .int .u64 n.a, .int .u64 n.b] 47 (0, 0))
      replace hA := hA.alloc (.cells #[.int .i64 n.tag, .int .i64 n.k0, .int .i64 n.k1, .int .i64 n.k2, .int .i64 n.k3, .int .u64 n.a, .int .u64 n.b] 47 (0, 0))
      go_wp2_with fail
      go_loopw [27] (fun x wr => ∃ i : Nat, i ≤ 4 ∧ x = .int .i64 i ∧ ∃ O', AP wr ap ((s).dropAll (n.kids.take i)) O' ∧ Fr noX O O' w wr) (fun x _ => 4 - (intOf x).toNat)
      case atStart => exact ⟨0, by omega, rfl, _, hA, hF⟩
      case round =>
        obtain ⟨i, hi, rfl, O', hA', hF'⟩ := hrel
        rcases (show i = 0 ∨ i = 1 ∨ i = 2 ∨ i = 3 ∨ i = 4 by omega) with rfl | rfl | rfl | rfl | rfl
        · have HA := Lib.hid hA'; have HF := Lib.hid hF'; clear hA' hF'
          go_wp2_with fail
          refine (drop_calls _ _ HA.out).mono ?_
          rintro e1 w1 ⟨rfl, O1, hA1, hf1⟩
          go_wp2_with fail
          go_roundw
          case rel => exact ⟨1, by omega, rfl, O1, hA1, HF.out.trans hf1⟩
          case measure => simp [intOf]
        · have HA := Lib.hid hA'; have HF := Lib.hid hF'; clear hA' hF'
          go_wp2_with fail
          refine (drop_calls _ _ HA.out).mono ?_
          rintro e1 w1 ⟨rfl, O1, hA1, hf1⟩
          go_wp2_with fail
          go_roundw
          case rel => exact ⟨2, by omega, rfl, O1, hA1, HF.out.trans hf1⟩
          case measure => simp [intOf]
        · have HA := Lib.hid hA'; have HF := Lib.hid hF'; clear hA' hF'
          go_wp2_with fail
          refine (drop_calls _ _ HA.out).mono ?_
          rintro e1 w1 ⟨rfl, O1, hA1, hf1⟩
          go_wp2_with fail
          go_roundw
          case rel => exact ⟨3, by omega, rfl, O1, hA1, HF.out.trans hf1⟩
          case measure => simp [intOf]
        · have HA := Lib.hid hA'; have HF := Lib.hid hF'; clear hA' hF'
          go_wp2_with fail
          refine (drop_calls _ _ HA.out).mono ?_
          rintro e1 w1 ⟨rfl, O1, hA1, hf1⟩
          go_wp2_with fail
          go_roundw
          case rel => exact ⟨4, by omega, rfl, O1, hA1, HF.out.trans hf1⟩
          case measure => simp [intOf]
        · have HA := Lib.hid hA'; have HF := Lib.hid hF'; clear hA' hF'
          go_wp2_with fail
          go_ret2
          exact ⟨by rw [E.out]; rfl, by rw [E.out]; exact ⟨O', HA.out, HF.out⟩⟩
end Go.Proofs.Ytkgabbenmoocgaa
