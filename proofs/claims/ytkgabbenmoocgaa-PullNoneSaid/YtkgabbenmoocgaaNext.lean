/- The laws' helper Build: its closure. -/
import Derived.Test.YtkgabbenmoocgaaModelBuild
import Derived.Test.YtkgabbenmoocgaaWaveInsert
import Derived.Test.YtkgabbenmoocgaaTable
import Derived.Test.YtkgabbenmoocgaaArenaWork
import Derived.Test.YtkgabbenmoocgaaVersion
namespace Go.Proofs.Ytkgabbenmoocgaa
set_option linter.unusedSimpArgs false
set_option linter.unusedVariables false
set_option linter.unnecessarySimpa false
open Go.RowKit
attribute [local go_sem ↓] Go.wp_at_zero Go.wp_at_succ
variable {ap : Value} {s : Ar} {O : Nat → Prop}
/-- The cell that holds whether all went well. -/
structure NB (w : World) (bo : Nat) (ap : Value) (s : Ar) (ok : Bool) (O : Nat → Prop) : Prop where
  hA : AP w ap s O
  blk : w.heap[bo]? = some (.cells #[.bool ok] 4 (0, 0))
  no : ¬ O bo
set_option maxRecDepth 100000 in
set_option maxHeartbeats 1600000 in
theorem next_calls (bo ba : Nat) (ok : Bool) (h : Int) (r : Int × Int × Ar) (w : World) (hA : AP w ap r.2.2 O) (ko : w.heap[bo]? = some (.cells #[.bool ok] 4 (0, 0))) (ka : w.heap[ba]? = some (.cells #[ap] 25 (0, 0))) (o_ko : ¬ O bo) (o_ka : ¬ O ba) (hne : ba ≠ bo) :
    Calls Try.prog 26 #[.int .i64 h, .int .i64 r.1, .int .i64 r.2.1, .pointer (some ⟨bo, 0, none⟩), .pointer (some ⟨ba, 0, none⟩)] w fun e w' => e = .returned (.int .i64 (nextA ok h r).1) ∧ ∃ O', NB w' bo ap (nextA ok h r).2.2 (nextA ok h r).2.1 O' ∧ Fr (oneX bo) O O' w w' := by
  by_cases h1 : r.2.1 = 0
  · have d1 : (r.2.1 != 0) = false := by simp [h1]
    by_cases h2 : h = 0
    · have d2 : (h != 0) = false := by simp [h2]
      have E : Hid (nextA ok h r = (r.1, ok, r.2.2)) := Lib.hid (by unfold nextA; rw [if_pos h1, if_pos h2])
      clear h1 h2
      go_enter Try.func26, Try.ntmps26
      go_wp2_with fail
      go_ret
      rw [E.out]
      exact ⟨rfl, O, ⟨hA, ko, o_ko⟩, Fr.refl _ _ _⟩
    · have d2 : (h != 0) = true := by simp [h2]
      have E : Hid (nextA ok h r = (r.1, ok, r.2.2.drop h)) := Lib.hid (by unfold nextA; rw [if_pos h1, if_neg h2])
      clear h1 h2
      go_enter Try.func26, Try.ntmps26
      have c_ko := cells_of ko
      have f_ko := free_of ko
      have l_ko_w := lt_of ko
      have c_ka := cells_of ka
      have f_ka := free_of ka
      have l_ka_w := lt_of ka
      go_wp2_with fail
      refine calls_gen fun V hV_V => ?_
      have n_ko := congrArg (fun v : World => v.heap[bo]?) hV_V
      simp (maxDischargeDepth := 9) only [BK, not_false_eq_true, reduceCtorEq, ko, ka, l_ko_w, l_ka_w] at n_ko
      have n_ka := congrArg (fun v : World => v.heap[ba]?) hV_V
      simp (maxDischargeDepth := 9) only [BK, not_false_eq_true, reduceCtorEq, ko, ka, l_ko_w, l_ka_w] at n_ka
      have n_F : Fr ((oneX bo)) O O w V := nF hV_V
      have n_A : AP V ap r.2.2 O := nA hV_V
      have z_V := Nat.le_of_eq (congrArg (fun v : World => v.heap.size) hV_V).symm
      try simp only [SZ] at z_V
      clear ko c_ko f_ko
      clear ka c_ka f_ka
      clear hV_V
      clear hA
      have hA := n_A
      clear n_A
      skip
      have hF := n_F
      clear n_F
      have ko := n_ko; clear n_ko
      have c_ko := cells_of ko
      have f_ko := free_of ko
      have l_ko_V := lt_of ko
      have ka := n_ka; clear n_ka
      have c_ka := cells_of ka
      have f_ka := free_of ka
      have l_ka_V := lt_of ka
      refine (drop_calls _ _ hA).mono ?_
      rintro e_W1 W1 ⟨rfl, O1, hA_W1, hf_W1⟩
      have q_ko := hf_W1.keep ko o_ko (fun h => h)
      have q_ka := hf_W1.keep ka o_ka (fun h => h)
      replace o_ko := hf_W1.not_own (lt_of ko) o_ko
      clear ko; have ko := q_ko; clear q_ko
      have c_ko := cells_of ko
      have f_ko := free_of ko
      have l_ko_W1 := lt_of ko
      replace o_ka := hf_W1.not_own (lt_of ka) o_ka
      clear ka; have ka := q_ka; clear q_ka
      have c_ka := cells_of ka
      have f_ka := free_of ka
      have l_ka_W1 := lt_of ka
      replace hF := hF.trans hf_W1.widen
      have z_W1 := hf_W1.size
      clear hA hf_W1; have hA := hA_W1; clear hA_W1
      go_wp2_with fail
      go_ret
      rw [E.out]
      exact ⟨rfl, O1, ⟨hA, ko, o_ko⟩, hF⟩
  · have d1 : (r.2.1 != 0) = true := by simp [h1]
    have E : Hid (nextA ok h r = (h, false, r.2.2)) := Lib.hid (by unfold nextA; rw [if_neg h1])
    clear h1
    go_enter Try.func26, Try.ntmps26
    have c_ko := cells_of ko
    have f_ko := free_of ko
    have l_ko_w := lt_of ko
    have c_ka := cells_of ka
    have f_ka := free_of ka
    have l_ka_w := lt_of ka
    go_wp2_with fail
    go_ret
    rw [E.out]
    refine ⟨rfl, O, ⟨hA.set o_ko _, ?_, o_ko⟩, (Fr.refl (oneX bo) O w).set (q := ⟨bo, 0, none⟩) (.inr (by show oneX bo bo; rfl)) _⟩
    rw [blk_set, ko]; rfl
theorem next_t (bo ba : Nat) (ok : Bool) (h : Int) (r : Int × Int × Ar) (t : Int × Bool × Ar) (ht : nextA ok h r = t) (w : World) (hA : AP w ap r.2.2 O) (ko : w.heap[bo]? = some (.cells #[.bool ok] 4 (0, 0))) (ka : w.heap[ba]? = some (.cells #[ap] 25 (0, 0))) (o_ko : ¬ O bo) (o_ka : ¬ O ba) (hne : ba ≠ bo) :
    Calls Try.prog 26 #[.int .i64 h, .int .i64 r.1, .int .i64 r.2.1, .pointer (some ⟨bo, 0, none⟩), .pointer (some ⟨ba, 0, none⟩)] w fun e w' => e = .returned (.int .i64 t.1) ∧ ∃ O', NB w' bo ap t.2.2 t.2.1 O' ∧ Fr (oneX bo) O O' w w' := by
  subst ht; exact next_calls bo ba ok h r w hA ko ka o_ko o_ka hne
def twoX (a b : Nat) : Nat → Prop := fun x => x = a ∨ x = b
/-- A frame that may spare blocks that are the call's own. -/
theorem Fr.trans_own {X Y O O' O'' : Nat → Prop} {a b c : World} (h : Fr X O O' a b) (k : Fr Y O' O'' b c) (hY : ∀ x, Y x → a.heap.size ≤ x) : Fr X O O'' a c := by
  refine ⟨k.os.trans h.os, k.tape.trans h.tape, k.output.trans h.output, Nat.le_trans h.size k.size, fun x hx ho hX => ?_, fun x hx => ?_⟩
  · refine (k.block x (Nat.lt_of_lt_of_le hx h.size) (fun ho' => ?_) (fun e => ?_)).trans (h.block x hx ho hX)
    · rcases h.own x ho' with g | g
      · exact ho g
      · omega
    · have := hY x e; omega
  · rcases k.own x hx with g | g
    · exact h.own x g
    · exact .inr (Nat.le_trans h.size g)
set_option maxRecDepth 100000 in
set_option maxHeartbeats 1600000 in
theorem vMake_calls (p : Parts) (w : World) (hA : AP w ap s O) :
    Calls Try.prog 33 #[ap, p.val] w fun e w' => e = .returned (.tuple #[.int .i64 (vMake s p).1, .int .i64 (vMake s p).2.1]) ∧ Did noX ap (vMake s p).2.2 O w w' := by
  unfold Parts.val
  by_cases h : p.wave = 0 ∧ p.marks = 0 ∧ p.spots = 0 ∧ p.table = 0
  · obtain ⟨a, b, c, d⟩ := p
    obtain ⟨rfl, rfl, rfl, rfl⟩ := h
    have E : Hid (vMake s ⟨0, 0, 0, 0⟩ = (0, 0, s)) := Lib.hid (by unfold vMake; rw [if_pos ⟨rfl, rfl, rfl, rfl⟩])
    go_enter Try.func33, Try.ntmps33
    go_wp2_with fail
    go_ret2
    rw [E.out]
    exact ⟨rfl, O, by first | exact hA | exact hA.alloc _, by first | exact Fr.refl _ _ _ | exact (Fr.refl _ _ _).alloc _⟩
  · have E : Hid (vMake s p = s.make ⟨6, p.wave, p.marks, p.spots, p.table, 0, 0⟩) := Lib.hid (by unfold vMake; rw [if_neg h])
    obtain ⟨f1, f2, f3, f4, hf⟩ : ∃ f1 f2 f3 f4 : Bool, (p.wave == 0) = f1 ∧ (p.marks == 0) = f2 ∧ (p.spots == 0) = f3 ∧ (p.table == 0) = f4 := ⟨_, _, _, _, rfl, rfl, rfl, rfl⟩
    obtain ⟨g1, g2, g3, g4⟩ := hf
    have hn : ¬ (f1 = true ∧ f2 = true ∧ f3 = true ∧ f4 = true) := by
      rintro ⟨rfl, rfl, rfl, rfl⟩
      exact h ⟨by simpa using g1, by simpa using g2, by simpa using g3, by simpa using g4⟩
    clear h
    cases f1 <;> cases f2 <;> cases f3 <;> cases f4 <;> first | exact absurd ⟨rfl, rfl, rfl, rfl⟩ hn | skip
    all_goals
      clear hn
      go_enter Try.func33, Try.ntmps33
      go_wp2_with fail
      refine calls_gen fun V hV_V => ?_
      have n_kp := congrArg (fun v : World => v.heap[w.heap.size]?) hV_V
      simp (maxDischargeDepth := 9) only [BK, not_false_eq_true, reduceCtorEq] at n_kp
      have o_kp : ¬ O (w.heap.size) := by first | exact hA.new (Nat.le_refl _) | exact hA.new (by omega)
      have n_F : Fr (noX) O O w V := nF hV_V
      have n_A : AP V ap s O := nA hV_V
      have z_V := Nat.le_of_eq (congrArg (fun v : World => v.heap.size) hV_V).symm
      try simp only [SZ] at z_V
      clear hV_V
      clear hA
      have hA := n_A
      clear n_A
      skip
      have hF := n_F
      clear n_F
      have kp := n_kp; clear n_kp
      have c_kp := cells_of kp
      have f_kp := free_of kp
      have l_kp_V := lt_of kp
      refine (make_calls (⟨6, p.wave, p.marks, p.spots, p.table, 0, 0⟩ : Nd) U64.zero _ hA).mono ?_
      rintro e_W1 W1 ⟨rfl, O1, hA_W1, hf_W1⟩
      have q_kp := hf_W1.keep kp o_kp (fun h => h)
      replace o_kp := hf_W1.not_own (lt_of kp) o_kp
      clear kp; have kp := q_kp; clear q_kp
      have c_kp := cells_of kp
      have f_kp := free_of kp
      have l_kp_W1 := lt_of kp
      replace hF := hF.trans hf_W1.widen
      have z_W1 := hf_W1.size
      clear hA hf_W1; have hA := hA_W1; clear hA_W1
      go_wp2_with fail
      go_ret2
      rw [E.out]
      exact ⟨rfl, O1, hA, hF⟩
end Go.Proofs.Ytkgabbenmoocgaa
