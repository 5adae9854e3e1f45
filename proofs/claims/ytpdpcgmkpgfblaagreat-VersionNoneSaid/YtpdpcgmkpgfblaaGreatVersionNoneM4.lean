/- Part 4 of what VersionNone needs: the walks of the program's functions, and plain facts. -/
import Derived.Test.YtpdpcgmkpgfblaaGreatVersionNoneM3
/- The tree that makes nodes of rows of bits: fork. -/
namespace Go.Proofs.YtpdpcgmkpgfblaaGreat
set_option linter.unusedSimpArgs false
set_option linter.unusedVariables false
set_option linter.unnecessarySimpa false
open Go.RowKit
attribute [local go_sem ↓] Go.wp_at_zero Go.wp_at_succ
attribute [local go_sem] lt_s2 lt_s3 lt_s4
variable {ap : Value} {O : Nat → Prop} {tb : Nat} {t : Tb}
set_option maxRecDepth 100000 in
set_option maxHeartbeats 4000000 in
theorem tFork_calls (x y : Int) (r : Int × Tb) (hr : t.fork x y = some r) (w : World) (hT : TB w tb ap t O) :
  Calls Tryz.prog 119 #[.pointer (some ⟨tb, 0, none⟩), .int .i64 x, .int .i64 y] w fun e w' => e = .returned (.int .i64 r.1) ∧ DidT tb ap r.2 O w w' := by
 unfold Tb.fork at hr
 by_cases he : t.e = 0
 ·
  have d1 : (t.e != 0) = false := by simp [he]
  rw [if_pos he] at hr
  clear he
  obtain ⟨p, h_b, h_r⟩ := Option.bind_eq_some_iff.1 hr
  have Hp := Lib.hid h_b; clear h_b hr; have hr := h_r; clear h_r
  obtain ⟨q, h_b, h_r⟩ := Option.bind_eq_some_iff.1 hr
  have Hq := Lib.hid h_b; clear h_b hr; have hr := h_r; clear h_r
  by_cases c1 : wrap64 (q + 1) < p
  ·
   have d2 : decide (wrap64 (q + 1) < p) = true := by simpa using c1
   rw [if_pos c1] at hr
   clear c1
   dsimp only at hr
   obtain ⟨a, h_b, h_r⟩ := Option.bind_eq_some_iff.1 hr
   have Ha := Lib.hid h_b; clear h_b hr; have hr := h_r; clear h_r
   obtain ⟨b, h_b, h_r⟩ := Option.bind_eq_some_iff.1 hr
   have Hb := Lib.hid h_b; clear h_b hr; have hr := h_r; clear h_r
   by_cases c2 : b ≤ a
   ·
    have d3 : decide (b ≤ a) = true := by simpa using c2
    rw [if_pos c2] at hr
    clear c2
    obtain rfl := Option.some.inj hr
    clear hr
    go_enter Tryz.func119, Tryz.ntmps119
    have hA := hT.hA
    have kt := hT.blk
    have o_kt := hT.no
    have c_kt := cells_of kt
    have f_kt := free_of kt
    have l_kt_w := lt_of kt
    go_wp2_with fail
    refine calls_gen fun VW1 hV_VW1 => ?_
    have n_kt := congrArg (fun v : World => v.heap[tb]?) hV_VW1
    simp (maxDischargeDepth := 9) only [BK, not_false_eq_true, reduceCtorEq, kt, l_kt_w] at n_kt
    have n_F : Fr ((oneX tb)) O O w VW1 := nF hV_VW1
    have n_A : AP VW1 ap t.s O := nA hV_VW1
    have z_VW1 := Nat.le_of_eq (congrArg (fun v : World => v.heap.size) hV_VW1).symm
    try simp only [SZ] at z_VW1
    clear kt c_kt f_kt
    clear hV_VW1
    clear hA
    have hA := n_A
    clear n_A
    skip
    have hF := n_F
    clear n_F
    have kt := n_kt; clear n_kt
    have c_kt := cells_of kt
    have f_kt := free_of kt
    have l_kt_VW1 := lt_of kt
    refine (tHigh_calls (t := t) _ _ _ _ Hp.out ⟨hA, kt, o_kt⟩).mono ?_
    rintro e_W1 W1 ⟨rfl, hb_W1⟩
    replace hA := hA.below hb_W1
    replace hF := hF.below hb_W1
    replace kt := keep_blk hb_W1 kt
    have c_kt := cells_of kt
    have f_kt := free_of kt
    have l_kt_W1 := lt_of kt
    have z_W1 := hb_W1.size
    clear hb_W1
    go_wp2_with fail
    refine calls_gen fun VW2 hV_VW2 => ?_
    have n_kt := congrArg (fun v : World => v.heap[tb]?) hV_VW2
    simp (maxDischargeDepth := 9) only [BK, not_false_eq_true, reduceCtorEq, kt, l_kt_w, l_kt_VW1, l_kt_W1] at n_kt
    have n_F : Fr ((oneX tb)) O O w VW2 := nF hV_VW2
    have n_A : AP VW2 ap t.s O := nA hV_VW2
    have z_VW2 := Nat.le_of_eq (congrArg (fun v : World => v.heap.size) hV_VW2).symm
    try simp only [SZ] at z_VW2
    clear kt c_kt f_kt
    clear hV_VW2
    clear hA
    have hA := n_A
    clear n_A
    clear hF
    have hF := n_F
    clear n_F
    have kt := n_kt; clear n_kt
    have c_kt := cells_of kt
    have f_kt := free_of kt
    have l_kt_VW2 := lt_of kt
    refine (tHigh_calls (t := t) _ _ _ _ Hq.out ⟨hA, kt, o_kt⟩).mono ?_
    rintro e_W2 W2 ⟨rfl, hb_W2⟩
    replace hA := hA.below hb_W2
    replace hF := hF.below hb_W2
    replace kt := keep_blk hb_W2 kt
    have c_kt := cells_of kt
    have f_kt := free_of kt
    have l_kt_W2 := lt_of kt
    have z_W2 := hb_W2.size
    clear hb_W2
    go_wp2_with fail
    refine calls_gen fun VW3 hV_VW3 => ?_
    have n_kt := congrArg (fun v : World => v.heap[tb]?) hV_VW3
    simp (maxDischargeDepth := 9) only [BK, not_false_eq_true, reduceCtorEq, kt, l_kt_w, l_kt_VW1, l_kt_W1, l_kt_VW2, l_kt_W2] at n_kt
    have n_F : Fr ((oneX tb)) O O w VW3 := nF hV_VW3
    have n_A : AP VW3 ap t.s O := nA hV_VW3
    have z_VW3 := Nat.le_of_eq (congrArg (fun v : World => v.heap.size) hV_VW3).symm
    try simp only [SZ] at z_VW3
    clear kt c_kt f_kt
    clear hV_VW3
    clear hA
    have hA := n_A
    clear n_A
    clear hF
    have hF := n_F
    clear n_F
    have kt := n_kt; clear n_kt
    have c_kt := cells_of kt
    have f_kt := free_of kt
    have l_kt_VW3 := lt_of kt
    refine (tOpen_calls (t := t) x _ ⟨hA, kt, o_kt⟩).mono ?_
    rintro e_W3 W3 ⟨rfl, O1, hT_W3, hf_W3⟩
    clear kt c_kt f_kt o_kt; have kt := hT_W3.blk; have o_kt := hT_W3.no
    have c_kt := cells_of kt
    have f_kt := free_of kt
    have l_kt_W3 := lt_of kt
    replace hF := hF.trans hf_W3
    have z_W3 := hf_W3.size
    clear hA hf_W3; have hA := hT_W3.hA; clear hT_W3
    go_wp2_with fail
    refine calls_gen fun VW4 hV_VW4 => ?_
    have n_kt := congrArg (fun v : World => v.heap[tb]?) hV_VW4
    simp (maxDischargeDepth := 9) only [BK, not_false_eq_true, reduceCtorEq, kt, l_kt_w, l_kt_VW1, l_kt_W1, l_kt_VW2, l_kt_W2, l_kt_VW3, l_kt_W3] at n_kt
    have n_F : Fr ((oneX tb)) O O1 w VW4 := nF hV_VW4
    have n_A : AP VW4 ap ((t).opened x).s O1 := nA hV_VW4
    have z_VW4 := Nat.le_of_eq (congrArg (fun v : World => v.heap.size) hV_VW4).symm
    try simp only [SZ] at z_VW4
    clear kt c_kt f_kt
    clear hV_VW4
    clear hA
    have hA := n_A
    clear n_A
    clear hF
    have hF := n_F
    clear n_F
    have kt := n_kt; clear n_kt
    have c_kt := cells_of kt
    have f_kt := free_of kt
    have l_kt_VW4 := lt_of kt
    refine (tHigh_calls (t := t.opened x) _ _ _ _ Ha.out ⟨hA, kt, o_kt⟩).mono ?_
    rintro e_W4 W4 ⟨rfl, hb_W4⟩
    replace hA := hA.below hb_W4
    replace hF := hF.below hb_W4
    replace kt := keep_blk hb_W4 kt
    have c_kt := cells_of kt
    have f_kt := free_of kt
    have l_kt_W4 := lt_of kt
    have z_W4 := hb_W4.size
    clear hb_W4
    go_wp2_with fail
    refine calls_gen fun VW5 hV_VW5 => ?_
    have n_kt := congrArg (fun v : World => v.heap[tb]?) hV_VW5
    simp (maxDischargeDepth := 9) only [BK, not_false_eq_true, reduceCtorEq, kt, l_kt_w, l_kt_VW1, l_kt_W1, l_kt_VW2, l_kt_W2, l_kt_VW3, l_kt_W3, l_kt_VW4, l_kt_W4] at n_kt
    have n_F : Fr ((oneX tb)) O O1 w VW5 := nF hV_VW5
    have n_A : AP VW5 ap ((t).opened x).s O1 := nA hV_VW5
    have z_VW5 := Nat.le_of_eq (congrArg (fun v : World => v.heap.size) hV_VW5).symm
    try simp only [SZ] at z_VW5
    clear kt c_kt f_kt
    clear hV_VW5
    clear hA
    have hA := n_A
    clear n_A
    clear hF
    have hF := n_F
    clear n_F
    have kt := n_kt; clear n_kt
    have c_kt := cells_of kt
    have f_kt := free_of kt
    have l_kt_VW5 := lt_of kt
    refine (tHigh_calls (t := t.opened x) _ _ _ _ Hb.out ⟨hA, kt, o_kt⟩).mono ?_
    rintro e_W5 W5 ⟨rfl, hb_W5⟩
    replace hA := hA.below hb_W5
    replace hF := hF.below hb_W5
    replace kt := keep_blk hb_W5 kt
    have c_kt := cells_of kt
    have f_kt := free_of kt
    have l_kt_W5 := lt_of kt
    have z_W5 := hb_W5.size
    clear hb_W5
    go_wp2_with fail
    refine calls_gen fun VW6 hV_VW6 => ?_
    have n_kt := congrArg (fun v : World => v.heap[tb]?) hV_VW6
    simp (maxDischargeDepth := 9) only [BK, not_false_eq_true, reduceCtorEq, kt, l_kt_w, l_kt_VW1, l_kt_W1, l_kt_VW2, l_kt_W2, l_kt_VW3, l_kt_W3, l_kt_VW4, l_kt_W4, l_kt_VW5, l_kt_W5] at n_kt
    have n_F : Fr ((oneX tb)) O O1 w VW6 := nF hV_VW6
    have n_A : AP VW6 ap ((t).opened x).s O1 := nA hV_VW6
    have z_VW6 := Nat.le_of_eq (congrArg (fun v : World => v.heap.size) hV_VW6).symm
    try simp only [SZ] at z_VW6
    clear kt c_kt f_kt
    clear hV_VW6
    clear hA
    have hA := n_A
    clear n_A
    clear hF
    have hF := n_F
    clear n_F
    have kt := n_kt; clear n_kt
    have c_kt := cells_of kt
    have f_kt := free_of kt
    have l_kt_VW6 := lt_of kt
    refine (tPair_calls (t := t.opened x) _ _ _ ⟨hA, kt, o_kt⟩).mono ?_
    rintro e_W6 W6 ⟨rfl, O2, hT_W6, hf_W6⟩
    clear kt c_kt f_kt o_kt; have kt := hT_W6.blk; have o_kt := hT_W6.no
    have c_kt := cells_of kt
    have f_kt := free_of kt
    have l_kt_W6 := lt_of kt
    replace hF := hF.trans hf_W6
    have z_W6 := hf_W6.size
    clear hA hf_W6; have hA := hT_W6.hA; clear hT_W6
    go_wp2_with fail
    refine calls_gen fun VW7 hV_VW7 => ?_
    have n_kt := congrArg (fun v : World => v.heap[tb]?) hV_VW7
    simp (maxDischargeDepth := 9) only [BK, not_false_eq_true, reduceCtorEq, kt, l_kt_w, l_kt_VW1, l_kt_W1, l_kt_VW2, l_kt_W2, l_kt_VW3, l_kt_W3, l_kt_VW4, l_kt_W4, l_kt_VW5, l_kt_W5, l_kt_VW6, l_kt_W6] at n_kt
    have n_F : Fr ((oneX tb)) O O2 w VW7 := nF hV_VW7
    have n_A : AP VW7 ap (((t.opened x).pair (t.s.get x).k1 y).2).s O2 := nA hV_VW7
    have z_VW7 := Nat.le_of_eq (congrArg (fun v : World => v.heap.size) hV_VW7).symm
    try simp only [SZ] at z_VW7
    clear kt c_kt f_kt
    clear hV_VW7
    clear hA
    have hA := n_A
    clear n_A
    clear hF
    have hF := n_F
    clear n_F
    have kt := n_kt; clear n_kt
    have c_kt := cells_of kt
    have f_kt := free_of kt
    have l_kt_VW7 := lt_of kt
    refine (tPair_calls (t := ((t.opened x).pair (t.s.get x).k1 y).2) _ _ _ ⟨hA, kt, o_kt⟩).mono ?_
    rintro e_W7 W7 ⟨rfl, O3, hT_W7, hf_W7⟩
    clear kt c_kt f_kt o_kt; have kt := hT_W7.blk; have o_kt := hT_W7.no
    have c_kt := cells_of kt
    have f_kt := free_of kt
    have l_kt_W7 := lt_of kt
    replace hF := hF.trans hf_W7
    have z_W7 := hf_W7.size
    clear hA hf_W7; have hA := hT_W7.hA; clear hT_W7
    go_wp2_with fail
    go_ret
    exact ⟨rfl, O3, ⟨hA, kt, o_kt⟩, hF⟩
   ·
    have d3 : decide (b ≤ a) = false := by simpa using c2
    rw [if_neg c2] at hr
    clear c2
    obtain rfl := Option.some.inj hr
    clear hr
    go_enter Tryz.func119, Tryz.ntmps119
    have hA := hT.hA
    have kt := hT.blk
    have o_kt := hT.no
    have c_kt := cells_of kt
    have f_kt := free_of kt
    have l_kt_w := lt_of kt
    go_wp2_with fail
    refine calls_gen fun VW1 hV_VW1 => ?_
    have n_kt := congrArg (fun v : World => v.heap[tb]?) hV_VW1
    simp (maxDischargeDepth := 9) only [BK, not_false_eq_true, reduceCtorEq, kt, l_kt_w] at n_kt
    have n_F : Fr ((oneX tb)) O O w VW1 := nF hV_VW1
    have n_A : AP VW1 ap t.s O := nA hV_VW1
    have z_VW1 := Nat.le_of_eq (congrArg (fun v : World => v.heap.size) hV_VW1).symm
    try simp only [SZ] at z_VW1
    clear kt c_kt f_kt
    clear hV_VW1
    clear hA
    have hA := n_A
    clear n_A
    skip
    have hF := n_F
    clear n_F
    have kt := n_kt; clear n_kt
    have c_kt := cells_of kt
    have f_kt := free_of kt
    have l_kt_VW1 := lt_of kt
    refine (tHigh_calls (t := t) _ _ _ _ Hp.out ⟨hA, kt, o_kt⟩).mono ?_
    rintro e_W1 W1 ⟨rfl, hb_W1⟩
    replace hA := hA.below hb_W1
    replace hF := hF.below hb_W1
    replace kt := keep_blk hb_W1 kt
    have c_kt := cells_of kt
    have f_kt := free_of kt
    have l_kt_W1 := lt_of kt
    have z_W1 := hb_W1.size
    clear hb_W1
    go_wp2_with fail
    refine calls_gen fun VW2 hV_VW2 => ?_
    have n_kt := congrArg (fun v : World => v.heap[tb]?) hV_VW2
    simp (maxDischargeDepth := 9) only [BK, not_false_eq_true, reduceCtorEq, kt, l_kt_w, l_kt_VW1, l_kt_W1] at n_kt
    have n_F : Fr ((oneX tb)) O O w VW2 := nF hV_VW2
    have n_A : AP VW2 ap t.s O := nA hV_VW2
    have z_VW2 := Nat.le_of_eq (congrArg (fun v : World => v.heap.size) hV_VW2).symm
    try simp only [SZ] at z_VW2
    clear kt c_kt f_kt
    clear hV_VW2
    clear hA
    have hA := n_A
    clear n_A
    clear hF
    have hF := n_F
    clear n_F
    have kt := n_kt; clear n_kt
    have c_kt := cells_of kt
    have f_kt := free_of kt
    have l_kt_VW2 := lt_of kt
    refine (tHigh_calls (t := t) _ _ _ _ Hq.out ⟨hA, kt, o_kt⟩).mono ?_
    rintro e_W2 W2 ⟨rfl, hb_W2⟩
    replace hA := hA.below hb_W2
    replace hF := hF.below hb_W2
    replace kt := keep_blk hb_W2 kt
    have c_kt := cells_of kt
    have f_kt := free_of kt
    have l_kt_W2 := lt_of kt
    have z_W2 := hb_W2.size
    clear hb_W2
    go_wp2_with fail
    refine calls_gen fun VW3 hV_VW3 => ?_
    have n_kt := congrArg (fun v : World => v.heap[tb]?) hV_VW3
    simp (maxDischargeDepth := 9) only [BK, not_false_eq_true, reduceCtorEq, kt, l_kt_w, l_kt_VW1, l_kt_W1, l_kt_VW2, l_kt_W2] at n_kt
    have n_F : Fr ((oneX tb)) O O w VW3 := nF hV_VW3
    have n_A : AP VW3 ap t.s O := nA hV_VW3
    have z_VW3 := Nat.le_of_eq (congrArg (fun v : World => v.heap.size) hV_VW3).symm
    try simp only [SZ] at z_VW3
    clear kt c_kt f_kt
    clear hV_VW3
    clear hA
    have hA := n_A
    clear n_A
    clear hF
    have hF := n_F
    clear n_F
    have kt := n_kt; clear n_kt
    have c_kt := cells_of kt
    have f_kt := free_of kt
    have l_kt_VW3 := lt_of kt
    refine (tOpen_calls (t := t) x _ ⟨hA, kt, o_kt⟩).mono ?_
    rintro e_W3 W3 ⟨rfl, O1, hT_W3, hf_W3⟩
    clear kt c_kt f_kt o_kt; have kt := hT_W3.blk; have o_kt := hT_W3.no
    have c_kt := cells_of kt
    have f_kt := free_of kt
    have l_kt_W3 := lt_of kt
    replace hF := hF.trans hf_W3
    have z_W3 := hf_W3.size
    clear hA hf_W3; have hA := hT_W3.hA; clear hT_W3
    go_wp2_with fail
    refine calls_gen fun VW4 hV_VW4 => ?_
    have n_kt := congrArg (fun v : World => v.heap[tb]?) hV_VW4
    simp (maxDischargeDepth := 9) only [BK, not_false_eq_true, reduceCtorEq, kt, l_kt_w, l_kt_VW1, l_kt_W1, l_kt_VW2, l_kt_W2, l_kt_VW3, l_kt_W3] at n_kt
    have n_F : Fr ((oneX tb)) O O1 w VW4 := nF hV_VW4
    have n_A : AP VW4 ap ((t).opened x).s O1 := nA hV_VW4
    have z_VW4 := Nat.le_of_eq (congrArg (fun v : World => v.heap.size) hV_VW4).symm
    try simp only [SZ] at z_VW4
    clear kt c_kt f_kt
    clear hV_VW4
    clear hA
    have hA := n_A
    clear n_A
    clear hF
    have hF := n_F
    clear n_F
    have kt := n_kt; clear n_kt
    have c_kt := cells_of kt
    have f_kt := free_of kt
    have l_kt_VW4 := lt_of kt
    refine (tHigh_calls (t := t.opened x) _ _ _ _ Ha.out ⟨hA, kt, o_kt⟩).mono ?_
    rintro e_W4 W4 ⟨rfl, hb_W4⟩
    replace hA := hA.below hb_W4
    replace hF := hF.below hb_W4
    replace kt := keep_blk hb_W4 kt
    have c_kt := cells_of kt
    have f_kt := free_of kt
    have l_kt_W4 := lt_of kt
    have z_W4 := hb_W4.size
    clear hb_W4
    go_wp2_with fail
    refine calls_gen fun VW5 hV_VW5 => ?_
    have n_kt := congrArg (fun v : World => v.heap[tb]?) hV_VW5
    simp (maxDischargeDepth := 9) only [BK, not_false_eq_true, reduceCtorEq, kt, l_kt_w, l_kt_VW1, l_kt_W1, l_kt_VW2, l_kt_W2, l_kt_VW3, l_kt_W3, l_kt_VW4, l_kt_W4] at n_kt
    have n_F : Fr ((oneX tb)) O O1 w VW5 := nF hV_VW5
    have n_A : AP VW5 ap ((t).opened x).s O1 := nA hV_VW5
    have z_VW5 := Nat.le_of_eq (congrArg (fun v : World => v.heap.size) hV_VW5).symm
    try simp only [SZ] at z_VW5
    clear kt c_kt f_kt
    clear hV_VW5
    clear hA
    have hA := n_A
    clear n_A
    clear hF
    have hF := n_F
    clear n_F
    have kt := n_kt; clear n_kt
    have c_kt := cells_of kt
    have f_kt := free_of kt
    have l_kt_VW5 := lt_of kt
    refine (tHigh_calls (t := t.opened x) _ _ _ _ Hb.out ⟨hA, kt, o_kt⟩).mono ?_
    rintro e_W5 W5 ⟨rfl, hb_W5⟩
    replace hA := hA.below hb_W5
    replace hF := hF.below hb_W5
    replace kt := keep_blk hb_W5 kt
    have c_kt := cells_of kt
    have f_kt := free_of kt
    have l_kt_W5 := lt_of kt
    have z_W5 := hb_W5.size
    clear hb_W5
    go_wp2_with fail
    refine calls_gen fun VW6 hV_VW6 => ?_
    have n_kt := congrArg (fun v : World => v.heap[tb]?) hV_VW6
    simp (maxDischargeDepth := 9) only [BK, not_false_eq_true, reduceCtorEq, kt, l_kt_w, l_kt_VW1, l_kt_W1, l_kt_VW2, l_kt_W2, l_kt_VW3, l_kt_W3, l_kt_VW4, l_kt_W4, l_kt_VW5, l_kt_W5] at n_kt
    have n_F : Fr ((oneX tb)) O O1 w VW6 := nF hV_VW6
    have n_A : AP VW6 ap ((t).opened x).s O1 := nA hV_VW6
    have z_VW6 := Nat.le_of_eq (congrArg (fun v : World => v.heap.size) hV_VW6).symm
    try simp only [SZ] at z_VW6
    clear kt c_kt f_kt
    clear hV_VW6
    clear hA
    have hA := n_A
    clear n_A
    clear hF
    have hF := n_F
    clear n_F
    have kt := n_kt; clear n_kt
    have c_kt := cells_of kt
    have f_kt := free_of kt
    have l_kt_VW6 := lt_of kt
    refine (tOpen_calls (t := t.opened x) (t.s.get x).k1 _ ⟨hA, kt, o_kt⟩).mono ?_
    rintro e_W6 W6 ⟨rfl, O2, hT_W6, hf_W6⟩
    clear kt c_kt f_kt o_kt; have kt := hT_W6.blk; have o_kt := hT_W6.no
    have c_kt := cells_of kt
    have f_kt := free_of kt
    have l_kt_W6 := lt_of kt
    replace hF := hF.trans hf_W6
    have z_W6 := hf_W6.size
    clear hA hf_W6; have hA := hT_W6.hA; clear hT_W6
    go_wp2_with fail
    refine calls_gen fun VW7 hV_VW7 => ?_
    have n_kt := congrArg (fun v : World => v.heap[tb]?) hV_VW7
    simp (maxDischargeDepth := 9) only [BK, not_false_eq_true, reduceCtorEq, kt, l_kt_w, l_kt_VW1, l_kt_W1, l_kt_VW2, l_kt_W2, l_kt_VW3, l_kt_W3, l_kt_VW4, l_kt_W4, l_kt_VW5, l_kt_W5, l_kt_VW6, l_kt_W6] at n_kt
    have n_F : Fr ((oneX tb)) O O2 w VW7 := nF hV_VW7
    have n_A : AP VW7 ap ((t.opened x).opened (t.s.get x).k1).s O2 := nA hV_VW7
    have z_VW7 := Nat.le_of_eq (congrArg (fun v : World => v.heap.size) hV_VW7).symm
    try simp only [SZ] at z_VW7
    clear kt c_kt f_kt
    clear hV_VW7
    clear hA
    have hA := n_A
    clear n_A
    clear hF
    have hF := n_F
    clear n_F
    have kt := n_kt; clear n_kt
    have c_kt := cells_of kt
    have f_kt := free_of kt
    have l_kt_VW7 := lt_of kt
    refine (tPair_calls (t := (t.opened x).opened (t.s.get x).k1) _ _ _ ⟨hA, kt, o_kt⟩).mono ?_
    rintro e_W7 W7 ⟨rfl, O3, hT_W7, hf_W7⟩
    clear kt c_kt f_kt o_kt; have kt := hT_W7.blk; have o_kt := hT_W7.no
    have c_kt := cells_of kt
    have f_kt := free_of kt
    have l_kt_W7 := lt_of kt
    replace hF := hF.trans hf_W7
    have z_W7 := hf_W7.size
    clear hA hf_W7; have hA := hT_W7.hA; clear hT_W7
    go_wp2_with fail
    refine calls_gen fun VW8 hV_VW8 => ?_
    have n_kt := congrArg (fun v : World => v.heap[tb]?) hV_VW8
    simp (maxDischargeDepth := 9) only [BK, not_false_eq_true, reduceCtorEq, kt, l_kt_w, l_kt_VW1, l_kt_W1, l_kt_VW2, l_kt_W2, l_kt_VW3, l_kt_W3, l_kt_VW4, l_kt_W4, l_kt_VW5, l_kt_W5, l_kt_VW6, l_kt_W6, l_kt_VW7, l_kt_W7] at n_kt
    have n_F : Fr ((oneX tb)) O O3 w VW8 := nF hV_VW8
    have n_A : AP VW8 ap ((((t.opened x).opened (t.s.get x).k1).pair (t.s.get x).k0 ((t.opened x).s.get (t.s.get x).k1).k0).2).s O3 := nA hV_VW8
    have z_VW8 := Nat.le_of_eq (congrArg (fun v : World => v.heap.size) hV_VW8).symm
    try simp only [SZ] at z_VW8
    clear kt c_kt f_kt
    clear hV_VW8
    clear hA
    have hA := n_A
    clear n_A
    clear hF
    have hF := n_F
    clear n_F
    have kt := n_kt; clear n_kt
    have c_kt := cells_of kt
    have f_kt := free_of kt
    have l_kt_VW8 := lt_of kt
    refine (tPair_calls (t := (((t.opened x).opened (t.s.get x).k1).pair (t.s.get x).k0 ((t.opened x).s.get (t.s.get x).k1).k0).2) _ _ _ ⟨hA, kt, o_kt⟩).mono ?_
    rintro e_W8 W8 ⟨rfl, O4, hT_W8, hf_W8⟩
    clear kt c_kt f_kt o_kt; have kt := hT_W8.blk; have o_kt := hT_W8.no
    have c_kt := cells_of kt
    have f_kt := free_of kt
    have l_kt_W8 := lt_of kt
    replace hF := hF.trans hf_W8
    have z_W8 := hf_W8.size
    clear hA hf_W8; have hA := hT_W8.hA; clear hT_W8
    go_wp2_with fail
    refine calls_gen fun VW9 hV_VW9 => ?_
    have n_kt := congrArg (fun v : World => v.heap[tb]?) hV_VW9
    simp (maxDischargeDepth := 9) only [BK, not_false_eq_true, reduceCtorEq, kt, l_kt_w, l_kt_VW1, l_kt_W1, l_kt_VW2, l_kt_W2, l_kt_VW3, l_kt_W3, l_kt_VW4, l_kt_W4, l_kt_VW5, l_kt_W5, l_kt_VW6, l_kt_W6, l_kt_VW7, l_kt_W7, l_kt_VW8, l_kt_W8] at n_kt
    have n_F : Fr ((oneX tb)) O O4 w VW9 := nF hV_VW9
    have n_A : AP VW9 ap ((((((t.opened x).opened (t.s.get x).k1).pair (t.s.get x).k0 ((t.opened x).s.get (t.s.get x).k1).k0).2).pair ((t.opened x).s.get (t.s.get x).k1).k1 y).2).s O4 := nA hV_VW9
    have z_VW9 := Nat.le_of_eq (congrArg (fun v : World => v.heap.size) hV_VW9).symm
    try simp only [SZ] at z_VW9
    clear kt c_kt f_kt
    clear hV_VW9
    clear hA
    have hA := n_A
    clear n_A
    clear hF
    have hF := n_F
    clear n_F
    have kt := n_kt; clear n_kt
    have c_kt := cells_of kt
    have f_kt := free_of kt
    have l_kt_VW9 := lt_of kt
    refine (tPair_calls (t := ((((t.opened x).opened (t.s.get x).k1).pair (t.s.get x).k0 ((t.opened x).s.get (t.s.get x).k1).k0).2.pair ((t.opened x).s.get (t.s.get x).k1).k1 y).2) _ _ _ ⟨hA, kt, o_kt⟩).mono ?_
    rintro e_W9 W9 ⟨rfl, O5, hT_W9, hf_W9⟩
    clear kt c_kt f_kt o_kt; have kt := hT_W9.blk; have o_kt := hT_W9.no
    have c_kt := cells_of kt
    have f_kt := free_of kt
    have l_kt_W9 := lt_of kt
    replace hF := hF.trans hf_W9
    have z_W9 := hf_W9.size
    clear hA hf_W9; have hA := hT_W9.hA; clear hT_W9
    go_wp2_with fail
    go_ret
    exact ⟨rfl, O5, ⟨hA, kt, o_kt⟩, hF⟩
  ·
   have d2 : decide (wrap64 (q + 1) < p) = false := by simpa using c1
   rw [if_neg c1] at hr
   clear c1
   by_cases c3 : wrap64 (p + 1) < q
   ·
    have d4 : decide (wrap64 (p + 1) < q) = true := by simpa using c3
    rw [if_pos c3] at hr
    clear c3
    dsimp only at hr
    obtain ⟨a, h_b, h_r⟩ := Option.bind_eq_some_iff.1 hr
    have Ha := Lib.hid h_b; clear h_b hr; have hr := h_r; clear h_r
    obtain ⟨b, h_b, h_r⟩ := Option.bind_eq_some_iff.1 hr
    have Hb := Lib.hid h_b; clear h_b hr; have hr := h_r; clear h_r
    by_cases c2 : b ≤ a
    ·
     have d3 : decide (b ≤ a) = true := by simpa using c2
     rw [if_pos c2] at hr
     clear c2
     obtain rfl := Option.some.inj hr
     clear hr
     go_enter Tryz.func119, Tryz.ntmps119
     have hA := hT.hA
     have kt := hT.blk
     have o_kt := hT.no
     have c_kt := cells_of kt
     have f_kt := free_of kt
     have l_kt_w := lt_of kt
     go_wp2_with fail
     refine calls_gen fun VW1 hV_VW1 => ?_
     have n_kt := congrArg (fun v : World => v.heap[tb]?) hV_VW1
     simp (maxDischargeDepth := 9) only [BK, not_false_eq_true, reduceCtorEq, kt, l_kt_w] at n_kt
     have n_F : Fr ((oneX tb)) O O w VW1 := nF hV_VW1
     have n_A : AP VW1 ap t.s O := nA hV_VW1
     have z_VW1 := Nat.le_of_eq (congrArg (fun v : World => v.heap.size) hV_VW1).symm
     try simp only [SZ] at z_VW1
     clear kt c_kt f_kt
     clear hV_VW1
     clear hA
     have hA := n_A
     clear n_A
     skip
     have hF := n_F
     clear n_F
     have kt := n_kt; clear n_kt
     have c_kt := cells_of kt
     have f_kt := free_of kt
     have l_kt_VW1 := lt_of kt
     refine (tHigh_calls (t := t) _ _ _ _ Hp.out ⟨hA, kt, o_kt⟩).mono ?_
     rintro e_W1 W1 ⟨rfl, hb_W1⟩
     replace hA := hA.below hb_W1
     replace hF := hF.below hb_W1
     replace kt := keep_blk hb_W1 kt
     have c_kt := cells_of kt
     have f_kt := free_of kt
     have l_kt_W1 := lt_of kt
     have z_W1 := hb_W1.size
     clear hb_W1
     go_wp2_with fail
     refine calls_gen fun VW2 hV_VW2 => ?_
     have n_kt := congrArg (fun v : World => v.heap[tb]?) hV_VW2
     simp (maxDischargeDepth := 9) only [BK, not_false_eq_true, reduceCtorEq, kt, l_kt_w, l_kt_VW1, l_kt_W1] at n_kt
     have n_F : Fr ((oneX tb)) O O w VW2 := nF hV_VW2
     have n_A : AP VW2 ap t.s O := nA hV_VW2
     have z_VW2 := Nat.le_of_eq (congrArg (fun v : World => v.heap.size) hV_VW2).symm
     try simp only [SZ] at z_VW2
     clear kt c_kt f_kt
     clear hV_VW2
     clear hA
     have hA := n_A
     clear n_A
     clear hF
     have hF := n_F
     clear n_F
     have kt := n_kt; clear n_kt
     have c_kt := cells_of kt
     have f_kt := free_of kt
     have l_kt_VW2 := lt_of kt
     refine (tHigh_calls (t := t) _ _ _ _ Hq.out ⟨hA, kt, o_kt⟩).mono ?_
     rintro e_W2 W2 ⟨rfl, hb_W2⟩
     replace hA := hA.below hb_W2
     replace hF := hF.below hb_W2
     replace kt := keep_blk hb_W2 kt
     have c_kt := cells_of kt
     have f_kt := free_of kt
     have l_kt_W2 := lt_of kt
     have z_W2 := hb_W2.size
     clear hb_W2
     go_wp2_with fail
     refine calls_gen fun VW3 hV_VW3 => ?_
     have n_kt := congrArg (fun v : World => v.heap[tb]?) hV_VW3
     simp (maxDischargeDepth := 9) only [BK, not_false_eq_true, reduceCtorEq, kt, l_kt_w, l_kt_VW1, l_kt_W1, l_kt_VW2, l_kt_W2] at n_kt
     have n_F : Fr ((oneX tb)) O O w VW3 := nF hV_VW3
     have n_A : AP VW3 ap t.s O := nA hV_VW3
     have z_VW3 := Nat.le_of_eq (congrArg (fun v : World => v.heap.size) hV_VW3).symm
     try simp only [SZ] at z_VW3
     clear kt c_kt f_kt
     clear hV_VW3
     clear hA
     have hA := n_A
     clear n_A
     clear hF
     have hF := n_F
     clear n_F
     have kt := n_kt; clear n_kt
     have c_kt := cells_of kt
     have f_kt := free_of kt
     have l_kt_VW3 := lt_of kt
     refine (tOpen_calls (t := t) y _ ⟨hA, kt, o_kt⟩).mono ?_
     rintro e_W3 W3 ⟨rfl, O1, hT_W3, hf_W3⟩
     clear kt c_kt f_kt o_kt; have kt := hT_W3.blk; have o_kt := hT_W3.no
     have c_kt := cells_of kt
     have f_kt := free_of kt
     have l_kt_W3 := lt_of kt
     replace hF := hF.trans hf_W3
     have z_W3 := hf_W3.size
     clear hA hf_W3; have hA := hT_W3.hA; clear hT_W3
     go_wp2_with fail
     refine calls_gen fun VW4 hV_VW4 => ?_
     have n_kt := congrArg (fun v : World => v.heap[tb]?) hV_VW4
     simp (maxDischargeDepth := 9) only [BK, not_false_eq_true, reduceCtorEq, kt, l_kt_w, l_kt_VW1, l_kt_W1, l_kt_VW2, l_kt_W2, l_kt_VW3, l_kt_W3] at n_kt
     have n_F : Fr ((oneX tb)) O O1 w VW4 := nF hV_VW4
     have n_A : AP VW4 ap ((t).opened y).s O1 := nA hV_VW4
     have z_VW4 := Nat.le_of_eq (congrArg (fun v : World => v.heap.size) hV_VW4).symm
     try simp only [SZ] at z_VW4
     clear kt c_kt f_kt
     clear hV_VW4
     clear hA
     have hA := n_A
     clear n_A
     clear hF
     have hF := n_F
     clear n_F
     have kt := n_kt; clear n_kt
     have c_kt := cells_of kt
     have f_kt := free_of kt
     have l_kt_VW4 := lt_of kt
     refine (tHigh_calls (t := t.opened y) _ _ _ _ Ha.out ⟨hA, kt, o_kt⟩).mono ?_
     rintro e_W4 W4 ⟨rfl, hb_W4⟩
     replace hA := hA.below hb_W4
     replace hF := hF.below hb_W4
     replace kt := keep_blk hb_W4 kt
     have c_kt := cells_of kt
     have f_kt := free_of kt
     have l_kt_W4 := lt_of kt
     have z_W4 := hb_W4.size
     clear hb_W4
     go_wp2_with fail
     refine calls_gen fun VW5 hV_VW5 => ?_
     have n_kt := congrArg (fun v : World => v.heap[tb]?) hV_VW5
     simp (maxDischargeDepth := 9) only [BK, not_false_eq_true, reduceCtorEq, kt, l_kt_w, l_kt_VW1, l_kt_W1, l_kt_VW2, l_kt_W2, l_kt_VW3, l_kt_W3, l_kt_VW4, l_kt_W4] at n_kt
     have n_F : Fr ((oneX tb)) O O1 w VW5 := nF hV_VW5
     have n_A : AP VW5 ap ((t).opened y).s O1 := nA hV_VW5
     have z_VW5 := Nat.le_of_eq (congrArg (fun v : World => v.heap.size) hV_VW5).symm
     try simp only [SZ] at z_VW5
     clear kt c_kt f_kt
     clear hV_VW5
     clear hA
     have hA := n_A
     clear n_A
     clear hF
     have hF := n_F
     clear n_F
     have kt := n_kt; clear n_kt
     have c_kt := cells_of kt
     have f_kt := free_of kt
     have l_kt_VW5 := lt_of kt
     refine (tHigh_calls (t := t.opened y) _ _ _ _ Hb.out ⟨hA, kt, o_kt⟩).mono ?_
     rintro e_W5 W5 ⟨rfl, hb_W5⟩
     replace hA := hA.below hb_W5
     replace hF := hF.below hb_W5
     replace kt := keep_blk hb_W5 kt
     have c_kt := cells_of kt
     have f_kt := free_of kt
     have l_kt_W5 := lt_of kt
     have z_W5 := hb_W5.size
     clear hb_W5
     go_wp2_with fail
     refine calls_gen fun VW6 hV_VW6 => ?_
     have n_kt := congrArg (fun v : World => v.heap[tb]?) hV_VW6
     simp (maxDischargeDepth := 9) only [BK, not_false_eq_true, reduceCtorEq, kt, l_kt_w, l_kt_VW1, l_kt_W1, l_kt_VW2, l_kt_W2, l_kt_VW3, l_kt_W3, l_kt_VW4, l_kt_W4, l_kt_VW5, l_kt_W5] at n_kt
     have n_F : Fr ((oneX tb)) O O1 w VW6 := nF hV_VW6
     have n_A : AP VW6 ap ((t).opened y).s O1 := nA hV_VW6
     have z_VW6 := Nat.le_of_eq (congrArg (fun v : World => v.heap.size) hV_VW6).symm
     try simp only [SZ] at z_VW6
     clear kt c_kt f_kt
     clear hV_VW6
     clear hA
     have hA := n_A
     clear n_A
     clear hF
     have hF := n_F
     clear n_F
     have kt := n_kt; clear n_kt
     have c_kt := cells_of kt
     have f_kt := free_of kt
     have l_kt_VW6 := lt_of kt
     refine (tPair_calls (t := t.opened y) _ _ _ ⟨hA, kt, o_kt⟩).mono ?_
     rintro e_W6 W6 ⟨rfl, O2, hT_W6, hf_W6⟩
     clear kt c_kt f_kt o_kt; have kt := hT_W6.blk; have o_kt := hT_W6.no
     have c_kt := cells_of kt
     have f_kt := free_of kt
     have l_kt_W6 := lt_of kt
     replace hF := hF.trans hf_W6
     have z_W6 := hf_W6.size
     clear hA hf_W6; have hA := hT_W6.hA; clear hT_W6
     go_wp2_with fail
     refine calls_gen fun VW7 hV_VW7 => ?_
     have n_kt := congrArg (fun v : World => v.heap[tb]?) hV_VW7
     simp (maxDischargeDepth := 9) only [BK, not_false_eq_true, reduceCtorEq, kt, l_kt_w, l_kt_VW1, l_kt_W1, l_kt_VW2, l_kt_W2, l_kt_VW3, l_kt_W3, l_kt_VW4, l_kt_W4, l_kt_VW5, l_kt_W5, l_kt_VW6, l_kt_W6] at n_kt
     have n_F : Fr ((oneX tb)) O O2 w VW7 := nF hV_VW7
     have n_A : AP VW7 ap (((t.opened y).pair x (t.s.get y).k0).2).s O2 := nA hV_VW7
     have z_VW7 := Nat.le_of_eq (congrArg (fun v : World => v.heap.size) hV_VW7).symm
     try simp only [SZ] at z_VW7
     clear kt c_kt f_kt
     clear hV_VW7
     clear hA
     have hA := n_A
     clear n_A
     clear hF
     have hF := n_F
     clear n_F
     have kt := n_kt; clear n_kt
     have c_kt := cells_of kt
     have f_kt := free_of kt
     have l_kt_VW7 := lt_of kt
     refine (tPair_calls (t := ((t.opened y).pair x (t.s.get y).k0).2) _ _ _ ⟨hA, kt, o_kt⟩).mono ?_
     rintro e_W7 W7 ⟨rfl, O3, hT_W7, hf_W7⟩
     clear kt c_kt f_kt o_kt; have kt := hT_W7.blk; have o_kt := hT_W7.no
     have c_kt := cells_of kt
     have f_kt := free_of kt
     have l_kt_W7 := lt_of kt
     replace hF := hF.trans hf_W7
     have z_W7 := hf_W7.size
     clear hA hf_W7; have hA := hT_W7.hA; clear hT_W7
     go_wp2_with fail
     go_ret
     exact ⟨rfl, O3, ⟨hA, kt, o_kt⟩, hF⟩
    ·
     have d3 : decide (b ≤ a) = false := by simpa using c2
     rw [if_neg c2] at hr
     clear c2
     obtain rfl := Option.some.inj hr
     clear hr
     go_enter Tryz.func119, Tryz.ntmps119
     have hA := hT.hA
     have kt := hT.blk
     have o_kt := hT.no
     have c_kt := cells_of kt
     have f_kt := free_of kt
     have l_kt_w := lt_of kt
     go_wp2_with fail
     refine calls_gen fun VW1 hV_VW1 => ?_
     have n_kt := congrArg (fun v : World => v.heap[tb]?) hV_VW1
     simp (maxDischargeDepth := 9) only [BK, not_false_eq_true, reduceCtorEq, kt, l_kt_w] at n_kt
     have n_F : Fr ((oneX tb)) O O w VW1 := nF hV_VW1
     have n_A : AP VW1 ap t.s O := nA hV_VW1
     have z_VW1 := Nat.le_of_eq (congrArg (fun v : World => v.heap.size) hV_VW1).symm
     try simp only [SZ] at z_VW1
     clear kt c_kt f_kt
     clear hV_VW1
     clear hA
     have hA := n_A
     clear n_A
     skip
     have hF := n_F
     clear n_F
     have kt := n_kt; clear n_kt
     have c_kt := cells_of kt
     have f_kt := free_of kt
     have l_kt_VW1 := lt_of kt
     refine (tHigh_calls (t := t) _ _ _ _ Hp.out ⟨hA, kt, o_kt⟩).mono ?_
     rintro e_W1 W1 ⟨rfl, hb_W1⟩
     replace hA := hA.below hb_W1
     replace hF := hF.below hb_W1
     replace kt := keep_blk hb_W1 kt
     have c_kt := cells_of kt
     have f_kt := free_of kt
     have l_kt_W1 := lt_of kt
     have z_W1 := hb_W1.size
     clear hb_W1
     go_wp2_with fail
     refine calls_gen fun VW2 hV_VW2 => ?_
     have n_kt := congrArg (fun v : World => v.heap[tb]?) hV_VW2
     simp (maxDischargeDepth := 9) only [BK, not_false_eq_true, reduceCtorEq, kt, l_kt_w, l_kt_VW1, l_kt_W1] at n_kt
     have n_F : Fr ((oneX tb)) O O w VW2 := nF hV_VW2
     have n_A : AP VW2 ap t.s O := nA hV_VW2
     have z_VW2 := Nat.le_of_eq (congrArg (fun v : World => v.heap.size) hV_VW2).symm
     try simp only [SZ] at z_VW2
     clear kt c_kt f_kt
     clear hV_VW2
     clear hA
     have hA := n_A
     clear n_A
     clear hF
     have hF := n_F
     clear n_F
     have kt := n_kt; clear n_kt
     have c_kt := cells_of kt
     have f_kt := free_of kt
     have l_kt_VW2 := lt_of kt
     refine (tHigh_calls (t := t) _ _ _ _ Hq.out ⟨hA, kt, o_kt⟩).mono ?_
     rintro e_W2 W2 ⟨rfl, hb_W2⟩
     replace hA := hA.below hb_W2
     replace hF := hF.below hb_W2
     replace kt := keep_blk hb_W2 kt
     have c_kt := cells_of kt
     have f_kt := free_of kt
     have l_kt_W2 := lt_of kt
     have z_W2 := hb_W2.size
     clear hb_W2
     go_wp2_with fail
     refine calls_gen fun VW3 hV_VW3 => ?_
     have n_kt := congrArg (fun v : World => v.heap[tb]?) hV_VW3
     simp (maxDischargeDepth := 9) only [BK, not_false_eq_true, reduceCtorEq, kt, l_kt_w, l_kt_VW1, l_kt_W1, l_kt_VW2, l_kt_W2] at n_kt
     have n_F : Fr ((oneX tb)) O O w VW3 := nF hV_VW3
     have n_A : AP VW3 ap t.s O := nA hV_VW3
     have z_VW3 := Nat.le_of_eq (congrArg (fun v : World => v.heap.size) hV_VW3).symm
     try simp only [SZ] at z_VW3
     clear kt c_kt f_kt
     clear hV_VW3
     clear hA
     have hA := n_A
     clear n_A
     clear hF
     have hF := n_F
     clear n_F
     have kt := n_kt; clear n_kt
     have c_kt := cells_of kt
     have f_kt := free_of kt
     have l_kt_VW3 := lt_of kt
     refine (tOpen_calls (t := t) y _ ⟨hA, kt, o_kt⟩).mono ?_
     rintro e_W3 W3 ⟨rfl, O1, hT_W3, hf_W3⟩
     clear kt c_kt f_kt o_kt; have kt := hT_W3.blk; have o_kt := hT_W3.no
     have c_kt := cells_of kt
     have f_kt := free_of kt
     have l_kt_W3 := lt_of kt
     replace hF := hF.trans hf_W3
     have z_W3 := hf_W3.size
     clear hA hf_W3; have hA := hT_W3.hA; clear hT_W3
     go_wp2_with fail
     refine calls_gen fun VW4 hV_VW4 => ?_
     have n_kt := congrArg (fun v : World => v.heap[tb]?) hV_VW4
     simp (maxDischargeDepth := 9) only [BK, not_false_eq_true, reduceCtorEq, kt, l_kt_w, l_kt_VW1, l_kt_W1, l_kt_VW2, l_kt_W2, l_kt_VW3, l_kt_W3] at n_kt
     have n_F : Fr ((oneX tb)) O O1 w VW4 := nF hV_VW4
     have n_A : AP VW4 ap ((t).opened y).s O1 := nA hV_VW4
     have z_VW4 := Nat.le_of_eq (congrArg (fun v : World => v.heap.size) hV_VW4).symm
     try simp only [SZ] at z_VW4
     clear kt c_kt f_kt
     clear hV_VW4
     clear hA
     have hA := n_A
     clear n_A
     clear hF
     have hF := n_F
     clear n_F
     have kt := n_kt; clear n_kt
     have c_kt := cells_of kt
     have f_kt := free_of kt
     have l_kt_VW4 := lt_of kt
     refine (tHigh_calls (t := t.opened y) _ _ _ _ Ha.out ⟨hA, kt, o_kt⟩).mono ?_
     rintro e_W4 W4 ⟨rfl, hb_W4⟩
     replace hA := hA.below hb_W4
     replace hF := hF.below hb_W4
     replace kt := keep_blk hb_W4 kt
     have c_kt := cells_of kt
     have f_kt := free_of kt
     have l_kt_W4 := lt_of kt
     have z_W4 := hb_W4.size
     clear hb_W4
     go_wp2_with fail
     refine calls_gen fun VW5 hV_VW5 => ?_
     have n_kt := congrArg (fun v : World => v.heap[tb]?) hV_VW5
     simp (maxDischargeDepth := 9) only [BK, not_false_eq_true, reduceCtorEq, kt, l_kt_w, l_kt_VW1, l_kt_W1, l_kt_VW2, l_kt_W2, l_kt_VW3, l_kt_W3, l_kt_VW4, l_kt_W4] at n_kt
     have n_F : Fr ((oneX tb)) O O1 w VW5 := nF hV_VW5
     have n_A : AP VW5 ap ((t).opened y).s O1 := nA hV_VW5
     have z_VW5 := Nat.le_of_eq (congrArg (fun v : World => v.heap.size) hV_VW5).symm
     try simp only [SZ] at z_VW5
     clear kt c_kt f_kt
     clear hV_VW5
     clear hA
     have hA := n_A
     clear n_A
     clear hF
     have hF := n_F
     clear n_F
     have kt := n_kt; clear n_kt
     have c_kt := cells_of kt
     have f_kt := free_of kt
     have l_kt_VW5 := lt_of kt
     refine (tHigh_calls (t := t.opened y) _ _ _ _ Hb.out ⟨hA, kt, o_kt⟩).mono ?_
     rintro e_W5 W5 ⟨rfl, hb_W5⟩
     replace hA := hA.below hb_W5
     replace hF := hF.below hb_W5
     replace kt := keep_blk hb_W5 kt
     have c_kt := cells_of kt
     have f_kt := free_of kt
     have l_kt_W5 := lt_of kt
     have z_W5 := hb_W5.size
     clear hb_W5
     go_wp2_with fail
     refine calls_gen fun VW6 hV_VW6 => ?_
     have n_kt := congrArg (fun v : World => v.heap[tb]?) hV_VW6
     simp (maxDischargeDepth := 9) only [BK, not_false_eq_true, reduceCtorEq, kt, l_kt_w, l_kt_VW1, l_kt_W1, l_kt_VW2, l_kt_W2, l_kt_VW3, l_kt_W3, l_kt_VW4, l_kt_W4, l_kt_VW5, l_kt_W5] at n_kt
     have n_F : Fr ((oneX tb)) O O1 w VW6 := nF hV_VW6
     have n_A : AP VW6 ap ((t).opened y).s O1 := nA hV_VW6
     have z_VW6 := Nat.le_of_eq (congrArg (fun v : World => v.heap.size) hV_VW6).symm
     try simp only [SZ] at z_VW6
     clear kt c_kt f_kt
     clear hV_VW6
     clear hA
     have hA := n_A
     clear n_A
     clear hF
     have hF := n_F
     clear n_F
     have kt := n_kt; clear n_kt
     have c_kt := cells_of kt
     have f_kt := free_of kt
     have l_kt_VW6 := lt_of kt
     refine (tOpen_calls (t := t.opened y) (t.s.get y).k0 _ ⟨hA, kt, o_kt⟩).mono ?_
     rintro e_W6 W6 ⟨rfl, O2, hT_W6, hf_W6⟩
     clear kt c_kt f_kt o_kt; have kt := hT_W6.blk; have o_kt := hT_W6.no
     have c_kt := cells_of kt
     have f_kt := free_of kt
     have l_kt_W6 := lt_of kt
     replace hF := hF.trans hf_W6
     have z_W6 := hf_W6.size
     clear hA hf_W6; have hA := hT_W6.hA; clear hT_W6
     go_wp2_with fail
     refine calls_gen fun VW7 hV_VW7 => ?_
     have n_kt := congrArg (fun v : World => v.heap[tb]?) hV_VW7
     simp (maxDischargeDepth := 9) only [BK, not_false_eq_true, reduceCtorEq, kt, l_kt_w, l_kt_VW1, l_kt_W1, l_kt_VW2, l_kt_W2, l_kt_VW3, l_kt_W3, l_kt_VW4, l_kt_W4, l_kt_VW5, l_kt_W5, l_kt_VW6, l_kt_W6] at n_kt
     have n_F : Fr ((oneX tb)) O O2 w VW7 := nF hV_VW7
     have n_A : AP VW7 ap ((t.opened y).opened (t.s.get y).k0).s O2 := nA hV_VW7
     have z_VW7 := Nat.le_of_eq (congrArg (fun v : World => v.heap.size) hV_VW7).symm
     try simp only [SZ] at z_VW7
     clear kt c_kt f_kt
     clear hV_VW7
     clear hA
     have hA := n_A
     clear n_A
     clear hF
     have hF := n_F
     clear n_F
     have kt := n_kt; clear n_kt
     have c_kt := cells_of kt
     have f_kt := free_of kt
     have l_kt_VW7 := lt_of kt
     refine (tPair_calls (t := (t.opened y).opened (t.s.get y).k0) _ _ _ ⟨hA, kt, o_kt⟩).mono ?_
     rintro e_W7 W7 ⟨rfl, O3, hT_W7, hf_W7⟩
     clear kt c_kt f_kt o_kt; have kt := hT_W7.blk; have o_kt := hT_W7.no
     have c_kt := cells_of kt
     have f_kt := free_of kt
     have l_kt_W7 := lt_of kt
     replace hF := hF.trans hf_W7
     have z_W7 := hf_W7.size
     clear hA hf_W7; have hA := hT_W7.hA; clear hT_W7
     go_wp2_with fail
     refine calls_gen fun VW8 hV_VW8 => ?_
     have n_kt := congrArg (fun v : World => v.heap[tb]?) hV_VW8
     simp (maxDischargeDepth := 9) only [BK, not_false_eq_true, reduceCtorEq, kt, l_kt_w, l_kt_VW1, l_kt_W1, l_kt_VW2, l_kt_W2, l_kt_VW3, l_kt_W3, l_kt_VW4, l_kt_W4, l_kt_VW5, l_kt_W5, l_kt_VW6, l_kt_W6, l_kt_VW7, l_kt_W7] at n_kt
     have n_F : Fr ((oneX tb)) O O3 w VW8 := nF hV_VW8
     have n_A : AP VW8 ap ((((t.opened y).opened (t.s.get y).k0).pair x ((t.opened y).s.get (t.s.get y).k0).k0).2).s O3 := nA hV_VW8
     have z_VW8 := Nat.le_of_eq (congrArg (fun v : World => v.heap.size) hV_VW8).symm
     try simp only [SZ] at z_VW8
     clear kt c_kt f_kt
     clear hV_VW8
     clear hA
     have hA := n_A
     clear n_A
     clear hF
     have hF := n_F
     clear n_F
     have kt := n_kt; clear n_kt
     have c_kt := cells_of kt
     have f_kt := free_of kt
     have l_kt_VW8 := lt_of kt
     refine (tPair_calls (t := (((t.opened y).opened (t.s.get y).k0).pair x ((t.opened y).s.get (t.s.get y).k0).k0).2) _ _ _ ⟨hA, kt, o_kt⟩).mono ?_
     rintro e_W8 W8 ⟨rfl, O4, hT_W8, hf_W8⟩
     clear kt c_kt f_kt o_kt; have kt := hT_W8.blk; have o_kt := hT_W8.no
     have c_kt := cells_of kt
     have f_kt := free_of kt
     have l_kt_W8 := lt_of kt
     replace hF := hF.trans hf_W8
     have z_W8 := hf_W8.size
     clear hA hf_W8; have hA := hT_W8.hA; clear hT_W8
     go_wp2_with fail
     refine calls_gen fun VW9 hV_VW9 => ?_
     have n_kt := congrArg (fun v : World => v.heap[tb]?) hV_VW9
     simp (maxDischargeDepth := 9) only [BK, not_false_eq_true, reduceCtorEq, kt, l_kt_w, l_kt_VW1, l_kt_W1, l_kt_VW2, l_kt_W2, l_kt_VW3, l_kt_W3, l_kt_VW4, l_kt_W4, l_kt_VW5, l_kt_W5, l_kt_VW6, l_kt_W6, l_kt_VW7, l_kt_W7, l_kt_VW8, l_kt_W8] at n_kt
     have n_F : Fr ((oneX tb)) O O4 w VW9 := nF hV_VW9
     have n_A : AP VW9 ap ((((((t.opened y).opened (t.s.get y).k0).pair x ((t.opened y).s.get (t.s.get y).k0).k0).2).pair ((t.opened y).s.get (t.s.get y).k0).k1 (t.s.get y).k1).2).s O4 := nA hV_VW9
     have z_VW9 := Nat.le_of_eq (congrArg (fun v : World => v.heap.size) hV_VW9).symm
     try simp only [SZ] at z_VW9
     clear kt c_kt f_kt
     clear hV_VW9
     clear hA
     have hA := n_A
     clear n_A
     clear hF
     have hF := n_F
     clear n_F
     have kt := n_kt; clear n_kt
     have c_kt := cells_of kt
     have f_kt := free_of kt
     have l_kt_VW9 := lt_of kt
     refine (tPair_calls (t := ((((t.opened y).opened (t.s.get y).k0).pair x ((t.opened y).s.get (t.s.get y).k0).k0).2.pair ((t.opened y).s.get (t.s.get y).k0).k1 (t.s.get y).k1).2) _ _ _ ⟨hA, kt, o_kt⟩).mono ?_
     rintro e_W9 W9 ⟨rfl, O5, hT_W9, hf_W9⟩
     clear kt c_kt f_kt o_kt; have kt := hT_W9.blk; have o_kt := hT_W9.no
     have c_kt := cells_of kt
     have f_kt := free_of kt
     have l_kt_W9 := lt_of kt
     replace hF := hF.trans hf_W9
     have z_W9 := hf_W9.size
     clear hA hf_W9; have hA := hT_W9.hA; clear hT_W9
     go_wp2_with fail
     go_ret
     exact ⟨rfl, O5, ⟨hA, kt, o_kt⟩, hF⟩
   ·
    have d4 : decide (wrap64 (p + 1) < q) = false := by simpa using c3
    rw [if_neg c3] at hr
    clear c3
    obtain rfl := Option.some.inj hr
    clear hr
    go_enter Tryz.func119, Tryz.ntmps119
    have hA := hT.hA
    have kt := hT.blk
    have o_kt := hT.no
    have c_kt := cells_of kt
    have f_kt := free_of kt
    have l_kt_w := lt_of kt
    go_wp2_with fail
    refine calls_gen fun VW1 hV_VW1 => ?_
    have n_kt := congrArg (fun v : World => v.heap[tb]?) hV_VW1
    simp (maxDischargeDepth := 9) only [BK, not_false_eq_true, reduceCtorEq, kt, l_kt_w] at n_kt
    have n_F : Fr ((oneX tb)) O O w VW1 := nF hV_VW1
    have n_A : AP VW1 ap t.s O := nA hV_VW1
    have z_VW1 := Nat.le_of_eq (congrArg (fun v : World => v.heap.size) hV_VW1).symm
    try simp only [SZ] at z_VW1
    clear kt c_kt f_kt
    clear hV_VW1
    clear hA
    have hA := n_A
    clear n_A
    skip
    have hF := n_F
    clear n_F
    have kt := n_kt; clear n_kt
    have c_kt := cells_of kt
    have f_kt := free_of kt
    have l_kt_VW1 := lt_of kt
    refine (tHigh_calls (t := t) _ _ _ _ Hp.out ⟨hA, kt, o_kt⟩).mono ?_
    rintro e_W1 W1 ⟨rfl, hb_W1⟩
    replace hA := hA.below hb_W1
    replace hF := hF.below hb_W1
    replace kt := keep_blk hb_W1 kt
    have c_kt := cells_of kt
    have f_kt := free_of kt
    have l_kt_W1 := lt_of kt
    have z_W1 := hb_W1.size
    clear hb_W1
    go_wp2_with fail
    refine calls_gen fun VW2 hV_VW2 => ?_
    have n_kt := congrArg (fun v : World => v.heap[tb]?) hV_VW2
    simp (maxDischargeDepth := 9) only [BK, not_false_eq_true, reduceCtorEq, kt, l_kt_w, l_kt_VW1, l_kt_W1] at n_kt
    have n_F : Fr ((oneX tb)) O O w VW2 := nF hV_VW2
    have n_A : AP VW2 ap t.s O := nA hV_VW2
    have z_VW2 := Nat.le_of_eq (congrArg (fun v : World => v.heap.size) hV_VW2).symm
    try simp only [SZ] at z_VW2
    clear kt c_kt f_kt
    clear hV_VW2
    clear hA
    have hA := n_A
    clear n_A
    clear hF
    have hF := n_F
    clear n_F
    have kt := n_kt; clear n_kt
    have c_kt := cells_of kt
    have f_kt := free_of kt
    have l_kt_VW2 := lt_of kt
    refine (tHigh_calls (t := t) _ _ _ _ Hq.out ⟨hA, kt, o_kt⟩).mono ?_
    rintro e_W2 W2 ⟨rfl, hb_W2⟩
    replace hA := hA.below hb_W2
    replace hF := hF.below hb_W2
    replace kt := keep_blk hb_W2 kt
    have c_kt := cells_of kt
    have f_kt := free_of kt
    have l_kt_W2 := lt_of kt
    have z_W2 := hb_W2.size
    clear hb_W2
    go_wp2_with fail
    refine calls_gen fun VW3 hV_VW3 => ?_
    have n_kt := congrArg (fun v : World => v.heap[tb]?) hV_VW3
    simp (maxDischargeDepth := 9) only [BK, not_false_eq_true, reduceCtorEq, kt, l_kt_w, l_kt_VW1, l_kt_W1, l_kt_VW2, l_kt_W2] at n_kt
    have n_F : Fr ((oneX tb)) O O w VW3 := nF hV_VW3
    have n_A : AP VW3 ap t.s O := nA hV_VW3
    have z_VW3 := Nat.le_of_eq (congrArg (fun v : World => v.heap.size) hV_VW3).symm
    try simp only [SZ] at z_VW3
    clear kt c_kt f_kt
    clear hV_VW3
    clear hA
    have hA := n_A
    clear n_A
    clear hF
    have hF := n_F
    clear n_F
    have kt := n_kt; clear n_kt
    have c_kt := cells_of kt
    have f_kt := free_of kt
    have l_kt_VW3 := lt_of kt
    refine (tPair_calls (t := t) _ _ _ ⟨hA, kt, o_kt⟩).mono ?_
    rintro e_W3 W3 ⟨rfl, O1, hT_W3, hf_W3⟩
    clear kt c_kt f_kt o_kt; have kt := hT_W3.blk; have o_kt := hT_W3.no
    have c_kt := cells_of kt
    have f_kt := free_of kt
    have l_kt_W3 := lt_of kt
    replace hF := hF.trans hf_W3
    have z_W3 := hf_W3.size
    clear hA hf_W3; have hA := hT_W3.hA; clear hT_W3
    go_wp2_with fail
    go_ret
    exact ⟨rfl, O1, ⟨hA, kt, o_kt⟩, hF⟩
 ·
  have d1 : (t.e != 0) = true := by simp [he]
  rw [if_neg he] at hr
  clear he
  obtain rfl := Option.some.inj hr
  clear hr
  go_enter Tryz.func119, Tryz.ntmps119
  have hA := hT.hA
  have kt := hT.blk
  have o_kt := hT.no
  have c_kt := cells_of kt
  have f_kt := free_of kt
  have l_kt_w := lt_of kt
  go_wp2_with fail
  refine calls_gen fun V hV_V => ?_
  have n_kt := congrArg (fun v : World => v.heap[tb]?) hV_V
  simp (maxDischargeDepth := 9) only [BK, not_false_eq_true, reduceCtorEq, kt, l_kt_w] at n_kt
  have n_kl := congrArg (fun v : World => v.heap[w.heap.size]?) hV_V
  simp (maxDischargeDepth := 9) only [BK, not_false_eq_true, reduceCtorEq, kt, l_kt_w] at n_kl
  have o_kl : ¬ O (w.heap.size) := by first | exact hA.new (Nat.le_refl _) | exact hA.new (by omega)
  have n_F : Fr ((oneX tb)) O O w V := nF hV_V
  have n_A : AP V ap t.s O := nA hV_V
  have z_V := Nat.le_of_eq (congrArg (fun v : World => v.heap.size) hV_V).symm
  try simp only [SZ] at z_V
  clear kt c_kt f_kt
  clear hV_V
  clear hA
  have hA := n_A
  clear n_A
  skip
  have hF := n_F
  clear n_F
  have kt := n_kt; clear n_kt
  have c_kt := cells_of kt
  have f_kt := free_of kt
  have l_kt_V := lt_of kt
  have kl := n_kl; clear n_kl
  have c_kl := cells_of kl
  have f_kl := free_of kl
  have l_kl_V := lt_of kl
  refine (tDrop_calls [x, y] w.heap.size 0 2 _ _ (by simp) _ ⟨hA, kt, o_kt⟩ kl (two_cell x y) o_kl (by omega) 2 rfl).mono ?_
  rintro e_W1 W1 ⟨rfl, O1, hT_W1, hf_W1⟩
  have q_kl := hf_W1.keep kl o_kl (by unfold oneX; omega)
  replace o_kl := hf_W1.not_own (lt_of kl) o_kl
  clear kl; have kl := q_kl; clear q_kl
  have c_kl := cells_of kl
  have f_kl := free_of kl
  have l_kl_W1 := lt_of kl
  clear kt c_kt f_kt o_kt; have kt := hT_W1.blk; have o_kt := hT_W1.no
  have c_kt := cells_of kt
  have f_kt := free_of kt
  have l_kt_W1 := lt_of kt
  replace hF := hF.trans hf_W1
  have z_W1 := hf_W1.size
  clear hA hf_W1; have hA := hT_W1.hA; clear hT_W1
  go_wp2_with fail
  go_ret
  exact ⟨rfl, O1, ⟨hA, kt, o_kt⟩, hF⟩
end Go.Proofs.YtpdpcgmkpgfblaaGreat
/- The tree that makes nodes of rows of bits: insert. -/
namespace Go.Proofs.YtpdpcgmkpgfblaaGreat
set_option linter.unusedSimpArgs false
set_option linter.unusedVariables false
set_option linter.unnecessarySimpa false
open Go.RowKit
attribute [local go_sem ↓] Go.wp_at_zero Go.wp_at_succ
attribute [local go_sem] lt_s2 lt_s3 lt_s4
variable {ap : Value} {O : Nat → Prop} {tb : Nat} {t : Tb}
theorem lfL_le (a n : Int) : (lfL a n).length ≤ 64 := by
 unfold lfL; split
 ·
  rename_i h
  rw [unpack_length]
  have h0 := h.1; have h1 := h.2.1
  omega
 ·
  simp
theorem insR_le (ok : Bool) (l : List Bool) (i : Int) (one : Bool) : (insR ok l i one).length ≤ 64 := by
 unfold insR; split
 ·
  rename_i h
  unfold insOk at h
  simp only [Bool.and_eq_true, decide_eq_true_eq] at h
  rw [insL_length]; omega
 ·
  simp
theorem insert_l (l : List Bool) (hl : l.length ≤ 64) (i : Int) (one : Bool) (w : World) : Calls Tryz.prog 115 #[.agg #[.int .u64 (pack l : Int), .int .i64 (l.length : Int)], .int .i64 i, .bool one] w fun e w' =>
  e = .returned (.tuple #[.agg #[.int .u64 (pack (insR true l i one) : Int), .int .i64 ((insR true l i one).length : Int)], .bool (insOk true l i)]) ∧ Below w.heap.size w w' := insert_lf (lf_self hl) i one _ _ rfl rfl w
theorem insert_nil (one : Bool) (w : World) : Calls Tryz.prog 115 #[.agg #[.int .u64 0, .int .i64 0], .int .i64 0, .bool one] w fun e w' =>
  e = .returned (.tuple #[.agg #[.int .u64 (pack (insR true [] 0 one) : Int), .int .i64 ((insR true [] 0 one).length : Int)], .bool (insOk true [] 0)]) ∧ Below w.heap.size w w' := insert_l [] (by simp) 0 one w
theorem split_32 {a n : Int} (hU : U64 a) (l1 l2 : List Bool) (h1 : l1 = (lfL a n).take 32) (h2 : l2 = (lfL a n).drop 32) (w : World) : Calls Tryz.prog 117 #[.agg #[.int .u64 a, .int .i64 n], .int .i64 32] w fun e w' =>
  e = .returned (.tuple #[.agg #[.int .u64 (pack l1 : Int), .int .i64 (l1.length : Int)], .agg #[.int .u64 (pack l2 : Int), .int .i64 (l2.length : Int)]]) ∧ Below w.heap.size w w' := by
 subst h1 h2; exact split_i hU 32 w
theorem insert_c (l c : List Bool) (hl : l.length ≤ 64) (i : Int) (one : Bool) (hc : c = insR true l i one) (w : World) : Calls Tryz.prog 115 #[.agg #[.int .u64 (pack l : Int), .int .i64 (l.length : Int)], .int .i64 i, .bool one] w fun e w' =>
  e = .returned (.tuple #[.agg #[.int .u64 (pack c : Int), .int .i64 (c.length : Int)], .bool (insOk true l i)]) ∧ Below w.heap.size w w' := by
 subst hc; exact insert_l l hl i one w
theorem two_def (t : Tb) (a b : List Bool) : t.two a b = ((t.leaf a).2.leaf b).2.pairOr (t.leaf a).1 ((t.leaf a).2.leaf b).1 := rfl
set_option maxRecDepth 100000 in
set_option maxHeartbeats 2000000 in
theorem tIns_nil (one : Bool) (k : Nat) (h i : Int) (r : Int × Tb) (w : World) (hT : TB w tb ap t O) (h1 : bIs t.s h = false) (hr : some (t.leaf (insR true [] 0 one)) = some r) :
  Calls Tryz.prog 84 #[.pointer (some ⟨tb, 0, none⟩), .int .i64 h, .int .i64 i, .bool one] w fun e w' => e = .returned (.int .i64 r.1) ∧ DidT tb ap r.2 O w w' := by
 obtain rfl := Option.some.inj hr
 clear hr
 go_enter Tryz.func84, Tryz.ntmps84
 have hA := hT.hA
 have kt := hT.blk
 have o_kt := hT.no
 have c_kt := cells_of kt
 have f_kt := free_of kt
 have l_kt_w := lt_of kt
 go_wp2_with fail
 refine calls_gen fun V hV_V => ?_
 have n_kt := congrArg (fun v : World => v.heap[tb]?) hV_V
 simp (maxDischargeDepth := 9) only [BK, not_false_eq_true, reduceCtorEq, kt, l_kt_w] at n_kt
 have n_F : Fr ((oneX tb)) O O w V := nF hV_V
 have n_A : AP V ap t.s O := nA hV_V
 have z_V := Nat.le_of_eq (congrArg (fun v : World => v.heap.size) hV_V).symm
 try simp only [SZ] at z_V
 clear kt c_kt f_kt
 clear hV_V
 clear hA
 have hA := n_A
 clear n_A
 skip
 have hF := n_F
 clear n_F
 have kt := n_kt; clear n_kt
 have c_kt := cells_of kt
 have f_kt := free_of kt
 have l_kt_V := lt_of kt
 refine (bRow_calls _ _ hA).mono ?_
 rintro e_W1 W1 ⟨rfl, hb_W1⟩
 replace hA := hA.below hb_W1
 replace hF := hF.below hb_W1
 replace kt := keep_blk hb_W1 kt
 have c_kt := cells_of kt
 have f_kt := free_of kt
 have l_kt_W1 := lt_of kt
 have z_W1 := hb_W1.size
 clear hb_W1
 unfold Nd.val
 go_wp2_with fail
 refine calls_gen fun V1 hV_V1 => ?_
 have n_kt := congrArg (fun v : World => v.heap[tb]?) hV_V1
 simp (maxDischargeDepth := 9) only [BK, not_false_eq_true, reduceCtorEq, kt, l_kt_w, l_kt_V, l_kt_W1] at n_kt
 have n_F : Fr ((oneX tb)) O O w V1 := nF hV_V1
 have n_A : AP V1 ap t.s O := nA hV_V1
 have z_V1 := Nat.le_of_eq (congrArg (fun v : World => v.heap.size) hV_V1).symm
 try simp only [SZ] at z_V1
 clear kt c_kt f_kt
 clear hV_V1
 clear hA
 have hA := n_A
 clear n_A
 clear hF
 have hF := n_F
 clear n_F
 have kt := n_kt; clear n_kt
 have c_kt := cells_of kt
 have f_kt := free_of kt
 have l_kt_V1 := lt_of kt
 refine (insert_nil one _).mono ?_
 rintro e_W2 W2 ⟨rfl, hb_W2⟩
 replace hA := hA.below hb_W2
 replace hF := hF.below hb_W2
 replace kt := keep_blk hb_W2 kt
 have c_kt := cells_of kt
 have f_kt := free_of kt
 have l_kt_W2 := lt_of kt
 have z_W2 := hb_W2.size
 clear hb_W2
 go_wp2_with fail
 refine calls_gen fun V2 hV_V2 => ?_
 have n_kt := congrArg (fun v : World => v.heap[tb]?) hV_V2
 simp (maxDischargeDepth := 9) only [BK, not_false_eq_true, reduceCtorEq, kt, l_kt_w, l_kt_V, l_kt_W1, l_kt_V1, l_kt_W2] at n_kt
 have n_F : Fr ((oneX tb)) O O w V2 := nF hV_V2
 have n_A : AP V2 ap t.s O := nA hV_V2
 have z_V2 := Nat.le_of_eq (congrArg (fun v : World => v.heap.size) hV_V2).symm
 try simp only [SZ] at z_V2
 clear kt c_kt f_kt
 clear hV_V2
 clear hA
 have hA := n_A
 clear n_A
 clear hF
 have hF := n_F
 clear n_F
 have kt := n_kt; clear n_kt
 have c_kt := cells_of kt
 have f_kt := free_of kt
 have l_kt_V2 := lt_of kt
 refine (tLeaf_calls _ (insR_le true [] 0 one) _ ⟨hA, kt, o_kt⟩).mono ?_
 rintro e_W3 W3 ⟨rfl, O1, hT_W3, hf_W3⟩
 clear kt c_kt f_kt o_kt; have kt := hT_W3.blk; have o_kt := hT_W3.no
 have c_kt := cells_of kt
 have f_kt := free_of kt
 have l_kt_W3 := lt_of kt
 replace hF := hF.trans hf_W3
 have z_W3 := hf_W3.size
 clear hA hf_W3; have hA := hT_W3.hA; clear hT_W3
 go_wp2_with fail
 go_ret
 exact ⟨rfl, O1, ⟨hA, kt, o_kt⟩, hF⟩
set_option maxRecDepth 100000 in
set_option maxHeartbeats 2000000 in
theorem tIns_fits (one : Bool) (k : Nat) (h i : Int) (r : Int × Tb) (w : World) (hT : TB w tb ap t O) (h1 : bIs t.s h = true) (d1 : ((t.s.get h).tag == 1) = true) (hU : U64 (t.s.get h).a) (h3 : insOk (lfK (t.s.get h)) (lfB (t.s.get h)) i = true) (hr : some (t.leaf (insR (lfK (t.s.get h)) (lfB (t.s.get h)) i one)) = some r) :
  Calls Tryz.prog 84 #[.pointer (some ⟨tb, 0, none⟩), .int .i64 h, .int .i64 i, .bool one] w fun e w' => e = .returned (.int .i64 r.1) ∧ DidT tb ap r.2 O w w' := by
 obtain rfl := Option.some.inj hr
 clear hr
 have d2 : insOk (lfOk (t.s.get h).a (wrap64 (t.s.get h).b)) (lfL (t.s.get h).a (wrap64 (t.s.get h).b)) i = true := h3
 clear h3
 go_enter Tryz.func84, Tryz.ntmps84
 have hA := hT.hA
 have kt := hT.blk
 have o_kt := hT.no
 have c_kt := cells_of kt
 have f_kt := free_of kt
 have l_kt_w := lt_of kt
 go_wp2_with fail
 refine calls_gen fun V hV_V => ?_
 have n_kt := congrArg (fun v : World => v.heap[tb]?) hV_V
 simp (maxDischargeDepth := 9) only [BK, not_false_eq_true, reduceCtorEq, kt, l_kt_w] at n_kt
 have n_F : Fr ((oneX tb)) O O w V := nF hV_V
 have n_A : AP V ap t.s O := nA hV_V
 have z_V := Nat.le_of_eq (congrArg (fun v : World => v.heap.size) hV_V).symm
 try simp only [SZ] at z_V
 clear kt c_kt f_kt
 clear hV_V
 clear hA
 have hA := n_A
 clear n_A
 skip
 have hF := n_F
 clear n_F
 have kt := n_kt; clear n_kt
 have c_kt := cells_of kt
 have f_kt := free_of kt
 have l_kt_V := lt_of kt
 refine (bRow_calls _ _ hA).mono ?_
 rintro e_W1 W1 ⟨rfl, hb_W1⟩
 replace hA := hA.below hb_W1
 replace hF := hF.below hb_W1
 replace kt := keep_blk hb_W1 kt
 have c_kt := cells_of kt
 have f_kt := free_of kt
 have l_kt_W1 := lt_of kt
 have z_W1 := hb_W1.size
 clear hb_W1
 unfold Nd.val
 go_wp2_with fail
 refine calls_gen fun V1 hV_V1 => ?_
 have n_kt := congrArg (fun v : World => v.heap[tb]?) hV_V1
 simp (maxDischargeDepth := 9) only [BK, not_false_eq_true, reduceCtorEq, kt, l_kt_w, l_kt_V, l_kt_W1] at n_kt
 have n_kn := congrArg (fun v : World => v.heap[W1.heap.size]?) hV_V1
 simp (maxDischargeDepth := 9) only [BK, not_false_eq_true, reduceCtorEq, kt, l_kt_w, l_kt_V, l_kt_W1] at n_kn
 have o_kn : ¬ O (W1.heap.size) := by first | exact hA.new (Nat.le_refl _) | exact hA.new (by omega)
 have n_F : Fr ((oneX tb)) O O w V1 := nF hV_V1
 have n_A : AP V1 ap t.s O := nA hV_V1
 have z_V1 := Nat.le_of_eq (congrArg (fun v : World => v.heap.size) hV_V1).symm
 try simp only [SZ] at z_V1
 clear kt c_kt f_kt
 clear hV_V1
 clear hA
 have hA := n_A
 clear n_A
 clear hF
 have hF := n_F
 clear n_F
 have kt := n_kt; clear n_kt
 have c_kt := cells_of kt
 have f_kt := free_of kt
 have l_kt_V1 := lt_of kt
 have kn := n_kn; clear n_kn
 have c_kn := cells_of kn
 have f_kn := free_of kn
 have l_kn_V1 := lt_of kn
 refine (bBits_calls (t.s.get h) _).mono ?_
 rintro e_W2 W2 ⟨rfl, hb_W2⟩
 replace hA := hA.below hb_W2
 replace hF := hF.below hb_W2
 replace kt := keep_blk hb_W2 kt
 have c_kt := cells_of kt
 have f_kt := free_of kt
 have l_kt_W2 := lt_of kt
 replace kn := keep_blk hb_W2 kn
 have c_kn := cells_of kn
 have f_kn := free_of kn
 have l_kn_W2 := lt_of kn
 have z_W2 := hb_W2.size
 clear hb_W2
 go_wp2_with fail
 refine calls_gen fun V2 hV_V2 => ?_
 have n_kt := congrArg (fun v : World => v.heap[tb]?) hV_V2
 simp (maxDischargeDepth := 9) only [BK, not_false_eq_true, reduceCtorEq, kt, kn, l_kt_w, l_kt_V, l_kt_W1, l_kt_V1, l_kn_V1, l_kt_W2, l_kn_W2] at n_kt
 have n_kn := congrArg (fun v : World => v.heap[W1.heap.size]?) hV_V2
 simp (maxDischargeDepth := 9) only [BK, not_false_eq_true, reduceCtorEq, kt, kn, l_kt_w, l_kt_V, l_kt_W1, l_kt_V1, l_kn_V1, l_kt_W2, l_kn_W2] at n_kn
 have n_kl := congrArg (fun v : World => v.heap[W2.heap.size]?) hV_V2
 simp (maxDischargeDepth := 9) only [BK, not_false_eq_true, reduceCtorEq, kt, kn, l_kt_w, l_kt_V, l_kt_W1, l_kt_V1, l_kn_V1, l_kt_W2, l_kn_W2] at n_kl
 have o_kl : ¬ O (W2.heap.size) := by first | exact hA.new (Nat.le_refl _) | exact hA.new (by omega)
 have n_F : Fr ((oneX tb)) O O w V2 := nF hV_V2
 have n_A : AP V2 ap t.s O := nA hV_V2
 have z_V2 := Nat.le_of_eq (congrArg (fun v : World => v.heap.size) hV_V2).symm
 try simp only [SZ] at z_V2
 clear kt c_kt f_kt
 clear kn c_kn f_kn
 clear hV_V2
 clear hA
 have hA := n_A
 clear n_A
 clear hF
 have hF := n_F
 clear n_F
 have kt := n_kt; clear n_kt
 have c_kt := cells_of kt
 have f_kt := free_of kt
 have l_kt_V2 := lt_of kt
 have kn := n_kn; clear n_kn
 have c_kn := cells_of kn
 have f_kn := free_of kn
 have l_kn_V2 := lt_of kn
 have kl := n_kl; clear n_kl
 have c_kl := cells_of kl
 have f_kl := free_of kl
 have l_kl_V2 := lt_of kl
 refine (insert_i hU i one _).mono ?_
 rintro e_W3 W3 ⟨rfl, hb_W3⟩
 replace hA := hA.below hb_W3
 replace hF := hF.below hb_W3
 replace kt := keep_blk hb_W3 kt
 have c_kt := cells_of kt
 have f_kt := free_of kt
 have l_kt_W3 := lt_of kt
 replace kn := keep_blk hb_W3 kn
 have c_kn := cells_of kn
 have f_kn := free_of kn
 have l_kn_W3 := lt_of kn
 replace kl := keep_blk hb_W3 kl
 have c_kl := cells_of kl
 have f_kl := free_of kl
 have l_kl_W3 := lt_of kl
 have z_W3 := hb_W3.size
 clear hb_W3
 go_wp2_with fail
 refine calls_gen fun V3 hV_V3 => ?_
 have n_kt := congrArg (fun v : World => v.heap[tb]?) hV_V3
 simp (maxDischargeDepth := 9) only [BK, not_false_eq_true, reduceCtorEq, kt, kn, kl, l_kt_w, l_kt_V, l_kt_W1, l_kt_V1, l_kn_V1, l_kt_W2, l_kn_W2, l_kt_V2, l_kn_V2, l_kl_V2, l_kt_W3, l_kn_W3, l_kl_W3] at n_kt
 have n_kn := congrArg (fun v : World => v.heap[W1.heap.size]?) hV_V3
 simp (maxDischargeDepth := 9) only [BK, not_false_eq_true, reduceCtorEq, kt, kn, kl, l_kt_w, l_kt_V, l_kt_W1, l_kt_V1, l_kn_V1, l_kt_W2, l_kn_W2, l_kt_V2, l_kn_V2, l_kl_V2, l_kt_W3, l_kn_W3, l_kl_W3] at n_kn
 have n_kl := congrArg (fun v : World => v.heap[W2.heap.size]?) hV_V3
 simp (maxDischargeDepth := 9) only [BK, not_false_eq_true, reduceCtorEq, kt, kn, kl, l_kt_w, l_kt_V, l_kt_W1, l_kt_V1, l_kn_V1, l_kt_W2, l_kn_W2, l_kt_V2, l_kn_V2, l_kl_V2, l_kt_W3, l_kn_W3, l_kl_W3] at n_kl
 have n_kx := congrArg (fun v : World => v.heap[W3.heap.size]?) hV_V3
 simp (maxDischargeDepth := 9) only [BK, not_false_eq_true, reduceCtorEq, kt, kn, kl, l_kt_w, l_kt_V, l_kt_W1, l_kt_V1, l_kn_V1, l_kt_W2, l_kn_W2, l_kt_V2, l_kn_V2, l_kl_V2, l_kt_W3, l_kn_W3, l_kl_W3] at n_kx
 have o_kx : ¬ O (W3.heap.size) := by first | exact hA.new (Nat.le_refl _) | exact hA.new (by omega)
 have n_F : Fr ((oneX tb)) O O w V3 := nF hV_V3
 have n_A : AP V3 ap t.s O := nA hV_V3
 have z_V3 := Nat.le_of_eq (congrArg (fun v : World => v.heap.size) hV_V3).symm
 try simp only [SZ] at z_V3
 clear kt c_kt f_kt
 clear kn c_kn f_kn
 clear kl c_kl f_kl
 clear hV_V3
 clear hA
 have hA := n_A
 clear n_A
 clear hF
 have hF := n_F
 clear n_F
 have kt := n_kt; clear n_kt
 have c_kt := cells_of kt
 have f_kt := free_of kt
 have l_kt_V3 := lt_of kt
 have kn := n_kn; clear n_kn
 have c_kn := cells_of kn
 have f_kn := free_of kn
 have l_kn_V3 := lt_of kn
 have kl := n_kl; clear n_kl
 have c_kl := cells_of kl
 have f_kl := free_of kl
 have l_kl_V3 := lt_of kl
 have kx := n_kx; clear n_kx
 have c_kx := cells_of kx
 have f_kx := free_of kx
 have l_kx_V3 := lt_of kx
 refine (tLeaf_calls _ (insR_le (lfK (t.s.get h)) (lfB (t.s.get h)) i one) _ ⟨hA, kt, o_kt⟩).mono ?_
 rintro e_W4 W4 ⟨rfl, O1, hT_W4, hf_W4⟩
 have q_kn := hf_W4.keep kn o_kn (by unfold oneX; omega)
 have q_kl := hf_W4.keep kl o_kl (by unfold oneX; omega)
 have q_kx := hf_W4.keep kx o_kx (by unfold oneX; omega)
 replace o_kn := hf_W4.not_own (lt_of kn) o_kn
 clear kn; have kn := q_kn; clear q_kn
 have c_kn := cells_of kn
 have f_kn := free_of kn
 have l_kn_W4 := lt_of kn
 replace o_kl := hf_W4.not_own (lt_of kl) o_kl
 clear kl; have kl := q_kl; clear q_kl
 have c_kl := cells_of kl
 have f_kl := free_of kl
 have l_kl_W4 := lt_of kl
 replace o_kx := hf_W4.not_own (lt_of kx) o_kx
 clear kx; have kx := q_kx; clear q_kx
 have c_kx := cells_of kx
 have f_kx := free_of kx
 have l_kx_W4 := lt_of kx
 clear kt c_kt f_kt o_kt; have kt := hT_W4.blk; have o_kt := hT_W4.no
 have c_kt := cells_of kt
 have f_kt := free_of kt
 have l_kt_W4 := lt_of kt
 replace hF := hF.trans hf_W4
 have z_W4 := hf_W4.size
 clear hA hf_W4; have hA := hT_W4.hA; clear hT_W4
 go_wp2_with fail
 go_ret
 exact ⟨rfl, O1, ⟨hA, kt, o_kt⟩, hF⟩
set_option maxRecDepth 100000 in
set_option maxHeartbeats 2000000 in
theorem tIns_l (one : Bool) (k : Nat) (h i : Int) (r : Int × Tb) (w : World) (hT : TB w tb ap t O) (h1 : bIs t.s h = true) (d1 : ((t.s.get h).tag == 1) = true) (hU : U64 (t.s.get h).a) (d2 : insOk (lfOk (t.s.get h).a (wrap64 (t.s.get h).b)) (lfL (t.s.get h).a (wrap64 (t.s.get h).b)) i = false) (l1 l2 : List Bool) (H1 : Hid (l1 = (lfL (t.s.get h).a (wrap64 (t.s.get h).b)).take 32)) (H2 : Hid (l2 = (lfL (t.s.get h).a (wrap64 (t.s.get h).b)).drop 32)) (e1 : l1.length ≤ 64) (e2 : l2.length ≤ 64) (d3 : decide (i ≤ (l1.length : Int)) = true) (hr : some (t.two (insR true l1 i one) l2) = some r) :
  Calls Tryz.prog 84 #[.pointer (some ⟨tb, 0, none⟩), .int .i64 h, .int .i64 i, .bool one] w fun e w' => e = .returned (.int .i64 r.1) ∧ DidT tb ap r.2 O w w' := by
 obtain ⟨c, H3⟩ : ∃ c, Hid (c = insR true l1 i one) := ⟨_, Lib.hid rfl⟩
 have e3 : c.length ≤ 64 := by rw [H3.out]; exact insR_le _ _ _ _
 rw [← H3.out] at hr
 obtain rfl := Option.some.inj hr
 clear hr
 go_enter Tryz.func84, Tryz.ntmps84
 have hA := hT.hA
 have kt := hT.blk
 have o_kt := hT.no
 have c_kt := cells_of kt
 have f_kt := free_of kt
 have l_kt_w := lt_of kt
 go_wp2_with fail
 refine calls_gen fun V hV_V => ?_
 have n_kt := congrArg (fun v : World => v.heap[tb]?) hV_V
 simp (maxDischargeDepth := 9) only [BK, not_false_eq_true, reduceCtorEq, kt, l_kt_w] at n_kt
 have n_F : Fr ((oneX tb)) O O w V := nF hV_V
 have n_A : AP V ap t.s O := nA hV_V
 have z_V := Nat.le_of_eq (congrArg (fun v : World => v.heap.size) hV_V).symm
 try simp only [SZ] at z_V
 clear kt c_kt f_kt
 clear hV_V
 clear hA
 have hA := n_A
 clear n_A
 skip
 have hF := n_F
 clear n_F
 have kt := n_kt; clear n_kt
 have c_kt := cells_of kt
 have f_kt := free_of kt
 have l_kt_V := lt_of kt
 refine (bRow_calls _ _ hA).mono ?_
 rintro e_W1 W1 ⟨rfl, hb_W1⟩
 replace hA := hA.below hb_W1
 replace hF := hF.below hb_W1
 replace kt := keep_blk hb_W1 kt
 have c_kt := cells_of kt
 have f_kt := free_of kt
 have l_kt_W1 := lt_of kt
 have z_W1 := hb_W1.size
 clear hb_W1
 unfold Nd.val
 go_wp2_with fail
 refine calls_gen fun V1 hV_V1 => ?_
 have n_kt := congrArg (fun v : World => v.heap[tb]?) hV_V1
 simp (maxDischargeDepth := 9) only [BK, not_false_eq_true, reduceCtorEq, kt, l_kt_w, l_kt_V, l_kt_W1] at n_kt
 have n_kn := congrArg (fun v : World => v.heap[W1.heap.size]?) hV_V1
 simp (maxDischargeDepth := 9) only [BK, not_false_eq_true, reduceCtorEq, kt, l_kt_w, l_kt_V, l_kt_W1] at n_kn
 have o_kn : ¬ O (W1.heap.size) := by first | exact hA.new (Nat.le_refl _) | exact hA.new (by omega)
 have n_F : Fr ((oneX tb)) O O w V1 := nF hV_V1
 have n_A : AP V1 ap t.s O := nA hV_V1
 have z_V1 := Nat.le_of_eq (congrArg (fun v : World => v.heap.size) hV_V1).symm
 try simp only [SZ] at z_V1
 clear kt c_kt f_kt
 clear hV_V1
 clear hA
 have hA := n_A
 clear n_A
 clear hF
 have hF := n_F
 clear n_F
 have kt := n_kt; clear n_kt
 have c_kt := cells_of kt
 have f_kt := free_of kt
 have l_kt_V1 := lt_of kt
 have kn := n_kn; clear n_kn
 have c_kn := cells_of kn
 have f_kn := free_of kn
 have l_kn_V1 := lt_of kn
 refine (bBits_calls (t.s.get h) _).mono ?_
 rintro e_W2 W2 ⟨rfl, hb_W2⟩
 replace hA := hA.below hb_W2
 replace hF := hF.below hb_W2
 replace kt := keep_blk hb_W2 kt
 have c_kt := cells_of kt
 have f_kt := free_of kt
 have l_kt_W2 := lt_of kt
 replace kn := keep_blk hb_W2 kn
 have c_kn := cells_of kn
 have f_kn := free_of kn
 have l_kn_W2 := lt_of kn
 have z_W2 := hb_W2.size
 clear hb_W2
 go_wp2_with fail
 refine calls_gen fun V2 hV_V2 => ?_
 have n_kt := congrArg (fun v : World => v.heap[tb]?) hV_V2
 simp (maxDischargeDepth := 9) only [BK, not_false_eq_true, reduceCtorEq, kt, kn, l_kt_w, l_kt_V, l_kt_W1, l_kt_V1, l_kn_V1, l_kt_W2, l_kn_W2] at n_kt
 have n_kn := congrArg (fun v : World => v.heap[W1.heap.size]?) hV_V2
 simp (maxDischargeDepth := 9) only [BK, not_false_eq_true, reduceCtorEq, kt, kn, l_kt_w, l_kt_V, l_kt_W1, l_kt_V1, l_kn_V1, l_kt_W2, l_kn_W2] at n_kn
 have n_kl := congrArg (fun v : World => v.heap[W2.heap.size]?) hV_V2
 simp (maxDischargeDepth := 9) only [BK, not_false_eq_true, reduceCtorEq, kt, kn, l_kt_w, l_kt_V, l_kt_W1, l_kt_V1, l_kn_V1, l_kt_W2, l_kn_W2] at n_kl
 have o_kl : ¬ O (W2.heap.size) := by first | exact hA.new (Nat.le_refl _) | exact hA.new (by omega)
 have n_F : Fr ((oneX tb)) O O w V2 := nF hV_V2
 have n_A : AP V2 ap t.s O := nA hV_V2
 have z_V2 := Nat.le_of_eq (congrArg (fun v : World => v.heap.size) hV_V2).symm
 try simp only [SZ] at z_V2
 clear kt c_kt f_kt
 clear kn c_kn f_kn
 clear hV_V2
 clear hA
 have hA := n_A
 clear n_A
 clear hF
 have hF := n_F
 clear n_F
 have kt := n_kt; clear n_kt
 have c_kt := cells_of kt
 have f_kt := free_of kt
 have l_kt_V2 := lt_of kt
 have kn := n_kn; clear n_kn
 have c_kn := cells_of kn
 have f_kn := free_of kn
 have l_kn_V2 := lt_of kn
 have kl := n_kl; clear n_kl
 have c_kl := cells_of kl
 have f_kl := free_of kl
 have l_kl_V2 := lt_of kl
 refine (insert_i hU i one _).mono ?_
 rintro e_W3 W3 ⟨rfl, hb_W3⟩
 replace hA := hA.below hb_W3
 replace hF := hF.below hb_W3
 replace kt := keep_blk hb_W3 kt
 have c_kt := cells_of kt
 have f_kt := free_of kt
 have l_kt_W3 := lt_of kt
 replace kn := keep_blk hb_W3 kn
 have c_kn := cells_of kn
 have f_kn := free_of kn
 have l_kn_W3 := lt_of kn
 replace kl := keep_blk hb_W3 kl
 have c_kl := cells_of kl
 have f_kl := free_of kl
 have l_kl_W3 := lt_of kl
 have z_W3 := hb_W3.size
 clear hb_W3
 go_wp2_with fail
 refine calls_gen fun V3 hV_V3 => ?_
 have n_kt := congrArg (fun v : World => v.heap[tb]?) hV_V3
 simp (maxDischargeDepth := 9) only [BK, not_false_eq_true, reduceCtorEq, kt, kn, kl, l_kt_w, l_kt_V, l_kt_W1, l_kt_V1, l_kn_V1, l_kt_W2, l_kn_W2, l_kt_V2, l_kn_V2, l_kl_V2, l_kt_W3, l_kn_W3, l_kl_W3] at n_kt
 have n_kn := congrArg (fun v : World => v.heap[W1.heap.size]?) hV_V3
 simp (maxDischargeDepth := 9) only [BK, not_false_eq_true, reduceCtorEq, kt, kn, kl, l_kt_w, l_kt_V, l_kt_W1, l_kt_V1, l_kn_V1, l_kt_W2, l_kn_W2, l_kt_V2, l_kn_V2, l_kl_V2, l_kt_W3, l_kn_W3, l_kl_W3] at n_kn
 have n_kl := congrArg (fun v : World => v.heap[W2.heap.size]?) hV_V3
 simp (maxDischargeDepth := 9) only [BK, not_false_eq_true, reduceCtorEq, kt, kn, kl, l_kt_w, l_kt_V, l_kt_W1, l_kt_V1, l_kn_V1, l_kt_W2, l_kn_W2, l_kt_V2, l_kn_V2, l_kl_V2, l_kt_W3, l_kn_W3, l_kl_W3] at n_kl
 have n_kx := congrArg (fun v : World => v.heap[W3.heap.size]?) hV_V3
 simp (maxDischargeDepth := 9) only [BK, not_false_eq_true, reduceCtorEq, kt, kn, kl, l_kt_w, l_kt_V, l_kt_W1, l_kt_V1, l_kn_V1, l_kt_W2, l_kn_W2, l_kt_V2, l_kn_V2, l_kl_V2, l_kt_W3, l_kn_W3, l_kl_W3] at n_kx
 have o_kx : ¬ O (W3.heap.size) := by first | exact hA.new (Nat.le_refl _) | exact hA.new (by omega)
 have n_F : Fr ((oneX tb)) O O w V3 := nF hV_V3
 have n_A : AP V3 ap t.s O := nA hV_V3
 have z_V3 := Nat.le_of_eq (congrArg (fun v : World => v.heap.size) hV_V3).symm
 try simp only [SZ] at z_V3
 clear kt c_kt f_kt
 clear kn c_kn f_kn
 clear kl c_kl f_kl
 clear hV_V3
 clear hA
 have hA := n_A
 clear n_A
 clear hF
 have hF := n_F
 clear n_F
 have kt := n_kt; clear n_kt
 have c_kt := cells_of kt
 have f_kt := free_of kt
 have l_kt_V3 := lt_of kt
 have kn := n_kn; clear n_kn
 have c_kn := cells_of kn
 have f_kn := free_of kn
 have l_kn_V3 := lt_of kn
 have kl := n_kl; clear n_kl
 have c_kl := cells_of kl
 have f_kl := free_of kl
 have l_kl_V3 := lt_of kl
 have kx := n_kx; clear n_kx
 have c_kx := cells_of kx
 have f_kx := free_of kx
 have l_kx_V3 := lt_of kx
 refine (split_32 hU l1 l2 H1.out H2.out _).mono ?_
 rintro e_W4 W4 ⟨rfl, hb_W4⟩
 replace hA := hA.below hb_W4
 replace hF := hF.below hb_W4
 replace kt := keep_blk hb_W4 kt
 have c_kt := cells_of kt
 have f_kt := free_of kt
 have l_kt_W4 := lt_of kt
 replace kn := keep_blk hb_W4 kn
 have c_kn := cells_of kn
 have f_kn := free_of kn
 have l_kn_W4 := lt_of kn
 replace kl := keep_blk hb_W4 kl
 have c_kl := cells_of kl
 have f_kl := free_of kl
 have l_kl_W4 := lt_of kl
 replace kx := keep_blk hb_W4 kx
 have c_kx := cells_of kx
 have f_kx := free_of kx
 have l_kx_W4 := lt_of kx
 have z_W4 := hb_W4.size
 clear hb_W4
 go_wp2_with fail
 refine calls_gen fun V4 hV_V4 => ?_
 have n_kt := congrArg (fun v : World => v.heap[tb]?) hV_V4
 simp (maxDischargeDepth := 9) only [BK, not_false_eq_true, reduceCtorEq, kt, kn, kl, kx, l_kt_w, l_kt_V, l_kt_W1, l_kt_V1, l_kn_V1, l_kt_W2, l_kn_W2, l_kt_V2, l_kn_V2, l_kl_V2, l_kt_W3, l_kn_W3, l_kl_W3, l_kt_V3, l_kn_V3, l_kl_V3, l_kx_V3, l_kt_W4, l_kn_W4, l_kl_W4, l_kx_W4] at n_kt
 have n_kn := congrArg (fun v : World => v.heap[W1.heap.size]?) hV_V4
 simp (maxDischargeDepth := 9) only [BK, not_false_eq_true, reduceCtorEq, kt, kn, kl, kx, l_kt_w, l_kt_V, l_kt_W1, l_kt_V1, l_kn_V1, l_kt_W2, l_kn_W2, l_kt_V2, l_kn_V2, l_kl_V2, l_kt_W3, l_kn_W3, l_kl_W3, l_kt_V3, l_kn_V3, l_kl_V3, l_kx_V3, l_kt_W4, l_kn_W4, l_kl_W4, l_kx_W4] at n_kn
 have n_kl := congrArg (fun v : World => v.heap[W2.heap.size]?) hV_V4
 simp (maxDischargeDepth := 9) only [BK, not_false_eq_true, reduceCtorEq, kt, kn, kl, kx, l_kt_w, l_kt_V, l_kt_W1, l_kt_V1, l_kn_V1, l_kt_W2, l_kn_W2, l_kt_V2, l_kn_V2, l_kl_V2, l_kt_W3, l_kn_W3, l_kl_W3, l_kt_V3, l_kn_V3, l_kl_V3, l_kx_V3, l_kt_W4, l_kn_W4, l_kl_W4, l_kx_W4] at n_kl
 have n_kx := congrArg (fun v : World => v.heap[W3.heap.size]?) hV_V4
 simp (maxDischargeDepth := 9) only [BK, not_false_eq_true, reduceCtorEq, kt, kn, kl, kx, l_kt_w, l_kt_V, l_kt_W1, l_kt_V1, l_kn_V1, l_kt_W2, l_kn_W2, l_kt_V2, l_kn_V2, l_kl_V2, l_kt_W3, l_kn_W3, l_kl_W3, l_kt_V3, l_kn_V3, l_kl_V3, l_kx_V3, l_kt_W4, l_kn_W4, l_kl_W4, l_kx_W4] at n_kx
 have n_ka := congrArg (fun v : World => v.heap[W4.heap.size]?) hV_V4
 simp (maxDischargeDepth := 9) only [BK, not_false_eq_true, reduceCtorEq, kt, kn, kl, kx, l_kt_w, l_kt_V, l_kt_W1, l_kt_V1, l_kn_V1, l_kt_W2, l_kn_W2, l_kt_V2, l_kn_V2, l_kl_V2, l_kt_W3, l_kn_W3, l_kl_W3, l_kt_V3, l_kn_V3, l_kl_V3, l_kx_V3, l_kt_W4, l_kn_W4, l_kl_W4, l_kx_W4] at n_ka
 have n_kb := congrArg (fun v : World => v.heap[W4.heap.size + 1]?) hV_V4
 simp (maxDischargeDepth := 9) only [BK, not_false_eq_true, reduceCtorEq, kt, kn, kl, kx, l_kt_w, l_kt_V, l_kt_W1, l_kt_V1, l_kn_V1, l_kt_W2, l_kn_W2, l_kt_V2, l_kn_V2, l_kl_V2, l_kt_W3, l_kn_W3, l_kl_W3, l_kt_V3, l_kn_V3, l_kl_V3, l_kx_V3, l_kt_W4, l_kn_W4, l_kl_W4, l_kx_W4] at n_kb
 have o_ka : ¬ O (W4.heap.size) := by first | exact hA.new (Nat.le_refl _) | exact hA.new (by omega)
 have o_kb : ¬ O (W4.heap.size + 1) := by first | exact hA.new (Nat.le_refl _) | exact hA.new (by omega)
 have n_F : Fr ((oneX tb)) O O w V4 := nF hV_V4
 have n_A : AP V4 ap t.s O := nA hV_V4
 have z_V4 := Nat.le_of_eq (congrArg (fun v : World => v.heap.size) hV_V4).symm
 try simp only [SZ] at z_V4
 clear kt c_kt f_kt
 clear kn c_kn f_kn
 clear kl c_kl f_kl
 clear kx c_kx f_kx
 clear hV_V4
 clear hA
 have hA := n_A
 clear n_A
 clear hF
 have hF := n_F
 clear n_F
 have kt := n_kt; clear n_kt
 have c_kt := cells_of kt
 have f_kt := free_of kt
 have l_kt_V4 := lt_of kt
 have kn := n_kn; clear n_kn
 have c_kn := cells_of kn
 have f_kn := free_of kn
 have l_kn_V4 := lt_of kn
 have kl := n_kl; clear n_kl
 have c_kl := cells_of kl
 have f_kl := free_of kl
 have l_kl_V4 := lt_of kl
 have kx := n_kx; clear n_kx
 have c_kx := cells_of kx
 have f_kx := free_of kx
 have l_kx_V4 := lt_of kx
 have ka := n_ka; clear n_ka
 have c_ka := cells_of ka
 have f_ka := free_of ka
 have l_ka_V4 := lt_of ka
 have kb := n_kb; clear n_kb
 have c_kb := cells_of kb
 have f_kb := free_of kb
 have l_kb_V4 := lt_of kb
 refine (insert_c l1 c e1 i one H3.out _).mono ?_
 rintro e_W5 W5 ⟨rfl, hb_W5⟩
 replace hA := hA.below hb_W5
 replace hF := hF.below hb_W5
 replace kt := keep_blk hb_W5 kt
 have c_kt := cells_of kt
 have f_kt := free_of kt
 have l_kt_W5 := lt_of kt
 replace kn := keep_blk hb_W5 kn
 have c_kn := cells_of kn
 have f_kn := free_of kn
 have l_kn_W5 := lt_of kn
 replace kl := keep_blk hb_W5 kl
 have c_kl := cells_of kl
 have f_kl := free_of kl
 have l_kl_W5 := lt_of kl
 replace kx := keep_blk hb_W5 kx
 have c_kx := cells_of kx
 have f_kx := free_of kx
 have l_kx_W5 := lt_of kx
 replace ka := keep_blk hb_W5 ka
 have c_ka := cells_of ka
 have f_ka := free_of ka
 have l_ka_W5 := lt_of ka
 replace kb := keep_blk hb_W5 kb
 have c_kb := cells_of kb
 have f_kb := free_of kb
 have l_kb_W5 := lt_of kb
 have z_W5 := hb_W5.size
 clear hb_W5
 go_wp2_with fail
 refine calls_gen fun V5 hV_V5 => ?_
 have n_kt := congrArg (fun v : World => v.heap[tb]?) hV_V5
 simp (maxDischargeDepth := 9) only [BK, not_false_eq_true, reduceCtorEq, kt, kn, kl, kx, ka, kb, l_kt_w, l_kt_V, l_kt_W1, l_kt_V1, l_kn_V1, l_kt_W2, l_kn_W2, l_kt_V2, l_kn_V2, l_kl_V2, l_kt_W3, l_kn_W3, l_kl_W3, l_kt_V3, l_kn_V3, l_kl_V3, l_kx_V3, l_kt_W4, l_kn_W4, l_kl_W4, l_kx_W4, l_kt_V4, l_kn_V4, l_kl_V4, l_kx_V4, l_ka_V4, l_kb_V4, l_kt_W5, l_kn_W5, l_kl_W5, l_kx_W5, l_ka_W5, l_kb_W5] at n_kt
 have n_kn := congrArg (fun v : World => v.heap[W1.heap.size]?) hV_V5
 simp (maxDischargeDepth := 9) only [BK, not_false_eq_true, reduceCtorEq, kt, kn, kl, kx, ka, kb, l_kt_w, l_kt_V, l_kt_W1, l_kt_V1, l_kn_V1, l_kt_W2, l_kn_W2, l_kt_V2, l_kn_V2, l_kl_V2, l_kt_W3, l_kn_W3, l_kl_W3, l_kt_V3, l_kn_V3, l_kl_V3, l_kx_V3, l_kt_W4, l_kn_W4, l_kl_W4, l_kx_W4, l_kt_V4, l_kn_V4, l_kl_V4, l_kx_V4, l_ka_V4, l_kb_V4, l_kt_W5, l_kn_W5, l_kl_W5, l_kx_W5, l_ka_W5, l_kb_W5] at n_kn
 have n_kl := congrArg (fun v : World => v.heap[W2.heap.size]?) hV_V5
 simp (maxDischargeDepth := 9) only [BK, not_false_eq_true, reduceCtorEq, kt, kn, kl, kx, ka, kb, l_kt_w, l_kt_V, l_kt_W1, l_kt_V1, l_kn_V1, l_kt_W2, l_kn_W2, l_kt_V2, l_kn_V2, l_kl_V2, l_kt_W3, l_kn_W3, l_kl_W3, l_kt_V3, l_kn_V3, l_kl_V3, l_kx_V3, l_kt_W4, l_kn_W4, l_kl_W4, l_kx_W4, l_kt_V4, l_kn_V4, l_kl_V4, l_kx_V4, l_ka_V4, l_kb_V4, l_kt_W5, l_kn_W5, l_kl_W5, l_kx_W5, l_ka_W5, l_kb_W5] at n_kl
 have n_kx := congrArg (fun v : World => v.heap[W3.heap.size]?) hV_V5
 simp (maxDischargeDepth := 9) only [BK, not_false_eq_true, reduceCtorEq, kt, kn, kl, kx, ka, kb, l_kt_w, l_kt_V, l_kt_W1, l_kt_V1, l_kn_V1, l_kt_W2, l_kn_W2, l_kt_V2, l_kn_V2, l_kl_V2, l_kt_W3, l_kn_W3, l_kl_W3, l_kt_V3, l_kn_V3, l_kl_V3, l_kx_V3, l_kt_W4, l_kn_W4, l_kl_W4, l_kx_W4, l_kt_V4, l_kn_V4, l_kl_V4, l_kx_V4, l_ka_V4, l_kb_V4, l_kt_W5, l_kn_W5, l_kl_W5, l_kx_W5, l_ka_W5, l_kb_W5] at n_kx
 have n_ka := congrArg (fun v : World => v.heap[W4.heap.size]?) hV_V5
 simp (maxDischargeDepth := 9) only [BK, not_false_eq_true, reduceCtorEq, kt, kn, kl, kx, ka, kb, l_kt_w, l_kt_V, l_kt_W1, l_kt_V1, l_kn_V1, l_kt_W2, l_kn_W2, l_kt_V2, l_kn_V2, l_kl_V2, l_kt_W3, l_kn_W3, l_kl_W3, l_kt_V3, l_kn_V3, l_kl_V3, l_kx_V3, l_kt_W4, l_kn_W4, l_kl_W4, l_kx_W4, l_kt_V4, l_kn_V4, l_kl_V4, l_kx_V4, l_ka_V4, l_kb_V4, l_kt_W5, l_kn_W5, l_kl_W5, l_kx_W5, l_ka_W5, l_kb_W5] at n_ka
 have n_kb := congrArg (fun v : World => v.heap[W4.heap.size + 1]?) hV_V5
 simp (maxDischargeDepth := 9) only [BK, not_false_eq_true, reduceCtorEq, kt, kn, kl, kx, ka, kb, l_kt_w, l_kt_V, l_kt_W1, l_kt_V1, l_kn_V1, l_kt_W2, l_kn_W2, l_kt_V2, l_kn_V2, l_kl_V2, l_kt_W3, l_kn_W3, l_kl_W3, l_kt_V3, l_kn_V3, l_kl_V3, l_kx_V3, l_kt_W4, l_kn_W4, l_kl_W4, l_kx_W4, l_kt_V4, l_kn_V4, l_kl_V4, l_kx_V4, l_ka_V4, l_kb_V4, l_kt_W5, l_kn_W5, l_kl_W5, l_kx_W5, l_ka_W5, l_kb_W5] at n_kb
 have n_F : Fr ((oneX tb)) O O w V5 := nF hV_V5
 have n_A : AP V5 ap t.s O := nA hV_V5
 have z_V5 := Nat.le_of_eq (congrArg (fun v : World => v.heap.size) hV_V5).symm
 try simp only [SZ] at z_V5
 clear kt c_kt f_kt
 clear kn c_kn f_kn
 clear kl c_kl f_kl
 clear kx c_kx f_kx
 clear ka c_ka f_ka
 clear kb c_kb f_kb
 clear hV_V5
 clear hA
 have hA := n_A
 clear n_A
 clear hF
 have hF := n_F
 clear n_F
 have kt := n_kt; clear n_kt
 have c_kt := cells_of kt
 have f_kt := free_of kt
 have l_kt_V5 := lt_of kt
 have kn := n_kn; clear n_kn
 have c_kn := cells_of kn
 have f_kn := free_of kn
 have l_kn_V5 := lt_of kn
 have kl := n_kl; clear n_kl
 have c_kl := cells_of kl
 have f_kl := free_of kl
 have l_kl_V5 := lt_of kl
 have kx := n_kx; clear n_kx
 have c_kx := cells_of kx
 have f_kx := free_of kx
 have l_kx_V5 := lt_of kx
 have ka := n_ka; clear n_ka
 have c_ka := cells_of ka
 have f_ka := free_of ka
 have l_ka_V5 := lt_of ka
 have kb := n_kb; clear n_kb
 have c_kb := cells_of kb
 have f_kb := free_of kb
 have l_kb_V5 := lt_of kb
 refine (tLeaf_calls c e3 _ ⟨hA, kt, o_kt⟩).mono ?_
 rintro e_W6 W6 ⟨rfl, O1, hT_W6, hf_W6⟩
 have q_kn := hf_W6.keep kn o_kn (by unfold oneX; omega)
 have q_kl := hf_W6.keep kl o_kl (by unfold oneX; omega)
 have q_kx := hf_W6.keep kx o_kx (by unfold oneX; omega)
 have q_ka := hf_W6.keep ka o_ka (by unfold oneX; omega)
 have q_kb := hf_W6.keep kb o_kb (by unfold oneX; omega)
 replace o_kn := hf_W6.not_own (lt_of kn) o_kn
 clear kn; have kn := q_kn; clear q_kn
 have c_kn := cells_of kn
 have f_kn := free_of kn
 have l_kn_W6 := lt_of kn
 replace o_kl := hf_W6.not_own (lt_of kl) o_kl
 clear kl; have kl := q_kl; clear q_kl
 have c_kl := cells_of kl
 have f_kl := free_of kl
 have l_kl_W6 := lt_of kl
 replace o_kx := hf_W6.not_own (lt_of kx) o_kx
 clear kx; have kx := q_kx; clear q_kx
 have c_kx := cells_of kx
 have f_kx := free_of kx
 have l_kx_W6 := lt_of kx
 replace o_ka := hf_W6.not_own (lt_of ka) o_ka
 clear ka; have ka := q_ka; clear q_ka
 have c_ka := cells_of ka
 have f_ka := free_of ka
 have l_ka_W6 := lt_of ka
 replace o_kb := hf_W6.not_own (lt_of kb) o_kb
 clear kb; have kb := q_kb; clear q_kb
 have c_kb := cells_of kb
 have f_kb := free_of kb
 have l_kb_W6 := lt_of kb
 clear kt c_kt f_kt o_kt; have kt := hT_W6.blk; have o_kt := hT_W6.no
 have c_kt := cells_of kt
 have f_kt := free_of kt
 have l_kt_W6 := lt_of kt
 replace hF := hF.trans hf_W6
 have z_W6 := hf_W6.size
 clear hA hf_W6; have hA := hT_W6.hA; clear hT_W6
 go_wp2_with fail
 refine calls_gen fun V6 hV_V6 => ?_
 have n_kt := congrArg (fun v : World => v.heap[tb]?) hV_V6
 simp (maxDischargeDepth := 9) only [BK, not_false_eq_true, reduceCtorEq, kt, kn, kl, kx, ka, kb, l_kt_w, l_kt_V, l_kt_W1, l_kt_V1, l_kn_V1, l_kt_W2, l_kn_W2, l_kt_V2, l_kn_V2, l_kl_V2, l_kt_W3, l_kn_W3, l_kl_W3, l_kt_V3, l_kn_V3, l_kl_V3, l_kx_V3, l_kt_W4, l_kn_W4, l_kl_W4, l_kx_W4, l_kt_V4, l_kn_V4, l_kl_V4, l_kx_V4, l_ka_V4, l_kb_V4, l_kt_W5, l_kn_W5, l_kl_W5, l_kx_W5, l_ka_W5, l_kb_W5, l_kt_V5, l_kn_V5, l_kl_V5, l_kx_V5, l_ka_V5, l_kb_V5, l_kn_W6, l_kl_W6, l_kx_W6, l_ka_W6, l_kb_W6, l_kt_W6] at n_kt
 have n_kn := congrArg (fun v : World => v.heap[W1.heap.size]?) hV_V6
 simp (maxDischargeDepth := 9) only [BK, not_false_eq_true, reduceCtorEq, kt, kn, kl, kx, ka, kb, l_kt_w, l_kt_V, l_kt_W1, l_kt_V1, l_kn_V1, l_kt_W2, l_kn_W2, l_kt_V2, l_kn_V2, l_kl_V2, l_kt_W3, l_kn_W3, l_kl_W3, l_kt_V3, l_kn_V3, l_kl_V3, l_kx_V3, l_kt_W4, l_kn_W4, l_kl_W4, l_kx_W4, l_kt_V4, l_kn_V4, l_kl_V4, l_kx_V4, l_ka_V4, l_kb_V4, l_kt_W5, l_kn_W5, l_kl_W5, l_kx_W5, l_ka_W5, l_kb_W5, l_kt_V5, l_kn_V5, l_kl_V5, l_kx_V5, l_ka_V5, l_kb_V5, l_kn_W6, l_kl_W6, l_kx_W6, l_ka_W6, l_kb_W6, l_kt_W6] at n_kn
 have n_kl := congrArg (fun v : World => v.heap[W2.heap.size]?) hV_V6
 simp (maxDischargeDepth := 9) only [BK, not_false_eq_true, reduceCtorEq, kt, kn, kl, kx, ka, kb, l_kt_w, l_kt_V, l_kt_W1, l_kt_V1, l_kn_V1, l_kt_W2, l_kn_W2, l_kt_V2, l_kn_V2, l_kl_V2, l_kt_W3, l_kn_W3, l_kl_W3, l_kt_V3, l_kn_V3, l_kl_V3, l_kx_V3, l_kt_W4, l_kn_W4, l_kl_W4, l_kx_W4, l_kt_V4, l_kn_V4, l_kl_V4, l_kx_V4, l_ka_V4, l_kb_V4, l_kt_W5, l_kn_W5, l_kl_W5, l_kx_W5, l_ka_W5, l_kb_W5, l_kt_V5, l_kn_V5, l_kl_V5, l_kx_V5, l_ka_V5, l_kb_V5, l_kn_W6, l_kl_W6, l_kx_W6, l_ka_W6, l_kb_W6, l_kt_W6] at n_kl
 have n_kx := congrArg (fun v : World => v.heap[W3.heap.size]?) hV_V6
 simp (maxDischargeDepth := 9) only [BK, not_false_eq_true, reduceCtorEq, kt, kn, kl, kx, ka, kb, l_kt_w, l_kt_V, l_kt_W1, l_kt_V1, l_kn_V1, l_kt_W2, l_kn_W2, l_kt_V2, l_kn_V2, l_kl_V2, l_kt_W3, l_kn_W3, l_kl_W3, l_kt_V3, l_kn_V3, l_kl_V3, l_kx_V3, l_kt_W4, l_kn_W4, l_kl_W4, l_kx_W4, l_kt_V4, l_kn_V4, l_kl_V4, l_kx_V4, l_ka_V4, l_kb_V4, l_kt_W5, l_kn_W5, l_kl_W5, l_kx_W5, l_ka_W5, l_kb_W5, l_kt_V5, l_kn_V5, l_kl_V5, l_kx_V5, l_ka_V5, l_kb_V5, l_kn_W6, l_kl_W6, l_kx_W6, l_ka_W6, l_kb_W6, l_kt_W6] at n_kx
 have n_ka := congrArg (fun v : World => v.heap[W4.heap.size]?) hV_V6
 simp (maxDischargeDepth := 9) only [BK, not_false_eq_true, reduceCtorEq, kt, kn, kl, kx, ka, kb, l_kt_w, l_kt_V, l_kt_W1, l_kt_V1, l_kn_V1, l_kt_W2, l_kn_W2, l_kt_V2, l_kn_V2, l_kl_V2, l_kt_W3, l_kn_W3, l_kl_W3, l_kt_V3, l_kn_V3, l_kl_V3, l_kx_V3, l_kt_W4, l_kn_W4, l_kl_W4, l_kx_W4, l_kt_V4, l_kn_V4, l_kl_V4, l_kx_V4, l_ka_V4, l_kb_V4, l_kt_W5, l_kn_W5, l_kl_W5, l_kx_W5, l_ka_W5, l_kb_W5, l_kt_V5, l_kn_V5, l_kl_V5, l_kx_V5, l_ka_V5, l_kb_V5, l_kn_W6, l_kl_W6, l_kx_W6, l_ka_W6, l_kb_W6, l_kt_W6] at n_ka
 have n_kb := congrArg (fun v : World => v.heap[W4.heap.size + 1]?) hV_V6
 simp (maxDischargeDepth := 9) only [BK, not_false_eq_true, reduceCtorEq, kt, kn, kl, kx, ka, kb, l_kt_w, l_kt_V, l_kt_W1, l_kt_V1, l_kn_V1, l_kt_W2, l_kn_W2, l_kt_V2, l_kn_V2, l_kl_V2, l_kt_W3, l_kn_W3, l_kl_W3, l_kt_V3, l_kn_V3, l_kl_V3, l_kx_V3, l_kt_W4, l_kn_W4, l_kl_W4, l_kx_W4, l_kt_V4, l_kn_V4, l_kl_V4, l_kx_V4, l_ka_V4, l_kb_V4, l_kt_W5, l_kn_W5, l_kl_W5, l_kx_W5, l_ka_W5, l_kb_W5, l_kt_V5, l_kn_V5, l_kl_V5, l_kx_V5, l_ka_V5, l_kb_V5, l_kn_W6, l_kl_W6, l_kx_W6, l_ka_W6, l_kb_W6, l_kt_W6] at n_kb
 have n_F : Fr ((oneX tb)) O O1 w V6 := nF hV_V6
 have n_A : AP V6 ap ((t.leaf c).2).s O1 := nA hV_V6
 have z_V6 := Nat.le_of_eq (congrArg (fun v : World => v.heap.size) hV_V6).symm
 try simp only [SZ] at z_V6
 clear kt c_kt f_kt
 clear kn c_kn f_kn
 clear kl c_kl f_kl
 clear kx c_kx f_kx
 clear ka c_ka f_ka
 clear kb c_kb f_kb
 clear hV_V6
 clear hA
 have hA := n_A
 clear n_A
 clear hF
 have hF := n_F
 clear n_F
 have kt := n_kt; clear n_kt
 have c_kt := cells_of kt
 have f_kt := free_of kt
 have l_kt_V6 := lt_of kt
 have kn := n_kn; clear n_kn
 have c_kn := cells_of kn
 have f_kn := free_of kn
 have l_kn_V6 := lt_of kn
 have kl := n_kl; clear n_kl
 have c_kl := cells_of kl
 have f_kl := free_of kl
 have l_kl_V6 := lt_of kl
 have kx := n_kx; clear n_kx
 have c_kx := cells_of kx
 have f_kx := free_of kx
 have l_kx_V6 := lt_of kx
 have ka := n_ka; clear n_ka
 have c_ka := cells_of ka
 have f_ka := free_of ka
 have l_ka_V6 := lt_of ka
 have kb := n_kb; clear n_kb
 have c_kb := cells_of kb
 have f_kb := free_of kb
 have l_kb_V6 := lt_of kb
 refine (tLeaf_calls l2 e2 _ ⟨hA, kt, o_kt⟩).mono ?_
 rintro e_W7 W7 ⟨rfl, O2, hT_W7, hf_W7⟩
 have q_kn := hf_W7.keep kn o_kn (by unfold oneX; omega)
 have q_kl := hf_W7.keep kl o_kl (by unfold oneX; omega)
 have q_kx := hf_W7.keep kx o_kx (by unfold oneX; omega)
 have q_ka := hf_W7.keep ka o_ka (by unfold oneX; omega)
 have q_kb := hf_W7.keep kb o_kb (by unfold oneX; omega)
 replace o_kn := hf_W7.not_own (lt_of kn) o_kn
 clear kn; have kn := q_kn; clear q_kn
 have c_kn := cells_of kn
 have f_kn := free_of kn
 have l_kn_W7 := lt_of kn
 replace o_kl := hf_W7.not_own (lt_of kl) o_kl
 clear kl; have kl := q_kl; clear q_kl
 have c_kl := cells_of kl
 have f_kl := free_of kl
 have l_kl_W7 := lt_of kl
 replace o_kx := hf_W7.not_own (lt_of kx) o_kx
 clear kx; have kx := q_kx; clear q_kx
 have c_kx := cells_of kx
 have f_kx := free_of kx
 have l_kx_W7 := lt_of kx
 replace o_ka := hf_W7.not_own (lt_of ka) o_ka
 clear ka; have ka := q_ka; clear q_ka
 have c_ka := cells_of ka
 have f_ka := free_of ka
 have l_ka_W7 := lt_of ka
 replace o_kb := hf_W7.not_own (lt_of kb) o_kb
 clear kb; have kb := q_kb; clear q_kb
 have c_kb := cells_of kb
 have f_kb := free_of kb
 have l_kb_W7 := lt_of kb
 clear kt c_kt f_kt o_kt; have kt := hT_W7.blk; have o_kt := hT_W7.no
 have c_kt := cells_of kt
 have f_kt := free_of kt
 have l_kt_W7 := lt_of kt
 replace hF := hF.trans hf_W7
 have z_W7 := hf_W7.size
 clear hA hf_W7; have hA := hT_W7.hA; clear hT_W7
 go_wp2_with fail
 refine calls_gen fun V7 hV_V7 => ?_
 have n_kt := congrArg (fun v : World => v.heap[tb]?) hV_V7
 simp (maxDischargeDepth := 9) only [BK, not_false_eq_true, reduceCtorEq, kt, kn, kl, kx, ka, kb, l_kt_w, l_kt_V, l_kt_W1, l_kt_V1, l_kn_V1, l_kt_W2, l_kn_W2, l_kt_V2, l_kn_V2, l_kl_V2, l_kt_W3, l_kn_W3, l_kl_W3, l_kt_V3, l_kn_V3, l_kl_V3, l_kx_V3, l_kt_W4, l_kn_W4, l_kl_W4, l_kx_W4, l_kt_V4, l_kn_V4, l_kl_V4, l_kx_V4, l_ka_V4, l_kb_V4, l_kt_W5, l_kn_W5, l_kl_W5, l_kx_W5, l_ka_W5, l_kb_W5, l_kt_V5, l_kn_V5, l_kl_V5, l_kx_V5, l_ka_V5, l_kb_V5, l_kn_W6, l_kl_W6, l_kx_W6, l_ka_W6, l_kb_W6, l_kt_W6, l_kt_V6, l_kn_V6, l_kl_V6, l_kx_V6, l_ka_V6, l_kb_V6, l_kn_W7, l_kl_W7, l_kx_W7, l_ka_W7, l_kb_W7, l_kt_W7] at n_kt
 have n_kn := congrArg (fun v : World => v.heap[W1.heap.size]?) hV_V7
 simp (maxDischargeDepth := 9) only [BK, not_false_eq_true, reduceCtorEq, kt, kn, kl, kx, ka, kb, l_kt_w, l_kt_V, l_kt_W1, l_kt_V1, l_kn_V1, l_kt_W2, l_kn_W2, l_kt_V2, l_kn_V2, l_kl_V2, l_kt_W3, l_kn_W3, l_kl_W3, l_kt_V3, l_kn_V3, l_kl_V3, l_kx_V3, l_kt_W4, l_kn_W4, l_kl_W4, l_kx_W4, l_kt_V4, l_kn_V4, l_kl_V4, l_kx_V4, l_ka_V4, l_kb_V4, l_kt_W5, l_kn_W5, l_kl_W5, l_kx_W5, l_ka_W5, l_kb_W5, l_kt_V5, l_kn_V5, l_kl_V5, l_kx_V5, l_ka_V5, l_kb_V5, l_kn_W6, l_kl_W6, l_kx_W6, l_ka_W6, l_kb_W6, l_kt_W6, l_kt_V6, l_kn_V6, l_kl_V6, l_kx_V6, l_ka_V6, l_kb_V6, l_kn_W7, l_kl_W7, l_kx_W7, l_ka_W7, l_kb_W7, l_kt_W7] at n_kn
 have n_kl := congrArg (fun v : World => v.heap[W2.heap.size]?) hV_V7
 simp (maxDischargeDepth := 9) only [BK, not_false_eq_true, reduceCtorEq, kt, kn, kl, kx, ka, kb, l_kt_w, l_kt_V, l_kt_W1, l_kt_V1, l_kn_V1, l_kt_W2, l_kn_W2, l_kt_V2, l_kn_V2, l_kl_V2, l_kt_W3, l_kn_W3, l_kl_W3, l_kt_V3, l_kn_V3, l_kl_V3, l_kx_V3, l_kt_W4, l_kn_W4, l_kl_W4, l_kx_W4, l_kt_V4, l_kn_V4, l_kl_V4, l_kx_V4, l_ka_V4, l_kb_V4, l_kt_W5, l_kn_W5, l_kl_W5, l_kx_W5, l_ka_W5, l_kb_W5, l_kt_V5, l_kn_V5, l_kl_V5, l_kx_V5, l_ka_V5, l_kb_V5, l_kn_W6, l_kl_W6, l_kx_W6, l_ka_W6, l_kb_W6, l_kt_W6, l_kt_V6, l_kn_V6, l_kl_V6, l_kx_V6, l_ka_V6, l_kb_V6, l_kn_W7, l_kl_W7, l_kx_W7, l_ka_W7, l_kb_W7, l_kt_W7] at n_kl
 have n_kx := congrArg (fun v : World => v.heap[W3.heap.size]?) hV_V7
 simp (maxDischargeDepth := 9) only [BK, not_false_eq_true, reduceCtorEq, kt, kn, kl, kx, ka, kb, l_kt_w, l_kt_V, l_kt_W1, l_kt_V1, l_kn_V1, l_kt_W2, l_kn_W2, l_kt_V2, l_kn_V2, l_kl_V2, l_kt_W3, l_kn_W3, l_kl_W3, l_kt_V3, l_kn_V3, l_kl_V3, l_kx_V3, l_kt_W4, l_kn_W4, l_kl_W4, l_kx_W4, l_kt_V4, l_kn_V4, l_kl_V4, l_kx_V4, l_ka_V4, l_kb_V4, l_kt_W5, l_kn_W5, l_kl_W5, l_kx_W5, l_ka_W5, l_kb_W5, l_kt_V5, l_kn_V5, l_kl_V5, l_kx_V5, l_ka_V5, l_kb_V5, l_kn_W6, l_kl_W6, l_kx_W6, l_ka_W6, l_kb_W6, l_kt_W6, l_kt_V6, l_kn_V6, l_kl_V6, l_kx_V6, l_ka_V6, l_kb_V6, l_kn_W7, l_kl_W7, l_kx_W7, l_ka_W7, l_kb_W7, l_kt_W7] at n_kx
 have n_ka := congrArg (fun v : World => v.heap[W4.heap.size]?) hV_V7
 simp (maxDischargeDepth := 9) only [BK, not_false_eq_true, reduceCtorEq, kt, kn, kl, kx, ka, kb, l_kt_w, l_kt_V, l_kt_W1, l_kt_V1, l_kn_V1, l_kt_W2, l_kn_W2, l_kt_V2, l_kn_V2, l_kl_V2, l_kt_W3, l_kn_W3, l_kl_W3, l_kt_V3, l_kn_V3, l_kl_V3, l_kx_V3, l_kt_W4, l_kn_W4, l_kl_W4, l_kx_W4, l_kt_V4, l_kn_V4, l_kl_V4, l_kx_V4, l_ka_V4, l_kb_V4, l_kt_W5, l_kn_W5, l_kl_W5, l_kx_W5, l_ka_W5, l_kb_W5, l_kt_V5, l_kn_V5, l_kl_V5, l_kx_V5, l_ka_V5, l_kb_V5, l_kn_W6, l_kl_W6, l_kx_W6, l_ka_W6, l_kb_W6, l_kt_W6, l_kt_V6, l_kn_V6, l_kl_V6, l_kx_V6, l_ka_V6, l_kb_V6, l_kn_W7, l_kl_W7, l_kx_W7, l_ka_W7, l_kb_W7, l_kt_W7] at n_ka
 have n_kb := congrArg (fun v : World => v.heap[W4.heap.size + 1]?) hV_V7
 simp (maxDischargeDepth := 9) only [BK, not_false_eq_true, reduceCtorEq, kt, kn, kl, kx, ka, kb, l_kt_w, l_kt_V, l_kt_W1, l_kt_V1, l_kn_V1, l_kt_W2, l_kn_W2, l_kt_V2, l_kn_V2, l_kl_V2, l_kt_W3, l_kn_W3, l_kl_W3, l_kt_V3, l_kn_V3, l_kl_V3, l_kx_V3, l_kt_W4, l_kn_W4, l_kl_W4, l_kx_W4, l_kt_V4, l_kn_V4, l_kl_V4, l_kx_V4, l_ka_V4, l_kb_V4, l_kt_W5, l_kn_W5, l_kl_W5, l_kx_W5, l_ka_W5, l_kb_W5, l_kt_V5, l_kn_V5, l_kl_V5, l_kx_V5, l_ka_V5, l_kb_V5, l_kn_W6, l_kl_W6, l_kx_W6, l_ka_W6, l_kb_W6, l_kt_W6, l_kt_V6, l_kn_V6, l_kl_V6, l_kx_V6, l_ka_V6, l_kb_V6, l_kn_W7, l_kl_W7, l_kx_W7, l_ka_W7, l_kb_W7, l_kt_W7] at n_kb
 have n_F : Fr ((oneX tb)) O O2 w V7 := nF hV_V7
 have n_A : AP V7 ap (((t.leaf c).2.leaf l2).2).s O2 := nA hV_V7
 have z_V7 := Nat.le_of_eq (congrArg (fun v : World => v.heap.size) hV_V7).symm
 try simp only [SZ] at z_V7
 clear kt c_kt f_kt
 clear kn c_kn f_kn
 clear kl c_kl f_kl
 clear kx c_kx f_kx
 clear ka c_ka f_ka
 clear kb c_kb f_kb
 clear hV_V7
 clear hA
 have hA := n_A
 clear n_A
 clear hF
 have hF := n_F
 clear n_F
 have kt := n_kt; clear n_kt
 have c_kt := cells_of kt
 have f_kt := free_of kt
 have l_kt_V7 := lt_of kt
 have kn := n_kn; clear n_kn
 have c_kn := cells_of kn
 have f_kn := free_of kn
 have l_kn_V7 := lt_of kn
 have kl := n_kl; clear n_kl
 have c_kl := cells_of kl
 have f_kl := free_of kl
 have l_kl_V7 := lt_of kl
 have kx := n_kx; clear n_kx
 have c_kx := cells_of kx
 have f_kx := free_of kx
 have l_kx_V7 := lt_of kx
 have ka := n_ka; clear n_ka
 have c_ka := cells_of ka
 have f_ka := free_of ka
 have l_ka_V7 := lt_of ka
 have kb := n_kb; clear n_kb
 have c_kb := cells_of kb
 have f_kb := free_of kb
 have l_kb_V7 := lt_of kb
 refine (tPairOr_calls _ _ _ ⟨hA, kt, o_kt⟩).mono ?_
 rintro e_W8 W8 ⟨rfl, O3, hT_W8, hf_W8⟩
 have q_kn := hf_W8.keep kn o_kn (by unfold oneX; omega)
 have q_kl := hf_W8.keep kl o_kl (by unfold oneX; omega)
 have q_kx := hf_W8.keep kx o_kx (by unfold oneX; omega)
 have q_ka := hf_W8.keep ka o_ka (by unfold oneX; omega)
 have q_kb := hf_W8.keep kb o_kb (by unfold oneX; omega)
 replace o_kn := hf_W8.not_own (lt_of kn) o_kn
 clear kn; have kn := q_kn; clear q_kn
 have c_kn := cells_of kn
 have f_kn := free_of kn
 have l_kn_W8 := lt_of kn
 replace o_kl := hf_W8.not_own (lt_of kl) o_kl
 clear kl; have kl := q_kl; clear q_kl
 have c_kl := cells_of kl
 have f_kl := free_of kl
 have l_kl_W8 := lt_of kl
 replace o_kx := hf_W8.not_own (lt_of kx) o_kx
 clear kx; have kx := q_kx; clear q_kx
 have c_kx := cells_of kx
 have f_kx := free_of kx
 have l_kx_W8 := lt_of kx
 replace o_ka := hf_W8.not_own (lt_of ka) o_ka
 clear ka; have ka := q_ka; clear q_ka
 have c_ka := cells_of ka
 have f_ka := free_of ka
 have l_ka_W8 := lt_of ka
 replace o_kb := hf_W8.not_own (lt_of kb) o_kb
 clear kb; have kb := q_kb; clear q_kb
 have c_kb := cells_of kb
 have f_kb := free_of kb
 have l_kb_W8 := lt_of kb
 clear kt c_kt f_kt o_kt; have kt := hT_W8.blk; have o_kt := hT_W8.no
 have c_kt := cells_of kt
 have f_kt := free_of kt
 have l_kt_W8 := lt_of kt
 replace hF := hF.trans hf_W8
 have z_W8 := hf_W8.size
 clear hA hf_W8; have hA := hT_W8.hA; clear hT_W8
 go_wp2_with fail
 go_ret
 rw [two_def]
 exact ⟨rfl, O3, ⟨hA, kt, o_kt⟩, hF⟩
set_option maxRecDepth 100000 in
set_option maxHeartbeats 2000000 in
theorem tIns_r (one : Bool) (k : Nat) (h i : Int) (r : Int × Tb) (w : World) (hT : TB w tb ap t O) (h1 : bIs t.s h = true) (d1 : ((t.s.get h).tag == 1) = true) (hU : U64 (t.s.get h).a) (d2 : insOk (lfOk (t.s.get h).a (wrap64 (t.s.get h).b)) (lfL (t.s.get h).a (wrap64 (t.s.get h).b)) i = false) (l1 l2 : List Bool) (H1 : Hid (l1 = (lfL (t.s.get h).a (wrap64 (t.s.get h).b)).take 32)) (H2 : Hid (l2 = (lfL (t.s.get h).a (wrap64 (t.s.get h).b)).drop 32)) (e1 : l1.length ≤ 64) (e2 : l2.length ≤ 64) (d3 : decide (i ≤ (l1.length : Int)) = false) (hr : some (t.two l1 (insR true l2 (wrap64 (i - (l1.length : Int))) one)) = some r) :
  Calls Tryz.prog 84 #[.pointer (some ⟨tb, 0, none⟩), .int .i64 h, .int .i64 i, .bool one] w fun e w' => e = .returned (.int .i64 r.1) ∧ DidT tb ap r.2 O w w' := by
 obtain ⟨c, H3⟩ : ∃ c, Hid (c = insR true l2 (wrap64 (i - (l1.length : Int))) one) := ⟨_, Lib.hid rfl⟩
 have e3 : c.length ≤ 64 := by rw [H3.out]; exact insR_le _ _ _ _
 rw [← H3.out] at hr
 obtain rfl := Option.some.inj hr
 clear hr
 go_enter Tryz.func84, Tryz.ntmps84
 have hA := hT.hA
 have kt := hT.blk
 have o_kt := hT.no
 have c_kt := cells_of kt
 have f_kt := free_of kt
 have l_kt_w := lt_of kt
 go_wp2_with fail
 refine calls_gen fun V hV_V => ?_
 have n_kt := congrArg (fun v : World => v.heap[tb]?) hV_V
 simp (maxDischargeDepth := 9) only [BK, not_false_eq_true, reduceCtorEq, kt, l_kt_w] at n_kt
 have n_F : Fr ((oneX tb)) O O w V := nF hV_V
 have n_A : AP V ap t.s O := nA hV_V
 have z_V := Nat.le_of_eq (congrArg (fun v : World => v.heap.size) hV_V).symm
 try simp only [SZ] at z_V
 clear kt c_kt f_kt
 clear hV_V
 clear hA
 have hA := n_A
 clear n_A
 skip
 have hF := n_F
 clear n_F
 have kt := n_kt; clear n_kt
 have c_kt := cells_of kt
 have f_kt := free_of kt
 have l_kt_V := lt_of kt
 refine (bRow_calls _ _ hA).mono ?_
 rintro e_W1 W1 ⟨rfl, hb_W1⟩
 replace hA := hA.below hb_W1
 replace hF := hF.below hb_W1
 replace kt := keep_blk hb_W1 kt
 have c_kt := cells_of kt
 have f_kt := free_of kt
 have l_kt_W1 := lt_of kt
 have z_W1 := hb_W1.size
 clear hb_W1
 unfold Nd.val
 go_wp2_with fail
 refine calls_gen fun V1 hV_V1 => ?_
 have n_kt := congrArg (fun v : World => v.heap[tb]?) hV_V1
 simp (maxDischargeDepth := 9) only [BK, not_false_eq_true, reduceCtorEq, kt, l_kt_w, l_kt_V, l_kt_W1] at n_kt
 have n_kn := congrArg (fun v : World => v.heap[W1.heap.size]?) hV_V1
 simp (maxDischargeDepth := 9) only [BK, not_false_eq_true, reduceCtorEq, kt, l_kt_w, l_kt_V, l_kt_W1] at n_kn
 have o_kn : ¬ O (W1.heap.size) := by first | exact hA.new (Nat.le_refl _) | exact hA.new (by omega)
 have n_F : Fr ((oneX tb)) O O w V1 := nF hV_V1
 have n_A : AP V1 ap t.s O := nA hV_V1
 have z_V1 := Nat.le_of_eq (congrArg (fun v : World => v.heap.size) hV_V1).symm
 try simp only [SZ] at z_V1
 clear kt c_kt f_kt
 clear hV_V1
 clear hA
 have hA := n_A
 clear n_A
 clear hF
 have hF := n_F
 clear n_F
 have kt := n_kt; clear n_kt
 have c_kt := cells_of kt
 have f_kt := free_of kt
 have l_kt_V1 := lt_of kt
 have kn := n_kn; clear n_kn
 have c_kn := cells_of kn
 have f_kn := free_of kn
 have l_kn_V1 := lt_of kn
 refine (bBits_calls (t.s.get h) _).mono ?_
 rintro e_W2 W2 ⟨rfl, hb_W2⟩
 replace hA := hA.below hb_W2
 replace hF := hF.below hb_W2
 replace kt := keep_blk hb_W2 kt
 have c_kt := cells_of kt
 have f_kt := free_of kt
 have l_kt_W2 := lt_of kt
 replace kn := keep_blk hb_W2 kn
 have c_kn := cells_of kn
 have f_kn := free_of kn
 have l_kn_W2 := lt_of kn
 have z_W2 := hb_W2.size
 clear hb_W2
 go_wp2_with fail
 refine calls_gen fun V2 hV_V2 => ?_
 have n_kt := congrArg (fun v : World => v.heap[tb]?) hV_V2
 simp (maxDischargeDepth := 9) only [BK, not_false_eq_true, reduceCtorEq, kt, kn, l_kt_w, l_kt_V, l_kt_W1, l_kt_V1, l_kn_V1, l_kt_W2, l_kn_W2] at n_kt
 have n_kn := congrArg (fun v : World => v.heap[W1.heap.size]?) hV_V2
 simp (maxDischargeDepth := 9) only [BK, not_false_eq_true, reduceCtorEq, kt, kn, l_kt_w, l_kt_V, l_kt_W1, l_kt_V1, l_kn_V1, l_kt_W2, l_kn_W2] at n_kn
 have n_kl := congrArg (fun v : World => v.heap[W2.heap.size]?) hV_V2
 simp (maxDischargeDepth := 9) only [BK, not_false_eq_true, reduceCtorEq, kt, kn, l_kt_w, l_kt_V, l_kt_W1, l_kt_V1, l_kn_V1, l_kt_W2, l_kn_W2] at n_kl
 have o_kl : ¬ O (W2.heap.size) := by first | exact hA.new (Nat.le_refl _) | exact hA.new (by omega)
 have n_F : Fr ((oneX tb)) O O w V2 := nF hV_V2
 have n_A : AP V2 ap t.s O := nA hV_V2
 have z_V2 := Nat.le_of_eq (congrArg (fun v : World => v.heap.size) hV_V2).symm
 try simp only [SZ] at z_V2
 clear kt c_kt f_kt
 clear kn c_kn f_kn
 clear hV_V2
 clear hA
 have hA := n_A
 clear n_A
 clear hF
 have hF := n_F
 clear n_F
 have kt := n_kt; clear n_kt
 have c_kt := cells_of kt
 have f_kt := free_of kt
 have l_kt_V2 := lt_of kt
 have kn := n_kn; clear n_kn
 have c_kn := cells_of kn
 have f_kn := free_of kn
 have l_kn_V2 := lt_of kn
 have kl := n_kl; clear n_kl
 have c_kl := cells_of kl
 have f_kl := free_of kl
 have l_kl_V2 := lt_of kl
 refine (insert_i hU i one _).mono ?_
 rintro e_W3 W3 ⟨rfl, hb_W3⟩
 replace hA := hA.below hb_W3
 replace hF := hF.below hb_W3
 replace kt := keep_blk hb_W3 kt
 have c_kt := cells_of kt
 have f_kt := free_of kt
 have l_kt_W3 := lt_of kt
 replace kn := keep_blk hb_W3 kn
 have c_kn := cells_of kn
 have f_kn := free_of kn
 have l_kn_W3 := lt_of kn
 replace kl := keep_blk hb_W3 kl
 have c_kl := cells_of kl
 have f_kl := free_of kl
 have l_kl_W3 := lt_of kl
 have z_W3 := hb_W3.size
 clear hb_W3
 go_wp2_with fail
 refine calls_gen fun V3 hV_V3 => ?_
 have n_kt := congrArg (fun v : World => v.heap[tb]?) hV_V3
 simp (maxDischargeDepth := 9) only [BK, not_false_eq_true, reduceCtorEq, kt, kn, kl, l_kt_w, l_kt_V, l_kt_W1, l_kt_V1, l_kn_V1, l_kt_W2, l_kn_W2, l_kt_V2, l_kn_V2, l_kl_V2, l_kt_W3, l_kn_W3, l_kl_W3] at n_kt
 have n_kn := congrArg (fun v : World => v.heap[W1.heap.size]?) hV_V3
 simp (maxDischargeDepth := 9) only [BK, not_false_eq_true, reduceCtorEq, kt, kn, kl, l_kt_w, l_kt_V, l_kt_W1, l_kt_V1, l_kn_V1, l_kt_W2, l_kn_W2, l_kt_V2, l_kn_V2, l_kl_V2, l_kt_W3, l_kn_W3, l_kl_W3] at n_kn
 have n_kl := congrArg (fun v : World => v.heap[W2.heap.size]?) hV_V3
 simp (maxDischargeDepth := 9) only [BK, not_false_eq_true, reduceCtorEq, kt, kn, kl, l_kt_w, l_kt_V, l_kt_W1, l_kt_V1, l_kn_V1, l_kt_W2, l_kn_W2, l_kt_V2, l_kn_V2, l_kl_V2, l_kt_W3, l_kn_W3, l_kl_W3] at n_kl
 have n_kx := congrArg (fun v : World => v.heap[W3.heap.size]?) hV_V3
 simp (maxDischargeDepth := 9) only [BK, not_false_eq_true, reduceCtorEq, kt, kn, kl, l_kt_w, l_kt_V, l_kt_W1, l_kt_V1, l_kn_V1, l_kt_W2, l_kn_W2, l_kt_V2, l_kn_V2, l_kl_V2, l_kt_W3, l_kn_W3, l_kl_W3] at n_kx
 have o_kx : ¬ O (W3.heap.size) := by first | exact hA.new (Nat.le_refl _) | exact hA.new (by omega)
 have n_F : Fr ((oneX tb)) O O w V3 := nF hV_V3
 have n_A : AP V3 ap t.s O := nA hV_V3
 have z_V3 := Nat.le_of_eq (congrArg (fun v : World => v.heap.size) hV_V3).symm
 try simp only [SZ] at z_V3
 clear kt c_kt f_kt
 clear kn c_kn f_kn
 clear kl c_kl f_kl
 clear hV_V3
 clear hA
 have hA := n_A
 clear n_A
 clear hF
 have hF := n_F
 clear n_F
 have kt := n_kt; clear n_kt
 have c_kt := cells_of kt
 have f_kt := free_of kt
 have l_kt_V3 := lt_of kt
 have kn := n_kn; clear n_kn
 have c_kn := cells_of kn
 have f_kn := free_of kn
 have l_kn_V3 := lt_of kn
 have kl := n_kl; clear n_kl
 have c_kl := cells_of kl
 have f_kl := free_of kl
 have l_kl_V3 := lt_of kl
 have kx := n_kx; clear n_kx
 have c_kx := cells_of kx
 have f_kx := free_of kx
 have l_kx_V3 := lt_of kx
 refine (split_32 hU l1 l2 H1.out H2.out _).mono ?_
 rintro e_W4 W4 ⟨rfl, hb_W4⟩
 replace hA := hA.below hb_W4
 replace hF := hF.below hb_W4
 replace kt := keep_blk hb_W4 kt
 have c_kt := cells_of kt
 have f_kt := free_of kt
 have l_kt_W4 := lt_of kt
 replace kn := keep_blk hb_W4 kn
 have c_kn := cells_of kn
 have f_kn := free_of kn
 have l_kn_W4 := lt_of kn
 replace kl := keep_blk hb_W4 kl
 have c_kl := cells_of kl
 have f_kl := free_of kl
 have l_kl_W4 := lt_of kl
 replace kx := keep_blk hb_W4 kx
 have c_kx := cells_of kx
 have f_kx := free_of kx
 have l_kx_W4 := lt_of kx
 have z_W4 := hb_W4.size
 clear hb_W4
 go_wp2_with fail
 refine calls_gen fun V4 hV_V4 => ?_
 have n_kt := congrArg (fun v : World => v.heap[tb]?) hV_V4
 simp (maxDischargeDepth := 9) only [BK, not_false_eq_true, reduceCtorEq, kt, kn, kl, kx, l_kt_w, l_kt_V, l_kt_W1, l_kt_V1, l_kn_V1, l_kt_W2, l_kn_W2, l_kt_V2, l_kn_V2, l_kl_V2, l_kt_W3, l_kn_W3, l_kl_W3, l_kt_V3, l_kn_V3, l_kl_V3, l_kx_V3, l_kt_W4, l_kn_W4, l_kl_W4, l_kx_W4] at n_kt
 have n_kn := congrArg (fun v : World => v.heap[W1.heap.size]?) hV_V4
 simp (maxDischargeDepth := 9) only [BK, not_false_eq_true, reduceCtorEq, kt, kn, kl, kx, l_kt_w, l_kt_V, l_kt_W1, l_kt_V1, l_kn_V1, l_kt_W2, l_kn_W2, l_kt_V2, l_kn_V2, l_kl_V2, l_kt_W3, l_kn_W3, l_kl_W3, l_kt_V3, l_kn_V3, l_kl_V3, l_kx_V3, l_kt_W4, l_kn_W4, l_kl_W4, l_kx_W4] at n_kn
 have n_kl := congrArg (fun v : World => v.heap[W2.heap.size]?) hV_V4
 simp (maxDischargeDepth := 9) only [BK, not_false_eq_true, reduceCtorEq, kt, kn, kl, kx, l_kt_w, l_kt_V, l_kt_W1, l_kt_V1, l_kn_V1, l_kt_W2, l_kn_W2, l_kt_V2, l_kn_V2, l_kl_V2, l_kt_W3, l_kn_W3, l_kl_W3, l_kt_V3, l_kn_V3, l_kl_V3, l_kx_V3, l_kt_W4, l_kn_W4, l_kl_W4, l_kx_W4] at n_kl
 have n_kx := congrArg (fun v : World => v.heap[W3.heap.size]?) hV_V4
 simp (maxDischargeDepth := 9) only [BK, not_false_eq_true, reduceCtorEq, kt, kn, kl, kx, l_kt_w, l_kt_V, l_kt_W1, l_kt_V1, l_kn_V1, l_kt_W2, l_kn_W2, l_kt_V2, l_kn_V2, l_kl_V2, l_kt_W3, l_kn_W3, l_kl_W3, l_kt_V3, l_kn_V3, l_kl_V3, l_kx_V3, l_kt_W4, l_kn_W4, l_kl_W4, l_kx_W4] at n_kx
 have n_ka := congrArg (fun v : World => v.heap[W4.heap.size]?) hV_V4
 simp (maxDischargeDepth := 9) only [BK, not_false_eq_true, reduceCtorEq, kt, kn, kl, kx, l_kt_w, l_kt_V, l_kt_W1, l_kt_V1, l_kn_V1, l_kt_W2, l_kn_W2, l_kt_V2, l_kn_V2, l_kl_V2, l_kt_W3, l_kn_W3, l_kl_W3, l_kt_V3, l_kn_V3, l_kl_V3, l_kx_V3, l_kt_W4, l_kn_W4, l_kl_W4, l_kx_W4] at n_ka
 have n_kb := congrArg (fun v : World => v.heap[W4.heap.size + 1]?) hV_V4
 simp (maxDischargeDepth := 9) only [BK, not_false_eq_true, reduceCtorEq, kt, kn, kl, kx, l_kt_w, l_kt_V, l_kt_W1, l_kt_V1, l_kn_V1, l_kt_W2, l_kn_W2, l_kt_V2, l_kn_V2, l_kl_V2, l_kt_W3, l_kn_W3, l_kl_W3, l_kt_V3, l_kn_V3, l_kl_V3, l_kx_V3, l_kt_W4, l_kn_W4, l_kl_W4, l_kx_W4] at n_kb
 have o_ka : ¬ O (W4.heap.size) := by first | exact hA.new (Nat.le_refl _) | exact hA.new (by omega)
 have o_kb : ¬ O (W4.heap.size + 1) := by first | exact hA.new (Nat.le_refl _) | exact hA.new (by omega)
 have n_F : Fr ((oneX tb)) O O w V4 := nF hV_V4
 have n_A : AP V4 ap t.s O := nA hV_V4
 have z_V4 := Nat.le_of_eq (congrArg (fun v : World => v.heap.size) hV_V4).symm
 try simp only [SZ] at z_V4
 clear kt c_kt f_kt
 clear kn c_kn f_kn
 clear kl c_kl f_kl
 clear kx c_kx f_kx
 clear hV_V4
 clear hA
 have hA := n_A
 clear n_A
 clear hF
 have hF := n_F
 clear n_F
 have kt := n_kt; clear n_kt
 have c_kt := cells_of kt
 have f_kt := free_of kt
 have l_kt_V4 := lt_of kt
 have kn := n_kn; clear n_kn
 have c_kn := cells_of kn
 have f_kn := free_of kn
 have l_kn_V4 := lt_of kn
 have kl := n_kl; clear n_kl
 have c_kl := cells_of kl
 have f_kl := free_of kl
 have l_kl_V4 := lt_of kl
 have kx := n_kx; clear n_kx
 have c_kx := cells_of kx
 have f_kx := free_of kx
 have l_kx_V4 := lt_of kx
 have ka := n_ka; clear n_ka
 have c_ka := cells_of ka
 have f_ka := free_of ka
 have l_ka_V4 := lt_of ka
 have kb := n_kb; clear n_kb
 have c_kb := cells_of kb
 have f_kb := free_of kb
 have l_kb_V4 := lt_of kb
 refine (insert_c l2 c e2 (wrap64 (i - (l1.length : Int))) one H3.out _).mono ?_
 rintro e_W5 W5 ⟨rfl, hb_W5⟩
 replace hA := hA.below hb_W5
 replace hF := hF.below hb_W5
 replace kt := keep_blk hb_W5 kt
 have c_kt := cells_of kt
 have f_kt := free_of kt
 have l_kt_W5 := lt_of kt
 replace kn := keep_blk hb_W5 kn
 have c_kn := cells_of kn
 have f_kn := free_of kn
 have l_kn_W5 := lt_of kn
 replace kl := keep_blk hb_W5 kl
 have c_kl := cells_of kl
 have f_kl := free_of kl
 have l_kl_W5 := lt_of kl
 replace kx := keep_blk hb_W5 kx
 have c_kx := cells_of kx
 have f_kx := free_of kx
 have l_kx_W5 := lt_of kx
 replace ka := keep_blk hb_W5 ka
 have c_ka := cells_of ka
 have f_ka := free_of ka
 have l_ka_W5 := lt_of ka
 replace kb := keep_blk hb_W5 kb
 have c_kb := cells_of kb
 have f_kb := free_of kb
 have l_kb_W5 := lt_of kb
 have z_W5 := hb_W5.size
 clear hb_W5
 go_wp2_with fail
 refine calls_gen fun V5 hV_V5 => ?_
 have n_kt := congrArg (fun v : World => v.heap[tb]?) hV_V5
 simp (maxDischargeDepth := 9) only [BK, not_false_eq_true, reduceCtorEq, kt, kn, kl, kx, ka, kb, l_kt_w, l_kt_V, l_kt_W1, l_kt_V1, l_kn_V1, l_kt_W2, l_kn_W2, l_kt_V2, l_kn_V2, l_kl_V2, l_kt_W3, l_kn_W3, l_kl_W3, l_kt_V3, l_kn_V3, l_kl_V3, l_kx_V3, l_kt_W4, l_kn_W4, l_kl_W4, l_kx_W4, l_kt_V4, l_kn_V4, l_kl_V4, l_kx_V4, l_ka_V4, l_kb_V4, l_kt_W5, l_kn_W5, l_kl_W5, l_kx_W5, l_ka_W5, l_kb_W5] at n_kt
 have n_kn := congrArg (fun v : World => v.heap[W1.heap.size]?) hV_V5
 simp (maxDischargeDepth := 9) only [BK, not_false_eq_true, reduceCtorEq, kt, kn, kl, kx, ka, kb, l_kt_w, l_kt_V, l_kt_W1, l_kt_V1, l_kn_V1, l_kt_W2, l_kn_W2, l_kt_V2, l_kn_V2, l_kl_V2, l_kt_W3, l_kn_W3, l_kl_W3, l_kt_V3, l_kn_V3, l_kl_V3, l_kx_V3, l_kt_W4, l_kn_W4, l_kl_W4, l_kx_W4, l_kt_V4, l_kn_V4, l_kl_V4, l_kx_V4, l_ka_V4, l_kb_V4, l_kt_W5, l_kn_W5, l_kl_W5, l_kx_W5, l_ka_W5, l_kb_W5] at n_kn
 have n_kl := congrArg (fun v : World => v.heap[W2.heap.size]?) hV_V5
 simp (maxDischargeDepth := 9) only [BK, not_false_eq_true, reduceCtorEq, kt, kn, kl, kx, ka, kb, l_kt_w, l_kt_V, l_kt_W1, l_kt_V1, l_kn_V1, l_kt_W2, l_kn_W2, l_kt_V2, l_kn_V2, l_kl_V2, l_kt_W3, l_kn_W3, l_kl_W3, l_kt_V3, l_kn_V3, l_kl_V3, l_kx_V3, l_kt_W4, l_kn_W4, l_kl_W4, l_kx_W4, l_kt_V4, l_kn_V4, l_kl_V4, l_kx_V4, l_ka_V4, l_kb_V4, l_kt_W5, l_kn_W5, l_kl_W5, l_kx_W5, l_ka_W5, l_kb_W5] at n_kl
 have n_kx := congrArg (fun v : World => v.heap[W3.heap.size]?) hV_V5
 simp (maxDischargeDepth := 9) only [BK, not_false_eq_true, reduceCtorEq, kt, kn, kl, kx, ka, kb, l_kt_w, l_kt_V, l_kt_W1, l_kt_V1, l_kn_V1, l_kt_W2, l_kn_W2, l_kt_V2, l_kn_V2, l_kl_V2, l_kt_W3, l_kn_W3, l_kl_W3, l_kt_V3, l_kn_V3, l_kl_V3, l_kx_V3, l_kt_W4, l_kn_W4, l_kl_W4, l_kx_W4, l_kt_V4, l_kn_V4, l_kl_V4, l_kx_V4, l_ka_V4, l_kb_V4, l_kt_W5, l_kn_W5, l_kl_W5, l_kx_W5, l_ka_W5, l_kb_W5] at n_kx
 have n_ka := congrArg (fun v : World => v.heap[W4.heap.size]?) hV_V5
 simp (maxDischargeDepth := 9) only [BK, not_false_eq_true, reduceCtorEq, kt, kn, kl, kx, ka, kb, l_kt_w, l_kt_V, l_kt_W1, l_kt_V1, l_kn_V1, l_kt_W2, l_kn_W2, l_kt_V2, l_kn_V2, l_kl_V2, l_kt_W3, l_kn_W3, l_kl_W3, l_kt_V3, l_kn_V3, l_kl_V3, l_kx_V3, l_kt_W4, l_kn_W4, l_kl_W4, l_kx_W4, l_kt_V4, l_kn_V4, l_kl_V4, l_kx_V4, l_ka_V4, l_kb_V4, l_kt_W5, l_kn_W5, l_kl_W5, l_kx_W5, l_ka_W5, l_kb_W5] at n_ka
 have n_kb := congrArg (fun v : World => v.heap[W4.heap.size + 1]?) hV_V5
 simp (maxDischargeDepth := 9) only [BK, not_false_eq_true, reduceCtorEq, kt, kn, kl, kx, ka, kb, l_kt_w, l_kt_V, l_kt_W1, l_kt_V1, l_kn_V1, l_kt_W2, l_kn_W2, l_kt_V2, l_kn_V2, l_kl_V2, l_kt_W3, l_kn_W3, l_kl_W3, l_kt_V3, l_kn_V3, l_kl_V3, l_kx_V3, l_kt_W4, l_kn_W4, l_kl_W4, l_kx_W4, l_kt_V4, l_kn_V4, l_kl_V4, l_kx_V4, l_ka_V4, l_kb_V4, l_kt_W5, l_kn_W5, l_kl_W5, l_kx_W5, l_ka_W5, l_kb_W5] at n_kb
 have n_F : Fr ((oneX tb)) O O w V5 := nF hV_V5
 have n_A : AP V5 ap t.s O := nA hV_V5
 have z_V5 := Nat.le_of_eq (congrArg (fun v : World => v.heap.size) hV_V5).symm
 try simp only [SZ] at z_V5
 clear kt c_kt f_kt
 clear kn c_kn f_kn
 clear kl c_kl f_kl
 clear kx c_kx f_kx
 clear ka c_ka f_ka
 clear kb c_kb f_kb
 clear hV_V5
 clear hA
 have hA := n_A
 clear n_A
 clear hF
 have hF := n_F
 clear n_F
 have kt := n_kt; clear n_kt
 have c_kt := cells_of kt
 have f_kt := free_of kt
 have l_kt_V5 := lt_of kt
 have kn := n_kn; clear n_kn
 have c_kn := cells_of kn
 have f_kn := free_of kn
 have l_kn_V5 := lt_of kn
 have kl := n_kl; clear n_kl
 have c_kl := cells_of kl
 have f_kl := free_of kl
 have l_kl_V5 := lt_of kl
 have kx := n_kx; clear n_kx
 have c_kx := cells_of kx
 have f_kx := free_of kx
 have l_kx_V5 := lt_of kx
 have ka := n_ka; clear n_ka
 have c_ka := cells_of ka
 have f_ka := free_of ka
 have l_ka_V5 := lt_of ka
 have kb := n_kb; clear n_kb
 have c_kb := cells_of kb
 have f_kb := free_of kb
 have l_kb_V5 := lt_of kb
 refine (tLeaf_calls l1 e1 _ ⟨hA, kt, o_kt⟩).mono ?_
 rintro e_W6 W6 ⟨rfl, O1, hT_W6, hf_W6⟩
 have q_kn := hf_W6.keep kn o_kn (by unfold oneX; omega)
 have q_kl := hf_W6.keep kl o_kl (by unfold oneX; omega)
 have q_kx := hf_W6.keep kx o_kx (by unfold oneX; omega)
 have q_ka := hf_W6.keep ka o_ka (by unfold oneX; omega)
 have q_kb := hf_W6.keep kb o_kb (by unfold oneX; omega)
 replace o_kn := hf_W6.not_own (lt_of kn) o_kn
 clear kn; have kn := q_kn; clear q_kn
 have c_kn := cells_of kn
 have f_kn := free_of kn
 have l_kn_W6 := lt_of kn
 replace o_kl := hf_W6.not_own (lt_of kl) o_kl
 clear kl; have kl := q_kl; clear q_kl
 have c_kl := cells_of kl
 have f_kl := free_of kl
 have l_kl_W6 := lt_of kl
 replace o_kx := hf_W6.not_own (lt_of kx) o_kx
 clear kx; have kx := q_kx; clear q_kx
 have c_kx := cells_of kx
 have f_kx := free_of kx
 have l_kx_W6 := lt_of kx
 replace o_ka := hf_W6.not_own (lt_of ka) o_ka
 clear ka; have ka := q_ka; clear q_ka
 have c_ka := cells_of ka
 have f_ka := free_of ka
 have l_ka_W6 := lt_of ka
 replace o_kb := hf_W6.not_own (lt_of kb) o_kb
 clear kb; have kb := q_kb; clear q_kb
 have c_kb := cells_of kb
 have f_kb := free_of kb
 have l_kb_W6 := lt_of kb
 clear kt c_kt f_kt o_kt; have kt := hT_W6.blk; have o_kt := hT_W6.no
 have c_kt := cells_of kt
 have f_kt := free_of kt
 have l_kt_W6 := lt_of kt
 replace hF := hF.trans hf_W6
 have z_W6 := hf_W6.size
 clear hA hf_W6; have hA := hT_W6.hA; clear hT_W6
 go_wp2_with fail
 refine calls_gen fun V6 hV_V6 => ?_
 have n_kt := congrArg (fun v : World => v.heap[tb]?) hV_V6
 simp (maxDischargeDepth := 9) only [BK, not_false_eq_true, reduceCtorEq, kt, kn, kl, kx, ka, kb, l_kt_w, l_kt_V, l_kt_W1, l_kt_V1, l_kn_V1, l_kt_W2, l_kn_W2, l_kt_V2, l_kn_V2, l_kl_V2, l_kt_W3, l_kn_W3, l_kl_W3, l_kt_V3, l_kn_V3, l_kl_V3, l_kx_V3, l_kt_W4, l_kn_W4, l_kl_W4, l_kx_W4, l_kt_V4, l_kn_V4, l_kl_V4, l_kx_V4, l_ka_V4, l_kb_V4, l_kt_W5, l_kn_W5, l_kl_W5, l_kx_W5, l_ka_W5, l_kb_W5, l_kt_V5, l_kn_V5, l_kl_V5, l_kx_V5, l_ka_V5, l_kb_V5, l_kn_W6, l_kl_W6, l_kx_W6, l_ka_W6, l_kb_W6, l_kt_W6] at n_kt
 have n_kn := congrArg (fun v : World => v.heap[W1.heap.size]?) hV_V6
 simp (maxDischargeDepth := 9) only [BK, not_false_eq_true, reduceCtorEq, kt, kn, kl, kx, ka, kb, l_kt_w, l_kt_V, l_kt_W1, l_kt_V1, l_kn_V1, l_kt_W2, l_kn_W2, l_kt_V2, l_kn_V2, l_kl_V2, l_kt_W3, l_kn_W3, l_kl_W3, l_kt_V3, l_kn_V3, l_kl_V3, l_kx_V3, l_kt_W4, l_kn_W4, l_kl_W4, l_kx_W4, l_kt_V4, l_kn_V4, l_kl_V4, l_kx_V4, l_ka_V4, l_kb_V4, l_kt_W5, l_kn_W5, l_kl_W5, l_kx_W5, l_ka_W5, l_kb_W5, l_kt_V5, l_kn_V5, l_kl_V5, l_kx_V5, l_ka_V5, l_kb_V5, l_kn_W6, l_kl_W6, l_kx_W6, l_ka_W6, l_kb_W6, l_kt_W6] at n_kn
 have n_kl := congrArg (fun v : World => v.heap[W2.heap.size]?) hV_V6
 simp (maxDischargeDepth := 9) only [BK, not_false_eq_true, reduceCtorEq, kt, kn, kl, kx, ka, kb, l_kt_w, l_kt_V, l_kt_W1, l_kt_V1, l_kn_V1, l_kt_W2, l_kn_W2, l_kt_V2, l_kn_V2, l_kl_V2, l_kt_W3, l_kn_W3, l_kl_W3, l_kt_V3, l_kn_V3, l_kl_V3, l_kx_V3, l_kt_W4, l_kn_W4, l_kl_W4, l_kx_W4, l_kt_V4, l_kn_V4, l_kl_V4, l_kx_V4, l_ka_V4, l_kb_V4, l_kt_W5, l_kn_W5, l_kl_W5, l_kx_W5, l_ka_W5, l_kb_W5, l_kt_V5, l_kn_V5, l_kl_V5, l_kx_V5, l_ka_V5, l_kb_V5, l_kn_W6, l_kl_W6, l_kx_W6, l_ka_W6, l_kb_W6, l_kt_W6] at n_kl
 have n_kx := congrArg (fun v : World => v.heap[W3.heap.size]?) hV_V6
 simp (maxDischargeDepth := 9) only [BK, not_false_eq_true, reduceCtorEq, kt, kn, kl, kx, ka, kb, l_kt_w, l_kt_V, l_kt_W1, l_kt_V1, l_kn_V1, l_kt_W2, l_kn_W2, l_kt_V2, l_kn_V2, l_kl_V2, l_kt_W3, l_kn_W3, l_kl_W3, l_kt_V3, l_kn_V3, l_kl_V3, l_kx_V3, l_kt_W4, l_kn_W4, l_kl_W4, l_kx_W4, l_kt_V4, l_kn_V4, l_kl_V4, l_kx_V4, l_ka_V4, l_kb_V4, l_kt_W5, l_kn_W5, l_kl_W5, l_kx_W5, l_ka_W5, l_kb_W5, l_kt_V5, l_kn_V5, l_kl_V5, l_kx_V5, l_ka_V5, l_kb_V5, l_kn_W6, l_kl_W6, l_kx_W6, l_ka_W6, l_kb_W6, l_kt_W6] at n_kx
 have n_ka := congrArg (fun v : World => v.heap[W4.heap.size]?) hV_V6
 simp (maxDischargeDepth := 9) only [BK, not_false_eq_true, reduceCtorEq, kt, kn, kl, kx, ka, kb, l_kt_w, l_kt_V, l_kt_W1, l_kt_V1, l_kn_V1, l_kt_W2, l_kn_W2, l_kt_V2, l_kn_V2, l_kl_V2, l_kt_W3, l_kn_W3, l_kl_W3, l_kt_V3, l_kn_V3, l_kl_V3, l_kx_V3, l_kt_W4, l_kn_W4, l_kl_W4, l_kx_W4, l_kt_V4, l_kn_V4, l_kl_V4, l_kx_V4, l_ka_V4, l_kb_V4, l_kt_W5, l_kn_W5, l_kl_W5, l_kx_W5, l_ka_W5, l_kb_W5, l_kt_V5, l_kn_V5, l_kl_V5, l_kx_V5, l_ka_V5, l_kb_V5, l_kn_W6, l_kl_W6, l_kx_W6, l_ka_W6, l_kb_W6, l_kt_W6] at n_ka
 have n_kb := congrArg (fun v : World => v.heap[W4.heap.size + 1]?) hV_V6
 simp (maxDischargeDepth := 9) only [BK, not_false_eq_true, reduceCtorEq, kt, kn, kl, kx, ka, kb, l_kt_w, l_kt_V, l_kt_W1, l_kt_V1, l_kn_V1, l_kt_W2, l_kn_W2, l_kt_V2, l_kn_V2, l_kl_V2, l_kt_W3, l_kn_W3, l_kl_W3, l_kt_V3, l_kn_V3, l_kl_V3, l_kx_V3, l_kt_W4, l_kn_W4, l_kl_W4, l_kx_W4, l_kt_V4, l_kn_V4, l_kl_V4, l_kx_V4, l_ka_V4, l_kb_V4, l_kt_W5, l_kn_W5, l_kl_W5, l_kx_W5, l_ka_W5, l_kb_W5, l_kt_V5, l_kn_V5, l_kl_V5, l_kx_V5, l_ka_V5, l_kb_V5, l_kn_W6, l_kl_W6, l_kx_W6, l_ka_W6, l_kb_W6, l_kt_W6] at n_kb
 have n_F : Fr ((oneX tb)) O O1 w V6 := nF hV_V6
 have n_A : AP V6 ap ((t.leaf l1).2).s O1 := nA hV_V6
 have z_V6 := Nat.le_of_eq (congrArg (fun v : World => v.heap.size) hV_V6).symm
 try simp only [SZ] at z_V6
 clear kt c_kt f_kt
 clear kn c_kn f_kn
 clear kl c_kl f_kl
 clear kx c_kx f_kx
 clear ka c_ka f_ka
 clear kb c_kb f_kb
 clear hV_V6
 clear hA
 have hA := n_A
 clear n_A
 clear hF
 have hF := n_F
 clear n_F
 have kt := n_kt; clear n_kt
 have c_kt := cells_of kt
 have f_kt := free_of kt
 have l_kt_V6 := lt_of kt
 have kn := n_kn; clear n_kn
 have c_kn := cells_of kn
 have f_kn := free_of kn
 have l_kn_V6 := lt_of kn
 have kl := n_kl; clear n_kl
 have c_kl := cells_of kl
 have f_kl := free_of kl
 have l_kl_V6 := lt_of kl
 have kx := n_kx; clear n_kx
 have c_kx := cells_of kx
 have f_kx := free_of kx
 have l_kx_V6 := lt_of kx
 have ka := n_ka; clear n_ka
 have c_ka := cells_of ka
 have f_ka := free_of ka
 have l_ka_V6 := lt_of ka
 have kb := n_kb; clear n_kb
 have c_kb := cells_of kb
 have f_kb := free_of kb
 have l_kb_V6 := lt_of kb
 refine (tLeaf_calls c e3 _ ⟨hA, kt, o_kt⟩).mono ?_
 rintro e_W7 W7 ⟨rfl, O2, hT_W7, hf_W7⟩
 have q_kn := hf_W7.keep kn o_kn (by unfold oneX; omega)
 have q_kl := hf_W7.keep kl o_kl (by unfold oneX; omega)
 have q_kx := hf_W7.keep kx o_kx (by unfold oneX; omega)
 have q_ka := hf_W7.keep ka o_ka (by unfold oneX; omega)
 have q_kb := hf_W7.keep kb o_kb (by unfold oneX; omega)
 replace o_kn := hf_W7.not_own (lt_of kn) o_kn
 clear kn; have kn := q_kn; clear q_kn
 have c_kn := cells_of kn
 have f_kn := free_of kn
 have l_kn_W7 := lt_of kn
 replace o_kl := hf_W7.not_own (lt_of kl) o_kl
 clear kl; have kl := q_kl; clear q_kl
 have c_kl := cells_of kl
 have f_kl := free_of kl
 have l_kl_W7 := lt_of kl
 replace o_kx := hf_W7.not_own (lt_of kx) o_kx
 clear kx; have kx := q_kx; clear q_kx
 have c_kx := cells_of kx
 have f_kx := free_of kx
 have l_kx_W7 := lt_of kx
 replace o_ka := hf_W7.not_own (lt_of ka) o_ka
 clear ka; have ka := q_ka; clear q_ka
 have c_ka := cells_of ka
 have f_ka := free_of ka
 have l_ka_W7 := lt_of ka
 replace o_kb := hf_W7.not_own (lt_of kb) o_kb
 clear kb; have kb := q_kb; clear q_kb
 have c_kb := cells_of kb
 have f_kb := free_of kb
 have l_kb_W7 := lt_of kb
 clear kt c_kt f_kt o_kt; have kt := hT_W7.blk; have o_kt := hT_W7.no
 have c_kt := cells_of kt
 have f_kt := free_of kt
 have l_kt_W7 := lt_of kt
 replace hF := hF.trans hf_W7
 have z_W7 := hf_W7.size
 clear hA hf_W7; have hA := hT_W7.hA; clear hT_W7
 go_wp2_with fail
 refine calls_gen fun V7 hV_V7 => ?_
 have n_kt := congrArg (fun v : World => v.heap[tb]?) hV_V7
 simp (maxDischargeDepth := 9) only [BK, not_false_eq_true, reduceCtorEq, kt, kn, kl, kx, ka, kb, l_kt_w, l_kt_V, l_kt_W1, l_kt_V1, l_kn_V1, l_kt_W2, l_kn_W2, l_kt_V2, l_kn_V2, l_kl_V2, l_kt_W3, l_kn_W3, l_kl_W3, l_kt_V3, l_kn_V3, l_kl_V3, l_kx_V3, l_kt_W4, l_kn_W4, l_kl_W4, l_kx_W4, l_kt_V4, l_kn_V4, l_kl_V4, l_kx_V4, l_ka_V4, l_kb_V4, l_kt_W5, l_kn_W5, l_kl_W5, l_kx_W5, l_ka_W5, l_kb_W5, l_kt_V5, l_kn_V5, l_kl_V5, l_kx_V5, l_ka_V5, l_kb_V5, l_kn_W6, l_kl_W6, l_kx_W6, l_ka_W6, l_kb_W6, l_kt_W6, l_kt_V6, l_kn_V6, l_kl_V6, l_kx_V6, l_ka_V6, l_kb_V6, l_kn_W7, l_kl_W7, l_kx_W7, l_ka_W7, l_kb_W7, l_kt_W7] at n_kt
 have n_kn := congrArg (fun v : World => v.heap[W1.heap.size]?) hV_V7
 simp (maxDischargeDepth := 9) only [BK, not_false_eq_true, reduceCtorEq, kt, kn, kl, kx, ka, kb, l_kt_w, l_kt_V, l_kt_W1, l_kt_V1, l_kn_V1, l_kt_W2, l_kn_W2, l_kt_V2, l_kn_V2, l_kl_V2, l_kt_W3, l_kn_W3, l_kl_W3, l_kt_V3, l_kn_V3, l_kl_V3, l_kx_V3, l_kt_W4, l_kn_W4, l_kl_W4, l_kx_W4, l_kt_V4, l_kn_V4, l_kl_V4, l_kx_V4, l_ka_V4, l_kb_V4, l_kt_W5, l_kn_W5, l_kl_W5, l_kx_W5, l_ka_W5, l_kb_W5, l_kt_V5, l_kn_V5, l_kl_V5, l_kx_V5, l_ka_V5, l_kb_V5, l_kn_W6, l_kl_W6, l_kx_W6, l_ka_W6, l_kb_W6, l_kt_W6, l_kt_V6, l_kn_V6, l_kl_V6, l_kx_V6, l_ka_V6, l_kb_V6, l_kn_W7, l_kl_W7, l_kx_W7, l_ka_W7, l_kb_W7, l_kt_W7] at n_kn
 have n_kl := congrArg (fun v : World => v.heap[W2.heap.size]?) hV_V7
 simp (maxDischargeDepth := 9) only [BK, not_false_eq_true, reduceCtorEq, kt, kn, kl, kx, ka, kb, l_kt_w, l_kt_V, l_kt_W1, l_kt_V1, l_kn_V1, l_kt_W2, l_kn_W2, l_kt_V2, l_kn_V2, l_kl_V2, l_kt_W3, l_kn_W3, l_kl_W3, l_kt_V3, l_kn_V3, l_kl_V3, l_kx_V3, l_kt_W4, l_kn_W4, l_kl_W4, l_kx_W4, l_kt_V4, l_kn_V4, l_kl_V4, l_kx_V4, l_ka_V4, l_kb_V4, l_kt_W5, l_kn_W5, l_kl_W5, l_kx_W5, l_ka_W5, l_kb_W5, l_kt_V5, l_kn_V5, l_kl_V5, l_kx_V5, l_ka_V5, l_kb_V5, l_kn_W6, l_kl_W6, l_kx_W6, l_ka_W6, l_kb_W6, l_kt_W6, l_kt_V6, l_kn_V6, l_kl_V6, l_kx_V6, l_ka_V6, l_kb_V6, l_kn_W7, l_kl_W7, l_kx_W7, l_ka_W7, l_kb_W7, l_kt_W7] at n_kl
 have n_kx := congrArg (fun v : World => v.heap[W3.heap.size]?) hV_V7
 simp (maxDischargeDepth := 9) only [BK, not_false_eq_true, reduceCtorEq, kt, kn, kl, kx, ka, kb, l_kt_w, l_kt_V, l_kt_W1, l_kt_V1, l_kn_V1, l_kt_W2, l_kn_W2, l_kt_V2, l_kn_V2, l_kl_V2, l_kt_W3, l_kn_W3, l_kl_W3, l_kt_V3, l_kn_V3, l_kl_V3, l_kx_V3, l_kt_W4, l_kn_W4, l_kl_W4, l_kx_W4, l_kt_V4, l_kn_V4, l_kl_V4, l_kx_V4, l_ka_V4, l_kb_V4, l_kt_W5, l_kn_W5, l_kl_W5, l_kx_W5, l_ka_W5, l_kb_W5, l_kt_V5, l_kn_V5, l_kl_V5, l_kx_V5, l_ka_V5, l_kb_V5, l_kn_W6, l_kl_W6, l_kx_W6, l_ka_W6, l_kb_W6, l_kt_W6, l_kt_V6, l_kn_V6, l_kl_V6, l_kx_V6, l_ka_V6, l_kb_V6, l_kn_W7, l_kl_W7, l_kx_W7, l_ka_W7, l_kb_W7, l_kt_W7] at n_kx
 have n_ka := congrArg (fun v : World => v.heap[W4.heap.size]?) hV_V7
 simp (maxDischargeDepth := 9) only [BK, not_false_eq_true, reduceCtorEq, kt, kn, kl, kx, ka, kb, l_kt_w, l_kt_V, l_kt_W1, l_kt_V1, l_kn_V1, l_kt_W2, l_kn_W2, l_kt_V2, l_kn_V2, l_kl_V2, l_kt_W3, l_kn_W3, l_kl_W3, l_kt_V3, l_kn_V3, l_kl_V3, l_kx_V3, l_kt_W4, l_kn_W4, l_kl_W4, l_kx_W4, l_kt_V4, l_kn_V4, l_kl_V4, l_kx_V4, l_ka_V4, l_kb_V4, l_kt_W5, l_kn_W5, l_kl_W5, l_kx_W5, l_ka_W5, l_kb_W5, l_kt_V5, l_kn_V5, l_kl_V5, l_kx_V5, l_ka_V5, l_kb_V5, l_kn_W6, l_kl_W6, l_kx_W6, l_ka_W6, l_kb_W6, l_kt_W6, l_kt_V6, l_kn_V6, l_kl_V6, l_kx_V6, l_ka_V6, l_kb_V6, l_kn_W7, l_kl_W7, l_kx_W7, l_ka_W7, l_kb_W7, l_kt_W7] at n_ka
 have n_kb := congrArg (fun v : World => v.heap[W4.heap.size + 1]?) hV_V7
 simp (maxDischargeDepth := 9) only [BK, not_false_eq_true, reduceCtorEq, kt, kn, kl, kx, ka, kb, l_kt_w, l_kt_V, l_kt_W1, l_kt_V1, l_kn_V1, l_kt_W2, l_kn_W2, l_kt_V2, l_kn_V2, l_kl_V2, l_kt_W3, l_kn_W3, l_kl_W3, l_kt_V3, l_kn_V3, l_kl_V3, l_kx_V3, l_kt_W4, l_kn_W4, l_kl_W4, l_kx_W4, l_kt_V4, l_kn_V4, l_kl_V4, l_kx_V4, l_ka_V4, l_kb_V4, l_kt_W5, l_kn_W5, l_kl_W5, l_kx_W5, l_ka_W5, l_kb_W5, l_kt_V5, l_kn_V5, l_kl_V5, l_kx_V5, l_ka_V5, l_kb_V5, l_kn_W6, l_kl_W6, l_kx_W6, l_ka_W6, l_kb_W6, l_kt_W6, l_kt_V6, l_kn_V6, l_kl_V6, l_kx_V6, l_ka_V6, l_kb_V6, l_kn_W7, l_kl_W7, l_kx_W7, l_ka_W7, l_kb_W7, l_kt_W7] at n_kb
 have n_F : Fr ((oneX tb)) O O2 w V7 := nF hV_V7
 have n_A : AP V7 ap (((t.leaf l1).2.leaf c).2).s O2 := nA hV_V7
 have z_V7 := Nat.le_of_eq (congrArg (fun v : World => v.heap.size) hV_V7).symm
 try simp only [SZ] at z_V7
 clear kt c_kt f_kt
 clear kn c_kn f_kn
 clear kl c_kl f_kl
 clear kx c_kx f_kx
 clear ka c_ka f_ka
 clear kb c_kb f_kb
 clear hV_V7
 clear hA
 have hA := n_A
 clear n_A
 clear hF
 have hF := n_F
 clear n_F
 have kt := n_kt; clear n_kt
 have c_kt := cells_of kt
 have f_kt := free_of kt
 have l_kt_V7 := lt_of kt
 have kn := n_kn; clear n_kn
 have c_kn := cells_of kn
 have f_kn := free_of kn
 have l_kn_V7 := lt_of kn
 have kl := n_kl; clear n_kl
 have c_kl := cells_of kl
 have f_kl := free_of kl
 have l_kl_V7 := lt_of kl
 have kx := n_kx; clear n_kx
 have c_kx := cells_of kx
 have f_kx := free_of kx
 have l_kx_V7 := lt_of kx
 have ka := n_ka; clear n_ka
 have c_ka := cells_of ka
 have f_ka := free_of ka
 have l_ka_V7 := lt_of ka
 have kb := n_kb; clear n_kb
 have c_kb := cells_of kb
 have f_kb := free_of kb
 have l_kb_V7 := lt_of kb
 refine (tPairOr_calls _ _ _ ⟨hA, kt, o_kt⟩).mono ?_
 rintro e_W8 W8 ⟨rfl, O3, hT_W8, hf_W8⟩
 have q_kn := hf_W8.keep kn o_kn (by unfold oneX; omega)
 have q_kl := hf_W8.keep kl o_kl (by unfold oneX; omega)
 have q_kx := hf_W8.keep kx o_kx (by unfold oneX; omega)
 have q_ka := hf_W8.keep ka o_ka (by unfold oneX; omega)
 have q_kb := hf_W8.keep kb o_kb (by unfold oneX; omega)
 replace o_kn := hf_W8.not_own (lt_of kn) o_kn
 clear kn; have kn := q_kn; clear q_kn
 have c_kn := cells_of kn
 have f_kn := free_of kn
 have l_kn_W8 := lt_of kn
 replace o_kl := hf_W8.not_own (lt_of kl) o_kl
 clear kl; have kl := q_kl; clear q_kl
 have c_kl := cells_of kl
 have f_kl := free_of kl
 have l_kl_W8 := lt_of kl
 replace o_kx := hf_W8.not_own (lt_of kx) o_kx
 clear kx; have kx := q_kx; clear q_kx
 have c_kx := cells_of kx
 have f_kx := free_of kx
 have l_kx_W8 := lt_of kx
 replace o_ka := hf_W8.not_own (lt_of ka) o_ka
 clear ka; have ka := q_ka; clear q_ka
 have c_ka := cells_of ka
 have f_ka := free_of ka
 have l_ka_W8 := lt_of ka
 replace o_kb := hf_W8.not_own (lt_of kb) o_kb
 clear kb; have kb := q_kb; clear q_kb
 have c_kb := cells_of kb
 have f_kb := free_of kb
 have l_kb_W8 := lt_of kb
 clear kt c_kt f_kt o_kt; have kt := hT_W8.blk; have o_kt := hT_W8.no
 have c_kt := cells_of kt
 have f_kt := free_of kt
 have l_kt_W8 := lt_of kt
 replace hF := hF.trans hf_W8
 have z_W8 := hf_W8.size
 clear hA hf_W8; have hA := hT_W8.hA; clear hT_W8
 go_wp2_with fail
 go_ret
 rw [two_def]
 exact ⟨rfl, O3, ⟨hA, kt, o_kt⟩, hF⟩
set_option maxRecDepth 100000 in
set_option maxHeartbeats 2000000 in
theorem tIns_high (one : Bool) (k : Nat) (h i : Int) (r : Int × Tb) (w : World) (hT : TB w tb ap t O) (ih : Hid (∀ (t : Tb) (O : Nat → Prop) (h i : Int) (r : Int × Tb) (w : World), Tb.insert k t h i one = some r → TB w tb ap t O → Calls Tryz.prog 84 #[.pointer (some ⟨tb, 0, none⟩), .int .i64 h, .int .i64 i, .bool one] w fun e w' => e = .returned (.int .i64 r.1) ∧ DidT tb ap r.2 O w w')) (h1 : bIs t.s h = true) (d1 : ((t.s.get h).tag == 1) = false) (d2 : decide (bLen t.s (t.s.get h).k0 < i) = true) (hr : (((t.keep (t.s.get h).k0).insert k (t.s.get h).k1 (wrap64 (i - bLen t.s (t.s.get h).k0)) one).bind fun r => r.2.fork (t.s.get h).k0 r.1) = some r) :
  Calls Tryz.prog 84 #[.pointer (some ⟨tb, 0, none⟩), .int .i64 h, .int .i64 i, .bool one] w fun e w' => e = .returned (.int .i64 r.1) ∧ DidT tb ap r.2 O w w' := by
 obtain ⟨u, h_b, h_r⟩ := Option.bind_eq_some_iff.1 hr
 have Hu := Lib.hid h_b; clear h_b hr; have hr := h_r; clear h_r
 have Hr := Lib.hid hr; clear hr
 go_enter Tryz.func84, Tryz.ntmps84
 have hA := hT.hA
 have kt := hT.blk
 have o_kt := hT.no
 have c_kt := cells_of kt
 have f_kt := free_of kt
 have l_kt_w := lt_of kt
 go_wp2_with fail
 refine calls_gen fun V hV_V => ?_
 have n_kt := congrArg (fun v : World => v.heap[tb]?) hV_V
 simp (maxDischargeDepth := 9) only [BK, not_false_eq_true, reduceCtorEq, kt, l_kt_w] at n_kt
 have n_F : Fr ((oneX tb)) O O w V := nF hV_V
 have n_A : AP V ap t.s O := nA hV_V
 have z_V := Nat.le_of_eq (congrArg (fun v : World => v.heap.size) hV_V).symm
 try simp only [SZ] at z_V
 clear kt c_kt f_kt
 clear hV_V
 clear hA
 have hA := n_A
 clear n_A
 skip
 have hF := n_F
 clear n_F
 have kt := n_kt; clear n_kt
 have c_kt := cells_of kt
 have f_kt := free_of kt
 have l_kt_V := lt_of kt
 refine (bRow_calls _ _ hA).mono ?_
 rintro e_W1 W1 ⟨rfl, hb_W1⟩
 replace hA := hA.below hb_W1
 replace hF := hF.below hb_W1
 replace kt := keep_blk hb_W1 kt
 have c_kt := cells_of kt
 have f_kt := free_of kt
 have l_kt_W1 := lt_of kt
 have z_W1 := hb_W1.size
 clear hb_W1
 unfold Nd.val
 go_wp2_with fail
 refine wp_gen fun V1 hV_V1 => ?_
 have n_kt := congrArg (fun v : World => v.heap[tb]?) hV_V1
 simp (maxDischargeDepth := 9) only [BK, not_false_eq_true, reduceCtorEq, kt, l_kt_w, l_kt_V, l_kt_W1] at n_kt
 have n_kn := congrArg (fun v : World => v.heap[W1.heap.size]?) hV_V1
 simp (maxDischargeDepth := 9) only [BK, not_false_eq_true, reduceCtorEq, kt, l_kt_w, l_kt_V, l_kt_W1] at n_kn
 have o_kn : ¬ O (W1.heap.size) := by first | exact hA.new (Nat.le_refl _) | exact hA.new (by omega)
 have n_F : Fr ((oneX tb)) O O w V1 := nF hV_V1
 have n_A : AP V1 ap t.s O := nA hV_V1
 have z_V1 := Nat.le_of_eq (congrArg (fun v : World => v.heap.size) hV_V1).symm
 try simp only [SZ] at z_V1
 clear kt c_kt f_kt
 clear hV_V1
 clear hA
 have hA := n_A
 clear n_A
 clear hF
 have hF := n_F
 clear n_F
 have kt := n_kt; clear n_kt
 have c_kt := cells_of kt
 have f_kt := free_of kt
 have l_kt_V1 := lt_of kt
 have kn := n_kn; clear n_kn
 have c_kn := cells_of kn
 have f_kn := free_of kn
 have l_kn_V1 := lt_of kn
 refine wp_region_noPanic ?_
 refine wp_region_held_drew (S := fun v => (∀ o, v.cell? ⟨tb, o, none⟩ = V1.cell? ⟨tb, o, none⟩) ∧ (∀ o, v.cell? ⟨W1.heap.size, o, none⟩ = V1.cell? ⟨W1.heap.size, o, none⟩) ∧ (V1.heap.size ≤ v.heap.size) ∧ AP v ap t.s O) (by kernel_rfl) ⟨(fun _ => rfl), (fun _ => rfl), (Nat.le_refl _), hA.drew⟩ (fun hHeld => ?_)
 generalize hV_V1d : V1.drew = V1d at hHeld ⊢
 have n_kt : V1d.heap[tb]? = V1.heap[tb]? := by rw [← hV_V1d]; rfl
 have d_kt := n_kt.trans kt
 clear n_kt c_kt f_kt
 have n_kn : V1d.heap[W1.heap.size]? = V1.heap[W1.heap.size]? := by rw [← hV_V1d]; rfl
 have d_kn := n_kn.trans kn
 clear n_kn c_kn f_kn
 have n_A : AP V1d ap t.s O := by rw [← hV_V1d]; exact hA.drew
 clear hA; have hA := n_A; clear n_A
 have n_F : Fr ((oneX tb)) O O w V1d := by rw [← hV_V1d]; exact hF.drew
 clear hF; have hF := n_F; clear n_F
 have z_V1d : V1.heap.size ≤ V1d.heap.size := by rw [← hV_V1d]; exact Nat.le_refl _
 have v_kt := cells_of kt
 have v_kn := cells_of kn
 clear kt; have kt := d_kt; clear d_kt
 clear kn; have kn := d_kn; clear d_kn
 have c_kt := cells_of kt
 have f_kt := free_of kt
 have l_kt_V1d := lt_of kt
 have c_kn := cells_of kn
 have f_kn := free_of kn
 have l_kn_V1d := lt_of kn
 clear hV_V1d
 refine ty (i := 0) (v := ?_) rfl hHeld ?_ ?_
 rotate_left
 focus (intro w hSw; go_simp; (try simp only [IntWalk.i64_left]); try (with_reducible rfl))
 try simp only [PT]
 refine ty (i := 1) (v := ?_) rfl hHeld ?_ ?_
 rotate_left
 focus (intro w hSw; go_simp; (try simp only [IntWalk.i64_left]); try (with_reducible rfl))
 try simp only [PT]
 refine ty (i := 2) (v := ?_) rfl hHeld ?_ ?_
 rotate_left
 focus (intro w hSw; go_simp; (try simp only [IntWalk.i64_left]); try (with_reducible rfl))
 try simp only [PT]
 refine ty (i := 3) (v := ?_) rfl hHeld ?_ ?_
 rotate_left
 focus (intro w hSw; go_simp; (try simp only [IntWalk.i64_left]); try (with_reducible rfl))
 try simp only [PT]
 refine ty (i := 4) (v := ?_) rfl hHeld ?_ ?_
 rotate_left
 focus (intro w hSw; go_simp; (try simp only [IntWalk.i64_left]); try (with_reducible rfl))
 try simp only [PT]
 refine ty (i := 5) (v := ?_) rfl hHeld ?_ ?_
 rotate_left
 focus (intro w hSw; go_simp; (try simp only [IntWalk.i64_left]); try (with_reducible rfl))
 try simp only [PT]
 refine ty (i := 6) (v := ?_) rfl hHeld ?_ ?_
 rotate_left
 focus (intro w hSw; go_simp; (try simp only [IntWalk.i64_left]); try (with_reducible rfl))
 try simp only [PT]
 refine wpAnyH_ready (rs := [7]) (by kernel_rfl) (by simp) ?_
 refine ready_at rfl (fun K hK => ?_) AllReadyH.nil
 go_simp
 try simp only [IntWalk.i64_left]
 refine (bLen_calls _ _ hA).mono ?_
 rintro e_W2 W2 ⟨rfl, hb_W2⟩
 replace hA := hA.below hb_W2
 replace hF := hF.below hb_W2
 replace kt := keep_blk hb_W2 kt
 have c_kt := cells_of kt
 have f_kt := free_of kt
 have l_kt_W2 := lt_of kt
 replace kn := keep_blk hb_W2 kn
 have c_kn := cells_of kn
 have f_kn := free_of kn
 have l_kn_W2 := lt_of kn
 have z_W2 := hb_W2.size
 clear hb_W2
 refine hK.out _ _ ⟨(fun o => (c_kt o).trans (v_kt o).symm), (fun o => (c_kn o).trans (v_kn o).symm), (by omega), hA⟩ (fun hHeld => ?_)
 clear hK K
 try simp only [PT]
 refine wpAnyH_ready (rs := [8]) (by kernel_rfl) (by simp) ?_
 refine ready_at rfl (fun K hK => ?_) AllReadyH.nil
 go_simp
 refine hK.out _ _ hHeld (fun hHeld => ?_)
 clear hK K
 try simp only [PT]
 refine wpAnyH_done (by kernel_rfl) ?_ _
 refine NoPanic.normal ?_
 go_wp2_with fail
 refine wp_gen fun V2 hV_V2 => ?_
 have n_kt := congrArg (fun v : World => v.heap[tb]?) hV_V2
 simp (maxDischargeDepth := 9) only [BK, not_false_eq_true, reduceCtorEq, kt, kn, l_kt_w, l_kt_V, l_kt_W1, l_kt_V1, l_kn_V1, l_kt_V1d, l_kn_V1d, l_kt_W2, l_kn_W2] at n_kt
 have n_kn := congrArg (fun v : World => v.heap[W1.heap.size]?) hV_V2
 simp (maxDischargeDepth := 9) only [BK, not_false_eq_true, reduceCtorEq, kt, kn, l_kt_w, l_kt_V, l_kt_W1, l_kt_V1, l_kn_V1, l_kt_V1d, l_kn_V1d, l_kt_W2, l_kn_W2] at n_kn
 have n_F : Fr ((oneX tb)) O O w V2 := nF hV_V2
 have n_A : AP V2 ap t.s O := nA hV_V2
 have z_V2 := Nat.le_of_eq (congrArg (fun v : World => v.heap.size) hV_V2).symm
 try simp only [SZ] at z_V2
 clear kt c_kt f_kt
 clear kn c_kn f_kn
 clear hV_V2
 clear hA
 have hA := n_A
 clear n_A
 clear hF
 have hF := n_F
 clear n_F
 have kt := n_kt; clear n_kt
 have c_kt := cells_of kt
 have f_kt := free_of kt
 have l_kt_V2 := lt_of kt
 have kn := n_kn; clear n_kn
 have c_kn := cells_of kn
 have f_kn := free_of kn
 have l_kn_V2 := lt_of kn
 refine wp_region_noPanic ?_
 refine wp_region_held_drew (S := fun v => (v.cell? ⟨tb, 0, none⟩ = V2.cell? ⟨tb, 0, none⟩) ∧ (∀ o, v.cell? ⟨W1.heap.size, o, none⟩ = V2.cell? ⟨W1.heap.size, o, none⟩) ∧ (V2.heap.size ≤ v.heap.size) ∧ True) (by kernel_rfl) ⟨rfl, (fun _ => rfl), (Nat.le_refl _), trivial⟩ (fun hHeld => ?_)
 generalize hV_V2d : V2.drew = V2d at hHeld ⊢
 have n_kt : V2d.heap[tb]? = V2.heap[tb]? := by rw [← hV_V2d]; rfl
 have d_kt := n_kt.trans kt
 clear n_kt c_kt f_kt
 have n_kn : V2d.heap[W1.heap.size]? = V2.heap[W1.heap.size]? := by rw [← hV_V2d]; rfl
 have d_kn := n_kn.trans kn
 clear n_kn c_kn f_kn
 have n_A : AP V2d ap t.s O := by rw [← hV_V2d]; exact hA.drew
 clear hA; have hA := n_A; clear n_A
 have n_F : Fr ((oneX tb)) O O w V2d := by rw [← hV_V2d]; exact hF.drew
 clear hF; have hF := n_F; clear n_F
 have z_V2d : V2.heap.size ≤ V2d.heap.size := by rw [← hV_V2d]; exact Nat.le_refl _
 have v_kt := cells_of kt
 have v_kn := cells_of kn
 clear kt; have kt := d_kt; clear d_kt
 clear kn; have kn := d_kn; clear d_kn
 have c_kt := cells_of kt
 have f_kt := free_of kt
 have l_kt_V2d := lt_of kt
 have c_kn := cells_of kn
 have f_kn := free_of kn
 have l_kn_V2d := lt_of kn
 clear hV_V2d
 refine ty (i := 0) (v := ?_) rfl hHeld ?_ ?_
 rotate_left
 focus (intro w hSw; go_simp; (try simp only [IntWalk.i64_left]); try (with_reducible rfl))
 try simp only [PT]
 refine ty (i := 1) (v := ?_) rfl hHeld ?_ ?_
 rotate_left
 focus (intro w hSw; go_simp; (try simp only [IntWalk.i64_left]); try (with_reducible rfl))
 try simp only [PT]
 refine ty (i := 2) (v := ?_) rfl hHeld ?_ ?_
 rotate_left
 focus (intro w hSw; go_simp; (try simp only [IntWalk.i64_left]); try (with_reducible rfl))
 try simp only [PT]
 refine ty (i := 3) (v := ?_) rfl hHeld ?_ ?_
 rotate_left
 focus (intro w hSw; go_simp; (try simp only [IntWalk.i64_left]); try (with_reducible rfl))
 try simp only [PT]
 refine ty (i := 4) (v := ?_) rfl hHeld ?_ ?_
 rotate_left
 focus (intro w hSw; go_simp; (try simp only [IntWalk.i64_left]); try (with_reducible rfl))
 try simp only [PT]
 refine ty (i := 6) (v := ?_) rfl hHeld ?_ ?_
 rotate_left
 focus (intro w hSw; go_simp; (try simp only [IntWalk.i64_left]); try (with_reducible rfl))
 try simp only [PT]
 refine ty (i := 7) (v := ?_) rfl hHeld ?_ ?_
 rotate_left
 focus (intro w hSw; go_simp; (try simp only [IntWalk.i64_left]); try (with_reducible rfl))
 try simp only [PT]
 refine ty (i := 8) (v := ?_) rfl hHeld ?_ ?_
 rotate_left
 focus (intro w hSw; go_simp; (try simp only [IntWalk.i64_left]); try (with_reducible rfl))
 try simp only [PT]
 refine ty (i := 9) (v := ?_) rfl hHeld ?_ ?_
 rotate_left
 focus (intro w hSw; go_simp; (try simp only [IntWalk.i64_left]); try (with_reducible rfl))
 try simp only [PT]
 refine ty (i := 10) (v := ?_) rfl hHeld ?_ ?_
 rotate_left
 focus (intro w hSw; go_simp; (try simp only [IntWalk.i64_left]); try (with_reducible rfl))
 try simp only [PT]
 refine ty (i := 11) (v := ?_) rfl hHeld ?_ ?_
 rotate_left
 focus (intro w hSw; go_simp; (try simp only [IntWalk.i64_left]); try (with_reducible rfl))
 try simp only [PT]
 refine ty (i := 12) (v := ?_) rfl hHeld ?_ ?_
 rotate_left
 focus (intro w hSw; go_simp; (try simp only [IntWalk.i64_left]); try (with_reducible rfl))
 try simp only [PT]
 refine ty (i := 13) (v := ?_) rfl hHeld ?_ ?_
 rotate_left
 focus (intro w hSw; go_simp; (try simp only [IntWalk.i64_left]); try (with_reducible rfl))
 try simp only [PT]
 refine wpAnyH_ready (rs := [5]) (by kernel_rfl) (by simp) ?_
 refine ready_at rfl (fun K hK => ?_) AllReadyH.nil
 go_simp
 try simp only [IntWalk.i64_left]
 refine (tKeep_calls (t := t) (t.s.get h).k0 _ ⟨hA, kt, o_kt⟩).mono ?_
 rintro e_W3 W3 ⟨rfl, O1, hT_W3, hf_W3⟩
 have q_kn := hf_W3.keep kn o_kn (by unfold oneX; omega)
 replace o_kn := hf_W3.not_own (lt_of kn) o_kn
 clear kn; have kn := q_kn; clear q_kn
 have c_kn := cells_of kn
 have f_kn := free_of kn
 have l_kn_W3 := lt_of kn
 clear kt c_kt f_kt o_kt; have kt := hT_W3.blk; have o_kt := hT_W3.no
 have c_kt := cells_of kt
 have f_kt := free_of kt
 have l_kt_W3 := lt_of kt
 replace hF := hF.trans hf_W3
 have z_W3 := hf_W3.size
 clear hA hf_W3; have hA := hT_W3.hA; clear hT_W3
 refine hK.out _ _ ⟨((c_kt 0).trans (v_kt 0).symm), (fun o => (c_kn o).trans (v_kn o).symm), (by omega), trivial⟩ (fun hHeld => ?_)
 clear hK K
 try simp only [PT]
 refine wpAnyH_ready (rs := [14]) (by kernel_rfl) (by simp) ?_
 refine ready_at rfl (fun K hK => ?_) AllReadyH.nil
 go_simp
 try simp only [IntWalk.i64_left]
 refine (ih.out (t.keep (t.s.get h).k0) _ _ _ _ _ Hu.out ⟨hA, kt, o_kt⟩).mono ?_
 rintro e_W4 W4 ⟨rfl, O2, hT_W4, hf_W4⟩
 have q_kn := hf_W4.keep kn o_kn (by unfold oneX; omega)
 replace o_kn := hf_W4.not_own (lt_of kn) o_kn
 clear kn; have kn := q_kn; clear q_kn
 have c_kn := cells_of kn
 have f_kn := free_of kn
 have l_kn_W4 := lt_of kn
 clear kt c_kt f_kt o_kt; have kt := hT_W4.blk; have o_kt := hT_W4.no
 have c_kt := cells_of kt
 have f_kt := free_of kt
 have l_kt_W4 := lt_of kt
 replace hF := hF.trans hf_W4
 have z_W4 := hf_W4.size
 clear hA hf_W4; have hA := hT_W4.hA; clear hT_W4
 refine hK.out _ _ ⟨((c_kt 0).trans (v_kt 0).symm), (fun o => (c_kn o).trans (v_kn o).symm), (by omega), trivial⟩ (fun hHeld => ?_)
 clear hK K
 try simp only [PT]
 refine wpAnyH_ready (rs := [15]) (by kernel_rfl) (by simp) ?_
 refine ready_at rfl (fun K hK => ?_) AllReadyH.nil
 go_simp
 try simp only [IntWalk.i64_left]
 refine (tFork_calls (t := u.2) _ _ _ Hr.out _ ⟨hA, kt, o_kt⟩).mono ?_
 rintro e_W5 W5 ⟨rfl, O3, hT_W5, hf_W5⟩
 have q_kn := hf_W5.keep kn o_kn (by unfold oneX; omega)
 replace o_kn := hf_W5.not_own (lt_of kn) o_kn
 clear kn; have kn := q_kn; clear q_kn
 have c_kn := cells_of kn
 have f_kn := free_of kn
 have l_kn_W5 := lt_of kn
 clear kt c_kt f_kt o_kt; have kt := hT_W5.blk; have o_kt := hT_W5.no
 have c_kt := cells_of kt
 have f_kt := free_of kt
 have l_kt_W5 := lt_of kt
 replace hF := hF.trans hf_W5
 have z_W5 := hf_W5.size
 clear hA hf_W5; have hA := hT_W5.hA; clear hT_W5
 refine hK.out _ _ ⟨((c_kt 0).trans (v_kt 0).symm), (fun o => (c_kn o).trans (v_kn o).symm), (by omega), trivial⟩ (fun hHeld => ?_)
 clear hK K
 try simp only [PT]
 refine wpAnyH_ready (rs := [16]) (by kernel_rfl) (by simp) ?_
 refine ready_at rfl (fun K hK => ?_) AllReadyH.nil
 go_simp
 refine hK.out _ _ hHeld (fun hHeld => ?_)
 clear hK K
 try simp only [PT]
 refine wpAnyH_done (by kernel_rfl) ?_ _
 refine NoPanic.normal ?_
 go_wp2_with fail
 go_ret
 exact ⟨rfl, O3, ⟨hA, kt, o_kt⟩, hF⟩
set_option maxRecDepth 100000 in
set_option maxHeartbeats 2000000 in
theorem tIns_low (one : Bool) (k : Nat) (h i : Int) (r : Int × Tb) (w : World) (hT : TB w tb ap t O) (ih : Hid (∀ (t : Tb) (O : Nat → Prop) (h i : Int) (r : Int × Tb) (w : World), Tb.insert k t h i one = some r → TB w tb ap t O → Calls Tryz.prog 84 #[.pointer (some ⟨tb, 0, none⟩), .int .i64 h, .int .i64 i, .bool one] w fun e w' => e = .returned (.int .i64 r.1) ∧ DidT tb ap r.2 O w w')) (h1 : bIs t.s h = true) (d1 : ((t.s.get h).tag == 1) = false) (d2 : decide (bLen t.s (t.s.get h).k0 < i) = false) (hr : ((t.insert k (t.s.get h).k0 i one).bind fun r => (r.2.keep (t.s.get h).k1).fork r.1 (t.s.get h).k1) = some r) :
  Calls Tryz.prog 84 #[.pointer (some ⟨tb, 0, none⟩), .int .i64 h, .int .i64 i, .bool one] w fun e w' => e = .returned (.int .i64 r.1) ∧ DidT tb ap r.2 O w w' := by
 obtain ⟨u, h_b, h_r⟩ := Option.bind_eq_some_iff.1 hr
 have Hu := Lib.hid h_b; clear h_b hr; have hr := h_r; clear h_r
 have Hr := Lib.hid hr; clear hr
 go_enter Tryz.func84, Tryz.ntmps84
 have hA := hT.hA
 have kt := hT.blk
 have o_kt := hT.no
 have c_kt := cells_of kt
 have f_kt := free_of kt
 have l_kt_w := lt_of kt
 go_wp2_with fail
 refine calls_gen fun V hV_V => ?_
 have n_kt := congrArg (fun v : World => v.heap[tb]?) hV_V
 simp (maxDischargeDepth := 9) only [BK, not_false_eq_true, reduceCtorEq, kt, l_kt_w] at n_kt
 have n_F : Fr ((oneX tb)) O O w V := nF hV_V
 have n_A : AP V ap t.s O := nA hV_V
 have z_V := Nat.le_of_eq (congrArg (fun v : World => v.heap.size) hV_V).symm
 try simp only [SZ] at z_V
 clear kt c_kt f_kt
 clear hV_V
 clear hA
 have hA := n_A
 clear n_A
 skip
 have hF := n_F
 clear n_F
 have kt := n_kt; clear n_kt
 have c_kt := cells_of kt
 have f_kt := free_of kt
 have l_kt_V := lt_of kt
 refine (bRow_calls _ _ hA).mono ?_
 rintro e_W1 W1 ⟨rfl, hb_W1⟩
 replace hA := hA.below hb_W1
 replace hF := hF.below hb_W1
 replace kt := keep_blk hb_W1 kt
 have c_kt := cells_of kt
 have f_kt := free_of kt
 have l_kt_W1 := lt_of kt
 have z_W1 := hb_W1.size
 clear hb_W1
 unfold Nd.val
 go_wp2_with fail
 refine wp_gen fun V1 hV_V1 => ?_
 have n_kt := congrArg (fun v : World => v.heap[tb]?) hV_V1
 simp (maxDischargeDepth := 9) only [BK, not_false_eq_true, reduceCtorEq, kt, l_kt_w, l_kt_V, l_kt_W1] at n_kt
 have n_kn := congrArg (fun v : World => v.heap[W1.heap.size]?) hV_V1
 simp (maxDischargeDepth := 9) only [BK, not_false_eq_true, reduceCtorEq, kt, l_kt_w, l_kt_V, l_kt_W1] at n_kn
 have o_kn : ¬ O (W1.heap.size) := by first | exact hA.new (Nat.le_refl _) | exact hA.new (by omega)
 have n_F : Fr ((oneX tb)) O O w V1 := nF hV_V1
 have n_A : AP V1 ap t.s O := nA hV_V1
 have z_V1 := Nat.le_of_eq (congrArg (fun v : World => v.heap.size) hV_V1).symm
 try simp only [SZ] at z_V1
 clear kt c_kt f_kt
 clear hV_V1
 clear hA
 have hA := n_A
 clear n_A
 clear hF
 have hF := n_F
 clear n_F
 have kt := n_kt; clear n_kt
 have c_kt := cells_of kt
 have f_kt := free_of kt
 have l_kt_V1 := lt_of kt
 have kn := n_kn; clear n_kn
 have c_kn := cells_of kn
 have f_kn := free_of kn
 have l_kn_V1 := lt_of kn
 refine wp_region_noPanic ?_
 refine wp_region_held_drew (S := fun v => (∀ o, v.cell? ⟨tb, o, none⟩ = V1.cell? ⟨tb, o, none⟩) ∧ (∀ o, v.cell? ⟨W1.heap.size, o, none⟩ = V1.cell? ⟨W1.heap.size, o, none⟩) ∧ (V1.heap.size ≤ v.heap.size) ∧ AP v ap t.s O) (by kernel_rfl) ⟨(fun _ => rfl), (fun _ => rfl), (Nat.le_refl _), hA.drew⟩ (fun hHeld => ?_)
 generalize hV_V1d : V1.drew = V1d at hHeld ⊢
 have n_kt : V1d.heap[tb]? = V1.heap[tb]? := by rw [← hV_V1d]; rfl
 have d_kt := n_kt.trans kt
 clear n_kt c_kt f_kt
 have n_kn : V1d.heap[W1.heap.size]? = V1.heap[W1.heap.size]? := by rw [← hV_V1d]; rfl
 have d_kn := n_kn.trans kn
 clear n_kn c_kn f_kn
 have n_A : AP V1d ap t.s O := by rw [← hV_V1d]; exact hA.drew
 clear hA; have hA := n_A; clear n_A
 have n_F : Fr ((oneX tb)) O O w V1d := by rw [← hV_V1d]; exact hF.drew
 clear hF; have hF := n_F; clear n_F
 have z_V1d : V1.heap.size ≤ V1d.heap.size := by rw [← hV_V1d]; exact Nat.le_refl _
 have v_kt := cells_of kt
 have v_kn := cells_of kn
 clear kt; have kt := d_kt; clear d_kt
 clear kn; have kn := d_kn; clear d_kn
 have c_kt := cells_of kt
 have f_kt := free_of kt
 have l_kt_V1d := lt_of kt
 have c_kn := cells_of kn
 have f_kn := free_of kn
 have l_kn_V1d := lt_of kn
 clear hV_V1d
 refine ty (i := 0) (v := ?_) rfl hHeld ?_ ?_
 rotate_left
 focus (intro w hSw; go_simp; (try simp only [IntWalk.i64_left]); try (with_reducible rfl))
 try simp only [PT]
 refine ty (i := 1) (v := ?_) rfl hHeld ?_ ?_
 rotate_left
 focus (intro w hSw; go_simp; (try simp only [IntWalk.i64_left]); try (with_reducible rfl))
 try simp only [PT]
 refine ty (i := 2) (v := ?_) rfl hHeld ?_ ?_
 rotate_left
 focus (intro w hSw; go_simp; (try simp only [IntWalk.i64_left]); try (with_reducible rfl))
 try simp only [PT]
 refine ty (i := 3) (v := ?_) rfl hHeld ?_ ?_
 rotate_left
 focus (intro w hSw; go_simp; (try simp only [IntWalk.i64_left]); try (with_reducible rfl))
 try simp only [PT]
 refine ty (i := 4) (v := ?_) rfl hHeld ?_ ?_
 rotate_left
 focus (intro w hSw; go_simp; (try simp only [IntWalk.i64_left]); try (with_reducible rfl))
 try simp only [PT]
 refine ty (i := 5) (v := ?_) rfl hHeld ?_ ?_
 rotate_left
 focus (intro w hSw; go_simp; (try simp only [IntWalk.i64_left]); try (with_reducible rfl))
 try simp only [PT]
 refine ty (i := 6) (v := ?_) rfl hHeld ?_ ?_
 rotate_left
 focus (intro w hSw; go_simp; (try simp only [IntWalk.i64_left]); try (with_reducible rfl))
 try simp only [PT]
 refine wpAnyH_ready (rs := [7]) (by kernel_rfl) (by simp) ?_
 refine ready_at rfl (fun K hK => ?_) AllReadyH.nil
 go_simp
 try simp only [IntWalk.i64_left]
 refine (bLen_calls _ _ hA).mono ?_
 rintro e_W2 W2 ⟨rfl, hb_W2⟩
 replace hA := hA.below hb_W2
 replace hF := hF.below hb_W2
 replace kt := keep_blk hb_W2 kt
 have c_kt := cells_of kt
 have f_kt := free_of kt
 have l_kt_W2 := lt_of kt
 replace kn := keep_blk hb_W2 kn
 have c_kn := cells_of kn
 have f_kn := free_of kn
 have l_kn_W2 := lt_of kn
 have z_W2 := hb_W2.size
 clear hb_W2
 refine hK.out _ _ ⟨(fun o => (c_kt o).trans (v_kt o).symm), (fun o => (c_kn o).trans (v_kn o).symm), (by omega), hA⟩ (fun hHeld => ?_)
 clear hK K
 try simp only [PT]
 refine wpAnyH_ready (rs := [8]) (by kernel_rfl) (by simp) ?_
 refine ready_at rfl (fun K hK => ?_) AllReadyH.nil
 go_simp
 refine hK.out _ _ hHeld (fun hHeld => ?_)
 clear hK K
 try simp only [PT]
 refine wpAnyH_done (by kernel_rfl) ?_ _
 refine NoPanic.normal ?_
 go_wp2_with fail
 refine wp_gen fun V2 hV_V2 => ?_
 have n_kt := congrArg (fun v : World => v.heap[tb]?) hV_V2
 simp (maxDischargeDepth := 9) only [BK, not_false_eq_true, reduceCtorEq, kt, kn, l_kt_w, l_kt_V, l_kt_W1, l_kt_V1, l_kn_V1, l_kt_V1d, l_kn_V1d, l_kt_W2, l_kn_W2] at n_kt
 have n_kn := congrArg (fun v : World => v.heap[W1.heap.size]?) hV_V2
 simp (maxDischargeDepth := 9) only [BK, not_false_eq_true, reduceCtorEq, kt, kn, l_kt_w, l_kt_V, l_kt_W1, l_kt_V1, l_kn_V1, l_kt_V1d, l_kn_V1d, l_kt_W2, l_kn_W2] at n_kn
 have n_F : Fr ((oneX tb)) O O w V2 := nF hV_V2
 have n_A : AP V2 ap t.s O := nA hV_V2
 have z_V2 := Nat.le_of_eq (congrArg (fun v : World => v.heap.size) hV_V2).symm
 try simp only [SZ] at z_V2
 clear kt c_kt f_kt
 clear kn c_kn f_kn
 clear hV_V2
 clear hA
 have hA := n_A
 clear n_A
 clear hF
 have hF := n_F
 clear n_F
 have kt := n_kt; clear n_kt
 have c_kt := cells_of kt
 have f_kt := free_of kt
 have l_kt_V2 := lt_of kt
 have kn := n_kn; clear n_kn
 have c_kn := cells_of kn
 have f_kn := free_of kn
 have l_kn_V2 := lt_of kn
 refine wp_region_noPanic ?_
 refine wp_region_held_drew (S := fun v => (v.cell? ⟨tb, 0, none⟩ = V2.cell? ⟨tb, 0, none⟩) ∧ (∀ o, v.cell? ⟨W1.heap.size, o, none⟩ = V2.cell? ⟨W1.heap.size, o, none⟩) ∧ (V2.heap.size ≤ v.heap.size) ∧ True) (by kernel_rfl) ⟨rfl, (fun _ => rfl), (Nat.le_refl _), trivial⟩ (fun hHeld => ?_)
 generalize hV_V2d : V2.drew = V2d at hHeld ⊢
 have n_kt : V2d.heap[tb]? = V2.heap[tb]? := by rw [← hV_V2d]; rfl
 have d_kt := n_kt.trans kt
 clear n_kt c_kt f_kt
 have n_kn : V2d.heap[W1.heap.size]? = V2.heap[W1.heap.size]? := by rw [← hV_V2d]; rfl
 have d_kn := n_kn.trans kn
 clear n_kn c_kn f_kn
 have n_A : AP V2d ap t.s O := by rw [← hV_V2d]; exact hA.drew
 clear hA; have hA := n_A; clear n_A
 have n_F : Fr ((oneX tb)) O O w V2d := by rw [← hV_V2d]; exact hF.drew
 clear hF; have hF := n_F; clear n_F
 have z_V2d : V2.heap.size ≤ V2d.heap.size := by rw [← hV_V2d]; exact Nat.le_refl _
 have v_kt := cells_of kt
 have v_kn := cells_of kn
 clear kt; have kt := d_kt; clear d_kt
 clear kn; have kn := d_kn; clear d_kn
 have c_kt := cells_of kt
 have f_kt := free_of kt
 have l_kt_V2d := lt_of kt
 have c_kn := cells_of kn
 have f_kn := free_of kn
 have l_kn_V2d := lt_of kn
 clear hV_V2d
 refine ty (i := 0) (v := ?_) rfl hHeld ?_ ?_
 rotate_left
 focus (intro w hSw; go_simp; (try simp only [IntWalk.i64_left]); try (with_reducible rfl))
 try simp only [PT]
 refine ty (i := 1) (v := ?_) rfl hHeld ?_ ?_
 rotate_left
 focus (intro w hSw; go_simp; (try simp only [IntWalk.i64_left]); try (with_reducible rfl))
 try simp only [PT]
 refine ty (i := 2) (v := ?_) rfl hHeld ?_ ?_
 rotate_left
 focus (intro w hSw; go_simp; (try simp only [IntWalk.i64_left]); try (with_reducible rfl))
 try simp only [PT]
 refine ty (i := 3) (v := ?_) rfl hHeld ?_ ?_
 rotate_left
 focus (intro w hSw; go_simp; (try simp only [IntWalk.i64_left]); try (with_reducible rfl))
 try simp only [PT]
 refine ty (i := 4) (v := ?_) rfl hHeld ?_ ?_
 rotate_left
 focus (intro w hSw; go_simp; (try simp only [IntWalk.i64_left]); try (with_reducible rfl))
 try simp only [PT]
 refine ty (i := 5) (v := ?_) rfl hHeld ?_ ?_
 rotate_left
 focus (intro w hSw; go_simp; (try simp only [IntWalk.i64_left]); try (with_reducible rfl))
 try simp only [PT]
 refine ty (i := 6) (v := ?_) rfl hHeld ?_ ?_
 rotate_left
 focus (intro w hSw; go_simp; (try simp only [IntWalk.i64_left]); try (with_reducible rfl))
 try simp only [PT]
 refine ty (i := 8) (v := ?_) rfl hHeld ?_ ?_
 rotate_left
 focus (intro w hSw; go_simp; (try simp only [IntWalk.i64_left]); try (with_reducible rfl))
 try simp only [PT]
 refine ty (i := 9) (v := ?_) rfl hHeld ?_ ?_
 rotate_left
 focus (intro w hSw; go_simp; (try simp only [IntWalk.i64_left]); try (with_reducible rfl))
 try simp only [PT]
 refine ty (i := 10) (v := ?_) rfl hHeld ?_ ?_
 rotate_left
 focus (intro w hSw; go_simp; (try simp only [IntWalk.i64_left]); try (with_reducible rfl))
 try simp only [PT]
 refine ty (i := 11) (v := ?_) rfl hHeld ?_ ?_
 rotate_left
 focus (intro w hSw; go_simp; (try simp only [IntWalk.i64_left]); try (with_reducible rfl))
 try simp only [PT]
 refine wpAnyH_ready (rs := [7]) (by kernel_rfl) (by simp) ?_
 refine ready_at rfl (fun K hK => ?_) AllReadyH.nil
 go_simp
 try simp only [IntWalk.i64_left]
 refine (ih.out t _ _ _ _ _ Hu.out ⟨hA, kt, o_kt⟩).mono ?_
 rintro e_W3 W3 ⟨rfl, O1, hT_W3, hf_W3⟩
 have q_kn := hf_W3.keep kn o_kn (by unfold oneX; omega)
 replace o_kn := hf_W3.not_own (lt_of kn) o_kn
 clear kn; have kn := q_kn; clear q_kn
 have c_kn := cells_of kn
 have f_kn := free_of kn
 have l_kn_W3 := lt_of kn
 clear kt c_kt f_kt o_kt; have kt := hT_W3.blk; have o_kt := hT_W3.no
 have c_kt := cells_of kt
 have f_kt := free_of kt
 have l_kt_W3 := lt_of kt
 replace hF := hF.trans hf_W3
 have z_W3 := hf_W3.size
 clear hA hf_W3; have hA := hT_W3.hA; clear hT_W3
 refine hK.out _ _ ⟨((c_kt 0).trans (v_kt 0).symm), (fun o => (c_kn o).trans (v_kn o).symm), (by omega), trivial⟩ (fun hHeld => ?_)
 clear hK K
 try simp only [PT]
 refine wpAnyH_ready (rs := [12]) (by kernel_rfl) (by simp) ?_
 refine ready_at rfl (fun K hK => ?_) AllReadyH.nil
 go_simp
 try simp only [IntWalk.i64_left]
 refine (tKeep_calls (t := u.2) (t.s.get h).k1 _ ⟨hA, kt, o_kt⟩).mono ?_
 rintro e_W4 W4 ⟨rfl, O2, hT_W4, hf_W4⟩
 have q_kn := hf_W4.keep kn o_kn (by unfold oneX; omega)
 replace o_kn := hf_W4.not_own (lt_of kn) o_kn
 clear kn; have kn := q_kn; clear q_kn
 have c_kn := cells_of kn
 have f_kn := free_of kn
 have l_kn_W4 := lt_of kn
 clear kt c_kt f_kt o_kt; have kt := hT_W4.blk; have o_kt := hT_W4.no
 have c_kt := cells_of kt
 have f_kt := free_of kt
 have l_kt_W4 := lt_of kt
 replace hF := hF.trans hf_W4
 have z_W4 := hf_W4.size
 clear hA hf_W4; have hA := hT_W4.hA; clear hT_W4
 refine hK.out _ _ ⟨((c_kt 0).trans (v_kt 0).symm), (fun o => (c_kn o).trans (v_kn o).symm), (by omega), trivial⟩ (fun hHeld => ?_)
 clear hK K
 try simp only [PT]
 refine wpAnyH_ready (rs := [13]) (by kernel_rfl) (by simp) ?_
 refine ready_at rfl (fun K hK => ?_) AllReadyH.nil
 go_simp
 try simp only [IntWalk.i64_left]
 refine (tFork_calls (t := u.2.keep (t.s.get h).k1) _ _ _ Hr.out _ ⟨hA, kt, o_kt⟩).mono ?_
 rintro e_W5 W5 ⟨rfl, O3, hT_W5, hf_W5⟩
 have q_kn := hf_W5.keep kn o_kn (by unfold oneX; omega)
 replace o_kn := hf_W5.not_own (lt_of kn) o_kn
 clear kn; have kn := q_kn; clear q_kn
 have c_kn := cells_of kn
 have f_kn := free_of kn
 have l_kn_W5 := lt_of kn
 clear kt c_kt f_kt o_kt; have kt := hT_W5.blk; have o_kt := hT_W5.no
 have c_kt := cells_of kt
 have f_kt := free_of kt
 have l_kt_W5 := lt_of kt
 replace hF := hF.trans hf_W5
 have z_W5 := hf_W5.size
 clear hA hf_W5; have hA := hT_W5.hA; clear hT_W5
 refine hK.out _ _ ⟨((c_kt 0).trans (v_kt 0).symm), (fun o => (c_kn o).trans (v_kn o).symm), (by omega), trivial⟩ (fun hHeld => ?_)
 clear hK K
 try simp only [PT]
 refine wpAnyH_ready (rs := [14]) (by kernel_rfl) (by simp) ?_
 refine ready_at rfl (fun K hK => ?_) AllReadyH.nil
 go_simp
 refine hK.out _ _ hHeld (fun hHeld => ?_)
 clear hK K
 try simp only [PT]
 refine wpAnyH_done (by kernel_rfl) ?_ _
 refine NoPanic.normal ?_
 go_wp2_with fail
 go_ret
 exact ⟨rfl, O3, ⟨hA, kt, o_kt⟩, hF⟩
set_option maxHeartbeats 400000 in
theorem tInsert_calls (one : Bool) : ∀ (k : Nat) (t : Tb) (O : Nat → Prop) (h i : Int) (r : Int × Tb) (w : World), Tb.insert k t h i one = some r → TB w tb ap t O →
  Calls Tryz.prog 84 #[.pointer (some ⟨tb, 0, none⟩), .int .i64 h, .int .i64 i, .bool one] w fun e w' => e = .returned (.int .i64 r.1) ∧ DidT tb ap r.2 O w w'
 | 0, t, O, h, i, r, w, hr, hT => by cases hr
 | k + 1, t, O, h, i, r, w, hr, hT => by
  have ih := Lib.hid (tInsert_calls one k)
  unfold Tb.insert at hr
  cases h1 : bIs t.s h with
  | false => rw [h1, if_neg (by decide)] at hr; exact tIns_nil one k h i r w hT h1 hr
  | true =>
   rw [h1, if_pos rfl] at hr
   dsimp only at hr
   by_cases h2 : (t.s.get h).tag = 1
   ·
    have d1 : ((t.s.get h).tag == 1) = true := by simpa using h2
    have hU := hT.hA.1.get64 h
    rw [if_pos h2] at hr
    cases h3 : insOk (lfK (t.s.get h)) (lfB (t.s.get h)) i with
    | true => rw [h3, if_pos rfl] at hr; exact tIns_fits one k h i r w hT h1 d1 hU h3 hr
    | false =>
     rw [h3, if_neg (by decide)] at hr
     obtain ⟨l1, H1⟩ : ∃ l1, l1 = (lfL (t.s.get h).a (wrap64 (t.s.get h).b)).take 32 := ⟨_, rfl⟩
     obtain ⟨l2, H2⟩ : ∃ l2, l2 = (lfL (t.s.get h).a (wrap64 (t.s.get h).b)).drop 32 := ⟨_, rfl⟩
     have e1 : l1.length ≤ 64 := by rw [H1, List.length_take]; omega
     have e2 : l2.length ≤ 64 := by rw [H2, List.length_drop]; have := lfL_le (t.s.get h).a (wrap64 (t.s.get h).b); omega
     rw [show (lfB (t.s.get h)).take 32 = l1 from H1.symm, show (lfB (t.s.get h)).drop 32 = l2 from H2.symm] at hr
     by_cases h4 : i ≤ (l1.length : Int)
     ·
      rw [if_pos h4] at hr
      exact tIns_l one k h i r w hT h1 d1 hU h3 l1 l2 (Lib.hid H1) (Lib.hid H2) e1 e2 (by simpa using h4) hr
     ·
      rw [if_neg h4] at hr
      exact tIns_r one k h i r w hT h1 d1 hU h3 l1 l2 (Lib.hid H1) (Lib.hid H2) e1 e2 (by simpa using h4) hr
   ·
    have d1 : ((t.s.get h).tag == 1) = false := by simpa using h2
    rw [if_neg h2] at hr
    by_cases h5 : bLen t.s (t.s.get h).k0 < i
    ·
     rw [if_pos h5] at hr
     exact tIns_high one k h i r w hT ih h1 d1 (by simpa using h5) hr
    ·
     rw [if_neg h5] at hr
     exact tIns_low one k h i r w hT ih h1 d1 (by simpa using h5) hr
end Go.Proofs.YtpdpcgmkpgfblaaGreat
/- Rows of bits in an arena: a row with a bit more. -/
namespace Go.Proofs.YtpdpcgmkpgfblaaGreat
set_option linter.unusedSimpArgs false
set_option linter.unusedVariables false
set_option linter.unnecessarySimpa false
open Go.RowKit
attribute [local go_sem ↓] Go.wp_at_zero Go.wp_at_succ
attribute [local go_sem] lt_s2 lt_s3 lt_s4
variable {ap : Value} {O : Nat → Prop} {s : Ar}
theorem AP.ptr {w : World} (h : AP w ap s O) : ∃ q, ap = .pointer q := by
  rcases h.2 with ⟨h, _⟩ | ⟨p, _, _, _, _, h, _⟩
  · exact ⟨_, h⟩
  · exact ⟨_, h⟩
set_option maxRecDepth 100000 in
set_option maxHeartbeats 2000000 in
theorem bInsert_calls (h i : Int) (one : Bool) (r : Int × Int × Ar) (hr : bInsert s h i one = some r) (w : World) (hA : AP w ap s O) :
    Calls Tryz.prog 40 #[ap, .int .i64 h, .int .i64 i, .bool one] w fun e w' => e = .returned (.tuple #[.int .i64 r.1, .int .i64 r.2.1]) ∧ Did noX ap r.2.2 O w w' := by
  obtain ⟨q, rfl⟩ := hA.ptr
  unfold bInsert at hr
  by_cases h1 : i < 0
  · have d1 : decide (i < 0) = true := by simpa using h1
    rw [if_pos (.inl h1)] at hr
    obtain rfl := Option.some.inj hr
    clear hr h1
    go_enter Tryz.func40, Tryz.ntmps40
    go_wp2_with fail
    go_ret2
    exact ⟨rfl, O, hA, Fr.refl _ _ _⟩
  · have d1 : decide (i < 0) = false := by simpa using h1
    by_cases h2 : bLen s h < i
    · have d2 : decide (bLen s h < i) = true := by simpa using h2
      rw [if_pos (.inr h2)] at hr
      obtain rfl := Option.some.inj hr
      clear hr h1 h2
      go_enter Tryz.func40, Tryz.ntmps40
      go_wp2_with fail
      refine calls_gen fun V hV_V => ?_
      have n_F : Fr (noX) O O w V := nF hV_V
      have n_A : AP V (.pointer q) s O := nA hV_V
      have z_V := Nat.le_of_eq (congrArg (fun v : World => v.heap.size) hV_V).symm
      try simp only [SZ] at z_V
      clear hV_V
      clear hA
      have hA := n_A
      clear n_A
      skip
      have hF := n_F
      clear n_F
      refine (bLen_calls _ _ hA).mono ?_
      rintro e_W1 W1 ⟨rfl, hb_W1⟩
      replace hA := hA.below hb_W1
      replace hF := hF.below hb_W1
      have z_W1 := hb_W1.size
      clear hb_W1
      go_wp2_with fail
      go_ret2
      exact ⟨rfl, O, hA, hF⟩
    · have d2 : decide (bLen s h < i) = false := by simpa using h2
      rw [if_neg (by omega)] at hr
      obtain ⟨u, hu, rfl⟩ := Option.map_eq_some_iff.1 hr
      have Hu := Lib.hid hu
      clear hr hu h1 h2
      go_enter Tryz.func40, Tryz.ntmps40
      go_wp2_with fail
      refine calls_gen fun V hV_V => ?_
      have n_F : Fr (noX) O O w V := nF hV_V
      have n_A : AP V (.pointer q) s O := nA hV_V
      have z_V := Nat.le_of_eq (congrArg (fun v : World => v.heap.size) hV_V).symm
      try simp only [SZ] at z_V
      clear hV_V
      clear hA
      have hA := n_A
      clear n_A
      skip
      have hF := n_F
      clear n_F
      refine (bLen_calls _ _ hA).mono ?_
      rintro e_W1 W1 ⟨rfl, hb_W1⟩
      replace hA := hA.below hb_W1
      replace hF := hF.below hb_W1
      have z_W1 := hb_W1.size
      clear hb_W1
      go_wp2_with fail
      refine calls_gen fun V1 hV_V1 => ?_
      have n_kt := congrArg (fun v : World => v.heap[W1.heap.size]?) hV_V1
      simp (maxDischargeDepth := 9) only [BK, not_false_eq_true, reduceCtorEq] at n_kt
      have o_kt : ¬ O (W1.heap.size) := by first | exact hA.new (Nat.le_refl _) | exact hA.new (by omega)
      have n_F : Fr (noX) O O w V1 := nF hV_V1
      have n_A : AP V1 (.pointer q) s O := nA hV_V1
      have z_V1 := Nat.le_of_eq (congrArg (fun v : World => v.heap.size) hV_V1).symm
      try simp only [SZ] at z_V1
      clear hV_V1
      clear hA
      have hA := n_A
      clear n_A
      clear hF
      have hF := n_F
      clear n_F
      have kt := n_kt; clear n_kt
      have c_kt := cells_of kt
      have f_kt := free_of kt
      have l_kt_V1 := lt_of kt
      refine (tInsert_calls one rounds ⟨s, 0⟩ _ _ _ _ _ Hu.out ⟨hA, kt, o_kt⟩).mono ?_
      rintro e_W2 W2 ⟨rfl, O1, hT_W2, hf_W2⟩
      clear kt c_kt f_kt o_kt; have kt := hT_W2.blk; have o_kt := hT_W2.no
      have c_kt := cells_of kt
      have f_kt := free_of kt
      have l_kt_W2 := lt_of kt
      replace hF := hF.trans_new hf_W2 (by omega)
      have z_W2 := hf_W2.size
      clear hA hf_W2; have hA := hT_W2.hA; clear hT_W2
      go_wp2_with fail
      refine calls_gen fun V2 hV_V2 => ?_
      have n_kt := congrArg (fun v : World => v.heap[W1.heap.size]?) hV_V2
      simp (maxDischargeDepth := 9) only [BK, not_false_eq_true, reduceCtorEq, kt, l_kt_V1, l_kt_W2] at n_kt
      have n_F : Fr (noX) O O1 w V2 := nF hV_V2
      have n_A : AP V2 (.pointer q) (u.2).s O1 := nA hV_V2
      have z_V2 := Nat.le_of_eq (congrArg (fun v : World => v.heap.size) hV_V2).symm
      try simp only [SZ] at z_V2
      clear kt c_kt f_kt
      clear hV_V2
      clear hA
      have hA := n_A
      clear n_A
      clear hF
      have hF := n_F
      clear n_F
      have kt := n_kt; clear n_kt
      have c_kt := cells_of kt
      have f_kt := free_of kt
      have l_kt_V2 := lt_of kt
      refine (tTold_calls (t := u.2) u.1 _ ⟨hA, kt, o_kt⟩).mono ?_
      rintro e_W3 W3 ⟨rfl, O2, hT_W3, hf_W3⟩
      clear kt c_kt f_kt o_kt; have kt := hT_W3.blk; have o_kt := hT_W3.no
      have c_kt := cells_of kt
      have f_kt := free_of kt
      have l_kt_W3 := lt_of kt
      replace hF := hF.trans_new hf_W3 (by omega)
      have z_W3 := hf_W3.size
      clear hA hf_W3; have hA := hT_W3.hA; clear hT_W3
      go_wp2_with fail
      go_ret2
      refine ⟨rfl, O2, ?_, hF⟩
      have e : (Tb.told u).2.2 = u.2.s := by unfold Tb.told; split <;> rfl
      rw [e]; exact hA
end Go.Proofs.YtpdpcgmkpgfblaaGreat
