/- The tree that makes nodes of lists: join. -/
import Derived.Test.YtkgabbenmoocgaaLTree
namespace Go.Proofs.Ytkgabbenmoocgaa
set_option linter.unusedSimpArgs false
set_option linter.unusedVariables false
set_option linter.unnecessarySimpa false
open Go.RowKit
attribute [local go_sem ↓] Go.wp_at_zero Go.wp_at_succ
attribute [local go_sem] lt_s2 lt_s3 lt_s4
variable {ap : Value} {O : Nat → Prop} {tb : Nat} {t : Tb}
set_option maxRecDepth 100000 in
set_option maxHeartbeats 4000000 in
theorem lJoin_calls (x y : Int) (r : Int × Tb) (hr : t.join x y = some r) (w : World) (hT : LB w tb ap t O) :
  Calls Try.prog 61 #[.pointer (some ⟨tb, 0, none⟩), .int .i64 x, .int .i64 y] w fun e w' => e = .returned (.int .i64 r.1) ∧ DidL tb ap r.2 O w w' := by
 unfold Tb.join at hr
 obtain ⟨p, h_b, h_r⟩ := Option.bind_eq_some_iff.1 hr
 have Hp := Lib.hid h_b; clear h_b hr; have hr := h_r; clear h_r
 obtain ⟨q, h_b, h_r⟩ := Option.bind_eq_some_iff.1 hr
 have Hq := Lib.hid h_b; clear h_b hr; have hr := h_r; clear h_r
 by_cases he : t.e = 0
 ·
  have d1 : (t.e != 0) = false := by simp [he]
  rw [if_pos he] at hr
  clear he
  by_cases hx : x = 0
  ·
   have x1 : (x == 0) = true := by simpa using hx
   rw [if_pos (.inl hx)] at hr
   obtain rfl := Option.some.inj hr
   clear hr hx
   go_enter Try.func61, Try.ntmps61
   have hA := hT.hA
   have kt := hT.blk
   have o_kt := hT.no
   have c_kt := cells_of kt
   have f_kt := free_of kt
   have l_kt_w := lt_of kt
   go_wp2_with fail
   refine calls_gen fun VW1 hV_VW1 => ?_
   have n_kt := congrArg (fun v : World => v.heap[tb]?) hV_VW1
   simp (maxDischargeDepth := 9) only [BK, not_false_eq_true, reduceCtorEq, kt, l_kt_w] at n_kt
   have n_F : Fr ((oneX tb)) O O w VW1 := nF hV_VW1
   have n_A : AP VW1 ap t.s O := nA hV_VW1
   have z_VW1 := Nat.le_of_eq (congrArg (fun v : World => v.heap.size) hV_VW1).symm
   try simp only [SZ] at z_VW1
   clear kt c_kt f_kt
   clear hV_VW1
   clear hA
   have hA := n_A
   clear n_A
   skip
   have hF := n_F
   clear n_F
   have kt := n_kt; clear n_kt
   have c_kt := cells_of kt
   have f_kt := free_of kt
   have l_kt_VW1 := lt_of kt
   refine (lHigh_calls (t := t) _ _ _ _ Hp.out ⟨hA, kt, o_kt⟩).mono ?_
   rintro e_W1 W1 ⟨rfl, hb_W1⟩
   replace hA := hA.below hb_W1
   replace hF := hF.below hb_W1
   replace kt := keep_blk hb_W1 kt
   have c_kt := cells_of kt
   have f_kt := free_of kt
   have l_kt_W1 := lt_of kt
   have z_W1 := hb_W1.size
   clear hb_W1
   go_wp2_with fail
   refine calls_gen fun VW2 hV_VW2 => ?_
   have n_kt := congrArg (fun v : World => v.heap[tb]?) hV_VW2
   simp (maxDischargeDepth := 9) only [BK, not_false_eq_true, reduceCtorEq, kt, l_kt_w, l_kt_VW1, l_kt_W1] at n_kt
   have n_F : Fr ((oneX tb)) O O w VW2 := nF hV_VW2
   have n_A : AP VW2 ap t.s O := nA hV_VW2
   have z_VW2 := Nat.le_of_eq (congrArg (fun v : World => v.heap.size) hV_VW2).symm
   try simp only [SZ] at z_VW2
   clear kt c_kt f_kt
   clear hV_VW2
   clear hA
   have hA := n_A
   clear n_A
   clear hF
   have hF := n_F
   clear n_F
   have kt := n_kt; clear n_kt
   have c_kt := cells_of kt
   have f_kt := free_of kt
   have l_kt_VW2 := lt_of kt
   refine (lHigh_calls (t := t) _ _ _ _ Hq.out ⟨hA, kt, o_kt⟩).mono ?_
   rintro e_W2 W2 ⟨rfl, hb_W2⟩
   replace hA := hA.below hb_W2
   replace hF := hF.below hb_W2
   replace kt := keep_blk hb_W2 kt
   have c_kt := cells_of kt
   have f_kt := free_of kt
   have l_kt_W2 := lt_of kt
   have z_W2 := hb_W2.size
   clear hb_W2
   go_wp2_with fail
   go_ret
   exact ⟨rfl, O, ⟨hA, kt, o_kt⟩, hF⟩
  have x1 : (x == 0) = false := by simpa using hx
  by_cases hy : y = 0
  ·
   have y1 : (y == 0) = true := by simpa using hy
   rw [if_pos (.inr hy)] at hr
   obtain rfl := Option.some.inj hr
   clear hr hx hy
   go_enter Try.func61, Try.ntmps61
   have hA := hT.hA
   have kt := hT.blk
   have o_kt := hT.no
   have c_kt := cells_of kt
   have f_kt := free_of kt
   have l_kt_w := lt_of kt
   go_wp2_with fail
   refine calls_gen fun VW1 hV_VW1 => ?_
   have n_kt := congrArg (fun v : World => v.heap[tb]?) hV_VW1
   simp (maxDischargeDepth := 9) only [BK, not_false_eq_true, reduceCtorEq, kt, l_kt_w] at n_kt
   have n_F : Fr ((oneX tb)) O O w VW1 := nF hV_VW1
   have n_A : AP VW1 ap t.s O := nA hV_VW1
   have z_VW1 := Nat.le_of_eq (congrArg (fun v : World => v.heap.size) hV_VW1).symm
   try simp only [SZ] at z_VW1
   clear kt c_kt f_kt
   clear hV_VW1
   clear hA
   have hA := n_A
   clear n_A
   skip
   have hF := n_F
   clear n_F
   have kt := n_kt; clear n_kt
   have c_kt := cells_of kt
   have f_kt := free_of kt
   have l_kt_VW1 := lt_of kt
   refine (lHigh_calls (t := t) _ _ _ _ Hp.out ⟨hA, kt, o_kt⟩).mono ?_
   rintro e_W1 W1 ⟨rfl, hb_W1⟩
   replace hA := hA.below hb_W1
   replace hF := hF.below hb_W1
   replace kt := keep_blk hb_W1 kt
   have c_kt := cells_of kt
   have f_kt := free_of kt
   have l_kt_W1 := lt_of kt
   have z_W1 := hb_W1.size
   clear hb_W1
   go_wp2_with fail
   refine calls_gen fun VW2 hV_VW2 => ?_
   have n_kt := congrArg (fun v : World => v.heap[tb]?) hV_VW2
   simp (maxDischargeDepth := 9) only [BK, not_false_eq_true, reduceCtorEq, kt, l_kt_w, l_kt_VW1, l_kt_W1] at n_kt
   have n_F : Fr ((oneX tb)) O O w VW2 := nF hV_VW2
   have n_A : AP VW2 ap t.s O := nA hV_VW2
   have z_VW2 := Nat.le_of_eq (congrArg (fun v : World => v.heap.size) hV_VW2).symm
   try simp only [SZ] at z_VW2
   clear kt c_kt f_kt
   clear hV_VW2
   clear hA
   have hA := n_A
   clear n_A
   clear hF
   have hF := n_F
   clear n_F
   have kt := n_kt; clear n_kt
   have c_kt := cells_of kt
   have f_kt := free_of kt
   have l_kt_VW2 := lt_of kt
   refine (lHigh_calls (t := t) _ _ _ _ Hq.out ⟨hA, kt, o_kt⟩).mono ?_
   rintro e_W2 W2 ⟨rfl, hb_W2⟩
   replace hA := hA.below hb_W2
   replace hF := hF.below hb_W2
   replace kt := keep_blk hb_W2 kt
   have c_kt := cells_of kt
   have f_kt := free_of kt
   have l_kt_W2 := lt_of kt
   have z_W2 := hb_W2.size
   clear hb_W2
   go_wp2_with fail
   go_ret
   exact ⟨rfl, O, ⟨hA, kt, o_kt⟩, hF⟩
  have y1 : (y == 0) = false := by simpa using hy
  rw [if_neg (by intro h; rcases h with h | h; exact hx h; exact hy h)] at hr
  clear hx hy
  by_cases c1 : wrap64 (q + 1) < p
  ·
   have d2 : decide (wrap64 (q + 1) < p) = true := by simpa using c1
   rw [if_pos c1] at hr
   clear c1
   dsimp only at hr
   obtain ⟨a, h_b, h_r⟩ := Option.bind_eq_some_iff.1 hr
   have Ha := Lib.hid h_b; clear h_b hr; have hr := h_r; clear h_r
   obtain ⟨b, h_b, h_r⟩ := Option.bind_eq_some_iff.1 hr
   have Hb := Lib.hid h_b; clear h_b hr; have hr := h_r; clear h_r
   by_cases c2 : b ≤ a
   ·
    have d3 : decide (b ≤ a) = true := by simpa using c2
    rw [if_pos c2] at hr
    clear c2
    obtain rfl := Option.some.inj hr
    clear hr
    go_enter Try.func61, Try.ntmps61
    have hA := hT.hA
    have kt := hT.blk
    have o_kt := hT.no
    have c_kt := cells_of kt
    have f_kt := free_of kt
    have l_kt_w := lt_of kt
    go_wp2_with fail
    refine calls_gen fun VW1 hV_VW1 => ?_
    have n_kt := congrArg (fun v : World => v.heap[tb]?) hV_VW1
    simp (maxDischargeDepth := 9) only [BK, not_false_eq_true, reduceCtorEq, kt, l_kt_w] at n_kt
    have n_F : Fr ((oneX tb)) O O w VW1 := nF hV_VW1
    have n_A : AP VW1 ap t.s O := nA hV_VW1
    have z_VW1 := Nat.le_of_eq (congrArg (fun v : World => v.heap.size) hV_VW1).symm
    try simp only [SZ] at z_VW1
    clear kt c_kt f_kt
    clear hV_VW1
    clear hA
    have hA := n_A
    clear n_A
    skip
    have hF := n_F
    clear n_F
    have kt := n_kt; clear n_kt
    have c_kt := cells_of kt
    have f_kt := free_of kt
    have l_kt_VW1 := lt_of kt
    refine (lHigh_calls (t := t) _ _ _ _ Hp.out ⟨hA, kt, o_kt⟩).mono ?_
    rintro e_W1 W1 ⟨rfl, hb_W1⟩
    replace hA := hA.below hb_W1
    replace hF := hF.below hb_W1
    replace kt := keep_blk hb_W1 kt
    have c_kt := cells_of kt
    have f_kt := free_of kt
    have l_kt_W1 := lt_of kt
    have z_W1 := hb_W1.size
    clear hb_W1
    go_wp2_with fail
    refine calls_gen fun VW2 hV_VW2 => ?_
    have n_kt := congrArg (fun v : World => v.heap[tb]?) hV_VW2
    simp (maxDischargeDepth := 9) only [BK, not_false_eq_true, reduceCtorEq, kt, l_kt_w, l_kt_VW1, l_kt_W1] at n_kt
    have n_F : Fr ((oneX tb)) O O w VW2 := nF hV_VW2
    have n_A : AP VW2 ap t.s O := nA hV_VW2
    have z_VW2 := Nat.le_of_eq (congrArg (fun v : World => v.heap.size) hV_VW2).symm
    try simp only [SZ] at z_VW2
    clear kt c_kt f_kt
    clear hV_VW2
    clear hA
    have hA := n_A
    clear n_A
    clear hF
    have hF := n_F
    clear n_F
    have kt := n_kt; clear n_kt
    have c_kt := cells_of kt
    have f_kt := free_of kt
    have l_kt_VW2 := lt_of kt
    refine (lHigh_calls (t := t) _ _ _ _ Hq.out ⟨hA, kt, o_kt⟩).mono ?_
    rintro e_W2 W2 ⟨rfl, hb_W2⟩
    replace hA := hA.below hb_W2
    replace hF := hF.below hb_W2
    replace kt := keep_blk hb_W2 kt
    have c_kt := cells_of kt
    have f_kt := free_of kt
    have l_kt_W2 := lt_of kt
    have z_W2 := hb_W2.size
    clear hb_W2
    go_wp2_with fail
    refine calls_gen fun VW3 hV_VW3 => ?_
    have n_kt := congrArg (fun v : World => v.heap[tb]?) hV_VW3
    simp (maxDischargeDepth := 9) only [BK, not_false_eq_true, reduceCtorEq, kt, l_kt_w, l_kt_VW1, l_kt_W1, l_kt_VW2, l_kt_W2] at n_kt
    have n_F : Fr ((oneX tb)) O O w VW3 := nF hV_VW3
    have n_A : AP VW3 ap t.s O := nA hV_VW3
    have z_VW3 := Nat.le_of_eq (congrArg (fun v : World => v.heap.size) hV_VW3).symm
    try simp only [SZ] at z_VW3
    clear kt c_kt f_kt
    clear hV_VW3
    clear hA
    have hA := n_A
    clear n_A
    clear hF
    have hF := n_F
    clear n_F
    have kt := n_kt; clear n_kt
    have c_kt := cells_of kt
    have f_kt := free_of kt
    have l_kt_VW3 := lt_of kt
    refine (lOpen_calls (t := t) x _ ⟨hA, kt, o_kt⟩).mono ?_
    rintro e_W3 W3 ⟨rfl, O1, hT_W3, hf_W3⟩
    clear kt c_kt f_kt o_kt; have kt := hT_W3.blk; have o_kt := hT_W3.no
    have c_kt := cells_of kt
    have f_kt := free_of kt
    have l_kt_W3 := lt_of kt
    replace hF := hF.trans hf_W3
    have z_W3 := hf_W3.size
    clear hA hf_W3; have hA := hT_W3.hA; clear hT_W3
    go_wp2_with fail
    refine calls_gen fun VW4 hV_VW4 => ?_
    have n_kt := congrArg (fun v : World => v.heap[tb]?) hV_VW4
    simp (maxDischargeDepth := 9) only [BK, not_false_eq_true, reduceCtorEq, kt, l_kt_w, l_kt_VW1, l_kt_W1, l_kt_VW2, l_kt_W2, l_kt_VW3, l_kt_W3] at n_kt
    have n_F : Fr ((oneX tb)) O O1 w VW4 := nF hV_VW4
    have n_A : AP VW4 ap ((t).opened x).s O1 := nA hV_VW4
    have z_VW4 := Nat.le_of_eq (congrArg (fun v : World => v.heap.size) hV_VW4).symm
    try simp only [SZ] at z_VW4
    clear kt c_kt f_kt
    clear hV_VW4
    clear hA
    have hA := n_A
    clear n_A
    clear hF
    have hF := n_F
    clear n_F
    have kt := n_kt; clear n_kt
    have c_kt := cells_of kt
    have f_kt := free_of kt
    have l_kt_VW4 := lt_of kt
    refine (lHigh_calls (t := t.opened x) _ _ _ _ Ha.out ⟨hA, kt, o_kt⟩).mono ?_
    rintro e_W4 W4 ⟨rfl, hb_W4⟩
    replace hA := hA.below hb_W4
    replace hF := hF.below hb_W4
    replace kt := keep_blk hb_W4 kt
    have c_kt := cells_of kt
    have f_kt := free_of kt
    have l_kt_W4 := lt_of kt
    have z_W4 := hb_W4.size
    clear hb_W4
    go_wp2_with fail
    refine calls_gen fun VW5 hV_VW5 => ?_
    have n_kt := congrArg (fun v : World => v.heap[tb]?) hV_VW5
    simp (maxDischargeDepth := 9) only [BK, not_false_eq_true, reduceCtorEq, kt, l_kt_w, l_kt_VW1, l_kt_W1, l_kt_VW2, l_kt_W2, l_kt_VW3, l_kt_W3, l_kt_VW4, l_kt_W4] at n_kt
    have n_F : Fr ((oneX tb)) O O1 w VW5 := nF hV_VW5
    have n_A : AP VW5 ap ((t).opened x).s O1 := nA hV_VW5
    have z_VW5 := Nat.le_of_eq (congrArg (fun v : World => v.heap.size) hV_VW5).symm
    try simp only [SZ] at z_VW5
    clear kt c_kt f_kt
    clear hV_VW5
    clear hA
    have hA := n_A
    clear n_A
    clear hF
    have hF := n_F
    clear n_F
    have kt := n_kt; clear n_kt
    have c_kt := cells_of kt
    have f_kt := free_of kt
    have l_kt_VW5 := lt_of kt
    refine (lHigh_calls (t := t.opened x) _ _ _ _ Hb.out ⟨hA, kt, o_kt⟩).mono ?_
    rintro e_W5 W5 ⟨rfl, hb_W5⟩
    replace hA := hA.below hb_W5
    replace hF := hF.below hb_W5
    replace kt := keep_blk hb_W5 kt
    have c_kt := cells_of kt
    have f_kt := free_of kt
    have l_kt_W5 := lt_of kt
    have z_W5 := hb_W5.size
    clear hb_W5
    go_wp2_with fail
    refine calls_gen fun VW6 hV_VW6 => ?_
    have n_kt := congrArg (fun v : World => v.heap[tb]?) hV_VW6
    simp (maxDischargeDepth := 9) only [BK, not_false_eq_true, reduceCtorEq, kt, l_kt_w, l_kt_VW1, l_kt_W1, l_kt_VW2, l_kt_W2, l_kt_VW3, l_kt_W3, l_kt_VW4, l_kt_W4, l_kt_VW5, l_kt_W5] at n_kt
    have n_F : Fr ((oneX tb)) O O1 w VW6 := nF hV_VW6
    have n_A : AP VW6 ap ((t).opened x).s O1 := nA hV_VW6
    have z_VW6 := Nat.le_of_eq (congrArg (fun v : World => v.heap.size) hV_VW6).symm
    try simp only [SZ] at z_VW6
    clear kt c_kt f_kt
    clear hV_VW6
    clear hA
    have hA := n_A
    clear n_A
    clear hF
    have hF := n_F
    clear n_F
    have kt := n_kt; clear n_kt
    have c_kt := cells_of kt
    have f_kt := free_of kt
    have l_kt_VW6 := lt_of kt
    refine (lPair_calls (t := t.opened x) _ _ _ ⟨hA, kt, o_kt⟩).mono ?_
    rintro e_W6 W6 ⟨rfl, O2, hT_W6, hf_W6⟩
    clear kt c_kt f_kt o_kt; have kt := hT_W6.blk; have o_kt := hT_W6.no
    have c_kt := cells_of kt
    have f_kt := free_of kt
    have l_kt_W6 := lt_of kt
    replace hF := hF.trans hf_W6
    have z_W6 := hf_W6.size
    clear hA hf_W6; have hA := hT_W6.hA; clear hT_W6
    go_wp2_with fail
    refine calls_gen fun VW7 hV_VW7 => ?_
    have n_kt := congrArg (fun v : World => v.heap[tb]?) hV_VW7
    simp (maxDischargeDepth := 9) only [BK, not_false_eq_true, reduceCtorEq, kt, l_kt_w, l_kt_VW1, l_kt_W1, l_kt_VW2, l_kt_W2, l_kt_VW3, l_kt_W3, l_kt_VW4, l_kt_W4, l_kt_VW5, l_kt_W5, l_kt_VW6, l_kt_W6] at n_kt
    have n_F : Fr ((oneX tb)) O O2 w VW7 := nF hV_VW7
    have n_A : AP VW7 ap (((t.opened x).lpair (t.s.get x).k1 y).2).s O2 := nA hV_VW7
    have z_VW7 := Nat.le_of_eq (congrArg (fun v : World => v.heap.size) hV_VW7).symm
    try simp only [SZ] at z_VW7
    clear kt c_kt f_kt
    clear hV_VW7
    clear hA
    have hA := n_A
    clear n_A
    clear hF
    have hF := n_F
    clear n_F
    have kt := n_kt; clear n_kt
    have c_kt := cells_of kt
    have f_kt := free_of kt
    have l_kt_VW7 := lt_of kt
    refine (lPair_calls (t := ((t.opened x).lpair (t.s.get x).k1 y).2) _ _ _ ⟨hA, kt, o_kt⟩).mono ?_
    rintro e_W7 W7 ⟨rfl, O3, hT_W7, hf_W7⟩
    clear kt c_kt f_kt o_kt; have kt := hT_W7.blk; have o_kt := hT_W7.no
    have c_kt := cells_of kt
    have f_kt := free_of kt
    have l_kt_W7 := lt_of kt
    replace hF := hF.trans hf_W7
    have z_W7 := hf_W7.size
    clear hA hf_W7; have hA := hT_W7.hA; clear hT_W7
    go_wp2_with fail
    go_ret
    exact ⟨rfl, O3, ⟨hA, kt, o_kt⟩, hF⟩
   ·
    have d3 : decide (b ≤ a) = false := by simpa using c2
    rw [if_neg c2] at hr
    clear c2
    obtain rfl := Option.some.inj hr
    clear hr
    go_enter Try.func61, Try.ntmps61
    have hA := hT.hA
    have kt := hT.blk
    have o_kt := hT.no
    have c_kt := cells_of kt
    have f_kt := free_of kt
    have l_kt_w := lt_of kt
    go_wp2_with fail
    refine calls_gen fun VW1 hV_VW1 => ?_
    have n_kt := congrArg (fun v : World => v.heap[tb]?) hV_VW1
    simp (maxDischargeDepth := 9) only [BK, not_false_eq_true, reduceCtorEq, kt, l_kt_w] at n_kt
    have n_F : Fr ((oneX tb)) O O w VW1 := nF hV_VW1
    have n_A : AP VW1 ap t.s O := nA hV_VW1
    have z_VW1 := Nat.le_of_eq (congrArg (fun v : World => v.heap.size) hV_VW1).symm
    try simp only [SZ] at z_VW1
    clear kt c_kt f_kt
    clear hV_VW1
    clear hA
    have hA := n_A
    clear n_A
    skip
    have hF := n_F
    clear n_F
    have kt := n_kt; clear n_kt
    have c_kt := cells_of kt
    have f_kt := free_of kt
    have l_kt_VW1 := lt_of kt
    refine (lHigh_calls (t := t) _ _ _ _ Hp.out ⟨hA, kt, o_kt⟩).mono ?_
    rintro e_W1 W1 ⟨rfl, hb_W1⟩
    replace hA := hA.below hb_W1
    replace hF := hF.below hb_W1
    replace kt := keep_blk hb_W1 kt
    have c_kt := cells_of kt
    have f_kt := free_of kt
    have l_kt_W1 := lt_of kt
    have z_W1 := hb_W1.size
    clear hb_W1
    go_wp2_with fail
    refine calls_gen fun VW2 hV_VW2 => ?_
    have n_kt := congrArg (fun v : World => v.heap[tb]?) hV_VW2
    simp (maxDischargeDepth := 9) only [BK, not_false_eq_true, reduceCtorEq, kt, l_kt_w, l_kt_VW1, l_kt_W1] at n_kt
    have n_F : Fr ((oneX tb)) O O w VW2 := nF hV_VW2
    have n_A : AP VW2 ap t.s O := nA hV_VW2
    have z_VW2 := Nat.le_of_eq (congrArg (fun v : World => v.heap.size) hV_VW2).symm
    try simp only [SZ] at z_VW2
    clear kt c_kt f_kt
    clear hV_VW2
    clear hA
    have hA := n_A
    clear n_A
    clear hF
    have hF := n_F
    clear n_F
    have kt := n_kt; clear n_kt
    have c_kt := cells_of kt
    have f_kt := free_of kt
    have l_kt_VW2 := lt_of kt
    refine (lHigh_calls (t := t) _ _ _ _ Hq.out ⟨hA, kt, o_kt⟩).mono ?_
    rintro e_W2 W2 ⟨rfl, hb_W2⟩
    replace hA := hA.below hb_W2
    replace hF := hF.below hb_W2
    replace kt := keep_blk hb_W2 kt
    have c_kt := cells_of kt
    have f_kt := free_of kt
    have l_kt_W2 := lt_of kt
    have z_W2 := hb_W2.size
    clear hb_W2
    go_wp2_with fail
    refine calls_gen fun VW3 hV_VW3 => ?_
    have n_kt := congrArg (fun v : World => v.heap[tb]?) hV_VW3
    simp (maxDischargeDepth := 9) only [BK, not_false_eq_true, reduceCtorEq, kt, l_kt_w, l_kt_VW1, l_kt_W1, l_kt_VW2, l_kt_W2] at n_kt
    have n_F : Fr ((oneX tb)) O O w VW3 := nF hV_VW3
    have n_A : AP VW3 ap t.s O := nA hV_VW3
    have z_VW3 := Nat.le_of_eq (congrArg (fun v : World => v.heap.size) hV_VW3).symm
    try simp only [SZ] at z_VW3
    clear kt c_kt f_kt
    clear hV_VW3
    clear hA
    have hA := n_A
    clear n_A
    clear hF
    have hF := n_F
    clear n_F
    have kt := n_kt; clear n_kt
    have c_kt := cells_of kt
    have f_kt := free_of kt
    have l_kt_VW3 := lt_of kt
    refine (lOpen_calls (t := t) x _ ⟨hA, kt, o_kt⟩).mono ?_
    rintro e_W3 W3 ⟨rfl, O1, hT_W3, hf_W3⟩
    clear kt c_kt f_kt o_kt; have kt := hT_W3.blk; have o_kt := hT_W3.no
    have c_kt := cells_of kt
    have f_kt := free_of kt
    have l_kt_W3 := lt_of kt
    replace hF := hF.trans hf_W3
    have z_W3 := hf_W3.size
    clear hA hf_W3; have hA := hT_W3.hA; clear hT_W3
    go_wp2_with fail
    refine calls_gen fun VW4 hV_VW4 => ?_
    have n_kt := congrArg (fun v : World => v.heap[tb]?) hV_VW4
    simp (maxDischargeDepth := 9) only [BK, not_false_eq_true, reduceCtorEq, kt, l_kt_w, l_kt_VW1, l_kt_W1, l_kt_VW2, l_kt_W2, l_kt_VW3, l_kt_W3] at n_kt
    have n_F : Fr ((oneX tb)) O O1 w VW4 := nF hV_VW4
    have n_A : AP VW4 ap ((t).opened x).s O1 := nA hV_VW4
    have z_VW4 := Nat.le_of_eq (congrArg (fun v : World => v.heap.size) hV_VW4).symm
    try simp only [SZ] at z_VW4
    clear kt c_kt f_kt
    clear hV_VW4
    clear hA
    have hA := n_A
    clear n_A
    clear hF
    have hF := n_F
    clear n_F
    have kt := n_kt; clear n_kt
    have c_kt := cells_of kt
    have f_kt := free_of kt
    have l_kt_VW4 := lt_of kt
    refine (lHigh_calls (t := t.opened x) _ _ _ _ Ha.out ⟨hA, kt, o_kt⟩).mono ?_
    rintro e_W4 W4 ⟨rfl, hb_W4⟩
    replace hA := hA.below hb_W4
    replace hF := hF.below hb_W4
    replace kt := keep_blk hb_W4 kt
    have c_kt := cells_of kt
    have f_kt := free_of kt
    have l_kt_W4 := lt_of kt
    have z_W4 := hb_W4.size
    clear hb_W4
    go_wp2_with fail
    refine calls_gen fun VW5 hV_VW5 => ?_
    have n_kt := congrArg (fun v : World => v.heap[tb]?) hV_VW5
    simp (maxDischargeDepth := 9) only [BK, not_false_eq_true, reduceCtorEq, kt, l_kt_w, l_kt_VW1, l_kt_W1, l_kt_VW2, l_kt_W2, l_kt_VW3, l_kt_W3, l_kt_VW4, l_kt_W4] at n_kt
    have n_F : Fr ((oneX tb)) O O1 w VW5 := nF hV_VW5
    have n_A : AP VW5 ap ((t).opened x).s O1 := nA hV_VW5
    have z_VW5 := Nat.le_of_eq (congrArg (fun v : World => v.heap.size) hV_VW5).symm
    try simp only [SZ] at z_VW5
    clear kt c_kt f_kt
    clear hV_VW5
    clear hA
    have hA := n_A
    clear n_A
    clear hF
    have hF := n_F
    clear n_F
    have kt := n_kt; clear n_kt
    have c_kt := cells_of kt
    have f_kt := free_of kt
    have l_kt_VW5 := lt_of kt
    refine (lHigh_calls (t := t.opened x) _ _ _ _ Hb.out ⟨hA, kt, o_kt⟩).mono ?_
    rintro e_W5 W5 ⟨rfl, hb_W5⟩
    replace hA := hA.below hb_W5
    replace hF := hF.below hb_W5
    replace kt := keep_blk hb_W5 kt
    have c_kt := cells_of kt
    have f_kt := free_of kt
    have l_kt_W5 := lt_of kt
    have z_W5 := hb_W5.size
    clear hb_W5
    go_wp2_with fail
    refine calls_gen fun VW6 hV_VW6 => ?_
    have n_kt := congrArg (fun v : World => v.heap[tb]?) hV_VW6
    simp (maxDischargeDepth := 9) only [BK, not_false_eq_true, reduceCtorEq, kt, l_kt_w, l_kt_VW1, l_kt_W1, l_kt_VW2, l_kt_W2, l_kt_VW3, l_kt_W3, l_kt_VW4, l_kt_W4, l_kt_VW5, l_kt_W5] at n_kt
    have n_F : Fr ((oneX tb)) O O1 w VW6 := nF hV_VW6
    have n_A : AP VW6 ap ((t).opened x).s O1 := nA hV_VW6
    have z_VW6 := Nat.le_of_eq (congrArg (fun v : World => v.heap.size) hV_VW6).symm
    try simp only [SZ] at z_VW6
    clear kt c_kt f_kt
    clear hV_VW6
    clear hA
    have hA := n_A
    clear n_A
    clear hF
    have hF := n_F
    clear n_F
    have kt := n_kt; clear n_kt
    have c_kt := cells_of kt
    have f_kt := free_of kt
    have l_kt_VW6 := lt_of kt
    refine (lOpen_calls (t := t.opened x) (t.s.get x).k1 _ ⟨hA, kt, o_kt⟩).mono ?_
    rintro e_W6 W6 ⟨rfl, O2, hT_W6, hf_W6⟩
    clear kt c_kt f_kt o_kt; have kt := hT_W6.blk; have o_kt := hT_W6.no
    have c_kt := cells_of kt
    have f_kt := free_of kt
    have l_kt_W6 := lt_of kt
    replace hF := hF.trans hf_W6
    have z_W6 := hf_W6.size
    clear hA hf_W6; have hA := hT_W6.hA; clear hT_W6
    go_wp2_with fail
    refine calls_gen fun VW7 hV_VW7 => ?_
    have n_kt := congrArg (fun v : World => v.heap[tb]?) hV_VW7
    simp (maxDischargeDepth := 9) only [BK, not_false_eq_true, reduceCtorEq, kt, l_kt_w, l_kt_VW1, l_kt_W1, l_kt_VW2, l_kt_W2, l_kt_VW3, l_kt_W3, l_kt_VW4, l_kt_W4, l_kt_VW5, l_kt_W5, l_kt_VW6, l_kt_W6] at n_kt
    have n_F : Fr ((oneX tb)) O O2 w VW7 := nF hV_VW7
    have n_A : AP VW7 ap ((t.opened x).opened (t.s.get x).k1).s O2 := nA hV_VW7
    have z_VW7 := Nat.le_of_eq (congrArg (fun v : World => v.heap.size) hV_VW7).symm
    try simp only [SZ] at z_VW7
    clear kt c_kt f_kt
    clear hV_VW7
    clear hA
    have hA := n_A
    clear n_A
    clear hF
    have hF := n_F
    clear n_F
    have kt := n_kt; clear n_kt
    have c_kt := cells_of kt
    have f_kt := free_of kt
    have l_kt_VW7 := lt_of kt
    refine (lPair_calls (t := (t.opened x).opened (t.s.get x).k1) _ _ _ ⟨hA, kt, o_kt⟩).mono ?_
    rintro e_W7 W7 ⟨rfl, O3, hT_W7, hf_W7⟩
    clear kt c_kt f_kt o_kt; have kt := hT_W7.blk; have o_kt := hT_W7.no
    have c_kt := cells_of kt
    have f_kt := free_of kt
    have l_kt_W7 := lt_of kt
    replace hF := hF.trans hf_W7
    have z_W7 := hf_W7.size
    clear hA hf_W7; have hA := hT_W7.hA; clear hT_W7
    go_wp2_with fail
    refine calls_gen fun VW8 hV_VW8 => ?_
    have n_kt := congrArg (fun v : World => v.heap[tb]?) hV_VW8
    simp (maxDischargeDepth := 9) only [BK, not_false_eq_true, reduceCtorEq, kt, l_kt_w, l_kt_VW1, l_kt_W1, l_kt_VW2, l_kt_W2, l_kt_VW3, l_kt_W3, l_kt_VW4, l_kt_W4, l_kt_VW5, l_kt_W5, l_kt_VW6, l_kt_W6, l_kt_VW7, l_kt_W7] at n_kt
    have n_F : Fr ((oneX tb)) O O3 w VW8 := nF hV_VW8
    have n_A : AP VW8 ap ((((t.opened x).opened (t.s.get x).k1).lpair (t.s.get x).k0 ((t.opened x).s.get (t.s.get x).k1).k0).2).s O3 := nA hV_VW8
    have z_VW8 := Nat.le_of_eq (congrArg (fun v : World => v.heap.size) hV_VW8).symm
    try simp only [SZ] at z_VW8
    clear kt c_kt f_kt
    clear hV_VW8
    clear hA
    have hA := n_A
    clear n_A
    clear hF
    have hF := n_F
    clear n_F
    have kt := n_kt; clear n_kt
    have c_kt := cells_of kt
    have f_kt := free_of kt
    have l_kt_VW8 := lt_of kt
    refine (lPair_calls (t := (((t.opened x).opened (t.s.get x).k1).lpair (t.s.get x).k0 ((t.opened x).s.get (t.s.get x).k1).k0).2) _ _ _ ⟨hA, kt, o_kt⟩).mono ?_
    rintro e_W8 W8 ⟨rfl, O4, hT_W8, hf_W8⟩
    clear kt c_kt f_kt o_kt; have kt := hT_W8.blk; have o_kt := hT_W8.no
    have c_kt := cells_of kt
    have f_kt := free_of kt
    have l_kt_W8 := lt_of kt
    replace hF := hF.trans hf_W8
    have z_W8 := hf_W8.size
    clear hA hf_W8; have hA := hT_W8.hA; clear hT_W8
    go_wp2_with fail
    refine calls_gen fun VW9 hV_VW9 => ?_
    have n_kt := congrArg (fun v : World => v.heap[tb]?) hV_VW9
    simp (maxDischargeDepth := 9) only [BK, not_false_eq_true, reduceCtorEq, kt, l_kt_w, l_kt_VW1, l_kt_W1, l_kt_VW2, l_kt_W2, l_kt_VW3, l_kt_W3, l_kt_VW4, l_kt_W4, l_kt_VW5, l_kt_W5, l_kt_VW6, l_kt_W6, l_kt_VW7, l_kt_W7, l_kt_VW8, l_kt_W8] at n_kt
    have n_F : Fr ((oneX tb)) O O4 w VW9 := nF hV_VW9
    have n_A : AP VW9 ap ((((((t.opened x).opened (t.s.get x).k1).lpair (t.s.get x).k0 ((t.opened x).s.get (t.s.get x).k1).k0).2).lpair ((t.opened x).s.get (t.s.get x).k1).k1 y).2).s O4 := nA hV_VW9
    have z_VW9 := Nat.le_of_eq (congrArg (fun v : World => v.heap.size) hV_VW9).symm
    try simp only [SZ] at z_VW9
    clear kt c_kt f_kt
    clear hV_VW9
    clear hA
    have hA := n_A
    clear n_A
    clear hF
    have hF := n_F
    clear n_F
    have kt := n_kt; clear n_kt
    have c_kt := cells_of kt
    have f_kt := free_of kt
    have l_kt_VW9 := lt_of kt
    refine (lPair_calls (t := ((((t.opened x).opened (t.s.get x).k1).lpair (t.s.get x).k0 ((t.opened x).s.get (t.s.get x).k1).k0).2.lpair ((t.opened x).s.get (t.s.get x).k1).k1 y).2) _ _ _ ⟨hA, kt, o_kt⟩).mono ?_
    rintro e_W9 W9 ⟨rfl, O5, hT_W9, hf_W9⟩
    clear kt c_kt f_kt o_kt; have kt := hT_W9.blk; have o_kt := hT_W9.no
    have c_kt := cells_of kt
    have f_kt := free_of kt
    have l_kt_W9 := lt_of kt
    replace hF := hF.trans hf_W9
    have z_W9 := hf_W9.size
    clear hA hf_W9; have hA := hT_W9.hA; clear hT_W9
    go_wp2_with fail
    go_ret
    exact ⟨rfl, O5, ⟨hA, kt, o_kt⟩, hF⟩
  ·
   have d2 : decide (wrap64 (q + 1) < p) = false := by simpa using c1
   rw [if_neg c1] at hr
   clear c1
   by_cases c3 : wrap64 (p + 1) < q
   ·
    have d4 : decide (wrap64 (p + 1) < q) = true := by simpa using c3
    rw [if_pos c3] at hr
    clear c3
    dsimp only at hr
    obtain ⟨a, h_b, h_r⟩ := Option.bind_eq_some_iff.1 hr
    have Ha := Lib.hid h_b; clear h_b hr; have hr := h_r; clear h_r
    obtain ⟨b, h_b, h_r⟩ := Option.bind_eq_some_iff.1 hr
    have Hb := Lib.hid h_b; clear h_b hr; have hr := h_r; clear h_r
    by_cases c2 : b ≤ a
    ·
     have d3 : decide (b ≤ a) = true := by simpa using c2
     rw [if_pos c2] at hr
     clear c2
     obtain rfl := Option.some.inj hr
     clear hr
     go_enter Try.func61, Try.ntmps61
     have hA := hT.hA
     have kt := hT.blk
     have o_kt := hT.no
     have c_kt := cells_of kt
     have f_kt := free_of kt
     have l_kt_w := lt_of kt
     go_wp2_with fail
     refine calls_gen fun VW1 hV_VW1 => ?_
     have n_kt := congrArg (fun v : World => v.heap[tb]?) hV_VW1
     simp (maxDischargeDepth := 9) only [BK, not_false_eq_true, reduceCtorEq, kt, l_kt_w] at n_kt
     have n_F : Fr ((oneX tb)) O O w VW1 := nF hV_VW1
     have n_A : AP VW1 ap t.s O := nA hV_VW1
     have z_VW1 := Nat.le_of_eq (congrArg (fun v : World => v.heap.size) hV_VW1).symm
     try simp only [SZ] at z_VW1
     clear kt c_kt f_kt
     clear hV_VW1
     clear hA
     have hA := n_A
     clear n_A
     skip
     have hF := n_F
     clear n_F
     have kt := n_kt; clear n_kt
     have c_kt := cells_of kt
     have f_kt := free_of kt
     have l_kt_VW1 := lt_of kt
     refine (lHigh_calls (t := t) _ _ _ _ Hp.out ⟨hA, kt, o_kt⟩).mono ?_
     rintro e_W1 W1 ⟨rfl, hb_W1⟩
     replace hA := hA.below hb_W1
     replace hF := hF.below hb_W1
     replace kt := keep_blk hb_W1 kt
     have c_kt := cells_of kt
     have f_kt := free_of kt
     have l_kt_W1 := lt_of kt
     have z_W1 := hb_W1.size
     clear hb_W1
     go_wp2_with fail
     refine calls_gen fun VW2 hV_VW2 => ?_
     have n_kt := congrArg (fun v : World => v.heap[tb]?) hV_VW2
     simp (maxDischargeDepth := 9) only [BK, not_false_eq_true, reduceCtorEq, kt, l_kt_w, l_kt_VW1, l_kt_W1] at n_kt
     have n_F : Fr ((oneX tb)) O O w VW2 := nF hV_VW2
     have n_A : AP VW2 ap t.s O := nA hV_VW2
     have z_VW2 := Nat.le_of_eq (congrArg (fun v : World => v.heap.size) hV_VW2).symm
     try simp only [SZ] at z_VW2
     clear kt c_kt f_kt
     clear hV_VW2
     clear hA
     have hA := n_A
     clear n_A
     clear hF
     have hF := n_F
     clear n_F
     have kt := n_kt; clear n_kt
     have c_kt := cells_of kt
     have f_kt := free_of kt
     have l_kt_VW2 := lt_of kt
     refine (lHigh_calls (t := t) _ _ _ _ Hq.out ⟨hA, kt, o_kt⟩).mono ?_
     rintro e_W2 W2 ⟨rfl, hb_W2⟩
     replace hA := hA.below hb_W2
     replace hF := hF.below hb_W2
     replace kt := keep_blk hb_W2 kt
     have c_kt := cells_of kt
     have f_kt := free_of kt
     have l_kt_W2 := lt_of kt
     have z_W2 := hb_W2.size
     clear hb_W2
     go_wp2_with fail
     refine calls_gen fun VW3 hV_VW3 => ?_
     have n_kt := congrArg (fun v : World => v.heap[tb]?) hV_VW3
     simp (maxDischargeDepth := 9) only [BK, not_false_eq_true, reduceCtorEq, kt, l_kt_w, l_kt_VW1, l_kt_W1, l_kt_VW2, l_kt_W2] at n_kt
     have n_F : Fr ((oneX tb)) O O w VW3 := nF hV_VW3
     have n_A : AP VW3 ap t.s O := nA hV_VW3
     have z_VW3 := Nat.le_of_eq (congrArg (fun v : World => v.heap.size) hV_VW3).symm
     try simp only [SZ] at z_VW3
     clear kt c_kt f_kt
     clear hV_VW3
     clear hA
     have hA := n_A
     clear n_A
     clear hF
     have hF := n_F
     clear n_F
     have kt := n_kt; clear n_kt
     have c_kt := cells_of kt
     have f_kt := free_of kt
     have l_kt_VW3 := lt_of kt
     refine (lOpen_calls (t := t) y _ ⟨hA, kt, o_kt⟩).mono ?_
     rintro e_W3 W3 ⟨rfl, O1, hT_W3, hf_W3⟩
     clear kt c_kt f_kt o_kt; have kt := hT_W3.blk; have o_kt := hT_W3.no
     have c_kt := cells_of kt
     have f_kt := free_of kt
     have l_kt_W3 := lt_of kt
     replace hF := hF.trans hf_W3
     have z_W3 := hf_W3.size
     clear hA hf_W3; have hA := hT_W3.hA; clear hT_W3
     go_wp2_with fail
     refine calls_gen fun VW4 hV_VW4 => ?_
     have n_kt := congrArg (fun v : World => v.heap[tb]?) hV_VW4
     simp (maxDischargeDepth := 9) only [BK, not_false_eq_true, reduceCtorEq, kt, l_kt_w, l_kt_VW1, l_kt_W1, l_kt_VW2, l_kt_W2, l_kt_VW3, l_kt_W3] at n_kt
     have n_F : Fr ((oneX tb)) O O1 w VW4 := nF hV_VW4
     have n_A : AP VW4 ap ((t).opened y).s O1 := nA hV_VW4
     have z_VW4 := Nat.le_of_eq (congrArg (fun v : World => v.heap.size) hV_VW4).symm
     try simp only [SZ] at z_VW4
     clear kt c_kt f_kt
     clear hV_VW4
     clear hA
     have hA := n_A
     clear n_A
     clear hF
     have hF := n_F
     clear n_F
     have kt := n_kt; clear n_kt
     have c_kt := cells_of kt
     have f_kt := free_of kt
     have l_kt_VW4 := lt_of kt
     refine (lHigh_calls (t := t.opened y) _ _ _ _ Ha.out ⟨hA, kt, o_kt⟩).mono ?_
     rintro e_W4 W4 ⟨rfl, hb_W4⟩
     replace hA := hA.below hb_W4
     replace hF := hF.below hb_W4
     replace kt := keep_blk hb_W4 kt
     have c_kt := cells_of kt
     have f_kt := free_of kt
     have l_kt_W4 := lt_of kt
     have z_W4 := hb_W4.size
     clear hb_W4
     go_wp2_with fail
     refine calls_gen fun VW5 hV_VW5 => ?_
     have n_kt := congrArg (fun v : World => v.heap[tb]?) hV_VW5
     simp (maxDischargeDepth := 9) only [BK, not_false_eq_true, reduceCtorEq, kt, l_kt_w, l_kt_VW1, l_kt_W1, l_kt_VW2, l_kt_W2, l_kt_VW3, l_kt_W3, l_kt_VW4, l_kt_W4] at n_kt
     have n_F : Fr ((oneX tb)) O O1 w VW5 := nF hV_VW5
     have n_A : AP VW5 ap ((t).opened y).s O1 := nA hV_VW5
     have z_VW5 := Nat.le_of_eq (congrArg (fun v : World => v.heap.size) hV_VW5).symm
     try simp only [SZ] at z_VW5
     clear kt c_kt f_kt
     clear hV_VW5
     clear hA
     have hA := n_A
     clear n_A
     clear hF
     have hF := n_F
     clear n_F
     have kt := n_kt; clear n_kt
     have c_kt := cells_of kt
     have f_kt := free_of kt
     have l_kt_VW5 := lt_of kt
     refine (lHigh_calls (t := t.opened y) _ _ _ _ Hb.out ⟨hA, kt, o_kt⟩).mono ?_
     rintro e_W5 W5 ⟨rfl, hb_W5⟩
     replace hA := hA.below hb_W5
     replace hF := hF.below hb_W5
     replace kt := keep_blk hb_W5 kt
     have c_kt := cells_of kt
     have f_kt := free_of kt
     have l_kt_W5 := lt_of kt
     have z_W5 := hb_W5.size
     clear hb_W5
     go_wp2_with fail
     refine calls_gen fun VW6 hV_VW6 => ?_
     have n_kt := congrArg (fun v : World => v.heap[tb]?) hV_VW6
     simp (maxDischargeDepth := 9) only [BK, not_false_eq_true, reduceCtorEq, kt, l_kt_w, l_kt_VW1, l_kt_W1, l_kt_VW2, l_kt_W2, l_kt_VW3, l_kt_W3, l_kt_VW4, l_kt_W4, l_kt_VW5, l_kt_W5] at n_kt
     have n_F : Fr ((oneX tb)) O O1 w VW6 := nF hV_VW6
     have n_A : AP VW6 ap ((t).opened y).s O1 := nA hV_VW6
     have z_VW6 := Nat.le_of_eq (congrArg (fun v : World => v.heap.size) hV_VW6).symm
     try simp only [SZ] at z_VW6
     clear kt c_kt f_kt
     clear hV_VW6
     clear hA
     have hA := n_A
     clear n_A
     clear hF
     have hF := n_F
     clear n_F
     have kt := n_kt; clear n_kt
     have c_kt := cells_of kt
     have f_kt := free_of kt
     have l_kt_VW6 := lt_of kt
     refine (lPair_calls (t := t.opened y) _ _ _ ⟨hA, kt, o_kt⟩).mono ?_
     rintro e_W6 W6 ⟨rfl, O2, hT_W6, hf_W6⟩
     clear kt c_kt f_kt o_kt; have kt := hT_W6.blk; have o_kt := hT_W6.no
     have c_kt := cells_of kt
     have f_kt := free_of kt
     have l_kt_W6 := lt_of kt
     replace hF := hF.trans hf_W6
     have z_W6 := hf_W6.size
     clear hA hf_W6; have hA := hT_W6.hA; clear hT_W6
     go_wp2_with fail
     refine calls_gen fun VW7 hV_VW7 => ?_
     have n_kt := congrArg (fun v : World => v.heap[tb]?) hV_VW7
     simp (maxDischargeDepth := 9) only [BK, not_false_eq_true, reduceCtorEq, kt, l_kt_w, l_kt_VW1, l_kt_W1, l_kt_VW2, l_kt_W2, l_kt_VW3, l_kt_W3, l_kt_VW4, l_kt_W4, l_kt_VW5, l_kt_W5, l_kt_VW6, l_kt_W6] at n_kt
     have n_F : Fr ((oneX tb)) O O2 w VW7 := nF hV_VW7
     have n_A : AP VW7 ap (((t.opened y).lpair x (t.s.get y).k0).2).s O2 := nA hV_VW7
     have z_VW7 := Nat.le_of_eq (congrArg (fun v : World => v.heap.size) hV_VW7).symm
     try simp only [SZ] at z_VW7
     clear kt c_kt f_kt
     clear hV_VW7
     clear hA
     have hA := n_A
     clear n_A
     clear hF
     have hF := n_F
     clear n_F
     have kt := n_kt; clear n_kt
     have c_kt := cells_of kt
     have f_kt := free_of kt
     have l_kt_VW7 := lt_of kt
     refine (lPair_calls (t := ((t.opened y).lpair x (t.s.get y).k0).2) _ _ _ ⟨hA, kt, o_kt⟩).mono ?_
     rintro e_W7 W7 ⟨rfl, O3, hT_W7, hf_W7⟩
     clear kt c_kt f_kt o_kt; have kt := hT_W7.blk; have o_kt := hT_W7.no
     have c_kt := cells_of kt
     have f_kt := free_of kt
     have l_kt_W7 := lt_of kt
     replace hF := hF.trans hf_W7
     have z_W7 := hf_W7.size
     clear hA hf_W7; have hA := hT_W7.hA; clear hT_W7
     go_wp2_with fail
     go_ret
     exact ⟨rfl, O3, ⟨hA, kt, o_kt⟩, hF⟩
    ·
     have d3 : decide (b ≤ a) = false := by simpa using c2
     rw [if_neg c2] at hr
     clear c2
     obtain rfl := Option.some.inj hr
     clear hr
     go_enter Try.func61, Try.ntmps61
     have hA := hT.hA
     have kt := hT.blk
     have o_kt := hT.no
     have c_kt := cells_of kt
     have f_kt := free_of kt
     have l_kt_w := lt_of kt
     go_wp2_with fail
     refine calls_gen fun VW1 hV_VW1 => ?_
     have n_kt := congrArg (fun v : World => v.heap[tb]?) hV_VW1
     simp (maxDischargeDepth := 9) only [BK, not_false_eq_true, reduceCtorEq, kt, l_kt_w] at n_kt
     have n_F : Fr ((oneX tb)) O O w VW1 := nF hV_VW1
     have n_A : AP VW1 ap t.s O := nA hV_VW1
     have z_VW1 := Nat.le_of_eq (congrArg (fun v : World => v.heap.size) hV_VW1).symm
     try simp only [SZ] at z_VW1
     clear kt c_kt f_kt
     clear hV_VW1
     clear hA
     have hA := n_A
     clear n_A
     skip
     have hF := n_F
     clear n_F
     have kt := n_kt; clear n_kt
     have c_kt := cells_of kt
     have f_kt := free_of kt
     have l_kt_VW1 := lt_of kt
     refine (lHigh_calls (t := t) _ _ _ _ Hp.out ⟨hA, kt, o_kt⟩).mono ?_
     rintro e_W1 W1 ⟨rfl, hb_W1⟩
     replace hA := hA.below hb_W1
     replace hF := hF.below hb_W1
     replace kt := keep_blk hb_W1 kt
     have c_kt := cells_of kt
     have f_kt := free_of kt
     have l_kt_W1 := lt_of kt
     have z_W1 := hb_W1.size
     clear hb_W1
     go_wp2_with fail
     refine calls_gen fun VW2 hV_VW2 => ?_
     have n_kt := congrArg (fun v : World => v.heap[tb]?) hV_VW2
     simp (maxDischargeDepth := 9) only [BK, not_false_eq_true, reduceCtorEq, kt, l_kt_w, l_kt_VW1, l_kt_W1] at n_kt
     have n_F : Fr ((oneX tb)) O O w VW2 := nF hV_VW2
     have n_A : AP VW2 ap t.s O := nA hV_VW2
     have z_VW2 := Nat.le_of_eq (congrArg (fun v : World => v.heap.size) hV_VW2).symm
     try simp only [SZ] at z_VW2
     clear kt c_kt f_kt
     clear hV_VW2
     clear hA
     have hA := n_A
     clear n_A
     clear hF
     have hF := n_F
     clear n_F
     have kt := n_kt; clear n_kt
     have c_kt := cells_of kt
     have f_kt := free_of kt
     have l_kt_VW2 := lt_of kt
     refine (lHigh_calls (t := t) _ _ _ _ Hq.out ⟨hA, kt, o_kt⟩).mono ?_
     rintro e_W2 W2 ⟨rfl, hb_W2⟩
     replace hA := hA.below hb_W2
     replace hF := hF.below hb_W2
     replace kt := keep_blk hb_W2 kt
     have c_kt := cells_of kt
     have f_kt := free_of kt
     have l_kt_W2 := lt_of kt
     have z_W2 := hb_W2.size
     clear hb_W2
     go_wp2_with fail
     refine calls_gen fun VW3 hV_VW3 => ?_
     have n_kt := congrArg (fun v : World => v.heap[tb]?) hV_VW3
     simp (maxDischargeDepth := 9) only [BK, not_false_eq_true, reduceCtorEq, kt, l_kt_w, l_kt_VW1, l_kt_W1, l_kt_VW2, l_kt_W2] at n_kt
     have n_F : Fr ((oneX tb)) O O w VW3 := nF hV_VW3
     have n_A : AP VW3 ap t.s O := nA hV_VW3
     have z_VW3 := Nat.le_of_eq (congrArg (fun v : World => v.heap.size) hV_VW3).symm
     try simp only [SZ] at z_VW3
     clear kt c_kt f_kt
     clear hV_VW3
     clear hA
     have hA := n_A
     clear n_A
     clear hF
     have hF := n_F
     clear n_F
     have kt := n_kt; clear n_kt
     have c_kt := cells_of kt
     have f_kt := free_of kt
     have l_kt_VW3 := lt_of kt
     refine (lOpen_calls (t := t) y _ ⟨hA, kt, o_kt⟩).mono ?_
     rintro e_W3 W3 ⟨rfl, O1, hT_W3, hf_W3⟩
     clear kt c_kt f_kt o_kt; have kt := hT_W3.blk; have o_kt := hT_W3.no
     have c_kt := cells_of kt
     have f_kt := free_of kt
     have l_kt_W3 := lt_of kt
     replace hF := hF.trans hf_W3
     have z_W3 := hf_W3.size
     clear hA hf_W3; have hA := hT_W3.hA; clear hT_W3
     go_wp2_with fail
     refine calls_gen fun VW4 hV_VW4 => ?_
     have n_kt := congrArg (fun v : World => v.heap[tb]?) hV_VW4
     simp (maxDischargeDepth := 9) only [BK, not_false_eq_true, reduceCtorEq, kt, l_kt_w, l_kt_VW1, l_kt_W1, l_kt_VW2, l_kt_W2, l_kt_VW3, l_kt_W3] at n_kt
     have n_F : Fr ((oneX tb)) O O1 w VW4 := nF hV_VW4
     have n_A : AP VW4 ap ((t).opened y).s O1 := nA hV_VW4
     have z_VW4 := Nat.le_of_eq (congrArg (fun v : World => v.heap.size) hV_VW4).symm
     try simp only [SZ] at z_VW4
     clear kt c_kt f_kt
     clear hV_VW4
     clear hA
     have hA := n_A
     clear n_A
     clear hF
     have hF := n_F
     clear n_F
     have kt := n_kt; clear n_kt
     have c_kt := cells_of kt
     have f_kt := free_of kt
     have l_kt_VW4 := lt_of kt
     refine (lHigh_calls (t := t.opened y) _ _ _ _ Ha.out ⟨hA, kt, o_kt⟩).mono ?_
     rintro e_W4 W4 ⟨rfl, hb_W4⟩
     replace hA := hA.below hb_W4
     replace hF := hF.below hb_W4
     replace kt := keep_blk hb_W4 kt
     have c_kt := cells_of kt
     have f_kt := free_of kt
     have l_kt_W4 := lt_of kt
     have z_W4 := hb_W4.size
     clear hb_W4
     go_wp2_with fail
     refine calls_gen fun VW5 hV_VW5 => ?_
     have n_kt := congrArg (fun v : World => v.heap[tb]?) hV_VW5
     simp (maxDischargeDepth := 9) only [BK, not_false_eq_true, reduceCtorEq, kt, l_kt_w, l_kt_VW1, l_kt_W1, l_kt_VW2, l_kt_W2, l_kt_VW3, l_kt_W3, l_kt_VW4, l_kt_W4] at n_kt
     have n_F : Fr ((oneX tb)) O O1 w VW5 := nF hV_VW5
     have n_A : AP VW5 ap ((t).opened y).s O1 := nA hV_VW5
     have z_VW5 := Nat.le_of_eq (congrArg (fun v : World => v.heap.size) hV_VW5).symm
     try simp only [SZ] at z_VW5
     clear kt c_kt f_kt
     clear hV_VW5
     clear hA
     have hA := n_A
     clear n_A
     clear hF
     have hF := n_F
     clear n_F
     have kt := n_kt; clear n_kt
     have c_kt := cells_of kt
     have f_kt := free_of kt
     have l_kt_VW5 := lt_of kt
     refine (lHigh_calls (t := t.opened y) _ _ _ _ Hb.out ⟨hA, kt, o_kt⟩).mono ?_
     rintro e_W5 W5 ⟨rfl, hb_W5⟩
     replace hA := hA.below hb_W5
     replace hF := hF.below hb_W5
     replace kt := keep_blk hb_W5 kt
     have c_kt := cells_of kt
     have f_kt := free_of kt
     have l_kt_W5 := lt_of kt
     have z_W5 := hb_W5.size
     clear hb_W5
     go_wp2_with fail
     refine calls_gen fun VW6 hV_VW6 => ?_
     have n_kt := congrArg (fun v : World => v.heap[tb]?) hV_VW6
     simp (maxDischargeDepth := 9) only [BK, not_false_eq_true, reduceCtorEq, kt, l_kt_w, l_kt_VW1, l_kt_W1, l_kt_VW2, l_kt_W2, l_kt_VW3, l_kt_W3, l_kt_VW4, l_kt_W4, l_kt_VW5, l_kt_W5] at n_kt
     have n_F : Fr ((oneX tb)) O O1 w VW6 := nF hV_VW6
     have n_A : AP VW6 ap ((t).opened y).s O1 := nA hV_VW6
     have z_VW6 := Nat.le_of_eq (congrArg (fun v : World => v.heap.size) hV_VW6).symm
     try simp only [SZ] at z_VW6
     clear kt c_kt f_kt
     clear hV_VW6
     clear hA
     have hA := n_A
     clear n_A
     clear hF
     have hF := n_F
     clear n_F
     have kt := n_kt; clear n_kt
     have c_kt := cells_of kt
     have f_kt := free_of kt
     have l_kt_VW6 := lt_of kt
     refine (lOpen_calls (t := t.opened y) (t.s.get y).k0 _ ⟨hA, kt, o_kt⟩).mono ?_
     rintro e_W6 W6 ⟨rfl, O2, hT_W6, hf_W6⟩
     clear kt c_kt f_kt o_kt; have kt := hT_W6.blk; have o_kt := hT_W6.no
     have c_kt := cells_of kt
     have f_kt := free_of kt
     have l_kt_W6 := lt_of kt
     replace hF := hF.trans hf_W6
     have z_W6 := hf_W6.size
     clear hA hf_W6; have hA := hT_W6.hA; clear hT_W6
     go_wp2_with fail
     refine calls_gen fun VW7 hV_VW7 => ?_
     have n_kt := congrArg (fun v : World => v.heap[tb]?) hV_VW7
     simp (maxDischargeDepth := 9) only [BK, not_false_eq_true, reduceCtorEq, kt, l_kt_w, l_kt_VW1, l_kt_W1, l_kt_VW2, l_kt_W2, l_kt_VW3, l_kt_W3, l_kt_VW4, l_kt_W4, l_kt_VW5, l_kt_W5, l_kt_VW6, l_kt_W6] at n_kt
     have n_F : Fr ((oneX tb)) O O2 w VW7 := nF hV_VW7
     have n_A : AP VW7 ap ((t.opened y).opened (t.s.get y).k0).s O2 := nA hV_VW7
     have z_VW7 := Nat.le_of_eq (congrArg (fun v : World => v.heap.size) hV_VW7).symm
     try simp only [SZ] at z_VW7
     clear kt c_kt f_kt
     clear hV_VW7
     clear hA
     have hA := n_A
     clear n_A
     clear hF
     have hF := n_F
     clear n_F
     have kt := n_kt; clear n_kt
     have c_kt := cells_of kt
     have f_kt := free_of kt
     have l_kt_VW7 := lt_of kt
     refine (lPair_calls (t := (t.opened y).opened (t.s.get y).k0) _ _ _ ⟨hA, kt, o_kt⟩).mono ?_
     rintro e_W7 W7 ⟨rfl, O3, hT_W7, hf_W7⟩
     clear kt c_kt f_kt o_kt; have kt := hT_W7.blk; have o_kt := hT_W7.no
     have c_kt := cells_of kt
     have f_kt := free_of kt
     have l_kt_W7 := lt_of kt
     replace hF := hF.trans hf_W7
     have z_W7 := hf_W7.size
     clear hA hf_W7; have hA := hT_W7.hA; clear hT_W7
     go_wp2_with fail
     refine calls_gen fun VW8 hV_VW8 => ?_
     have n_kt := congrArg (fun v : World => v.heap[tb]?) hV_VW8
     simp (maxDischargeDepth := 9) only [BK, not_false_eq_true, reduceCtorEq, kt, l_kt_w, l_kt_VW1, l_kt_W1, l_kt_VW2, l_kt_W2, l_kt_VW3, l_kt_W3, l_kt_VW4, l_kt_W4, l_kt_VW5, l_kt_W5, l_kt_VW6, l_kt_W6, l_kt_VW7, l_kt_W7] at n_kt
     have n_F : Fr ((oneX tb)) O O3 w VW8 := nF hV_VW8
     have n_A : AP VW8 ap ((((t.opened y).opened (t.s.get y).k0).lpair x ((t.opened y).s.get (t.s.get y).k0).k0).2).s O3 := nA hV_VW8
     have z_VW8 := Nat.le_of_eq (congrArg (fun v : World => v.heap.size) hV_VW8).symm
     try simp only [SZ] at z_VW8
     clear kt c_kt f_kt
     clear hV_VW8
     clear hA
     have hA := n_A
     clear n_A
     clear hF
     have hF := n_F
     clear n_F
     have kt := n_kt; clear n_kt
     have c_kt := cells_of kt
     have f_kt := free_of kt
     have l_kt_VW8 := lt_of kt
     refine (lPair_calls (t := (((t.opened y).opened (t.s.get y).k0).lpair x ((t.opened y).s.get (t.s.get y).k0).k0).2) _ _ _ ⟨hA, kt, o_kt⟩).mono ?_
     rintro e_W8 W8 ⟨rfl, O4, hT_W8, hf_W8⟩
     clear kt c_kt f_kt o_kt; have kt := hT_W8.blk; have o_kt := hT_W8.no
     have c_kt := cells_of kt
     have f_kt := free_of kt
     have l_kt_W8 := lt_of kt
     replace hF := hF.trans hf_W8
     have z_W8 := hf_W8.size
     clear hA hf_W8; have hA := hT_W8.hA; clear hT_W8
     go_wp2_with fail
     refine calls_gen fun VW9 hV_VW9 => ?_
     have n_kt := congrArg (fun v : World => v.heap[tb]?) hV_VW9
     simp (maxDischargeDepth := 9) only [BK, not_false_eq_true, reduceCtorEq, kt, l_kt_w, l_kt_VW1, l_kt_W1, l_kt_VW2, l_kt_W2, l_kt_VW3, l_kt_W3, l_kt_VW4, l_kt_W4, l_kt_VW5, l_kt_W5, l_kt_VW6, l_kt_W6, l_kt_VW7, l_kt_W7, l_kt_VW8, l_kt_W8] at n_kt
     have n_F : Fr ((oneX tb)) O O4 w VW9 := nF hV_VW9
     have n_A : AP VW9 ap ((((((t.opened y).opened (t.s.get y).k0).lpair x ((t.opened y).s.get (t.s.get y).k0).k0).2).lpair ((t.opened y).s.get (t.s.get y).k0).k1 (t.s.get y).k1).2).s O4 := nA hV_VW9
     have z_VW9 := Nat.le_of_eq (congrArg (fun v : World => v.heap.size) hV_VW9).symm
     try simp only [SZ] at z_VW9
     clear kt c_kt f_kt
     clear hV_VW9
     clear hA
     have hA := n_A
     clear n_A
     clear hF
     have hF := n_F
     clear n_F
     have kt := n_kt; clear n_kt
     have c_kt := cells_of kt
     have f_kt := free_of kt
     have l_kt_VW9 := lt_of kt
     refine (lPair_calls (t := ((((t.opened y).opened (t.s.get y).k0).lpair x ((t.opened y).s.get (t.s.get y).k0).k0).2.lpair ((t.opened y).s.get (t.s.get y).k0).k1 (t.s.get y).k1).2) _ _ _ ⟨hA, kt, o_kt⟩).mono ?_
     rintro e_W9 W9 ⟨rfl, O5, hT_W9, hf_W9⟩
     clear kt c_kt f_kt o_kt; have kt := hT_W9.blk; have o_kt := hT_W9.no
     have c_kt := cells_of kt
     have f_kt := free_of kt
     have l_kt_W9 := lt_of kt
     replace hF := hF.trans hf_W9
     have z_W9 := hf_W9.size
     clear hA hf_W9; have hA := hT_W9.hA; clear hT_W9
     go_wp2_with fail
     go_ret
     exact ⟨rfl, O5, ⟨hA, kt, o_kt⟩, hF⟩
   ·
    have d4 : decide (wrap64 (p + 1) < q) = false := by simpa using c3
    rw [if_neg c3] at hr
    clear c3
    obtain rfl := Option.some.inj hr
    clear hr
    go_enter Try.func61, Try.ntmps61
    have hA := hT.hA
    have kt := hT.blk
    have o_kt := hT.no
    have c_kt := cells_of kt
    have f_kt := free_of kt
    have l_kt_w := lt_of kt
    go_wp2_with fail
    refine calls_gen fun VW1 hV_VW1 => ?_
    have n_kt := congrArg (fun v : World => v.heap[tb]?) hV_VW1
    simp (maxDischargeDepth := 9) only [BK, not_false_eq_true, reduceCtorEq, kt, l_kt_w] at n_kt
    have n_F : Fr ((oneX tb)) O O w VW1 := nF hV_VW1
    have n_A : AP VW1 ap t.s O := nA hV_VW1
    have z_VW1 := Nat.le_of_eq (congrArg (fun v : World => v.heap.size) hV_VW1).symm
    try simp only [SZ] at z_VW1
    clear kt c_kt f_kt
    clear hV_VW1
    clear hA
    have hA := n_A
    clear n_A
    skip
    have hF := n_F
    clear n_F
    have kt := n_kt; clear n_kt
    have c_kt := cells_of kt
    have f_kt := free_of kt
    have l_kt_VW1 := lt_of kt
    refine (lHigh_calls (t := t) _ _ _ _ Hp.out ⟨hA, kt, o_kt⟩).mono ?_
    rintro e_W1 W1 ⟨rfl, hb_W1⟩
    replace hA := hA.below hb_W1
    replace hF := hF.below hb_W1
    replace kt := keep_blk hb_W1 kt
    have c_kt := cells_of kt
    have f_kt := free_of kt
    have l_kt_W1 := lt_of kt
    have z_W1 := hb_W1.size
    clear hb_W1
    go_wp2_with fail
    refine calls_gen fun VW2 hV_VW2 => ?_
    have n_kt := congrArg (fun v : World => v.heap[tb]?) hV_VW2
    simp (maxDischargeDepth := 9) only [BK, not_false_eq_true, reduceCtorEq, kt, l_kt_w, l_kt_VW1, l_kt_W1] at n_kt
    have n_F : Fr ((oneX tb)) O O w VW2 := nF hV_VW2
    have n_A : AP VW2 ap t.s O := nA hV_VW2
    have z_VW2 := Nat.le_of_eq (congrArg (fun v : World => v.heap.size) hV_VW2).symm
    try simp only [SZ] at z_VW2
    clear kt c_kt f_kt
    clear hV_VW2
    clear hA
    have hA := n_A
    clear n_A
    clear hF
    have hF := n_F
    clear n_F
    have kt := n_kt; clear n_kt
    have c_kt := cells_of kt
    have f_kt := free_of kt
    have l_kt_VW2 := lt_of kt
    refine (lHigh_calls (t := t) _ _ _ _ Hq.out ⟨hA, kt, o_kt⟩).mono ?_
    rintro e_W2 W2 ⟨rfl, hb_W2⟩
    replace hA := hA.below hb_W2
    replace hF := hF.below hb_W2
    replace kt := keep_blk hb_W2 kt
    have c_kt := cells_of kt
    have f_kt := free_of kt
    have l_kt_W2 := lt_of kt
    have z_W2 := hb_W2.size
    clear hb_W2
    go_wp2_with fail
    refine calls_gen fun VW3 hV_VW3 => ?_
    have n_kt := congrArg (fun v : World => v.heap[tb]?) hV_VW3
    simp (maxDischargeDepth := 9) only [BK, not_false_eq_true, reduceCtorEq, kt, l_kt_w, l_kt_VW1, l_kt_W1, l_kt_VW2, l_kt_W2] at n_kt
    have n_F : Fr ((oneX tb)) O O w VW3 := nF hV_VW3
    have n_A : AP VW3 ap t.s O := nA hV_VW3
    have z_VW3 := Nat.le_of_eq (congrArg (fun v : World => v.heap.size) hV_VW3).symm
    try simp only [SZ] at z_VW3
    clear kt c_kt f_kt
    clear hV_VW3
    clear hA
    have hA := n_A
    clear n_A
    clear hF
    have hF := n_F
    clear n_F
    have kt := n_kt; clear n_kt
    have c_kt := cells_of kt
    have f_kt := free_of kt
    have l_kt_VW3 := lt_of kt
    refine (lPair_calls (t := t) _ _ _ ⟨hA, kt, o_kt⟩).mono ?_
    rintro e_W3 W3 ⟨rfl, O1, hT_W3, hf_W3⟩
    clear kt c_kt f_kt o_kt; have kt := hT_W3.blk; have o_kt := hT_W3.no
    have c_kt := cells_of kt
    have f_kt := free_of kt
    have l_kt_W3 := lt_of kt
    replace hF := hF.trans hf_W3
    have z_W3 := hf_W3.size
    clear hA hf_W3; have hA := hT_W3.hA; clear hT_W3
    go_wp2_with fail
    go_ret
    exact ⟨rfl, O1, ⟨hA, kt, o_kt⟩, hF⟩
 ·
  have d1 : (t.e != 0) = true := by simp [he]
  rw [if_neg he] at hr
  clear he
  obtain rfl := Option.some.inj hr
  clear hr
  go_enter Try.func61, Try.ntmps61
  have hA := hT.hA
  have kt := hT.blk
  have o_kt := hT.no
  have c_kt := cells_of kt
  have f_kt := free_of kt
  have l_kt_w := lt_of kt
  go_wp2_with fail
  refine calls_gen fun VW1 hV_VW1 => ?_
  have n_kt := congrArg (fun v : World => v.heap[tb]?) hV_VW1
  simp (maxDischargeDepth := 9) only [BK, not_false_eq_true, reduceCtorEq, kt, l_kt_w] at n_kt
  have n_F : Fr ((oneX tb)) O O w VW1 := nF hV_VW1
  have n_A : AP VW1 ap t.s O := nA hV_VW1
  have z_VW1 := Nat.le_of_eq (congrArg (fun v : World => v.heap.size) hV_VW1).symm
  try simp only [SZ] at z_VW1
  clear kt c_kt f_kt
  clear hV_VW1
  clear hA
  have hA := n_A
  clear n_A
  skip
  have hF := n_F
  clear n_F
  have kt := n_kt; clear n_kt
  have c_kt := cells_of kt
  have f_kt := free_of kt
  have l_kt_VW1 := lt_of kt
  refine (lHigh_calls (t := t) _ _ _ _ Hp.out ⟨hA, kt, o_kt⟩).mono ?_
  rintro e_W1 W1 ⟨rfl, hb_W1⟩
  replace hA := hA.below hb_W1
  replace hF := hF.below hb_W1
  replace kt := keep_blk hb_W1 kt
  have c_kt := cells_of kt
  have f_kt := free_of kt
  have l_kt_W1 := lt_of kt
  have z_W1 := hb_W1.size
  clear hb_W1
  go_wp2_with fail
  refine calls_gen fun VW2 hV_VW2 => ?_
  have n_kt := congrArg (fun v : World => v.heap[tb]?) hV_VW2
  simp (maxDischargeDepth := 9) only [BK, not_false_eq_true, reduceCtorEq, kt, l_kt_w, l_kt_VW1, l_kt_W1] at n_kt
  have n_F : Fr ((oneX tb)) O O w VW2 := nF hV_VW2
  have n_A : AP VW2 ap t.s O := nA hV_VW2
  have z_VW2 := Nat.le_of_eq (congrArg (fun v : World => v.heap.size) hV_VW2).symm
  try simp only [SZ] at z_VW2
  clear kt c_kt f_kt
  clear hV_VW2
  clear hA
  have hA := n_A
  clear n_A
  clear hF
  have hF := n_F
  clear n_F
  have kt := n_kt; clear n_kt
  have c_kt := cells_of kt
  have f_kt := free_of kt
  have l_kt_VW2 := lt_of kt
  refine (lHigh_calls (t := t) _ _ _ _ Hq.out ⟨hA, kt, o_kt⟩).mono ?_
  rintro e_W2 W2 ⟨rfl, hb_W2⟩
  replace hA := hA.below hb_W2
  replace hF := hF.below hb_W2
  replace kt := keep_blk hb_W2 kt
  have c_kt := cells_of kt
  have f_kt := free_of kt
  have l_kt_W2 := lt_of kt
  have z_W2 := hb_W2.size
  clear hb_W2
  go_wp2_with fail
  refine calls_gen fun VW3 hV_VW3 => ?_
  have n_kt := congrArg (fun v : World => v.heap[tb]?) hV_VW3
  simp (maxDischargeDepth := 9) only [BK, not_false_eq_true, reduceCtorEq, kt, l_kt_w, l_kt_VW1, l_kt_W1, l_kt_VW2, l_kt_W2] at n_kt
  have n_F : Fr ((oneX tb)) O O w VW3 := nF hV_VW3
  have n_A : AP VW3 ap t.s O := nA hV_VW3
  have z_VW3 := Nat.le_of_eq (congrArg (fun v : World => v.heap.size) hV_VW3).symm
  try simp only [SZ] at z_VW3
  clear kt c_kt f_kt
  clear hV_VW3
  clear hA
  have hA := n_A
  clear n_A
  clear hF
  have hF := n_F
  clear n_F
  have kt := n_kt; clear n_kt
  have c_kt := cells_of kt
  have f_kt := free_of kt
  have l_kt_VW3 := lt_of kt
  refine (drop_calls _ _ hA).mono ?_
  rintro e_W3 W3 ⟨rfl, O1, hA_W3, hf_W3⟩
  have q_kt := hf_W3.keep kt o_kt (fun h => h)
  replace o_kt := hf_W3.not_own (lt_of kt) o_kt
  clear kt; have kt := q_kt; clear q_kt
  have c_kt := cells_of kt
  have f_kt := free_of kt
  have l_kt_W3 := lt_of kt
  replace hF := hF.trans hf_W3.widen
  have z_W3 := hf_W3.size
  clear hA hf_W3; have hA := hA_W3; clear hA_W3
  go_wp2_with fail
  refine calls_gen fun VW4 hV_VW4 => ?_
  have n_kt := congrArg (fun v : World => v.heap[tb]?) hV_VW4
  simp (maxDischargeDepth := 9) only [BK, not_false_eq_true, reduceCtorEq, kt, l_kt_w, l_kt_VW1, l_kt_W1, l_kt_VW2, l_kt_W2, l_kt_VW3, l_kt_W3] at n_kt
  have n_F : Fr ((oneX tb)) O O1 w VW4 := nF hV_VW4
  have n_A : AP VW4 ap (t.s.drop x) O1 := nA hV_VW4
  have z_VW4 := Nat.le_of_eq (congrArg (fun v : World => v.heap.size) hV_VW4).symm
  try simp only [SZ] at z_VW4
  clear kt c_kt f_kt
  clear hV_VW4
  clear hA
  have hA := n_A
  clear n_A
  clear hF
  have hF := n_F
  clear n_F
  have kt := n_kt; clear n_kt
  have c_kt := cells_of kt
  have f_kt := free_of kt
  have l_kt_VW4 := lt_of kt
  refine (drop_calls _ _ hA).mono ?_
  rintro e_W4 W4 ⟨rfl, O2, hA_W4, hf_W4⟩
  have q_kt := hf_W4.keep kt o_kt (fun h => h)
  replace o_kt := hf_W4.not_own (lt_of kt) o_kt
  clear kt; have kt := q_kt; clear q_kt
  have c_kt := cells_of kt
  have f_kt := free_of kt
  have l_kt_W4 := lt_of kt
  replace hF := hF.trans hf_W4.widen
  have z_W4 := hf_W4.size
  clear hA hf_W4; have hA := hA_W4; clear hA_W4
  go_wp2_with fail
  go_ret
  exact ⟨rfl, O2, ⟨hA, kt, o_kt⟩, hF⟩
end Go.Proofs.Ytkgabbenmoocgaa
