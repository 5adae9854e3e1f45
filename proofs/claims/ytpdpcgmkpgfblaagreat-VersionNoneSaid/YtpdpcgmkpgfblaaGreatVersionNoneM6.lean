/- Part 6 of what VersionNone needs: the walks of the program's functions, and plain facts. -/
import Derived.Test.YtpdpcgmkpgfblaaGreatVersionNoneM5
/- The tree that makes nodes of lists: join. -/
namespace Go.Proofs.YtpdpcgmkpgfblaaGreat
set_option linter.unusedSimpArgs false
set_option linter.unusedVariables false
set_option linter.unnecessarySimpa false
open Go.RowKit
attribute [local go_sem ↓] Go.wp_at_zero Go.wp_at_succ
attribute [local go_sem] lt_s2 lt_s3 lt_s4
variable {ap : Value} {O : Nat → Prop} {tb : Nat} {t : Tb}
set_option maxRecDepth 100000 in
set_option maxHeartbeats 4000000 in
theorem lJoin_calls (x y : Int) (r : Int × Tb) (hr : t.join x y = some r) (w : World) (hT : LB w tb ap t O) :
  Calls Tryz.prog 90 #[.pointer (some ⟨tb, 0, none⟩), .int .i64 x, .int .i64 y] w fun e w' => e = .returned (.int .i64 r.1) ∧ DidL tb ap r.2 O w w' := by
 unfold Tb.join at hr
 obtain ⟨p, h_b, h_r⟩ := Option.bind_eq_some_iff.1 hr
 have Hp := Lib.hid h_b; clear h_b hr; have hr := h_r; clear h_r
 obtain ⟨q, h_b, h_r⟩ := Option.bind_eq_some_iff.1 hr
 have Hq := Lib.hid h_b; clear h_b hr; have hr := h_r; clear h_r
 by_cases he : t.e = 0
 ·
  have d1 : (t.e != 0) = false := by simp [he]
  rw [if_pos he] at hr
  clear he
  by_cases hx : x = 0
  ·
   have x1 : (x == 0) = true := by simpa using hx
   rw [if_pos (.inl hx)] at hr
   obtain rfl := Option.some.inj hr
   clear hr hx
   go_enter Tryz.func90, Tryz.ntmps90
   have hA := hT.hA
   have kt := hT.blk
   have o_kt := hT.no
   have c_kt := cells_of kt
   have f_kt := free_of kt
   have l_kt_w := lt_of kt
   go_wp2_with fail
   refine calls_gen fun VW1 hV_VW1 => ?_
   have n_kt := congrArg (fun v : World => v.heap[tb]?) hV_VW1
   simp (maxDischargeDepth := 9) only [BK, not_false_eq_true, reduceCtorEq, kt, l_kt_w] at n_kt
   have n_F : Fr ((oneX tb)) O O w VW1 := nF hV_VW1
   have n_A : AP VW1 ap t.s O := nA hV_VW1
   have z_VW1 := Nat.le_of_eq (congrArg (fun v : World => v.heap.size) hV_VW1).symm
   try simp only [SZ] at z_VW1
   clear kt c_kt f_kt
   clear hV_VW1
   clear hA
   have hA := n_A
   clear n_A
   skip
   have hF := n_F
   clear n_F
   have kt := n_kt; clear n_kt
   have c_kt := cells_of kt
   have f_kt := free_of kt
   have l_kt_VW1 := lt_of kt
   refine (lHigh_calls (t := t) _ _ _ _ Hp.out ⟨hA, kt, o_kt⟩).mono ?_
   rintro e_W1 W1 ⟨rfl, hb_W1⟩
   replace hA := hA.below hb_W1
   replace hF := hF.below hb_W1
   replace kt := keep_blk hb_W1 kt
   have c_kt := cells_of kt
   have f_kt := free_of kt
   have l_kt_W1 := lt_of kt
   have z_W1 := hb_W1.size
   clear hb_W1
   go_wp2_with fail
   refine calls_gen fun VW2 hV_VW2 => ?_
   have n_kt := congrArg (fun v : World => v.heap[tb]?) hV_VW2
   simp (maxDischargeDepth := 9) only [BK, not_false_eq_true, reduceCtorEq, kt, l_kt_w, l_kt_VW1, l_kt_W1] at n_kt
   have n_F : Fr ((oneX tb)) O O w VW2 := nF hV_VW2
   have n_A : AP VW2 ap t.s O := nA hV_VW2
   have z_VW2 := Nat.le_of_eq (congrArg (fun v : World => v.heap.size) hV_VW2).symm
   try simp only [SZ] at z_VW2
   clear kt c_kt f_kt
   clear hV_VW2
   clear hA
   have hA := n_A
   clear n_A
   clear hF
   have hF := n_F
   clear n_F
   have kt := n_kt; clear n_kt
   have c_kt := cells_of kt
   have f_kt := free_of kt
   have l_kt_VW2 := lt_of kt
   refine (lHigh_calls (t := t) _ _ _ _ Hq.out ⟨hA, kt, o_kt⟩).mono ?_
   rintro e_W2 W2 ⟨rfl, hb_W2⟩
   replace hA := hA.below hb_W2
   replace hF := hF.below hb_W2
   replace kt := keep_blk hb_W2 kt
   have c_kt := cells_of kt
   have f_kt := free_of kt
   have l_kt_W2 := lt_of kt
   have z_W2 := hb_W2.size
   clear hb_W2
   go_wp2_with fail
   go_ret
   exact ⟨rfl, O, ⟨hA, kt, o_kt⟩, hF⟩
  have x1 : (x == 0) = false := by simpa using hx
  by_cases hy : y = 0
  ·
   have y1 : (y == 0) = true := by simpa using hy
   rw [if_pos (.inr hy)] at hr
   obtain rfl := Option.some.inj hr
   clear hr hx hy
   go_enter Tryz.func90, Tryz.ntmps90
   have hA := hT.hA
   have kt := hT.blk
   have o_kt := hT.no
   have c_kt := cells_of kt
   have f_kt := free_of kt
   have l_kt_w := lt_of kt
   go_wp2_with fail
   refine calls_gen fun VW1 hV_VW1 => ?_
   have n_kt := congrArg (fun v : World => v.heap[tb]?) hV_VW1
   simp (maxDischargeDepth := 9) only [BK, not_false_eq_true, reduceCtorEq, kt, l_kt_w] at n_kt
   have n_F : Fr ((oneX tb)) O O w VW1 := nF hV_VW1
   have n_A : AP VW1 ap t.s O := nA hV_VW1
   have z_VW1 := Nat.le_of_eq (congrArg (fun v : World => v.heap.size) hV_VW1).symm
   try simp only [SZ] at z_VW1
   clear kt c_kt f_kt
   clear hV_VW1
   clear hA
   have hA := n_A
   clear n_A
   skip
   have hF := n_F
   clear n_F
   have kt := n_kt; clear n_kt
   have c_kt := cells_of kt
   have f_kt := free_of kt
   have l_kt_VW1 := lt_of kt
   refine (lHigh_calls (t := t) _ _ _ _ Hp.out ⟨hA, kt, o_kt⟩).mono ?_
   rintro e_W1 W1 ⟨rfl, hb_W1⟩
   replace hA := hA.below hb_W1
   replace hF := hF.below hb_W1
   replace kt := keep_blk hb_W1 kt
   have c_kt := cells_of kt
   have f_kt := free_of kt
   have l_kt_W1 := lt_of kt
   have z_W1 := hb_W1.size
   clear hb_W1
   go_wp2_with fail
   refine calls_gen fun VW2 hV_VW2 => ?_
   have n_kt := congrArg (fun v : World => v.heap[tb]?) hV_VW2
   simp (maxDischargeDepth := 9) only [BK, not_false_eq_true, reduceCtorEq, kt, l_kt_w, l_kt_VW1, l_kt_W1] at n_kt
   have n_F : Fr ((oneX tb)) O O w VW2 := nF hV_VW2
   have n_A : AP VW2 ap t.s O := nA hV_VW2
   have z_VW2 := Nat.le_of_eq (congrArg (fun v : World => v.heap.size) hV_VW2).symm
   try simp only [SZ] at z_VW2
   clear kt c_kt f_kt
   clear hV_VW2
   clear hA
   have hA := n_A
   clear n_A
   clear hF
   have hF := n_F
   clear n_F
   have kt := n_kt; clear n_kt
   have c_kt := cells_of kt
   have f_kt := free_of kt
   have l_kt_VW2 := lt_of kt
   refine (lHigh_calls (t := t) _ _ _ _ Hq.out ⟨hA, kt, o_kt⟩).mono ?_
   rintro e_W2 W2 ⟨rfl, hb_W2⟩
   replace hA := hA.below hb_W2
   replace hF := hF.below hb_W2
   replace kt := keep_blk hb_W2 kt
   have c_kt := cells_of kt
   have f_kt := free_of kt
   have l_kt_W2 := lt_of kt
   have z_W2 := hb_W2.size
   clear hb_W2
   go_wp2_with fail
   go_ret
   exact ⟨rfl, O, ⟨hA, kt, o_kt⟩, hF⟩
  have y1 : (y == 0) = false := by simpa using hy
  rw [if_neg (by intro h; rcases h with h | h; exact hx h; exact hy h)] at hr
  clear hx hy
  by_cases c1 : wrap64 (q + 1) < p
  ·
   have d2 : decide (wrap64 (q + 1) < p) = true := by simpa using c1
   rw [if_pos c1] at hr
   clear c1
   dsimp only at hr
   obtain ⟨a, h_b, h_r⟩ := Option.bind_eq_some_iff.1 hr
   have Ha := Lib.hid h_b; clear h_b hr; have hr := h_r; clear h_r
   obtain ⟨b, h_b, h_r⟩ := Option.bind_eq_some_iff.1 hr
   have Hb := Lib.hid h_b; clear h_b hr; have hr := h_r; clear h_r
   by_cases c2 : b ≤ a
   ·
    have d3 : decide (b ≤ a) = true := by simpa using c2
    rw [if_pos c2] at hr
    clear c2
    obtain rfl := Option.some.inj hr
    clear hr
    go_enter Tryz.func90, Tryz.ntmps90
    have hA := hT.hA
    have kt := hT.blk
    have o_kt := hT.no
    have c_kt := cells_of kt
    have f_kt := free_of kt
    have l_kt_w := lt_of kt
    go_wp2_with fail
    refine calls_gen fun VW1 hV_VW1 => ?_
    have n_kt := congrArg (fun v : World => v.heap[tb]?) hV_VW1
    simp (maxDischargeDepth := 9) only [BK, not_false_eq_true, reduceCtorEq, kt, l_kt_w] at n_kt
    have n_F : Fr ((oneX tb)) O O w VW1 := nF hV_VW1
    have n_A : AP VW1 ap t.s O := nA hV_VW1
    have z_VW1 := Nat.le_of_eq (congrArg (fun v : World => v.heap.size) hV_VW1).symm
    try simp only [SZ] at z_VW1
    clear kt c_kt f_kt
    clear hV_VW1
    clear hA
    have hA := n_A
    clear n_A
    skip
    have hF := n_F
    clear n_F
    have kt := n_kt; clear n_kt
    have c_kt := cells_of kt
    have f_kt := free_of kt
    have l_kt_VW1 := lt_of kt
    refine (lHigh_calls (t := t) _ _ _ _ Hp.out ⟨hA, kt, o_kt⟩).mono ?_
    rintro e_W1 W1 ⟨rfl, hb_W1⟩
    replace hA := hA.below hb_W1
    replace hF := hF.below hb_W1
    replace kt := keep_blk hb_W1 kt
    have c_kt := cells_of kt
    have f_kt := free_of kt
    have l_kt_W1 := lt_of kt
    have z_W1 := hb_W1.size
    clear hb_W1
    go_wp2_with fail
    refine calls_gen fun VW2 hV_VW2 => ?_
    have n_kt := congrArg (fun v : World => v.heap[tb]?) hV_VW2
    simp (maxDischargeDepth := 9) only [BK, not_false_eq_true, reduceCtorEq, kt, l_kt_w, l_kt_VW1, l_kt_W1] at n_kt
    have n_F : Fr ((oneX tb)) O O w VW2 := nF hV_VW2
    have n_A : AP VW2 ap t.s O := nA hV_VW2
    have z_VW2 := Nat.le_of_eq (congrArg (fun v : World => v.heap.size) hV_VW2).symm
    try simp only [SZ] at z_VW2
    clear kt c_kt f_kt
    clear hV_VW2
    clear hA
    have hA := n_A
    clear n_A
    clear hF
    have hF := n_F
    clear n_F
    have kt := n_kt; clear n_kt
    have c_kt := cells_of kt
    have f_kt := free_of kt
    have l_kt_VW2 := lt_of kt
    refine (lHigh_calls (t := t) _ _ _ _ Hq.out ⟨hA, kt, o_kt⟩).mono ?_
    rintro e_W2 W2 ⟨rfl, hb_W2⟩
    replace hA := hA.below hb_W2
    replace hF := hF.below hb_W2
    replace kt := keep_blk hb_W2 kt
    have c_kt := cells_of kt
    have f_kt := free_of kt
    have l_kt_W2 := lt_of kt
    have z_W2 := hb_W2.size
    clear hb_W2
    go_wp2_with fail
    refine calls_gen fun VW3 hV_VW3 => ?_
    have n_kt := congrArg (fun v : World => v.heap[tb]?) hV_VW3
    simp (maxDischargeDepth := 9) only [BK, not_false_eq_true, reduceCtorEq, kt, l_kt_w, l_kt_VW1, l_kt_W1, l_kt_VW2, l_kt_W2] at n_kt
    have n_F : Fr ((oneX tb)) O O w VW3 := nF hV_VW3
    have n_A : AP VW3 ap t.s O := nA hV_VW3
    have z_VW3 := Nat.le_of_eq (congrArg (fun v : World => v.heap.size) hV_VW3).symm
    try simp only [SZ] at z_VW3
    clear kt c_kt f_kt
    clear hV_VW3
    clear hA
    have hA := n_A
    clear n_A
    clear hF
    have hF := n_F
    clear n_F
    have kt := n_kt; clear n_kt
    have c_kt := cells_of kt
    have f_kt := free_of kt
    have l_kt_VW3 := lt_of kt
    refine (lOpen_calls (t := t) x _ ⟨hA, kt, o_kt⟩).mono ?_
    rintro e_W3 W3 ⟨rfl, O1, hT_W3, hf_W3⟩
    clear kt c_kt f_kt o_kt; have kt := hT_W3.blk; have o_kt := hT_W3.no
    have c_kt := cells_of kt
    have f_kt := free_of kt
    have l_kt_W3 := lt_of kt
    replace hF := hF.trans hf_W3
    have z_W3 := hf_W3.size
    clear hA hf_W3; have hA := hT_W3.hA; clear hT_W3
    go_wp2_with fail
    refine calls_gen fun VW4 hV_VW4 => ?_
    have n_kt := congrArg (fun v : World => v.heap[tb]?) hV_VW4
    simp (maxDischargeDepth := 9) only [BK, not_false_eq_true, reduceCtorEq, kt, l_kt_w, l_kt_VW1, l_kt_W1, l_kt_VW2, l_kt_W2, l_kt_VW3, l_kt_W3] at n_kt
    have n_F : Fr ((oneX tb)) O O1 w VW4 := nF hV_VW4
    have n_A : AP VW4 ap ((t).opened x).s O1 := nA hV_VW4
    have z_VW4 := Nat.le_of_eq (congrArg (fun v : World => v.heap.size) hV_VW4).symm
    try simp only [SZ] at z_VW4
    clear kt c_kt f_kt
    clear hV_VW4
    clear hA
    have hA := n_A
    clear n_A
    clear hF
    have hF := n_F
    clear n_F
    have kt := n_kt; clear n_kt
    have c_kt := cells_of kt
    have f_kt := free_of kt
    have l_kt_VW4 := lt_of kt
    refine (lHigh_calls (t := t.opened x) _ _ _ _ Ha.out ⟨hA, kt, o_kt⟩).mono ?_
    rintro e_W4 W4 ⟨rfl, hb_W4⟩
    replace hA := hA.below hb_W4
    replace hF := hF.below hb_W4
    replace kt := keep_blk hb_W4 kt
    have c_kt := cells_of kt
    have f_kt := free_of kt
    have l_kt_W4 := lt_of kt
    have z_W4 := hb_W4.size
    clear hb_W4
    go_wp2_with fail
    refine calls_gen fun VW5 hV_VW5 => ?_
    have n_kt := congrArg (fun v : World => v.heap[tb]?) hV_VW5
    simp (maxDischargeDepth := 9) only [BK, not_false_eq_true, reduceCtorEq, kt, l_kt_w, l_kt_VW1, l_kt_W1, l_kt_VW2, l_kt_W2, l_kt_VW3, l_kt_W3, l_kt_VW4, l_kt_W4] at n_kt
    have n_F : Fr ((oneX tb)) O O1 w VW5 := nF hV_VW5
    have n_A : AP VW5 ap ((t).opened x).s O1 := nA hV_VW5
    have z_VW5 := Nat.le_of_eq (congrArg (fun v : World => v.heap.size) hV_VW5).symm
    try simp only [SZ] at z_VW5
    clear kt c_kt f_kt
    clear hV_VW5
    clear hA
    have hA := n_A
    clear n_A
    clear hF
    have hF := n_F
    clear n_F
    have kt := n_kt; clear n_kt
    have c_kt := cells_of kt
    have f_kt := free_of kt
    have l_kt_VW5 := lt_of kt
    refine (lHigh_calls (t := t.opened x) _ _ _ _ Hb.out ⟨hA, kt, o_kt⟩).mono ?_
    rintro e_W5 W5 ⟨rfl, hb_W5⟩
    replace hA := hA.below hb_W5
    replace hF := hF.below hb_W5
    replace kt := keep_blk hb_W5 kt
    have c_kt := cells_of kt
    have f_kt := free_of kt
    have l_kt_W5 := lt_of kt
    have z_W5 := hb_W5.size
    clear hb_W5
    go_wp2_with fail
    refine calls_gen fun VW6 hV_VW6 => ?_
    have n_kt := congrArg (fun v : World => v.heap[tb]?) hV_VW6
    simp (maxDischargeDepth := 9) only [BK, not_false_eq_true, reduceCtorEq, kt, l_kt_w, l_kt_VW1, l_kt_W1, l_kt_VW2, l_kt_W2, l_kt_VW3, l_kt_W3, l_kt_VW4, l_kt_W4, l_kt_VW5, l_kt_W5] at n_kt
    have n_F : Fr ((oneX tb)) O O1 w VW6 := nF hV_VW6
    have n_A : AP VW6 ap ((t).opened x).s O1 := nA hV_VW6
    have z_VW6 := Nat.le_of_eq (congrArg (fun v : World => v.heap.size) hV_VW6).symm
    try simp only [SZ] at z_VW6
    clear kt c_kt f_kt
    clear hV_VW6
    clear hA
    have hA := n_A
    clear n_A
    clear hF
    have hF := n_F
    clear n_F
    have kt := n_kt; clear n_kt
    have c_kt := cells_of kt
    have f_kt := free_of kt
    have l_kt_VW6 := lt_of kt
    refine (lPair_calls (t := t.opened x) _ _ _ ⟨hA, kt, o_kt⟩).mono ?_
    rintro e_W6 W6 ⟨rfl, O2, hT_W6, hf_W6⟩
    clear kt c_kt f_kt o_kt; have kt := hT_W6.blk; have o_kt := hT_W6.no
    have c_kt := cells_of kt
    have f_kt := free_of kt
    have l_kt_W6 := lt_of kt
    replace hF := hF.trans hf_W6
    have z_W6 := hf_W6.size
    clear hA hf_W6; have hA := hT_W6.hA; clear hT_W6
    go_wp2_with fail
    refine calls_gen fun VW7 hV_VW7 => ?_
    have n_kt := congrArg (fun v : World => v.heap[tb]?) hV_VW7
    simp (maxDischargeDepth := 9) only [BK, not_false_eq_true, reduceCtorEq, kt, l_kt_w, l_kt_VW1, l_kt_W1, l_kt_VW2, l_kt_W2, l_kt_VW3, l_kt_W3, l_kt_VW4, l_kt_W4, l_kt_VW5, l_kt_W5, l_kt_VW6, l_kt_W6] at n_kt
    have n_F : Fr ((oneX tb)) O O2 w VW7 := nF hV_VW7
    have n_A : AP VW7 ap (((t.opened x).lpair (t.s.get x).k1 y).2).s O2 := nA hV_VW7
    have z_VW7 := Nat.le_of_eq (congrArg (fun v : World => v.heap.size) hV_VW7).symm
    try simp only [SZ] at z_VW7
    clear kt c_kt f_kt
    clear hV_VW7
    clear hA
    have hA := n_A
    clear n_A
    clear hF
    have hF := n_F
    clear n_F
    have kt := n_kt; clear n_kt
    have c_kt := cells_of kt
    have f_kt := free_of kt
    have l_kt_VW7 := lt_of kt
    refine (lPair_calls (t := ((t.opened x).lpair (t.s.get x).k1 y).2) _ _ _ ⟨hA, kt, o_kt⟩).mono ?_
    rintro e_W7 W7 ⟨rfl, O3, hT_W7, hf_W7⟩
    clear kt c_kt f_kt o_kt; have kt := hT_W7.blk; have o_kt := hT_W7.no
    have c_kt := cells_of kt
    have f_kt := free_of kt
    have l_kt_W7 := lt_of kt
    replace hF := hF.trans hf_W7
    have z_W7 := hf_W7.size
    clear hA hf_W7; have hA := hT_W7.hA; clear hT_W7
    go_wp2_with fail
    go_ret
    exact ⟨rfl, O3, ⟨hA, kt, o_kt⟩, hF⟩
   ·
    have d3 : decide (b ≤ a) = false := by simpa using c2
    rw [if_neg c2] at hr
    clear c2
    obtain rfl := Option.some.inj hr
    clear hr
    go_enter Tryz.func90, Tryz.ntmps90
    have hA := hT.hA
    have kt := hT.blk
    have o_kt := hT.no
    have c_kt := cells_of kt
    have f_kt := free_of kt
    have l_kt_w := lt_of kt
    go_wp2_with fail
    refine calls_gen fun VW1 hV_VW1 => ?_
    have n_kt := congrArg (fun v : World => v.heap[tb]?) hV_VW1
    simp (maxDischargeDepth := 9) only [BK, not_false_eq_true, reduceCtorEq, kt, l_kt_w] at n_kt
    have n_F : Fr ((oneX tb)) O O w VW1 := nF hV_VW1
    have n_A : AP VW1 ap t.s O := nA hV_VW1
    have z_VW1 := Nat.le_of_eq (congrArg (fun v : World => v.heap.size) hV_VW1).symm
    try simp only [SZ] at z_VW1
    clear kt c_kt f_kt
    clear hV_VW1
    clear hA
    have hA := n_A
    clear n_A
    skip
    have hF := n_F
    clear n_F
    have kt := n_kt; clear n_kt
    have c_kt := cells_of kt
    have f_kt := free_of kt
    have l_kt_VW1 := lt_of kt
    refine (lHigh_calls (t := t) _ _ _ _ Hp.out ⟨hA, kt, o_kt⟩).mono ?_
    rintro e_W1 W1 ⟨rfl, hb_W1⟩
    replace hA := hA.below hb_W1
    replace hF := hF.below hb_W1
    replace kt := keep_blk hb_W1 kt
    have c_kt := cells_of kt
    have f_kt := free_of kt
    have l_kt_W1 := lt_of kt
    have z_W1 := hb_W1.size
    clear hb_W1
    go_wp2_with fail
    refine calls_gen fun VW2 hV_VW2 => ?_
    have n_kt := congrArg (fun v : World => v.heap[tb]?) hV_VW2
    simp (maxDischargeDepth := 9) only [BK, not_false_eq_true, reduceCtorEq, kt, l_kt_w, l_kt_VW1, l_kt_W1] at n_kt
    have n_F : Fr ((oneX tb)) O O w VW2 := nF hV_VW2
    have n_A : AP VW2 ap t.s O := nA hV_VW2
    have z_VW2 := Nat.le_of_eq (congrArg (fun v : World => v.heap.size) hV_VW2).symm
    try simp only [SZ] at z_VW2
    clear kt c_kt f_kt
    clear hV_VW2
    clear hA
    have hA := n_A
    clear n_A
    clear hF
    have hF := n_F
    clear n_F
    have kt := n_kt; clear n_kt
    have c_kt := cells_of kt
    have f_kt := free_of kt
    have l_kt_VW2 := lt_of kt
    refine (lHigh_calls (t := t) _ _ _ _ Hq.out ⟨hA, kt, o_kt⟩).mono ?_
    rintro e_W2 W2 ⟨rfl, hb_W2⟩
    replace hA := hA.below hb_W2
    replace hF := hF.below hb_W2
    replace kt := keep_blk hb_W2 kt
    have c_kt := cells_of kt
    have f_kt := free_of kt
    have l_kt_W2 := lt_of kt
    have z_W2 := hb_W2.size
    clear hb_W2
    go_wp2_with fail
    refine calls_gen fun VW3 hV_VW3 => ?_
    have n_kt := congrArg (fun v : World => v.heap[tb]?) hV_VW3
    simp (maxDischargeDepth := 9) only [BK, not_false_eq_true, reduceCtorEq, kt, l_kt_w, l_kt_VW1, l_kt_W1, l_kt_VW2, l_kt_W2] at n_kt
    have n_F : Fr ((oneX tb)) O O w VW3 := nF hV_VW3
    have n_A : AP VW3 ap t.s O := nA hV_VW3
    have z_VW3 := Nat.le_of_eq (congrArg (fun v : World => v.heap.size) hV_VW3).symm
    try simp only [SZ] at z_VW3
    clear kt c_kt f_kt
    clear hV_VW3
    clear hA
    have hA := n_A
    clear n_A
    clear hF
    have hF := n_F
    clear n_F
    have kt := n_kt; clear n_kt
    have c_kt := cells_of kt
    have f_kt := free_of kt
    have l_kt_VW3 := lt_of kt
    refine (lOpen_calls (t := t) x _ ⟨hA, kt, o_kt⟩).mono ?_
    rintro e_W3 W3 ⟨rfl, O1, hT_W3, hf_W3⟩
    clear kt c_kt f_kt o_kt; have kt := hT_W3.blk; have o_kt := hT_W3.no
    have c_kt := cells_of kt
    have f_kt := free_of kt
    have l_kt_W3 := lt_of kt
    replace hF := hF.trans hf_W3
    have z_W3 := hf_W3.size
    clear hA hf_W3; have hA := hT_W3.hA; clear hT_W3
    go_wp2_with fail
    refine calls_gen fun VW4 hV_VW4 => ?_
    have n_kt := congrArg (fun v : World => v.heap[tb]?) hV_VW4
    simp (maxDischargeDepth := 9) only [BK, not_false_eq_true, reduceCtorEq, kt, l_kt_w, l_kt_VW1, l_kt_W1, l_kt_VW2, l_kt_W2, l_kt_VW3, l_kt_W3] at n_kt
    have n_F : Fr ((oneX tb)) O O1 w VW4 := nF hV_VW4
    have n_A : AP VW4 ap ((t).opened x).s O1 := nA hV_VW4
    have z_VW4 := Nat.le_of_eq (congrArg (fun v : World => v.heap.size) hV_VW4).symm
    try simp only [SZ] at z_VW4
    clear kt c_kt f_kt
    clear hV_VW4
    clear hA
    have hA := n_A
    clear n_A
    clear hF
    have hF := n_F
    clear n_F
    have kt := n_kt; clear n_kt
    have c_kt := cells_of kt
    have f_kt := free_of kt
    have l_kt_VW4 := lt_of kt
    refine (lHigh_calls (t := t.opened x) _ _ _ _ Ha.out ⟨hA, kt, o_kt⟩).mono ?_
    rintro e_W4 W4 ⟨rfl, hb_W4⟩
    replace hA := hA.below hb_W4
    replace hF := hF.below hb_W4
    replace kt := keep_blk hb_W4 kt
    have c_kt := cells_of kt
    have f_kt := free_of kt
    have l_kt_W4 := lt_of kt
    have z_W4 := hb_W4.size
    clear hb_W4
    go_wp2_with fail
    refine calls_gen fun VW5 hV_VW5 => ?_
    have n_kt := congrArg (fun v : World => v.heap[tb]?) hV_VW5
    simp (maxDischargeDepth := 9) only [BK, not_false_eq_true, reduceCtorEq, kt, l_kt_w, l_kt_VW1, l_kt_W1, l_kt_VW2, l_kt_W2, l_kt_VW3, l_kt_W3, l_kt_VW4, l_kt_W4] at n_kt
    have n_F : Fr ((oneX tb)) O O1 w VW5 := nF hV_VW5
    have n_A : AP VW5 ap ((t).opened x).s O1 := nA hV_VW5
    have z_VW5 := Nat.le_of_eq (congrArg (fun v : World => v.heap.size) hV_VW5).symm
    try simp only [SZ] at z_VW5
    clear kt c_kt f_kt
    clear hV_VW5
    clear hA
    have hA := n_A
    clear n_A
    clear hF
    have hF := n_F
    clear n_F
    have kt := n_kt; clear n_kt
    have c_kt := cells_of kt
    have f_kt := free_of kt
    have l_kt_VW5 := lt_of kt
    refine (lHigh_calls (t := t.opened x) _ _ _ _ Hb.out ⟨hA, kt, o_kt⟩).mono ?_
    rintro e_W5 W5 ⟨rfl, hb_W5⟩
    replace hA := hA.below hb_W5
    replace hF := hF.below hb_W5
    replace kt := keep_blk hb_W5 kt
    have c_kt := cells_of kt
    have f_kt := free_of kt
    have l_kt_W5 := lt_of kt
    have z_W5 := hb_W5.size
    clear hb_W5
    go_wp2_with fail
    refine calls_gen fun VW6 hV_VW6 => ?_
    have n_kt := congrArg (fun v : World => v.heap[tb]?) hV_VW6
    simp (maxDischargeDepth := 9) only [BK, not_false_eq_true, reduceCtorEq, kt, l_kt_w, l_kt_VW1, l_kt_W1, l_kt_VW2, l_kt_W2, l_kt_VW3, l_kt_W3, l_kt_VW4, l_kt_W4, l_kt_VW5, l_kt_W5] at n_kt
    have n_F : Fr ((oneX tb)) O O1 w VW6 := nF hV_VW6
    have n_A : AP VW6 ap ((t).opened x).s O1 := nA hV_VW6
    have z_VW6 := Nat.le_of_eq (congrArg (fun v : World => v.heap.size) hV_VW6).symm
    try simp only [SZ] at z_VW6
    clear kt c_kt f_kt
    clear hV_VW6
    clear hA
    have hA := n_A
    clear n_A
    clear hF
    have hF := n_F
    clear n_F
    have kt := n_kt; clear n_kt
    have c_kt := cells_of kt
    have f_kt := free_of kt
    have l_kt_VW6 := lt_of kt
    refine (lOpen_calls (t := t.opened x) (t.s.get x).k1 _ ⟨hA, kt, o_kt⟩).mono ?_
    rintro e_W6 W6 ⟨rfl, O2, hT_W6, hf_W6⟩
    clear kt c_kt f_kt o_kt; have kt := hT_W6.blk; have o_kt := hT_W6.no
    have c_kt := cells_of kt
    have f_kt := free_of kt
    have l_kt_W6 := lt_of kt
    replace hF := hF.trans hf_W6
    have z_W6 := hf_W6.size
    clear hA hf_W6; have hA := hT_W6.hA; clear hT_W6
    go_wp2_with fail
    refine calls_gen fun VW7 hV_VW7 => ?_
    have n_kt := congrArg (fun v : World => v.heap[tb]?) hV_VW7
    simp (maxDischargeDepth := 9) only [BK, not_false_eq_true, reduceCtorEq, kt, l_kt_w, l_kt_VW1, l_kt_W1, l_kt_VW2, l_kt_W2, l_kt_VW3, l_kt_W3, l_kt_VW4, l_kt_W4, l_kt_VW5, l_kt_W5, l_kt_VW6, l_kt_W6] at n_kt
    have n_F : Fr ((oneX tb)) O O2 w VW7 := nF hV_VW7
    have n_A : AP VW7 ap ((t.opened x).opened (t.s.get x).k1).s O2 := nA hV_VW7
    have z_VW7 := Nat.le_of_eq (congrArg (fun v : World => v.heap.size) hV_VW7).symm
    try simp only [SZ] at z_VW7
    clear kt c_kt f_kt
    clear hV_VW7
    clear hA
    have hA := n_A
    clear n_A
    clear hF
    have hF := n_F
    clear n_F
    have kt := n_kt; clear n_kt
    have c_kt := cells_of kt
    have f_kt := free_of kt
    have l_kt_VW7 := lt_of kt
    refine (lPair_calls (t := (t.opened x).opened (t.s.get x).k1) _ _ _ ⟨hA, kt, o_kt⟩).mono ?_
    rintro e_W7 W7 ⟨rfl, O3, hT_W7, hf_W7⟩
    clear kt c_kt f_kt o_kt; have kt := hT_W7.blk; have o_kt := hT_W7.no
    have c_kt := cells_of kt
    have f_kt := free_of kt
    have l_kt_W7 := lt_of kt
    replace hF := hF.trans hf_W7
    have z_W7 := hf_W7.size
    clear hA hf_W7; have hA := hT_W7.hA; clear hT_W7
    go_wp2_with fail
    refine calls_gen fun VW8 hV_VW8 => ?_
    have n_kt := congrArg (fun v : World => v.heap[tb]?) hV_VW8
    simp (maxDischargeDepth := 9) only [BK, not_false_eq_true, reduceCtorEq, kt, l_kt_w, l_kt_VW1, l_kt_W1, l_kt_VW2, l_kt_W2, l_kt_VW3, l_kt_W3, l_kt_VW4, l_kt_W4, l_kt_VW5, l_kt_W5, l_kt_VW6, l_kt_W6, l_kt_VW7, l_kt_W7] at n_kt
    have n_F : Fr ((oneX tb)) O O3 w VW8 := nF hV_VW8
    have n_A : AP VW8 ap ((((t.opened x).opened (t.s.get x).k1).lpair (t.s.get x).k0 ((t.opened x).s.get (t.s.get x).k1).k0).2).s O3 := nA hV_VW8
    have z_VW8 := Nat.le_of_eq (congrArg (fun v : World => v.heap.size) hV_VW8).symm
    try simp only [SZ] at z_VW8
    clear kt c_kt f_kt
    clear hV_VW8
    clear hA
    have hA := n_A
    clear n_A
    clear hF
    have hF := n_F
    clear n_F
    have kt := n_kt; clear n_kt
    have c_kt := cells_of kt
    have f_kt := free_of kt
    have l_kt_VW8 := lt_of kt
    refine (lPair_calls (t := (((t.opened x).opened (t.s.get x).k1).lpair (t.s.get x).k0 ((t.opened x).s.get (t.s.get x).k1).k0).2) _ _ _ ⟨hA, kt, o_kt⟩).mono ?_
    rintro e_W8 W8 ⟨rfl, O4, hT_W8, hf_W8⟩
    clear kt c_kt f_kt o_kt; have kt := hT_W8.blk; have o_kt := hT_W8.no
    have c_kt := cells_of kt
    have f_kt := free_of kt
    have l_kt_W8 := lt_of kt
    replace hF := hF.trans hf_W8
    have z_W8 := hf_W8.size
    clear hA hf_W8; have hA := hT_W8.hA; clear hT_W8
    go_wp2_with fail
    refine calls_gen fun VW9 hV_VW9 => ?_
    have n_kt := congrArg (fun v : World => v.heap[tb]?) hV_VW9
    simp (maxDischargeDepth := 9) only [BK, not_false_eq_true, reduceCtorEq, kt, l_kt_w, l_kt_VW1, l_kt_W1, l_kt_VW2, l_kt_W2, l_kt_VW3, l_kt_W3, l_kt_VW4, l_kt_W4, l_kt_VW5, l_kt_W5, l_kt_VW6, l_kt_W6, l_kt_VW7, l_kt_W7, l_kt_VW8, l_kt_W8] at n_kt
    have n_F : Fr ((oneX tb)) O O4 w VW9 := nF hV_VW9
    have n_A : AP VW9 ap ((((((t.opened x).opened (t.s.get x).k1).lpair (t.s.get x).k0 ((t.opened x).s.get (t.s.get x).k1).k0).2).lpair ((t.opened x).s.get (t.s.get x).k1).k1 y).2).s O4 := nA hV_VW9
    have z_VW9 := Nat.le_of_eq (congrArg (fun v : World => v.heap.size) hV_VW9).symm
    try simp only [SZ] at z_VW9
    clear kt c_kt f_kt
    clear hV_VW9
    clear hA
    have hA := n_A
    clear n_A
    clear hF
    have hF := n_F
    clear n_F
    have kt := n_kt; clear n_kt
    have c_kt := cells_of kt
    have f_kt := free_of kt
    have l_kt_VW9 := lt_of kt
    refine (lPair_calls (t := ((((t.opened x).opened (t.s.get x).k1).lpair (t.s.get x).k0 ((t.opened x).s.get (t.s.get x).k1).k0).2.lpair ((t.opened x).s.get (t.s.get x).k1).k1 y).2) _ _ _ ⟨hA, kt, o_kt⟩).mono ?_
    rintro e_W9 W9 ⟨rfl, O5, hT_W9, hf_W9⟩
    clear kt c_kt f_kt o_kt; have kt := hT_W9.blk; have o_kt := hT_W9.no
    have c_kt := cells_of kt
    have f_kt := free_of kt
    have l_kt_W9 := lt_of kt
    replace hF := hF.trans hf_W9
    have z_W9 := hf_W9.size
    clear hA hf_W9; have hA := hT_W9.hA; clear hT_W9
    go_wp2_with fail
    go_ret
    exact ⟨rfl, O5, ⟨hA, kt, o_kt⟩, hF⟩
  ·
   have d2 : decide (wrap64 (q + 1) < p) = false := by simpa using c1
   rw [if_neg c1] at hr
   clear c1
   by_cases c3 : wrap64 (p + 1) < q
   ·
    have d4 : decide (wrap64 (p + 1) < q) = true := by simpa using c3
    rw [if_pos c3] at hr
    clear c3
    dsimp only at hr
    obtain ⟨a, h_b, h_r⟩ := Option.bind_eq_some_iff.1 hr
    have Ha := Lib.hid h_b; clear h_b hr; have hr := h_r; clear h_r
    obtain ⟨b, h_b, h_r⟩ := Option.bind_eq_some_iff.1 hr
    have Hb := Lib.hid h_b; clear h_b hr; have hr := h_r; clear h_r
    by_cases c2 : b ≤ a
    ·
     have d3 : decide (b ≤ a) = true := by simpa using c2
     rw [if_pos c2] at hr
     clear c2
     obtain rfl := Option.some.inj hr
     clear hr
     go_enter Tryz.func90, Tryz.ntmps90
     have hA := hT.hA
     have kt := hT.blk
     have o_kt := hT.no
     have c_kt := cells_of kt
     have f_kt := free_of kt
     have l_kt_w := lt_of kt
     go_wp2_with fail
     refine calls_gen fun VW1 hV_VW1 => ?_
     have n_kt := congrArg (fun v : World => v.heap[tb]?) hV_VW1
     simp (maxDischargeDepth := 9) only [BK, not_false_eq_true, reduceCtorEq, kt, l_kt_w] at n_kt
     have n_F : Fr ((oneX tb)) O O w VW1 := nF hV_VW1
     have n_A : AP VW1 ap t.s O := nA hV_VW1
     have z_VW1 := Nat.le_of_eq (congrArg (fun v : World => v.heap.size) hV_VW1).symm
     try simp only [SZ] at z_VW1
     clear kt c_kt f_kt
     clear hV_VW1
     clear hA
     have hA := n_A
     clear n_A
     skip
     have hF := n_F
     clear n_F
     have kt := n_kt; clear n_kt
     have c_kt := cells_of kt
     have f_kt := free_of kt
     have l_kt_VW1 := lt_of kt
     refine (lHigh_calls (t := t) _ _ _ _ Hp.out ⟨hA, kt, o_kt⟩).mono ?_
     rintro e_W1 W1 ⟨rfl, hb_W1⟩
     replace hA := hA.below hb_W1
     replace hF := hF.below hb_W1
     replace kt := keep_blk hb_W1 kt
     have c_kt := cells_of kt
     have f_kt := free_of kt
     have l_kt_W1 := lt_of kt
     have z_W1 := hb_W1.size
     clear hb_W1
     go_wp2_with fail
     refine calls_gen fun VW2 hV_VW2 => ?_
     have n_kt := congrArg (fun v : World => v.heap[tb]?) hV_VW2
     simp (maxDischargeDepth := 9) only [BK, not_false_eq_true, reduceCtorEq, kt, l_kt_w, l_kt_VW1, l_kt_W1] at n_kt
     have n_F : Fr ((oneX tb)) O O w VW2 := nF hV_VW2
     have n_A : AP VW2 ap t.s O := nA hV_VW2
     have z_VW2 := Nat.le_of_eq (congrArg (fun v : World => v.heap.size) hV_VW2).symm
     try simp only [SZ] at z_VW2
     clear kt c_kt f_kt
     clear hV_VW2
     clear hA
     have hA := n_A
     clear n_A
     clear hF
     have hF := n_F
     clear n_F
     have kt := n_kt; clear n_kt
     have c_kt := cells_of kt
     have f_kt := free_of kt
     have l_kt_VW2 := lt_of kt
     refine (lHigh_calls (t := t) _ _ _ _ Hq.out ⟨hA, kt, o_kt⟩).mono ?_
     rintro e_W2 W2 ⟨rfl, hb_W2⟩
     replace hA := hA.below hb_W2
     replace hF := hF.below hb_W2
     replace kt := keep_blk hb_W2 kt
     have c_kt := cells_of kt
     have f_kt := free_of kt
     have l_kt_W2 := lt_of kt
     have z_W2 := hb_W2.size
     clear hb_W2
     go_wp2_with fail
     refine calls_gen fun VW3 hV_VW3 => ?_
     have n_kt := congrArg (fun v : World => v.heap[tb]?) hV_VW3
     simp (maxDischargeDepth := 9) only [BK, not_false_eq_true, reduceCtorEq, kt, l_kt_w, l_kt_VW1, l_kt_W1, l_kt_VW2, l_kt_W2] at n_kt
     have n_F : Fr ((oneX tb)) O O w VW3 := nF hV_VW3
     have n_A : AP VW3 ap t.s O := nA hV_VW3
     have z_VW3 := Nat.le_of_eq (congrArg (fun v : World => v.heap.size) hV_VW3).symm
     try simp only [SZ] at z_VW3
     clear kt c_kt f_kt
     clear hV_VW3
     clear hA
     have hA := n_A
     clear n_A
     clear hF
     have hF := n_F
     clear n_F
     have kt := n_kt; clear n_kt
     have c_kt := cells_of kt
     have f_kt := free_of kt
     have l_kt_VW3 := lt_of kt
     refine (lOpen_calls (t := t) y _ ⟨hA, kt, o_kt⟩).mono ?_
     rintro e_W3 W3 ⟨rfl, O1, hT_W3, hf_W3⟩
     clear kt c_kt f_kt o_kt; have kt := hT_W3.blk; have o_kt := hT_W3.no
     have c_kt := cells_of kt
     have f_kt := free_of kt
     have l_kt_W3 := lt_of kt
     replace hF := hF.trans hf_W3
     have z_W3 := hf_W3.size
     clear hA hf_W3; have hA := hT_W3.hA; clear hT_W3
     go_wp2_with fail
     refine calls_gen fun VW4 hV_VW4 => ?_
     have n_kt := congrArg (fun v : World => v.heap[tb]?) hV_VW4
     simp (maxDischargeDepth := 9) only [BK, not_false_eq_true, reduceCtorEq, kt, l_kt_w, l_kt_VW1, l_kt_W1, l_kt_VW2, l_kt_W2, l_kt_VW3, l_kt_W3] at n_kt
     have n_F : Fr ((oneX tb)) O O1 w VW4 := nF hV_VW4
     have n_A : AP VW4 ap ((t).opened y).s O1 := nA hV_VW4
     have z_VW4 := Nat.le_of_eq (congrArg (fun v : World => v.heap.size) hV_VW4).symm
     try simp only [SZ] at z_VW4
     clear kt c_kt f_kt
     clear hV_VW4
     clear hA
     have hA := n_A
     clear n_A
     clear hF
     have hF := n_F
     clear n_F
     have kt := n_kt; clear n_kt
     have c_kt := cells_of kt
     have f_kt := free_of kt
     have l_kt_VW4 := lt_of kt
     refine (lHigh_calls (t := t.opened y) _ _ _ _ Ha.out ⟨hA, kt, o_kt⟩).mono ?_
     rintro e_W4 W4 ⟨rfl, hb_W4⟩
     replace hA := hA.below hb_W4
     replace hF := hF.below hb_W4
     replace kt := keep_blk hb_W4 kt
     have c_kt := cells_of kt
     have f_kt := free_of kt
     have l_kt_W4 := lt_of kt
     have z_W4 := hb_W4.size
     clear hb_W4
     go_wp2_with fail
     refine calls_gen fun VW5 hV_VW5 => ?_
     have n_kt := congrArg (fun v : World => v.heap[tb]?) hV_VW5
     simp (maxDischargeDepth := 9) only [BK, not_false_eq_true, reduceCtorEq, kt, l_kt_w, l_kt_VW1, l_kt_W1, l_kt_VW2, l_kt_W2, l_kt_VW3, l_kt_W3, l_kt_VW4, l_kt_W4] at n_kt
     have n_F : Fr ((oneX tb)) O O1 w VW5 := nF hV_VW5
     have n_A : AP VW5 ap ((t).opened y).s O1 := nA hV_VW5
     have z_VW5 := Nat.le_of_eq (congrArg (fun v : World => v.heap.size) hV_VW5).symm
     try simp only [SZ] at z_VW5
     clear kt c_kt f_kt
     clear hV_VW5
     clear hA
     have hA := n_A
     clear n_A
     clear hF
     have hF := n_F
     clear n_F
     have kt := n_kt; clear n_kt
     have c_kt := cells_of kt
     have f_kt := free_of kt
     have l_kt_VW5 := lt_of kt
     refine (lHigh_calls (t := t.opened y) _ _ _ _ Hb.out ⟨hA, kt, o_kt⟩).mono ?_
     rintro e_W5 W5 ⟨rfl, hb_W5⟩
     replace hA := hA.below hb_W5
     replace hF := hF.below hb_W5
     replace kt := keep_blk hb_W5 kt
     have c_kt := cells_of kt
     have f_kt := free_of kt
     have l_kt_W5 := lt_of kt
     have z_W5 := hb_W5.size
     clear hb_W5
     go_wp2_with fail
     refine calls_gen fun VW6 hV_VW6 => ?_
     have n_kt := congrArg (fun v : World => v.heap[tb]?) hV_VW6
     simp (maxDischargeDepth := 9) only [BK, not_false_eq_true, reduceCtorEq, kt, l_kt_w, l_kt_VW1, l_kt_W1, l_kt_VW2, l_kt_W2, l_kt_VW3, l_kt_W3, l_kt_VW4, l_kt_W4, l_kt_VW5, l_kt_W5] at n_kt
     have n_F : Fr ((oneX tb)) O O1 w VW6 := nF hV_VW6
     have n_A : AP VW6 ap ((t).opened y).s O1 := nA hV_VW6
     have z_VW6 := Nat.le_of_eq (congrArg (fun v : World => v.heap.size) hV_VW6).symm
     try simp only [SZ] at z_VW6
     clear kt c_kt f_kt
     clear hV_VW6
     clear hA
     have hA := n_A
     clear n_A
     clear hF
     have hF := n_F
     clear n_F
     have kt := n_kt; clear n_kt
     have c_kt := cells_of kt
     have f_kt := free_of kt
     have l_kt_VW6 := lt_of kt
     refine (lPair_calls (t := t.opened y) _ _ _ ⟨hA, kt, o_kt⟩).mono ?_
     rintro e_W6 W6 ⟨rfl, O2, hT_W6, hf_W6⟩
     clear kt c_kt f_kt o_kt; have kt := hT_W6.blk; have o_kt := hT_W6.no
     have c_kt := cells_of kt
     have f_kt := free_of kt
     have l_kt_W6 := lt_of kt
     replace hF := hF.trans hf_W6
     have z_W6 := hf_W6.size
     clear hA hf_W6; have hA := hT_W6.hA; clear hT_W6
     go_wp2_with fail
     refine calls_gen fun VW7 hV_VW7 => ?_
     have n_kt := congrArg (fun v : World => v.heap[tb]?) hV_VW7
     simp (maxDischargeDepth := 9) only [BK, not_false_eq_true, reduceCtorEq, kt, l_kt_w, l_kt_VW1, l_kt_W1, l_kt_VW2, l_kt_W2, l_kt_VW3, l_kt_W3, l_kt_VW4, l_kt_W4, l_kt_VW5, l_kt_W5, l_kt_VW6, l_kt_W6] at n_kt
     have n_F : Fr ((oneX tb)) O O2 w VW7 := nF hV_VW7
     have n_A : AP VW7 ap (((t.opened y).lpair x (t.s.get y).k0).2).s O2 := nA hV_VW7
     have z_VW7 := Nat.le_of_eq (congrArg (fun v : World => v.heap.size) hV_VW7).symm
     try simp only [SZ] at z_VW7
     clear kt c_kt f_kt
     clear hV_VW7
     clear hA
     have hA := n_A
     clear n_A
     clear hF
     have hF := n_F
     clear n_F
     have kt := n_kt; clear n_kt
     have c_kt := cells_of kt
     have f_kt := free_of kt
     have l_kt_VW7 := lt_of kt
     refine (lPair_calls (t := ((t.opened y).lpair x (t.s.get y).k0).2) _ _ _ ⟨hA, kt, o_kt⟩).mono ?_
     rintro e_W7 W7 ⟨rfl, O3, hT_W7, hf_W7⟩
     clear kt c_kt f_kt o_kt; have kt := hT_W7.blk; have o_kt := hT_W7.no
     have c_kt := cells_of kt
     have f_kt := free_of kt
     have l_kt_W7 := lt_of kt
     replace hF := hF.trans hf_W7
     have z_W7 := hf_W7.size
     clear hA hf_W7; have hA := hT_W7.hA; clear hT_W7
     go_wp2_with fail
     go_ret
     exact ⟨rfl, O3, ⟨hA, kt, o_kt⟩, hF⟩
    ·
     have d3 : decide (b ≤ a) = false := by simpa using c2
     rw [if_neg c2] at hr
     clear c2
     obtain rfl := Option.some.inj hr
     clear hr
     go_enter Tryz.func90, Tryz.ntmps90
     have hA := hT.hA
     have kt := hT.blk
     have o_kt := hT.no
     have c_kt := cells_of kt
     have f_kt := free_of kt
     have l_kt_w := lt_of kt
     go_wp2_with fail
     refine calls_gen fun VW1 hV_VW1 => ?_
     have n_kt := congrArg (fun v : World => v.heap[tb]?) hV_VW1
     simp (maxDischargeDepth := 9) only [BK, not_false_eq_true, reduceCtorEq, kt, l_kt_w] at n_kt
     have n_F : Fr ((oneX tb)) O O w VW1 := nF hV_VW1
     have n_A : AP VW1 ap t.s O := nA hV_VW1
     have z_VW1 := Nat.le_of_eq (congrArg (fun v : World => v.heap.size) hV_VW1).symm
     try simp only [SZ] at z_VW1
     clear kt c_kt f_kt
     clear hV_VW1
     clear hA
     have hA := n_A
     clear n_A
     skip
     have hF := n_F
     clear n_F
     have kt := n_kt; clear n_kt
     have c_kt := cells_of kt
     have f_kt := free_of kt
     have l_kt_VW1 := lt_of kt
     refine (lHigh_calls (t := t) _ _ _ _ Hp.out ⟨hA, kt, o_kt⟩).mono ?_
     rintro e_W1 W1 ⟨rfl, hb_W1⟩
     replace hA := hA.below hb_W1
     replace hF := hF.below hb_W1
     replace kt := keep_blk hb_W1 kt
     have c_kt := cells_of kt
     have f_kt := free_of kt
     have l_kt_W1 := lt_of kt
     have z_W1 := hb_W1.size
     clear hb_W1
     go_wp2_with fail
     refine calls_gen fun VW2 hV_VW2 => ?_
     have n_kt := congrArg (fun v : World => v.heap[tb]?) hV_VW2
     simp (maxDischargeDepth := 9) only [BK, not_false_eq_true, reduceCtorEq, kt, l_kt_w, l_kt_VW1, l_kt_W1] at n_kt
     have n_F : Fr ((oneX tb)) O O w VW2 := nF hV_VW2
     have n_A : AP VW2 ap t.s O := nA hV_VW2
     have z_VW2 := Nat.le_of_eq (congrArg (fun v : World => v.heap.size) hV_VW2).symm
     try simp only [SZ] at z_VW2
     clear kt c_kt f_kt
     clear hV_VW2
     clear hA
     have hA := n_A
     clear n_A
     clear hF
     have hF := n_F
     clear n_F
     have kt := n_kt; clear n_kt
     have c_kt := cells_of kt
     have f_kt := free_of kt
     have l_kt_VW2 := lt_of kt
     refine (lHigh_calls (t := t) _ _ _ _ Hq.out ⟨hA, kt, o_kt⟩).mono ?_
     rintro e_W2 W2 ⟨rfl, hb_W2⟩
     replace hA := hA.below hb_W2
     replace hF := hF.below hb_W2
     replace kt := keep_blk hb_W2 kt
     have c_kt := cells_of kt
     have f_kt := free_of kt
     have l_kt_W2 := lt_of kt
     have z_W2 := hb_W2.size
     clear hb_W2
     go_wp2_with fail
     refine calls_gen fun VW3 hV_VW3 => ?_
     have n_kt := congrArg (fun v : World => v.heap[tb]?) hV_VW3
     simp (maxDischargeDepth := 9) only [BK, not_false_eq_true, reduceCtorEq, kt, l_kt_w, l_kt_VW1, l_kt_W1, l_kt_VW2, l_kt_W2] at n_kt
     have n_F : Fr ((oneX tb)) O O w VW3 := nF hV_VW3
     have n_A : AP VW3 ap t.s O := nA hV_VW3
     have z_VW3 := Nat.le_of_eq (congrArg (fun v : World => v.heap.size) hV_VW3).symm
     try simp only [SZ] at z_VW3
     clear kt c_kt f_kt
     clear hV_VW3
     clear hA
     have hA := n_A
     clear n_A
     clear hF
     have hF := n_F
     clear n_F
     have kt := n_kt; clear n_kt
     have c_kt := cells_of kt
     have f_kt := free_of kt
     have l_kt_VW3 := lt_of kt
     refine (lOpen_calls (t := t) y _ ⟨hA, kt, o_kt⟩).mono ?_
     rintro e_W3 W3 ⟨rfl, O1, hT_W3, hf_W3⟩
     clear kt c_kt f_kt o_kt; have kt := hT_W3.blk; have o_kt := hT_W3.no
     have c_kt := cells_of kt
     have f_kt := free_of kt
     have l_kt_W3 := lt_of kt
     replace hF := hF.trans hf_W3
     have z_W3 := hf_W3.size
     clear hA hf_W3; have hA := hT_W3.hA; clear hT_W3
     go_wp2_with fail
     refine calls_gen fun VW4 hV_VW4 => ?_
     have n_kt := congrArg (fun v : World => v.heap[tb]?) hV_VW4
     simp (maxDischargeDepth := 9) only [BK, not_false_eq_true, reduceCtorEq, kt, l_kt_w, l_kt_VW1, l_kt_W1, l_kt_VW2, l_kt_W2, l_kt_VW3, l_kt_W3] at n_kt
     have n_F : Fr ((oneX tb)) O O1 w VW4 := nF hV_VW4
     have n_A : AP VW4 ap ((t).opened y).s O1 := nA hV_VW4
     have z_VW4 := Nat.le_of_eq (congrArg (fun v : World => v.heap.size) hV_VW4).symm
     try simp only [SZ] at z_VW4
     clear kt c_kt f_kt
     clear hV_VW4
     clear hA
     have hA := n_A
     clear n_A
     clear hF
     have hF := n_F
     clear n_F
     have kt := n_kt; clear n_kt
     have c_kt := cells_of kt
     have f_kt := free_of kt
     have l_kt_VW4 := lt_of kt
     refine (lHigh_calls (t := t.opened y) _ _ _ _ Ha.out ⟨hA, kt, o_kt⟩).mono ?_
     rintro e_W4 W4 ⟨rfl, hb_W4⟩
     replace hA := hA.below hb_W4
     replace hF := hF.below hb_W4
     replace kt := keep_blk hb_W4 kt
     have c_kt := cells_of kt
     have f_kt := free_of kt
     have l_kt_W4 := lt_of kt
     have z_W4 := hb_W4.size
     clear hb_W4
     go_wp2_with fail
     refine calls_gen fun VW5 hV_VW5 => ?_
     have n_kt := congrArg (fun v : World => v.heap[tb]?) hV_VW5
     simp (maxDischargeDepth := 9) only [BK, not_false_eq_true, reduceCtorEq, kt, l_kt_w, l_kt_VW1, l_kt_W1, l_kt_VW2, l_kt_W2, l_kt_VW3, l_kt_W3, l_kt_VW4, l_kt_W4] at n_kt
     have n_F : Fr ((oneX tb)) O O1 w VW5 := nF hV_VW5
     have n_A : AP VW5 ap ((t).opened y).s O1 := nA hV_VW5
     have z_VW5 := Nat.le_of_eq (congrArg (fun v : World => v.heap.size) hV_VW5).symm
     try simp only [SZ] at z_VW5
     clear kt c_kt f_kt
     clear hV_VW5
     clear hA
     have hA := n_A
     clear n_A
     clear hF
     have hF := n_F
     clear n_F
     have kt := n_kt; clear n_kt
     have c_kt := cells_of kt
     have f_kt := free_of kt
     have l_kt_VW5 := lt_of kt
     refine (lHigh_calls (t := t.opened y) _ _ _ _ Hb.out ⟨hA, kt, o_kt⟩).mono ?_
     rintro e_W5 W5 ⟨rfl, hb_W5⟩
     replace hA := hA.below hb_W5
     replace hF := hF.below hb_W5
     replace kt := keep_blk hb_W5 kt
     have c_kt := cells_of kt
     have f_kt := free_of kt
     have l_kt_W5 := lt_of kt
     have z_W5 := hb_W5.size
     clear hb_W5
     go_wp2_with fail
     refine calls_gen fun VW6 hV_VW6 => ?_
     have n_kt := congrArg (fun v : World => v.heap[tb]?) hV_VW6
     simp (maxDischargeDepth := 9) only [BK, not_false_eq_true, reduceCtorEq, kt, l_kt_w, l_kt_VW1, l_kt_W1, l_kt_VW2, l_kt_W2, l_kt_VW3, l_kt_W3, l_kt_VW4, l_kt_W4, l_kt_VW5, l_kt_W5] at n_kt
     have n_F : Fr ((oneX tb)) O O1 w VW6 := nF hV_VW6
     have n_A : AP VW6 ap ((t).opened y).s O1 := nA hV_VW6
     have z_VW6 := Nat.le_of_eq (congrArg (fun v : World => v.heap.size) hV_VW6).symm
     try simp only [SZ] at z_VW6
     clear kt c_kt f_kt
     clear hV_VW6
     clear hA
     have hA := n_A
     clear n_A
     clear hF
     have hF := n_F
     clear n_F
     have kt := n_kt; clear n_kt
     have c_kt := cells_of kt
     have f_kt := free_of kt
     have l_kt_VW6 := lt_of kt
     refine (lOpen_calls (t := t.opened y) (t.s.get y).k0 _ ⟨hA, kt, o_kt⟩).mono ?_
     rintro e_W6 W6 ⟨rfl, O2, hT_W6, hf_W6⟩
     clear kt c_kt f_kt o_kt; have kt := hT_W6.blk; have o_kt := hT_W6.no
     have c_kt := cells_of kt
     have f_kt := free_of kt
     have l_kt_W6 := lt_of kt
     replace hF := hF.trans hf_W6
     have z_W6 := hf_W6.size
     clear hA hf_W6; have hA := hT_W6.hA; clear hT_W6
     go_wp2_with fail
     refine calls_gen fun VW7 hV_VW7 => ?_
     have n_kt := congrArg (fun v : World => v.heap[tb]?) hV_VW7
     simp (maxDischargeDepth := 9) only [BK, not_false_eq_true, reduceCtorEq, kt, l_kt_w, l_kt_VW1, l_kt_W1, l_kt_VW2, l_kt_W2, l_kt_VW3, l_kt_W3, l_kt_VW4, l_kt_W4, l_kt_VW5, l_kt_W5, l_kt_VW6, l_kt_W6] at n_kt
     have n_F : Fr ((oneX tb)) O O2 w VW7 := nF hV_VW7
     have n_A : AP VW7 ap ((t.opened y).opened (t.s.get y).k0).s O2 := nA hV_VW7
     have z_VW7 := Nat.le_of_eq (congrArg (fun v : World => v.heap.size) hV_VW7).symm
     try simp only [SZ] at z_VW7
     clear kt c_kt f_kt
     clear hV_VW7
     clear hA
     have hA := n_A
     clear n_A
     clear hF
     have hF := n_F
     clear n_F
     have kt := n_kt; clear n_kt
     have c_kt := cells_of kt
     have f_kt := free_of kt
     have l_kt_VW7 := lt_of kt
     refine (lPair_calls (t := (t.opened y).opened (t.s.get y).k0) _ _ _ ⟨hA, kt, o_kt⟩).mono ?_
     rintro e_W7 W7 ⟨rfl, O3, hT_W7, hf_W7⟩
     clear kt c_kt f_kt o_kt; have kt := hT_W7.blk; have o_kt := hT_W7.no
     have c_kt := cells_of kt
     have f_kt := free_of kt
     have l_kt_W7 := lt_of kt
     replace hF := hF.trans hf_W7
     have z_W7 := hf_W7.size
     clear hA hf_W7; have hA := hT_W7.hA; clear hT_W7
     go_wp2_with fail
     refine calls_gen fun VW8 hV_VW8 => ?_
     have n_kt := congrArg (fun v : World => v.heap[tb]?) hV_VW8
     simp (maxDischargeDepth := 9) only [BK, not_false_eq_true, reduceCtorEq, kt, l_kt_w, l_kt_VW1, l_kt_W1, l_kt_VW2, l_kt_W2, l_kt_VW3, l_kt_W3, l_kt_VW4, l_kt_W4, l_kt_VW5, l_kt_W5, l_kt_VW6, l_kt_W6, l_kt_VW7, l_kt_W7] at n_kt
     have n_F : Fr ((oneX tb)) O O3 w VW8 := nF hV_VW8
     have n_A : AP VW8 ap ((((t.opened y).opened (t.s.get y).k0).lpair x ((t.opened y).s.get (t.s.get y).k0).k0).2).s O3 := nA hV_VW8
     have z_VW8 := Nat.le_of_eq (congrArg (fun v : World => v.heap.size) hV_VW8).symm
     try simp only [SZ] at z_VW8
     clear kt c_kt f_kt
     clear hV_VW8
     clear hA
     have hA := n_A
     clear n_A
     clear hF
     have hF := n_F
     clear n_F
     have kt := n_kt; clear n_kt
     have c_kt := cells_of kt
     have f_kt := free_of kt
     have l_kt_VW8 := lt_of kt
     refine (lPair_calls (t := (((t.opened y).opened (t.s.get y).k0).lpair x ((t.opened y).s.get (t.s.get y).k0).k0).2) _ _ _ ⟨hA, kt, o_kt⟩).mono ?_
     rintro e_W8 W8 ⟨rfl, O4, hT_W8, hf_W8⟩
     clear kt c_kt f_kt o_kt; have kt := hT_W8.blk; have o_kt := hT_W8.no
     have c_kt := cells_of kt
     have f_kt := free_of kt
     have l_kt_W8 := lt_of kt
     replace hF := hF.trans hf_W8
     have z_W8 := hf_W8.size
     clear hA hf_W8; have hA := hT_W8.hA; clear hT_W8
     go_wp2_with fail
     refine calls_gen fun VW9 hV_VW9 => ?_
     have n_kt := congrArg (fun v : World => v.heap[tb]?) hV_VW9
     simp (maxDischargeDepth := 9) only [BK, not_false_eq_true, reduceCtorEq, kt, l_kt_w, l_kt_VW1, l_kt_W1, l_kt_VW2, l_kt_W2, l_kt_VW3, l_kt_W3, l_kt_VW4, l_kt_W4, l_kt_VW5, l_kt_W5, l_kt_VW6, l_kt_W6, l_kt_VW7, l_kt_W7, l_kt_VW8, l_kt_W8] at n_kt
     have n_F : Fr ((oneX tb)) O O4 w VW9 := nF hV_VW9
     have n_A : AP VW9 ap ((((((t.opened y).opened (t.s.get y).k0).lpair x ((t.opened y).s.get (t.s.get y).k0).k0).2).lpair ((t.opened y).s.get (t.s.get y).k0).k1 (t.s.get y).k1).2).s O4 := nA hV_VW9
     have z_VW9 := Nat.le_of_eq (congrArg (fun v : World => v.heap.size) hV_VW9).symm
     try simp only [SZ] at z_VW9
     clear kt c_kt f_kt
     clear hV_VW9
     clear hA
     have hA := n_A
     clear n_A
     clear hF
     have hF := n_F
     clear n_F
     have kt := n_kt; clear n_kt
     have c_kt := cells_of kt
     have f_kt := free_of kt
     have l_kt_VW9 := lt_of kt
     refine (lPair_calls (t := ((((t.opened y).opened (t.s.get y).k0).lpair x ((t.opened y).s.get (t.s.get y).k0).k0).2.lpair ((t.opened y).s.get (t.s.get y).k0).k1 (t.s.get y).k1).2) _ _ _ ⟨hA, kt, o_kt⟩).mono ?_
     rintro e_W9 W9 ⟨rfl, O5, hT_W9, hf_W9⟩
     clear kt c_kt f_kt o_kt; have kt := hT_W9.blk; have o_kt := hT_W9.no
     have c_kt := cells_of kt
     have f_kt := free_of kt
     have l_kt_W9 := lt_of kt
     replace hF := hF.trans hf_W9
     have z_W9 := hf_W9.size
     clear hA hf_W9; have hA := hT_W9.hA; clear hT_W9
     go_wp2_with fail
     go_ret
     exact ⟨rfl, O5, ⟨hA, kt, o_kt⟩, hF⟩
   ·
    have d4 : decide (wrap64 (p + 1) < q) = false := by simpa using c3
    rw [if_neg c3] at hr
    clear c3
    obtain rfl := Option.some.inj hr
    clear hr
    go_enter Tryz.func90, Tryz.ntmps90
    have hA := hT.hA
    have kt := hT.blk
    have o_kt := hT.no
    have c_kt := cells_of kt
    have f_kt := free_of kt
    have l_kt_w := lt_of kt
    go_wp2_with fail
    refine calls_gen fun VW1 hV_VW1 => ?_
    have n_kt := congrArg (fun v : World => v.heap[tb]?) hV_VW1
    simp (maxDischargeDepth := 9) only [BK, not_false_eq_true, reduceCtorEq, kt, l_kt_w] at n_kt
    have n_F : Fr ((oneX tb)) O O w VW1 := nF hV_VW1
    have n_A : AP VW1 ap t.s O := nA hV_VW1
    have z_VW1 := Nat.le_of_eq (congrArg (fun v : World => v.heap.size) hV_VW1).symm
    try simp only [SZ] at z_VW1
    clear kt c_kt f_kt
    clear hV_VW1
    clear hA
    have hA := n_A
    clear n_A
    skip
    have hF := n_F
    clear n_F
    have kt := n_kt; clear n_kt
    have c_kt := cells_of kt
    have f_kt := free_of kt
    have l_kt_VW1 := lt_of kt
    refine (lHigh_calls (t := t) _ _ _ _ Hp.out ⟨hA, kt, o_kt⟩).mono ?_
    rintro e_W1 W1 ⟨rfl, hb_W1⟩
    replace hA := hA.below hb_W1
    replace hF := hF.below hb_W1
    replace kt := keep_blk hb_W1 kt
    have c_kt := cells_of kt
    have f_kt := free_of kt
    have l_kt_W1 := lt_of kt
    have z_W1 := hb_W1.size
    clear hb_W1
    go_wp2_with fail
    refine calls_gen fun VW2 hV_VW2 => ?_
    have n_kt := congrArg (fun v : World => v.heap[tb]?) hV_VW2
    simp (maxDischargeDepth := 9) only [BK, not_false_eq_true, reduceCtorEq, kt, l_kt_w, l_kt_VW1, l_kt_W1] at n_kt
    have n_F : Fr ((oneX tb)) O O w VW2 := nF hV_VW2
    have n_A : AP VW2 ap t.s O := nA hV_VW2
    have z_VW2 := Nat.le_of_eq (congrArg (fun v : World => v.heap.size) hV_VW2).symm
    try simp only [SZ] at z_VW2
    clear kt c_kt f_kt
    clear hV_VW2
    clear hA
    have hA := n_A
    clear n_A
    clear hF
    have hF := n_F
    clear n_F
    have kt := n_kt; clear n_kt
    have c_kt := cells_of kt
    have f_kt := free_of kt
    have l_kt_VW2 := lt_of kt
    refine (lHigh_calls (t := t) _ _ _ _ Hq.out ⟨hA, kt, o_kt⟩).mono ?_
    rintro e_W2 W2 ⟨rfl, hb_W2⟩
    replace hA := hA.below hb_W2
    replace hF := hF.below hb_W2
    replace kt := keep_blk hb_W2 kt
    have c_kt := cells_of kt
    have f_kt := free_of kt
    have l_kt_W2 := lt_of kt
    have z_W2 := hb_W2.size
    clear hb_W2
    go_wp2_with fail
    refine calls_gen fun VW3 hV_VW3 => ?_
    have n_kt := congrArg (fun v : World => v.heap[tb]?) hV_VW3
    simp (maxDischargeDepth := 9) only [BK, not_false_eq_true, reduceCtorEq, kt, l_kt_w, l_kt_VW1, l_kt_W1, l_kt_VW2, l_kt_W2] at n_kt
    have n_F : Fr ((oneX tb)) O O w VW3 := nF hV_VW3
    have n_A : AP VW3 ap t.s O := nA hV_VW3
    have z_VW3 := Nat.le_of_eq (congrArg (fun v : World => v.heap.size) hV_VW3).symm
    try simp only [SZ] at z_VW3
    clear kt c_kt f_kt
    clear hV_VW3
    clear hA
    have hA := n_A
    clear n_A
    clear hF
    have hF := n_F
    clear n_F
    have kt := n_kt; clear n_kt
    have c_kt := cells_of kt
    have f_kt := free_of kt
    have l_kt_VW3 := lt_of kt
    refine (lPair_calls (t := t) _ _ _ ⟨hA, kt, o_kt⟩).mono ?_
    rintro e_W3 W3 ⟨rfl, O1, hT_W3, hf_W3⟩
    clear kt c_kt f_kt o_kt; have kt := hT_W3.blk; have o_kt := hT_W3.no
    have c_kt := cells_of kt
    have f_kt := free_of kt
    have l_kt_W3 := lt_of kt
    replace hF := hF.trans hf_W3
    have z_W3 := hf_W3.size
    clear hA hf_W3; have hA := hT_W3.hA; clear hT_W3
    go_wp2_with fail
    go_ret
    exact ⟨rfl, O1, ⟨hA, kt, o_kt⟩, hF⟩
 ·
  have d1 : (t.e != 0) = true := by simp [he]
  rw [if_neg he] at hr
  clear he
  obtain rfl := Option.some.inj hr
  clear hr
  go_enter Tryz.func90, Tryz.ntmps90
  have hA := hT.hA
  have kt := hT.blk
  have o_kt := hT.no
  have c_kt := cells_of kt
  have f_kt := free_of kt
  have l_kt_w := lt_of kt
  go_wp2_with fail
  refine calls_gen fun VW1 hV_VW1 => ?_
  have n_kt := congrArg (fun v : World => v.heap[tb]?) hV_VW1
  simp (maxDischargeDepth := 9) only [BK, not_false_eq_true, reduceCtorEq, kt, l_kt_w] at n_kt
  have n_F : Fr ((oneX tb)) O O w VW1 := nF hV_VW1
  have n_A : AP VW1 ap t.s O := nA hV_VW1
  have z_VW1 := Nat.le_of_eq (congrArg (fun v : World => v.heap.size) hV_VW1).symm
  try simp only [SZ] at z_VW1
  clear kt c_kt f_kt
  clear hV_VW1
  clear hA
  have hA := n_A
  clear n_A
  skip
  have hF := n_F
  clear n_F
  have kt := n_kt; clear n_kt
  have c_kt := cells_of kt
  have f_kt := free_of kt
  have l_kt_VW1 := lt_of kt
  refine (lHigh_calls (t := t) _ _ _ _ Hp.out ⟨hA, kt, o_kt⟩).mono ?_
  rintro e_W1 W1 ⟨rfl, hb_W1⟩
  replace hA := hA.below hb_W1
  replace hF := hF.below hb_W1
  replace kt := keep_blk hb_W1 kt
  have c_kt := cells_of kt
  have f_kt := free_of kt
  have l_kt_W1 := lt_of kt
  have z_W1 := hb_W1.size
  clear hb_W1
  go_wp2_with fail
  refine calls_gen fun VW2 hV_VW2 => ?_
  have n_kt := congrArg (fun v : World => v.heap[tb]?) hV_VW2
  simp (maxDischargeDepth := 9) only [BK, not_false_eq_true, reduceCtorEq, kt, l_kt_w, l_kt_VW1, l_kt_W1] at n_kt
  have n_F : Fr ((oneX tb)) O O w VW2 := nF hV_VW2
  have n_A : AP VW2 ap t.s O := nA hV_VW2
  have z_VW2 := Nat.le_of_eq (congrArg (fun v : World => v.heap.size) hV_VW2).symm
  try simp only [SZ] at z_VW2
  clear kt c_kt f_kt
  clear hV_VW2
  clear hA
  have hA := n_A
  clear n_A
  clear hF
  have hF := n_F
  clear n_F
  have kt := n_kt; clear n_kt
  have c_kt := cells_of kt
  have f_kt := free_of kt
  have l_kt_VW2 := lt_of kt
  refine (lHigh_calls (t := t) _ _ _ _ Hq.out ⟨hA, kt, o_kt⟩).mono ?_
  rintro e_W2 W2 ⟨rfl, hb_W2⟩
  replace hA := hA.below hb_W2
  replace hF := hF.below hb_W2
  replace kt := keep_blk hb_W2 kt
  have c_kt := cells_of kt
  have f_kt := free_of kt
  have l_kt_W2 := lt_of kt
  have z_W2 := hb_W2.size
  clear hb_W2
  go_wp2_with fail
  refine calls_gen fun VW3 hV_VW3 => ?_
  have n_kt := congrArg (fun v : World => v.heap[tb]?) hV_VW3
  simp (maxDischargeDepth := 9) only [BK, not_false_eq_true, reduceCtorEq, kt, l_kt_w, l_kt_VW1, l_kt_W1, l_kt_VW2, l_kt_W2] at n_kt
  have n_F : Fr ((oneX tb)) O O w VW3 := nF hV_VW3
  have n_A : AP VW3 ap t.s O := nA hV_VW3
  have z_VW3 := Nat.le_of_eq (congrArg (fun v : World => v.heap.size) hV_VW3).symm
  try simp only [SZ] at z_VW3
  clear kt c_kt f_kt
  clear hV_VW3
  clear hA
  have hA := n_A
  clear n_A
  clear hF
  have hF := n_F
  clear n_F
  have kt := n_kt; clear n_kt
  have c_kt := cells_of kt
  have f_kt := free_of kt
  have l_kt_VW3 := lt_of kt
  refine (drop_calls _ _ hA).mono ?_
  rintro e_W3 W3 ⟨rfl, O1, hA_W3, hf_W3⟩
  have q_kt := hf_W3.keep kt o_kt (fun h => h)
  replace o_kt := hf_W3.not_own (lt_of kt) o_kt
  clear kt; have kt := q_kt; clear q_kt
  have c_kt := cells_of kt
  have f_kt := free_of kt
  have l_kt_W3 := lt_of kt
  replace hF := hF.trans hf_W3.widen
  have z_W3 := hf_W3.size
  clear hA hf_W3; have hA := hA_W3; clear hA_W3
  go_wp2_with fail
  refine calls_gen fun VW4 hV_VW4 => ?_
  have n_kt := congrArg (fun v : World => v.heap[tb]?) hV_VW4
  simp (maxDischargeDepth := 9) only [BK, not_false_eq_true, reduceCtorEq, kt, l_kt_w, l_kt_VW1, l_kt_W1, l_kt_VW2, l_kt_W2, l_kt_VW3, l_kt_W3] at n_kt
  have n_F : Fr ((oneX tb)) O O1 w VW4 := nF hV_VW4
  have n_A : AP VW4 ap (t.s.drop x) O1 := nA hV_VW4
  have z_VW4 := Nat.le_of_eq (congrArg (fun v : World => v.heap.size) hV_VW4).symm
  try simp only [SZ] at z_VW4
  clear kt c_kt f_kt
  clear hV_VW4
  clear hA
  have hA := n_A
  clear n_A
  clear hF
  have hF := n_F
  clear n_F
  have kt := n_kt; clear n_kt
  have c_kt := cells_of kt
  have f_kt := free_of kt
  have l_kt_VW4 := lt_of kt
  refine (drop_calls _ _ hA).mono ?_
  rintro e_W4 W4 ⟨rfl, O2, hA_W4, hf_W4⟩
  have q_kt := hf_W4.keep kt o_kt (fun h => h)
  replace o_kt := hf_W4.not_own (lt_of kt) o_kt
  clear kt; have kt := q_kt; clear q_kt
  have c_kt := cells_of kt
  have f_kt := free_of kt
  have l_kt_W4 := lt_of kt
  replace hF := hF.trans hf_W4.widen
  have z_W4 := hf_W4.size
  clear hA hf_W4; have hA := hA_W4; clear hA_W4
  go_wp2_with fail
  go_ret
  exact ⟨rfl, O2, ⟨hA, kt, o_kt⟩, hF⟩
end Go.Proofs.YtpdpcgmkpgfblaaGreat
/- The tree that makes nodes of lists: change, by a closure's contract. -/
namespace Go.Proofs.YtpdpcgmkpgfblaaGreat
set_option linter.unusedSimpArgs false
set_option linter.unusedVariables false
set_option linter.unnecessarySimpa false
open Go.RowKit
attribute [local go_sem ↓] Go.wp_at_zero Go.wp_at_succ
attribute [local go_sem] lt_s2 lt_s3 lt_s4
attribute [local go_sem] idx0 idx1 idx2 idx3
variable {ap : Value} {tb : Nat}
/-- What a closure of a number, and with what it captured, does to a list. -/
def OneC (tb : Nat) (ap : Value) (C : World → (Nat → Prop) → Prop) (f : FuncId) (caps : Array Value) (one : Tb → Int → Option (Int × Tb)) : Prop :=
 ∀ (t : Tb) (O : Nat → Prop) (h : Int) (r : Int × Tb) (w : World), one t h = some r → LB w tb ap t O → C w O →
  Calls Tryz.prog f (#[.int .i64 h] ++ caps) w fun e w' => e = .returned (.int .i64 r.1) ∧ DidL tb ap r.2 O w w'
/-- What a closure captured stays as it is. -/
def KeepC (tb : Nat) (C : World → (Nat → Prop) → Prop) : Prop := ∀ w w' O O', C w O → Fr (oneX tb) O O' w w' → C w' O'
section
variable {t : Tb} {O : Nat → Prop} {C : World → (Nat → Prop) → Prop} {f : FuncId} {caps : Array Value} {one : Tb → Int → Option (Int × Tb)}
set_option maxRecDepth 100000 in
set_option maxHeartbeats 2000000 in
theorem lChg_none (hfun : ∀ args w, (callFunc f args).run Tryz.prog w = .ok (.enter f args) w) (hKC : Hid (KeepC tb C)) (hone : Hid (OneC tb ap C f caps one)) (h i : Int) (r : Int × Tb) (w : World) (hr : one t h = some r) (h0 : lIs t.s h = false) (hT : LB w tb ap t O) (hC : C w O) :
  Calls Tryz.prog 87 #[.pointer (some ⟨tb, 0, none⟩), .int .i64 h, .int .i64 i, .func (.func f) #[] caps] w fun e w' => e = .returned (.int .i64 r.1) ∧ DidL tb ap r.2 O w w' := by
 have Hr := Lib.hid hr; clear hr
 have HC := Lib.hid hC; clear hC
 go_enter Tryz.func87, Tryz.ntmps87
 have hA := hT.hA
 have kt := hT.blk
 have o_kt := hT.no
 have c_kt := cells_of kt
 have f_kt := free_of kt
 have l_kt_w := lt_of kt
 go_wp2_with fail
 refine calls_gen fun V hV_V => ?_
 have n_kt := congrArg (fun v : World => v.heap[tb]?) hV_V
 simp (maxDischargeDepth := 9) only [BK, not_false_eq_true, reduceCtorEq, kt, l_kt_w] at n_kt
 have n_F : Fr ((oneX tb)) O O w V := nF hV_V
 have n_A : AP V ap t.s O := nA hV_V
 have z_V := Nat.le_of_eq (congrArg (fun v : World => v.heap.size) hV_V).symm
 try simp only [SZ] at z_V
 clear kt c_kt f_kt
 clear hV_V
 clear hA
 have hA := n_A
 clear n_A
 skip
 have hF := n_F
 clear n_F
 have kt := n_kt; clear n_kt
 have c_kt := cells_of kt
 have f_kt := free_of kt
 have l_kt_V := lt_of kt
 refine (lRow_calls _ _ hA).mono ?_
 rintro e_W1 W1 ⟨rfl, hb_W1⟩
 replace hA := hA.below hb_W1
 replace hF := hF.below hb_W1
 replace kt := keep_blk hb_W1 kt
 have c_kt := cells_of kt
 have f_kt := free_of kt
 have l_kt_W1 := lt_of kt
 have z_W1 := hb_W1.size
 clear hb_W1
 unfold Nd.val
 go_wp2_with fail
 refine calls_gen fun V1 hV_V1 => ?_
 have n_kt := congrArg (fun v : World => v.heap[tb]?) hV_V1
 simp (maxDischargeDepth := 9) only [BK, not_false_eq_true, reduceCtorEq, kt, l_kt_w, l_kt_V, l_kt_W1] at n_kt
 have n_F : Fr ((oneX tb)) O O w V1 := nF hV_V1
 have n_A : AP V1 ap t.s O := nA hV_V1
 have z_V1 := Nat.le_of_eq (congrArg (fun v : World => v.heap.size) hV_V1).symm
 try simp only [SZ] at z_V1
 clear kt c_kt f_kt
 clear hV_V1
 clear hA
 have hA := n_A
 clear n_A
 clear hF
 have hF := n_F
 clear n_F
 have kt := n_kt; clear n_kt
 have c_kt := cells_of kt
 have f_kt := free_of kt
 have l_kt_V1 := lt_of kt
 refine (hone.out t O h r _ Hr.out ⟨hA, kt, o_kt⟩ (hKC.out _ _ _ _ HC.out hF)).mono ?_
 rintro e_W2 W2 ⟨rfl, O1, hT_W2, hf_W2⟩
 clear kt c_kt f_kt o_kt; have kt := hT_W2.blk; have o_kt := hT_W2.no
 have c_kt := cells_of kt
 have f_kt := free_of kt
 have l_kt_W2 := lt_of kt
 replace hF := hF.trans hf_W2
 have z_W2 := hf_W2.size
 clear hA hf_W2; have hA := hT_W2.hA; clear hT_W2
 go_wp2_with fail
 go_ret
 exact ⟨rfl, O1, ⟨hA, kt, o_kt⟩, hF⟩
set_option maxRecDepth 100000 in
set_option maxHeartbeats 2000000 in
theorem lChg_item (hfun : ∀ args w, (callFunc f args).run Tryz.prog w = .ok (.enter f args) w) (hKC : Hid (KeepC tb C)) (hone : Hid (OneC tb ap C f caps one)) (h i : Int) (r : Int × Tb) (w : World) (hr : one t h = some r) (h0 : lIs t.s h = true) (d1 : ((t.s.get h).tag == 4) = true) (hT : LB w tb ap t O) (hC : C w O) :
  Calls Tryz.prog 87 #[.pointer (some ⟨tb, 0, none⟩), .int .i64 h, .int .i64 i, .func (.func f) #[] caps] w fun e w' => e = .returned (.int .i64 r.1) ∧ DidL tb ap r.2 O w w' := by
 have Hr := Lib.hid hr; clear hr
 have HC := Lib.hid hC; clear hC
 go_enter Tryz.func87, Tryz.ntmps87
 have hA := hT.hA
 have kt := hT.blk
 have o_kt := hT.no
 have c_kt := cells_of kt
 have f_kt := free_of kt
 have l_kt_w := lt_of kt
 go_wp2_with fail
 refine calls_gen fun V hV_V => ?_
 have n_kt := congrArg (fun v : World => v.heap[tb]?) hV_V
 simp (maxDischargeDepth := 9) only [BK, not_false_eq_true, reduceCtorEq, kt, l_kt_w] at n_kt
 have n_F : Fr ((oneX tb)) O O w V := nF hV_V
 have n_A : AP V ap t.s O := nA hV_V
 have z_V := Nat.le_of_eq (congrArg (fun v : World => v.heap.size) hV_V).symm
 try simp only [SZ] at z_V
 clear kt c_kt f_kt
 clear hV_V
 clear hA
 have hA := n_A
 clear n_A
 skip
 have hF := n_F
 clear n_F
 have kt := n_kt; clear n_kt
 have c_kt := cells_of kt
 have f_kt := free_of kt
 have l_kt_V := lt_of kt
 refine (lRow_calls _ _ hA).mono ?_
 rintro e_W1 W1 ⟨rfl, hb_W1⟩
 replace hA := hA.below hb_W1
 replace hF := hF.below hb_W1
 replace kt := keep_blk hb_W1 kt
 have c_kt := cells_of kt
 have f_kt := free_of kt
 have l_kt_W1 := lt_of kt
 have z_W1 := hb_W1.size
 clear hb_W1
 unfold Nd.val
 go_wp2_with fail
 refine calls_gen fun V1 hV_V1 => ?_
 have n_kt := congrArg (fun v : World => v.heap[tb]?) hV_V1
 simp (maxDischargeDepth := 9) only [BK, not_false_eq_true, reduceCtorEq, kt, l_kt_w, l_kt_V, l_kt_W1] at n_kt
 have n_F : Fr ((oneX tb)) O O w V1 := nF hV_V1
 have n_A : AP V1 ap t.s O := nA hV_V1
 have z_V1 := Nat.le_of_eq (congrArg (fun v : World => v.heap.size) hV_V1).symm
 try simp only [SZ] at z_V1
 clear kt c_kt f_kt
 clear hV_V1
 clear hA
 have hA := n_A
 clear n_A
 clear hF
 have hF := n_F
 clear n_F
 have kt := n_kt; clear n_kt
 have c_kt := cells_of kt
 have f_kt := free_of kt
 have l_kt_V1 := lt_of kt
 refine (hone.out t O h r _ Hr.out ⟨hA, kt, o_kt⟩ (hKC.out _ _ _ _ HC.out hF)).mono ?_
 rintro e_W2 W2 ⟨rfl, O1, hT_W2, hf_W2⟩
 clear kt c_kt f_kt o_kt; have kt := hT_W2.blk; have o_kt := hT_W2.no
 have c_kt := cells_of kt
 have f_kt := free_of kt
 have l_kt_W2 := lt_of kt
 replace hF := hF.trans hf_W2
 have z_W2 := hf_W2.size
 clear hA hf_W2; have hA := hT_W2.hA; clear hT_W2
 go_wp2_with fail
 go_ret
 exact ⟨rfl, O1, ⟨hA, kt, o_kt⟩, hF⟩
set_option maxRecDepth 100000 in
set_option maxHeartbeats 2000000 in
theorem lChg_high (k : Nat) (hKC : Hid (KeepC tb C)) (ih : Hid (∀ (t : Tb) (O : Nat → Prop) (h i : Int) (r : Int × Tb) (w : World), Tb.change one k t h i = some r → LB w tb ap t O → C w O → Calls Tryz.prog 87 #[.pointer (some ⟨tb, 0, none⟩), .int .i64 h, .int .i64 i, .func (.func f) #[] caps] w fun e w' => e = .returned (.int .i64 r.1) ∧ DidL tb ap r.2 O w w')) (h i : Int) (r : Int × Tb) (w : World) (h0 : lIs t.s h = true) (d1 : ((t.s.get h).tag == 4) = false) (d2 : decide (lLen t.s (t.s.get h).k0 ≤ i) = true)
  (hr : (Tb.change one k (t.keep (t.s.get h).k0) (t.s.get h).k1 (wrap64 (i - lLen t.s (t.s.get h).k0))).bind (fun r => r.2.join (t.s.get h).k0 r.1) = some r) (hT : LB w tb ap t O) (hC : C w O) :
  Calls Tryz.prog 87 #[.pointer (some ⟨tb, 0, none⟩), .int .i64 h, .int .i64 i, .func (.func f) #[] caps] w fun e w' => e = .returned (.int .i64 r.1) ∧ DidL tb ap r.2 O w w' := by
 obtain ⟨u, h_b, h_r⟩ := Option.bind_eq_some_iff.1 hr
 have Hu := Lib.hid h_b; clear h_b hr; have hr := h_r; clear h_r
 have Hr := Lib.hid hr; clear hr
 have HC := Lib.hid hC; clear hC
 go_enter Tryz.func87, Tryz.ntmps87
 have hA := hT.hA
 have kt := hT.blk
 have o_kt := hT.no
 have c_kt := cells_of kt
 have f_kt := free_of kt
 have l_kt_w := lt_of kt
 go_wp2_with fail
 refine calls_gen fun V hV_V => ?_
 have n_kt := congrArg (fun v : World => v.heap[tb]?) hV_V
 simp (maxDischargeDepth := 9) only [BK, not_false_eq_true, reduceCtorEq, kt, l_kt_w] at n_kt
 have n_F : Fr ((oneX tb)) O O w V := nF hV_V
 have n_A : AP V ap t.s O := nA hV_V
 have z_V := Nat.le_of_eq (congrArg (fun v : World => v.heap.size) hV_V).symm
 try simp only [SZ] at z_V
 clear kt c_kt f_kt
 clear hV_V
 clear hA
 have hA := n_A
 clear n_A
 skip
 have hF := n_F
 clear n_F
 have kt := n_kt; clear n_kt
 have c_kt := cells_of kt
 have f_kt := free_of kt
 have l_kt_V := lt_of kt
 refine (lRow_calls _ _ hA).mono ?_
 rintro e_W1 W1 ⟨rfl, hb_W1⟩
 replace hA := hA.below hb_W1
 replace hF := hF.below hb_W1
 replace kt := keep_blk hb_W1 kt
 have c_kt := cells_of kt
 have f_kt := free_of kt
 have l_kt_W1 := lt_of kt
 have z_W1 := hb_W1.size
 clear hb_W1
 unfold Nd.val
 go_wp2_with fail
 refine wp_gen fun V1 hV_V1 => ?_
 have n_kt := congrArg (fun v : World => v.heap[tb]?) hV_V1
 simp (maxDischargeDepth := 9) only [BK, not_false_eq_true, reduceCtorEq, kt, l_kt_w, l_kt_V, l_kt_W1] at n_kt
 have n_kn := congrArg (fun v : World => v.heap[W1.heap.size]?) hV_V1
 simp (maxDischargeDepth := 9) only [BK, not_false_eq_true, reduceCtorEq, kt, l_kt_w, l_kt_V, l_kt_W1] at n_kn
 have o_kn : ¬ O (W1.heap.size) := by first | exact hA.new (Nat.le_refl _) | exact hA.new (by omega)
 have n_F : Fr ((oneX tb)) O O w V1 := nF hV_V1
 have n_A : AP V1 ap t.s O := nA hV_V1
 have z_V1 := Nat.le_of_eq (congrArg (fun v : World => v.heap.size) hV_V1).symm
 try simp only [SZ] at z_V1
 clear kt c_kt f_kt
 clear hV_V1
 clear hA
 have hA := n_A
 clear n_A
 clear hF
 have hF := n_F
 clear n_F
 have kt := n_kt; clear n_kt
 have c_kt := cells_of kt
 have f_kt := free_of kt
 have l_kt_V1 := lt_of kt
 have kn := n_kn; clear n_kn
 have c_kn := cells_of kn
 have f_kn := free_of kn
 have l_kn_V1 := lt_of kn
 refine wp_region_noPanic ?_
 refine wp_region_held_drew (S := fun v => (∀ o, v.cell? ⟨tb, o, none⟩ = V1.cell? ⟨tb, o, none⟩) ∧ (∀ o, v.cell? ⟨W1.heap.size, o, none⟩ = V1.cell? ⟨W1.heap.size, o, none⟩) ∧ (V1.heap.size ≤ v.heap.size) ∧ AP v ap t.s O) (by kernel_rfl) ⟨(fun _ => rfl), (fun _ => rfl), (Nat.le_refl _), hA.drew⟩ (fun hHeld => ?_)
 generalize hV_V1d : V1.drew = V1d at hHeld ⊢
 have n_kt : V1d.heap[tb]? = V1.heap[tb]? := by rw [← hV_V1d]; rfl
 have d_kt := n_kt.trans kt
 clear n_kt c_kt f_kt
 have n_kn : V1d.heap[W1.heap.size]? = V1.heap[W1.heap.size]? := by rw [← hV_V1d]; rfl
 have d_kn := n_kn.trans kn
 clear n_kn c_kn f_kn
 have n_A : AP V1d ap t.s O := by rw [← hV_V1d]; exact hA.drew
 clear hA; have hA := n_A; clear n_A
 have n_F : Fr ((oneX tb)) O O w V1d := by rw [← hV_V1d]; exact hF.drew
 clear hF; have hF := n_F; clear n_F
 have z_V1d : V1.heap.size ≤ V1d.heap.size := by rw [← hV_V1d]; exact Nat.le_refl _
 have v_kt := cells_of kt
 have v_kn := cells_of kn
 clear kt; have kt := d_kt; clear d_kt
 clear kn; have kn := d_kn; clear d_kn
 have c_kt := cells_of kt
 have f_kt := free_of kt
 have l_kt_V1d := lt_of kt
 have c_kn := cells_of kn
 have f_kn := free_of kn
 have l_kn_V1d := lt_of kn
 clear hV_V1d
 refine ty (i := 0) (v := ?_) rfl hHeld ?_ ?_
 rotate_left
 focus (intro w hSw; go_simp; (try simp only [IntWalk.i64_left]); try (with_reducible rfl))
 try simp only [PT]
 refine ty (i := 1) (v := ?_) rfl hHeld ?_ ?_
 rotate_left
 focus (intro w hSw; go_simp; (try simp only [IntWalk.i64_left]); try (with_reducible rfl))
 try simp only [PT]
 refine ty (i := 2) (v := ?_) rfl hHeld ?_ ?_
 rotate_left
 focus (intro w hSw; go_simp; (try simp only [IntWalk.i64_left]); try (with_reducible rfl))
 try simp only [PT]
 refine ty (i := 3) (v := ?_) rfl hHeld ?_ ?_
 rotate_left
 focus (intro w hSw; go_simp; (try simp only [IntWalk.i64_left]); try (with_reducible rfl))
 try simp only [PT]
 refine ty (i := 4) (v := ?_) rfl hHeld ?_ ?_
 rotate_left
 focus (intro w hSw; go_simp; (try simp only [IntWalk.i64_left]); try (with_reducible rfl))
 try simp only [PT]
 refine ty (i := 5) (v := ?_) rfl hHeld ?_ ?_
 rotate_left
 focus (intro w hSw; go_simp; (try simp only [IntWalk.i64_left]); try (with_reducible rfl))
 try simp only [PT]
 refine ty (i := 6) (v := ?_) rfl hHeld ?_ ?_
 rotate_left
 focus (intro w hSw; go_simp; (try simp only [IntWalk.i64_left]); try (with_reducible rfl))
 try simp only [PT]
 refine wpAnyH_ready (rs := [7]) (by kernel_rfl) (by simp) ?_
 refine ready_at rfl (fun K hK => ?_) AllReadyH.nil
 go_simp
 try simp only [IntWalk.i64_left]
 refine (lLen_calls _ _ hA).mono ?_
 rintro e_W2 W2 ⟨rfl, hb_W2⟩
 replace hA := hA.below hb_W2
 replace hF := hF.below hb_W2
 replace kt := keep_blk hb_W2 kt
 have c_kt := cells_of kt
 have f_kt := free_of kt
 have l_kt_W2 := lt_of kt
 replace kn := keep_blk hb_W2 kn
 have c_kn := cells_of kn
 have f_kn := free_of kn
 have l_kn_W2 := lt_of kn
 have z_W2 := hb_W2.size
 clear hb_W2
 refine hK.out _ _ ⟨(fun o => (c_kt o).trans (v_kt o).symm), (fun o => (c_kn o).trans (v_kn o).symm), (by omega), hA⟩ (fun hHeld => ?_)
 clear hK K
 try simp only [PT]
 refine wpAnyH_ready (rs := [8]) (by kernel_rfl) (by simp) ?_
 refine ready_at rfl (fun K hK => ?_) AllReadyH.nil
 go_simp
 refine hK.out _ _ hHeld (fun hHeld => ?_)
 clear hK K
 try simp only [PT]
 refine wpAnyH_done (by kernel_rfl) ?_ _
 refine NoPanic.normal ?_
 go_wp2_with fail
 refine wp_gen fun V2 hV_V2 => ?_
 have n_kt := congrArg (fun v : World => v.heap[tb]?) hV_V2
 simp (maxDischargeDepth := 9) only [BK, not_false_eq_true, reduceCtorEq, kt, kn, l_kt_w, l_kt_V, l_kt_W1, l_kt_V1, l_kn_V1, l_kt_V1d, l_kn_V1d, l_kt_W2, l_kn_W2] at n_kt
 have n_kn := congrArg (fun v : World => v.heap[W1.heap.size]?) hV_V2
 simp (maxDischargeDepth := 9) only [BK, not_false_eq_true, reduceCtorEq, kt, kn, l_kt_w, l_kt_V, l_kt_W1, l_kt_V1, l_kn_V1, l_kt_V1d, l_kn_V1d, l_kt_W2, l_kn_W2] at n_kn
 have n_F : Fr ((oneX tb)) O O w V2 := nF hV_V2
 have n_A : AP V2 ap t.s O := nA hV_V2
 have z_V2 := Nat.le_of_eq (congrArg (fun v : World => v.heap.size) hV_V2).symm
 try simp only [SZ] at z_V2
 clear kt c_kt f_kt
 clear kn c_kn f_kn
 clear hV_V2
 clear hA
 have hA := n_A
 clear n_A
 clear hF
 have hF := n_F
 clear n_F
 have kt := n_kt; clear n_kt
 have c_kt := cells_of kt
 have f_kt := free_of kt
 have l_kt_V2 := lt_of kt
 have kn := n_kn; clear n_kn
 have c_kn := cells_of kn
 have f_kn := free_of kn
 have l_kn_V2 := lt_of kn
 refine wp_region_noPanic ?_
 refine wp_region_held_drew (S := fun v => (v.cell? ⟨tb, 0, none⟩ = V2.cell? ⟨tb, 0, none⟩) ∧ (∀ o, v.cell? ⟨W1.heap.size, o, none⟩ = V2.cell? ⟨W1.heap.size, o, none⟩) ∧ (V2.heap.size ≤ v.heap.size) ∧ True) (by kernel_rfl) ⟨rfl, (fun _ => rfl), (Nat.le_refl _), trivial⟩ (fun hHeld => ?_)
 generalize hV_V2d : V2.drew = V2d at hHeld ⊢
 have n_kt : V2d.heap[tb]? = V2.heap[tb]? := by rw [← hV_V2d]; rfl
 have d_kt := n_kt.trans kt
 clear n_kt c_kt f_kt
 have n_kn : V2d.heap[W1.heap.size]? = V2.heap[W1.heap.size]? := by rw [← hV_V2d]; rfl
 have d_kn := n_kn.trans kn
 clear n_kn c_kn f_kn
 have n_A : AP V2d ap t.s O := by rw [← hV_V2d]; exact hA.drew
 clear hA; have hA := n_A; clear n_A
 have n_F : Fr ((oneX tb)) O O w V2d := by rw [← hV_V2d]; exact hF.drew
 clear hF; have hF := n_F; clear n_F
 have z_V2d : V2.heap.size ≤ V2d.heap.size := by rw [← hV_V2d]; exact Nat.le_refl _
 have v_kt := cells_of kt
 have v_kn := cells_of kn
 clear kt; have kt := d_kt; clear d_kt
 clear kn; have kn := d_kn; clear d_kn
 have c_kt := cells_of kt
 have f_kt := free_of kt
 have l_kt_V2d := lt_of kt
 have c_kn := cells_of kn
 have f_kn := free_of kn
 have l_kn_V2d := lt_of kn
 clear hV_V2d
 refine ty (i := 0) (v := ?_) rfl hHeld ?_ ?_
 rotate_left
 focus (intro w hSw; go_simp; (try simp only [IntWalk.i64_left]); try (with_reducible rfl))
 try simp only [PT]
 refine ty (i := 1) (v := ?_) rfl hHeld ?_ ?_
 rotate_left
 focus (intro w hSw; go_simp; (try simp only [IntWalk.i64_left]); try (with_reducible rfl))
 try simp only [PT]
 refine ty (i := 2) (v := ?_) rfl hHeld ?_ ?_
 rotate_left
 focus (intro w hSw; go_simp; (try simp only [IntWalk.i64_left]); try (with_reducible rfl))
 try simp only [PT]
 refine ty (i := 3) (v := ?_) rfl hHeld ?_ ?_
 rotate_left
 focus (intro w hSw; go_simp; (try simp only [IntWalk.i64_left]); try (with_reducible rfl))
 try simp only [PT]
 refine ty (i := 4) (v := ?_) rfl hHeld ?_ ?_
 rotate_left
 focus (intro w hSw; go_simp; (try simp only [IntWalk.i64_left]); try (with_reducible rfl))
 try simp only [PT]
 refine ty (i := 6) (v := ?_) rfl hHeld ?_ ?_
 rotate_left
 focus (intro w hSw; go_simp; (try simp only [IntWalk.i64_left]); try (with_reducible rfl))
 try simp only [PT]
 refine ty (i := 7) (v := ?_) rfl hHeld ?_ ?_
 rotate_left
 focus (intro w hSw; go_simp; (try simp only [IntWalk.i64_left]); try (with_reducible rfl))
 try simp only [PT]
 refine ty (i := 8) (v := ?_) rfl hHeld ?_ ?_
 rotate_left
 focus (intro w hSw; go_simp; (try simp only [IntWalk.i64_left]); try (with_reducible rfl))
 try simp only [PT]
 refine ty (i := 9) (v := ?_) rfl hHeld ?_ ?_
 rotate_left
 focus (intro w hSw; go_simp; (try simp only [IntWalk.i64_left]); try (with_reducible rfl))
 try simp only [PT]
 refine ty (i := 10) (v := ?_) rfl hHeld ?_ ?_
 rotate_left
 focus (intro w hSw; go_simp; (try simp only [IntWalk.i64_left]); try (with_reducible rfl))
 try simp only [PT]
 refine ty (i := 11) (v := ?_) rfl hHeld ?_ ?_
 rotate_left
 focus (intro w hSw; go_simp; (try simp only [IntWalk.i64_left]); try (with_reducible rfl))
 try simp only [PT]
 refine ty (i := 12) (v := ?_) rfl hHeld ?_ ?_
 rotate_left
 focus (intro w hSw; go_simp; (try simp only [IntWalk.i64_left]); try (with_reducible rfl))
 try simp only [PT]
 refine ty (i := 13) (v := ?_) rfl hHeld ?_ ?_
 rotate_left
 focus (intro w hSw; go_simp; (try simp only [IntWalk.i64_left]); try (with_reducible rfl))
 try simp only [PT]
 refine wpAnyH_ready (rs := [5]) (by kernel_rfl) (by simp) ?_
 refine ready_at rfl (fun K hK => ?_) AllReadyH.nil
 go_simp
 try simp only [IntWalk.i64_left]
 refine (lKeep_calls (t := t) (t.s.get h).k0 _ ⟨hA, kt, o_kt⟩).mono ?_
 rintro e_W3 W3 ⟨rfl, O1, hT_W3, hf_W3⟩
 have q_kn := hf_W3.keep kn o_kn (by unfold oneX; omega)
 replace o_kn := hf_W3.not_own (lt_of kn) o_kn
 clear kn; have kn := q_kn; clear q_kn
 have c_kn := cells_of kn
 have f_kn := free_of kn
 have l_kn_W3 := lt_of kn
 clear kt c_kt f_kt o_kt; have kt := hT_W3.blk; have o_kt := hT_W3.no
 have c_kt := cells_of kt
 have f_kt := free_of kt
 have l_kt_W3 := lt_of kt
 replace hF := hF.trans hf_W3
 have z_W3 := hf_W3.size
 clear hA hf_W3; have hA := hT_W3.hA; clear hT_W3
 refine hK.out _ _ ⟨((c_kt 0).trans (v_kt 0).symm), (fun o => (c_kn o).trans (v_kn o).symm), (by omega), trivial⟩ (fun hHeld => ?_)
 clear hK K
 try simp only [PT]
 refine wpAnyH_ready (rs := [14]) (by kernel_rfl) (by simp) ?_
 refine ready_at rfl (fun K hK => ?_) AllReadyH.nil
 go_simp
 try simp only [IntWalk.i64_left]
 refine (ih.out (t.keep (t.s.get h).k0) _ _ _ _ _ Hu.out ⟨hA, kt, o_kt⟩ (hKC.out _ _ _ _ HC.out hF)).mono ?_
 rintro e_W4 W4 ⟨rfl, O2, hT_W4, hf_W4⟩
 have q_kn := hf_W4.keep kn o_kn (by unfold oneX; omega)
 replace o_kn := hf_W4.not_own (lt_of kn) o_kn
 clear kn; have kn := q_kn; clear q_kn
 have c_kn := cells_of kn
 have f_kn := free_of kn
 have l_kn_W4 := lt_of kn
 clear kt c_kt f_kt o_kt; have kt := hT_W4.blk; have o_kt := hT_W4.no
 have c_kt := cells_of kt
 have f_kt := free_of kt
 have l_kt_W4 := lt_of kt
 replace hF := hF.trans hf_W4
 have z_W4 := hf_W4.size
 clear hA hf_W4; have hA := hT_W4.hA; clear hT_W4
 refine hK.out _ _ ⟨((c_kt 0).trans (v_kt 0).symm), (fun o => (c_kn o).trans (v_kn o).symm), (by omega), trivial⟩ (fun hHeld => ?_)
 clear hK K
 try simp only [PT]
 refine wpAnyH_ready (rs := [15]) (by kernel_rfl) (by simp) ?_
 refine ready_at rfl (fun K hK => ?_) AllReadyH.nil
 go_simp
 try simp only [IntWalk.i64_left]
 refine (lJoin_calls (t := u.2) _ _ _ Hr.out _ ⟨hA, kt, o_kt⟩).mono ?_
 rintro e_W5 W5 ⟨rfl, O3, hT_W5, hf_W5⟩
 have q_kn := hf_W5.keep kn o_kn (by unfold oneX; omega)
 replace o_kn := hf_W5.not_own (lt_of kn) o_kn
 clear kn; have kn := q_kn; clear q_kn
 have c_kn := cells_of kn
 have f_kn := free_of kn
 have l_kn_W5 := lt_of kn
 clear kt c_kt f_kt o_kt; have kt := hT_W5.blk; have o_kt := hT_W5.no
 have c_kt := cells_of kt
 have f_kt := free_of kt
 have l_kt_W5 := lt_of kt
 replace hF := hF.trans hf_W5
 have z_W5 := hf_W5.size
 clear hA hf_W5; have hA := hT_W5.hA; clear hT_W5
 refine hK.out _ _ ⟨((c_kt 0).trans (v_kt 0).symm), (fun o => (c_kn o).trans (v_kn o).symm), (by omega), trivial⟩ (fun hHeld => ?_)
 clear hK K
 try simp only [PT]
 refine wpAnyH_ready (rs := [16]) (by kernel_rfl) (by simp) ?_
 refine ready_at rfl (fun K hK => ?_) AllReadyH.nil
 go_simp
 refine hK.out _ _ hHeld (fun hHeld => ?_)
 clear hK K
 try simp only [PT]
 refine wpAnyH_done (by kernel_rfl) ?_ _
 refine NoPanic.normal ?_
 go_wp2_with fail
 go_ret
 exact ⟨rfl, O3, ⟨hA, kt, o_kt⟩, hF⟩
set_option maxRecDepth 100000 in
set_option maxHeartbeats 2000000 in
theorem lChg_low (k : Nat) (hKC : Hid (KeepC tb C)) (ih : Hid (∀ (t : Tb) (O : Nat → Prop) (h i : Int) (r : Int × Tb) (w : World), Tb.change one k t h i = some r → LB w tb ap t O → C w O → Calls Tryz.prog 87 #[.pointer (some ⟨tb, 0, none⟩), .int .i64 h, .int .i64 i, .func (.func f) #[] caps] w fun e w' => e = .returned (.int .i64 r.1) ∧ DidL tb ap r.2 O w w')) (h i : Int) (r : Int × Tb) (w : World) (h0 : lIs t.s h = true) (d1 : ((t.s.get h).tag == 4) = false) (d2 : decide (lLen t.s (t.s.get h).k0 ≤ i) = false)
  (hr : (Tb.change one k t (t.s.get h).k0 i).bind (fun r => (r.2.keep (t.s.get h).k1).join r.1 (t.s.get h).k1) = some r) (hT : LB w tb ap t O) (hC : C w O) :
  Calls Tryz.prog 87 #[.pointer (some ⟨tb, 0, none⟩), .int .i64 h, .int .i64 i, .func (.func f) #[] caps] w fun e w' => e = .returned (.int .i64 r.1) ∧ DidL tb ap r.2 O w w' := by
 obtain ⟨u, h_b, h_r⟩ := Option.bind_eq_some_iff.1 hr
 have Hu := Lib.hid h_b; clear h_b hr; have hr := h_r; clear h_r
 have Hr := Lib.hid hr; clear hr
 have HC := Lib.hid hC; clear hC
 go_enter Tryz.func87, Tryz.ntmps87
 have hA := hT.hA
 have kt := hT.blk
 have o_kt := hT.no
 have c_kt := cells_of kt
 have f_kt := free_of kt
 have l_kt_w := lt_of kt
 go_wp2_with fail
 refine calls_gen fun V hV_V => ?_
 have n_kt := congrArg (fun v : World => v.heap[tb]?) hV_V
 simp (maxDischargeDepth := 9) only [BK, not_false_eq_true, reduceCtorEq, kt, l_kt_w] at n_kt
 have n_F : Fr ((oneX tb)) O O w V := nF hV_V
 have n_A : AP V ap t.s O := nA hV_V
 have z_V := Nat.le_of_eq (congrArg (fun v : World => v.heap.size) hV_V).symm
 try simp only [SZ] at z_V
 clear kt c_kt f_kt
 clear hV_V
 clear hA
 have hA := n_A
 clear n_A
 skip
 have hF := n_F
 clear n_F
 have kt := n_kt; clear n_kt
 have c_kt := cells_of kt
 have f_kt := free_of kt
 have l_kt_V := lt_of kt
 refine (lRow_calls _ _ hA).mono ?_
 rintro e_W1 W1 ⟨rfl, hb_W1⟩
 replace hA := hA.below hb_W1
 replace hF := hF.below hb_W1
 replace kt := keep_blk hb_W1 kt
 have c_kt := cells_of kt
 have f_kt := free_of kt
 have l_kt_W1 := lt_of kt
 have z_W1 := hb_W1.size
 clear hb_W1
 unfold Nd.val
 go_wp2_with fail
 refine wp_gen fun V1 hV_V1 => ?_
 have n_kt := congrArg (fun v : World => v.heap[tb]?) hV_V1
 simp (maxDischargeDepth := 9) only [BK, not_false_eq_true, reduceCtorEq, kt, l_kt_w, l_kt_V, l_kt_W1] at n_kt
 have n_kn := congrArg (fun v : World => v.heap[W1.heap.size]?) hV_V1
 simp (maxDischargeDepth := 9) only [BK, not_false_eq_true, reduceCtorEq, kt, l_kt_w, l_kt_V, l_kt_W1] at n_kn
 have o_kn : ¬ O (W1.heap.size) := by first | exact hA.new (Nat.le_refl _) | exact hA.new (by omega)
 have n_F : Fr ((oneX tb)) O O w V1 := nF hV_V1
 have n_A : AP V1 ap t.s O := nA hV_V1
 have z_V1 := Nat.le_of_eq (congrArg (fun v : World => v.heap.size) hV_V1).symm
 try simp only [SZ] at z_V1
 clear kt c_kt f_kt
 clear hV_V1
 clear hA
 have hA := n_A
 clear n_A
 clear hF
 have hF := n_F
 clear n_F
 have kt := n_kt; clear n_kt
 have c_kt := cells_of kt
 have f_kt := free_of kt
 have l_kt_V1 := lt_of kt
 have kn := n_kn; clear n_kn
 have c_kn := cells_of kn
 have f_kn := free_of kn
 have l_kn_V1 := lt_of kn
 refine wp_region_noPanic ?_
 refine wp_region_held_drew (S := fun v => (∀ o, v.cell? ⟨tb, o, none⟩ = V1.cell? ⟨tb, o, none⟩) ∧ (∀ o, v.cell? ⟨W1.heap.size, o, none⟩ = V1.cell? ⟨W1.heap.size, o, none⟩) ∧ (V1.heap.size ≤ v.heap.size) ∧ AP v ap t.s O) (by kernel_rfl) ⟨(fun _ => rfl), (fun _ => rfl), (Nat.le_refl _), hA.drew⟩ (fun hHeld => ?_)
 generalize hV_V1d : V1.drew = V1d at hHeld ⊢
 have n_kt : V1d.heap[tb]? = V1.heap[tb]? := by rw [← hV_V1d]; rfl
 have d_kt := n_kt.trans kt
 clear n_kt c_kt f_kt
 have n_kn : V1d.heap[W1.heap.size]? = V1.heap[W1.heap.size]? := by rw [← hV_V1d]; rfl
 have d_kn := n_kn.trans kn
 clear n_kn c_kn f_kn
 have n_A : AP V1d ap t.s O := by rw [← hV_V1d]; exact hA.drew
 clear hA; have hA := n_A; clear n_A
 have n_F : Fr ((oneX tb)) O O w V1d := by rw [← hV_V1d]; exact hF.drew
 clear hF; have hF := n_F; clear n_F
 have z_V1d : V1.heap.size ≤ V1d.heap.size := by rw [← hV_V1d]; exact Nat.le_refl _
 have v_kt := cells_of kt
 have v_kn := cells_of kn
 clear kt; have kt := d_kt; clear d_kt
 clear kn; have kn := d_kn; clear d_kn
 have c_kt := cells_of kt
 have f_kt := free_of kt
 have l_kt_V1d := lt_of kt
 have c_kn := cells_of kn
 have f_kn := free_of kn
 have l_kn_V1d := lt_of kn
 clear hV_V1d
 refine ty (i := 0) (v := ?_) rfl hHeld ?_ ?_
 rotate_left
 focus (intro w hSw; go_simp; (try simp only [IntWalk.i64_left]); try (with_reducible rfl))
 try simp only [PT]
 refine ty (i := 1) (v := ?_) rfl hHeld ?_ ?_
 rotate_left
 focus (intro w hSw; go_simp; (try simp only [IntWalk.i64_left]); try (with_reducible rfl))
 try simp only [PT]
 refine ty (i := 2) (v := ?_) rfl hHeld ?_ ?_
 rotate_left
 focus (intro w hSw; go_simp; (try simp only [IntWalk.i64_left]); try (with_reducible rfl))
 try simp only [PT]
 refine ty (i := 3) (v := ?_) rfl hHeld ?_ ?_
 rotate_left
 focus (intro w hSw; go_simp; (try simp only [IntWalk.i64_left]); try (with_reducible rfl))
 try simp only [PT]
 refine ty (i := 4) (v := ?_) rfl hHeld ?_ ?_
 rotate_left
 focus (intro w hSw; go_simp; (try simp only [IntWalk.i64_left]); try (with_reducible rfl))
 try simp only [PT]
 refine ty (i := 5) (v := ?_) rfl hHeld ?_ ?_
 rotate_left
 focus (intro w hSw; go_simp; (try simp only [IntWalk.i64_left]); try (with_reducible rfl))
 try simp only [PT]
 refine ty (i := 6) (v := ?_) rfl hHeld ?_ ?_
 rotate_left
 focus (intro w hSw; go_simp; (try simp only [IntWalk.i64_left]); try (with_reducible rfl))
 try simp only [PT]
 refine wpAnyH_ready (rs := [7]) (by kernel_rfl) (by simp) ?_
 refine ready_at rfl (fun K hK => ?_) AllReadyH.nil
 go_simp
 try simp only [IntWalk.i64_left]
 refine (lLen_calls _ _ hA).mono ?_
 rintro e_W2 W2 ⟨rfl, hb_W2⟩
 replace hA := hA.below hb_W2
 replace hF := hF.below hb_W2
 replace kt := keep_blk hb_W2 kt
 have c_kt := cells_of kt
 have f_kt := free_of kt
 have l_kt_W2 := lt_of kt
 replace kn := keep_blk hb_W2 kn
 have c_kn := cells_of kn
 have f_kn := free_of kn
 have l_kn_W2 := lt_of kn
 have z_W2 := hb_W2.size
 clear hb_W2
 refine hK.out _ _ ⟨(fun o => (c_kt o).trans (v_kt o).symm), (fun o => (c_kn o).trans (v_kn o).symm), (by omega), hA⟩ (fun hHeld => ?_)
 clear hK K
 try simp only [PT]
 refine wpAnyH_ready (rs := [8]) (by kernel_rfl) (by simp) ?_
 refine ready_at rfl (fun K hK => ?_) AllReadyH.nil
 go_simp
 refine hK.out _ _ hHeld (fun hHeld => ?_)
 clear hK K
 try simp only [PT]
 refine wpAnyH_done (by kernel_rfl) ?_ _
 refine NoPanic.normal ?_
 go_wp2_with fail
 refine wp_gen fun V2 hV_V2 => ?_
 have n_kt := congrArg (fun v : World => v.heap[tb]?) hV_V2
 simp (maxDischargeDepth := 9) only [BK, not_false_eq_true, reduceCtorEq, kt, kn, l_kt_w, l_kt_V, l_kt_W1, l_kt_V1, l_kn_V1, l_kt_V1d, l_kn_V1d, l_kt_W2, l_kn_W2] at n_kt
 have n_kn := congrArg (fun v : World => v.heap[W1.heap.size]?) hV_V2
 simp (maxDischargeDepth := 9) only [BK, not_false_eq_true, reduceCtorEq, kt, kn, l_kt_w, l_kt_V, l_kt_W1, l_kt_V1, l_kn_V1, l_kt_V1d, l_kn_V1d, l_kt_W2, l_kn_W2] at n_kn
 have n_F : Fr ((oneX tb)) O O w V2 := nF hV_V2
 have n_A : AP V2 ap t.s O := nA hV_V2
 have z_V2 := Nat.le_of_eq (congrArg (fun v : World => v.heap.size) hV_V2).symm
 try simp only [SZ] at z_V2
 clear kt c_kt f_kt
 clear kn c_kn f_kn
 clear hV_V2
 clear hA
 have hA := n_A
 clear n_A
 clear hF
 have hF := n_F
 clear n_F
 have kt := n_kt; clear n_kt
 have c_kt := cells_of kt
 have f_kt := free_of kt
 have l_kt_V2 := lt_of kt
 have kn := n_kn; clear n_kn
 have c_kn := cells_of kn
 have f_kn := free_of kn
 have l_kn_V2 := lt_of kn
 refine wp_region_noPanic ?_
 refine wp_region_held_drew (S := fun v => (v.cell? ⟨tb, 0, none⟩ = V2.cell? ⟨tb, 0, none⟩) ∧ (∀ o, v.cell? ⟨W1.heap.size, o, none⟩ = V2.cell? ⟨W1.heap.size, o, none⟩) ∧ (V2.heap.size ≤ v.heap.size) ∧ True) (by kernel_rfl) ⟨rfl, (fun _ => rfl), (Nat.le_refl _), trivial⟩ (fun hHeld => ?_)
 generalize hV_V2d : V2.drew = V2d at hHeld ⊢
 have n_kt : V2d.heap[tb]? = V2.heap[tb]? := by rw [← hV_V2d]; rfl
 have d_kt := n_kt.trans kt
 clear n_kt c_kt f_kt
 have n_kn : V2d.heap[W1.heap.size]? = V2.heap[W1.heap.size]? := by rw [← hV_V2d]; rfl
 have d_kn := n_kn.trans kn
 clear n_kn c_kn f_kn
 have n_A : AP V2d ap t.s O := by rw [← hV_V2d]; exact hA.drew
 clear hA; have hA := n_A; clear n_A
 have n_F : Fr ((oneX tb)) O O w V2d := by rw [← hV_V2d]; exact hF.drew
 clear hF; have hF := n_F; clear n_F
 have z_V2d : V2.heap.size ≤ V2d.heap.size := by rw [← hV_V2d]; exact Nat.le_refl _
 have v_kt := cells_of kt
 have v_kn := cells_of kn
 clear kt; have kt := d_kt; clear d_kt
 clear kn; have kn := d_kn; clear d_kn
 have c_kt := cells_of kt
 have f_kt := free_of kt
 have l_kt_V2d := lt_of kt
 have c_kn := cells_of kn
 have f_kn := free_of kn
 have l_kn_V2d := lt_of kn
 clear hV_V2d
 refine ty (i := 0) (v := ?_) rfl hHeld ?_ ?_
 rotate_left
 focus (intro w hSw; go_simp; (try simp only [IntWalk.i64_left]); try (with_reducible rfl))
 try simp only [PT]
 refine ty (i := 1) (v := ?_) rfl hHeld ?_ ?_
 rotate_left
 focus (intro w hSw; go_simp; (try simp only [IntWalk.i64_left]); try (with_reducible rfl))
 try simp only [PT]
 refine ty (i := 2) (v := ?_) rfl hHeld ?_ ?_
 rotate_left
 focus (intro w hSw; go_simp; (try simp only [IntWalk.i64_left]); try (with_reducible rfl))
 try simp only [PT]
 refine ty (i := 3) (v := ?_) rfl hHeld ?_ ?_
 rotate_left
 focus (intro w hSw; go_simp; (try simp only [IntWalk.i64_left]); try (with_reducible rfl))
 try simp only [PT]
 refine ty (i := 4) (v := ?_) rfl hHeld ?_ ?_
 rotate_left
 focus (intro w hSw; go_simp; (try simp only [IntWalk.i64_left]); try (with_reducible rfl))
 try simp only [PT]
 refine ty (i := 5) (v := ?_) rfl hHeld ?_ ?_
 rotate_left
 focus (intro w hSw; go_simp; (try simp only [IntWalk.i64_left]); try (with_reducible rfl))
 try simp only [PT]
 refine ty (i := 6) (v := ?_) rfl hHeld ?_ ?_
 rotate_left
 focus (intro w hSw; go_simp; (try simp only [IntWalk.i64_left]); try (with_reducible rfl))
 try simp only [PT]
 refine ty (i := 8) (v := ?_) rfl hHeld ?_ ?_
 rotate_left
 focus (intro w hSw; go_simp; (try simp only [IntWalk.i64_left]); try (with_reducible rfl))
 try simp only [PT]
 refine ty (i := 9) (v := ?_) rfl hHeld ?_ ?_
 rotate_left
 focus (intro w hSw; go_simp; (try simp only [IntWalk.i64_left]); try (with_reducible rfl))
 try simp only [PT]
 refine ty (i := 10) (v := ?_) rfl hHeld ?_ ?_
 rotate_left
 focus (intro w hSw; go_simp; (try simp only [IntWalk.i64_left]); try (with_reducible rfl))
 try simp only [PT]
 refine ty (i := 11) (v := ?_) rfl hHeld ?_ ?_
 rotate_left
 focus (intro w hSw; go_simp; (try simp only [IntWalk.i64_left]); try (with_reducible rfl))
 try simp only [PT]
 refine wpAnyH_ready (rs := [7]) (by kernel_rfl) (by simp) ?_
 refine ready_at rfl (fun K hK => ?_) AllReadyH.nil
 go_simp
 try simp only [IntWalk.i64_left]
 refine (ih.out t _ _ _ _ _ Hu.out ⟨hA, kt, o_kt⟩ (hKC.out _ _ _ _ HC.out hF)).mono ?_
 rintro e_W3 W3 ⟨rfl, O1, hT_W3, hf_W3⟩
 have q_kn := hf_W3.keep kn o_kn (by unfold oneX; omega)
 replace o_kn := hf_W3.not_own (lt_of kn) o_kn
 clear kn; have kn := q_kn; clear q_kn
 have c_kn := cells_of kn
 have f_kn := free_of kn
 have l_kn_W3 := lt_of kn
 clear kt c_kt f_kt o_kt; have kt := hT_W3.blk; have o_kt := hT_W3.no
 have c_kt := cells_of kt
 have f_kt := free_of kt
 have l_kt_W3 := lt_of kt
 replace hF := hF.trans hf_W3
 have z_W3 := hf_W3.size
 clear hA hf_W3; have hA := hT_W3.hA; clear hT_W3
 refine hK.out _ _ ⟨((c_kt 0).trans (v_kt 0).symm), (fun o => (c_kn o).trans (v_kn o).symm), (by omega), trivial⟩ (fun hHeld => ?_)
 clear hK K
 try simp only [PT]
 refine wpAnyH_ready (rs := [12]) (by kernel_rfl) (by simp) ?_
 refine ready_at rfl (fun K hK => ?_) AllReadyH.nil
 go_simp
 try simp only [IntWalk.i64_left]
 refine (lKeep_calls (t := u.2) (t.s.get h).k1 _ ⟨hA, kt, o_kt⟩).mono ?_
 rintro e_W4 W4 ⟨rfl, O2, hT_W4, hf_W4⟩
 have q_kn := hf_W4.keep kn o_kn (by unfold oneX; omega)
 replace o_kn := hf_W4.not_own (lt_of kn) o_kn
 clear kn; have kn := q_kn; clear q_kn
 have c_kn := cells_of kn
 have f_kn := free_of kn
 have l_kn_W4 := lt_of kn
 clear kt c_kt f_kt o_kt; have kt := hT_W4.blk; have o_kt := hT_W4.no
 have c_kt := cells_of kt
 have f_kt := free_of kt
 have l_kt_W4 := lt_of kt
 replace hF := hF.trans hf_W4
 have z_W4 := hf_W4.size
 clear hA hf_W4; have hA := hT_W4.hA; clear hT_W4
 refine hK.out _ _ ⟨((c_kt 0).trans (v_kt 0).symm), (fun o => (c_kn o).trans (v_kn o).symm), (by omega), trivial⟩ (fun hHeld => ?_)
 clear hK K
 try simp only [PT]
 refine wpAnyH_ready (rs := [13]) (by kernel_rfl) (by simp) ?_
 refine ready_at rfl (fun K hK => ?_) AllReadyH.nil
 go_simp
 try simp only [IntWalk.i64_left]
 refine (lJoin_calls (t := u.2.keep (t.s.get h).k1) _ _ _ Hr.out _ ⟨hA, kt, o_kt⟩).mono ?_
 rintro e_W5 W5 ⟨rfl, O3, hT_W5, hf_W5⟩
 have q_kn := hf_W5.keep kn o_kn (by unfold oneX; omega)
 replace o_kn := hf_W5.not_own (lt_of kn) o_kn
 clear kn; have kn := q_kn; clear q_kn
 have c_kn := cells_of kn
 have f_kn := free_of kn
 have l_kn_W5 := lt_of kn
 clear kt c_kt f_kt o_kt; have kt := hT_W5.blk; have o_kt := hT_W5.no
 have c_kt := cells_of kt
 have f_kt := free_of kt
 have l_kt_W5 := lt_of kt
 replace hF := hF.trans hf_W5
 have z_W5 := hf_W5.size
 clear hA hf_W5; have hA := hT_W5.hA; clear hT_W5
 refine hK.out _ _ ⟨((c_kt 0).trans (v_kt 0).symm), (fun o => (c_kn o).trans (v_kn o).symm), (by omega), trivial⟩ (fun hHeld => ?_)
 clear hK K
 try simp only [PT]
 refine wpAnyH_ready (rs := [14]) (by kernel_rfl) (by simp) ?_
 refine ready_at rfl (fun K hK => ?_) AllReadyH.nil
 go_simp
 refine hK.out _ _ hHeld (fun hHeld => ?_)
 clear hK K
 try simp only [PT]
 refine wpAnyH_done (by kernel_rfl) ?_ _
 refine NoPanic.normal ?_
 go_wp2_with fail
 go_ret
 exact ⟨rfl, O3, ⟨hA, kt, o_kt⟩, hF⟩
end
set_option maxHeartbeats 400000 in
theorem lChange_calls {C : World → (Nat → Prop) → Prop} {f : FuncId} {caps : Array Value} {one : Tb → Int → Option (Int × Tb)} (hfun : ∀ args w, (callFunc f args).run Tryz.prog w = .ok (.enter f args) w) (hKC : Hid (KeepC tb C)) (hone : Hid (OneC tb ap C f caps one)) :
  ∀ (k : Nat) (t : Tb) (O : Nat → Prop) (h i : Int) (r : Int × Tb) (w : World), Tb.change one k t h i = some r → LB w tb ap t O → C w O →
  Calls Tryz.prog 87 #[.pointer (some ⟨tb, 0, none⟩), .int .i64 h, .int .i64 i, .func (.func f) #[] caps] w fun e w' => e = .returned (.int .i64 r.1) ∧ DidL tb ap r.2 O w w'
 | 0, t, O, h, i, r, w, hr, hT, hC => by cases hr
 | k + 1, t, O, h, i, r, w, hr, hT, hC => by
  have ih := Lib.hid (lChange_calls hfun hKC hone k)
  unfold Tb.change at hr
  cases h0 : lIs t.s h with
  | false =>
   rw [if_pos (.inl h0)] at hr
   exact lChg_none hfun hKC hone h i r w hr h0 hT hC
  | true =>
   by_cases h1 : (t.s.get h).tag = 4
   ·
    rw [if_pos (.inr h1)] at hr
    exact lChg_item hfun hKC hone h i r w hr h0 (by simpa using h1) hT hC
   ·
    rw [if_neg (by rw [h0]; simp [h1])] at hr
    by_cases h2 : lLen t.s (t.s.get h).k0 ≤ i
    ·
     rw [if_pos h2] at hr
     exact lChg_high k hKC ih h i r w h0 (by simpa using h1) (by simpa using h2) hr hT hC
    ·
     rw [if_neg h2] at hr
     exact lChg_low k hKC ih h i r w h0 (by simpa using h1) (by simpa using h2) hr hT hC
end Go.Proofs.YtpdpcgmkpgfblaaGreat
/- Lists in an arena: a list with an item more. -/
namespace Go.Proofs.YtpdpcgmkpgfblaaGreat
set_option linter.unusedSimpArgs false
set_option linter.unusedVariables false
set_option linter.unnecessarySimpa false
open Go.RowKit
attribute [local go_sem ↓] Go.wp_at_zero Go.wp_at_succ
attribute [local go_sem] lt_s2 lt_s3 lt_s4
variable {ap : Value} {O : Nat → Prop} {s : Ar} {tb : Nat}
/-- What Insert's closure captured: the tree, the item, how many there are, and the place. -/
structure InsC (tb bt bx bn bi : Nat) (x : Int × Int) (n i : Int) (w : World) (O : Nat → Prop) : Prop where
 ct : w.heap[bt]? = some (.cells #[.pointer (some ⟨tb, 0, none⟩)] 121 (0, 0))
 cx : w.heap[bx]? = some (.cells #[.int .i64 x.1, .int .i64 x.2] 56 (0, 0))
 cn : w.heap[bn]? = some (.cells #[.int .i64 n] 3 (0, 0))
 ci : w.heap[bi]? = some (.cells #[.int .i64 i] 3 (0, 0))
 ot : ¬ O bt
 ox : ¬ O bx
 on : ¬ O bn
 oi : ¬ O bi
 nt : bt ≠ tb
 nx : bx ≠ tb
 nn : bn ≠ tb
 ni : bi ≠ tb
theorem InsC.keepC (tb bt bx bn bi : Nat) (x : Int × Int) (n i : Int) : KeepC tb (InsC tb bt bx bn bi x n i) := by
 intro w w' O O' h hF
 exact ⟨hF.keep h.ct h.ot h.nt, hF.keep h.cx h.ox h.nx, hF.keep h.cn h.on h.nn, hF.keep h.ci h.oi h.ni, hF.not_own (lt_of h.ct) h.ot, hF.not_own (lt_of h.cx) h.ox, hF.not_own (lt_of h.cn) h.on, hF.not_own (lt_of h.ci) h.oi, h.nt, h.nx, h.nn, h.ni⟩
theorem lMay_calls (x : Int × Int) (i most : Int) (w : World) : Calls Tryz.prog 85 #[.agg #[.int .i64 x.1, .int .i64 x.2], .int .i64 i, .int .i64 most] w fun e w' => e = .returned (.int .i64 (lMay x i most)) ∧ Below w.heap.size w w' := by
 unfold lMay
 by_cases h1 : x.1 < 0
 ·
  have d1 : decide (x.1 < 0) = true := by simpa using h1
  rw [if_pos (.inl h1)]
  clear h1
  go_enter Tryz.func85, Tryz.ntmps85
  go_wp2_with fail
  go_ret
  exact ⟨rfl, by (repeat' first | with_reducible assumption | with_reducible exact Below.refl _ _ | with_reducible refine Below.alloc ?_ ?_ _ | with_reducible refine Below.setCell ?_ ?_ _ | with_reducible refine below_drewN ?_ _ | with_reducible refine Below.drew ?_ | exact Nat.le_refl _ | ((try dsimp only); omega) | (simp only [siz_alloc, siz_set]; omega))⟩
 ·
  have d1 : decide (x.1 < 0) = false := by simpa using h1
  by_cases h2 : x.2 < 0
  ·
   have d2 : decide (x.2 < 0) = true := by simpa using h2
   rw [if_pos (.inr h2)]
   clear h1 h2
   go_enter Tryz.func85, Tryz.ntmps85
   go_wp2_with fail
   go_ret
   exact ⟨rfl, by (repeat' first | with_reducible assumption | with_reducible exact Below.refl _ _ | with_reducible refine Below.alloc ?_ ?_ _ | with_reducible refine Below.setCell ?_ ?_ _ | with_reducible refine below_drewN ?_ _ | with_reducible refine Below.drew ?_ | exact Nat.le_refl _ | ((try dsimp only); omega) | (simp only [siz_alloc, siz_set]; omega))⟩
  ·
   have d2 : decide (x.2 < 0) = false := by simpa using h2
   rw [if_neg (by omega)]
   clear h1 h2
   by_cases h3 : i < 0
   ·
    have d3 : decide (i < 0) = true := by simpa using h3
    rw [if_pos (.inl h3)]
    clear h3
    go_enter Tryz.func85, Tryz.ntmps85
    go_wp2_with fail
    go_ret
    exact ⟨rfl, by (repeat' first | with_reducible assumption | with_reducible exact Below.refl _ _ | with_reducible refine Below.alloc ?_ ?_ _ | with_reducible refine Below.setCell ?_ ?_ _ | with_reducible refine below_drewN ?_ _ | with_reducible refine Below.drew ?_ | exact Nat.le_refl _ | ((try dsimp only); omega) | (simp only [siz_alloc, siz_set]; omega))⟩
   ·
    have d3 : decide (i < 0) = false := by simpa using h3
    by_cases h4 : most < i
    ·
     have d4 : decide (most < i) = true := by simpa using h4
     rw [if_pos (.inr h4)]
     clear h3 h4
     go_enter Tryz.func85, Tryz.ntmps85
     go_wp2_with fail
     go_ret
     exact ⟨rfl, by (repeat' first | with_reducible assumption | with_reducible exact Below.refl _ _ | with_reducible refine Below.alloc ?_ ?_ _ | with_reducible refine Below.setCell ?_ ?_ _ | with_reducible refine below_drewN ?_ _ | with_reducible refine Below.drew ?_ | exact Nat.le_refl _ | ((try dsimp only); omega) | (simp only [siz_alloc, siz_set]; omega))⟩
    ·
     have d4 : decide (most < i) = false := by simpa using h4
     rw [if_neg (by omega)]
     clear h3 h4
     go_enter Tryz.func85, Tryz.ntmps85
     go_wp2_with fail
     go_ret
     exact ⟨rfl, by (repeat' first | with_reducible assumption | with_reducible exact Below.refl _ _ | with_reducible refine Below.alloc ?_ ?_ _ | with_reducible refine Below.setCell ?_ ?_ _ | with_reducible refine below_drewN ?_ _ | with_reducible refine Below.drew ?_ | exact Nat.le_refl _ | ((try dsimp only); omega) | (simp only [siz_alloc, siz_set]; omega))⟩
variable {t : Tb}
set_option maxRecDepth 100000 in
set_option maxHeartbeats 2000000 in
theorem lIns1_none (bt bx bn bi : Nat) (x : Int × Int) (n i : Int) (d1 : (n == 0) = true) (h : Int) (w : World) (hT : LB w tb ap t O) (hC : InsC tb bt bx bn bi x n i w O) :
  Calls Tryz.prog 88 #[.int .i64 h, .pointer (some ⟨bt, 0, none⟩), .pointer (some ⟨bx, 0, none⟩), .pointer (some ⟨bn, 0, none⟩), .pointer (some ⟨bi, 0, none⟩)] w fun e w' => e = .returned (.int .i64 (t.item x).1) ∧ DidL tb ap (t.item x).2 O w w' := by
 have ct := cells_of hC.ct; have cx := cells_of hC.cx; have cn := cells_of hC.cn; have ci := cells_of hC.ci
 have HC := Lib.hid hC; clear hC
 go_enter Tryz.func88, Tryz.ntmps88
 have hA := hT.hA
 have kt := hT.blk
 have o_kt := hT.no
 have c_kt := cells_of kt
 have f_kt := free_of kt
 have l_kt_w := lt_of kt
 go_wp2_with fail
 refine calls_gen fun V hV_V => ?_
 have n_kt := congrArg (fun v : World => v.heap[tb]?) hV_V
 simp (maxDischargeDepth := 9) only [BK, not_false_eq_true, reduceCtorEq, kt, l_kt_w] at n_kt
 have n_F : Fr ((oneX tb)) O O w V := nF hV_V
 have n_A : AP V ap t.s O := nA hV_V
 have z_V := Nat.le_of_eq (congrArg (fun v : World => v.heap.size) hV_V).symm
 try simp only [SZ] at z_V
 clear kt c_kt f_kt
 clear hV_V
 clear hA
 have hA := n_A
 clear n_A
 skip
 have hF := n_F
 clear n_F
 have kt := n_kt; clear n_kt
 have c_kt := cells_of kt
 have f_kt := free_of kt
 have l_kt_V := lt_of kt
 clear ct cx cn ci
 have hC := InsC.keepC _ _ _ _ _ _ _ _ _ _ _ _ HC.out hF
 have ct := cells_of hC.ct; have cx := cells_of hC.cx; have cn := cells_of hC.cn; have ci := cells_of hC.ci
 have HC2 := Lib.hid hC; clear hC
 refine (lItem_calls (t := t) x _ ⟨hA, kt, o_kt⟩).mono ?_
 rintro e_W1 W1 ⟨rfl, O1, hT_W1, hf_W1⟩
 clear kt c_kt f_kt o_kt; have kt := hT_W1.blk; have o_kt := hT_W1.no
 have c_kt := cells_of kt
 have f_kt := free_of kt
 have l_kt_W1 := lt_of kt
 replace hF := hF.trans hf_W1
 have z_W1 := hf_W1.size
 clear hA hf_W1; have hA := hT_W1.hA; clear hT_W1
 clear ct cx cn ci
 have hC := InsC.keepC _ _ _ _ _ _ _ _ _ _ _ _ HC.out hF
 have ct := cells_of hC.ct; have cx := cells_of hC.cx; have cn := cells_of hC.cn; have ci := cells_of hC.ci
 clear hC
 go_wp2_with fail
 go_ret
 exact ⟨rfl, O1, ⟨hA, kt, o_kt⟩, hF⟩
set_option maxRecDepth 100000 in
set_option maxHeartbeats 2000000 in
theorem lIns1_last (bt bx bn bi : Nat) (x : Int × Int) (n i : Int) (d1 : (n == 0) = false) (d2 : (i == n) = true) (h : Int) (r : Int × Tb) (hr : ((t.item x).2.keep h).join h (t.item x).1 = some r) (w : World) (hT : LB w tb ap t O) (hC : InsC tb bt bx bn bi x n i w O) :
  Calls Tryz.prog 88 #[.int .i64 h, .pointer (some ⟨bt, 0, none⟩), .pointer (some ⟨bx, 0, none⟩), .pointer (some ⟨bn, 0, none⟩), .pointer (some ⟨bi, 0, none⟩)] w fun e w' => e = .returned (.int .i64 r.1) ∧ DidL tb ap r.2 O w w' := by
 have Hr := Lib.hid hr; clear hr
 have ct := cells_of hC.ct; have cx := cells_of hC.cx; have cn := cells_of hC.cn; have ci := cells_of hC.ci
 have HC := Lib.hid hC; clear hC
 go_enter Tryz.func88, Tryz.ntmps88
 have hA := hT.hA
 have kt := hT.blk
 have o_kt := hT.no
 have c_kt := cells_of kt
 have f_kt := free_of kt
 have l_kt_w := lt_of kt
 go_wp2_with fail
 refine calls_gen fun V hV_V => ?_
 have n_kt := congrArg (fun v : World => v.heap[tb]?) hV_V
 simp (maxDischargeDepth := 9) only [BK, not_false_eq_true, reduceCtorEq, kt, l_kt_w] at n_kt
 have n_F : Fr ((oneX tb)) O O w V := nF hV_V
 have n_A : AP V ap t.s O := nA hV_V
 have z_V := Nat.le_of_eq (congrArg (fun v : World => v.heap.size) hV_V).symm
 try simp only [SZ] at z_V
 clear kt c_kt f_kt
 clear hV_V
 clear hA
 have hA := n_A
 clear n_A
 skip
 have hF := n_F
 clear n_F
 have kt := n_kt; clear n_kt
 have c_kt := cells_of kt
 have f_kt := free_of kt
 have l_kt_V := lt_of kt
 clear ct cx cn ci
 refine (lItem_calls (t := t) x _ ⟨hA, kt, o_kt⟩).mono ?_
 rintro e_W1 W1 ⟨rfl, O1, hT_W1, hf_W1⟩
 clear kt c_kt f_kt o_kt; have kt := hT_W1.blk; have o_kt := hT_W1.no
 have c_kt := cells_of kt
 have f_kt := free_of kt
 have l_kt_W1 := lt_of kt
 replace hF := hF.trans hf_W1
 have z_W1 := hf_W1.size
 clear hA hf_W1; have hA := hT_W1.hA; clear hT_W1
 have hC := InsC.keepC _ _ _ _ _ _ _ _ _ _ _ _ HC.out hF
 have kb := hC.ct
 have o_kb := hC.ot
 have e_kb := hC.nt
 have ct := cells_of hC.ct; have cx := cells_of hC.cx; have cn := cells_of hC.cn; have ci := cells_of hC.ci
 clear hC
 have c_kb := cells_of kb
 have f_kb := free_of kb
 have l_kb_W1 := lt_of kb
 go_wp2_with fail
 refine wp_gen fun V2 hV_V2 => ?_
 have n_kt := congrArg (fun v : World => v.heap[tb]?) hV_V2
 simp (maxDischargeDepth := 9) only [BK, not_false_eq_true, reduceCtorEq, kt, kb, l_kt_w, l_kt_V, l_kt_W1, l_kb_W1] at n_kt
 have n_kb := congrArg (fun v : World => v.heap[bt]?) hV_V2
 simp (maxDischargeDepth := 9) only [BK, not_false_eq_true, reduceCtorEq, kt, kb, l_kt_w, l_kt_V, l_kt_W1, l_kb_W1] at n_kb
 have n_F : Fr ((oneX tb)) O O1 w V2 := nF hV_V2
 have n_A : AP V2 ap ((t.item x).2).s O1 := nA hV_V2
 have z_V2 := Nat.le_of_eq (congrArg (fun v : World => v.heap.size) hV_V2).symm
 try simp only [SZ] at z_V2
 clear kt c_kt f_kt
 clear kb c_kb f_kb
 clear hV_V2
 clear hA
 have hA := n_A
 clear n_A
 clear hF
 have hF := n_F
 clear n_F
 have kt := n_kt; clear n_kt
 have c_kt := cells_of kt
 have f_kt := free_of kt
 have l_kt_V2 := lt_of kt
 have kb := n_kb; clear n_kb
 have c_kb := cells_of kb
 have f_kb := free_of kb
 have l_kb_V2 := lt_of kb
 clear ct cx cn ci
 refine wp_region_noPanic ?_
 refine wp_region_held_drew (S := fun v => (v.cell? ⟨tb, 0, none⟩ = V2.cell? ⟨tb, 0, none⟩) ∧ (∀ o, v.cell? ⟨bt, o, none⟩ = V2.cell? ⟨bt, o, none⟩) ∧ (V2.heap.size ≤ v.heap.size) ∧ True) (by kernel_rfl) ⟨rfl, (fun _ => rfl), (Nat.le_refl _), trivial⟩ (fun hHeld => ?_)
 generalize hV_V2d : V2.drew = V2d at hHeld ⊢
 have n_kt : V2d.heap[tb]? = V2.heap[tb]? := by rw [← hV_V2d]; rfl
 have d_kt := n_kt.trans kt
 clear n_kt c_kt f_kt
 have n_kb : V2d.heap[bt]? = V2.heap[bt]? := by rw [← hV_V2d]; rfl
 have d_kb := n_kb.trans kb
 clear n_kb c_kb f_kb
 have n_A : AP V2d ap ((t.item x).2).s O1 := by rw [← hV_V2d]; exact hA.drew
 clear hA; have hA := n_A; clear n_A
 have n_F : Fr ((oneX tb)) O O1 w V2d := by rw [← hV_V2d]; exact hF.drew
 clear hF; have hF := n_F; clear n_F
 have z_V2d : V2.heap.size ≤ V2d.heap.size := by rw [← hV_V2d]; exact Nat.le_refl _
 have v_kt := cells_of kt
 have v_kb := cells_of kb
 clear kt; have kt := d_kt; clear d_kt
 clear kb; have kb := d_kb; clear d_kb
 have c_kt := cells_of kt
 have f_kt := free_of kt
 have l_kt_V2d := lt_of kt
 have c_kb := cells_of kb
 have f_kb := free_of kb
 have l_kb_V2d := lt_of kb
 clear hV_V2d
 refine ty (i := 0) (v := ?_) rfl hHeld ?_ ?_
 rotate_left
 focus (intro w hSw; go_simp; (try simp only [IntWalk.i64_left]); try (with_reducible rfl))
 try simp only [PT]
 refine ty (i := 1) (v := ?_) rfl hHeld ?_ ?_
 rotate_left
 focus (intro w hSw; go_simp; (try simp only [IntWalk.i64_left]); try (with_reducible rfl))
 try simp only [PT]
 refine ty (i := 2) (v := ?_) rfl hHeld ?_ ?_
 rotate_left
 focus (intro w hSw; go_simp; (try simp only [IntWalk.i64_left]); try (with_reducible rfl))
 try simp only [PT]
 refine ty (i := 4) (v := ?_) rfl hHeld ?_ ?_
 rotate_left
 focus (intro w hSw; go_simp; (try simp only [IntWalk.i64_left]); try (with_reducible rfl))
 try simp only [PT]
 refine wpAnyH_ready (rs := [3]) (by kernel_rfl) (by simp) ?_
 refine ready_at rfl (fun K hK => ?_) AllReadyH.nil
 go_simp
 try simp only [IntWalk.i64_left]
 refine (lKeep_calls (t := (t.item x).2) h _ ⟨hA, kt, o_kt⟩).mono ?_
 rintro e_W2 W2 ⟨rfl, O2, hT_W2, hf_W2⟩
 have q_kb := hf_W2.keep kb o_kb (by unfold oneX; omega)
 replace o_kb := hf_W2.not_own (lt_of kb) o_kb
 clear kb; have kb := q_kb; clear q_kb
 have c_kb := cells_of kb
 have f_kb := free_of kb
 have l_kb_W2 := lt_of kb
 clear kt c_kt f_kt o_kt; have kt := hT_W2.blk; have o_kt := hT_W2.no
 have c_kt := cells_of kt
 have f_kt := free_of kt
 have l_kt_W2 := lt_of kt
 replace hF := hF.trans hf_W2
 have z_W2 := hf_W2.size
 clear hA hf_W2; have hA := hT_W2.hA; clear hT_W2
 refine hK.out _ _ ⟨((c_kt 0).trans (v_kt 0).symm), (fun o => (c_kb o).trans (v_kb o).symm), (by omega), trivial⟩ (fun hHeld => ?_)
 clear hK K
 try simp only [PT]
 refine wpAnyH_ready (rs := [5]) (by kernel_rfl) (by simp) ?_
 refine ready_at rfl (fun K hK => ?_) AllReadyH.nil
 go_simp
 try simp only [IntWalk.i64_left]
 refine (lJoin_calls (t := (t.item x).2.keep h) _ _ _ Hr.out _ ⟨hA, kt, o_kt⟩).mono ?_
 rintro e_W3 W3 ⟨rfl, O3, hT_W3, hf_W3⟩
 have q_kb := hf_W3.keep kb o_kb (by unfold oneX; omega)
 replace o_kb := hf_W3.not_own (lt_of kb) o_kb
 clear kb; have kb := q_kb; clear q_kb
 have c_kb := cells_of kb
 have f_kb := free_of kb
 have l_kb_W3 := lt_of kb
 clear kt c_kt f_kt o_kt; have kt := hT_W3.blk; have o_kt := hT_W3.no
 have c_kt := cells_of kt
 have f_kt := free_of kt
 have l_kt_W3 := lt_of kt
 replace hF := hF.trans hf_W3
 have z_W3 := hf_W3.size
 clear hA hf_W3; have hA := hT_W3.hA; clear hT_W3
 refine hK.out _ _ ⟨((c_kt 0).trans (v_kt 0).symm), (fun o => (c_kb o).trans (v_kb o).symm), (by omega), trivial⟩ (fun hHeld => ?_)
 clear hK K
 try simp only [PT]
 refine wpAnyH_ready (rs := [6]) (by kernel_rfl) (by simp) ?_
 refine ready_at rfl (fun K hK => ?_) AllReadyH.nil
 go_simp
 refine hK.out _ _ hHeld (fun hHeld => ?_)
 clear hK K
 try simp only [PT]
 refine wpAnyH_done (by kernel_rfl) ?_ _
 refine NoPanic.normal ?_
 go_wp2_with fail
 go_ret
 exact ⟨rfl, O3, ⟨hA, kt, o_kt⟩, hF⟩
set_option maxRecDepth 100000 in
set_option maxHeartbeats 2000000 in
theorem lIns1_ahead (bt bx bn bi : Nat) (x : Int × Int) (n i : Int) (d1 : (n == 0) = false) (d2 : (i == n) = false) (h : Int) (r : Int × Tb) (hr : ((t.item x).2.keep h).join (t.item x).1 h = some r) (w : World) (hT : LB w tb ap t O) (hC : InsC tb bt bx bn bi x n i w O) :
  Calls Tryz.prog 88 #[.int .i64 h, .pointer (some ⟨bt, 0, none⟩), .pointer (some ⟨bx, 0, none⟩), .pointer (some ⟨bn, 0, none⟩), .pointer (some ⟨bi, 0, none⟩)] w fun e w' => e = .returned (.int .i64 r.1) ∧ DidL tb ap r.2 O w w' := by
 have Hr := Lib.hid hr; clear hr
 have ct := cells_of hC.ct; have cx := cells_of hC.cx; have cn := cells_of hC.cn; have ci := cells_of hC.ci
 have HC := Lib.hid hC; clear hC
 go_enter Tryz.func88, Tryz.ntmps88
 have hA := hT.hA
 have kt := hT.blk
 have o_kt := hT.no
 have c_kt := cells_of kt
 have f_kt := free_of kt
 have l_kt_w := lt_of kt
 go_wp2_with fail
 refine calls_gen fun V hV_V => ?_
 have n_kt := congrArg (fun v : World => v.heap[tb]?) hV_V
 simp (maxDischargeDepth := 9) only [BK, not_false_eq_true, reduceCtorEq, kt, l_kt_w] at n_kt
 have n_F : Fr ((oneX tb)) O O w V := nF hV_V
 have n_A : AP V ap t.s O := nA hV_V
 have z_V := Nat.le_of_eq (congrArg (fun v : World => v.heap.size) hV_V).symm
 try simp only [SZ] at z_V
 clear kt c_kt f_kt
 clear hV_V
 clear hA
 have hA := n_A
 clear n_A
 skip
 have hF := n_F
 clear n_F
 have kt := n_kt; clear n_kt
 have c_kt := cells_of kt
 have f_kt := free_of kt
 have l_kt_V := lt_of kt
 clear ct cx cn ci
 refine (lItem_calls (t := t) x _ ⟨hA, kt, o_kt⟩).mono ?_
 rintro e_W1 W1 ⟨rfl, O1, hT_W1, hf_W1⟩
 clear kt c_kt f_kt o_kt; have kt := hT_W1.blk; have o_kt := hT_W1.no
 have c_kt := cells_of kt
 have f_kt := free_of kt
 have l_kt_W1 := lt_of kt
 replace hF := hF.trans hf_W1
 have z_W1 := hf_W1.size
 clear hA hf_W1; have hA := hT_W1.hA; clear hT_W1
 have hC := InsC.keepC _ _ _ _ _ _ _ _ _ _ _ _ HC.out hF
 have kb := hC.ct
 have o_kb := hC.ot
 have e_kb := hC.nt
 have ct := cells_of hC.ct; have cx := cells_of hC.cx; have cn := cells_of hC.cn; have ci := cells_of hC.ci
 clear hC
 have c_kb := cells_of kb
 have f_kb := free_of kb
 have l_kb_W1 := lt_of kb
 go_wp2_with fail
 refine wp_gen fun V2 hV_V2 => ?_
 have n_kt := congrArg (fun v : World => v.heap[tb]?) hV_V2
 simp (maxDischargeDepth := 9) only [BK, not_false_eq_true, reduceCtorEq, kt, kb, l_kt_w, l_kt_V, l_kt_W1, l_kb_W1] at n_kt
 have n_kb := congrArg (fun v : World => v.heap[bt]?) hV_V2
 simp (maxDischargeDepth := 9) only [BK, not_false_eq_true, reduceCtorEq, kt, kb, l_kt_w, l_kt_V, l_kt_W1, l_kb_W1] at n_kb
 have n_F : Fr ((oneX tb)) O O1 w V2 := nF hV_V2
 have n_A : AP V2 ap ((t.item x).2).s O1 := nA hV_V2
 have z_V2 := Nat.le_of_eq (congrArg (fun v : World => v.heap.size) hV_V2).symm
 try simp only [SZ] at z_V2
 clear kt c_kt f_kt
 clear kb c_kb f_kb
 clear hV_V2
 clear hA
 have hA := n_A
 clear n_A
 clear hF
 have hF := n_F
 clear n_F
 have kt := n_kt; clear n_kt
 have c_kt := cells_of kt
 have f_kt := free_of kt
 have l_kt_V2 := lt_of kt
 have kb := n_kb; clear n_kb
 have c_kb := cells_of kb
 have f_kb := free_of kb
 have l_kb_V2 := lt_of kb
 clear ct cx cn ci
 refine wp_region_noPanic ?_
 refine wp_region_held_drew (S := fun v => (v.cell? ⟨tb, 0, none⟩ = V2.cell? ⟨tb, 0, none⟩) ∧ (∀ o, v.cell? ⟨bt, o, none⟩ = V2.cell? ⟨bt, o, none⟩) ∧ (V2.heap.size ≤ v.heap.size) ∧ True) (by kernel_rfl) ⟨rfl, (fun _ => rfl), (Nat.le_refl _), trivial⟩ (fun hHeld => ?_)
 generalize hV_V2d : V2.drew = V2d at hHeld ⊢
 have n_kt : V2d.heap[tb]? = V2.heap[tb]? := by rw [← hV_V2d]; rfl
 have d_kt := n_kt.trans kt
 clear n_kt c_kt f_kt
 have n_kb : V2d.heap[bt]? = V2.heap[bt]? := by rw [← hV_V2d]; rfl
 have d_kb := n_kb.trans kb
 clear n_kb c_kb f_kb
 have n_A : AP V2d ap ((t.item x).2).s O1 := by rw [← hV_V2d]; exact hA.drew
 clear hA; have hA := n_A; clear n_A
 have n_F : Fr ((oneX tb)) O O1 w V2d := by rw [← hV_V2d]; exact hF.drew
 clear hF; have hF := n_F; clear n_F
 have z_V2d : V2.heap.size ≤ V2d.heap.size := by rw [← hV_V2d]; exact Nat.le_refl _
 have v_kt := cells_of kt
 have v_kb := cells_of kb
 clear kt; have kt := d_kt; clear d_kt
 clear kb; have kb := d_kb; clear d_kb
 have c_kt := cells_of kt
 have f_kt := free_of kt
 have l_kt_V2d := lt_of kt
 have c_kb := cells_of kb
 have f_kb := free_of kb
 have l_kb_V2d := lt_of kb
 clear hV_V2d
 refine ty (i := 0) (v := ?_) rfl hHeld ?_ ?_
 rotate_left
 focus (intro w hSw; go_simp; (try simp only [IntWalk.i64_left]); try (with_reducible rfl))
 try simp only [PT]
 refine ty (i := 1) (v := ?_) rfl hHeld ?_ ?_
 rotate_left
 focus (intro w hSw; go_simp; (try simp only [IntWalk.i64_left]); try (with_reducible rfl))
 try simp only [PT]
 refine ty (i := 2) (v := ?_) rfl hHeld ?_ ?_
 rotate_left
 focus (intro w hSw; go_simp; (try simp only [IntWalk.i64_left]); try (with_reducible rfl))
 try simp only [PT]
 refine ty (i := 3) (v := ?_) rfl hHeld ?_ ?_
 rotate_left
 focus (intro w hSw; go_simp; (try simp only [IntWalk.i64_left]); try (with_reducible rfl))
 try simp only [PT]
 refine wpAnyH_ready (rs := [4]) (by kernel_rfl) (by simp) ?_
 refine ready_at rfl (fun K hK => ?_) AllReadyH.nil
 go_simp
 try simp only [IntWalk.i64_left]
 refine (lKeep_calls (t := (t.item x).2) h _ ⟨hA, kt, o_kt⟩).mono ?_
 rintro e_W2 W2 ⟨rfl, O2, hT_W2, hf_W2⟩
 have q_kb := hf_W2.keep kb o_kb (by unfold oneX; omega)
 replace o_kb := hf_W2.not_own (lt_of kb) o_kb
 clear kb; have kb := q_kb; clear q_kb
 have c_kb := cells_of kb
 have f_kb := free_of kb
 have l_kb_W2 := lt_of kb
 clear kt c_kt f_kt o_kt; have kt := hT_W2.blk; have o_kt := hT_W2.no
 have c_kt := cells_of kt
 have f_kt := free_of kt
 have l_kt_W2 := lt_of kt
 replace hF := hF.trans hf_W2
 have z_W2 := hf_W2.size
 clear hA hf_W2; have hA := hT_W2.hA; clear hT_W2
 refine hK.out _ _ ⟨((c_kt 0).trans (v_kt 0).symm), (fun o => (c_kb o).trans (v_kb o).symm), (by omega), trivial⟩ (fun hHeld => ?_)
 clear hK K
 try simp only [PT]
 refine wpAnyH_ready (rs := [5]) (by kernel_rfl) (by simp) ?_
 refine ready_at rfl (fun K hK => ?_) AllReadyH.nil
 go_simp
 try simp only [IntWalk.i64_left]
 refine (lJoin_calls (t := (t.item x).2.keep h) _ _ _ Hr.out _ ⟨hA, kt, o_kt⟩).mono ?_
 rintro e_W3 W3 ⟨rfl, O3, hT_W3, hf_W3⟩
 have q_kb := hf_W3.keep kb o_kb (by unfold oneX; omega)
 replace o_kb := hf_W3.not_own (lt_of kb) o_kb
 clear kb; have kb := q_kb; clear q_kb
 have c_kb := cells_of kb
 have f_kb := free_of kb
 have l_kb_W3 := lt_of kb
 clear kt c_kt f_kt o_kt; have kt := hT_W3.blk; have o_kt := hT_W3.no
 have c_kt := cells_of kt
 have f_kt := free_of kt
 have l_kt_W3 := lt_of kt
 replace hF := hF.trans hf_W3
 have z_W3 := hf_W3.size
 clear hA hf_W3; have hA := hT_W3.hA; clear hT_W3
 refine hK.out _ _ ⟨((c_kt 0).trans (v_kt 0).symm), (fun o => (c_kb o).trans (v_kb o).symm), (by omega), trivial⟩ (fun hHeld => ?_)
 clear hK K
 try simp only [PT]
 refine wpAnyH_ready (rs := [6]) (by kernel_rfl) (by simp) ?_
 refine ready_at rfl (fun K hK => ?_) AllReadyH.nil
 go_simp
 refine hK.out _ _ hHeld (fun hHeld => ?_)
 clear hK K
 try simp only [PT]
 refine wpAnyH_done (by kernel_rfl) ?_ _
 refine NoPanic.normal ?_
 go_wp2_with fail
 go_ret
 exact ⟨rfl, O3, ⟨hA, kt, o_kt⟩, hF⟩
theorem minmax2 (i m : Int) {P : Prop} (h1 : (m < 0) = True → (0 < i) = True → imin i (imax m 0) = 0 → P) (h2 : (m < 0) = True → (0 < i) = False → imin i (imax m 0) = i → P) (h3 : (m < 0) = False → (m < i) = True → imin i (imax m 0) = m → P) (h4 : (m < 0) = False → (m < i) = False → imin i (imax m 0) = i → P) : P := by
 by_cases c1 : m < 0
 ·
  by_cases c2 : 0 < i
  ·
   exact h1 (eq_true c1) (eq_true c2) (by unfold imin imax; split <;> split <;> omega)
  ·
   exact h2 (eq_true c1) (eq_false c2) (by unfold imin imax; split <;> split <;> omega)
 ·
  by_cases c2 : m < i
  ·
   exact h3 (eq_false c1) (eq_true c2) (by unfold imin imax; split <;> split <;> omega)
  ·
   exact h4 (eq_false c1) (eq_false c2) (by unfold imin imax; split <;> split <;> omega)
theorem lIns1_calls (tb bt bx bn bi : Nat) (x : Int × Int) (n i : Int) : OneC tb ap (InsC tb bt bx bn bi x n i) 88 #[.pointer (some ⟨bt, 0, none⟩), .pointer (some ⟨bx, 0, none⟩), .pointer (some ⟨bn, 0, none⟩), .pointer (some ⟨bi, 0, none⟩)] (lInsOne n i x) := by
 intro t O h r w hr hT hC
 show Calls Tryz.prog _ #[.int .i64 h, .pointer (some ⟨bt, 0, none⟩), .pointer (some ⟨bx, 0, none⟩), .pointer (some ⟨bn, 0, none⟩), .pointer (some ⟨bi, 0, none⟩)] _ _
 unfold lInsOne at hr
 dsimp only at hr
 by_cases h1 : n = 0
 ·
  rw [if_pos h1] at hr
  obtain rfl := Option.some.inj hr
  exact lIns1_none bt bx bn bi x n i (by simpa using h1) h w hT hC
 ·
  rw [if_neg h1] at hr
  by_cases h2 : i = n
  ·
   rw [if_pos h2] at hr
   exact lIns1_last bt bx bn bi x n i (by simpa using h1) (by simpa using h2) h r hr w hT hC
  ·
   rw [if_neg h2] at hr
   exact lIns1_ahead bt bx bn bi x n i (by simpa using h1) (by simpa using h2) h r hr w hT hC
theorem told_s (u : Int × Tb) : (Tb.told u).2.2 = u.2.s := by unfold Tb.told; split <;> rfl
theorem lIns1_fun (args : Array Value) (w : World) : (callFunc 88 args).run Tryz.prog w = .ok (.enter 88 args) w := by kernel_rfl
set_option maxRecDepth 100000 in
set_option maxHeartbeats 2000000 in
theorem lInsert_calls (h i : Int) (x : Int × Int) (r : Int × Int × Ar) (hr : lInsert s h i x = some r) (w : World) (hA : AP w ap s O) :
  Calls Tryz.prog 41 #[ap, .int .i64 h, .int .i64 i, .agg #[.int .i64 x.1, .int .i64 x.2]] w fun e w' => e = .returned (.tuple #[.int .i64 r.1, .int .i64 r.2.1]) ∧ Did noX ap r.2.2 O w w' := by
 obtain ⟨q, rfl⟩ := hA.ptr
 unfold lInsert at hr
 by_cases h1 : lMay x i (lLen s h) = 0
 ·
  have d1 : (lMay x i (lLen s h) != 0) = false := by simp [h1]
  rw [if_pos h1] at hr
  obtain ⟨u, hu, rfl⟩ := Option.map_eq_some_iff.1 hr
  clear hr h1
  obtain ⟨m, hm⟩ : ∃ m, m = wrap64 (lLen s h - 1) := ⟨_, rfl⟩
  rw [← hm] at hu
  refine minmax2 i m ?_ ?_ ?_ ?_ <;> intro c1 c2 hmm <;> rw [hmm] at hu <;> clear hmm <;> subst hm
  all_goals
   have Hu := Lib.hid hu; clear hu
   go_enter Tryz.func41, Tryz.ntmps41
   go_wp2_with fail
   refine calls_gen fun V hV_V => ?_
   have n_ki := congrArg (fun v : World => v.heap[w.heap.size]?) hV_V
   simp (maxDischargeDepth := 9) only [BK, not_false_eq_true, reduceCtorEq] at n_ki
   have n_kx := congrArg (fun v : World => v.heap[w.heap.size + 1]?) hV_V
   simp (maxDischargeDepth := 9) only [BK, not_false_eq_true, reduceCtorEq] at n_kx
   have o_ki : ¬ O (w.heap.size) := by first | exact hA.new (Nat.le_refl _) | exact hA.new (by omega)
   have o_kx : ¬ O (w.heap.size + 1) := by first | exact hA.new (Nat.le_refl _) | exact hA.new (by omega)
   have n_F : Fr (noX) O O w V := nF hV_V
   have n_A : AP V (.pointer q) s O := nA hV_V
   have z_V := Nat.le_of_eq (congrArg (fun v : World => v.heap.size) hV_V).symm
   try simp only [SZ] at z_V
   clear hV_V
   clear hA
   have hA := n_A
   clear n_A
   skip
   have hF := n_F
   clear n_F
   have ki := n_ki; clear n_ki
   have c_ki := cells_of ki
   have f_ki := free_of ki
   have l_ki_V := lt_of ki
   have kx := n_kx; clear n_kx
   have c_kx := cells_of kx
   have f_kx := free_of kx
   have l_kx_V := lt_of kx
   refine (lLen_calls _ _ hA).mono ?_
   rintro e_W1 W1 ⟨rfl, hb_W1⟩
   replace hA := hA.below hb_W1
   replace hF := hF.below hb_W1
   replace ki := keep_blk hb_W1 ki
   have c_ki := cells_of ki
   have f_ki := free_of ki
   have l_ki_W1 := lt_of ki
   replace kx := keep_blk hb_W1 kx
   have c_kx := cells_of kx
   have f_kx := free_of kx
   have l_kx_W1 := lt_of kx
   have z_W1 := hb_W1.size
   clear hb_W1
   go_wp2_with fail
   refine calls_gen fun V1 hV_V1 => ?_
   have n_ki := congrArg (fun v : World => v.heap[w.heap.size]?) hV_V1
   simp (maxDischargeDepth := 9) only [BK, not_false_eq_true, reduceCtorEq, ki, kx, l_ki_V, l_kx_V, l_ki_W1, l_kx_W1] at n_ki
   have n_kx := congrArg (fun v : World => v.heap[w.heap.size + 1]?) hV_V1
   simp (maxDischargeDepth := 9) only [BK, not_false_eq_true, reduceCtorEq, ki, kx, l_ki_V, l_kx_V, l_ki_W1, l_kx_W1] at n_kx
   have n_kn := congrArg (fun v : World => v.heap[W1.heap.size]?) hV_V1
   simp (maxDischargeDepth := 9) only [BK, not_false_eq_true, reduceCtorEq, ki, kx, l_ki_V, l_kx_V, l_ki_W1, l_kx_W1] at n_kn
   have o_kn : ¬ O (W1.heap.size) := by first | exact hA.new (Nat.le_refl _) | exact hA.new (by omega)
   have n_F : Fr (noX) O O w V1 := nF hV_V1
   have n_A : AP V1 (.pointer q) s O := nA hV_V1
   have z_V1 := Nat.le_of_eq (congrArg (fun v : World => v.heap.size) hV_V1).symm
   try simp only [SZ] at z_V1
   clear ki c_ki f_ki
   clear kx c_kx f_kx
   clear hV_V1
   clear hA
   have hA := n_A
   clear n_A
   clear hF
   have hF := n_F
   clear n_F
   have ki := n_ki; clear n_ki
   have c_ki := cells_of ki
   have f_ki := free_of ki
   have l_ki_V1 := lt_of ki
   have kx := n_kx; clear n_kx
   have c_kx := cells_of kx
   have f_kx := free_of kx
   have l_kx_V1 := lt_of kx
   have kn := n_kn; clear n_kn
   have c_kn := cells_of kn
   have f_kn := free_of kn
   have l_kn_V1 := lt_of kn
   refine (lMay_calls x i (lLen s h) _).mono ?_
   rintro e_W2 W2 ⟨rfl, hb_W2⟩
   replace hA := hA.below hb_W2
   replace hF := hF.below hb_W2
   replace ki := keep_blk hb_W2 ki
   have c_ki := cells_of ki
   have f_ki := free_of ki
   have l_ki_W2 := lt_of ki
   replace kx := keep_blk hb_W2 kx
   have c_kx := cells_of kx
   have f_kx := free_of kx
   have l_kx_W2 := lt_of kx
   replace kn := keep_blk hb_W2 kn
   have c_kn := cells_of kn
   have f_kn := free_of kn
   have l_kn_W2 := lt_of kn
   have z_W2 := hb_W2.size
   clear hb_W2
   go_wp2_with fail
   refine wp_gen fun V2 hV_V2 => ?_
   have n_ki := congrArg (fun v : World => v.heap[w.heap.size]?) hV_V2
   simp (maxDischargeDepth := 9) only [BK, not_false_eq_true, reduceCtorEq, ki, kx, kn, l_ki_V, l_kx_V, l_ki_W1, l_kx_W1, l_ki_V1, l_kx_V1, l_kn_V1, l_ki_W2, l_kx_W2, l_kn_W2] at n_ki
   have n_kx := congrArg (fun v : World => v.heap[w.heap.size + 1]?) hV_V2
   simp (maxDischargeDepth := 9) only [BK, not_false_eq_true, reduceCtorEq, ki, kx, kn, l_ki_V, l_kx_V, l_ki_W1, l_kx_W1, l_ki_V1, l_kx_V1, l_kn_V1, l_ki_W2, l_kx_W2, l_kn_W2] at n_kx
   have n_kn := congrArg (fun v : World => v.heap[W1.heap.size]?) hV_V2
   simp (maxDischargeDepth := 9) only [BK, not_false_eq_true, reduceCtorEq, ki, kx, kn, l_ki_V, l_kx_V, l_ki_W1, l_kx_W1, l_ki_V1, l_kx_V1, l_kn_V1, l_ki_W2, l_kx_W2, l_kn_W2] at n_kn
   have n_kt := congrArg (fun v : World => v.heap[W2.heap.size]?) hV_V2
   simp (maxDischargeDepth := 9) only [BK, not_false_eq_true, reduceCtorEq, ki, kx, kn, l_ki_V, l_kx_V, l_ki_W1, l_kx_W1, l_ki_V1, l_kx_V1, l_kn_V1, l_ki_W2, l_kx_W2, l_kn_W2] at n_kt
   have n_kb := congrArg (fun v : World => v.heap[W2.heap.size + 1]?) hV_V2
   simp (maxDischargeDepth := 9) only [BK, not_false_eq_true, reduceCtorEq, ki, kx, kn, l_ki_V, l_kx_V, l_ki_W1, l_kx_W1, l_ki_V1, l_kx_V1, l_kn_V1, l_ki_W2, l_kx_W2, l_kn_W2] at n_kb
   have o_kt : ¬ O (W2.heap.size) := by first | exact hA.new (Nat.le_refl _) | exact hA.new (by omega)
   have o_kb : ¬ O (W2.heap.size + 1) := by first | exact hA.new (Nat.le_refl _) | exact hA.new (by omega)
   have n_F : Fr (noX) O O w V2 := nF hV_V2
   have n_A : AP V2 (.pointer q) s O := nA hV_V2
   have z_V2 := Nat.le_of_eq (congrArg (fun v : World => v.heap.size) hV_V2).symm
   try simp only [SZ] at z_V2
   clear ki c_ki f_ki
   clear kx c_kx f_kx
   clear kn c_kn f_kn
   clear hV_V2
   clear hA
   have hA := n_A
   clear n_A
   clear hF
   have hF := n_F
   clear n_F
   have ki := n_ki; clear n_ki
   have c_ki := cells_of ki
   have f_ki := free_of ki
   have l_ki_V2 := lt_of ki
   have kx := n_kx; clear n_kx
   have c_kx := cells_of kx
   have f_kx := free_of kx
   have l_kx_V2 := lt_of kx
   have kn := n_kn; clear n_kn
   have c_kn := cells_of kn
   have f_kn := free_of kn
   have l_kn_V2 := lt_of kn
   have kt := n_kt; clear n_kt
   have c_kt := cells_of kt
   have f_kt := free_of kt
   have l_kt_V2 := lt_of kt
   have kb := n_kb; clear n_kb
   have c_kb := cells_of kb
   have f_kb := free_of kb
   have l_kb_V2 := lt_of kb
   refine wp_region_noPanic ?_
   refine wp_region_held_drew (S := fun v => (∀ o, v.cell? ⟨w.heap.size, o, none⟩ = V2.cell? ⟨w.heap.size, o, none⟩) ∧ (∀ o, v.cell? ⟨w.heap.size + 1, o, none⟩ = V2.cell? ⟨w.heap.size + 1, o, none⟩) ∧ (∀ o, v.cell? ⟨W1.heap.size, o, none⟩ = V2.cell? ⟨W1.heap.size, o, none⟩) ∧ (v.cell? ⟨W2.heap.size, 0, none⟩ = V2.cell? ⟨W2.heap.size, 0, none⟩) ∧ (∀ o, v.cell? ⟨W2.heap.size + 1, o, none⟩ = V2.cell? ⟨W2.heap.size + 1, o, none⟩) ∧ (V2.heap.size ≤ v.heap.size) ∧ True) (by kernel_rfl) ⟨(fun _ => rfl), (fun _ => rfl), (fun _ => rfl), rfl, (fun _ => rfl), (Nat.le_refl _), trivial⟩ (fun hHeld => ?_)
   generalize hV_V2d : V2.drew = V2d at hHeld ⊢
   have n_ki : V2d.heap[w.heap.size]? = V2.heap[w.heap.size]? := by rw [← hV_V2d]; rfl
   have d_ki := n_ki.trans ki
   clear n_ki c_ki f_ki
   have n_kx : V2d.heap[w.heap.size + 1]? = V2.heap[w.heap.size + 1]? := by rw [← hV_V2d]; rfl
   have d_kx := n_kx.trans kx
   clear n_kx c_kx f_kx
   have n_kn : V2d.heap[W1.heap.size]? = V2.heap[W1.heap.size]? := by rw [← hV_V2d]; rfl
   have d_kn := n_kn.trans kn
   clear n_kn c_kn f_kn
   have n_kt : V2d.heap[W2.heap.size]? = V2.heap[W2.heap.size]? := by rw [← hV_V2d]; rfl
   have d_kt := n_kt.trans kt
   clear n_kt c_kt f_kt
   have n_kb : V2d.heap[W2.heap.size + 1]? = V2.heap[W2.heap.size + 1]? := by rw [← hV_V2d]; rfl
   have d_kb := n_kb.trans kb
   clear n_kb c_kb f_kb
   have n_A : AP V2d (.pointer q) s O := by rw [← hV_V2d]; exact hA.drew
   clear hA; have hA := n_A; clear n_A
   have n_F : Fr (noX) O O w V2d := by rw [← hV_V2d]; exact hF.drew
   clear hF; have hF := n_F; clear n_F
   have z_V2d : V2.heap.size ≤ V2d.heap.size := by rw [← hV_V2d]; exact Nat.le_refl _
   have v_ki := cells_of ki
   have v_kx := cells_of kx
   have v_kn := cells_of kn
   have v_kt := cells_of kt
   have v_kb := cells_of kb
   clear ki; have ki := d_ki; clear d_ki
   clear kx; have kx := d_kx; clear d_kx
   clear kn; have kn := d_kn; clear d_kn
   clear kt; have kt := d_kt; clear d_kt
   clear kb; have kb := d_kb; clear d_kb
   have c_ki := cells_of ki
   have f_ki := free_of ki
   have l_ki_V2d := lt_of ki
   have c_kx := cells_of kx
   have f_kx := free_of kx
   have l_kx_V2d := lt_of kx
   have c_kn := cells_of kn
   have f_kn := free_of kn
   have l_kn_V2d := lt_of kn
   have c_kt := cells_of kt
   have f_kt := free_of kt
   have l_kt_V2d := lt_of kt
   have c_kb := cells_of kb
   have f_kb := free_of kb
   have l_kb_V2d := lt_of kb
   clear hV_V2d
   refine ty (i := 0) (v := ?_) rfl hHeld ?_ ?_
   rotate_left
   focus (intro w hSw; go_simp; (try simp only [IntWalk.i64_left]); try (with_reducible rfl))
   try simp only [PT]
   refine ty (i := 1) (v := ?_) rfl hHeld ?_ ?_
   rotate_left
   focus (intro w hSw; go_simp; (try simp only [IntWalk.i64_left]); try (with_reducible rfl))
   try simp only [PT]
   refine ty (i := 2) (v := ?_) rfl hHeld ?_ ?_
   rotate_left
   focus (intro w hSw; go_simp; (try simp only [IntWalk.i64_left]); try (with_reducible rfl))
   try simp only [PT]
   refine ty (i := 3) (v := ?_) rfl hHeld ?_ ?_
   rotate_left
   focus (intro w hSw; go_simp; (try simp only [IntWalk.i64_left]); try (with_reducible rfl))
   try simp only [PT]
   refine ty (i := 4) (v := ?_) rfl hHeld ?_ ?_
   rotate_left
   focus (intro w hSw; go_simp; (try simp only [IntWalk.i64_left]); try (with_reducible rfl))
   try simp only [PT]
   refine ty (i := 5) (v := ?_) rfl hHeld ?_ ?_
   rotate_left
   focus (intro w hSw; go_simp; (try simp only [IntWalk.i64_left]); try (with_reducible rfl))
   try simp only [PT]
   refine ty (i := 6) (v := ?_) rfl hHeld ?_ ?_
   rotate_left
   focus (intro w hSw; go_simp; (try simp only [IntWalk.i64_left]); try (with_reducible rfl))
   try simp only [PT]
   refine ty (i := 7) (v := ?_) rfl hHeld ?_ ?_
   rotate_left
   focus (intro w hSw; go_simp; (try simp only [IntWalk.i64_left]); try (with_reducible rfl))
   try simp only [PT]
   refine ty (i := 8) (v := ?_) rfl hHeld ?_ ?_
   rotate_left
   focus (intro w hSw; go_simp; (try simp only [IntWalk.i64_left]); try (with_reducible rfl))
   try simp only [PT]
   refine wpAnyH_ready (rs := [9]) (by kernel_rfl) (by simp) ?_
   refine ready_at rfl (fun K hK => ?_) AllReadyH.nil
   go_simp
   try simp only [IntWalk.i64_left]
   refine (lChange_calls lIns1_fun (Lib.hid (InsC.keepC W2.heap.size (W2.heap.size + 1) (w.heap.size + 1) W1.heap.size w.heap.size x (lLen s h) i)) (Lib.hid (lIns1_calls W2.heap.size (W2.heap.size + 1) (w.heap.size + 1) W1.heap.size w.heap.size x (lLen s h) i)) rounds ⟨s, 0⟩ _ _ _ u _ Hu.out ⟨hA, kt, o_kt⟩ ⟨kb, kx, kn, ki, o_kb, o_kx, o_kn, o_ki, by omega, by omega, by omega, by omega⟩).mono ?_
   rintro e_W3 W3 ⟨rfl, O1, hT_W3, hf_W3⟩
   have q_ki := hf_W3.keep ki o_ki (by unfold oneX; omega)
   have q_kx := hf_W3.keep kx o_kx (by unfold oneX; omega)
   have q_kn := hf_W3.keep kn o_kn (by unfold oneX; omega)
   have q_kb := hf_W3.keep kb o_kb (by unfold oneX; omega)
   replace o_ki := hf_W3.not_own (lt_of ki) o_ki
   clear ki; have ki := q_ki; clear q_ki
   have c_ki := cells_of ki
   have f_ki := free_of ki
   have l_ki_W3 := lt_of ki
   replace o_kx := hf_W3.not_own (lt_of kx) o_kx
   clear kx; have kx := q_kx; clear q_kx
   have c_kx := cells_of kx
   have f_kx := free_of kx
   have l_kx_W3 := lt_of kx
   replace o_kn := hf_W3.not_own (lt_of kn) o_kn
   clear kn; have kn := q_kn; clear q_kn
   have c_kn := cells_of kn
   have f_kn := free_of kn
   have l_kn_W3 := lt_of kn
   replace o_kb := hf_W3.not_own (lt_of kb) o_kb
   clear kb; have kb := q_kb; clear q_kb
   have c_kb := cells_of kb
   have f_kb := free_of kb
   have l_kb_W3 := lt_of kb
   clear kt c_kt f_kt o_kt; have kt := hT_W3.blk; have o_kt := hT_W3.no
   have c_kt := cells_of kt
   have f_kt := free_of kt
   have l_kt_W3 := lt_of kt
   replace hF := hF.trans_new hf_W3 (by omega)
   have z_W3 := hf_W3.size
   clear hA hf_W3; have hA := hT_W3.hA; clear hT_W3
   refine hK.out _ _ ⟨(fun o => (c_ki o).trans (v_ki o).symm), (fun o => (c_kx o).trans (v_kx o).symm), (fun o => (c_kn o).trans (v_kn o).symm), ((c_kt 0).trans (v_kt 0).symm), (fun o => (c_kb o).trans (v_kb o).symm), (by omega), trivial⟩ (fun hHeld => ?_)
   clear hK K
   try simp only [PT]
   refine wpAnyH_ready (rs := [10]) (by kernel_rfl) (by simp) ?_
   refine ready_at rfl (fun K hK => ?_) AllReadyH.nil
   go_simp
   try simp only [IntWalk.i64_left]
   refine (lTold_calls (t := u.2) u.1 _ ⟨hA, kt, o_kt⟩).mono ?_
   rintro e_W4 W4 ⟨rfl, O2, hT_W4, hf_W4⟩
   have q_ki := hf_W4.keep ki o_ki (by unfold oneX; omega)
   have q_kx := hf_W4.keep kx o_kx (by unfold oneX; omega)
   have q_kn := hf_W4.keep kn o_kn (by unfold oneX; omega)
   have q_kb := hf_W4.keep kb o_kb (by unfold oneX; omega)
   replace o_ki := hf_W4.not_own (lt_of ki) o_ki
   clear ki; have ki := q_ki; clear q_ki
   have c_ki := cells_of ki
   have f_ki := free_of ki
   have l_ki_W4 := lt_of ki
   replace o_kx := hf_W4.not_own (lt_of kx) o_kx
   clear kx; have kx := q_kx; clear q_kx
   have c_kx := cells_of kx
   have f_kx := free_of kx
   have l_kx_W4 := lt_of kx
   replace o_kn := hf_W4.not_own (lt_of kn) o_kn
   clear kn; have kn := q_kn; clear q_kn
   have c_kn := cells_of kn
   have f_kn := free_of kn
   have l_kn_W4 := lt_of kn
   replace o_kb := hf_W4.not_own (lt_of kb) o_kb
   clear kb; have kb := q_kb; clear q_kb
   have c_kb := cells_of kb
   have f_kb := free_of kb
   have l_kb_W4 := lt_of kb
   clear kt c_kt f_kt o_kt; have kt := hT_W4.blk; have o_kt := hT_W4.no
   have c_kt := cells_of kt
   have f_kt := free_of kt
   have l_kt_W4 := lt_of kt
   replace hF := hF.trans_new hf_W4 (by omega)
   have z_W4 := hf_W4.size
   clear hA hf_W4; have hA := hT_W4.hA; clear hT_W4
   refine hK.out _ _ ⟨(fun o => (c_ki o).trans (v_ki o).symm), (fun o => (c_kx o).trans (v_kx o).symm), (fun o => (c_kn o).trans (v_kn o).symm), ((c_kt 0).trans (v_kt 0).symm), (fun o => (c_kb o).trans (v_kb o).symm), (by omega), trivial⟩ (fun hHeld => ?_)
   clear hK K
   try simp only [PT]
   refine ty (i := 11) (v := ?_) rfl hHeld ?_ ?_
   rotate_left
   focus (intro w hSw; go_simp; (try simp only [IntWalk.i64_left]); try (with_reducible rfl))
   try simp only [PT]
   refine ty (i := 12) (v := ?_) rfl hHeld ?_ ?_
   rotate_left
   focus (intro w hSw; go_simp; (try simp only [IntWalk.i64_left]); try (with_reducible rfl))
   try simp only [PT]
   refine wpAnyH_ready (rs := [13]) (by kernel_rfl) (by simp) ?_
   refine ready_at rfl (fun K hK => ?_) AllReadyH.nil
   go_simp
   refine hK.out _ _ hHeld (fun hHeld => ?_)
   clear hK K
   try simp only [PT]
   refine wpAnyH_ready (rs := [14]) (by kernel_rfl) (by simp) ?_
   refine ready_at rfl (fun K hK => ?_) AllReadyH.nil
   go_simp
   refine hK.out _ _ hHeld (fun hHeld => ?_)
   clear hK K
   try simp only [PT]
   refine wpAnyH_done (by kernel_rfl) ?_ _
   refine NoPanic.normal ?_
   go_wp2_with fail
   go_ret2
   refine ⟨rfl, O2, ?_, hF⟩
   rw [told_s]; exact hA
 ·
  have d1 : (lMay x i (lLen s h) != 0) = true := by simp [h1]
  rw [if_neg h1] at hr
  obtain rfl := Option.some.inj hr
  clear hr h1
  go_enter Tryz.func41, Tryz.ntmps41
  go_wp2_with fail
  refine calls_gen fun V hV_V => ?_
  have n_ki := congrArg (fun v : World => v.heap[w.heap.size]?) hV_V
  simp (maxDischargeDepth := 9) only [BK, not_false_eq_true, reduceCtorEq] at n_ki
  have n_kx := congrArg (fun v : World => v.heap[w.heap.size + 1]?) hV_V
  simp (maxDischargeDepth := 9) only [BK, not_false_eq_true, reduceCtorEq] at n_kx
  have o_ki : ¬ O (w.heap.size) := by first | exact hA.new (Nat.le_refl _) | exact hA.new (by omega)
  have o_kx : ¬ O (w.heap.size + 1) := by first | exact hA.new (Nat.le_refl _) | exact hA.new (by omega)
  have n_F : Fr (noX) O O w V := nF hV_V
  have n_A : AP V (.pointer q) s O := nA hV_V
  have z_V := Nat.le_of_eq (congrArg (fun v : World => v.heap.size) hV_V).symm
  try simp only [SZ] at z_V
  clear hV_V
  clear hA
  have hA := n_A
  clear n_A
  skip
  have hF := n_F
  clear n_F
  have ki := n_ki; clear n_ki
  have c_ki := cells_of ki
  have f_ki := free_of ki
  have l_ki_V := lt_of ki
  have kx := n_kx; clear n_kx
  have c_kx := cells_of kx
  have f_kx := free_of kx
  have l_kx_V := lt_of kx
  refine (lLen_calls _ _ hA).mono ?_
  rintro e_W1 W1 ⟨rfl, hb_W1⟩
  replace hA := hA.below hb_W1
  replace hF := hF.below hb_W1
  replace ki := keep_blk hb_W1 ki
  have c_ki := cells_of ki
  have f_ki := free_of ki
  have l_ki_W1 := lt_of ki
  replace kx := keep_blk hb_W1 kx
  have c_kx := cells_of kx
  have f_kx := free_of kx
  have l_kx_W1 := lt_of kx
  have z_W1 := hb_W1.size
  clear hb_W1
  go_wp2_with fail
  refine calls_gen fun V1 hV_V1 => ?_
  have n_ki := congrArg (fun v : World => v.heap[w.heap.size]?) hV_V1
  simp (maxDischargeDepth := 9) only [BK, not_false_eq_true, reduceCtorEq, ki, kx, l_ki_V, l_kx_V, l_ki_W1, l_kx_W1] at n_ki
  have n_kx := congrArg (fun v : World => v.heap[w.heap.size + 1]?) hV_V1
  simp (maxDischargeDepth := 9) only [BK, not_false_eq_true, reduceCtorEq, ki, kx, l_ki_V, l_kx_V, l_ki_W1, l_kx_W1] at n_kx
  have n_kn := congrArg (fun v : World => v.heap[W1.heap.size]?) hV_V1
  simp (maxDischargeDepth := 9) only [BK, not_false_eq_true, reduceCtorEq, ki, kx, l_ki_V, l_kx_V, l_ki_W1, l_kx_W1] at n_kn
  have o_kn : ¬ O (W1.heap.size) := by first | exact hA.new (Nat.le_refl _) | exact hA.new (by omega)
  have n_F : Fr (noX) O O w V1 := nF hV_V1
  have n_A : AP V1 (.pointer q) s O := nA hV_V1
  have z_V1 := Nat.le_of_eq (congrArg (fun v : World => v.heap.size) hV_V1).symm
  try simp only [SZ] at z_V1
  clear ki c_ki f_ki
  clear kx c_kx f_kx
  clear hV_V1
  clear hA
  have hA := n_A
  clear n_A
  clear hF
  have hF := n_F
  clear n_F
  have ki := n_ki; clear n_ki
  have c_ki := cells_of ki
  have f_ki := free_of ki
  have l_ki_V1 := lt_of ki
  have kx := n_kx; clear n_kx
  have c_kx := cells_of kx
  have f_kx := free_of kx
  have l_kx_V1 := lt_of kx
  have kn := n_kn; clear n_kn
  have c_kn := cells_of kn
  have f_kn := free_of kn
  have l_kn_V1 := lt_of kn
  refine (lMay_calls x i (lLen s h) _).mono ?_
  rintro e_W2 W2 ⟨rfl, hb_W2⟩
  replace hA := hA.below hb_W2
  replace hF := hF.below hb_W2
  replace ki := keep_blk hb_W2 ki
  have c_ki := cells_of ki
  have f_ki := free_of ki
  have l_ki_W2 := lt_of ki
  replace kx := keep_blk hb_W2 kx
  have c_kx := cells_of kx
  have f_kx := free_of kx
  have l_kx_W2 := lt_of kx
  replace kn := keep_blk hb_W2 kn
  have c_kn := cells_of kn
  have f_kn := free_of kn
  have l_kn_W2 := lt_of kn
  have z_W2 := hb_W2.size
  clear hb_W2
  go_wp2_with fail
  go_ret2
  exact ⟨rfl, O, hA, hF⟩
end Go.Proofs.YtpdpcgmkpgfblaaGreat
/- Tables: a document's place. -/
namespace Go.Proofs.YtpdpcgmkpgfblaaGreat
set_option linter.unusedSimpArgs false
set_option linter.unusedVariables false
set_option linter.unnecessarySimpa false
open Go.RowKit
attribute [local go_sem ↓] Go.wp_at_zero Go.wp_at_succ
attribute [local go_sem] lt_s2 lt_s3 lt_s4
attribute [local go_sem] idx0 idx1 idx2 idx3
variable {ap : Value} {s : Ar} {O : Nat → Prop}
theorem tLen_calls (h : Int) (w : World) (hA : AP w ap s O) :
    Calls Tryz.prog 25 #[ap, .int .i64 h] w fun e w' => e = .returned (.int .i64 (lLen s h)) ∧ Below w.heap.size w w' := by
  go_enter Tryz.func25, Tryz.ntmps25
  go_wp2_with fail
  refine calls_gen fun V hV_V => ?_
  have n_B : Below w.heap.size w V := nB hV_V
  have n_A : AP V ap s O := nA hV_V
  have z_V := Nat.le_of_eq (congrArg (fun v : World => v.heap.size) hV_V).symm
  try simp only [SZ] at z_V
  clear hV_V
  clear hA
  have hA := n_A
  clear n_A
  skip
  have hB := n_B
  clear n_B
  refine (lLen_calls _ _ hA).mono ?_
  rintro e_W1 W1 ⟨rfl, hb_W1⟩
  replace hA := hA.below hb_W1
  replace hB := below_step hB hb_W1
  have z_W1 := hb_W1.size
  clear hb_W1
  go_wp2_with fail
  go_ret
  exact ⟨rfl, hB⟩
set_option maxRecDepth 100000 in
set_option maxHeartbeats 2000000 in
theorem tPlace_calls (h id : Int) (l : List (Int × Int)) (hr : lAll s h = some l) (hl : l.length ≤ 50000) (w : World) (hA : AP w ap s O) :
    Calls Tryz.prog 69 #[ap, .int .i64 h, .int .i64 id] w fun e w' => e = .returned (.tuple #[.int .i64 (placeIn id l 0).1, .bool (placeIn id l 0).2]) ∧ Below w.heap.size w w' := by
  have Hr := Lib.hid hr; clear hr
  obtain ⟨R, hR⟩ : ∃ R, R = placeIn id l 0 := ⟨_, rfl⟩
  rw [← hR]
  have HR := Lib.hid hR; clear hR
  go_enter Tryz.func69, Tryz.ntmps69
  go_wp2_with fail
  refine calls_gen fun V hV_V => ?_
  have n_B : Below w.heap.size w V := nB hV_V
  have n_A : AP V ap s O := nA hV_V
  have z_V := Nat.le_of_eq (congrArg (fun v : World => v.heap.size) hV_V).symm
  try simp only [SZ] at z_V
  clear hV_V
  clear hA
  have hA := n_A
  clear n_A
  skip
  have hB := n_B
  clear n_B
  refine (lAll_calls _ l Hr.out hl _ hA).mono ?_
  rintro e_W1 W1 ⟨v, rfl, hown, hb_W1⟩
  replace hA := hA.below hb_W1
  replace hB := below_step hB hb_W1
  have z_W1 := hb_W1.size
  clear hb_W1
  obtain ⟨hx1, A, cap, rfl, hx2⟩ := Rx.of_own hown
  clear hown hA
  have HB1 := Lib.hid hB; clear hB
  go_wp2_with fail
  go_loopg [14] l.length (fun k p wr => ∃ i : Nat, p = .int .i64 (i : Int) ∧ i + k = l.length ∧ Hid (placeIn id (l.drop i) i = R) ∧ Below W1.heap.size W1 wr)
  case atStart => exact ⟨0, rfl, by omega, Lib.hid HR.out.symm, Below.refl _ _⟩
  case round =>
    obtain ⟨i, rfl, hk, Hp, hB⟩ := hrel
    by_cases hlt : i < l.length
    · have d1 : decide ((i : Int) < (l.length : Int)) = true := by simpa using hlt
      obtain ⟨k, rfl⟩ : ∃ k, gk = k + 1 := ⟨gk - 1, by omega⟩
      obtain ⟨g, rfl, hg, hc⟩ := hx2 (by omega)
      obtain ⟨x, hx⟩ : ∃ x, l[i]? = some x := ⟨l[i], by simp [hlt]⟩
      have hp := Hp.out
      have hd : l.drop i = x :: l.drop (i + 1) := by rw [List.drop_eq_getElem_cons hlt]; congr 1; exact Option.some.inj ((List.getElem?_eq_getElem hlt).symm.trans hx)
      rw [hd] at hp
      unfold placeIn at hp
      have c1 : wr.cell? ⟨g, i * 2, none⟩ = some (.int .i64 x.1) := ((hB.cell (by exact hg)).trans (hc _ (by omega))).trans (itemCells_at l i x hx).1
      have c2 : wr.cell? ⟨g, i * 2 + 1, none⟩ = some (.int .i64 x.2) := ((hB.cell (by exact hg)).trans (hc _ (by omega))).trans (itemCells_at l i x hx).2
      clear hx2 hc Hp hd hx hx1
      by_cases he : x.1 = id
      · have d2 : (x.1 == id) = true := by simpa using he
        rw [if_pos he] at hp
        have Hp := Lib.hid hp; clear hp he
        go_wp2_with fail
        go_ret2
        have hb := below_step HB1.out hB
        exact ⟨by rw [← Hp.out]; rfl, hb.alloc hb.size _⟩
      · have d2 : (x.1 == id) = false := by simpa using he
        rw [if_neg he] at hp
        have Hp := Lib.hid hp; clear hp he
        go_wp2_with fail
        go_roundg k
        case measure => omega
        case rel => exact ⟨i + 1, by simp, by omega, Lib.hid (by rw [show ((i + 1 : Nat) : Int) = (i : Int) + 1 from rfl]; exact Hp.out), hB.alloc hB.size _⟩
    · have d1 : decide ((i : Int) < (l.length : Int)) = false := by simpa using hlt
      have hi : i = l.length := by omega
      have hp := Hp.out
      rw [hi, List.drop_length] at hp
      unfold placeIn at hp
      have Hp2 := Lib.hid hp; clear hp Hp
      go_wp2_with fail
      go_ret2
      exact ⟨by rw [← Hp2.out]; rfl, below_step HB1.out hB⟩
set_option maxRecDepth 100000 in
set_option maxHeartbeats 4000000 in
theorem tAdd_calls (h id len : Int) (l : List (Int × Int)) (hr : lAll s h = some l) (hl : l.length ≤ 50000) (r : Int × Int × Ar) (h2 : tAdd s h id len = some r) (w : World) (hA : AP w ap s O) :
    Calls Tryz.prog 43 #[ap, .int .i64 h, .int .i64 id, .int .i64 len] w fun e w' => e = .returned (.tuple #[.int .i64 r.1, .int .i64 r.2.1]) ∧ Did noX ap r.2.2 O w w' := by
  unfold tAdd tPlace at h2
  rw [hr] at h2
  simp only [Option.map_some, Option.bind_some] at h2
  have Hr := Lib.hid hr; clear hr
  by_cases c : id < 1 ∨ (placeIn id l 0).2 = true ∨ len < 0 ∨ 40 < len
  · rw [if_pos c] at h2
    obtain rfl := Option.some.inj h2
    clear h2
    by_cases c1 : id < 1
    · have d1 : decide (id < 1) = true := by simpa using c1
      clear c c1
      go_enter Tryz.func43, Tryz.ntmps43
      go_wp2_with fail
      refine calls_gen fun V hV_V => ?_
      have n_F : Fr (noX) O O w V := nF hV_V
      have n_A : AP V ap s O := nA hV_V
      have z_V := Nat.le_of_eq (congrArg (fun v : World => v.heap.size) hV_V).symm
      try simp only [SZ] at z_V
      clear hV_V
      clear hA
      have hA := n_A
      clear n_A
      skip
      have hF := n_F
      clear n_F
      refine (tLen_calls _ _ hA).mono ?_
      rintro e_W1 W1 ⟨rfl, hb_W1⟩
      replace hA := hA.below hb_W1
      replace hF := hF.below hb_W1
      have z_W1 := hb_W1.size
      clear hb_W1
      go_wp2_with fail
      refine calls_gen fun V1 hV_V1 => ?_
      have n_F : Fr (noX) O O w V1 := nF hV_V1
      have n_A : AP V1 ap s O := nA hV_V1
      have z_V1 := Nat.le_of_eq (congrArg (fun v : World => v.heap.size) hV_V1).symm
      try simp only [SZ] at z_V1
      clear hV_V1
      clear hA
      have hA := n_A
      clear n_A
      clear hF
      have hF := n_F
      clear n_F
      refine (tPlace_calls _ _ l Hr.out hl _ hA).mono ?_
      rintro e_W2 W2 ⟨rfl, hb_W2⟩
      replace hA := hA.below hb_W2
      replace hF := hF.below hb_W2
      have z_W2 := hb_W2.size
      clear hb_W2
      go_wp2_with fail
      go_ret2
      exact ⟨rfl, O, hA, hF⟩
    · have d1 : decide (id < 1) = false := by simpa using c1
      cases c2 : (placeIn id l 0).2 with
      | true =>
        clear c c1
        go_enter Tryz.func43, Tryz.ntmps43
        go_wp2_with fail
        refine calls_gen fun V hV_V => ?_
        have n_F : Fr (noX) O O w V := nF hV_V
        have n_A : AP V ap s O := nA hV_V
        have z_V := Nat.le_of_eq (congrArg (fun v : World => v.heap.size) hV_V).symm
        try simp only [SZ] at z_V
        clear hV_V
        clear hA
        have hA := n_A
        clear n_A
        skip
        have hF := n_F
        clear n_F
        refine (tLen_calls _ _ hA).mono ?_
        rintro e_W1 W1 ⟨rfl, hb_W1⟩
        replace hA := hA.below hb_W1
        replace hF := hF.below hb_W1
        have z_W1 := hb_W1.size
        clear hb_W1
        go_wp2_with fail
        refine calls_gen fun V1 hV_V1 => ?_
        have n_F : Fr (noX) O O w V1 := nF hV_V1
        have n_A : AP V1 ap s O := nA hV_V1
        have z_V1 := Nat.le_of_eq (congrArg (fun v : World => v.heap.size) hV_V1).symm
        try simp only [SZ] at z_V1
        clear hV_V1
        clear hA
        have hA := n_A
        clear n_A
        clear hF
        have hF := n_F
        clear n_F
        refine (tPlace_calls _ _ l Hr.out hl _ hA).mono ?_
        rintro e_W2 W2 ⟨rfl, hb_W2⟩
        replace hA := hA.below hb_W2
        replace hF := hF.below hb_W2
        have z_W2 := hb_W2.size
        clear hb_W2
        rw [c2]
        go_wp2_with fail
        go_ret2
        exact ⟨rfl, O, hA, hF⟩
      | false =>
        by_cases c3 : len < 0
        · have d3 : decide (len < 0) = true := by simpa using c3
          clear c c1 c3
          go_enter Tryz.func43, Tryz.ntmps43
          go_wp2_with fail
          refine calls_gen fun V hV_V => ?_
          have n_F : Fr (noX) O O w V := nF hV_V
          have n_A : AP V ap s O := nA hV_V
          have z_V := Nat.le_of_eq (congrArg (fun v : World => v.heap.size) hV_V).symm
          try simp only [SZ] at z_V
          clear hV_V
          clear hA
          have hA := n_A
          clear n_A
          skip
          have hF := n_F
          clear n_F
          refine (tLen_calls _ _ hA).mono ?_
          rintro e_W1 W1 ⟨rfl, hb_W1⟩
          replace hA := hA.below hb_W1
          replace hF := hF.below hb_W1
          have z_W1 := hb_W1.size
          clear hb_W1
          go_wp2_with fail
          refine calls_gen fun V1 hV_V1 => ?_
          have n_F : Fr (noX) O O w V1 := nF hV_V1
          have n_A : AP V1 ap s O := nA hV_V1
          have z_V1 := Nat.le_of_eq (congrArg (fun v : World => v.heap.size) hV_V1).symm
          try simp only [SZ] at z_V1
          clear hV_V1
          clear hA
          have hA := n_A
          clear n_A
          clear hF
          have hF := n_F
          clear n_F
          refine (tPlace_calls _ _ l Hr.out hl _ hA).mono ?_
          rintro e_W2 W2 ⟨rfl, hb_W2⟩
          replace hA := hA.below hb_W2
          replace hF := hF.below hb_W2
          have z_W2 := hb_W2.size
          clear hb_W2
          rw [c2]
          go_wp2_with fail
          go_ret2
          exact ⟨rfl, O, hA, hF⟩
        · have d3 : decide (len < 0) = false := by simpa using c3
          have d4 : decide (40 < len) = true := by
            rcases c with c | c | c | c
            · exact absurd c c1
            · rw [c2] at c; cases c
            · exact absurd c c3
            · simpa using c
          clear c c1 c3
          go_enter Tryz.func43, Tryz.ntmps43
          go_wp2_with fail
          refine calls_gen fun V hV_V => ?_
          have n_F : Fr (noX) O O w V := nF hV_V
          have n_A : AP V ap s O := nA hV_V
          have z_V := Nat.le_of_eq (congrArg (fun v : World => v.heap.size) hV_V).symm
          try simp only [SZ] at z_V
          clear hV_V
          clear hA
          have hA := n_A
          clear n_A
          skip
          have hF := n_F
          clear n_F
          refine (tLen_calls _ _ hA).mono ?_
          rintro e_W1 W1 ⟨rfl, hb_W1⟩
          replace hA := hA.below hb_W1
          replace hF := hF.below hb_W1
          have z_W1 := hb_W1.size
          clear hb_W1
          go_wp2_with fail
          refine calls_gen fun V1 hV_V1 => ?_
          have n_F : Fr (noX) O O w V1 := nF hV_V1
          have n_A : AP V1 ap s O := nA hV_V1
          have z_V1 := Nat.le_of_eq (congrArg (fun v : World => v.heap.size) hV_V1).symm
          try simp only [SZ] at z_V1
          clear hV_V1
          clear hA
          have hA := n_A
          clear n_A
          clear hF
          have hF := n_F
          clear n_F
          refine (tPlace_calls _ _ l Hr.out hl _ hA).mono ?_
          rintro e_W2 W2 ⟨rfl, hb_W2⟩
          replace hA := hA.below hb_W2
          replace hF := hF.below hb_W2
          have z_W2 := hb_W2.size
          clear hb_W2
          rw [c2]
          go_wp2_with fail
          go_ret2
          exact ⟨rfl, O, hA, hF⟩
  · rw [if_neg c] at h2
    have d1 : decide (id < 1) = false := by simp; omega
    have d3 : decide (len < 0) = false := by simp; omega
    have d4 : decide (40 < len) = false := by simp; omega
    have c2 : (placeIn id l 0).2 = false := by cases c5 : (placeIn id l 0).2 with | true => exact absurd (.inr (.inl c5)) c | false => rfl
    by_cases c6 : 10 ≤ lLen s h
    · rw [if_pos c6] at h2
      have d6 : decide (10 ≤ lLen s h) = true := by simpa using c6
      obtain rfl := Option.some.inj h2
      clear h2 c c6
      go_enter Tryz.func43, Tryz.ntmps43
      go_wp2_with fail
      refine calls_gen fun V hV_V => ?_
      have n_F : Fr (noX) O O w V := nF hV_V
      have n_A : AP V ap s O := nA hV_V
      have z_V := Nat.le_of_eq (congrArg (fun v : World => v.heap.size) hV_V).symm
      try simp only [SZ] at z_V
      clear hV_V
      clear hA
      have hA := n_A
      clear n_A
      skip
      have hF := n_F
      clear n_F
      refine (tLen_calls _ _ hA).mono ?_
      rintro e_W1 W1 ⟨rfl, hb_W1⟩
      replace hA := hA.below hb_W1
      replace hF := hF.below hb_W1
      have z_W1 := hb_W1.size
      clear hb_W1
      go_wp2_with fail
      refine calls_gen fun V1 hV_V1 => ?_
      have n_F : Fr (noX) O O w V1 := nF hV_V1
      have n_A : AP V1 ap s O := nA hV_V1
      have z_V1 := Nat.le_of_eq (congrArg (fun v : World => v.heap.size) hV_V1).symm
      try simp only [SZ] at z_V1
      clear hV_V1
      clear hA
      have hA := n_A
      clear n_A
      clear hF
      have hF := n_F
      clear n_F
      refine (tPlace_calls _ _ l Hr.out hl _ hA).mono ?_
      rintro e_W2 W2 ⟨rfl, hb_W2⟩
      replace hA := hA.below hb_W2
      replace hF := hF.below hb_W2
      have z_W2 := hb_W2.size
      clear hb_W2
      rw [c2]
      go_wp2_with fail
      go_ret2
      exact ⟨rfl, O, hA, hF⟩
    · rw [if_neg c6] at h2
      have d6 : decide (10 ≤ lLen s h) = false := by simpa using c6
      have H2 := Lib.hid h2
      clear h2 c c6
      go_enter Tryz.func43, Tryz.ntmps43
      go_wp2_with fail
      refine calls_gen fun V hV_V => ?_
      have n_F : Fr (noX) O O w V := nF hV_V
      have n_A : AP V ap s O := nA hV_V
      have z_V := Nat.le_of_eq (congrArg (fun v : World => v.heap.size) hV_V).symm
      try simp only [SZ] at z_V
      clear hV_V
      clear hA
      have hA := n_A
      clear n_A
      skip
      have hF := n_F
      clear n_F
      refine (tLen_calls _ _ hA).mono ?_
      rintro e_W1 W1 ⟨rfl, hb_W1⟩
      replace hA := hA.below hb_W1
      replace hF := hF.below hb_W1
      have z_W1 := hb_W1.size
      clear hb_W1
      go_wp2_with fail
      refine calls_gen fun V1 hV_V1 => ?_
      have n_F : Fr (noX) O O w V1 := nF hV_V1
      have n_A : AP V1 ap s O := nA hV_V1
      have z_V1 := Nat.le_of_eq (congrArg (fun v : World => v.heap.size) hV_V1).symm
      try simp only [SZ] at z_V1
      clear hV_V1
      clear hA
      have hA := n_A
      clear n_A
      clear hF
      have hF := n_F
      clear n_F
      refine (tPlace_calls _ _ l Hr.out hl _ hA).mono ?_
      rintro e_W2 W2 ⟨rfl, hb_W2⟩
      replace hA := hA.below hb_W2
      replace hF := hF.below hb_W2
      have z_W2 := hb_W2.size
      clear hb_W2
      rw [c2]
      go_wp2_with fail
      refine calls_gen fun V2 hV_V2 => ?_
      have n_F : Fr (noX) O O w V2 := nF hV_V2
      have n_A : AP V2 ap s O := nA hV_V2
      have z_V2 := Nat.le_of_eq (congrArg (fun v : World => v.heap.size) hV_V2).symm
      try simp only [SZ] at z_V2
      clear hV_V2
      clear hA
      have hA := n_A
      clear n_A
      clear hF
      have hF := n_F
      clear n_F
      refine (lInsert_calls _ _ (id, len) _ H2.out _ hA).mono ?_
      rintro e_W3 W3 ⟨rfl, O1, hA_W3, hf_W3⟩
      replace hF := hF.trans hf_W3.widen
      have z_W3 := hf_W3.size
      clear hA hf_W3; have hA := hA_W3; clear hA_W3
      go_wp2_with fail
      go_ret2
      exact ⟨rfl, O1, hA, hF⟩
end Go.Proofs.YtpdpcgmkpgfblaaGreat
/- The arena's Work. -/
namespace Go.Proofs.YtpdpcgmkpgfblaaGreat
set_option linter.unusedSimpArgs false
set_option linter.unusedVariables false
set_option linter.unnecessarySimpa false
open Go.RowKit
attribute [local go_sem ↓] Go.wp_at_zero Go.wp_at_succ
attribute [local go_sem] lt_s2 lt_s3 lt_s4
attribute [local go_sem] idx0 idx1 idx2 idx3
variable {ap : Value} {s : Ar} {O : Nat → Prop}
set_option maxRecDepth 100000 in
set_option maxHeartbeats 4000000 in
theorem work_calls (most : Int) (r : Int × Ar) (hr : s.work most = some r) (w : World) (hA : AP w ap s O) :
    Calls Tryz.prog 42 #[ap, .int .i64 most] w fun e w' => e = .returned (.int .i64 r.1) ∧ Did noX ap r.2 O w w' := by
  have hb' := Lib.hid hr; clear hr
  go_enter Tryz.func42, Tryz.ntmps42
  go_wp2_with fail
  refine wp_scope_ghost 0 (fun n a' wr => ∃ x s1 O1, (AP wr ap s1 O1 ∧ Fr noX O O1 w wr ∧ Hid (Ar.workL n s1 most x = some r)) ∧ ∃ u2 u3 u4 u6 u7 u8 u9 u10 u11 u12 u13 u14 u15 u16 u17 u18 u19 u20 u21 u22 u23 u24 u25 u26 u27 u28 u29 u30 u31 u32 u33 u34 u35 u36 u37 u38 u39 u40 u41 u42 u43 u44 u45 u46 u47 u48 u49 u50 u51 u52 u53 u54 u55 u56 u57 u58 u59 u60 u61 u62 u63 u64 u65 u66 u67 u68 u69 u70 : Value, a' = { tmps := #[(ap : Value), (.int .i64 most : Value), u2, u3, u4, (.int .i64 x : Value), u6, u7, u8, u9, u10, u11, u12, u13, u14, u15, u16, u17, u18, u19, u20, u21, u22, u23, u24, u25, u26, u27, u28, u29, u30, u31, u32, u33, u34, u35, u36, u37, u38, u39, u40, u41, u42, u43, u44, u45, u46, u47, u48, u49, u50, u51, u52, u53, u54, u55, u56, u57, u58, u59, u60, u61, u62, u63, u64, u65, u66, u67, u68, u69, u70], defers := [] }) (by rfl) ?first ?pass
  case first =>
    intro hrest
    go_wp2_with fail
    go_step3
    go_step
    go_step
    refine hrest rounds _ _ ⟨0, s, O, ⟨hA, Fr.refl _ _ _, hb'⟩, ?_⟩
    exact ⟨_, _, _, _, _, _, _, _, _, _, _, _, _, _, _, _, _, _, _, _, _, _, _, _, _, _, _, _, _, _, _, _, _, _, _, _, _, _, _, _, _, _, _, _, _, _, _, _, _, _, _, _, _, _, _, _, _, _, _, _, _, _, _, _, _, _, _, _, rfl⟩
  case pass =>
    rintro n a' wr ⟨x, s1, O1, ⟨hA, hF0, hb'⟩, u2, u3, u4, u6, u7, u8, u9, u10, u11, u12, u13, u14, u15, u16, u17, u18, u19, u20, u21, u22, u23, u24, u25, u26, u27, u28, u29, u30, u31, u32, u33, u34, u35, u36, u37, u38, u39, u40, u41, u42, u43, u44, u45, u46, u47, u48, u49, u50, u51, u52, u53, u54, u55, u56, u57, u58, u59, u60, u61, u62, u63, u64, u65, u66, u67, u68, u69, u70, rfl⟩ J hJ
    have hb := hb'.out
    clear hb'
    cases n with
    | zero => exact absurd hb (by simp [Ar.workL])
    | succ n =>
      unfold Ar.workL at hb
      by_cases h1 : most ≤ x
      · rw [if_pos h1] at hb
        have d1 : decide (most ≤ x) = true := by simpa using h1
        obtain rfl := Option.some.inj hb
        clear hb h1
        have HF := Lib.hid hF0; clear hF0
        go_wp2_with fail
        simp only [Exit.jump]
        go_ret
        exact ⟨rfl, O1, hA, HF.out⟩
      · rw [if_neg h1] at hb
        have d1 : decide (most ≤ x) = false := by simpa using h1
        clear h1
        cases hwt : s1.wait with
        | nil =>
          rw [hwt] at hb
          obtain rfl := Option.some.inj hb
          clear hb
          have HF := Lib.hid hF0; clear hF0
          go_wp2_with fail
          refine (pending_calls _ hA).mono ?_
          rintro e w1 ⟨rfl, rfl⟩
          rw [hwt]
          go_wp2_with fail
          simp only [Exit.jump]
          go_ret
          exact ⟨rfl, O1, hA, HF.out⟩
        | cons h l =>
          rw [hwt] at hb
          dsimp only at hb
          have hm := hA.1.mem h (by rw [hwt]; simp)
          obtain ⟨p, nb, cb, ub, wv, rfl, hR⟩ := hA.raw (by omega)
          have hwv := hR.hw
          rw [hwt] at hwv
          rcases hwv with ⟨-, h0⟩ | ⟨g, off, cap, c, rfl, hg, hl1, hl2, hl3, hl4⟩
          · cases h0
          have hs := hA.1.small
          have Hb := Lib.hid hb; clear hb
          have HF := Lib.hid hF0; clear hF0
          obtain ⟨cp, cc, cu, n0, n1, n2, n3, n4, n5, n6⟩ := hR.reads
          have cu := cu h hm.2.1; have n0 := n0 h hm.2.1; have n1 := n1 h hm.2.1; have n2 := n2 h hm.2.1; have n3 := n3 h hm.2.1; have n4 := n4 h hm.2.1; have n5 := n5 h hm.2.1; have n6 := n6 h hm.2.1
          clear cc
          have hc4 := hl4 0 (by simp)
          simp only [Nat.add_zero, List.getElem_cons_zero] at hc4
          have cw : wr.cell? ⟨g, off, none⟩ = some (.int .i64 (h : Int)) := by rw [cells_of hg]; exact hc4
          clear hc4
          have hne1 := hR.pn; have hne2 := hR.pc; have hne3 := hR.pu; have hne4 := hR.nc; have hne5 := hR.nu; have hne6 := hR.cu
          have fn := free_of hR.hn; have fu := free_of hR.hu; have fp := free_of hR.hp
          have d3 : (h : Int) < (s1.size : Int) + 1 := by omega
          have d4 : (0 : Int) ≤ (h : Int) := by omega
          have HR := Lib.hid hR; clear hR
          have hO1 : ∀ y, wr.heap.size ≤ y → ¬ O1 y := fun y hy => hA.new hy
          have hWq := hA.1.pop hwt
          have HW := Lib.hid hWq; clear hWq
          go_wp2_with fail
          refine (pending_calls _ hA).mono ?_
          rintro e w1 ⟨rfl, rfl⟩
          rw [hwt]
          clear hA
          have HL4 := Lib.hid hl4; clear hl4
          have HG := Lib.hid hg; clear hg
          have Hwt := Lib.hid hwt; clear hwt
          by_cases hcap : cap = 1
          all_goals
            go_wp2_with fail
            refine wp_gen fun V hV => ?_
            have key : ∃ nv, Raw V p s1.size nb cb ub nv (nodeF s1) (countF s1) (usedF s1) s1.busy s1.made l O1 ∧ V.heap[wr.heap.size]? = some (.cells #[.int .i64 (s1.node h).k0, .int .i64 (s1.node h).k1, .int .i64 (s1.node h).k2, .int .i64 (s1.node h).k3] 41 (0, 0)) ∧ Fr noX O O1 w V := by
              have hR := HR.out
              have hl1' : l.length + 1 ≤ cap := by simpa using hl1
              have hnb : (Value.slice (some ⟨g, off, none⟩) (h :: l).length cap).ownBlock = some g := rfl
              have hwt2 : ∀ (o2 c2 : Nat), (l.length = 0 ∨ o2 = off + 1) → l.length ≤ c2 → o2 + c2 ≤ off + cap → Wt wr (.slice (some ⟨g, o2, none⟩) l.length c2) l := by
                intro o2 c2 ho hc2 hoc
                refine .inr ⟨g, o2, c2, c, rfl, HG.out, hc2, by omega, by omega, fun i hi => ?_⟩
                have ho2 : o2 = off + 1 := by omega
                subst ho2
                have := HL4.out (i + 1) (by simp; omega)
                rw [show off + 1 + i = off + (i + 1) by omega, this]
                simp
              have hO := hR.ow g hnb
              have h1 : g ≠ cb := fun e => hR.ncw (by rw [hnb, e])
              have h2 : g ≠ p := fun e => hR.wp (by rw [hnb, e])
              first
              | exact ⟨_, by rw [hV]; exact (hR.setW (.slice (some ⟨g, off + 1, none⟩) l.length (cap - 1)) l (hwt2 _ _ (.inr rfl) (by omega) (by omega)) (by simp [Value.ownBlock]; exact h1) (by simp [Value.ownBlock]; exact h2) (by simp [Value.ownBlock]; exact hO)).alloc _, by rw [hV]; exact blk_new _ _ _ (by rw [siz_set]), by rw [hV]; exact (HF.out.ownSet (q := ⟨p, 3, none⟩) hR.op _).alloc _⟩
              | exact ⟨_, by rw [hV]; exact (hR.setW (.slice (some ⟨g, off, none⟩) l.length (cap - 1)) l (hwt2 _ _ (.inl (by omega)) (by omega) (by omega)) (by simp [Value.ownBlock]; exact h1) (by simp [Value.ownBlock]; exact h2) (by simp [Value.ownBlock]; exact hO)).alloc _, by rw [hV]; exact blk_new _ _ _ (by rw [siz_set]), by rw [hV]; exact (HF.out.ownSet (q := ⟨p, 3, none⟩) hR.op _).alloc _⟩
              | exact ⟨_, by rw [hV]; exact (hR.setW (.slice (some ⟨g, off, none⟩) l.length 0) l (hwt2 _ _ (.inl (by omega)) (by omega) (by omega)) (by simp [Value.ownBlock]; exact h1) (by simp [Value.ownBlock]; exact h2) (by simp [Value.ownBlock]; exact hO)).alloc _, by rw [hV]; exact blk_new _ _ _ (by rw [siz_set]), by rw [hV]; exact (HF.out.ownSet (q := ⟨p, 3, none⟩) hR.op _).alloc _⟩
            obtain ⟨nv, hRV, hk, hFV⟩ := key
            have hz : wr.heap.size < V.heap.size := lt_of hk
            have hx1 : wr.heap.size ≠ nb := fun e => hO1 _ (Nat.le_refl _) (by rw [e]; exact hRV.on)
            have hx2 : wr.heap.size ≠ cb := fun e => hO1 _ (Nat.le_refl _) (by rw [e]; exact hRV.oc)
            have hx3 : wr.heap.size ≠ ub := fun e => hO1 _ (Nat.le_refl _) (by rw [e]; exact hRV.ou)
            have hx4 : wr.heap.size ≠ p := fun e => hO1 _ (Nat.le_refl _) (by rw [e]; exact hRV.op)
            have hkO : ¬ O1 wr.heap.size := hO1 _ (Nat.le_refl _)
            clear hV HL4 HG HR HF cp cu n0 n1 n2 n3 n4 n5 n6 cw fn fu fp hl1 hl2 hl3
            obtain ⟨cp, cc, cu, n0, n1, n2, n3, n4, n5, n6⟩ : ArenaC V p { s1 with wait := l } nb cb ub nv := RawS.reads (s := { s1 with wait := l }) hRV
            have cu := cu h hm.2.1; have n0 := n0 h hm.2.1; have n1 := n1 h hm.2.1; have n2 := n2 h hm.2.1; have n3 := n3 h hm.2.1; have n4 := n4 h hm.2.1; have n5 := n5 h hm.2.1; have n6 := n6 h hm.2.1
            clear cc
            dsimp only at cp cu n0 n1 n2 n3 n4 n5 n6
            have ck := cells_of hk
            have fn := free_of hRV.hn; have fu := free_of hRV.hu
            have HRV := Lib.hid hRV; clear hRV
            have HFV := Lib.hid hFV; clear hFV
            go_region
            have fp := free_of HRV.out.hp
            go_wp2_with fail
            refine wp_gen fun V2 hV2 => ?_
            have key2 : AP V2 (.pointer (some ⟨p, 0, none⟩)) (s1.pop h l) O1 ∧ Fr noX O O1 w V2 := by
              have hR2 := HRV.out
              have hfin := (((((((((hR2.setN (h * 7) (.int .i64 0)).setN (h * 7 + 1) (.int .i64 0)).setN (h * 7 + 2) (.int .i64 0)).setN (h * 7 + 3) (.int .i64 0)).setN (h * 7 + 4) (.int .i64 0)).setN (h * 7 + 5) (.int .u64 0)).setN (h * 7 + 6) (.int .u64 0)).setU h (.bool false)).setB (wrap64 (s1.busy - 1)))
              have hf0 := HFV.out
              have o1 := hR2.op; have o2 := hR2.on; have o4 := hR2.ou
              rw [hV2]
              constructor
              · refine (AP.of_raw (nb := nb) (cb := cb) (ub := ub) (wv := nv) (s := s1.pop h l) ?_ HW.out).drew
                refine hfin.congr (fun i _ => (nodeF_upd _ h Nd.zero i).trans ?_) (fun i _ => rfl) (fun i _ => ?_)
                · rfl
                · unfold updF usedF Ar.pop upd; dsimp only; split <;> rfl
              · clear hfin
                exact (((((((((hf0.ownSet (q := _) (by exact o2) _).ownSet (q := _) (by exact o2) _).ownSet (q := _) (by exact o2) _).ownSet (q := _) (by exact o2) _).ownSet (q := _) (by exact o2) _).ownSet (q := _) (by exact o2) _).ownSet (q := _) (by exact o2) _).ownSet (q := _) (by exact o4) _).ownSet (q := _) (by exact o1) _).drew
            obtain ⟨hA2, hF2⟩ := key2
            clear hV2 HRV HFV
            have HA2 := Lib.hid hA2; have HF2 := Lib.hid hF2; clear hA2 hF2
            go_loopw [62] (fun y w3 => ∃ i : Nat, i ≤ 4 ∧ y = .int .i64 i ∧ ∃ O', AP w3 (.pointer (some ⟨p, 0, none⟩)) ((s1.pop h l).dropAll ((s1.node h).kids.take i)) O' ∧ Fr noX O O' w w3) (fun y _ => 4 - (intOf y).toNat)
            case atStart => exact ⟨0, by omega, rfl, _, HA2.out, HF2.out⟩
            case round =>
              obtain ⟨i, hi, rfl, O', hA', hF'⟩ := hrel
              rcases (show i = 0 ∨ i = 1 ∨ i = 2 ∨ i = 3 ∨ i = 4 by omega) with rfl | rfl | rfl | rfl | rfl
              · have HA := Lib.hid hA'; have HF2 := Lib.hid hF'; clear hA' hF'
                go_wp2_with fail
                refine (drop_calls _ _ HA.out).mono ?_
                rintro e1 w1 ⟨rfl, O3, hA1, hf1⟩
                go_wp2_with fail
                go_roundw
                case rel => exact ⟨1, by omega, rfl, O3, hA1, HF2.out.trans hf1⟩
                case measure => simp [intOf]
              · have HA := Lib.hid hA'; have HF2 := Lib.hid hF'; clear hA' hF'
                go_wp2_with fail
                refine (drop_calls _ _ HA.out).mono ?_
                rintro e1 w1 ⟨rfl, O3, hA1, hf1⟩
                go_wp2_with fail
                go_roundw
                case rel => exact ⟨2, by omega, rfl, O3, hA1, HF2.out.trans hf1⟩
                case measure => simp [intOf]
              · have HA := Lib.hid hA'; have HF2 := Lib.hid hF'; clear hA' hF'
                go_wp2_with fail
                refine (drop_calls _ _ HA.out).mono ?_
                rintro e1 w1 ⟨rfl, O3, hA1, hf1⟩
                go_wp2_with fail
                go_roundw
                case rel => exact ⟨3, by omega, rfl, O3, hA1, HF2.out.trans hf1⟩
                case measure => simp [intOf]
              · have HA := Lib.hid hA'; have HF2 := Lib.hid hF'; clear hA' hF'
                go_wp2_with fail
                refine (drop_calls _ _ HA.out).mono ?_
                rintro e1 w1 ⟨rfl, O3, hA1, hf1⟩
                go_wp2_with fail
                go_roundw
                case rel => exact ⟨4, by omega, rfl, O3, hA1, HF2.out.trans hf1⟩
                case measure => simp [intOf]
              · have HA := Lib.hid hA'; have HF3 := Lib.hid hF'; clear hA' hF'
                go_wp2_with fail
                go_step3
                refine ⟨rfl, hJ _ _ ⟨n, by omega, _, _, _, ⟨HA.out, HF3.out, Hb⟩, ?_⟩⟩
                exact ⟨_, _, _, _, _, _, _, _, _, _, _, _, _, _, _, _, _, _, _, _, _, _, _, _, _, _, _, _, _, _, _, _, _, _, _, _, _, _, _, _, _, _, _, _, _, _, _, _, _, _, _, _, _, _, _, _, _, _, _, _, _, _, _, _, _, _, _, _, rfl⟩
end Go.Proofs.YtpdpcgmkpgfblaaGreat
/- Rows of symbols in an arena: a symbol. -/
namespace Go.Proofs.YtpdpcgmkpgfblaaGreat
set_option linter.unusedSimpArgs false
set_option linter.unusedVariables false
set_option linter.unnecessarySimpa false
open Go.RowKit
attribute [local go_sem ↓] Go.wp_at_zero Go.wp_at_succ
attribute [local go_sem] lt_s2 lt_s3 lt_s4
variable {ap : Value} {s : Ar} {O : Nat → Prop}
set_option maxRecDepth 100000 in
set_option maxHeartbeats 4000000 in
theorem wGet_calls (h i : Int) (r : Int × Bool) (hr : wGet s h i = some r) (w : World) (hA : AP w ap s O) :
    Calls Tryz.prog 48 #[ap, .int .i64 h, .int .i64 i] w fun e w' => e = .returned (.tuple #[.int .i64 r.1, .bool r.2]) ∧ Below w.heap.size w w' := by
  unfold wGet at hr
  by_cases h1 : i < 0
  · rw [if_pos (.inl h1)] at hr
    have d1 : decide (i < 0) = true := by simpa using h1
    cases hr
    clear h1
    go_enter Tryz.func48, Tryz.ntmps48
    go_wp2_with fail
    go_step3
    go_wp2_with fail
    simp only [Exit.noGoto_ret]
    go_ret2
    exact ⟨rfl, by (repeat' first | with_reducible assumption | with_reducible exact Below.refl _ _ | with_reducible refine Below.alloc ?_ ?_ _ | with_reducible refine Below.setCell ?_ ?_ _ | with_reducible refine below_drewN ?_ _ | with_reducible refine Below.drew ?_ | exact Nat.le_refl _ | ((try dsimp only); omega) | (simp only [siz_alloc, siz_set]; omega))⟩
  · have d1 : decide (i < 0) = false := by simpa using h1
    by_cases h2 : wLen s h ≤ i
    · rw [if_pos (.inr h2)] at hr
      have d2 : decide (wLen s h ≤ i) = true := by simpa using h2
      cases hr
      clear h1 h2
      go_enter Tryz.func48, Tryz.ntmps48
      go_wp2_with fail
      go_step3
      go_wp2_with fail
      refine calls_gen fun V hV_V => ?_
      have n_B : Below w.heap.size w V := nB hV_V
      have n_A : AP V ap s O := nA hV_V
      have z_V := Nat.le_of_eq (congrArg (fun v : World => v.heap.size) hV_V).symm
      try simp only [SZ] at z_V
      clear hV_V
      clear hA
      have hA := n_A
      clear n_A
      skip
      have hB := n_B
      clear n_B
      refine (wLen_calls _ _ hA).mono ?_
      rintro e_w1 w1 ⟨rfl, hb_w1⟩
      replace hA := hA.below hb_w1
      replace hB := below_step hB hb_w1
      have z_w1 := hb_w1.size
      clear hb_w1
      go_wp2_with fail
      simp only [Exit.noGoto_ret]
      go_ret2
      exact ⟨rfl, by (repeat' first | with_reducible assumption | with_reducible exact Below.refl _ _ | with_reducible refine Below.alloc ?_ ?_ _ | with_reducible refine Below.setCell ?_ ?_ _ | with_reducible refine below_drewN ?_ _ | with_reducible refine Below.drew ?_ | exact Nat.le_refl _ | ((try dsimp only); omega) | (simp only [siz_alloc, siz_set]; omega))⟩
    · rw [if_neg (by omega)] at hr
      have d2 : decide (wLen s h ≤ i) = false := by simpa using h2
      clear h1 h2
      obtain ⟨b, hb, rfl⟩ := Option.map_eq_some_iff.1 hr
      have hb' := Lib.hid hb; clear hb hr
      go_enter Tryz.func48, Tryz.ntmps48
      go_wp2_with fail
      refine wp_scope_ghost 0 (fun n a' wr => ∃ x y z l, (Below w.heap.size w wr ∧ 1 ≤ n ∧ n ≤ 9 ∧ l = 9 - (n : Int) ∧ Hid (wGetL n s x y z = some b)) ∧ ∃ u3 u4 u5 u6 u7 u10 u11 u12 u13 u14 u15 u16 u17 u18 u19 u20 u21 u22 u23 u24 u25 u26 u27 u28 u29 u30 u31 u32 u33 u34 u35 u36 u37 u38 u39 u40 u41 u42 u43 u44 u45 u46 u47 u48 u49 u50 u51 u52 u53 u54 u55 u56 u57 : Value, a' = { tmps := #[(ap : Value), (.int .i64 x : Value), (.int .i64 y : Value), u3, u4, u5, u6, u7, (.int .i64 z : Value), (.int .i64 l : Value), u10, u11, u12, u13, u14, u15, u16, u17, u18, u19, u20, u21, u22, u23, u24, u25, u26, u27, u28, u29, u30, u31, u32, u33, u34, u35, u36, u37, u38, u39, u40, u41, u42, u43, u44, u45, u46, u47, u48, u49, u50, u51, u52, u53, u54, u55, u56, u57], defers := [] }) (by rfl) ?first ?pass
      case first =>
        intro hrest
        go_wp2_with fail
        refine calls_gen fun V hV_V => ?_
        have n_B : Below w.heap.size w V := nB hV_V
        have n_A : AP V ap s O := nA hV_V
        have z_V := Nat.le_of_eq (congrArg (fun v : World => v.heap.size) hV_V).symm
        try simp only [SZ] at z_V
        clear hV_V
        clear hA
        have hA := n_A
        clear n_A
        skip
        have hB := n_B
        clear n_B
        refine (wLen_calls _ _ hA).mono ?_
        rintro e_w1 w1 ⟨rfl, hb_w1⟩
        replace hA := hA.below hb_w1
        replace hB := below_step hB hb_w1
        have z_w1 := hb_w1.size
        clear hb_w1
        go_wp2_with fail
        go_step3
        go_step
        go_step
        refine hrest 9 _ _ ⟨h, i, 0, 0, ⟨hB, by omega, by omega, by omega, hb'⟩, ?_⟩
        exact ⟨_, _, _, _, _, _, _, _, _, _, _, _, _, _, _, _, _, _, _, _, _, _, _, _, _, _, _, _, _, _, _, _, _, _, _, _, _, _, _, _, _, _, _, _, _, _, _, _, _, _, _, _, _, rfl⟩
      case pass =>
        rintro n a' wr ⟨x, y, z, l, ⟨hB, hn1, hn2, hl, hb'⟩, u3, u4, u5, u6, u7, u10, u11, u12, u13, u14, u15, u16, u17, u18, u19, u20, u21, u22, u23, u24, u25, u26, u27, u28, u29, u30, u31, u32, u33, u34, u35, u36, u37, u38, u39, u40, u41, u42, u43, u44, u45, u46, u47, u48, u49, u50, u51, u52, u53, u54, u55, u56, u57, rfl⟩ J hJ
        have hA := hA.below hB
        have z_r := hB.size
        have hb := hb'.out
        clear hb'
        obtain ⟨n, rfl⟩ : ∃ m, n = m + 1 := ⟨n - 1, by omega⟩
        unfold wGetL at hb
        obtain ⟨o, ho, hb⟩ := Option.bind_eq_some_iff.1 hb
        obtain ⟨j, hj, hb⟩ := Option.bind_eq_some_iff.1 hb
        have Ho := Lib.hid ho; have Hj := Lib.hid hj; have Hb := Lib.hid hb; clear ho hj hb
        have hl' : l + 1 = 9 - (n : Int) := by omega
        have hl1 : 0 ≤ l := by omega
        have hl2 : l ≤ 9 := by omega
        have Hl := Lib.hid hl'
        clear hl' hl
        obtain ⟨one, oo⟩ := o
        by_cases hn : 1 ≤ n
        · have d3 : decide (l + 1 < 9) = true := by have := Hl.out; simp; omega
          cases one
          all_goals
            go_wp2_with fail
            refine calls_gen fun V1 hV_V1 => ?_
            have n_B : Below w.heap.size w V1 := nB hV_V1
            have n_A : AP V1 ap s O := nA hV_V1
            have z_V1 := Nat.le_of_eq (congrArg (fun v : World => v.heap.size) hV_V1).symm
            try simp only [SZ] at z_V1
            clear hV_V1
            clear hA
            have hA := n_A
            clear n_A
            clear hB
            have hB := n_B
            clear n_B
            refine (wRow_calls _ _ hA).mono ?_
            rintro e_w2 w2 ⟨rfl, hb_w2⟩
            replace hA := hA.below hb_w2
            replace hB := below_step hB hb_w2
            have z_w2 := hb_w2.size
            clear hb_w2
            unfold Nd.val
            go_wp2_with fail
            refine calls_gen fun V2 hV_V2 => ?_
            have n_k0 := congrArg (fun v : World => v.heap[w2.heap.size]?) hV_V2
            simp (maxDischargeDepth := 9) only [BK, not_false_eq_true, reduceCtorEq] at n_k0
            have o_k0 : ¬ O (w2.heap.size) := by first | exact hA.new (Nat.le_refl _) | exact hA.new (by omega)
            have n_B : Below w.heap.size w V2 := nB hV_V2
            have n_A : AP V2 ap s O := nA hV_V2
            have z_V2 := Nat.le_of_eq (congrArg (fun v : World => v.heap.size) hV_V2).symm
            try simp only [SZ] at z_V2
            clear hV_V2
            clear hA
            have hA := n_A
            clear n_A
            clear hB
            have hB := n_B
            clear n_B
            have k0 := n_k0; clear n_k0
            have c_k0 := cells_of k0
            have f_k0 := free_of k0
            have l_k0_V2 := lt_of k0
            refine (bGet_calls _ _ _ Ho.out _ hA).mono ?_
            rintro e_w3 w3 ⟨rfl, hb_w3⟩
            replace hA := hA.below hb_w3
            replace hB := below_step hB hb_w3
            replace k0 := keep_blk hb_w3 k0
            have c_k0 := cells_of k0
            have f_k0 := free_of k0
            have l_k0_w3 := lt_of k0
            have z_w3 := hb_w3.size
            clear hb_w3
            go_wp2_with fail
            refine calls_gen fun V3 hV_V3 => ?_
            have n_k0 := congrArg (fun v : World => v.heap[w2.heap.size]?) hV_V3
            simp (maxDischargeDepth := 9) only [BK, not_false_eq_true, reduceCtorEq, k0, l_k0_V2, l_k0_w3] at n_k0
            have n_B : Below w.heap.size w V3 := nB hV_V3
            have n_A : AP V3 ap s O := nA hV_V3
            have z_V3 := Nat.le_of_eq (congrArg (fun v : World => v.heap.size) hV_V3).symm
            try simp only [SZ] at z_V3
            clear k0 c_k0 f_k0
            clear hV_V3
            clear hA
            have hA := n_A
            clear n_A
            clear hB
            have hB := n_B
            clear n_B
            have k0 := n_k0; clear n_k0
            have c_k0 := cells_of k0
            have f_k0 := free_of k0
            have l_k0_V3 := lt_of k0
            refine (wAlike_calls _ _ _ _ Hj.out _ hA).mono ?_
            rintro e_w4 w4 ⟨rfl, hb_w4⟩
            replace hA := hA.below hb_w4
            replace hB := below_step hB hb_w4
            replace k0 := keep_blk hb_w4 k0
            have c_k0 := cells_of k0
            have f_k0 := free_of k0
            have l_k0_w4 := lt_of k0
            have z_w4 := hb_w4.size
            clear hb_w4
            go_wp2_with fail
            refine calls_gen fun V4 hV_V4 => ?_
            have n_k0 := congrArg (fun v : World => v.heap[w2.heap.size]?) hV_V4
            simp (maxDischargeDepth := 9) only [BK, not_false_eq_true, reduceCtorEq, k0, l_k0_V2, l_k0_w3, l_k0_V3, l_k0_w4] at n_k0
            have n_B : Below w.heap.size w V4 := nB hV_V4
            have n_A : AP V4 ap s O := nA hV_V4
            have z_V4 := Nat.le_of_eq (congrArg (fun v : World => v.heap.size) hV_V4).symm
            try simp only [SZ] at z_V4
            clear k0 c_k0 f_k0
            clear hV_V4
            clear hA
            have hA := n_A
            clear n_A
            clear hB
            have hB := n_B
            clear n_B
            have k0 := n_k0; clear n_k0
            have c_k0 := cells_of k0
            have f_k0 := free_of k0
            have l_k0_V4 := lt_of k0
            refine (wKid_calls (s.get x) _ _).mono ?_
            rintro e_w5 w5 ⟨rfl, hb_w5⟩
            replace hA := hA.below hb_w5
            replace hB := below_step hB hb_w5
            replace k0 := keep_blk hb_w5 k0
            have c_k0 := cells_of k0
            have f_k0 := free_of k0
            have l_k0_w5 := lt_of k0
            have z_w5 := hb_w5.size
            clear hb_w5
            go_wp2_with fail
            go_step3
            refine ⟨rfl, hJ _ _ ⟨n, by omega, _, _, _, _, ⟨by (repeat' first | with_reducible assumption | with_reducible exact Below.refl _ _ | with_reducible refine Below.alloc ?_ ?_ _ | with_reducible refine Below.setCell ?_ ?_ _ | with_reducible refine below_drewN ?_ _ | with_reducible refine Below.drew ?_ | exact Nat.le_refl _ | ((try dsimp only); omega) | (simp only [siz_alloc, siz_set]; omega)), hn, by omega, Hl.out, Hb⟩, ?_⟩⟩
            exact ⟨_, _, _, _, _, _, _, _, _, _, _, _, _, _, _, _, _, _, _, _, _, _, _, _, _, _, _, _, _, _, _, _, _, _, _, _, _, _, _, _, _, _, _, _, _, _, _, _, _, _, _, _, _, rfl⟩
        · obtain rfl : n = 0 := by omega
          have d3 : decide (l + 1 < 9) = false := by have := Hl.out; simp; omega
          cases one
          all_goals
            go_wp2_with fail
            refine calls_gen fun V1 hV_V1 => ?_
            have n_B : Below w.heap.size w V1 := nB hV_V1
            have n_A : AP V1 ap s O := nA hV_V1
            have z_V1 := Nat.le_of_eq (congrArg (fun v : World => v.heap.size) hV_V1).symm
            try simp only [SZ] at z_V1
            clear hV_V1
            clear hA
            have hA := n_A
            clear n_A
            clear hB
            have hB := n_B
            clear n_B
            refine (wRow_calls _ _ hA).mono ?_
            rintro e_w2 w2 ⟨rfl, hb_w2⟩
            replace hA := hA.below hb_w2
            replace hB := below_step hB hb_w2
            have z_w2 := hb_w2.size
            clear hb_w2
            unfold Nd.val
            go_wp2_with fail
            refine calls_gen fun V2 hV_V2 => ?_
            have n_k0 := congrArg (fun v : World => v.heap[w2.heap.size]?) hV_V2
            simp (maxDischargeDepth := 9) only [BK, not_false_eq_true, reduceCtorEq] at n_k0
            have o_k0 : ¬ O (w2.heap.size) := by first | exact hA.new (Nat.le_refl _) | exact hA.new (by omega)
            have n_B : Below w.heap.size w V2 := nB hV_V2
            have n_A : AP V2 ap s O := nA hV_V2
            have z_V2 := Nat.le_of_eq (congrArg (fun v : World => v.heap.size) hV_V2).symm
            try simp only [SZ] at z_V2
            clear hV_V2
            clear hA
            have hA := n_A
            clear n_A
            clear hB
            have hB := n_B
            clear n_B
            have k0 := n_k0; clear n_k0
            have c_k0 := cells_of k0
            have f_k0 := free_of k0
            have l_k0_V2 := lt_of k0
            refine (bGet_calls _ _ _ Ho.out _ hA).mono ?_
            rintro e_w3 w3 ⟨rfl, hb_w3⟩
            replace hA := hA.below hb_w3
            replace hB := below_step hB hb_w3
            replace k0 := keep_blk hb_w3 k0
            have c_k0 := cells_of k0
            have f_k0 := free_of k0
            have l_k0_w3 := lt_of k0
            have z_w3 := hb_w3.size
            clear hb_w3
            go_wp2_with fail
            refine calls_gen fun V3 hV_V3 => ?_
            have n_k0 := congrArg (fun v : World => v.heap[w2.heap.size]?) hV_V3
            simp (maxDischargeDepth := 9) only [BK, not_false_eq_true, reduceCtorEq, k0, l_k0_V2, l_k0_w3] at n_k0
            have n_B : Below w.heap.size w V3 := nB hV_V3
            have n_A : AP V3 ap s O := nA hV_V3
            have z_V3 := Nat.le_of_eq (congrArg (fun v : World => v.heap.size) hV_V3).symm
            try simp only [SZ] at z_V3
            clear k0 c_k0 f_k0
            clear hV_V3
            clear hA
            have hA := n_A
            clear n_A
            clear hB
            have hB := n_B
            clear n_B
            have k0 := n_k0; clear n_k0
            have c_k0 := cells_of k0
            have f_k0 := free_of k0
            have l_k0_V3 := lt_of k0
            refine (wAlike_calls _ _ _ _ Hj.out _ hA).mono ?_
            rintro e_w4 w4 ⟨rfl, hb_w4⟩
            replace hA := hA.below hb_w4
            replace hB := below_step hB hb_w4
            replace k0 := keep_blk hb_w4 k0
            have c_k0 := cells_of k0
            have f_k0 := free_of k0
            have l_k0_w4 := lt_of k0
            have z_w4 := hb_w4.size
            clear hb_w4
            go_wp2_with fail
            refine calls_gen fun V4 hV_V4 => ?_
            have n_k0 := congrArg (fun v : World => v.heap[w2.heap.size]?) hV_V4
            simp (maxDischargeDepth := 9) only [BK, not_false_eq_true, reduceCtorEq, k0, l_k0_V2, l_k0_w3, l_k0_V3, l_k0_w4] at n_k0
            have n_B : Below w.heap.size w V4 := nB hV_V4
            have n_A : AP V4 ap s O := nA hV_V4
            have z_V4 := Nat.le_of_eq (congrArg (fun v : World => v.heap.size) hV_V4).symm
            try simp only [SZ] at z_V4
            clear k0 c_k0 f_k0
            clear hV_V4
            clear hA
            have hA := n_A
            clear n_A
            clear hB
            have hB := n_B
            clear n_B
            have k0 := n_k0; clear n_k0
            have c_k0 := cells_of k0
            have f_k0 := free_of k0
            have l_k0_V4 := lt_of k0
            refine (wKid_calls (s.get x) _ _).mono ?_
            rintro e_w5 w5 ⟨rfl, hb_w5⟩
            replace hA := hA.below hb_w5
            replace hB := below_step hB hb_w5
            replace k0 := keep_blk hb_w5 k0
            have c_k0 := cells_of k0
            have f_k0 := free_of k0
            have l_k0_w5 := lt_of k0
            have z_w5 := hb_w5.size
            clear hb_w5
            go_wp2_with fail
            simp only [Exit.jump]
            go_ret2
            exact ⟨by rw [← Option.some.inj Hb.out]; rfl, by (repeat' first | with_reducible assumption | with_reducible exact Below.refl _ _ | with_reducible refine Below.alloc ?_ ?_ _ | with_reducible refine Below.setCell ?_ ?_ _ | with_reducible refine below_drewN ?_ _ | with_reducible refine Below.drew ?_ | exact Nat.le_refl _ | ((try dsimp only); omega) | (simp only [siz_alloc, siz_set]; omega))⟩
end Go.Proofs.YtpdpcgmkpgfblaaGreat
