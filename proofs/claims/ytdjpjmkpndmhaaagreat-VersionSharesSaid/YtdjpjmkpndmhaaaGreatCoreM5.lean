/- Part 5 of what these laws needs: the walks of the program's functions, and plain facts. -/
import Derived.Test.YtdjpjmkpndmhaaaGreatCoreM4
/- The tree that makes nodes of rows of bits: insert. -/
namespace Go.Proofs.YtdjpjmkpndmhaaaGreat
set_option linter.unusedSimpArgs false
set_option linter.unusedVariables false
set_option linter.unnecessarySimpa false
open Go.RowKit
attribute [local go_sem ↓] Go.wp_at_zero Go.wp_at_succ
attribute [local go_sem] lt_s2 lt_s3 lt_s4
variable {ap : Value} {O : Nat → Prop} {tb : Nat} {t : Tb}
theorem lfL_le (a n : Int) : (lfL a n).length ≤ 64 := by
 unfold lfL; split
 ·
  rename_i h
  rw [unpack_length]
  have h0 := h.1; have h1 := h.2.1
  omega
 ·
  simp
theorem insR_le (ok : Bool) (l : List Bool) (i : Int) (one : Bool) : (insR ok l i one).length ≤ 64 := by
 unfold insR; split
 ·
  rename_i h
  unfold insOk at h
  simp only [Bool.and_eq_true, decide_eq_true_eq] at h
  rw [insL_length]; omega
 ·
  simp
theorem insert_l (l : List Bool) (hl : l.length ≤ 64) (i : Int) (one : Bool) (w : World) : Calls Tryz.prog 141 #[.agg #[.int .u64 (pack l : Int), .int .i64 (l.length : Int)], .int .i64 i, .bool one] w fun e w' =>
  e = .returned (.tuple #[.agg #[.int .u64 (pack (insR true l i one) : Int), .int .i64 ((insR true l i one).length : Int)], .bool (insOk true l i)]) ∧ Below w.heap.size w w' := insert_lf (lf_self hl) i one _ _ rfl rfl w
theorem insert_nil (one : Bool) (w : World) : Calls Tryz.prog 141 #[.agg #[.int .u64 0, .int .i64 0], .int .i64 0, .bool one] w fun e w' =>
  e = .returned (.tuple #[.agg #[.int .u64 (pack (insR true [] 0 one) : Int), .int .i64 ((insR true [] 0 one).length : Int)], .bool (insOk true [] 0)]) ∧ Below w.heap.size w w' := insert_l [] (by simp) 0 one w
theorem split_32 {a n : Int} (hU : U64 a) (l1 l2 : List Bool) (h1 : l1 = (lfL a n).take 32) (h2 : l2 = (lfL a n).drop 32) (w : World) : Calls Tryz.prog 143 #[.agg #[.int .u64 a, .int .i64 n], .int .i64 32] w fun e w' =>
  e = .returned (.tuple #[.agg #[.int .u64 (pack l1 : Int), .int .i64 (l1.length : Int)], .agg #[.int .u64 (pack l2 : Int), .int .i64 (l2.length : Int)]]) ∧ Below w.heap.size w w' := by
 subst h1 h2; exact split_i hU 32 w
theorem insert_c (l c : List Bool) (hl : l.length ≤ 64) (i : Int) (one : Bool) (hc : c = insR true l i one) (w : World) : Calls Tryz.prog 141 #[.agg #[.int .u64 (pack l : Int), .int .i64 (l.length : Int)], .int .i64 i, .bool one] w fun e w' =>
  e = .returned (.tuple #[.agg #[.int .u64 (pack c : Int), .int .i64 (c.length : Int)], .bool (insOk true l i)]) ∧ Below w.heap.size w w' := by
 subst hc; exact insert_l l hl i one w
theorem two_def (t : Tb) (a b : List Bool) : t.two a b = ((t.leaf a).2.leaf b).2.pairOr (t.leaf a).1 ((t.leaf a).2.leaf b).1 := rfl
set_option maxRecDepth 100000 in
set_option maxHeartbeats 2000000 in
theorem tIns_nil (one : Bool) (k : Nat) (h i : Int) (r : Int × Tb) (w : World) (hT : TB w tb ap t O) (h1 : bIs t.s h = false) (hr : some (t.leaf (insR true [] 0 one)) = some r) :
  Calls Tryz.prog 110 #[.pointer (some ⟨tb, 0, none⟩), .int .i64 h, .int .i64 i, .bool one] w fun e w' => e = .returned (.int .i64 r.1) ∧ DidT tb ap r.2 O w w' := by
 obtain rfl := Option.some.inj hr
 clear hr
 go_enter Tryz.func110, Tryz.ntmps110
 have hA := hT.hA
 have kt := hT.blk
 have o_kt := hT.no
 obtain ⟨c_kt, f_kt, l_kt_w⟩ := f3 kt
 go_wp2_with fail
 refine calls_gen fun V hV_V => ?_
 replace kt := kK hV_V kt
 have hF : Fr ((oneX tb)) O O w V := nF hV_V
 replace hA : AP V ap t.s O := nA hV_V
 have z_V := zS hV_V
 clear hV_V c_kt f_kt
 obtain ⟨c_kt, f_kt, l_kt_V⟩ := f3 kt
 refine (bRow_calls _ _ hA).mono ?_
 rintro e_W1 W1 ⟨rfl, hb_W1⟩
 replace hA := hA.below hb_W1
 replace hF := hF.below hb_W1
 replace kt := keep_blk hb_W1 kt
 have z_W1 := hb_W1.size
 clear hb_W1 c_kt f_kt
 obtain ⟨c_kt, f_kt, l_kt_W1⟩ := f3 kt
 unfold Nd.val
 go_wp2_with fail
 refine calls_gen fun V1 hV_V1 => ?_
 replace kt := kK hV_V1 kt
 replace hF : Fr ((oneX tb)) O O w V1 := nF hV_V1
 replace hA : AP V1 ap t.s O := nA hV_V1
 have z_V1 := zS hV_V1
 clear hV_V1 c_kt f_kt
 obtain ⟨c_kt, f_kt, l_kt_V1⟩ := f3 kt
 refine (insert_nil one _).mono ?_
 rintro e_W2 W2 ⟨rfl, hb_W2⟩
 replace hA := hA.below hb_W2
 replace hF := hF.below hb_W2
 replace kt := keep_blk hb_W2 kt
 have z_W2 := hb_W2.size
 clear hb_W2 c_kt f_kt
 obtain ⟨c_kt, f_kt, l_kt_W2⟩ := f3 kt
 go_wp2_with fail
 refine calls_gen fun V2 hV_V2 => ?_
 replace kt := kK hV_V2 kt
 replace hF : Fr ((oneX tb)) O O w V2 := nF hV_V2
 replace hA : AP V2 ap t.s O := nA hV_V2
 have z_V2 := zS hV_V2
 clear hV_V2 c_kt f_kt
 obtain ⟨c_kt, f_kt, l_kt_V2⟩ := f3 kt
 refine (tLeaf_calls _ (insR_le true [] 0 one) _ ⟨hA, kt, o_kt⟩).mono ?_
 rintro e_W3 W3 ⟨rfl, O1, hT_W3, hf_W3⟩
 clear kt c_kt f_kt o_kt; have kt := hT_W3.blk; have o_kt := hT_W3.no
 obtain ⟨c_kt, f_kt, l_kt_W3⟩ := f3 kt
 replace hF := hF.trans hf_W3
 have z_W3 := hf_W3.size
 clear hA hf_W3; have hA := hT_W3.hA; clear hT_W3
 go_wp2_with fail
 go_ret
 exact ⟨rfl, O1, ⟨hA, kt, o_kt⟩, hF⟩
set_option maxRecDepth 100000 in
set_option maxHeartbeats 2000000 in
theorem tIns_fits (one : Bool) (k : Nat) (h i : Int) (r : Int × Tb) (w : World) (hT : TB w tb ap t O) (h1 : bIs t.s h = true) (d1 : ((t.s.get h).tag == 1) = true) (hU : U64 (t.s.get h).a) (h3 : insOk (lfK (t.s.get h)) (lfB (t.s.get h)) i = true) (hr : some (t.leaf (insR (lfK (t.s.get h)) (lfB (t.s.get h)) i one)) = some r) :
  Calls Tryz.prog 110 #[.pointer (some ⟨tb, 0, none⟩), .int .i64 h, .int .i64 i, .bool one] w fun e w' => e = .returned (.int .i64 r.1) ∧ DidT tb ap r.2 O w w' := by
 obtain rfl := Option.some.inj hr
 clear hr
 have d2 : insOk (lfOk (t.s.get h).a (wrap64 (t.s.get h).b)) (lfL (t.s.get h).a (wrap64 (t.s.get h).b)) i = true := h3
 clear h3
 go_enter Tryz.func110, Tryz.ntmps110
 have hA := hT.hA
 have kt := hT.blk
 have o_kt := hT.no
 obtain ⟨c_kt, f_kt, l_kt_w⟩ := f3 kt
 go_wp2_with fail
 refine calls_gen fun V hV_V => ?_
 replace kt := kK hV_V kt
 have hF : Fr ((oneX tb)) O O w V := nF hV_V
 replace hA : AP V ap t.s O := nA hV_V
 have z_V := zS hV_V
 clear hV_V c_kt f_kt
 obtain ⟨c_kt, f_kt, l_kt_V⟩ := f3 kt
 refine (bRow_calls _ _ hA).mono ?_
 rintro e_W1 W1 ⟨rfl, hb_W1⟩
 replace hA := hA.below hb_W1
 replace hF := hF.below hb_W1
 replace kt := keep_blk hb_W1 kt
 have z_W1 := hb_W1.size
 clear hb_W1 c_kt f_kt
 obtain ⟨c_kt, f_kt, l_kt_W1⟩ := f3 kt
 unfold Nd.val
 go_wp2_with fail
 refine calls_gen fun V1 hV_V1 => ?_
 have n_kn := hbk hV_V1 (W1.heap.size)
 simp (maxDischargeDepth := 9) only [BK, not_false_eq_true, reduceCtorEq, kt, l_kt_w, l_kt_V, l_kt_W1] at n_kn
 have o_kn : ¬ O (W1.heap.size) := by first | exact hA.new (Nat.le_refl _) | exact hA.new (by omega)
 replace kt := kK hV_V1 kt
 replace hF : Fr ((oneX tb)) O O w V1 := nF hV_V1
 replace hA : AP V1 ap t.s O := nA hV_V1
 have z_V1 := zS hV_V1
 clear hV_V1 c_kt f_kt
 obtain ⟨c_kt, f_kt, l_kt_V1⟩ := f3 kt
 have kn := n_kn; clear n_kn
 obtain ⟨c_kn, f_kn, l_kn_V1⟩ := f3 kn
 refine (bBits_calls (t.s.get h) _).mono ?_
 rintro e_W2 W2 ⟨rfl, hb_W2⟩
 replace hA := hA.below hb_W2
 replace hF := hF.below hb_W2
 replace kt := keep_blk hb_W2 kt
 replace kn := keep_blk hb_W2 kn
 have z_W2 := hb_W2.size
 clear hb_W2 c_kt f_kt c_kn f_kn
 obtain ⟨c_kt, f_kt, l_kt_W2⟩ := f3 kt
 obtain ⟨c_kn, f_kn, l_kn_W2⟩ := f3 kn
 go_wp2_with fail
 refine calls_gen fun V2 hV_V2 => ?_
 have n_kl := hbk hV_V2 (W2.heap.size)
 simp (maxDischargeDepth := 9) only [BK, not_false_eq_true, reduceCtorEq, kt, kn, l_kt_w, l_kt_V, l_kt_W1, l_kt_V1, l_kn_V1, l_kt_W2, l_kn_W2] at n_kl
 have o_kl : ¬ O (W2.heap.size) := by first | exact hA.new (Nat.le_refl _) | exact hA.new (by omega)
 replace kt := kK hV_V2 kt
 replace kn := kK hV_V2 kn
 replace hF : Fr ((oneX tb)) O O w V2 := nF hV_V2
 replace hA : AP V2 ap t.s O := nA hV_V2
 have z_V2 := zS hV_V2
 clear hV_V2 c_kt f_kt c_kn f_kn
 obtain ⟨c_kt, f_kt, l_kt_V2⟩ := f3 kt
 obtain ⟨c_kn, f_kn, l_kn_V2⟩ := f3 kn
 have kl := n_kl; clear n_kl
 obtain ⟨c_kl, f_kl, l_kl_V2⟩ := f3 kl
 refine (insert_i hU i one _).mono ?_
 rintro e_W3 W3 ⟨rfl, hb_W3⟩
 replace hA := hA.below hb_W3
 replace hF := hF.below hb_W3
 replace kt := keep_blk hb_W3 kt
 replace kn := keep_blk hb_W3 kn
 replace kl := keep_blk hb_W3 kl
 have z_W3 := hb_W3.size
 clear hb_W3 c_kt f_kt c_kn f_kn c_kl f_kl
 obtain ⟨c_kt, f_kt, l_kt_W3⟩ := f3 kt
 obtain ⟨c_kn, f_kn, l_kn_W3⟩ := f3 kn
 obtain ⟨c_kl, f_kl, l_kl_W3⟩ := f3 kl
 go_wp2_with fail
 refine calls_gen fun V3 hV_V3 => ?_
 have n_kx := hbk hV_V3 (W3.heap.size)
 simp (maxDischargeDepth := 9) only [BK, not_false_eq_true, reduceCtorEq, kt, kn, kl, l_kt_w, l_kt_V, l_kt_W1, l_kt_V1, l_kn_V1, l_kt_W2, l_kn_W2, l_kt_V2, l_kn_V2, l_kl_V2, l_kt_W3, l_kn_W3, l_kl_W3] at n_kx
 have o_kx : ¬ O (W3.heap.size) := by first | exact hA.new (Nat.le_refl _) | exact hA.new (by omega)
 replace kt := kK hV_V3 kt
 replace kn := kK hV_V3 kn
 replace kl := kK hV_V3 kl
 replace hF : Fr ((oneX tb)) O O w V3 := nF hV_V3
 replace hA : AP V3 ap t.s O := nA hV_V3
 have z_V3 := zS hV_V3
 clear hV_V3 c_kt f_kt c_kn f_kn c_kl f_kl
 obtain ⟨c_kt, f_kt, l_kt_V3⟩ := f3 kt
 obtain ⟨c_kn, f_kn, l_kn_V3⟩ := f3 kn
 obtain ⟨c_kl, f_kl, l_kl_V3⟩ := f3 kl
 have kx := n_kx; clear n_kx
 obtain ⟨c_kx, f_kx, l_kx_V3⟩ := f3 kx
 refine (tLeaf_calls _ (insR_le (lfK (t.s.get h)) (lfB (t.s.get h)) i one) _ ⟨hA, kt, o_kt⟩).mono ?_
 rintro e_W4 W4 ⟨rfl, O1, hT_W4, hf_W4⟩
 have q_kn := hf_W4.keep kn o_kn (by unfold oneX; omega)
 have q_kl := hf_W4.keep kl o_kl (by unfold oneX; omega)
 have q_kx := hf_W4.keep kx o_kx (by unfold oneX; omega)
 replace o_kn := hf_W4.not_own (lt_of kn) o_kn
 clear kn; have kn := q_kn; clear q_kn
 obtain ⟨c_kn, f_kn, l_kn_W4⟩ := f3 kn
 replace o_kl := hf_W4.not_own (lt_of kl) o_kl
 clear kl; have kl := q_kl; clear q_kl
 obtain ⟨c_kl, f_kl, l_kl_W4⟩ := f3 kl
 replace o_kx := hf_W4.not_own (lt_of kx) o_kx
 clear kx; have kx := q_kx; clear q_kx
 obtain ⟨c_kx, f_kx, l_kx_W4⟩ := f3 kx
 clear kt c_kt f_kt o_kt; have kt := hT_W4.blk; have o_kt := hT_W4.no
 obtain ⟨c_kt, f_kt, l_kt_W4⟩ := f3 kt
 replace hF := hF.trans hf_W4
 have z_W4 := hf_W4.size
 clear hA hf_W4; have hA := hT_W4.hA; clear hT_W4
 go_wp2_with fail
 go_ret
 exact ⟨rfl, O1, ⟨hA, kt, o_kt⟩, hF⟩
set_option maxRecDepth 100000 in
set_option maxHeartbeats 2000000 in
theorem tIns_l (one : Bool) (k : Nat) (h i : Int) (r : Int × Tb) (w : World) (hT : TB w tb ap t O) (h1 : bIs t.s h = true) (d1 : ((t.s.get h).tag == 1) = true) (hU : U64 (t.s.get h).a) (d2 : insOk (lfOk (t.s.get h).a (wrap64 (t.s.get h).b)) (lfL (t.s.get h).a (wrap64 (t.s.get h).b)) i = false) (l1 l2 : List Bool) (H1 : Hid (l1 = (lfL (t.s.get h).a (wrap64 (t.s.get h).b)).take 32)) (H2 : Hid (l2 = (lfL (t.s.get h).a (wrap64 (t.s.get h).b)).drop 32)) (e1 : l1.length ≤ 64) (e2 : l2.length ≤ 64) (d3 : decide (i ≤ (l1.length : Int)) = true) (hr : some (t.two (insR true l1 i one) l2) = some r) :
  Calls Tryz.prog 110 #[.pointer (some ⟨tb, 0, none⟩), .int .i64 h, .int .i64 i, .bool one] w fun e w' => e = .returned (.int .i64 r.1) ∧ DidT tb ap r.2 O w w' := by
 obtain ⟨c, H3⟩ : ∃ c, Hid (c = insR true l1 i one) := ⟨_, Lib.hid rfl⟩
 have e3 : c.length ≤ 64 := by rw [H3.out]; exact insR_le _ _ _ _
 rw [← H3.out] at hr
 obtain rfl := Option.some.inj hr
 clear hr
 go_enter Tryz.func110, Tryz.ntmps110
 have hA := hT.hA
 have kt := hT.blk
 have o_kt := hT.no
 obtain ⟨c_kt, f_kt, l_kt_w⟩ := f3 kt
 go_wp2_with fail
 refine calls_gen fun V hV_V => ?_
 replace kt := kK hV_V kt
 have hF : Fr ((oneX tb)) O O w V := nF hV_V
 replace hA : AP V ap t.s O := nA hV_V
 have z_V := zS hV_V
 clear hV_V c_kt f_kt
 obtain ⟨c_kt, f_kt, l_kt_V⟩ := f3 kt
 refine (bRow_calls _ _ hA).mono ?_
 rintro e_W1 W1 ⟨rfl, hb_W1⟩
 replace hA := hA.below hb_W1
 replace hF := hF.below hb_W1
 replace kt := keep_blk hb_W1 kt
 have z_W1 := hb_W1.size
 clear hb_W1 c_kt f_kt
 obtain ⟨c_kt, f_kt, l_kt_W1⟩ := f3 kt
 unfold Nd.val
 go_wp2_with fail
 refine calls_gen fun V1 hV_V1 => ?_
 have n_kn := hbk hV_V1 (W1.heap.size)
 simp (maxDischargeDepth := 9) only [BK, not_false_eq_true, reduceCtorEq, kt, l_kt_w, l_kt_V, l_kt_W1] at n_kn
 have o_kn : ¬ O (W1.heap.size) := by first | exact hA.new (Nat.le_refl _) | exact hA.new (by omega)
 replace kt := kK hV_V1 kt
 replace hF : Fr ((oneX tb)) O O w V1 := nF hV_V1
 replace hA : AP V1 ap t.s O := nA hV_V1
 have z_V1 := zS hV_V1
 clear hV_V1 c_kt f_kt
 obtain ⟨c_kt, f_kt, l_kt_V1⟩ := f3 kt
 have kn := n_kn; clear n_kn
 obtain ⟨c_kn, f_kn, l_kn_V1⟩ := f3 kn
 refine (bBits_calls (t.s.get h) _).mono ?_
 rintro e_W2 W2 ⟨rfl, hb_W2⟩
 replace hA := hA.below hb_W2
 replace hF := hF.below hb_W2
 replace kt := keep_blk hb_W2 kt
 replace kn := keep_blk hb_W2 kn
 have z_W2 := hb_W2.size
 clear hb_W2 c_kt f_kt c_kn f_kn
 obtain ⟨c_kt, f_kt, l_kt_W2⟩ := f3 kt
 obtain ⟨c_kn, f_kn, l_kn_W2⟩ := f3 kn
 go_wp2_with fail
 refine calls_gen fun V2 hV_V2 => ?_
 have n_kl := hbk hV_V2 (W2.heap.size)
 simp (maxDischargeDepth := 9) only [BK, not_false_eq_true, reduceCtorEq, kt, kn, l_kt_w, l_kt_V, l_kt_W1, l_kt_V1, l_kn_V1, l_kt_W2, l_kn_W2] at n_kl
 have o_kl : ¬ O (W2.heap.size) := by first | exact hA.new (Nat.le_refl _) | exact hA.new (by omega)
 replace kt := kK hV_V2 kt
 replace kn := kK hV_V2 kn
 replace hF : Fr ((oneX tb)) O O w V2 := nF hV_V2
 replace hA : AP V2 ap t.s O := nA hV_V2
 have z_V2 := zS hV_V2
 clear hV_V2 c_kt f_kt c_kn f_kn
 obtain ⟨c_kt, f_kt, l_kt_V2⟩ := f3 kt
 obtain ⟨c_kn, f_kn, l_kn_V2⟩ := f3 kn
 have kl := n_kl; clear n_kl
 obtain ⟨c_kl, f_kl, l_kl_V2⟩ := f3 kl
 refine (insert_i hU i one _).mono ?_
 rintro e_W3 W3 ⟨rfl, hb_W3⟩
 replace hA := hA.below hb_W3
 replace hF := hF.below hb_W3
 replace kt := keep_blk hb_W3 kt
 replace kn := keep_blk hb_W3 kn
 replace kl := keep_blk hb_W3 kl
 have z_W3 := hb_W3.size
 clear hb_W3 c_kt f_kt c_kn f_kn c_kl f_kl
 obtain ⟨c_kt, f_kt, l_kt_W3⟩ := f3 kt
 obtain ⟨c_kn, f_kn, l_kn_W3⟩ := f3 kn
 obtain ⟨c_kl, f_kl, l_kl_W3⟩ := f3 kl
 go_wp2_with fail
 refine calls_gen fun V3 hV_V3 => ?_
 have n_kx := hbk hV_V3 (W3.heap.size)
 simp (maxDischargeDepth := 9) only [BK, not_false_eq_true, reduceCtorEq, kt, kn, kl, l_kt_w, l_kt_V, l_kt_W1, l_kt_V1, l_kn_V1, l_kt_W2, l_kn_W2, l_kt_V2, l_kn_V2, l_kl_V2, l_kt_W3, l_kn_W3, l_kl_W3] at n_kx
 have o_kx : ¬ O (W3.heap.size) := by first | exact hA.new (Nat.le_refl _) | exact hA.new (by omega)
 replace kt := kK hV_V3 kt
 replace kn := kK hV_V3 kn
 replace kl := kK hV_V3 kl
 replace hF : Fr ((oneX tb)) O O w V3 := nF hV_V3
 replace hA : AP V3 ap t.s O := nA hV_V3
 have z_V3 := zS hV_V3
 clear hV_V3 c_kt f_kt c_kn f_kn c_kl f_kl
 obtain ⟨c_kt, f_kt, l_kt_V3⟩ := f3 kt
 obtain ⟨c_kn, f_kn, l_kn_V3⟩ := f3 kn
 obtain ⟨c_kl, f_kl, l_kl_V3⟩ := f3 kl
 have kx := n_kx; clear n_kx
 obtain ⟨c_kx, f_kx, l_kx_V3⟩ := f3 kx
 refine (split_32 hU l1 l2 H1.out H2.out _).mono ?_
 rintro e_W4 W4 ⟨rfl, hb_W4⟩
 replace hA := hA.below hb_W4
 replace hF := hF.below hb_W4
 replace kt := keep_blk hb_W4 kt
 replace kn := keep_blk hb_W4 kn
 replace kl := keep_blk hb_W4 kl
 replace kx := keep_blk hb_W4 kx
 have z_W4 := hb_W4.size
 clear hb_W4 c_kt f_kt c_kn f_kn c_kl f_kl c_kx f_kx
 obtain ⟨c_kt, f_kt, l_kt_W4⟩ := f3 kt
 obtain ⟨c_kn, f_kn, l_kn_W4⟩ := f3 kn
 obtain ⟨c_kl, f_kl, l_kl_W4⟩ := f3 kl
 obtain ⟨c_kx, f_kx, l_kx_W4⟩ := f3 kx
 go_wp2_with fail
 refine calls_gen fun V4 hV_V4 => ?_
 have n_ka := hbk hV_V4 (W4.heap.size)
 simp (maxDischargeDepth := 9) only [BK, not_false_eq_true, reduceCtorEq, kt, kn, kl, kx, l_kt_w, l_kt_V, l_kt_W1, l_kt_V1, l_kn_V1, l_kt_W2, l_kn_W2, l_kt_V2, l_kn_V2, l_kl_V2, l_kt_W3, l_kn_W3, l_kl_W3, l_kt_V3, l_kn_V3, l_kl_V3, l_kx_V3, l_kt_W4, l_kn_W4, l_kl_W4, l_kx_W4] at n_ka
 have n_kb := hbk hV_V4 (W4.heap.size + 1)
 simp (maxDischargeDepth := 9) only [BK, not_false_eq_true, reduceCtorEq, kt, kn, kl, kx, l_kt_w, l_kt_V, l_kt_W1, l_kt_V1, l_kn_V1, l_kt_W2, l_kn_W2, l_kt_V2, l_kn_V2, l_kl_V2, l_kt_W3, l_kn_W3, l_kl_W3, l_kt_V3, l_kn_V3, l_kl_V3, l_kx_V3, l_kt_W4, l_kn_W4, l_kl_W4, l_kx_W4] at n_kb
 have o_ka : ¬ O (W4.heap.size) := by first | exact hA.new (Nat.le_refl _) | exact hA.new (by omega)
 have o_kb : ¬ O (W4.heap.size + 1) := by first | exact hA.new (Nat.le_refl _) | exact hA.new (by omega)
 replace kt := kK hV_V4 kt
 replace kn := kK hV_V4 kn
 replace kl := kK hV_V4 kl
 replace kx := kK hV_V4 kx
 replace hF : Fr ((oneX tb)) O O w V4 := nF hV_V4
 replace hA : AP V4 ap t.s O := nA hV_V4
 have z_V4 := zS hV_V4
 clear hV_V4 c_kt f_kt c_kn f_kn c_kl f_kl c_kx f_kx
 obtain ⟨c_kt, f_kt, l_kt_V4⟩ := f3 kt
 obtain ⟨c_kn, f_kn, l_kn_V4⟩ := f3 kn
 obtain ⟨c_kl, f_kl, l_kl_V4⟩ := f3 kl
 obtain ⟨c_kx, f_kx, l_kx_V4⟩ := f3 kx
 have ka := n_ka; clear n_ka
 obtain ⟨c_ka, f_ka, l_ka_V4⟩ := f3 ka
 have kb := n_kb; clear n_kb
 obtain ⟨c_kb, f_kb, l_kb_V4⟩ := f3 kb
 refine (insert_c l1 c e1 i one H3.out _).mono ?_
 rintro e_W5 W5 ⟨rfl, hb_W5⟩
 replace hA := hA.below hb_W5
 replace hF := hF.below hb_W5
 replace kt := keep_blk hb_W5 kt
 replace kn := keep_blk hb_W5 kn
 replace kl := keep_blk hb_W5 kl
 replace kx := keep_blk hb_W5 kx
 replace ka := keep_blk hb_W5 ka
 replace kb := keep_blk hb_W5 kb
 have z_W5 := hb_W5.size
 clear hb_W5 c_kt f_kt c_kn f_kn c_kl f_kl c_kx f_kx c_ka f_ka c_kb f_kb
 obtain ⟨c_kt, f_kt, l_kt_W5⟩ := f3 kt
 obtain ⟨c_kn, f_kn, l_kn_W5⟩ := f3 kn
 obtain ⟨c_kl, f_kl, l_kl_W5⟩ := f3 kl
 obtain ⟨c_kx, f_kx, l_kx_W5⟩ := f3 kx
 obtain ⟨c_ka, f_ka, l_ka_W5⟩ := f3 ka
 obtain ⟨c_kb, f_kb, l_kb_W5⟩ := f3 kb
 go_wp2_with fail
 refine calls_gen fun V5 hV_V5 => ?_
 replace kt := kK hV_V5 kt
 replace kn := kK hV_V5 kn
 replace kl := kK hV_V5 kl
 replace kx := kK hV_V5 kx
 replace ka := kK hV_V5 ka
 replace kb := kK hV_V5 kb
 replace hF : Fr ((oneX tb)) O O w V5 := nF hV_V5
 replace hA : AP V5 ap t.s O := nA hV_V5
 have z_V5 := zS hV_V5
 clear hV_V5 c_kt f_kt c_kn f_kn c_kl f_kl c_kx f_kx c_ka f_ka c_kb f_kb
 obtain ⟨c_kt, f_kt, l_kt_V5⟩ := f3 kt
 obtain ⟨c_kn, f_kn, l_kn_V5⟩ := f3 kn
 obtain ⟨c_kl, f_kl, l_kl_V5⟩ := f3 kl
 obtain ⟨c_kx, f_kx, l_kx_V5⟩ := f3 kx
 obtain ⟨c_ka, f_ka, l_ka_V5⟩ := f3 ka
 obtain ⟨c_kb, f_kb, l_kb_V5⟩ := f3 kb
 refine (tLeaf_calls c e3 _ ⟨hA, kt, o_kt⟩).mono ?_
 rintro e_W6 W6 ⟨rfl, O1, hT_W6, hf_W6⟩
 have q_kn := hf_W6.keep kn o_kn (by unfold oneX; omega)
 have q_kl := hf_W6.keep kl o_kl (by unfold oneX; omega)
 have q_kx := hf_W6.keep kx o_kx (by unfold oneX; omega)
 have q_ka := hf_W6.keep ka o_ka (by unfold oneX; omega)
 have q_kb := hf_W6.keep kb o_kb (by unfold oneX; omega)
 replace o_kn := hf_W6.not_own (lt_of kn) o_kn
 clear kn; have kn := q_kn; clear q_kn
 obtain ⟨c_kn, f_kn, l_kn_W6⟩ := f3 kn
 replace o_kl := hf_W6.not_own (lt_of kl) o_kl
 clear kl; have kl := q_kl; clear q_kl
 obtain ⟨c_kl, f_kl, l_kl_W6⟩ := f3 kl
 replace o_kx := hf_W6.not_own (lt_of kx) o_kx
 clear kx; have kx := q_kx; clear q_kx
 obtain ⟨c_kx, f_kx, l_kx_W6⟩ := f3 kx
 replace o_ka := hf_W6.not_own (lt_of ka) o_ka
 clear ka; have ka := q_ka; clear q_ka
 obtain ⟨c_ka, f_ka, l_ka_W6⟩ := f3 ka
 replace o_kb := hf_W6.not_own (lt_of kb) o_kb
 clear kb; have kb := q_kb; clear q_kb
 obtain ⟨c_kb, f_kb, l_kb_W6⟩ := f3 kb
 clear kt c_kt f_kt o_kt; have kt := hT_W6.blk; have o_kt := hT_W6.no
 obtain ⟨c_kt, f_kt, l_kt_W6⟩ := f3 kt
 replace hF := hF.trans hf_W6
 have z_W6 := hf_W6.size
 clear hA hf_W6; have hA := hT_W6.hA; clear hT_W6
 go_wp2_with fail
 refine calls_gen fun V6 hV_V6 => ?_
 replace kt := kK hV_V6 kt
 replace kn := kK hV_V6 kn
 replace kl := kK hV_V6 kl
 replace kx := kK hV_V6 kx
 replace ka := kK hV_V6 ka
 replace kb := kK hV_V6 kb
 replace hF : Fr ((oneX tb)) O O1 w V6 := nF hV_V6
 replace hA : AP V6 ap ((t.leaf c).2).s O1 := nA hV_V6
 have z_V6 := zS hV_V6
 clear hV_V6 c_kt f_kt c_kn f_kn c_kl f_kl c_kx f_kx c_ka f_ka c_kb f_kb
 obtain ⟨c_kt, f_kt, l_kt_V6⟩ := f3 kt
 obtain ⟨c_kn, f_kn, l_kn_V6⟩ := f3 kn
 obtain ⟨c_kl, f_kl, l_kl_V6⟩ := f3 kl
 obtain ⟨c_kx, f_kx, l_kx_V6⟩ := f3 kx
 obtain ⟨c_ka, f_ka, l_ka_V6⟩ := f3 ka
 obtain ⟨c_kb, f_kb, l_kb_V6⟩ := f3 kb
 refine (tLeaf_calls l2 e2 _ ⟨hA, kt, o_kt⟩).mono ?_
 rintro e_W7 W7 ⟨rfl, O2, hT_W7, hf_W7⟩
 have q_kn := hf_W7.keep kn o_kn (by unfold oneX; omega)
 have q_kl := hf_W7.keep kl o_kl (by unfold oneX; omega)
 have q_kx := hf_W7.keep kx o_kx (by unfold oneX; omega)
 have q_ka := hf_W7.keep ka o_ka (by unfold oneX; omega)
 have q_kb := hf_W7.keep kb o_kb (by unfold oneX; omega)
 replace o_kn := hf_W7.not_own (lt_of kn) o_kn
 clear kn; have kn := q_kn; clear q_kn
 obtain ⟨c_kn, f_kn, l_kn_W7⟩ := f3 kn
 replace o_kl := hf_W7.not_own (lt_of kl) o_kl
 clear kl; have kl := q_kl; clear q_kl
 obtain ⟨c_kl, f_kl, l_kl_W7⟩ := f3 kl
 replace o_kx := hf_W7.not_own (lt_of kx) o_kx
 clear kx; have kx := q_kx; clear q_kx
 obtain ⟨c_kx, f_kx, l_kx_W7⟩ := f3 kx
 replace o_ka := hf_W7.not_own (lt_of ka) o_ka
 clear ka; have ka := q_ka; clear q_ka
 obtain ⟨c_ka, f_ka, l_ka_W7⟩ := f3 ka
 replace o_kb := hf_W7.not_own (lt_of kb) o_kb
 clear kb; have kb := q_kb; clear q_kb
 obtain ⟨c_kb, f_kb, l_kb_W7⟩ := f3 kb
 clear kt c_kt f_kt o_kt; have kt := hT_W7.blk; have o_kt := hT_W7.no
 obtain ⟨c_kt, f_kt, l_kt_W7⟩ := f3 kt
 replace hF := hF.trans hf_W7
 have z_W7 := hf_W7.size
 clear hA hf_W7; have hA := hT_W7.hA; clear hT_W7
 go_wp2_with fail
 refine calls_gen fun V7 hV_V7 => ?_
 replace kt := kK hV_V7 kt
 replace kn := kK hV_V7 kn
 replace kl := kK hV_V7 kl
 replace kx := kK hV_V7 kx
 replace ka := kK hV_V7 ka
 replace kb := kK hV_V7 kb
 replace hF : Fr ((oneX tb)) O O2 w V7 := nF hV_V7
 replace hA : AP V7 ap (((t.leaf c).2.leaf l2).2).s O2 := nA hV_V7
 have z_V7 := zS hV_V7
 clear hV_V7 c_kt f_kt c_kn f_kn c_kl f_kl c_kx f_kx c_ka f_ka c_kb f_kb
 obtain ⟨c_kt, f_kt, l_kt_V7⟩ := f3 kt
 obtain ⟨c_kn, f_kn, l_kn_V7⟩ := f3 kn
 obtain ⟨c_kl, f_kl, l_kl_V7⟩ := f3 kl
 obtain ⟨c_kx, f_kx, l_kx_V7⟩ := f3 kx
 obtain ⟨c_ka, f_ka, l_ka_V7⟩ := f3 ka
 obtain ⟨c_kb, f_kb, l_kb_V7⟩ := f3 kb
 refine (tPairOr_calls _ _ _ ⟨hA, kt, o_kt⟩).mono ?_
 rintro e_W8 W8 ⟨rfl, O3, hT_W8, hf_W8⟩
 have q_kn := hf_W8.keep kn o_kn (by unfold oneX; omega)
 have q_kl := hf_W8.keep kl o_kl (by unfold oneX; omega)
 have q_kx := hf_W8.keep kx o_kx (by unfold oneX; omega)
 have q_ka := hf_W8.keep ka o_ka (by unfold oneX; omega)
 have q_kb := hf_W8.keep kb o_kb (by unfold oneX; omega)
 replace o_kn := hf_W8.not_own (lt_of kn) o_kn
 clear kn; have kn := q_kn; clear q_kn
 obtain ⟨c_kn, f_kn, l_kn_W8⟩ := f3 kn
 replace o_kl := hf_W8.not_own (lt_of kl) o_kl
 clear kl; have kl := q_kl; clear q_kl
 obtain ⟨c_kl, f_kl, l_kl_W8⟩ := f3 kl
 replace o_kx := hf_W8.not_own (lt_of kx) o_kx
 clear kx; have kx := q_kx; clear q_kx
 obtain ⟨c_kx, f_kx, l_kx_W8⟩ := f3 kx
 replace o_ka := hf_W8.not_own (lt_of ka) o_ka
 clear ka; have ka := q_ka; clear q_ka
 obtain ⟨c_ka, f_ka, l_ka_W8⟩ := f3 ka
 replace o_kb := hf_W8.not_own (lt_of kb) o_kb
 clear kb; have kb := q_kb; clear q_kb
 obtain ⟨c_kb, f_kb, l_kb_W8⟩ := f3 kb
 clear kt c_kt f_kt o_kt; have kt := hT_W8.blk; have o_kt := hT_W8.no
 obtain ⟨c_kt, f_kt, l_kt_W8⟩ := f3 kt
 replace hF := hF.trans hf_W8
 have z_W8 := hf_W8.size
 clear hA hf_W8; have hA := hT_W8.hA; clear hT_W8
 go_wp2_with fail
 go_ret
 rw [two_def]
 exact ⟨rfl, O3, ⟨hA, kt, o_kt⟩, hF⟩
set_option maxRecDepth 100000 in
set_option maxHeartbeats 2000000 in
theorem tIns_r (one : Bool) (k : Nat) (h i : Int) (r : Int × Tb) (w : World) (hT : TB w tb ap t O) (h1 : bIs t.s h = true) (d1 : ((t.s.get h).tag == 1) = true) (hU : U64 (t.s.get h).a) (d2 : insOk (lfOk (t.s.get h).a (wrap64 (t.s.get h).b)) (lfL (t.s.get h).a (wrap64 (t.s.get h).b)) i = false) (l1 l2 : List Bool) (H1 : Hid (l1 = (lfL (t.s.get h).a (wrap64 (t.s.get h).b)).take 32)) (H2 : Hid (l2 = (lfL (t.s.get h).a (wrap64 (t.s.get h).b)).drop 32)) (e1 : l1.length ≤ 64) (e2 : l2.length ≤ 64) (d3 : decide (i ≤ (l1.length : Int)) = false) (hr : some (t.two l1 (insR true l2 (wrap64 (i - (l1.length : Int))) one)) = some r) :
  Calls Tryz.prog 110 #[.pointer (some ⟨tb, 0, none⟩), .int .i64 h, .int .i64 i, .bool one] w fun e w' => e = .returned (.int .i64 r.1) ∧ DidT tb ap r.2 O w w' := by
 obtain ⟨c, H3⟩ : ∃ c, Hid (c = insR true l2 (wrap64 (i - (l1.length : Int))) one) := ⟨_, Lib.hid rfl⟩
 have e3 : c.length ≤ 64 := by rw [H3.out]; exact insR_le _ _ _ _
 rw [← H3.out] at hr
 obtain rfl := Option.some.inj hr
 clear hr
 go_enter Tryz.func110, Tryz.ntmps110
 have hA := hT.hA
 have kt := hT.blk
 have o_kt := hT.no
 obtain ⟨c_kt, f_kt, l_kt_w⟩ := f3 kt
 go_wp2_with fail
 refine calls_gen fun V hV_V => ?_
 replace kt := kK hV_V kt
 have hF : Fr ((oneX tb)) O O w V := nF hV_V
 replace hA : AP V ap t.s O := nA hV_V
 have z_V := zS hV_V
 clear hV_V c_kt f_kt
 obtain ⟨c_kt, f_kt, l_kt_V⟩ := f3 kt
 refine (bRow_calls _ _ hA).mono ?_
 rintro e_W1 W1 ⟨rfl, hb_W1⟩
 replace hA := hA.below hb_W1
 replace hF := hF.below hb_W1
 replace kt := keep_blk hb_W1 kt
 have z_W1 := hb_W1.size
 clear hb_W1 c_kt f_kt
 obtain ⟨c_kt, f_kt, l_kt_W1⟩ := f3 kt
 unfold Nd.val
 go_wp2_with fail
 refine calls_gen fun V1 hV_V1 => ?_
 have n_kn := hbk hV_V1 (W1.heap.size)
 simp (maxDischargeDepth := 9) only [BK, not_false_eq_true, reduceCtorEq, kt, l_kt_w, l_kt_V, l_kt_W1] at n_kn
 have o_kn : ¬ O (W1.heap.size) := by first | exact hA.new (Nat.le_refl _) | exact hA.new (by omega)
 replace kt := kK hV_V1 kt
 replace hF : Fr ((oneX tb)) O O w V1 := nF hV_V1
 replace hA : AP V1 ap t.s O := nA hV_V1
 have z_V1 := zS hV_V1
 clear hV_V1 c_kt f_kt
 obtain ⟨c_kt, f_kt, l_kt_V1⟩ := f3 kt
 have kn := n_kn; clear n_kn
 obtain ⟨c_kn, f_kn, l_kn_V1⟩ := f3 kn
 refine (bBits_calls (t.s.get h) _).mono ?_
 rintro e_W2 W2 ⟨rfl, hb_W2⟩
 replace hA := hA.below hb_W2
 replace hF := hF.below hb_W2
 replace kt := keep_blk hb_W2 kt
 replace kn := keep_blk hb_W2 kn
 have z_W2 := hb_W2.size
 clear hb_W2 c_kt f_kt c_kn f_kn
 obtain ⟨c_kt, f_kt, l_kt_W2⟩ := f3 kt
 obtain ⟨c_kn, f_kn, l_kn_W2⟩ := f3 kn
 go_wp2_with fail
 refine calls_gen fun V2 hV_V2 => ?_
 have n_kl := hbk hV_V2 (W2.heap.size)
 simp (maxDischargeDepth := 9) only [BK, not_false_eq_true, reduceCtorEq, kt, kn, l_kt_w, l_kt_V, l_kt_W1, l_kt_V1, l_kn_V1, l_kt_W2, l_kn_W2] at n_kl
 have o_kl : ¬ O (W2.heap.size) := by first | exact hA.new (Nat.le_refl _) | exact hA.new (by omega)
 replace kt := kK hV_V2 kt
 replace kn := kK hV_V2 kn
 replace hF : Fr ((oneX tb)) O O w V2 := nF hV_V2
 replace hA : AP V2 ap t.s O := nA hV_V2
 have z_V2 := zS hV_V2
 clear hV_V2 c_kt f_kt c_kn f_kn
 obtain ⟨c_kt, f_kt, l_kt_V2⟩ := f3 kt
 obtain ⟨c_kn, f_kn, l_kn_V2⟩ := f3 kn
 have kl := n_kl; clear n_kl
 obtain ⟨c_kl, f_kl, l_kl_V2⟩ := f3 kl
 refine (insert_i hU i one _).mono ?_
 rintro e_W3 W3 ⟨rfl, hb_W3⟩
 replace hA := hA.below hb_W3
 replace hF := hF.below hb_W3
 replace kt := keep_blk hb_W3 kt
 replace kn := keep_blk hb_W3 kn
 replace kl := keep_blk hb_W3 kl
 have z_W3 := hb_W3.size
 clear hb_W3 c_kt f_kt c_kn f_kn c_kl f_kl
 obtain ⟨c_kt, f_kt, l_kt_W3⟩ := f3 kt
 obtain ⟨c_kn, f_kn, l_kn_W3⟩ := f3 kn
 obtain ⟨c_kl, f_kl, l_kl_W3⟩ := f3 kl
 go_wp2_with fail
 refine calls_gen fun V3 hV_V3 => ?_
 have n_kx := hbk hV_V3 (W3.heap.size)
 simp (maxDischargeDepth := 9) only [BK, not_false_eq_true, reduceCtorEq, kt, kn, kl, l_kt_w, l_kt_V, l_kt_W1, l_kt_V1, l_kn_V1, l_kt_W2, l_kn_W2, l_kt_V2, l_kn_V2, l_kl_V2, l_kt_W3, l_kn_W3, l_kl_W3] at n_kx
 have o_kx : ¬ O (W3.heap.size) := by first | exact hA.new (Nat.le_refl _) | exact hA.new (by omega)
 replace kt := kK hV_V3 kt
 replace kn := kK hV_V3 kn
 replace kl := kK hV_V3 kl
 replace hF : Fr ((oneX tb)) O O w V3 := nF hV_V3
 replace hA : AP V3 ap t.s O := nA hV_V3
 have z_V3 := zS hV_V3
 clear hV_V3 c_kt f_kt c_kn f_kn c_kl f_kl
 obtain ⟨c_kt, f_kt, l_kt_V3⟩ := f3 kt
 obtain ⟨c_kn, f_kn, l_kn_V3⟩ := f3 kn
 obtain ⟨c_kl, f_kl, l_kl_V3⟩ := f3 kl
 have kx := n_kx; clear n_kx
 obtain ⟨c_kx, f_kx, l_kx_V3⟩ := f3 kx
 refine (split_32 hU l1 l2 H1.out H2.out _).mono ?_
 rintro e_W4 W4 ⟨rfl, hb_W4⟩
 replace hA := hA.below hb_W4
 replace hF := hF.below hb_W4
 replace kt := keep_blk hb_W4 kt
 replace kn := keep_blk hb_W4 kn
 replace kl := keep_blk hb_W4 kl
 replace kx := keep_blk hb_W4 kx
 have z_W4 := hb_W4.size
 clear hb_W4 c_kt f_kt c_kn f_kn c_kl f_kl c_kx f_kx
 obtain ⟨c_kt, f_kt, l_kt_W4⟩ := f3 kt
 obtain ⟨c_kn, f_kn, l_kn_W4⟩ := f3 kn
 obtain ⟨c_kl, f_kl, l_kl_W4⟩ := f3 kl
 obtain ⟨c_kx, f_kx, l_kx_W4⟩ := f3 kx
 go_wp2_with fail
 refine calls_gen fun V4 hV_V4 => ?_
 have n_ka := hbk hV_V4 (W4.heap.size)
 simp (maxDischargeDepth := 9) only [BK, not_false_eq_true, reduceCtorEq, kt, kn, kl, kx, l_kt_w, l_kt_V, l_kt_W1, l_kt_V1, l_kn_V1, l_kt_W2, l_kn_W2, l_kt_V2, l_kn_V2, l_kl_V2, l_kt_W3, l_kn_W3, l_kl_W3, l_kt_V3, l_kn_V3, l_kl_V3, l_kx_V3, l_kt_W4, l_kn_W4, l_kl_W4, l_kx_W4] at n_ka
 have n_kb := hbk hV_V4 (W4.heap.size + 1)
 simp (maxDischargeDepth := 9) only [BK, not_false_eq_true, reduceCtorEq, kt, kn, kl, kx, l_kt_w, l_kt_V, l_kt_W1, l_kt_V1, l_kn_V1, l_kt_W2, l_kn_W2, l_kt_V2, l_kn_V2, l_kl_V2, l_kt_W3, l_kn_W3, l_kl_W3, l_kt_V3, l_kn_V3, l_kl_V3, l_kx_V3, l_kt_W4, l_kn_W4, l_kl_W4, l_kx_W4] at n_kb
 have o_ka : ¬ O (W4.heap.size) := by first | exact hA.new (Nat.le_refl _) | exact hA.new (by omega)
 have o_kb : ¬ O (W4.heap.size + 1) := by first | exact hA.new (Nat.le_refl _) | exact hA.new (by omega)
 replace kt := kK hV_V4 kt
 replace kn := kK hV_V4 kn
 replace kl := kK hV_V4 kl
 replace kx := kK hV_V4 kx
 replace hF : Fr ((oneX tb)) O O w V4 := nF hV_V4
 replace hA : AP V4 ap t.s O := nA hV_V4
 have z_V4 := zS hV_V4
 clear hV_V4 c_kt f_kt c_kn f_kn c_kl f_kl c_kx f_kx
 obtain ⟨c_kt, f_kt, l_kt_V4⟩ := f3 kt
 obtain ⟨c_kn, f_kn, l_kn_V4⟩ := f3 kn
 obtain ⟨c_kl, f_kl, l_kl_V4⟩ := f3 kl
 obtain ⟨c_kx, f_kx, l_kx_V4⟩ := f3 kx
 have ka := n_ka; clear n_ka
 obtain ⟨c_ka, f_ka, l_ka_V4⟩ := f3 ka
 have kb := n_kb; clear n_kb
 obtain ⟨c_kb, f_kb, l_kb_V4⟩ := f3 kb
 refine (insert_c l2 c e2 (wrap64 (i - (l1.length : Int))) one H3.out _).mono ?_
 rintro e_W5 W5 ⟨rfl, hb_W5⟩
 replace hA := hA.below hb_W5
 replace hF := hF.below hb_W5
 replace kt := keep_blk hb_W5 kt
 replace kn := keep_blk hb_W5 kn
 replace kl := keep_blk hb_W5 kl
 replace kx := keep_blk hb_W5 kx
 replace ka := keep_blk hb_W5 ka
 replace kb := keep_blk hb_W5 kb
 have z_W5 := hb_W5.size
 clear hb_W5 c_kt f_kt c_kn f_kn c_kl f_kl c_kx f_kx c_ka f_ka c_kb f_kb
 obtain ⟨c_kt, f_kt, l_kt_W5⟩ := f3 kt
 obtain ⟨c_kn, f_kn, l_kn_W5⟩ := f3 kn
 obtain ⟨c_kl, f_kl, l_kl_W5⟩ := f3 kl
 obtain ⟨c_kx, f_kx, l_kx_W5⟩ := f3 kx
 obtain ⟨c_ka, f_ka, l_ka_W5⟩ := f3 ka
 obtain ⟨c_kb, f_kb, l_kb_W5⟩ := f3 kb
 go_wp2_with fail
 refine calls_gen fun V5 hV_V5 => ?_
 replace kt := kK hV_V5 kt
 replace kn := kK hV_V5 kn
 replace kl := kK hV_V5 kl
 replace kx := kK hV_V5 kx
 replace ka := kK hV_V5 ka
 replace kb := kK hV_V5 kb
 replace hF : Fr ((oneX tb)) O O w V5 := nF hV_V5
 replace hA : AP V5 ap t.s O := nA hV_V5
 have z_V5 := zS hV_V5
 clear hV_V5 c_kt f_kt c_kn f_kn c_kl f_kl c_kx f_kx c_ka f_ka c_kb f_kb
 obtain ⟨c_kt, f_kt, l_kt_V5⟩ := f3 kt
 obtain ⟨c_kn, f_kn, l_kn_V5⟩ := f3 kn
 obtain ⟨c_kl, f_kl, l_kl_V5⟩ := f3 kl
 obtain ⟨c_kx, f_kx, l_kx_V5⟩ := f3 kx
 obtain ⟨c_ka, f_ka, l_ka_V5⟩ := f3 ka
 obtain ⟨c_kb, f_kb, l_kb_V5⟩ := f3 kb
 refine (tLeaf_calls l1 e1 _ ⟨hA, kt, o_kt⟩).mono ?_
 rintro e_W6 W6 ⟨rfl, O1, hT_W6, hf_W6⟩
 have q_kn := hf_W6.keep kn o_kn (by unfold oneX; omega)
 have q_kl := hf_W6.keep kl o_kl (by unfold oneX; omega)
 have q_kx := hf_W6.keep kx o_kx (by unfold oneX; omega)
 have q_ka := hf_W6.keep ka o_ka (by unfold oneX; omega)
 have q_kb := hf_W6.keep kb o_kb (by unfold oneX; omega)
 replace o_kn := hf_W6.not_own (lt_of kn) o_kn
 clear kn; have kn := q_kn; clear q_kn
 obtain ⟨c_kn, f_kn, l_kn_W6⟩ := f3 kn
 replace o_kl := hf_W6.not_own (lt_of kl) o_kl
 clear kl; have kl := q_kl; clear q_kl
 obtain ⟨c_kl, f_kl, l_kl_W6⟩ := f3 kl
 replace o_kx := hf_W6.not_own (lt_of kx) o_kx
 clear kx; have kx := q_kx; clear q_kx
 obtain ⟨c_kx, f_kx, l_kx_W6⟩ := f3 kx
 replace o_ka := hf_W6.not_own (lt_of ka) o_ka
 clear ka; have ka := q_ka; clear q_ka
 obtain ⟨c_ka, f_ka, l_ka_W6⟩ := f3 ka
 replace o_kb := hf_W6.not_own (lt_of kb) o_kb
 clear kb; have kb := q_kb; clear q_kb
 obtain ⟨c_kb, f_kb, l_kb_W6⟩ := f3 kb
 clear kt c_kt f_kt o_kt; have kt := hT_W6.blk; have o_kt := hT_W6.no
 obtain ⟨c_kt, f_kt, l_kt_W6⟩ := f3 kt
 replace hF := hF.trans hf_W6
 have z_W6 := hf_W6.size
 clear hA hf_W6; have hA := hT_W6.hA; clear hT_W6
 go_wp2_with fail
 refine calls_gen fun V6 hV_V6 => ?_
 replace kt := kK hV_V6 kt
 replace kn := kK hV_V6 kn
 replace kl := kK hV_V6 kl
 replace kx := kK hV_V6 kx
 replace ka := kK hV_V6 ka
 replace kb := kK hV_V6 kb
 replace hF : Fr ((oneX tb)) O O1 w V6 := nF hV_V6
 replace hA : AP V6 ap ((t.leaf l1).2).s O1 := nA hV_V6
 have z_V6 := zS hV_V6
 clear hV_V6 c_kt f_kt c_kn f_kn c_kl f_kl c_kx f_kx c_ka f_ka c_kb f_kb
 obtain ⟨c_kt, f_kt, l_kt_V6⟩ := f3 kt
 obtain ⟨c_kn, f_kn, l_kn_V6⟩ := f3 kn
 obtain ⟨c_kl, f_kl, l_kl_V6⟩ := f3 kl
 obtain ⟨c_kx, f_kx, l_kx_V6⟩ := f3 kx
 obtain ⟨c_ka, f_ka, l_ka_V6⟩ := f3 ka
 obtain ⟨c_kb, f_kb, l_kb_V6⟩ := f3 kb
 refine (tLeaf_calls c e3 _ ⟨hA, kt, o_kt⟩).mono ?_
 rintro e_W7 W7 ⟨rfl, O2, hT_W7, hf_W7⟩
 have q_kn := hf_W7.keep kn o_kn (by unfold oneX; omega)
 have q_kl := hf_W7.keep kl o_kl (by unfold oneX; omega)
 have q_kx := hf_W7.keep kx o_kx (by unfold oneX; omega)
 have q_ka := hf_W7.keep ka o_ka (by unfold oneX; omega)
 have q_kb := hf_W7.keep kb o_kb (by unfold oneX; omega)
 replace o_kn := hf_W7.not_own (lt_of kn) o_kn
 clear kn; have kn := q_kn; clear q_kn
 obtain ⟨c_kn, f_kn, l_kn_W7⟩ := f3 kn
 replace o_kl := hf_W7.not_own (lt_of kl) o_kl
 clear kl; have kl := q_kl; clear q_kl
 obtain ⟨c_kl, f_kl, l_kl_W7⟩ := f3 kl
 replace o_kx := hf_W7.not_own (lt_of kx) o_kx
 clear kx; have kx := q_kx; clear q_kx
 obtain ⟨c_kx, f_kx, l_kx_W7⟩ := f3 kx
 replace o_ka := hf_W7.not_own (lt_of ka) o_ka
 clear ka; have ka := q_ka; clear q_ka
 obtain ⟨c_ka, f_ka, l_ka_W7⟩ := f3 ka
 replace o_kb := hf_W7.not_own (lt_of kb) o_kb
 clear kb; have kb := q_kb; clear q_kb
 obtain ⟨c_kb, f_kb, l_kb_W7⟩ := f3 kb
 clear kt c_kt f_kt o_kt; have kt := hT_W7.blk; have o_kt := hT_W7.no
 obtain ⟨c_kt, f_kt, l_kt_W7⟩ := f3 kt
 replace hF := hF.trans hf_W7
 have z_W7 := hf_W7.size
 clear hA hf_W7; have hA := hT_W7.hA; clear hT_W7
 go_wp2_with fail
 refine calls_gen fun V7 hV_V7 => ?_
 replace kt := kK hV_V7 kt
 replace kn := kK hV_V7 kn
 replace kl := kK hV_V7 kl
 replace kx := kK hV_V7 kx
 replace ka := kK hV_V7 ka
 replace kb := kK hV_V7 kb
 replace hF : Fr ((oneX tb)) O O2 w V7 := nF hV_V7
 replace hA : AP V7 ap (((t.leaf l1).2.leaf c).2).s O2 := nA hV_V7
 have z_V7 := zS hV_V7
 clear hV_V7 c_kt f_kt c_kn f_kn c_kl f_kl c_kx f_kx c_ka f_ka c_kb f_kb
 obtain ⟨c_kt, f_kt, l_kt_V7⟩ := f3 kt
 obtain ⟨c_kn, f_kn, l_kn_V7⟩ := f3 kn
 obtain ⟨c_kl, f_kl, l_kl_V7⟩ := f3 kl
 obtain ⟨c_kx, f_kx, l_kx_V7⟩ := f3 kx
 obtain ⟨c_ka, f_ka, l_ka_V7⟩ := f3 ka
 obtain ⟨c_kb, f_kb, l_kb_V7⟩ := f3 kb
 refine (tPairOr_calls _ _ _ ⟨hA, kt, o_kt⟩).mono ?_
 rintro e_W8 W8 ⟨rfl, O3, hT_W8, hf_W8⟩
 have q_kn := hf_W8.keep kn o_kn (by unfold oneX; omega)
 have q_kl := hf_W8.keep kl o_kl (by unfold oneX; omega)
 have q_kx := hf_W8.keep kx o_kx (by unfold oneX; omega)
 have q_ka := hf_W8.keep ka o_ka (by unfold oneX; omega)
 have q_kb := hf_W8.keep kb o_kb (by unfold oneX; omega)
 replace o_kn := hf_W8.not_own (lt_of kn) o_kn
 clear kn; have kn := q_kn; clear q_kn
 obtain ⟨c_kn, f_kn, l_kn_W8⟩ := f3 kn
 replace o_kl := hf_W8.not_own (lt_of kl) o_kl
 clear kl; have kl := q_kl; clear q_kl
 obtain ⟨c_kl, f_kl, l_kl_W8⟩ := f3 kl
 replace o_kx := hf_W8.not_own (lt_of kx) o_kx
 clear kx; have kx := q_kx; clear q_kx
 obtain ⟨c_kx, f_kx, l_kx_W8⟩ := f3 kx
 replace o_ka := hf_W8.not_own (lt_of ka) o_ka
 clear ka; have ka := q_ka; clear q_ka
 obtain ⟨c_ka, f_ka, l_ka_W8⟩ := f3 ka
 replace o_kb := hf_W8.not_own (lt_of kb) o_kb
 clear kb; have kb := q_kb; clear q_kb
 obtain ⟨c_kb, f_kb, l_kb_W8⟩ := f3 kb
 clear kt c_kt f_kt o_kt; have kt := hT_W8.blk; have o_kt := hT_W8.no
 obtain ⟨c_kt, f_kt, l_kt_W8⟩ := f3 kt
 replace hF := hF.trans hf_W8
 have z_W8 := hf_W8.size
 clear hA hf_W8; have hA := hT_W8.hA; clear hT_W8
 go_wp2_with fail
 go_ret
 rw [two_def]
 exact ⟨rfl, O3, ⟨hA, kt, o_kt⟩, hF⟩
set_option maxRecDepth 100000 in
set_option maxHeartbeats 2000000 in
theorem tIns_high (one : Bool) (k : Nat) (h i : Int) (r : Int × Tb) (w : World) (hT : TB w tb ap t O) (ih : Hid (∀ (t : Tb) (O : Nat → Prop) (h i : Int) (r : Int × Tb) (w : World), Tb.insert k t h i one = some r → TB w tb ap t O → Calls Tryz.prog 110 #[.pointer (some ⟨tb, 0, none⟩), .int .i64 h, .int .i64 i, .bool one] w fun e w' => e = .returned (.int .i64 r.1) ∧ DidT tb ap r.2 O w w')) (h1 : bIs t.s h = true) (d1 : ((t.s.get h).tag == 1) = false) (d2 : decide (bLen t.s (t.s.get h).k0 < i) = true) (hr : (((t.keep (t.s.get h).k0).insert k (t.s.get h).k1 (wrap64 (i - bLen t.s (t.s.get h).k0)) one).bind fun r => r.2.fork (t.s.get h).k0 r.1) = some r) :
  Calls Tryz.prog 110 #[.pointer (some ⟨tb, 0, none⟩), .int .i64 h, .int .i64 i, .bool one] w fun e w' => e = .returned (.int .i64 r.1) ∧ DidT tb ap r.2 O w w' := by
 obtain ⟨u, h_b, h_r⟩ := Option.bind_eq_some_iff.1 hr
 have Hu := Lib.hid h_b; clear h_b hr; have hr := h_r; clear h_r
 have Hr := Lib.hid hr; clear hr
 go_enter Tryz.func110, Tryz.ntmps110
 have hA := hT.hA
 have kt := hT.blk
 have o_kt := hT.no
 obtain ⟨c_kt, f_kt, l_kt_w⟩ := f3 kt
 go_wp2_with fail
 refine calls_gen fun V hV_V => ?_
 replace kt := kK hV_V kt
 have hF : Fr ((oneX tb)) O O w V := nF hV_V
 replace hA : AP V ap t.s O := nA hV_V
 have z_V := zS hV_V
 clear hV_V c_kt f_kt
 obtain ⟨c_kt, f_kt, l_kt_V⟩ := f3 kt
 refine (bRow_calls _ _ hA).mono ?_
 rintro e_W1 W1 ⟨rfl, hb_W1⟩
 replace hA := hA.below hb_W1
 replace hF := hF.below hb_W1
 replace kt := keep_blk hb_W1 kt
 have z_W1 := hb_W1.size
 clear hb_W1 c_kt f_kt
 obtain ⟨c_kt, f_kt, l_kt_W1⟩ := f3 kt
 unfold Nd.val
 go_wp2_with fail
 refine wp_gen fun V1 hV_V1 => ?_
 have n_kn := hbk hV_V1 (W1.heap.size)
 simp (maxDischargeDepth := 9) only [BK, not_false_eq_true, reduceCtorEq, kt, l_kt_w, l_kt_V, l_kt_W1] at n_kn
 have o_kn : ¬ O (W1.heap.size) := by first | exact hA.new (Nat.le_refl _) | exact hA.new (by omega)
 replace kt := kK hV_V1 kt
 replace hF : Fr ((oneX tb)) O O w V1 := nF hV_V1
 replace hA : AP V1 ap t.s O := nA hV_V1
 have z_V1 := zS hV_V1
 clear hV_V1 c_kt f_kt
 obtain ⟨c_kt, f_kt, l_kt_V1⟩ := f3 kt
 have kn := n_kn; clear n_kn
 obtain ⟨c_kn, f_kn, l_kn_V1⟩ := f3 kn
 refine wp_region_noPanic ?_
 refine wp_region_held_drew (S := fun v => (∀ o, v.cell? ⟨tb, o, none⟩ = V1.cell? ⟨tb, o, none⟩) ∧ (∀ o, v.cell? ⟨W1.heap.size, o, none⟩ = V1.cell? ⟨W1.heap.size, o, none⟩) ∧ (V1.heap.size ≤ v.heap.size) ∧ AP v ap t.s O) (by kernel_rfl) ⟨(fun _ => rfl), (fun _ => rfl), (Nat.le_refl _), hA.drew⟩ (fun hHeld => ?_)
 generalize hV_V1d : V1.drew = V1d at hHeld ⊢
 have d_kt := dK hV_V1d kt
 have d_kn := dK hV_V1d kn
 clear c_kt f_kt c_kn f_kn
 replace hA := hA.drew; rw [hV_V1d] at hA
 replace hF := hF.drew; rw [hV_V1d] at hF
 have z_V1d := dZ hV_V1d
 have v_kt := cells_of kt
 have v_kn := cells_of kn
 clear kt; have kt := d_kt; clear d_kt
 clear kn; have kn := d_kn; clear d_kn
 obtain ⟨c_kt, f_kt, l_kt_V1d⟩ := f3 kt
 obtain ⟨c_kn, f_kn, l_kn_V1d⟩ := f3 kn
 clear hV_V1d
 refine tz 0 rfl hHeld ?_
 try simp only [PT]
 refine tz 1 rfl hHeld ?_
 try simp only [PT]
 refine tz 2 rfl hHeld ?_
 try simp only [PT]
 refine tz 3 rfl hHeld ?_
 try simp only [PT]
 refine tz 4 rfl hHeld ?_
 try simp only [PT]
 refine tz 5 rfl hHeld ?_
 try simp only [PT]
 refine tz 6 rfl hHeld ?_
 try simp only [PT]
 refine rd 7 rfl fun K hK => ?_
 go_simp
 try simp only [IntWalk.i64_left]
 refine (bLen_calls _ _ hA).mono ?_
 rintro e_W2 W2 ⟨rfl, hb_W2⟩
 replace hA := hA.below hb_W2
 replace hF := hF.below hb_W2
 replace kt := keep_blk hb_W2 kt
 replace kn := keep_blk hb_W2 kn
 have z_W2 := hb_W2.size
 clear hb_W2 c_kt f_kt c_kn f_kn
 obtain ⟨c_kt, f_kt, l_kt_W2⟩ := f3 kt
 obtain ⟨c_kn, f_kn, l_kn_W2⟩ := f3 kn
 refine hK.out _ _ ⟨(fun o => (c_kt o).trans (v_kt o).symm), (fun o => (c_kn o).trans (v_kn o).symm), (by omega), hA⟩ (fun hHeld => ?_)
 clear hK K
 try simp only [PT]
 refine rd 8 rfl fun K hK => ?_
 go_simp
 refine hK.out _ _ hHeld (fun hHeld => ?_)
 clear hK K
 try simp only [PT]
 refine wpAnyH_done (by kernel_rfl) ?_ _
 refine NoPanic.normal ?_
 go_wp2_with fail
 refine wp_gen fun V2 hV_V2 => ?_
 replace kt := kK hV_V2 kt
 replace kn := kK hV_V2 kn
 replace hF : Fr ((oneX tb)) O O w V2 := nF hV_V2
 replace hA : AP V2 ap t.s O := nA hV_V2
 have z_V2 := zS hV_V2
 clear hV_V2 c_kt f_kt c_kn f_kn
 obtain ⟨c_kt, f_kt, l_kt_V2⟩ := f3 kt
 obtain ⟨c_kn, f_kn, l_kn_V2⟩ := f3 kn
 refine wp_region_noPanic ?_
 refine wp_region_held_drew (S := fun v => (v.cell? ⟨tb, 0, none⟩ = V2.cell? ⟨tb, 0, none⟩) ∧ (∀ o, v.cell? ⟨W1.heap.size, o, none⟩ = V2.cell? ⟨W1.heap.size, o, none⟩) ∧ (V2.heap.size ≤ v.heap.size) ∧ True) (by kernel_rfl) ⟨rfl, (fun _ => rfl), (Nat.le_refl _), trivial⟩ (fun hHeld => ?_)
 generalize hV_V2d : V2.drew = V2d at hHeld ⊢
 have d_kt := dK hV_V2d kt
 have d_kn := dK hV_V2d kn
 clear c_kt f_kt c_kn f_kn
 replace hA := hA.drew; rw [hV_V2d] at hA
 replace hF := hF.drew; rw [hV_V2d] at hF
 have z_V2d := dZ hV_V2d
 have v_kt := cells_of kt
 have v_kn := cells_of kn
 clear kt; have kt := d_kt; clear d_kt
 clear kn; have kn := d_kn; clear d_kn
 obtain ⟨c_kt, f_kt, l_kt_V2d⟩ := f3 kt
 obtain ⟨c_kn, f_kn, l_kn_V2d⟩ := f3 kn
 clear hV_V2d
 refine tz 0 rfl hHeld ?_
 try simp only [PT]
 refine tz 1 rfl hHeld ?_
 try simp only [PT]
 refine tz 2 rfl hHeld ?_
 try simp only [PT]
 refine tz 3 rfl hHeld ?_
 try simp only [PT]
 refine tz 4 rfl hHeld ?_
 try simp only [PT]
 refine tz 6 rfl hHeld ?_
 try simp only [PT]
 refine tz 7 rfl hHeld ?_
 try simp only [PT]
 refine tz 8 rfl hHeld ?_
 try simp only [PT]
 refine tz 9 rfl hHeld ?_
 try simp only [PT]
 refine tz 10 rfl hHeld ?_
 try simp only [PT]
 refine tz 11 rfl hHeld ?_
 try simp only [PT]
 refine tz 12 rfl hHeld ?_
 try simp only [PT]
 refine tz 13 rfl hHeld ?_
 try simp only [PT]
 refine rd 5 rfl fun K hK => ?_
 go_simp
 try simp only [IntWalk.i64_left]
 refine (tKeep_calls (t := t) (t.s.get h).k0 _ ⟨hA, kt, o_kt⟩).mono ?_
 rintro e_W3 W3 ⟨rfl, O1, hT_W3, hf_W3⟩
 have q_kn := hf_W3.keep kn o_kn (by unfold oneX; omega)
 replace o_kn := hf_W3.not_own (lt_of kn) o_kn
 clear kn; have kn := q_kn; clear q_kn
 obtain ⟨c_kn, f_kn, l_kn_W3⟩ := f3 kn
 clear kt c_kt f_kt o_kt; have kt := hT_W3.blk; have o_kt := hT_W3.no
 obtain ⟨c_kt, f_kt, l_kt_W3⟩ := f3 kt
 replace hF := hF.trans hf_W3
 have z_W3 := hf_W3.size
 clear hA hf_W3; have hA := hT_W3.hA; clear hT_W3
 refine hK.out _ _ ⟨((c_kt 0).trans (v_kt 0).symm), (fun o => (c_kn o).trans (v_kn o).symm), (by omega), trivial⟩ (fun hHeld => ?_)
 clear hK K
 try simp only [PT]
 refine rd 14 rfl fun K hK => ?_
 go_simp
 try simp only [IntWalk.i64_left]
 refine (ih.out (t.keep (t.s.get h).k0) _ _ _ _ _ Hu.out ⟨hA, kt, o_kt⟩).mono ?_
 rintro e_W4 W4 ⟨rfl, O2, hT_W4, hf_W4⟩
 have q_kn := hf_W4.keep kn o_kn (by unfold oneX; omega)
 replace o_kn := hf_W4.not_own (lt_of kn) o_kn
 clear kn; have kn := q_kn; clear q_kn
 obtain ⟨c_kn, f_kn, l_kn_W4⟩ := f3 kn
 clear kt c_kt f_kt o_kt; have kt := hT_W4.blk; have o_kt := hT_W4.no
 obtain ⟨c_kt, f_kt, l_kt_W4⟩ := f3 kt
 replace hF := hF.trans hf_W4
 have z_W4 := hf_W4.size
 clear hA hf_W4; have hA := hT_W4.hA; clear hT_W4
 refine hK.out _ _ ⟨((c_kt 0).trans (v_kt 0).symm), (fun o => (c_kn o).trans (v_kn o).symm), (by omega), trivial⟩ (fun hHeld => ?_)
 clear hK K
 try simp only [PT]
 refine rd 15 rfl fun K hK => ?_
 go_simp
 try simp only [IntWalk.i64_left]
 refine (tFork_calls (t := u.2) _ _ _ Hr.out _ ⟨hA, kt, o_kt⟩).mono ?_
 rintro e_W5 W5 ⟨rfl, O3, hT_W5, hf_W5⟩
 have q_kn := hf_W5.keep kn o_kn (by unfold oneX; omega)
 replace o_kn := hf_W5.not_own (lt_of kn) o_kn
 clear kn; have kn := q_kn; clear q_kn
 obtain ⟨c_kn, f_kn, l_kn_W5⟩ := f3 kn
 clear kt c_kt f_kt o_kt; have kt := hT_W5.blk; have o_kt := hT_W5.no
 obtain ⟨c_kt, f_kt, l_kt_W5⟩ := f3 kt
 replace hF := hF.trans hf_W5
 have z_W5 := hf_W5.size
 clear hA hf_W5; have hA := hT_W5.hA; clear hT_W5
 refine hK.out _ _ ⟨((c_kt 0).trans (v_kt 0).symm), (fun o => (c_kn o).trans (v_kn o).symm), (by omega), trivial⟩ (fun hHeld => ?_)
 clear hK K
 try simp only [PT]
 refine rd 16 rfl fun K hK => ?_
 go_simp
 refine hK.out _ _ hHeld (fun hHeld => ?_)
 clear hK K
 try simp only [PT]
 refine wpAnyH_done (by kernel_rfl) ?_ _
 refine NoPanic.normal ?_
 go_wp2_with fail
 go_ret
 exact ⟨rfl, O3, ⟨hA, kt, o_kt⟩, hF⟩
set_option maxRecDepth 100000 in
set_option maxHeartbeats 2000000 in
theorem tIns_low (one : Bool) (k : Nat) (h i : Int) (r : Int × Tb) (w : World) (hT : TB w tb ap t O) (ih : Hid (∀ (t : Tb) (O : Nat → Prop) (h i : Int) (r : Int × Tb) (w : World), Tb.insert k t h i one = some r → TB w tb ap t O → Calls Tryz.prog 110 #[.pointer (some ⟨tb, 0, none⟩), .int .i64 h, .int .i64 i, .bool one] w fun e w' => e = .returned (.int .i64 r.1) ∧ DidT tb ap r.2 O w w')) (h1 : bIs t.s h = true) (d1 : ((t.s.get h).tag == 1) = false) (d2 : decide (bLen t.s (t.s.get h).k0 < i) = false) (hr : ((t.insert k (t.s.get h).k0 i one).bind fun r => (r.2.keep (t.s.get h).k1).fork r.1 (t.s.get h).k1) = some r) :
  Calls Tryz.prog 110 #[.pointer (some ⟨tb, 0, none⟩), .int .i64 h, .int .i64 i, .bool one] w fun e w' => e = .returned (.int .i64 r.1) ∧ DidT tb ap r.2 O w w' := by
 obtain ⟨u, h_b, h_r⟩ := Option.bind_eq_some_iff.1 hr
 have Hu := Lib.hid h_b; clear h_b hr; have hr := h_r; clear h_r
 have Hr := Lib.hid hr; clear hr
 go_enter Tryz.func110, Tryz.ntmps110
 have hA := hT.hA
 have kt := hT.blk
 have o_kt := hT.no
 obtain ⟨c_kt, f_kt, l_kt_w⟩ := f3 kt
 go_wp2_with fail
 refine calls_gen fun V hV_V => ?_
 replace kt := kK hV_V kt
 have hF : Fr ((oneX tb)) O O w V := nF hV_V
 replace hA : AP V ap t.s O := nA hV_V
 have z_V := zS hV_V
 clear hV_V c_kt f_kt
 obtain ⟨c_kt, f_kt, l_kt_V⟩ := f3 kt
 refine (bRow_calls _ _ hA).mono ?_
 rintro e_W1 W1 ⟨rfl, hb_W1⟩
 replace hA := hA.below hb_W1
 replace hF := hF.below hb_W1
 replace kt := keep_blk hb_W1 kt
 have z_W1 := hb_W1.size
 clear hb_W1 c_kt f_kt
 obtain ⟨c_kt, f_kt, l_kt_W1⟩ := f3 kt
 unfold Nd.val
 go_wp2_with fail
 refine wp_gen fun V1 hV_V1 => ?_
 have n_kn := hbk hV_V1 (W1.heap.size)
 simp (maxDischargeDepth := 9) only [BK, not_false_eq_true, reduceCtorEq, kt, l_kt_w, l_kt_V, l_kt_W1] at n_kn
 have o_kn : ¬ O (W1.heap.size) := by first | exact hA.new (Nat.le_refl _) | exact hA.new (by omega)
 replace kt := kK hV_V1 kt
 replace hF : Fr ((oneX tb)) O O w V1 := nF hV_V1
 replace hA : AP V1 ap t.s O := nA hV_V1
 have z_V1 := zS hV_V1
 clear hV_V1 c_kt f_kt
 obtain ⟨c_kt, f_kt, l_kt_V1⟩ := f3 kt
 have kn := n_kn; clear n_kn
 obtain ⟨c_kn, f_kn, l_kn_V1⟩ := f3 kn
 refine wp_region_noPanic ?_
 refine wp_region_held_drew (S := fun v => (∀ o, v.cell? ⟨tb, o, none⟩ = V1.cell? ⟨tb, o, none⟩) ∧ (∀ o, v.cell? ⟨W1.heap.size, o, none⟩ = V1.cell? ⟨W1.heap.size, o, none⟩) ∧ (V1.heap.size ≤ v.heap.size) ∧ AP v ap t.s O) (by kernel_rfl) ⟨(fun _ => rfl), (fun _ => rfl), (Nat.le_refl _), hA.drew⟩ (fun hHeld => ?_)
 generalize hV_V1d : V1.drew = V1d at hHeld ⊢
 have d_kt := dK hV_V1d kt
 have d_kn := dK hV_V1d kn
 clear c_kt f_kt c_kn f_kn
 replace hA := hA.drew; rw [hV_V1d] at hA
 replace hF := hF.drew; rw [hV_V1d] at hF
 have z_V1d := dZ hV_V1d
 have v_kt := cells_of kt
 have v_kn := cells_of kn
 clear kt; have kt := d_kt; clear d_kt
 clear kn; have kn := d_kn; clear d_kn
 obtain ⟨c_kt, f_kt, l_kt_V1d⟩ := f3 kt
 obtain ⟨c_kn, f_kn, l_kn_V1d⟩ := f3 kn
 clear hV_V1d
 refine tz 0 rfl hHeld ?_
 try simp only [PT]
 refine tz 1 rfl hHeld ?_
 try simp only [PT]
 refine tz 2 rfl hHeld ?_
 try simp only [PT]
 refine tz 3 rfl hHeld ?_
 try simp only [PT]
 refine tz 4 rfl hHeld ?_
 try simp only [PT]
 refine tz 5 rfl hHeld ?_
 try simp only [PT]
 refine tz 6 rfl hHeld ?_
 try simp only [PT]
 refine rd 7 rfl fun K hK => ?_
 go_simp
 try simp only [IntWalk.i64_left]
 refine (bLen_calls _ _ hA).mono ?_
 rintro e_W2 W2 ⟨rfl, hb_W2⟩
 replace hA := hA.below hb_W2
 replace hF := hF.below hb_W2
 replace kt := keep_blk hb_W2 kt
 replace kn := keep_blk hb_W2 kn
 have z_W2 := hb_W2.size
 clear hb_W2 c_kt f_kt c_kn f_kn
 obtain ⟨c_kt, f_kt, l_kt_W2⟩ := f3 kt
 obtain ⟨c_kn, f_kn, l_kn_W2⟩ := f3 kn
 refine hK.out _ _ ⟨(fun o => (c_kt o).trans (v_kt o).symm), (fun o => (c_kn o).trans (v_kn o).symm), (by omega), hA⟩ (fun hHeld => ?_)
 clear hK K
 try simp only [PT]
 refine rd 8 rfl fun K hK => ?_
 go_simp
 refine hK.out _ _ hHeld (fun hHeld => ?_)
 clear hK K
 try simp only [PT]
 refine wpAnyH_done (by kernel_rfl) ?_ _
 refine NoPanic.normal ?_
 go_wp2_with fail
 refine wp_gen fun V2 hV_V2 => ?_
 replace kt := kK hV_V2 kt
 replace kn := kK hV_V2 kn
 replace hF : Fr ((oneX tb)) O O w V2 := nF hV_V2
 replace hA : AP V2 ap t.s O := nA hV_V2
 have z_V2 := zS hV_V2
 clear hV_V2 c_kt f_kt c_kn f_kn
 obtain ⟨c_kt, f_kt, l_kt_V2⟩ := f3 kt
 obtain ⟨c_kn, f_kn, l_kn_V2⟩ := f3 kn
 refine wp_region_noPanic ?_
 refine wp_region_held_drew (S := fun v => (v.cell? ⟨tb, 0, none⟩ = V2.cell? ⟨tb, 0, none⟩) ∧ (∀ o, v.cell? ⟨W1.heap.size, o, none⟩ = V2.cell? ⟨W1.heap.size, o, none⟩) ∧ (V2.heap.size ≤ v.heap.size) ∧ True) (by kernel_rfl) ⟨rfl, (fun _ => rfl), (Nat.le_refl _), trivial⟩ (fun hHeld => ?_)
 generalize hV_V2d : V2.drew = V2d at hHeld ⊢
 have d_kt := dK hV_V2d kt
 have d_kn := dK hV_V2d kn
 clear c_kt f_kt c_kn f_kn
 replace hA := hA.drew; rw [hV_V2d] at hA
 replace hF := hF.drew; rw [hV_V2d] at hF
 have z_V2d := dZ hV_V2d
 have v_kt := cells_of kt
 have v_kn := cells_of kn
 clear kt; have kt := d_kt; clear d_kt
 clear kn; have kn := d_kn; clear d_kn
 obtain ⟨c_kt, f_kt, l_kt_V2d⟩ := f3 kt
 obtain ⟨c_kn, f_kn, l_kn_V2d⟩ := f3 kn
 clear hV_V2d
 refine tz 0 rfl hHeld ?_
 try simp only [PT]
 refine tz 1 rfl hHeld ?_
 try simp only [PT]
 refine tz 2 rfl hHeld ?_
 try simp only [PT]
 refine tz 3 rfl hHeld ?_
 try simp only [PT]
 refine tz 4 rfl hHeld ?_
 try simp only [PT]
 refine tz 5 rfl hHeld ?_
 try simp only [PT]
 refine tz 6 rfl hHeld ?_
 try simp only [PT]
 refine tz 8 rfl hHeld ?_
 try simp only [PT]
 refine tz 9 rfl hHeld ?_
 try simp only [PT]
 refine tz 10 rfl hHeld ?_
 try simp only [PT]
 refine tz 11 rfl hHeld ?_
 try simp only [PT]
 refine rd 7 rfl fun K hK => ?_
 go_simp
 try simp only [IntWalk.i64_left]
 refine (ih.out t _ _ _ _ _ Hu.out ⟨hA, kt, o_kt⟩).mono ?_
 rintro e_W3 W3 ⟨rfl, O1, hT_W3, hf_W3⟩
 have q_kn := hf_W3.keep kn o_kn (by unfold oneX; omega)
 replace o_kn := hf_W3.not_own (lt_of kn) o_kn
 clear kn; have kn := q_kn; clear q_kn
 obtain ⟨c_kn, f_kn, l_kn_W3⟩ := f3 kn
 clear kt c_kt f_kt o_kt; have kt := hT_W3.blk; have o_kt := hT_W3.no
 obtain ⟨c_kt, f_kt, l_kt_W3⟩ := f3 kt
 replace hF := hF.trans hf_W3
 have z_W3 := hf_W3.size
 clear hA hf_W3; have hA := hT_W3.hA; clear hT_W3
 refine hK.out _ _ ⟨((c_kt 0).trans (v_kt 0).symm), (fun o => (c_kn o).trans (v_kn o).symm), (by omega), trivial⟩ (fun hHeld => ?_)
 clear hK K
 try simp only [PT]
 refine rd 12 rfl fun K hK => ?_
 go_simp
 try simp only [IntWalk.i64_left]
 refine (tKeep_calls (t := u.2) (t.s.get h).k1 _ ⟨hA, kt, o_kt⟩).mono ?_
 rintro e_W4 W4 ⟨rfl, O2, hT_W4, hf_W4⟩
 have q_kn := hf_W4.keep kn o_kn (by unfold oneX; omega)
 replace o_kn := hf_W4.not_own (lt_of kn) o_kn
 clear kn; have kn := q_kn; clear q_kn
 obtain ⟨c_kn, f_kn, l_kn_W4⟩ := f3 kn
 clear kt c_kt f_kt o_kt; have kt := hT_W4.blk; have o_kt := hT_W4.no
 obtain ⟨c_kt, f_kt, l_kt_W4⟩ := f3 kt
 replace hF := hF.trans hf_W4
 have z_W4 := hf_W4.size
 clear hA hf_W4; have hA := hT_W4.hA; clear hT_W4
 refine hK.out _ _ ⟨((c_kt 0).trans (v_kt 0).symm), (fun o => (c_kn o).trans (v_kn o).symm), (by omega), trivial⟩ (fun hHeld => ?_)
 clear hK K
 try simp only [PT]
 refine rd 13 rfl fun K hK => ?_
 go_simp
 try simp only [IntWalk.i64_left]
 refine (tFork_calls (t := u.2.keep (t.s.get h).k1) _ _ _ Hr.out _ ⟨hA, kt, o_kt⟩).mono ?_
 rintro e_W5 W5 ⟨rfl, O3, hT_W5, hf_W5⟩
 have q_kn := hf_W5.keep kn o_kn (by unfold oneX; omega)
 replace o_kn := hf_W5.not_own (lt_of kn) o_kn
 clear kn; have kn := q_kn; clear q_kn
 obtain ⟨c_kn, f_kn, l_kn_W5⟩ := f3 kn
 clear kt c_kt f_kt o_kt; have kt := hT_W5.blk; have o_kt := hT_W5.no
 obtain ⟨c_kt, f_kt, l_kt_W5⟩ := f3 kt
 replace hF := hF.trans hf_W5
 have z_W5 := hf_W5.size
 clear hA hf_W5; have hA := hT_W5.hA; clear hT_W5
 refine hK.out _ _ ⟨((c_kt 0).trans (v_kt 0).symm), (fun o => (c_kn o).trans (v_kn o).symm), (by omega), trivial⟩ (fun hHeld => ?_)
 clear hK K
 try simp only [PT]
 refine rd 14 rfl fun K hK => ?_
 go_simp
 refine hK.out _ _ hHeld (fun hHeld => ?_)
 clear hK K
 try simp only [PT]
 refine wpAnyH_done (by kernel_rfl) ?_ _
 refine NoPanic.normal ?_
 go_wp2_with fail
 go_ret
 exact ⟨rfl, O3, ⟨hA, kt, o_kt⟩, hF⟩
set_option maxHeartbeats 400000 in
theorem tInsert_calls (one : Bool) : ∀ (k : Nat) (t : Tb) (O : Nat → Prop) (h i : Int) (r : Int × Tb) (w : World), Tb.insert k t h i one = some r → TB w tb ap t O →
  Calls Tryz.prog 110 #[.pointer (some ⟨tb, 0, none⟩), .int .i64 h, .int .i64 i, .bool one] w fun e w' => e = .returned (.int .i64 r.1) ∧ DidT tb ap r.2 O w w'
 | 0, t, O, h, i, r, w, hr, hT => by cases hr
 | k + 1, t, O, h, i, r, w, hr, hT => by
  have ih := Lib.hid (tInsert_calls one k)
  unfold Tb.insert at hr
  cases h1 : bIs t.s h with
  | false => rw [h1, if_neg (by decide)] at hr; exact tIns_nil one k h i r w hT h1 hr
  | true =>
   rw [h1, if_pos rfl] at hr
   dsimp only at hr
   by_cases h2 : (t.s.get h).tag = 1
   ·
    have d1 : ((t.s.get h).tag == 1) = true := by simpa using h2
    have hU := hT.hA.1.get64 h
    rw [if_pos h2] at hr
    cases h3 : insOk (lfK (t.s.get h)) (lfB (t.s.get h)) i with
    | true => rw [h3, if_pos rfl] at hr; exact tIns_fits one k h i r w hT h1 d1 hU h3 hr
    | false =>
     rw [h3, if_neg (by decide)] at hr
     obtain ⟨l1, H1⟩ : ∃ l1, l1 = (lfL (t.s.get h).a (wrap64 (t.s.get h).b)).take 32 := ⟨_, rfl⟩
     obtain ⟨l2, H2⟩ : ∃ l2, l2 = (lfL (t.s.get h).a (wrap64 (t.s.get h).b)).drop 32 := ⟨_, rfl⟩
     have e1 : l1.length ≤ 64 := by rw [H1, List.length_take]; omega
     have e2 : l2.length ≤ 64 := by rw [H2, List.length_drop]; have := lfL_le (t.s.get h).a (wrap64 (t.s.get h).b); omega
     rw [show (lfB (t.s.get h)).take 32 = l1 from H1.symm, show (lfB (t.s.get h)).drop 32 = l2 from H2.symm] at hr
     by_cases h4 : i ≤ (l1.length : Int)
     ·
      rw [if_pos h4] at hr
      exact tIns_l one k h i r w hT h1 d1 hU h3 l1 l2 (Lib.hid H1) (Lib.hid H2) e1 e2 (by simpa using h4) hr
     ·
      rw [if_neg h4] at hr
      exact tIns_r one k h i r w hT h1 d1 hU h3 l1 l2 (Lib.hid H1) (Lib.hid H2) e1 e2 (by simpa using h4) hr
   ·
    have d1 : ((t.s.get h).tag == 1) = false := by simpa using h2
    rw [if_neg h2] at hr
    by_cases h5 : bLen t.s (t.s.get h).k0 < i
    ·
     rw [if_pos h5] at hr
     exact tIns_high one k h i r w hT ih h1 d1 (by simpa using h5) hr
    ·
     rw [if_neg h5] at hr
     exact tIns_low one k h i r w hT ih h1 d1 (by simpa using h5) hr
end Go.Proofs.YtdjpjmkpndmhaaaGreat
/- Rows of bits in an arena: a row with a bit more. -/
namespace Go.Proofs.YtdjpjmkpndmhaaaGreat
set_option linter.unusedSimpArgs false
set_option linter.unusedVariables false
set_option linter.unnecessarySimpa false
open Go.RowKit
attribute [local go_sem ↓] Go.wp_at_zero Go.wp_at_succ
attribute [local go_sem] lt_s2 lt_s3 lt_s4
variable {ap : Value} {O : Nat → Prop} {s : Ar}
theorem AP.ptr {w : World} (h : AP w ap s O) : ∃ q, ap = .pointer q := by
  rcases h.2 with ⟨h, _⟩ | ⟨p, _, _, _, _, h, _⟩
  · exact ⟨_, h⟩
  · exact ⟨_, h⟩
set_option maxRecDepth 100000 in
set_option maxHeartbeats 2000000 in
theorem bInsert_calls (h i : Int) (one : Bool) (r : Int × Int × Ar) (hr : bInsert s h i one = some r) (w : World) (hA : AP w ap s O) :
    Calls Tryz.prog 61 #[ap, .int .i64 h, .int .i64 i, .bool one] w fun e w' => e = .returned (.tuple #[.int .i64 r.1, .int .i64 r.2.1]) ∧ Did noX ap r.2.2 O w w' := by
  obtain ⟨q, rfl⟩ := hA.ptr
  unfold bInsert at hr
  by_cases h1 : i < 0
  · have d1 : decide (i < 0) = true := by simpa using h1
    rw [if_pos (.inl h1)] at hr
    obtain rfl := Option.some.inj hr
    clear hr h1
    go_enter Tryz.func61, Tryz.ntmps61
    go_wp2_with fail
    go_ret2
    exact ⟨rfl, O, hA, Fr.refl _ _ _⟩
  · have d1 : decide (i < 0) = false := by simpa using h1
    by_cases h2 : bLen s h < i
    · have d2 : decide (bLen s h < i) = true := by simpa using h2
      rw [if_pos (.inr h2)] at hr
      obtain rfl := Option.some.inj hr
      clear hr h1 h2
      go_enter Tryz.func61, Tryz.ntmps61
      go_wp2_with fail
      refine calls_gen fun V hV_V => ?_
      have hF : Fr (noX) O O w V := nF hV_V
      replace hA : AP V (.pointer q) s O := nA hV_V
      have z_V := zS hV_V
      clear hV_V
      refine (bLen_calls _ _ hA).mono ?_
      rintro e_W1 W1 ⟨rfl, hb_W1⟩
      replace hA := hA.below hb_W1
      replace hF := hF.below hb_W1
      have z_W1 := hb_W1.size
      clear hb_W1
      go_wp2_with fail
      go_ret2
      exact ⟨rfl, O, hA, hF⟩
    · have d2 : decide (bLen s h < i) = false := by simpa using h2
      rw [if_neg (by omega)] at hr
      obtain ⟨u, hu, rfl⟩ := Option.map_eq_some_iff.1 hr
      have Hu := Lib.hid hu
      clear hr hu h1 h2
      go_enter Tryz.func61, Tryz.ntmps61
      go_wp2_with fail
      refine calls_gen fun V hV_V => ?_
      have hF : Fr (noX) O O w V := nF hV_V
      replace hA : AP V (.pointer q) s O := nA hV_V
      have z_V := zS hV_V
      clear hV_V
      refine (bLen_calls _ _ hA).mono ?_
      rintro e_W1 W1 ⟨rfl, hb_W1⟩
      replace hA := hA.below hb_W1
      replace hF := hF.below hb_W1
      have z_W1 := hb_W1.size
      clear hb_W1
      go_wp2_with fail
      refine calls_gen fun V1 hV_V1 => ?_
      have n_kt := hbk hV_V1 (W1.heap.size)
      simp (maxDischargeDepth := 9) only [BK, not_false_eq_true, reduceCtorEq] at n_kt
      have o_kt : ¬ O (W1.heap.size) := by first | exact hA.new (Nat.le_refl _) | exact hA.new (by omega)
      replace hF : Fr (noX) O O w V1 := nF hV_V1
      replace hA : AP V1 (.pointer q) s O := nA hV_V1
      have z_V1 := zS hV_V1
      clear hV_V1
      have kt := n_kt; clear n_kt
      obtain ⟨c_kt, f_kt, l_kt_V1⟩ := f3 kt
      refine (tInsert_calls one rounds ⟨s, 0⟩ _ _ _ _ _ Hu.out ⟨hA, kt, o_kt⟩).mono ?_
      rintro e_W2 W2 ⟨rfl, O1, hT_W2, hf_W2⟩
      clear kt c_kt f_kt o_kt; have kt := hT_W2.blk; have o_kt := hT_W2.no
      obtain ⟨c_kt, f_kt, l_kt_W2⟩ := f3 kt
      replace hF := hF.trans_new hf_W2 (by omega)
      have z_W2 := hf_W2.size
      clear hA hf_W2; have hA := hT_W2.hA; clear hT_W2
      go_wp2_with fail
      refine calls_gen fun V2 hV_V2 => ?_
      replace kt := kK hV_V2 kt
      replace hF : Fr (noX) O O1 w V2 := nF hV_V2
      replace hA : AP V2 (.pointer q) (u.2).s O1 := nA hV_V2
      have z_V2 := zS hV_V2
      clear hV_V2 c_kt f_kt
      obtain ⟨c_kt, f_kt, l_kt_V2⟩ := f3 kt
      refine (tTold_calls (t := u.2) u.1 _ ⟨hA, kt, o_kt⟩).mono ?_
      rintro e_W3 W3 ⟨rfl, O2, hT_W3, hf_W3⟩
      clear kt c_kt f_kt o_kt; have kt := hT_W3.blk; have o_kt := hT_W3.no
      obtain ⟨c_kt, f_kt, l_kt_W3⟩ := f3 kt
      replace hF := hF.trans_new hf_W3 (by omega)
      have z_W3 := hf_W3.size
      clear hA hf_W3; have hA := hT_W3.hA; clear hT_W3
      go_wp2_with fail
      go_ret2
      refine ⟨rfl, O2, ?_, hF⟩
      have e : (Tb.told u).2.2 = u.2.s := by unfold Tb.told; split <;> rfl
      rw [e]; exact hA
end Go.Proofs.YtdjpjmkpndmhaaaGreat
/- Rows of symbols in an arena: a row with a symbol more. -/
namespace Go.Proofs.YtdjpjmkpndmhaaaGreat
set_option linter.unusedSimpArgs false
set_option linter.unusedVariables false
set_option linter.unnecessarySimpa false
open Go.RowKit
attribute [local go_sem ↓] Go.wp_at_zero Go.wp_at_succ
attribute [local go_sem] lt_s2 lt_s3 lt_s4
attribute [local go_sem] idx0 idx1 idx2 idx3
variable {ap : Value}
set_option maxRecDepth 100000 in
set_option maxHeartbeats 4000000 in
theorem wIns_step (d : Nat) (hd : d + 1 ≤ 9) (s : Ar) (O : Nat → Prop) (h i c l : Int) (hl : l = 9 - ((d + 1 : Nat) : Int)) (r : Int × Int × Ar) (w : World) (one : Bool) (ho : symBit c l = one) (j : Int) (hj : wAlike s (s.get h).k0 i one = some j)
    (u : Int × Int × Ar) (he : u.2.1 = 0) (v : Int × Int × Ar) (hv : bInsert (u.2.2.keep ((s.get h).kid !one)) (s.get h).k0 i one = some v) (hr : r = wMade v.2.2 ⟨3, v.1, if one then (s.get h).k1 else u.1, if one then u.1 else (s.get h).k2, 0, 0, 0⟩ v.2.1)
    (ih : Hid (∀ (l' : Int) (w : World), l' = wrap64 (l + 1) → AP w ap s O → Calls Tryz.prog 108 #[ap, .int .i64 ((s.get h).kid one), .int .i64 j, .int .i64 c, .int .i64 l'] w fun e w' => e = .returned (.tuple #[.int .i64 u.1, .int .i64 u.2.1]) ∧ Did noX ap u.2.2 O w w'))
    (hA : AP w ap s O) :
    Calls Tryz.prog 108 #[ap, .int .i64 h, .int .i64 i, .int .i64 c, .int .i64 l] w fun e w' => e = .returned (.tuple #[.int .i64 r.1, .int .i64 r.2.1]) ∧ Did noX ap r.2.2 O w w' := by
  have d1 : decide (8 < l) = false := by simp; omega
  have d2 : (u.2.1 != 0) = false := by simp [he]
  have Ho := Lib.hid ho; have Hj := Lib.hid hj; have Hv := Lib.hid hv; have Hr := Lib.hid hr
  have hl0 : 0 ≤ l := by omega
  have hl1 : l ≤ 8 := by omega
  have hz : U64 0 := ⟨by decide, by decide⟩
  clear ho hj hv hr he hl hd
  go_enter Tryz.func108, Tryz.ntmps108
  go_wp2_with fail
  refine calls_gen fun V hV_V => ?_
  have hF : Fr (noX) O O w V := nF hV_V
  replace hA : AP V ap s O := nA hV_V
  have z_V := zS hV_V
  clear hV_V
  refine (wRow_calls _ _ hA).mono ?_
  rintro e_W1 W1 ⟨rfl, hb_W1⟩
  replace hA := hA.below hb_W1
  replace hF := hF.below hb_W1
  have z_W1 := hb_W1.size
  clear hb_W1
  unfold Nd.val
  go_wp2_with fail
  refine calls_gen fun V1 hV_V1 => ?_
  have n_kn := hbk hV_V1 (W1.heap.size)
  simp (maxDischargeDepth := 9) only [BK, not_false_eq_true, reduceCtorEq] at n_kn
  have o_kn : ¬ O (W1.heap.size) := by first | exact hA.new (Nat.le_refl _) | exact hA.new (by omega)
  replace hF : Fr (noX) O O w V1 := nF hV_V1
  replace hA : AP V1 ap s O := nA hV_V1
  have z_V1 := zS hV_V1
  clear hV_V1
  have kn := n_kn; clear n_kn
  obtain ⟨c_kn, f_kn, l_kn_V1⟩ := f3 kn
  refine (symBit_calls _ _ _).mono ?_
  rintro e_q w_q ⟨rfl, rfl⟩
  rw [Ho.out]
  go_wp2_with fail
  refine wp_gen fun V2 hV_V2 => ?_
  have n_kx := hbk hV_V2 (V1.heap.size)
  simp (maxDischargeDepth := 9) only [BK, not_false_eq_true, reduceCtorEq, kn, l_kn_V1] at n_kx
  have o_kx : ¬ O (V1.heap.size) := by first | exact hA.new (Nat.le_refl _) | exact hA.new (by omega)
  replace kn := kK hV_V2 kn
  replace hF : Fr (noX) O O w V2 := nF hV_V2
  replace hA : AP V2 ap s O := nA hV_V2
  have z_V2 := zS hV_V2
  clear hV_V2 c_kn f_kn
  obtain ⟨c_kn, f_kn, l_kn_V2⟩ := f3 kn
  have kx := n_kx; clear n_kx
  obtain ⟨c_kx, f_kx, l_kx_V2⟩ := f3 kx
  refine wp_region_noPanic ?_
  refine wp_region_held_drew (S := fun v => (∀ o, v.cell? ⟨W1.heap.size, o, none⟩ = V2.cell? ⟨W1.heap.size, o, none⟩) ∧ (∀ o, v.cell? ⟨V1.heap.size, o, none⟩ = V2.cell? ⟨V1.heap.size, o, none⟩) ∧ (V2.heap.size ≤ v.heap.size) ∧ True) (by kernel_rfl) ⟨(fun _ => rfl), (fun _ => rfl), (Nat.le_refl _), trivial⟩ (fun hHeld => ?_)
  generalize hV_V2d : V2.drew = V2d at hHeld ⊢
  have d_kn := dK hV_V2d kn
  have d_kx := dK hV_V2d kx
  clear c_kn f_kn c_kx f_kx
  replace hA := hA.drew; rw [hV_V2d] at hA
  replace hF := hF.drew; rw [hV_V2d] at hF
  have z_V2d := dZ hV_V2d
  have v_kn := cells_of kn
  have v_kx := cells_of kx
  clear kn; have kn := d_kn; clear d_kn
  clear kx; have kx := d_kx; clear d_kx
  obtain ⟨c_kn, f_kn, l_kn_V2d⟩ := f3 kn
  obtain ⟨c_kx, f_kx, l_kx_V2d⟩ := f3 kx
  clear hV_V2d
  refine tz 0 rfl hHeld ?_
  try simp only [PT]
  refine tz 1 rfl hHeld ?_
  try simp only [PT]
  refine tz 2 rfl hHeld ?_
  try simp only [PT]
  refine tz 4 rfl hHeld ?_
  try simp only [PT]
  refine tz 5 rfl hHeld ?_
  try simp only [PT]
  refine tz 6 rfl hHeld ?_
  try simp only [PT]
  refine tz 7 rfl hHeld ?_
  try simp only [PT]
  refine tz 8 rfl hHeld ?_
  try simp only [PT]
  refine tz 9 rfl hHeld ?_
  try simp only [PT]
  refine tz 11 rfl hHeld ?_
  try simp only [PT]
  refine tz 12 rfl hHeld ?_
  try simp only [PT]
  refine tz 13 rfl hHeld ?_
  try simp only [PT]
  refine rd 3 rfl fun K hK => ?_
  go_simp
  try simp only [IntWalk.i64_left]
  refine (wKid_calls (s.get h) one _).mono ?_
  rintro e_W2 W2 ⟨rfl, hb_W2⟩
  replace hA := hA.below hb_W2
  replace hF := hF.below hb_W2
  replace kn := keep_blk hb_W2 kn
  replace kx := keep_blk hb_W2 kx
  have z_W2 := hb_W2.size
  clear hb_W2 c_kn f_kn c_kx f_kx
  obtain ⟨c_kn, f_kn, l_kn_W2⟩ := f3 kn
  obtain ⟨c_kx, f_kx, l_kx_W2⟩ := f3 kx
  refine hK.out _ _ ⟨(fun o => (c_kn o).trans (v_kn o).symm), (fun o => (c_kx o).trans (v_kx o).symm), (by omega), trivial⟩ (fun hHeld => ?_)
  clear hK K
  try simp only [PT]
  refine rd 10 rfl fun K hK => ?_
  go_simp
  try simp only [IntWalk.i64_left]
  refine (wAlike_calls _ _ _ _ Hj.out _ hA).mono ?_
  rintro e_W3 W3 ⟨rfl, hb_W3⟩
  replace hA := hA.below hb_W3
  replace hF := hF.below hb_W3
  replace kn := keep_blk hb_W3 kn
  replace kx := keep_blk hb_W3 kx
  have z_W3 := hb_W3.size
  clear hb_W3 c_kn f_kn c_kx f_kx
  obtain ⟨c_kn, f_kn, l_kn_W3⟩ := f3 kn
  obtain ⟨c_kx, f_kx, l_kx_W3⟩ := f3 kx
  refine hK.out _ _ ⟨(fun o => (c_kn o).trans (v_kn o).symm), (fun o => (c_kx o).trans (v_kx o).symm), (by omega), trivial⟩ (fun hHeld => ?_)
  clear hK K
  try simp only [PT]
  refine rd 14 rfl fun K hK => ?_
  go_simp
  try simp only [IntWalk.i64_left]
  refine (ih.out _ _ rfl hA).mono ?_
  rintro e_W4 W4 ⟨rfl, O1, hA_W4, hf_W4⟩
  have q_kn := hf_W4.keep kn o_kn (fun h => h)
  have q_kx := hf_W4.keep kx o_kx (fun h => h)
  replace o_kn := hf_W4.not_own (lt_of kn) o_kn
  clear kn c_kn f_kn; have kn := q_kn; clear q_kn
  obtain ⟨c_kn, f_kn, l_kn_W4⟩ := f3 kn
  replace o_kx := hf_W4.not_own (lt_of kx) o_kx
  clear kx c_kx f_kx; have kx := q_kx; clear q_kx
  obtain ⟨c_kx, f_kx, l_kx_W4⟩ := f3 kx
  replace hF := hF.trans hf_W4.widen
  have z_W4 := hf_W4.size
  clear hA hf_W4; have hA := hA_W4; clear hA_W4
  refine hK.out _ _ ⟨(fun o => (c_kn o).trans (v_kn o).symm), (fun o => (c_kx o).trans (v_kx o).symm), (by omega), trivial⟩ (fun hHeld => ?_)
  clear hK K
  try simp only [PT]
  refine tz 15 rfl hHeld ?_
  try simp only [PT]
  refine tz 16 rfl hHeld ?_
  try simp only [PT]
  refine tz 17 rfl hHeld ?_
  try simp only [PT]
  refine rd 18 rfl fun K hK => ?_
  go_simp
  refine hK.out _ _ hHeld (fun hHeld => ?_)
  clear hK K
  try simp only [PT]
  refine rd 19 rfl fun K hK => ?_
  go_simp
  refine hK.out _ _ hHeld (fun hHeld => ?_)
  clear hK K
  try simp only [PT]
  refine wpAnyH_done (by kernel_rfl) ?_ _
  refine NoPanic.normal ?_
  cases one with
  | true =>
    go_wp2_with fail
    refine calls_gen fun V5 hV_V5 => ?_
    replace kn := kK hV_V5 kn
    replace kx := kK hV_V5 kx
    replace hF : Fr (noX) O O1 w V5 := nF hV_V5
    replace hA : AP V5 ap u.2.2 O1 := nA hV_V5
    have z_V5 := zS hV_V5
    clear hV_V5 c_kn f_kn c_kx f_kx
    obtain ⟨c_kn, f_kn, l_kn_V5⟩ := f3 kn
    obtain ⟨c_kx, f_kx, l_kx_V5⟩ := f3 kx
    refine (wKid_calls (⟨3, 0, (s.get h).k1, u.1, 0, 0, 0⟩) false _).mono ?_
    rintro e_W5 W5 ⟨rfl, hb_W5⟩
    replace hA := hA.below hb_W5
    replace hF := hF.below hb_W5
    replace kn := keep_blk hb_W5 kn
    replace kx := keep_blk hb_W5 kx
    have z_W5 := hb_W5.size
    clear hb_W5 c_kn f_kn c_kx f_kx
    obtain ⟨c_kn, f_kn, l_kn_W5⟩ := f3 kn
    obtain ⟨c_kx, f_kx, l_kx_W5⟩ := f3 kx
    go_wp2_with fail
    refine calls_gen fun V6 hV_V6 => ?_
    replace kn := kK hV_V6 kn
    replace kx := kK hV_V6 kx
    replace hF : Fr (noX) O O1 w V6 := nF hV_V6
    replace hA : AP V6 ap u.2.2 O1 := nA hV_V6
    have z_V6 := zS hV_V6
    clear hV_V6 c_kn f_kn c_kx f_kx
    obtain ⟨c_kn, f_kn, l_kn_V6⟩ := f3 kn
    obtain ⟨c_kx, f_kx, l_kx_V6⟩ := f3 kx
    refine (keep_calls ((s.get h).kid !true) _ hA).mono ?_
    rintro e_W6 W6 ⟨rfl, O2, hA_W6, hf_W6⟩
    have q_kn := hf_W6.keep kn o_kn (fun h => h)
    have q_kx := hf_W6.keep kx o_kx (fun h => h)
    replace o_kn := hf_W6.not_own (lt_of kn) o_kn
    clear kn c_kn f_kn; have kn := q_kn; clear q_kn
    obtain ⟨c_kn, f_kn, l_kn_W6⟩ := f3 kn
    replace o_kx := hf_W6.not_own (lt_of kx) o_kx
    clear kx c_kx f_kx; have kx := q_kx; clear q_kx
    obtain ⟨c_kx, f_kx, l_kx_W6⟩ := f3 kx
    replace hF := hF.trans hf_W6.widen
    have z_W6 := hf_W6.size
    clear hA hf_W6; have hA := hA_W6; clear hA_W6
    go_wp2_with fail
    refine calls_gen fun V7 hV_V7 => ?_
    replace kn := kK hV_V7 kn
    replace kx := kK hV_V7 kx
    replace hF : Fr (noX) O O2 w V7 := nF hV_V7
    replace hA : AP V7 ap (u.2.2.keep ((s.get h).kid !true)) O2 := nA hV_V7
    have z_V7 := zS hV_V7
    clear hV_V7 c_kn f_kn c_kx f_kx
    obtain ⟨c_kn, f_kn, l_kn_V7⟩ := f3 kn
    obtain ⟨c_kx, f_kx, l_kx_V7⟩ := f3 kx
    refine (bInsert_calls _ _ _ _ Hv.out _ hA).mono ?_
    rintro e_W7 W7 ⟨rfl, O3, hA_W7, hf_W7⟩
    have q_kn := hf_W7.keep kn o_kn (fun h => h)
    have q_kx := hf_W7.keep kx o_kx (fun h => h)
    replace o_kn := hf_W7.not_own (lt_of kn) o_kn
    clear kn c_kn f_kn; have kn := q_kn; clear q_kn
    obtain ⟨c_kn, f_kn, l_kn_W7⟩ := f3 kn
    replace o_kx := hf_W7.not_own (lt_of kx) o_kx
    clear kx c_kx f_kx; have kx := q_kx; clear q_kx
    obtain ⟨c_kx, f_kx, l_kx_W7⟩ := f3 kx
    replace hF := hF.trans hf_W7.widen
    have z_W7 := hf_W7.size
    clear hA hf_W7; have hA := hA_W7; clear hA_W7
    go_wp2_with fail
    refine calls_gen fun V8 hV_V8 => ?_
    replace kn := kK hV_V8 kn
    replace kx := kK hV_V8 kx
    replace hF : Fr (noX) O O3 w V8 := nF hV_V8
    replace hA : AP V8 ap v.2.2 O3 := nA hV_V8
    have z_V8 := zS hV_V8
    clear hV_V8 c_kn f_kn c_kx f_kx
    obtain ⟨c_kn, f_kn, l_kn_V8⟩ := f3 kn
    obtain ⟨c_kx, f_kx, l_kx_V8⟩ := f3 kx
    refine (wMade_calls (⟨3, v.1, (s.get h).k1, u.1, 0, 0, 0⟩) hz v.2.1 _ hA).mono ?_
    rintro e_W8 W8 ⟨rfl, O4, hA_W8, hf_W8⟩
    have q_kn := hf_W8.keep kn o_kn (fun h => h)
    have q_kx := hf_W8.keep kx o_kx (fun h => h)
    replace o_kn := hf_W8.not_own (lt_of kn) o_kn
    clear kn c_kn f_kn; have kn := q_kn; clear q_kn
    obtain ⟨c_kn, f_kn, l_kn_W8⟩ := f3 kn
    replace o_kx := hf_W8.not_own (lt_of kx) o_kx
    clear kx c_kx f_kx; have kx := q_kx; clear q_kx
    obtain ⟨c_kx, f_kx, l_kx_W8⟩ := f3 kx
    replace hF := hF.trans hf_W8.widen
    have z_W8 := hf_W8.size
    clear hA hf_W8; have hA := hA_W8; clear hA_W8
    go_wp2_with fail
    go_ret2
    rw [Hr.out]
    exact ⟨rfl, O4, hA, hF⟩
  | false =>
    go_wp2_with fail
    refine wp_gen fun V5 hV_V5 => ?_
    replace kn := kK hV_V5 kn
    replace kx := kK hV_V5 kx
    replace hF : Fr (noX) O O1 w V5 := nF hV_V5
    replace hA : AP V5 ap u.2.2 O1 := nA hV_V5
    have z_V5 := zS hV_V5
    clear hV_V5 c_kn f_kn c_kx f_kx
    obtain ⟨c_kn, f_kn, l_kn_V5⟩ := f3 kn
    obtain ⟨c_kx, f_kx, l_kx_V5⟩ := f3 kx
    refine wp_region_noPanic ?_
    refine wp_region_held_drew (S := fun v => (∀ o, v.cell? ⟨W1.heap.size, o, none⟩ = V5.cell? ⟨W1.heap.size, o, none⟩) ∧ (V5.heap.size ≤ v.heap.size) ∧ AP v ap u.2.2 O1) (by kernel_rfl) ⟨(fun _ => rfl), (Nat.le_refl _), hA.drew⟩ (fun hHeld => ?_)
    generalize hV_V5d : V5.drew = V5d at hHeld ⊢
    have d_kn := dK hV_V5d kn
    have d_kx := dK hV_V5d kx
    clear c_kn f_kn c_kx f_kx
    replace hA := hA.drew; rw [hV_V5d] at hA
    replace hF := hF.drew; rw [hV_V5d] at hF
    have z_V5d := dZ hV_V5d
    have v_kn := cells_of kn
    clear kn; have kn := d_kn; clear d_kn
    clear kx; have kx := d_kx; clear d_kx
    obtain ⟨c_kn, f_kn, l_kn_V5d⟩ := f3 kn
    obtain ⟨c_kx, f_kx, l_kx_V5d⟩ := f3 kx
    clear hV_V5d
    refine tz 0 rfl hHeld ?_
    try simp only [PT]
    refine tz 1 rfl hHeld ?_
    try simp only [PT]
    refine tz 2 rfl hHeld ?_
    try simp only [PT]
    refine tz 3 rfl hHeld ?_
    try simp only [PT]
    refine tz 4 rfl hHeld ?_
    try simp only [PT]
    refine tz 5 rfl hHeld ?_
    try simp only [PT]
    refine tz 7 rfl hHeld ?_
    try simp only [PT]
    refine rd 6 rfl fun K hK => ?_
    go_simp
    refine gen_app (K := K) (fun D1 hV_D1 => ?_)
    replace kn := kK hV_D1 kn
    replace kx := kK hV_D1 kx
    replace hF : Fr (noX) O O1 w D1 := nF hV_D1
    replace hA : AP D1 ap u.2.2 O1 := nA hV_D1
    have z_D1 := zS hV_D1
    clear hV_D1 c_kn f_kn c_kx f_kx
    obtain ⟨c_kn, f_kn, l_kn_D1⟩ := f3 kn
    obtain ⟨c_kx, f_kx, l_kx_D1⟩ := f3 kx
    refine hK.out _ _ ⟨(fun o => (c_kn o).trans (v_kn o).symm), (by omega), hA⟩ (fun hHeld => ?_)
    clear hK K
    try simp only [PT]
    refine tz 8 rfl hHeld ?_
    try simp only [PT]
    refine rd 9 rfl fun K hK => ?_
    go_simp
    refine gen_app (K := K) (fun D2 hV_D2 => ?_)
    replace kn := kK hV_D2 kn
    replace kx := kK hV_D2 kx
    replace hF : Fr (noX) O O1 w D2 := nF hV_D2
    replace hA : AP D2 ap u.2.2 O1 := nA hV_D2
    have z_D2 := zS hV_D2
    clear hV_D2 c_kn f_kn c_kx f_kx
    obtain ⟨c_kn, f_kn, l_kn_D2⟩ := f3 kn
    obtain ⟨c_kx, f_kx, l_kx_D2⟩ := f3 kx
    refine hK.out _ _ ⟨(fun o => (c_kn o).trans (v_kn o).symm), (by omega), hA⟩ (fun hHeld => ?_)
    clear hK K
    try simp only [PT]
    refine wpAnyH_done (by kernel_rfl) ?_ _
    refine NoPanic.normal ?_
    go_wp2_with fail
    refine calls_gen fun V6 hV_V6 => ?_
    replace kn := kK hV_V6 kn
    replace kx := kK hV_V6 kx
    replace hF : Fr (noX) O O1 w V6 := nF hV_V6
    replace hA : AP V6 ap u.2.2 O1 := nA hV_V6
    have z_V6 := zS hV_V6
    clear hV_V6 c_kn f_kn c_kx f_kx
    obtain ⟨c_kn, f_kn, l_kn_V6⟩ := f3 kn
    obtain ⟨c_kx, f_kx, l_kx_V6⟩ := f3 kx
    refine (wKid_calls (⟨3, 0, u.1, (s.get h).k2, 0, 0, 0⟩) true _).mono ?_
    rintro e_W5 W5 ⟨rfl, hb_W5⟩
    replace hA := hA.below hb_W5
    replace hF := hF.below hb_W5
    replace kn := keep_blk hb_W5 kn
    replace kx := keep_blk hb_W5 kx
    have z_W5 := hb_W5.size
    clear hb_W5 c_kn f_kn c_kx f_kx
    obtain ⟨c_kn, f_kn, l_kn_W5⟩ := f3 kn
    obtain ⟨c_kx, f_kx, l_kx_W5⟩ := f3 kx
    go_wp2_with fail
    refine calls_gen fun V7 hV_V7 => ?_
    replace kn := kK hV_V7 kn
    replace kx := kK hV_V7 kx
    replace hF : Fr (noX) O O1 w V7 := nF hV_V7
    replace hA : AP V7 ap u.2.2 O1 := nA hV_V7
    have z_V7 := zS hV_V7
    clear hV_V7 c_kn f_kn c_kx f_kx
    obtain ⟨c_kn, f_kn, l_kn_V7⟩ := f3 kn
    obtain ⟨c_kx, f_kx, l_kx_V7⟩ := f3 kx
    refine (keep_calls ((s.get h).kid !false) _ hA).mono ?_
    rintro e_W6 W6 ⟨rfl, O2, hA_W6, hf_W6⟩
    have q_kn := hf_W6.keep kn o_kn (fun h => h)
    have q_kx := hf_W6.keep kx o_kx (fun h => h)
    replace o_kn := hf_W6.not_own (lt_of kn) o_kn
    clear kn c_kn f_kn; have kn := q_kn; clear q_kn
    obtain ⟨c_kn, f_kn, l_kn_W6⟩ := f3 kn
    replace o_kx := hf_W6.not_own (lt_of kx) o_kx
    clear kx c_kx f_kx; have kx := q_kx; clear q_kx
    obtain ⟨c_kx, f_kx, l_kx_W6⟩ := f3 kx
    replace hF := hF.trans hf_W6.widen
    have z_W6 := hf_W6.size
    clear hA hf_W6; have hA := hA_W6; clear hA_W6
    go_wp2_with fail
    refine calls_gen fun V8 hV_V8 => ?_
    replace kn := kK hV_V8 kn
    replace kx := kK hV_V8 kx
    replace hF : Fr (noX) O O2 w V8 := nF hV_V8
    replace hA : AP V8 ap (u.2.2.keep ((s.get h).kid !false)) O2 := nA hV_V8
    have z_V8 := zS hV_V8
    clear hV_V8 c_kn f_kn c_kx f_kx
    obtain ⟨c_kn, f_kn, l_kn_V8⟩ := f3 kn
    obtain ⟨c_kx, f_kx, l_kx_V8⟩ := f3 kx
    refine (bInsert_calls _ _ _ _ Hv.out _ hA).mono ?_
    rintro e_W7 W7 ⟨rfl, O3, hA_W7, hf_W7⟩
    have q_kn := hf_W7.keep kn o_kn (fun h => h)
    have q_kx := hf_W7.keep kx o_kx (fun h => h)
    replace o_kn := hf_W7.not_own (lt_of kn) o_kn
    clear kn c_kn f_kn; have kn := q_kn; clear q_kn
    obtain ⟨c_kn, f_kn, l_kn_W7⟩ := f3 kn
    replace o_kx := hf_W7.not_own (lt_of kx) o_kx
    clear kx c_kx f_kx; have kx := q_kx; clear q_kx
    obtain ⟨c_kx, f_kx, l_kx_W7⟩ := f3 kx
    replace hF := hF.trans hf_W7.widen
    have z_W7 := hf_W7.size
    clear hA hf_W7; have hA := hA_W7; clear hA_W7
    go_wp2_with fail
    refine calls_gen fun V9 hV_V9 => ?_
    replace kn := kK hV_V9 kn
    replace kx := kK hV_V9 kx
    replace hF : Fr (noX) O O3 w V9 := nF hV_V9
    replace hA : AP V9 ap v.2.2 O3 := nA hV_V9
    have z_V9 := zS hV_V9
    clear hV_V9 c_kn f_kn c_kx f_kx
    obtain ⟨c_kn, f_kn, l_kn_V9⟩ := f3 kn
    obtain ⟨c_kx, f_kx, l_kx_V9⟩ := f3 kx
    refine (wMade_calls (⟨3, v.1, u.1, (s.get h).k2, 0, 0, 0⟩) hz v.2.1 _ hA).mono ?_
    rintro e_W8 W8 ⟨rfl, O4, hA_W8, hf_W8⟩
    have q_kn := hf_W8.keep kn o_kn (fun h => h)
    have q_kx := hf_W8.keep kx o_kx (fun h => h)
    replace o_kn := hf_W8.not_own (lt_of kn) o_kn
    clear kn c_kn f_kn; have kn := q_kn; clear q_kn
    obtain ⟨c_kn, f_kn, l_kn_W8⟩ := f3 kn
    replace o_kx := hf_W8.not_own (lt_of kx) o_kx
    clear kx c_kx f_kx; have kx := q_kx; clear q_kx
    obtain ⟨c_kx, f_kx, l_kx_W8⟩ := f3 kx
    replace hF := hF.trans hf_W8.widen
    have z_W8 := hf_W8.size
    clear hA hf_W8; have hA := hA_W8; clear hA_W8
    go_wp2_with fail
    go_ret2
    rw [Hr.out]
    exact ⟨rfl, O4, hA, hF⟩
set_option maxRecDepth 100000 in
set_option maxHeartbeats 4000000 in
theorem wIns_err (d : Nat) (hd : d + 1 ≤ 9) (s : Ar) (O : Nat → Prop) (h i c l : Int) (hl : l = 9 - ((d + 1 : Nat) : Int)) (r : Int × Int × Ar) (w : World) (one : Bool) (ho : symBit c l = one) (j : Int) (hj : wAlike s (s.get h).k0 i one = some j)
    (u : Int × Int × Ar) (he : ¬ u.2.1 = 0) (hr : r = (0, u.2.1, u.2.2))
    (ih : Hid (∀ (l' : Int) (w : World), l' = wrap64 (l + 1) → AP w ap s O → Calls Tryz.prog 108 #[ap, .int .i64 ((s.get h).kid one), .int .i64 j, .int .i64 c, .int .i64 l'] w fun e w' => e = .returned (.tuple #[.int .i64 u.1, .int .i64 u.2.1]) ∧ Did noX ap u.2.2 O w w'))
    (hA : AP w ap s O) :
    Calls Tryz.prog 108 #[ap, .int .i64 h, .int .i64 i, .int .i64 c, .int .i64 l] w fun e w' => e = .returned (.tuple #[.int .i64 r.1, .int .i64 r.2.1]) ∧ Did noX ap r.2.2 O w w' := by
  have d1 : decide (8 < l) = false := by simp; omega
  have d2 : (u.2.1 != 0) = true := by simp [he]
  have Ho := Lib.hid ho; have Hj := Lib.hid hj; have Hr := Lib.hid hr
  have hl0 : 0 ≤ l := by omega
  have hl1 : l ≤ 8 := by omega
  have hz : U64 0 := ⟨by decide, by decide⟩
  clear ho hj hr he hl hd
  go_enter Tryz.func108, Tryz.ntmps108
  go_wp2_with fail
  refine calls_gen fun V hV_V => ?_
  have hF : Fr (noX) O O w V := nF hV_V
  replace hA : AP V ap s O := nA hV_V
  have z_V := zS hV_V
  clear hV_V
  refine (wRow_calls _ _ hA).mono ?_
  rintro e_W1 W1 ⟨rfl, hb_W1⟩
  replace hA := hA.below hb_W1
  replace hF := hF.below hb_W1
  have z_W1 := hb_W1.size
  clear hb_W1
  unfold Nd.val
  go_wp2_with fail
  refine calls_gen fun V1 hV_V1 => ?_
  have n_kn := hbk hV_V1 (W1.heap.size)
  simp (maxDischargeDepth := 9) only [BK, not_false_eq_true, reduceCtorEq] at n_kn
  have o_kn : ¬ O (W1.heap.size) := by first | exact hA.new (Nat.le_refl _) | exact hA.new (by omega)
  replace hF : Fr (noX) O O w V1 := nF hV_V1
  replace hA : AP V1 ap s O := nA hV_V1
  have z_V1 := zS hV_V1
  clear hV_V1
  have kn := n_kn; clear n_kn
  obtain ⟨c_kn, f_kn, l_kn_V1⟩ := f3 kn
  refine (symBit_calls _ _ _).mono ?_
  rintro e_q w_q ⟨rfl, rfl⟩
  rw [Ho.out]
  go_wp2_with fail
  refine wp_gen fun V2 hV_V2 => ?_
  have n_kx := hbk hV_V2 (V1.heap.size)
  simp (maxDischargeDepth := 9) only [BK, not_false_eq_true, reduceCtorEq, kn, l_kn_V1] at n_kx
  have o_kx : ¬ O (V1.heap.size) := by first | exact hA.new (Nat.le_refl _) | exact hA.new (by omega)
  replace kn := kK hV_V2 kn
  replace hF : Fr (noX) O O w V2 := nF hV_V2
  replace hA : AP V2 ap s O := nA hV_V2
  have z_V2 := zS hV_V2
  clear hV_V2 c_kn f_kn
  obtain ⟨c_kn, f_kn, l_kn_V2⟩ := f3 kn
  have kx := n_kx; clear n_kx
  obtain ⟨c_kx, f_kx, l_kx_V2⟩ := f3 kx
  refine wp_region_noPanic ?_
  refine wp_region_held_drew (S := fun v => (∀ o, v.cell? ⟨W1.heap.size, o, none⟩ = V2.cell? ⟨W1.heap.size, o, none⟩) ∧ (∀ o, v.cell? ⟨V1.heap.size, o, none⟩ = V2.cell? ⟨V1.heap.size, o, none⟩) ∧ (V2.heap.size ≤ v.heap.size) ∧ True) (by kernel_rfl) ⟨(fun _ => rfl), (fun _ => rfl), (Nat.le_refl _), trivial⟩ (fun hHeld => ?_)
  generalize hV_V2d : V2.drew = V2d at hHeld ⊢
  have d_kn := dK hV_V2d kn
  have d_kx := dK hV_V2d kx
  clear c_kn f_kn c_kx f_kx
  replace hA := hA.drew; rw [hV_V2d] at hA
  replace hF := hF.drew; rw [hV_V2d] at hF
  have z_V2d := dZ hV_V2d
  have v_kn := cells_of kn
  have v_kx := cells_of kx
  clear kn; have kn := d_kn; clear d_kn
  clear kx; have kx := d_kx; clear d_kx
  obtain ⟨c_kn, f_kn, l_kn_V2d⟩ := f3 kn
  obtain ⟨c_kx, f_kx, l_kx_V2d⟩ := f3 kx
  clear hV_V2d
  refine tz 0 rfl hHeld ?_
  try simp only [PT]
  refine tz 1 rfl hHeld ?_
  try simp only [PT]
  refine tz 2 rfl hHeld ?_
  try simp only [PT]
  refine tz 4 rfl hHeld ?_
  try simp only [PT]
  refine tz 5 rfl hHeld ?_
  try simp only [PT]
  refine tz 6 rfl hHeld ?_
  try simp only [PT]
  refine tz 7 rfl hHeld ?_
  try simp only [PT]
  refine tz 8 rfl hHeld ?_
  try simp only [PT]
  refine tz 9 rfl hHeld ?_
  try simp only [PT]
  refine tz 11 rfl hHeld ?_
  try simp only [PT]
  refine tz 12 rfl hHeld ?_
  try simp only [PT]
  refine tz 13 rfl hHeld ?_
  try simp only [PT]
  refine rd 3 rfl fun K hK => ?_
  go_simp
  try simp only [IntWalk.i64_left]
  refine (wKid_calls (s.get h) one _).mono ?_
  rintro e_W2 W2 ⟨rfl, hb_W2⟩
  replace hA := hA.below hb_W2
  replace hF := hF.below hb_W2
  replace kn := keep_blk hb_W2 kn
  replace kx := keep_blk hb_W2 kx
  have z_W2 := hb_W2.size
  clear hb_W2 c_kn f_kn c_kx f_kx
  obtain ⟨c_kn, f_kn, l_kn_W2⟩ := f3 kn
  obtain ⟨c_kx, f_kx, l_kx_W2⟩ := f3 kx
  refine hK.out _ _ ⟨(fun o => (c_kn o).trans (v_kn o).symm), (fun o => (c_kx o).trans (v_kx o).symm), (by omega), trivial⟩ (fun hHeld => ?_)
  clear hK K
  try simp only [PT]
  refine rd 10 rfl fun K hK => ?_
  go_simp
  try simp only [IntWalk.i64_left]
  refine (wAlike_calls _ _ _ _ Hj.out _ hA).mono ?_
  rintro e_W3 W3 ⟨rfl, hb_W3⟩
  replace hA := hA.below hb_W3
  replace hF := hF.below hb_W3
  replace kn := keep_blk hb_W3 kn
  replace kx := keep_blk hb_W3 kx
  have z_W3 := hb_W3.size
  clear hb_W3 c_kn f_kn c_kx f_kx
  obtain ⟨c_kn, f_kn, l_kn_W3⟩ := f3 kn
  obtain ⟨c_kx, f_kx, l_kx_W3⟩ := f3 kx
  refine hK.out _ _ ⟨(fun o => (c_kn o).trans (v_kn o).symm), (fun o => (c_kx o).trans (v_kx o).symm), (by omega), trivial⟩ (fun hHeld => ?_)
  clear hK K
  try simp only [PT]
  refine rd 14 rfl fun K hK => ?_
  go_simp
  try simp only [IntWalk.i64_left]
  refine (ih.out _ _ rfl hA).mono ?_
  rintro e_W4 W4 ⟨rfl, O1, hA_W4, hf_W4⟩
  have q_kn := hf_W4.keep kn o_kn (fun h => h)
  have q_kx := hf_W4.keep kx o_kx (fun h => h)
  replace o_kn := hf_W4.not_own (lt_of kn) o_kn
  clear kn c_kn f_kn; have kn := q_kn; clear q_kn
  obtain ⟨c_kn, f_kn, l_kn_W4⟩ := f3 kn
  replace o_kx := hf_W4.not_own (lt_of kx) o_kx
  clear kx c_kx f_kx; have kx := q_kx; clear q_kx
  obtain ⟨c_kx, f_kx, l_kx_W4⟩ := f3 kx
  replace hF := hF.trans hf_W4.widen
  have z_W4 := hf_W4.size
  clear hA hf_W4; have hA := hA_W4; clear hA_W4
  refine hK.out _ _ ⟨(fun o => (c_kn o).trans (v_kn o).symm), (fun o => (c_kx o).trans (v_kx o).symm), (by omega), trivial⟩ (fun hHeld => ?_)
  clear hK K
  try simp only [PT]
  refine tz 15 rfl hHeld ?_
  try simp only [PT]
  refine tz 16 rfl hHeld ?_
  try simp only [PT]
  refine tz 17 rfl hHeld ?_
  try simp only [PT]
  refine rd 18 rfl fun K hK => ?_
  go_simp
  refine hK.out _ _ hHeld (fun hHeld => ?_)
  clear hK K
  try simp only [PT]
  refine rd 19 rfl fun K hK => ?_
  go_simp
  refine hK.out _ _ hHeld (fun hHeld => ?_)
  clear hK K
  try simp only [PT]
  refine wpAnyH_done (by kernel_rfl) ?_ _
  refine NoPanic.normal ?_
  go_wp2_with fail
  go_ret2
  rw [Hr.out]
  exact ⟨rfl, O1, hA, hF⟩
set_option maxRecDepth 100000 in
set_option maxHeartbeats 800000 in
theorem wIns_end (s : Ar) (O : Nat → Prop) (h i c : Int) (w : World) (hA : AP w ap s O) :
    Calls Tryz.prog 108 #[ap, .int .i64 h, .int .i64 i, .int .i64 c, .int .i64 9] w fun e w' => e = .returned (.tuple #[.int .i64 0, .int .i64 0]) ∧ Did noX ap s O w w' := by
  go_enter Tryz.func108, Tryz.ntmps108
  go_wp2_with fail
  go_ret2
  exact ⟨rfl, O, hA, Fr.refl _ _ _⟩
theorem wIns_calls : ∀ (d : Nat) (hd : d ≤ 9) (s : Ar) (O : Nat → Prop) (h i c l : Int) (hl : l = 9 - (d : Int)) (r : Int × Int × Ar) (hr : wInsertL d s h i c = some r) (w : World) (hA : AP w ap s O),
    Calls Tryz.prog 108 #[ap, .int .i64 h, .int .i64 i, .int .i64 c, .int .i64 l] w fun e w' => e = .returned (.tuple #[.int .i64 r.1, .int .i64 r.2.1]) ∧ Did noX ap r.2.2 O w w'
  | 0, hd, s, O, h, i, c, l, hl, r, hr, w, hA => by
    obtain rfl : l = 9 := by simpa using hl
    unfold wInsertL at hr
    obtain rfl := Option.some.inj hr
    exact wIns_end s O h i c w hA
  | d + 1, hd, s, O, h, i, c, l, hl, r, hr, w, hA => by
    unfold wInsertL at hr
    dsimp only at hr
    obtain ⟨j, hj, hr⟩ := Option.bind_eq_some_iff.1 hr
    obtain ⟨u, hu, hr⟩ := Option.bind_eq_some_iff.1 hr
    have hl' : l = 8 - (d : Int) := by omega
    have hw : wrap64 (l + 1) = 9 - (d : Int) := by rw [IntWalk.wrap64_in _ (by omega)]; omega
    have ih : Hid (∀ (l' : Int) (w : World), l' = wrap64 (l + 1) → AP w ap s O → Calls Tryz.prog 108 #[ap, .int .i64 ((s.get h).kid (symBit c l)), .int .i64 j, .int .i64 c, .int .i64 l'] w fun e w' => e = .returned (.tuple #[.int .i64 u.1, .int .i64 u.2.1]) ∧ Did noX ap u.2.2 O w w') := by
      refine Lib.hid fun l' w hl2 hA => ?_
      rw [hl'] at *
      exact wIns_calls d (by omega) s O _ j c l' (by rw [hl2, hw]) u hu w hA
    by_cases he : u.2.1 = 0
    · rw [if_pos he] at hr
      obtain ⟨v, hv, hr⟩ := Option.bind_eq_some_iff.1 hr
      have hr := (Option.some.inj hr).symm
      rw [← hl'] at hj hv hr
      exact wIns_step d hd s O h i c l hl r w _ rfl j hj u he v hv hr ih hA
    · rw [if_neg he] at hr
      have hr := (Option.some.inj hr).symm
      rw [← hl'] at hj
      exact wIns_err d hd s O h i c l hl r w _ rfl j hj u he hr ih hA
set_option maxRecDepth 100000 in
set_option maxHeartbeats 1600000 in
theorem wInsert_calls (s : Ar) (O : Nat → Prop) (h i x : Int) (r : Int × Int × Ar) (hr : wInsert s h i x = some r) (w : World) (hA : AP w ap s O) :
    Calls Tryz.prog 60 #[ap, .int .i64 h, .int .i64 i, .int .i64 x] w fun e w' => e = .returned (.tuple #[.int .i64 r.1, .int .i64 r.2.1]) ∧ Did noX ap r.2.2 O w w' := by
  unfold wInsert at hr
  cases h0 : wIs x with
  | false =>
    rw [h0, if_neg (by decide)] at hr
    obtain rfl := Option.some.inj hr
    clear hr
    go_enter Tryz.func60, Tryz.ntmps60
    go_wp2_with fail
    refine calls_gen fun V hV_V => ?_
    have hF : Fr (noX) O O w V := nF hV_V
    replace hA : AP V ap s O := nA hV_V
    have z_V := zS hV_V
    clear hV_V
    refine (wIs_calls _ _).mono ?_
    rintro e_q w_q ⟨rfl, rfl⟩
    rw [h0]
    go_wp2_with fail
    go_ret2
    exact ⟨rfl, O, hA, hF⟩
  | true =>
    rw [h0, if_pos rfl] at hr
    by_cases h1 : i < 0
    · have d1 : decide (i < 0) = true := by simpa using h1
      rw [if_pos (.inl h1)] at hr
      obtain rfl := Option.some.inj hr
      clear hr h1
      go_enter Tryz.func60, Tryz.ntmps60
      go_wp2_with fail
      refine calls_gen fun V hV_V => ?_
      have hF : Fr (noX) O O w V := nF hV_V
      replace hA : AP V ap s O := nA hV_V
      have z_V := zS hV_V
      clear hV_V
      refine (wIs_calls _ _).mono ?_
      rintro e_q w_q ⟨rfl, rfl⟩
      rw [h0]
      go_wp2_with fail
      go_ret2
      exact ⟨rfl, O, hA, hF⟩
    · have d1 : decide (i < 0) = false := by simpa using h1
      by_cases h2 : wLen s h < i
      · have d2 : decide (wLen s h < i) = true := by simpa using h2
        rw [if_pos (.inr h2)] at hr
        obtain rfl := Option.some.inj hr
        clear hr h1 h2
        go_enter Tryz.func60, Tryz.ntmps60
        go_wp2_with fail
        refine calls_gen fun V hV_V => ?_
        have hF : Fr (noX) O O w V := nF hV_V
        replace hA : AP V ap s O := nA hV_V
        have z_V := zS hV_V
        clear hV_V
        refine (wIs_calls _ _).mono ?_
        rintro e_q w_q ⟨rfl, rfl⟩
        rw [h0]
        go_wp2_with fail
        refine calls_gen fun V1 hV_V1 => ?_
        replace hF : Fr (noX) O O w V1 := nF hV_V1
        replace hA : AP V1 ap s O := nA hV_V1
        have z_V1 := zS hV_V1
        clear hV_V1
        refine (wLen_calls _ _ hA).mono ?_
        rintro e_W2 W2 ⟨rfl, hb_W2⟩
        replace hA := hA.below hb_W2
        replace hF := hF.below hb_W2
        have z_W2 := hb_W2.size
        clear hb_W2
        go_wp2_with fail
        go_ret2
        exact ⟨rfl, O, hA, hF⟩
      · have d2 : decide (wLen s h < i) = false := by simpa using h2
        rw [if_neg (by omega)] at hr
        have Hr := Lib.hid hr
        clear hr h1 h2
        go_enter Tryz.func60, Tryz.ntmps60
        go_wp2_with fail
        refine calls_gen fun V hV_V => ?_
        have hF : Fr (noX) O O w V := nF hV_V
        replace hA : AP V ap s O := nA hV_V
        have z_V := zS hV_V
        clear hV_V
        refine (wIs_calls _ _).mono ?_
        rintro e_q w_q ⟨rfl, rfl⟩
        rw [h0]
        go_wp2_with fail
        refine calls_gen fun V1 hV_V1 => ?_
        replace hF : Fr (noX) O O w V1 := nF hV_V1
        replace hA : AP V1 ap s O := nA hV_V1
        have z_V1 := zS hV_V1
        clear hV_V1
        refine (wLen_calls _ _ hA).mono ?_
        rintro e_W2 W2 ⟨rfl, hb_W2⟩
        replace hA := hA.below hb_W2
        replace hF := hF.below hb_W2
        have z_W2 := hb_W2.size
        clear hb_W2
        go_wp2_with fail
        refine calls_gen fun V2 hV_V2 => ?_
        replace hF : Fr (noX) O O w V2 := nF hV_V2
        replace hA : AP V2 ap s O := nA hV_V2
        have z_V2 := zS hV_V2
        clear hV_V2
        refine (wIns_calls 9 (by omega) s O _ _ _ _ (by rfl) _ Hr.out _ hA).mono ?_
        rintro e_W3 W3 ⟨rfl, O1, hA_W3, hf_W3⟩
        replace hF := hF.trans hf_W3.widen
        have z_W3 := hf_W3.size
        clear hA hf_W3; have hA := hA_W3; clear hA_W3
        go_wp2_with fail
        go_ret2
        exact ⟨rfl, O1, hA, hF⟩
end Go.Proofs.YtdjpjmkpndmhaaaGreat
/- The tree that makes nodes of lists: its small ways; a list's length. -/
namespace Go.Proofs.YtdjpjmkpndmhaaaGreat
set_option linter.unusedSimpArgs false
set_option linter.unusedVariables false
set_option linter.unnecessarySimpa false
open Go.RowKit
attribute [local go_sem ↓] Go.wp_at_zero Go.wp_at_succ
attribute [local go_sem] lt_s2 lt_s3 lt_s4
attribute [local go_sem] idx0 idx1 idx2 idx3
/-- The tree whose struct is block tb. -/
structure LB (w : World) (tb : Nat) (ap : Value) (t : Tb) (O : Nat → Prop) : Prop where
 hA : AP w ap t.s O
 blk : w.heap[tb]? = some (.cells #[ap, .int .i64 t.e] 145 (0, 0))
 no : ¬ O tb
/-- What a call on a tree leaves. -/
def DidL (tb : Nat) (ap : Value) (t' : Tb) (O : Nat → Prop) (w w' : World) : Prop := ∃ O', LB w' tb ap t' O' ∧ Fr (oneX tb) O O' w w'
variable {ap : Value} {O : Nat → Prop} {tb : Nat} {t : Tb} {s : Ar}
set_option maxRecDepth 100000 in
set_option maxHeartbeats 800000 in
theorem lLen_calls (h : Int) (w : World) (hA : AP w ap s O) :
  Calls Tryz.prog 33 #[ap, .int .i64 h] w fun e w' => e = .returned (.int .i64 (lLen s h)) ∧ Below w.heap.size w w' := by
 unfold lLen
 cases h1 : lIs s h with
 | false =>
  go_enter Tryz.func33, Tryz.ntmps33
  go_wp2_with fail
  refine calls_gen fun V hV_V => ?_
  have hB : Below w.heap.size w V := nB hV_V
  replace hA : AP V ap s O := nA hV_V
  have z_V := zS hV_V
  clear hV_V
  refine (lRow_calls _ _ hA).mono ?_
  rintro e_w1 w1 ⟨rfl, hb_w1⟩
  replace hA := hA.below hb_w1
  replace hB := below_step hB hb_w1
  have z_w1 := hb_w1.size
  clear hb_w1
  unfold Nd.val
  go_wp2_with fail
  go_ret
  exact ⟨rfl, by (repeat' first | with_reducible assumption | with_reducible exact Below.refl _ _ | with_reducible refine Below.alloc ?_ ?_ _ | with_reducible refine Below.setCell ?_ ?_ _ | with_reducible refine below_drewN ?_ _ | with_reducible refine Below.drew ?_ | exact Nat.le_refl _ | ((try dsimp only); omega) | (simp only [siz_alloc, siz_set]; omega))⟩
 | true =>
  rw [if_pos rfl]
  by_cases h2 : (s.get h).tag = 4
  ·
   have d1 : ((s.get h).tag == 4) = true := by simpa using h2
   rw [if_pos h2]
   clear h2
   go_enter Tryz.func33, Tryz.ntmps33
   go_wp2_with fail
   refine calls_gen fun V hV_V => ?_
   have hB : Below w.heap.size w V := nB hV_V
   replace hA : AP V ap s O := nA hV_V
   have z_V := zS hV_V
   clear hV_V
   refine (lRow_calls _ _ hA).mono ?_
   rintro e_w1 w1 ⟨rfl, hb_w1⟩
   replace hA := hA.below hb_w1
   replace hB := below_step hB hb_w1
   have z_w1 := hb_w1.size
   clear hb_w1
   unfold Nd.val
   go_wp2_with fail
   go_ret
   exact ⟨rfl, by (repeat' first | with_reducible assumption | with_reducible exact Below.refl _ _ | with_reducible refine Below.alloc ?_ ?_ _ | with_reducible refine Below.setCell ?_ ?_ _ | with_reducible refine below_drewN ?_ _ | with_reducible refine Below.drew ?_ | exact Nat.le_refl _ | ((try dsimp only); omega) | (simp only [siz_alloc, siz_set]; omega))⟩
  ·
   have d1 : ((s.get h).tag == 4) = false := by simpa using h2
   rw [if_neg h2]
   clear h2
   go_enter Tryz.func33, Tryz.ntmps33
   go_wp2_with fail
   refine calls_gen fun V hV_V => ?_
   have hB : Below w.heap.size w V := nB hV_V
   replace hA : AP V ap s O := nA hV_V
   have z_V := zS hV_V
   clear hV_V
   refine (lRow_calls _ _ hA).mono ?_
   rintro e_w1 w1 ⟨rfl, hb_w1⟩
   replace hA := hA.below hb_w1
   replace hB := below_step hB hb_w1
   have z_w1 := hb_w1.size
   clear hb_w1
   unfold Nd.val
   go_wp2_with fail
   go_ret
   exact ⟨rfl, by (repeat' first | with_reducible assumption | with_reducible exact Below.refl _ _ | with_reducible refine Below.alloc ?_ ?_ _ | with_reducible refine Below.setCell ?_ ?_ _ | with_reducible refine below_drewN ?_ _ | with_reducible refine Below.drew ?_ | exact Nat.le_refl _ | ((try dsimp only); omega) | (simp only [siz_alloc, siz_set]; omega))⟩
set_option maxRecDepth 100000 in
set_option maxHeartbeats 800000 in
theorem lKeep_calls (h : Int) (w : World) (hT : LB w tb ap t O) :
  Calls Tryz.prog 117 #[.pointer (some ⟨tb, 0, none⟩), .int .i64 h] w fun e w' => e = .returned (.int .i64 h) ∧ DidL tb ap (t.keep h) O w w' := by
 go_enter Tryz.func117, Tryz.ntmps117
 have hA := hT.hA
 have kt := hT.blk
 have o_kt := hT.no
 obtain ⟨c_kt, f_kt, l_kt_w⟩ := f3 kt
 go_wp2_with fail
 refine calls_gen fun V hV_V => ?_
 replace kt := kK hV_V kt
 have hF : Fr (oneX tb) O O w V := nF hV_V
 replace hA : AP V ap t.s O := nA hV_V
 have z_V := zS hV_V
 clear hV_V c_kt f_kt
 obtain ⟨c_kt, f_kt, l_kt_V⟩ := f3 kt
 refine (keep_calls _ _ hA).mono ?_
 rintro e_W W ⟨rfl, O1, hA_W, hf_W⟩
 have q_kt := hf_W.keep kt o_kt (fun h => h)
 replace o_kt := hf_W.not_own (lt_of kt) o_kt
 clear kt c_kt f_kt; have kt := q_kt; clear q_kt
 obtain ⟨c_kt, f_kt, l_kt_W⟩ := f3 kt
 replace hF := hF.trans hf_W.widen
 have z_W := hf_W.size
 clear hA hf_W; have hA := hA_W; clear hA_W
 go_wp2_with fail
 go_ret
 refine ⟨rfl, O1, ⟨hA, kt, o_kt⟩, hF⟩
set_option maxRecDepth 100000 in
set_option maxHeartbeats 1600000 in
theorem lNode_calls (n : Nd) (hn : U64 n.a) (w : World) (hT : LB w tb ap t O) :
  Calls Tryz.prog 147 #[.pointer (some ⟨tb, 0, none⟩), n.val] w fun e w' => e = .returned (.int .i64 (t.lnode n).1) ∧ DidL tb ap (t.lnode n).2 O w w' := by
 by_cases he : t.e = 0
 ·
  have d1 : (t.e == 0) = true := by simpa using he
  have e1 : Hid (t.lnode n = ((t.s.make n).1, ⟨((t.s.make n).2.2.drop n.k0).drop n.k1, (t.s.make n).2.1⟩)) := by
   show _ = _
   unfold Tb.lnode Tb.nodeD; rw [if_pos he]; rfl
  clear he
  unfold Nd.val
  go_enter Tryz.func147, Tryz.ntmps147
  have hA := hT.hA
  have kt := hT.blk
  have o_kt := hT.no
  obtain ⟨c_kt, f_kt, l_kt_w⟩ := f3 kt
  go_wp2_with fail
  refine wp_gen fun V hV_V => ?_
  have n_kn := hbk hV_V (w.heap.size)
  simp (maxDischargeDepth := 9) only [BK, not_false_eq_true, reduceCtorEq, kt, l_kt_w] at n_kn
  have o_kn : ¬ O (w.heap.size) := by first | exact hA.new (Nat.le_refl _) | exact hA.new (by omega)
  replace kt := kK hV_V kt
  have hF : Fr ((oneX tb)) O O w V := nF hV_V
  replace hA : AP V ap t.s O := nA hV_V
  have z_V := zS hV_V
  clear hV_V c_kt f_kt
  obtain ⟨c_kt, f_kt, l_kt_V⟩ := f3 kt
  have kn := n_kn; clear n_kn
  obtain ⟨c_kn, f_kn, l_kn_V⟩ := f3 kn
  refine wp_region_noPanic ?_
  refine wp_region_held_drew (S := fun v => (v.cell? ⟨tb, 0, none⟩ = V.cell? ⟨tb, 0, none⟩) ∧ (∀ o, v.cell? ⟨w.heap.size, o, none⟩ = V.cell? ⟨w.heap.size, o, none⟩) ∧ (V.heap.size ≤ v.heap.size) ∧ True) (by kernel_rfl) ⟨rfl, (fun _ => rfl), (Nat.le_refl _), trivial⟩ (fun hHeld => ?_)
  generalize hV_Vd : V.drew = Vd at hHeld ⊢
  have d_kt := dK hV_Vd kt
  have d_kn := dK hV_Vd kn
  clear c_kt f_kt c_kn f_kn
  replace hA := hA.drew; rw [hV_Vd] at hA
  replace hF := hF.drew; rw [hV_Vd] at hF
  have z_Vd := dZ hV_Vd
  have v_kt := cells_of kt
  have v_kn := cells_of kn
  clear kt; have kt := d_kt; clear d_kt
  clear kn; have kn := d_kn; clear d_kn
  obtain ⟨c_kt, f_kt, l_kt_Vd⟩ := f3 kt
  obtain ⟨c_kn, f_kn, l_kn_Vd⟩ := f3 kn
  clear hV_Vd
  refine tz 0 rfl hHeld ?_
  try simp only [PT]
  refine tz 1 rfl hHeld ?_
  try simp only [PT]
  refine tz 2 rfl hHeld ?_
  try simp only [PT]
  refine tz 3 rfl hHeld ?_
  try simp only [PT]
  refine tz 4 rfl hHeld ?_
  try simp only [PT]
  refine tz 5 rfl hHeld ?_
  try simp only [PT]
  refine rd 6 rfl fun K hK => ?_
  go_simp
  try simp only [IntWalk.i64_left]
  refine (make_calls n hn _ hA).mono ?_
  rintro e_W W ⟨rfl, O1, hA_W, hf_W⟩
  have q_kt := hf_W.keep kt o_kt (fun h => h)
  have q_kn := hf_W.keep kn o_kn (fun h => h)
  replace o_kt := hf_W.not_own (lt_of kt) o_kt
  clear kt c_kt f_kt; have kt := q_kt; clear q_kt
  obtain ⟨c_kt, f_kt, l_kt_W⟩ := f3 kt
  replace o_kn := hf_W.not_own (lt_of kn) o_kn
  clear kn c_kn f_kn; have kn := q_kn; clear q_kn
  obtain ⟨c_kn, f_kn, l_kn_W⟩ := f3 kn
  replace hF := hF.trans hf_W.widen
  have z_W := hf_W.size
  clear hA hf_W; have hA := hA_W; clear hA_W
  refine hK.out _ _ ⟨((c_kt 0).trans (v_kt 0).symm), (fun o => (c_kn o).trans (v_kn o).symm), (by omega), trivial⟩ (fun hHeld => ?_)
  clear hK K
  try simp only [PT]
  refine tz 7 rfl hHeld ?_
  try simp only [PT]
  refine tz 8 rfl hHeld ?_
  try simp only [PT]
  refine tz 9 rfl hHeld ?_
  try simp only [PT]
  refine rd 10 rfl fun K hK => ?_
  go_simp
  refine hK.out _ _ hHeld (fun hHeld => ?_)
  clear hK K
  try simp only [PT]
  refine tz 11 rfl hHeld ?_
  try simp only [PT]
  refine tz 12 rfl hHeld ?_
  try simp only [PT]
  refine rd 13 rfl fun K hK => ?_
  go_simp
  refine gen_app (K := K) (fun D hV_D => ?_)
  replace kt := kK hV_D kt
  replace kn := kK hV_D kn
  replace hF : Fr ((oneX tb)) O O1 w D := nF hV_D
  replace hA : AP D ap ((t.s.make n).2.2) O1 := nA hV_D
  have z_D := zS hV_D
  clear hV_D c_kt f_kt c_kn f_kn
  obtain ⟨c_kt, f_kt, l_kt_D⟩ := f3 kt
  obtain ⟨c_kn, f_kn, l_kn_D⟩ := f3 kn
  refine hK.out _ _ ⟨((c_kt 0).trans (v_kt 0).symm), (fun o => (c_kn o).trans (v_kn o).symm), (by omega), trivial⟩ (fun hHeld => ?_)
  clear hK K
  try simp only [PT]
  refine wpAnyH_done (by kernel_rfl) ?_ _
  refine NoPanic.normal ?_
  go_wp2_with fail
  refine wp_gen fun D1 hV_D1 => ?_
  replace kt := kK hV_D1 kt
  replace kn := kK hV_D1 kn
  replace hF : Fr ((oneX tb)) O O1 w D1 := nF hV_D1
  replace hA : AP D1 ap ((t.s.make n).2.2) O1 := nA hV_D1
  have z_D1 := zS hV_D1
  clear hV_D1 c_kt f_kt c_kn f_kn
  obtain ⟨c_kt, f_kt, l_kt_D1⟩ := f3 kt
  obtain ⟨c_kn, f_kn, l_kn_D1⟩ := f3 kn
  refine wp_region_noPanic ?_
  refine wp_region_held_drew (S := fun v => (∀ o, v.cell? ⟨tb, o, none⟩ = D1.cell? ⟨tb, o, none⟩) ∧ (∀ o, v.cell? ⟨w.heap.size, o, none⟩ = D1.cell? ⟨w.heap.size, o, none⟩) ∧ (D1.heap.size ≤ v.heap.size) ∧ True) (by kernel_rfl) ⟨(fun _ => rfl), (fun _ => rfl), (Nat.le_refl _), trivial⟩ (fun hHeld => ?_)
  generalize hV_D1d : D1.drew = D1d at hHeld ⊢
  have d_kt := dK hV_D1d kt
  have d_kn := dK hV_D1d kn
  clear c_kt f_kt c_kn f_kn
  replace hA := hA.drew; rw [hV_D1d] at hA
  replace hF := hF.drew; rw [hV_D1d] at hF
  have z_D1d := dZ hV_D1d
  have v_kt := cells_of kt
  have v_kn := cells_of kn
  clear kt; have kt := d_kt; clear d_kt
  clear kn; have kn := d_kn; clear d_kn
  obtain ⟨c_kt, f_kt, l_kt_D1d⟩ := f3 kt
  obtain ⟨c_kn, f_kn, l_kn_D1d⟩ := f3 kn
  clear hV_D1d
  refine tz 0 rfl hHeld ?_
  try simp only [PT]
  refine tz 1 rfl hHeld ?_
  try simp only [PT]
  refine tz 2 rfl hHeld ?_
  try simp only [PT]
  refine tz 3 rfl hHeld ?_
  try simp only [PT]
  refine tz 4 rfl hHeld ?_
  try simp only [PT]
  refine tz 5 rfl hHeld ?_
  try simp only [PT]
  refine tz 6 rfl hHeld ?_
  try simp only [PT]
  refine rd 7 rfl fun K hK => ?_
  go_simp
  try simp only [IntWalk.i64_left]
  refine (drop_calls _ _ hA).mono ?_
  rintro e_W2 W2 ⟨rfl, O2, hA_W2, hf_W2⟩
  have q_kt := hf_W2.keep kt o_kt (fun h => h)
  have q_kn := hf_W2.keep kn o_kn (fun h => h)
  replace o_kt := hf_W2.not_own (lt_of kt) o_kt
  clear kt c_kt f_kt; have kt := q_kt; clear q_kt
  obtain ⟨c_kt, f_kt, l_kt_W2⟩ := f3 kt
  replace o_kn := hf_W2.not_own (lt_of kn) o_kn
  clear kn c_kn f_kn; have kn := q_kn; clear q_kn
  obtain ⟨c_kn, f_kn, l_kn_W2⟩ := f3 kn
  replace hF := hF.trans hf_W2.widen
  have z_W2 := hf_W2.size
  clear hA hf_W2; have hA := hA_W2; clear hA_W2
  refine hK.out _ _ ⟨(fun o => (c_kt o).trans (v_kt o).symm), (fun o => (c_kn o).trans (v_kn o).symm), (by omega), trivial⟩ (fun hHeld => ?_)
  clear hK K
  try simp only [PT]
  refine wpAnyH_done (by kernel_rfl) ?_ _
  refine NoPanic.normal ?_
  go_wp2_with fail
  refine wp_gen fun D2 hV_D2 => ?_
  replace kt := kK hV_D2 kt
  replace kn := kK hV_D2 kn
  replace hF : Fr ((oneX tb)) O O2 w D2 := nF hV_D2
  replace hA : AP D2 ap (((t.s.make n).2.2).drop n.k0) O2 := nA hV_D2
  have z_D2 := zS hV_D2
  clear hV_D2 c_kt f_kt c_kn f_kn
  obtain ⟨c_kt, f_kt, l_kt_D2⟩ := f3 kt
  obtain ⟨c_kn, f_kn, l_kn_D2⟩ := f3 kn
  refine wp_region_noPanic ?_
  refine wp_region_held_drew (S := fun v => (∀ o, v.cell? ⟨tb, o, none⟩ = D2.cell? ⟨tb, o, none⟩) ∧ (∀ o, v.cell? ⟨w.heap.size, o, none⟩ = D2.cell? ⟨w.heap.size, o, none⟩) ∧ (D2.heap.size ≤ v.heap.size) ∧ True) (by kernel_rfl) ⟨(fun _ => rfl), (fun _ => rfl), (Nat.le_refl _), trivial⟩ (fun hHeld => ?_)
  generalize hV_D2d : D2.drew = D2d at hHeld ⊢
  have d_kt := dK hV_D2d kt
  have d_kn := dK hV_D2d kn
  clear c_kt f_kt c_kn f_kn
  replace hA := hA.drew; rw [hV_D2d] at hA
  replace hF := hF.drew; rw [hV_D2d] at hF
  have z_D2d := dZ hV_D2d
  have v_kt := cells_of kt
  have v_kn := cells_of kn
  clear kt; have kt := d_kt; clear d_kt
  clear kn; have kn := d_kn; clear d_kn
  obtain ⟨c_kt, f_kt, l_kt_D2d⟩ := f3 kt
  obtain ⟨c_kn, f_kn, l_kn_D2d⟩ := f3 kn
  clear hV_D2d
  refine tz 0 rfl hHeld ?_
  try simp only [PT]
  refine tz 1 rfl hHeld ?_
  try simp only [PT]
  refine tz 2 rfl hHeld ?_
  try simp only [PT]
  refine tz 3 rfl hHeld ?_
  try simp only [PT]
  refine tz 4 rfl hHeld ?_
  try simp only [PT]
  refine tz 5 rfl hHeld ?_
  try simp only [PT]
  refine tz 6 rfl hHeld ?_
  try simp only [PT]
  refine rd 7 rfl fun K hK => ?_
  go_simp
  try simp only [IntWalk.i64_left]
  refine (drop_calls _ _ hA).mono ?_
  rintro e_W3 W3 ⟨rfl, O3, hA_W3, hf_W3⟩
  have q_kt := hf_W3.keep kt o_kt (fun h => h)
  have q_kn := hf_W3.keep kn o_kn (fun h => h)
  replace o_kt := hf_W3.not_own (lt_of kt) o_kt
  clear kt c_kt f_kt; have kt := q_kt; clear q_kt
  obtain ⟨c_kt, f_kt, l_kt_W3⟩ := f3 kt
  replace o_kn := hf_W3.not_own (lt_of kn) o_kn
  clear kn c_kn f_kn; have kn := q_kn; clear q_kn
  obtain ⟨c_kn, f_kn, l_kn_W3⟩ := f3 kn
  replace hF := hF.trans hf_W3.widen
  have z_W3 := hf_W3.size
  clear hA hf_W3; have hA := hA_W3; clear hA_W3
  refine hK.out _ _ ⟨(fun o => (c_kt o).trans (v_kt o).symm), (fun o => (c_kn o).trans (v_kn o).symm), (by omega), trivial⟩ (fun hHeld => ?_)
  clear hK K
  try simp only [PT]
  refine wpAnyH_done (by kernel_rfl) ?_ _
  refine NoPanic.normal ?_
  go_wp2_with fail
  go_ret
  refine ⟨by rw [e1.out]; rfl, ?_⟩
  rw [e1.out]
  exact ⟨O3, ⟨hA, kt, o_kt⟩, hF⟩
 ·
  have d1 : (t.e == 0) = false := by simpa using he
  have e1 : Hid (t.lnode n = (0, ⟨(t.s.drop n.k0).drop n.k1, t.e⟩)) := by
   show _ = _
   unfold Tb.lnode Tb.nodeD; rw [if_neg he]; rfl
  clear he
  unfold Nd.val
  go_enter Tryz.func147, Tryz.ntmps147
  have hA := hT.hA
  have kt := hT.blk
  have o_kt := hT.no
  obtain ⟨c_kt, f_kt, l_kt_w⟩ := f3 kt
  go_wp2_with fail
  refine wp_gen fun D1 hV_D1 => ?_
  have n_kn := hbk hV_D1 (w.heap.size)
  simp (maxDischargeDepth := 9) only [BK, not_false_eq_true, reduceCtorEq, kt, l_kt_w] at n_kn
  have o_kn : ¬ O (w.heap.size) := by first | exact hA.new (Nat.le_refl _) | exact hA.new (by omega)
  replace kt := kK hV_D1 kt
  have hF : Fr ((oneX tb)) O O w D1 := nF hV_D1
  replace hA : AP D1 ap t.s O := nA hV_D1
  have z_D1 := zS hV_D1
  clear hV_D1 c_kt f_kt
  obtain ⟨c_kt, f_kt, l_kt_D1⟩ := f3 kt
  have kn := n_kn; clear n_kn
  obtain ⟨c_kn, f_kn, l_kn_D1⟩ := f3 kn
  refine wp_region_noPanic ?_
  refine wp_region_held_drew (S := fun v => (∀ o, v.cell? ⟨tb, o, none⟩ = D1.cell? ⟨tb, o, none⟩) ∧ (∀ o, v.cell? ⟨w.heap.size, o, none⟩ = D1.cell? ⟨w.heap.size, o, none⟩) ∧ (D1.heap.size ≤ v.heap.size) ∧ True) (by kernel_rfl) ⟨(fun _ => rfl), (fun _ => rfl), (Nat.le_refl _), trivial⟩ (fun hHeld => ?_)
  generalize hV_D1d : D1.drew = D1d at hHeld ⊢
  have d_kt := dK hV_D1d kt
  have d_kn := dK hV_D1d kn
  clear c_kt f_kt c_kn f_kn
  replace hA := hA.drew; rw [hV_D1d] at hA
  replace hF := hF.drew; rw [hV_D1d] at hF
  have z_D1d := dZ hV_D1d
  have v_kt := cells_of kt
  have v_kn := cells_of kn
  clear kt; have kt := d_kt; clear d_kt
  clear kn; have kn := d_kn; clear d_kn
  obtain ⟨c_kt, f_kt, l_kt_D1d⟩ := f3 kt
  obtain ⟨c_kn, f_kn, l_kn_D1d⟩ := f3 kn
  clear hV_D1d
  refine tz 0 rfl hHeld ?_
  try simp only [PT]
  refine tz 1 rfl hHeld ?_
  try simp only [PT]
  refine tz 2 rfl hHeld ?_
  try simp only [PT]
  refine tz 3 rfl hHeld ?_
  try simp only [PT]
  refine tz 4 rfl hHeld ?_
  try simp only [PT]
  refine tz 5 rfl hHeld ?_
  try simp only [PT]
  refine tz 6 rfl hHeld ?_
  try simp only [PT]
  refine rd 7 rfl fun K hK => ?_
  go_simp
  try simp only [IntWalk.i64_left]
  refine (drop_calls _ _ hA).mono ?_
  rintro e_W2 W2 ⟨rfl, O2, hA_W2, hf_W2⟩
  have q_kt := hf_W2.keep kt o_kt (fun h => h)
  have q_kn := hf_W2.keep kn o_kn (fun h => h)
  replace o_kt := hf_W2.not_own (lt_of kt) o_kt
  clear kt c_kt f_kt; have kt := q_kt; clear q_kt
  obtain ⟨c_kt, f_kt, l_kt_W2⟩ := f3 kt
  replace o_kn := hf_W2.not_own (lt_of kn) o_kn
  clear kn c_kn f_kn; have kn := q_kn; clear q_kn
  obtain ⟨c_kn, f_kn, l_kn_W2⟩ := f3 kn
  replace hF := hF.trans hf_W2.widen
  have z_W2 := hf_W2.size
  clear hA hf_W2; have hA := hA_W2; clear hA_W2
  refine hK.out _ _ ⟨(fun o => (c_kt o).trans (v_kt o).symm), (fun o => (c_kn o).trans (v_kn o).symm), (by omega), trivial⟩ (fun hHeld => ?_)
  clear hK K
  try simp only [PT]
  refine wpAnyH_done (by kernel_rfl) ?_ _
  refine NoPanic.normal ?_
  go_wp2_with fail
  refine wp_gen fun D2 hV_D2 => ?_
  replace kt := kK hV_D2 kt
  replace kn := kK hV_D2 kn
  replace hF : Fr ((oneX tb)) O O2 w D2 := nF hV_D2
  replace hA : AP D2 ap (t.s.drop n.k0) O2 := nA hV_D2
  have z_D2 := zS hV_D2
  clear hV_D2 c_kt f_kt c_kn f_kn
  obtain ⟨c_kt, f_kt, l_kt_D2⟩ := f3 kt
  obtain ⟨c_kn, f_kn, l_kn_D2⟩ := f3 kn
  refine wp_region_noPanic ?_
  refine wp_region_held_drew (S := fun v => (∀ o, v.cell? ⟨tb, o, none⟩ = D2.cell? ⟨tb, o, none⟩) ∧ (∀ o, v.cell? ⟨w.heap.size, o, none⟩ = D2.cell? ⟨w.heap.size, o, none⟩) ∧ (D2.heap.size ≤ v.heap.size) ∧ True) (by kernel_rfl) ⟨(fun _ => rfl), (fun _ => rfl), (Nat.le_refl _), trivial⟩ (fun hHeld => ?_)
  generalize hV_D2d : D2.drew = D2d at hHeld ⊢
  have d_kt := dK hV_D2d kt
  have d_kn := dK hV_D2d kn
  clear c_kt f_kt c_kn f_kn
  replace hA := hA.drew; rw [hV_D2d] at hA
  replace hF := hF.drew; rw [hV_D2d] at hF
  have z_D2d := dZ hV_D2d
  have v_kt := cells_of kt
  have v_kn := cells_of kn
  clear kt; have kt := d_kt; clear d_kt
  clear kn; have kn := d_kn; clear d_kn
  obtain ⟨c_kt, f_kt, l_kt_D2d⟩ := f3 kt
  obtain ⟨c_kn, f_kn, l_kn_D2d⟩ := f3 kn
  clear hV_D2d
  refine tz 0 rfl hHeld ?_
  try simp only [PT]
  refine tz 1 rfl hHeld ?_
  try simp only [PT]
  refine tz 2 rfl hHeld ?_
  try simp only [PT]
  refine tz 3 rfl hHeld ?_
  try simp only [PT]
  refine tz 4 rfl hHeld ?_
  try simp only [PT]
  refine tz 5 rfl hHeld ?_
  try simp only [PT]
  refine tz 6 rfl hHeld ?_
  try simp only [PT]
  refine rd 7 rfl fun K hK => ?_
  go_simp
  try simp only [IntWalk.i64_left]
  refine (drop_calls _ _ hA).mono ?_
  rintro e_W3 W3 ⟨rfl, O3, hA_W3, hf_W3⟩
  have q_kt := hf_W3.keep kt o_kt (fun h => h)
  have q_kn := hf_W3.keep kn o_kn (fun h => h)
  replace o_kt := hf_W3.not_own (lt_of kt) o_kt
  clear kt c_kt f_kt; have kt := q_kt; clear q_kt
  obtain ⟨c_kt, f_kt, l_kt_W3⟩ := f3 kt
  replace o_kn := hf_W3.not_own (lt_of kn) o_kn
  clear kn c_kn f_kn; have kn := q_kn; clear q_kn
  obtain ⟨c_kn, f_kn, l_kn_W3⟩ := f3 kn
  replace hF := hF.trans hf_W3.widen
  have z_W3 := hf_W3.size
  clear hA hf_W3; have hA := hA_W3; clear hA_W3
  refine hK.out _ _ ⟨(fun o => (c_kt o).trans (v_kt o).symm), (fun o => (c_kn o).trans (v_kn o).symm), (by omega), trivial⟩ (fun hHeld => ?_)
  clear hK K
  try simp only [PT]
  refine wpAnyH_done (by kernel_rfl) ?_ _
  refine NoPanic.normal ?_
  go_wp2_with fail
  go_ret
  refine ⟨by rw [e1.out]; rfl, ?_⟩
  rw [e1.out]
  exact ⟨O3, ⟨hA, kt, o_kt⟩, hF⟩
set_option maxRecDepth 100000 in
set_option maxHeartbeats 800000 in
theorem lItem_calls (x : Int × Int) (w : World) (hT : LB w tb ap t O) :
  Calls Tryz.prog 115 #[.pointer (some ⟨tb, 0, none⟩), .agg #[.int .i64 x.1, .int .i64 x.2]] w fun e w' => e = .returned (.int .i64 (t.item x).1) ∧ DidL tb ap (t.item x).2 O w w' := by
 go_enter Tryz.func115, Tryz.ntmps115
 have hA := hT.hA
 have kt := hT.blk
 have o_kt := hT.no
 obtain ⟨c_kt, f_kt, l_kt_w⟩ := f3 kt
 go_wp2_with fail
 refine calls_gen fun D1 hV_D1 => ?_
 have n_kn := hbk hV_D1 (w.heap.size)
 simp (maxDischargeDepth := 9) only [BK, not_false_eq_true, reduceCtorEq, kt, l_kt_w] at n_kn
 have o_kn : ¬ O (w.heap.size) := by first | exact hA.new (Nat.le_refl _) | exact hA.new (by omega)
 replace kt := kK hV_D1 kt
 have hF : Fr ((oneX tb)) O O w D1 := nF hV_D1
 replace hA : AP D1 ap t.s O := nA hV_D1
 have z_D1 := zS hV_D1
 clear hV_D1 c_kt f_kt
 obtain ⟨c_kt, f_kt, l_kt_D1⟩ := f3 kt
 have kn := n_kn; clear n_kn
 obtain ⟨c_kn, f_kn, l_kn_D1⟩ := f3 kn
 refine (lNode_calls ⟨4, 0, 0, 0, 0, u64 x.1, u64 x.2⟩ (U64.u64 _) _ ⟨hA, kt, o_kt⟩).mono ?_
 rintro e_W2 W2 ⟨rfl, O2, hT_W2, hf_W2⟩
 have q_kn := hf_W2.keep kn o_kn (by unfold oneX; omega)
 replace o_kn := hf_W2.not_own (lt_of kn) o_kn
 clear kn; have kn := q_kn; clear q_kn
 obtain ⟨c_kn, f_kn, l_kn_W2⟩ := f3 kn
 clear kt c_kt f_kt o_kt; have kt := hT_W2.blk; have o_kt := hT_W2.no
 obtain ⟨c_kt, f_kt, l_kt_W2⟩ := f3 kt
 replace hF := hF.trans hf_W2
 have z_W2 := hf_W2.size
 clear hA hf_W2; have hA := hT_W2.hA; clear hT_W2
 go_wp2_with fail
 go_ret
 exact ⟨rfl, O2, ⟨hA, kt, o_kt⟩, hF⟩
set_option maxRecDepth 100000 in
set_option maxHeartbeats 800000 in
theorem lPair_calls (x y : Int) (w : World) (hT : LB w tb ap t O) :
  Calls Tryz.prog 150 #[.pointer (some ⟨tb, 0, none⟩), .int .i64 x, .int .i64 y] w fun e w' => e = .returned (.int .i64 (t.lpair x y).1) ∧ DidL tb ap (t.lpair x y).2 O w w' := by
 have hu : U64 (u64 (wrap64 (lLen t.s x + lLen t.s y))) := U64.u64 _
 go_enter Tryz.func150, Tryz.ntmps150
 have hA := hT.hA
 have kt := hT.blk
 have o_kt := hT.no
 obtain ⟨c_kt, f_kt, l_kt_w⟩ := f3 kt
 go_wp2_with fail
 refine wp_gen fun V hV_V => ?_
 replace kt := kK hV_V kt
 have hF : Fr ((oneX tb)) O O w V := nF hV_V
 replace hA : AP V ap t.s O := nA hV_V
 have z_V := zS hV_V
 clear hV_V c_kt f_kt
 obtain ⟨c_kt, f_kt, l_kt_V⟩ := f3 kt
 refine wp_region_noPanic ?_
 refine wp_region_held_drew (S := fun v => (v.cell? ⟨tb, 0, none⟩ = V.cell? ⟨tb, 0, none⟩) ∧ (V.heap.size ≤ v.heap.size) ∧ True) (by kernel_rfl) ⟨rfl, (Nat.le_refl _), trivial⟩ (fun hHeld => ?_)
 generalize hV_Vd : V.drew = Vd at hHeld ⊢
 have d_kt := dK hV_Vd kt
 clear c_kt f_kt
 replace hA := hA.drew; rw [hV_Vd] at hA
 replace hF := hF.drew; rw [hV_Vd] at hF
 have z_Vd := dZ hV_Vd
 have v_kt := cells_of kt
 clear kt; have kt := d_kt; clear d_kt
 obtain ⟨c_kt, f_kt, l_kt_Vd⟩ := f3 kt
 clear hV_Vd
 refine tz 0 rfl hHeld ?_
 try simp only [PT]
 refine tz 1 rfl hHeld ?_
 try simp only [PT]
 refine tz 2 rfl hHeld ?_
 try simp only [PT]
 refine tz 3 rfl hHeld ?_
 try simp only [PT]
 refine tz 4 rfl hHeld ?_
 try simp only [PT]
 refine tz 5 rfl hHeld ?_
 try simp only [PT]
 refine tz 6 rfl hHeld ?_
 try simp only [PT]
 refine tz 7 rfl hHeld ?_
 try simp only [PT]
 refine tz 8 rfl hHeld ?_
 try simp only [PT]
 refine tz 10 rfl hHeld ?_
 try simp only [PT]
 refine tz 11 rfl hHeld ?_
 try simp only [PT]
 refine tz 12 rfl hHeld ?_
 try simp only [PT]
 refine tz 13 rfl hHeld ?_
 try simp only [PT]
 refine tz 14 rfl hHeld ?_
 try simp only [PT]
 refine rd 9 rfl fun K hK => ?_
 go_simp
 try simp only [IntWalk.i64_left]
 refine (lLen_calls _ _ hA).mono ?_
 rintro e_W1 W1 ⟨rfl, hb_W1⟩
 replace hA := hA.below hb_W1
 replace hF := hF.below hb_W1
 replace kt := keep_blk hb_W1 kt
 have z_W1 := hb_W1.size
 clear hb_W1 c_kt f_kt
 obtain ⟨c_kt, f_kt, l_kt_W1⟩ := f3 kt
 refine hK.out _ _ ⟨((c_kt 0).trans (v_kt 0).symm), (by omega), trivial⟩ (fun hHeld => ?_)
 clear hK K
 try simp only [PT]
 refine rd 15 rfl fun K hK => ?_
 go_simp
 try simp only [IntWalk.i64_left]
 refine (lLen_calls _ _ hA).mono ?_
 rintro e_W2 W2 ⟨rfl, hb_W2⟩
 replace hA := hA.below hb_W2
 replace hF := hF.below hb_W2
 replace kt := keep_blk hb_W2 kt
 have z_W2 := hb_W2.size
 clear hb_W2 c_kt f_kt
 obtain ⟨c_kt, f_kt, l_kt_W2⟩ := f3 kt
 refine hK.out _ _ ⟨((c_kt 0).trans (v_kt 0).symm), (by omega), trivial⟩ (fun hHeld => ?_)
 clear hK K
 try simp only [PT]
 refine tz 16 rfl hHeld ?_
 try simp only [PT]
 refine tz 17 rfl hHeld ?_
 try simp only [PT]
 refine tz 18 rfl hHeld ?_
 try simp only [PT]
 refine rd 19 rfl fun K hK => ?_
 go_simp
 try simp only [IntWalk.i64_left]
 refine (lNode_calls ⟨5, x, y, 0, 0, u64 (wrap64 (lLen t.s x + lLen t.s y)), 0⟩ hu _ ⟨hA, kt, o_kt⟩).mono ?_
 rintro e_W5 W5 ⟨rfl, O2, hT_W5, hf_W5⟩
 clear kt c_kt f_kt o_kt; have kt := hT_W5.blk; have o_kt := hT_W5.no
 obtain ⟨c_kt, f_kt, l_kt_W5⟩ := f3 kt
 replace hF := hF.trans hf_W5
 have z_W5 := hf_W5.size
 clear hA hf_W5; have hA := hT_W5.hA; clear hT_W5
 refine hK.out _ _ ⟨((c_kt 0).trans (v_kt 0).symm), (by omega), trivial⟩ (fun hHeld => ?_)
 clear hK K
 try simp only [PT]
 refine rd 20 rfl fun K hK => ?_
 go_simp
 refine hK.out _ _ hHeld (fun hHeld => ?_)
 clear hK K
 try simp only [PT]
 refine wpAnyH_done (by kernel_rfl) ?_ _
 refine NoPanic.normal ?_
 go_wp2_with fail
 go_ret
 exact ⟨rfl, O2, ⟨hA, kt, o_kt⟩, hF⟩
set_option maxRecDepth 100000 in
set_option maxHeartbeats 800000 in
theorem lTold_calls (h : Int) (w : World) (hT : LB w tb ap t O) :
  Calls Tryz.prog 112 #[.pointer (some ⟨tb, 0, none⟩), .int .i64 h] w fun e w' => e = .returned (.tuple #[.int .i64 (Tb.told (h, t)).1, .int .i64 (Tb.told (h, t)).2.1]) ∧ DidL tb ap t O w w' := by
 by_cases he : t.e = 0
 ·
  have d1 : (t.e != 0) = false := by simp [he]
  have e1 : Hid (Tb.told (h, t) = (h, 0, t.s)) := by show _ = _; unfold Tb.told; rw [if_pos he]
  clear he
  go_enter Tryz.func112, Tryz.ntmps112
  have hA := hT.hA
  have kt := hT.blk
  have o_kt := hT.no
  obtain ⟨c_kt, f_kt, l_kt_w⟩ := f3 kt
  go_wp2_with fail
  go_ret2
  rw [e1.out]
  exact ⟨rfl, O, hT, Fr.refl _ _ _⟩
 ·
  have d1 : (t.e != 0) = true := by simp [he]
  have e1 : Hid (Tb.told (h, t) = (0, t.e, t.s)) := by show _ = _; unfold Tb.told; rw [if_neg he]
  clear he
  go_enter Tryz.func112, Tryz.ntmps112
  have hA := hT.hA
  have kt := hT.blk
  have o_kt := hT.no
  obtain ⟨c_kt, f_kt, l_kt_w⟩ := f3 kt
  go_wp2_with fail
  refine wp_gen fun V hV_V => ?_
  replace kt := kK hV_V kt
  have hF : Fr ((oneX tb)) O O w V := nF hV_V
  replace hA : AP V ap t.s O := nA hV_V
  have z_V := zS hV_V
  clear hV_V c_kt f_kt
  obtain ⟨c_kt, f_kt, l_kt_V⟩ := f3 kt
  refine wp_region_noPanic ?_
  refine wp_region_held_drew (S := fun v => (∀ o, v.cell? ⟨tb, o, none⟩ = V.cell? ⟨tb, o, none⟩) ∧ (V.heap.size ≤ v.heap.size) ∧ AP v ap t.s O) (by kernel_rfl) ⟨(fun _ => rfl), (Nat.le_refl _), hA.drew⟩ (fun hHeld => ?_)
  generalize hV_Vd : V.drew = Vd at hHeld ⊢
  have d_kt := dK hV_Vd kt
  clear c_kt f_kt
  replace hA := hA.drew; rw [hV_Vd] at hA
  replace hF := hF.drew; rw [hV_Vd] at hF
  have z_Vd := dZ hV_Vd
  have v_kt := cells_of kt
  clear kt; have kt := d_kt; clear d_kt
  obtain ⟨c_kt, f_kt, l_kt_Vd⟩ := f3 kt
  clear hV_Vd
  refine tz 0 rfl hHeld ?_
  try simp only [PT]
  refine tz 1 rfl hHeld ?_
  try simp only [PT]
  refine tz 2 rfl hHeld ?_
  try simp only [PT]
  refine tz 3 rfl hHeld ?_
  try simp only [PT]
  refine rd 4 rfl fun K hK => ?_
  go_simp
  refine hK.out _ _ hHeld (fun hHeld => ?_)
  clear hK K
  try simp only [PT]
  refine rd 5 rfl fun K hK => ?_
  go_simp
  refine hK.out _ _ hHeld (fun hHeld => ?_)
  clear hK K
  try simp only [PT]
  refine wpAnyH_done (by kernel_rfl) ?_ _
  refine NoPanic.normal ?_
  go_wp2_with fail
  go_ret2
  rw [e1.out]
  exact ⟨rfl, O, ⟨hA, kt, o_kt⟩, hF⟩
set_option maxRecDepth 100000 in
set_option maxHeartbeats 800000 in
theorem lHigh_calls : ∀ (k : Nat) (h r : Int) (w : World), lHigh k t.s h = some r → LB w tb ap t O →
  Calls Tryz.prog 148 #[.pointer (some ⟨tb, 0, none⟩), .int .i64 h] w fun e w' => e = .returned (.int .i64 r) ∧ Below w.heap.size w w'
 | 0, h, r, w, hr, hT => by cases hr
 | k + 1, h, r, w, hr, hT => by
  have ih := Lib.hid (lHigh_calls k)
  unfold lHigh at hr
  cases h1 : lIs t.s h with
  | false =>
   rw [h1, if_neg (by decide)] at hr
   cases hr
   go_enter Tryz.func148, Tryz.ntmps148
   have hA := hT.hA
   have kt := hT.blk
   have o_kt := hT.no
   obtain ⟨c_kt, f_kt, l_kt_w⟩ := f3 kt
   go_wp2_with fail
   refine calls_gen fun V hV_V => ?_
   replace kt := kK hV_V kt
   have hB : Below w.heap.size w V := nB hV_V
   replace hA : AP V ap t.s O := nA hV_V
   have z_V := zS hV_V
   clear hV_V c_kt f_kt
   obtain ⟨c_kt, f_kt, l_kt_V⟩ := f3 kt
   refine (lRow_calls _ _ hA).mono ?_
   rintro e_W1 W1 ⟨rfl, hb_W1⟩
   replace hA := hA.below hb_W1
   replace hB := below_step hB hb_W1
   replace kt := keep_blk hb_W1 kt
   have z_W1 := hb_W1.size
   clear hb_W1 c_kt f_kt
   obtain ⟨c_kt, f_kt, l_kt_W1⟩ := f3 kt
   unfold Nd.val
   go_wp2_with fail
   go_ret
   exact ⟨rfl, by (repeat' first | with_reducible assumption | with_reducible exact Below.refl _ _ | with_reducible refine Below.alloc ?_ ?_ _ | with_reducible refine Below.setCell ?_ ?_ _ | with_reducible refine below_drewN ?_ _ | with_reducible refine Below.drew ?_ | exact Nat.le_refl _ | ((try dsimp only); omega) | (simp only [siz_alloc, siz_set]; omega))⟩
  | true =>
   rw [h1, if_pos rfl] at hr
   by_cases h2 : (t.s.get h).tag = 4
   ·
    have d1 : ((t.s.get h).tag == 4) = true := by simpa using h2
    rw [if_pos h2] at hr
    cases hr
    clear h2
    go_enter Tryz.func148, Tryz.ntmps148
    have hA := hT.hA
    have kt := hT.blk
    have o_kt := hT.no
    obtain ⟨c_kt, f_kt, l_kt_w⟩ := f3 kt
    go_wp2_with fail
    refine calls_gen fun V hV_V => ?_
    replace kt := kK hV_V kt
    have hB : Below w.heap.size w V := nB hV_V
    replace hA : AP V ap t.s O := nA hV_V
    have z_V := zS hV_V
    clear hV_V c_kt f_kt
    obtain ⟨c_kt, f_kt, l_kt_V⟩ := f3 kt
    refine (lRow_calls _ _ hA).mono ?_
    rintro e_W1 W1 ⟨rfl, hb_W1⟩
    replace hA := hA.below hb_W1
    replace hB := below_step hB hb_W1
    replace kt := keep_blk hb_W1 kt
    have z_W1 := hb_W1.size
    clear hb_W1 c_kt f_kt
    obtain ⟨c_kt, f_kt, l_kt_W1⟩ := f3 kt
    unfold Nd.val
    go_wp2_with fail
    go_ret
    exact ⟨rfl, by (repeat' first | with_reducible assumption | with_reducible exact Below.refl _ _ | with_reducible refine Below.alloc ?_ ?_ _ | with_reducible refine Below.setCell ?_ ?_ _ | with_reducible refine below_drewN ?_ _ | with_reducible refine Below.drew ?_ | exact Nat.le_refl _ | ((try dsimp only); omega) | (simp only [siz_alloc, siz_set]; omega))⟩
   ·
    have d1 : ((t.s.get h).tag == 4) = false := by simpa using h2
    rw [if_neg h2] at hr
    clear h2
    obtain ⟨p, hp, hr⟩ := Option.bind_eq_some_iff.1 hr
    obtain ⟨q, hq, hr⟩ := Option.bind_eq_some_iff.1 hr
    have hr := Option.some.inj hr
    have Hp := Lib.hid hp; have Hq := Lib.hid hq; have Hr := Lib.hid hr
    clear hp hq hr
    by_cases hpq : p < q
    all_goals
     go_enter Tryz.func148, Tryz.ntmps148
     have hA := hT.hA
     have kt := hT.blk
     have o_kt := hT.no
     obtain ⟨c_kt, f_kt, l_kt_w⟩ := f3 kt
     go_wp2_with fail
     refine calls_gen fun V hV_V => ?_
     replace kt := kK hV_V kt
     have hB : Below w.heap.size w V := nB hV_V
     replace hA : AP V ap t.s O := nA hV_V
     have z_V := zS hV_V
     clear hV_V c_kt f_kt
     obtain ⟨c_kt, f_kt, l_kt_V⟩ := f3 kt
     refine (lRow_calls _ _ hA).mono ?_
     rintro e_W1 W1 ⟨rfl, hb_W1⟩
     replace hA := hA.below hb_W1
     replace hB := below_step hB hb_W1
     replace kt := keep_blk hb_W1 kt
     have z_W1 := hb_W1.size
     clear hb_W1 c_kt f_kt
     obtain ⟨c_kt, f_kt, l_kt_W1⟩ := f3 kt
     unfold Nd.val
     go_wp2_with fail
     refine wp_gen fun V1 hV_V1 => ?_
     have n_kn := hbk hV_V1 (W1.heap.size)
     simp (maxDischargeDepth := 9) only [BK, not_false_eq_true, reduceCtorEq, kt, l_kt_w, l_kt_V, l_kt_W1] at n_kn
     have o_kn : ¬ O (W1.heap.size) := by first | exact hA.new (Nat.le_refl _) | exact hA.new (by omega)
     replace kt := kK hV_V1 kt
     replace hB : Below w.heap.size w V1 := nB hV_V1
     replace hA : AP V1 ap t.s O := nA hV_V1
     have z_V1 := zS hV_V1
     clear hV_V1 c_kt f_kt
     obtain ⟨c_kt, f_kt, l_kt_V1⟩ := f3 kt
     have kn := n_kn; clear n_kn
     obtain ⟨c_kn, f_kn, l_kn_V1⟩ := f3 kn
     refine wp_region_noPanic ?_
     refine wp_region_held_drew (S := fun v => (∀ o, v.cell? ⟨tb, o, none⟩ = V1.cell? ⟨tb, o, none⟩) ∧ (∀ o, v.cell? ⟨W1.heap.size, o, none⟩ = V1.cell? ⟨W1.heap.size, o, none⟩) ∧ (V1.heap.size ≤ v.heap.size) ∧ AP v ap t.s O) (by kernel_rfl) ⟨(fun _ => rfl), (fun _ => rfl), (Nat.le_refl _), hA.drew⟩ (fun hHeld => ?_)
     generalize hV_V1d : V1.drew = V1d at hHeld ⊢
     have d_kt := dK hV_V1d kt
     have d_kn := dK hV_V1d kn
     clear c_kt f_kt c_kn f_kn
     replace hA := hA.drew; rw [hV_V1d] at hA
     replace hB := hB.drew; rw [hV_V1d] at hB
     have z_V1d := dZ hV_V1d
     have v_kt := cells_of kt
     have v_kn := cells_of kn
     clear kt; have kt := d_kt; clear d_kt
     clear kn; have kn := d_kn; clear d_kn
     obtain ⟨c_kt, f_kt, l_kt_V1d⟩ := f3 kt
     obtain ⟨c_kn, f_kn, l_kn_V1d⟩ := f3 kn
     clear hV_V1d
     refine tz 0 rfl hHeld ?_
     try simp only [PT]
     refine tz 1 rfl hHeld ?_
     try simp only [PT]
     refine tz 2 rfl hHeld ?_
     try simp only [PT]
     refine tz 3 rfl hHeld ?_
     try simp only [PT]
     refine tz 5 rfl hHeld ?_
     try simp only [PT]
     refine tz 6 rfl hHeld ?_
     try simp only [PT]
     refine tz 7 rfl hHeld ?_
     try simp only [PT]
     refine tz 8 rfl hHeld ?_
     try simp only [PT]
     refine rd 4 rfl fun K hK => ?_
     go_simp
     try simp only [IntWalk.i64_left]
     refine (ih.out _ _ _ Hp.out ⟨hA, kt, o_kt⟩).mono ?_
     rintro e_W2 W2 ⟨rfl, hb_W2⟩
     replace hA := hA.below hb_W2
     replace hB := below_step hB hb_W2
     replace kt := keep_blk hb_W2 kt
     replace kn := keep_blk hb_W2 kn
     have z_W2 := hb_W2.size
     clear hb_W2 c_kt f_kt c_kn f_kn
     obtain ⟨c_kt, f_kt, l_kt_W2⟩ := f3 kt
     obtain ⟨c_kn, f_kn, l_kn_W2⟩ := f3 kn
     refine hK.out _ _ ⟨(fun o => (c_kt o).trans (v_kt o).symm), (fun o => (c_kn o).trans (v_kn o).symm), (by omega), hA⟩ (fun hHeld => ?_)
     clear hK K
     try simp only [PT]
     refine rd 9 rfl fun K hK => ?_
     go_simp
     try simp only [IntWalk.i64_left]
     refine (ih.out _ _ _ Hq.out ⟨hA, kt, o_kt⟩).mono ?_
     rintro e_W3 W3 ⟨rfl, hb_W3⟩
     replace hA := hA.below hb_W3
     replace hB := below_step hB hb_W3
     replace kt := keep_blk hb_W3 kt
     replace kn := keep_blk hb_W3 kn
     have z_W3 := hb_W3.size
     clear hb_W3 c_kt f_kt c_kn f_kn
     obtain ⟨c_kt, f_kt, l_kt_W3⟩ := f3 kt
     obtain ⟨c_kn, f_kn, l_kn_W3⟩ := f3 kn
     refine hK.out _ _ ⟨(fun o => (c_kt o).trans (v_kt o).symm), (fun o => (c_kn o).trans (v_kn o).symm), (by omega), hA⟩ (fun hHeld => ?_)
     clear hK K
     try simp only [PT]
     refine tz 10 rfl hHeld ?_
     try simp only [PT]
     refine tz 11 rfl hHeld ?_
     try simp only [PT]
     refine rd 12 rfl fun K hK => ?_
     go_simp
     refine hK.out _ _ hHeld (fun hHeld => ?_)
     clear hK K
     try simp only [PT]
     refine wpAnyH_done (by kernel_rfl) ?_ _
     refine NoPanic.normal ?_
     go_wp2_with fail
     go_ret
     refine ⟨?_, by (repeat' first | with_reducible assumption | with_reducible exact Below.refl _ _ | with_reducible refine Below.alloc ?_ ?_ _ | with_reducible refine Below.setCell ?_ ?_ _ | with_reducible refine below_drewN ?_ _ | with_reducible refine Below.drew ?_ | exact Nat.le_refl _ | ((try dsimp only); omega) | (simp only [siz_alloc, siz_set]; omega))⟩
     rw [← Hr.out]
     unfold imax
     first | rw [if_pos hpq] | rw [if_neg (Int.not_lt.2 hpq)]
     simp only [IntWalk.i64_left]
     rfl
set_option maxRecDepth 100000 in
set_option maxHeartbeats 800000 in
theorem lOpen_calls (h : Int) (w : World) (hT : LB w tb ap t O) :
  Calls Tryz.prog 149 #[.pointer (some ⟨tb, 0, none⟩), .int .i64 h] w fun e w' => e = .returned (.tuple #[.int .i64 (t.s.get h).k0, .int .i64 (t.s.get h).k1]) ∧ DidL tb ap (t.opened h) O w w' := by
 go_enter Tryz.func149, Tryz.ntmps149
 have hA := hT.hA
 have kt := hT.blk
 have o_kt := hT.no
 obtain ⟨c_kt, f_kt, l_kt_w⟩ := f3 kt
 go_wp2_with fail
 refine calls_gen fun V hV_V => ?_
 replace kt := kK hV_V kt
 have hF : Fr ((oneX tb)) O O w V := nF hV_V
 replace hA : AP V ap t.s O := nA hV_V
 have z_V := zS hV_V
 clear hV_V c_kt f_kt
 obtain ⟨c_kt, f_kt, l_kt_V⟩ := f3 kt
 refine (lRow_calls _ _ hA).mono ?_
 rintro e_W1 W1 ⟨rfl, hb_W1⟩
 replace hA := hA.below hb_W1
 replace hF := hF.below hb_W1
 replace kt := keep_blk hb_W1 kt
 have z_W1 := hb_W1.size
 clear hb_W1 c_kt f_kt
 obtain ⟨c_kt, f_kt, l_kt_W1⟩ := f3 kt
 unfold Nd.val
 go_wp2_with fail
 refine wp_gen fun V1 hV_V1 => ?_
 have n_kn := hbk hV_V1 (W1.heap.size)
 simp (maxDischargeDepth := 9) only [BK, not_false_eq_true, reduceCtorEq, kt, l_kt_w, l_kt_V, l_kt_W1] at n_kn
 have o_kn : ¬ O (W1.heap.size) := by first | exact hA.new (Nat.le_refl _) | exact hA.new (by omega)
 replace kt := kK hV_V1 kt
 replace hF : Fr ((oneX tb)) O O w V1 := nF hV_V1
 replace hA : AP V1 ap t.s O := nA hV_V1
 have z_V1 := zS hV_V1
 clear hV_V1 c_kt f_kt
 obtain ⟨c_kt, f_kt, l_kt_V1⟩ := f3 kt
 have kn := n_kn; clear n_kn
 obtain ⟨c_kn, f_kn, l_kn_V1⟩ := f3 kn
 refine wp_region_noPanic ?_
 refine wp_region_held_drew (S := fun v => (∀ o, v.cell? ⟨tb, o, none⟩ = V1.cell? ⟨tb, o, none⟩) ∧ (∀ o, v.cell? ⟨W1.heap.size, o, none⟩ = V1.cell? ⟨W1.heap.size, o, none⟩) ∧ (V1.heap.size ≤ v.heap.size) ∧ True) (by kernel_rfl) ⟨(fun _ => rfl), (fun _ => rfl), (Nat.le_refl _), trivial⟩ (fun hHeld => ?_)
 generalize hV_V1d : V1.drew = V1d at hHeld ⊢
 have d_kt := dK hV_V1d kt
 have d_kn := dK hV_V1d kn
 clear c_kt f_kt c_kn f_kn
 replace hA := hA.drew; rw [hV_V1d] at hA
 replace hF := hF.drew; rw [hV_V1d] at hF
 have z_V1d := dZ hV_V1d
 have v_kt := cells_of kt
 have v_kn := cells_of kn
 clear kt; have kt := d_kt; clear d_kt
 clear kn; have kn := d_kn; clear d_kn
 obtain ⟨c_kt, f_kt, l_kt_V1d⟩ := f3 kt
 obtain ⟨c_kn, f_kn, l_kn_V1d⟩ := f3 kn
 clear hV_V1d
 refine tz 0 rfl hHeld ?_
 try simp only [PT]
 refine tz 1 rfl hHeld ?_
 try simp only [PT]
 refine tz 2 rfl hHeld ?_
 try simp only [PT]
 refine tz 3 rfl hHeld ?_
 try simp only [PT]
 refine tz 5 rfl hHeld ?_
 try simp only [PT]
 refine tz 6 rfl hHeld ?_
 try simp only [PT]
 refine tz 7 rfl hHeld ?_
 try simp only [PT]
 refine tz 8 rfl hHeld ?_
 try simp only [PT]
 refine rd 4 rfl fun K hK => ?_
 go_simp
 try simp only [IntWalk.i64_left]
 refine (lKeep_calls (t := t) (t.s.get h).k0 _ ⟨hA, kt, o_kt⟩).mono ?_
 rintro e_W2 W2 ⟨rfl, O1, hT_W2, hf_W2⟩
 have q_kn := hf_W2.keep kn o_kn (by unfold oneX; omega)
 replace o_kn := hf_W2.not_own (lt_of kn) o_kn
 clear kn; have kn := q_kn; clear q_kn
 obtain ⟨c_kn, f_kn, l_kn_W2⟩ := f3 kn
 clear kt c_kt f_kt o_kt; have kt := hT_W2.blk; have o_kt := hT_W2.no
 obtain ⟨c_kt, f_kt, l_kt_W2⟩ := f3 kt
 replace hF := hF.trans hf_W2
 have z_W2 := hf_W2.size
 clear hA hf_W2; have hA := hT_W2.hA; clear hT_W2
 refine hK.out _ _ ⟨(fun o => (c_kt o).trans (v_kt o).symm), (fun o => (c_kn o).trans (v_kn o).symm), (by omega), trivial⟩ (fun hHeld => ?_)
 clear hK K
 try simp only [PT]
 refine rd 9 rfl fun K hK => ?_
 go_simp
 try simp only [IntWalk.i64_left]
 refine (lKeep_calls (t := t.keep (t.s.get h).k0) (t.s.get h).k1 _ ⟨hA, kt, o_kt⟩).mono ?_
 rintro e_W3 W3 ⟨rfl, O2, hT_W3, hf_W3⟩
 have q_kn := hf_W3.keep kn o_kn (by unfold oneX; omega)
 replace o_kn := hf_W3.not_own (lt_of kn) o_kn
 clear kn; have kn := q_kn; clear q_kn
 obtain ⟨c_kn, f_kn, l_kn_W3⟩ := f3 kn
 clear kt c_kt f_kt o_kt; have kt := hT_W3.blk; have o_kt := hT_W3.no
 obtain ⟨c_kt, f_kt, l_kt_W3⟩ := f3 kt
 replace hF := hF.trans hf_W3
 have z_W3 := hf_W3.size
 clear hA hf_W3; have hA := hT_W3.hA; clear hT_W3
 refine hK.out _ _ ⟨(fun o => (c_kt o).trans (v_kt o).symm), (fun o => (c_kn o).trans (v_kn o).symm), (by omega), trivial⟩ (fun hHeld => ?_)
 clear hK K
 try simp only [PT]
 refine rd 10 rfl fun K hK => ?_
 go_simp
 refine hK.out _ _ hHeld (fun hHeld => ?_)
 clear hK K
 try simp only [PT]
 refine rd 11 rfl fun K hK => ?_
 go_simp
 refine hK.out _ _ hHeld (fun hHeld => ?_)
 clear hK K
 try simp only [PT]
 refine wpAnyH_done (by kernel_rfl) ?_ _
 refine NoPanic.normal ?_
 go_wp2_with fail
 refine calls_gen fun V4 hV_V4 => ?_
 replace kt := kK hV_V4 kt
 replace kn := kK hV_V4 kn
 replace hF : Fr ((oneX tb)) O O2 w V4 := nF hV_V4
 replace hA : AP V4 ap ((t.keep (t.s.get h).k0).keep (t.s.get h).k1).s O2 := nA hV_V4
 have z_V4 := zS hV_V4
 clear hV_V4 c_kt f_kt c_kn f_kn
 obtain ⟨c_kt, f_kt, l_kt_V4⟩ := f3 kt
 obtain ⟨c_kn, f_kn, l_kn_V4⟩ := f3 kn
 refine (drop_calls _ _ hA).mono ?_
 rintro e_W5 W5 ⟨rfl, O3, hA_W5, hf_W5⟩
 have q_kt := hf_W5.keep kt o_kt (fun h => h)
 have q_kn := hf_W5.keep kn o_kn (fun h => h)
 replace o_kt := hf_W5.not_own (lt_of kt) o_kt
 clear kt c_kt f_kt; have kt := q_kt; clear q_kt
 obtain ⟨c_kt, f_kt, l_kt_W5⟩ := f3 kt
 replace o_kn := hf_W5.not_own (lt_of kn) o_kn
 clear kn c_kn f_kn; have kn := q_kn; clear q_kn
 obtain ⟨c_kn, f_kn, l_kn_W5⟩ := f3 kn
 replace hF := hF.trans hf_W5.widen
 have z_W5 := hf_W5.size
 clear hA hf_W5; have hA := hA_W5; clear hA_W5
 go_wp2_with fail
 go_ret2
 exact ⟨rfl, O3, ⟨hA, kt, o_kt⟩, hF⟩
end Go.Proofs.YtdjpjmkpndmhaaaGreat
/- Lists in an arena: an item, all items; tables. -/
namespace Go.Proofs.YtdjpjmkpndmhaaaGreat
set_option linter.unusedSimpArgs false
set_option linter.unusedVariables false
set_option linter.unnecessarySimpa false
open Go.RowKit
attribute [local go_sem ↓] Go.wp_at_zero Go.wp_at_succ
attribute [local go_sem] lt_s2 lt_s3 lt_s4
attribute [local go_sem] idx0 idx1 idx2 idx3
variable {ap : Value} {s : Ar} {O : Nat → Prop}
set_option maxRecDepth 100000 in
set_option maxHeartbeats 2000000 in
theorem lGet_calls (h i : Int) (r : (Int × Int) × Bool) (hr : lGet s h i = some r) (w : World) (hA : AP w ap s O) :
    Calls Tryz.prog 31 #[ap, .int .i64 h, .int .i64 i] w fun e w' => e = .returned (.tuple #[.agg #[.int .i64 r.1.1, .int .i64 r.1.2], .bool r.2]) ∧ Below w.heap.size w w' := by
  unfold lGet at hr
  by_cases h1 : i < 0
  · rw [if_pos (.inl h1)] at hr
    have d1 : decide (i < 0) = true := by simpa using h1
    obtain rfl := Option.some.inj hr
    clear h1 hr
    go_enter Tryz.func31, Tryz.ntmps31
    go_wp2_with fail
    refine bodyPost_ret (v := .tuple #[.agg #[.int .i64 0, .int .i64 0], .bool false]) (by simp [results, Tryz.results31, go_sem, *]) rfl ⟨rfl, by (repeat' first | with_reducible assumption | with_reducible exact Below.refl _ _ | with_reducible refine Below.alloc ?_ ?_ _ | with_reducible refine Below.setCell ?_ ?_ _ | with_reducible refine below_drewN ?_ _ | with_reducible refine Below.drew ?_ | exact Nat.le_refl _ | ((try dsimp only); omega) | (simp only [siz_alloc, siz_set]; omega))⟩
  · have d1 : decide (i < 0) = false := by simpa using h1
    by_cases h2 : lLen s h ≤ i
    · rw [if_pos (.inr h2)] at hr
      have d2 : decide (lLen s h ≤ i) = true := by simpa using h2
      obtain rfl := Option.some.inj hr
      clear h1 h2 hr
      go_enter Tryz.func31, Tryz.ntmps31
      go_wp2_with fail
      refine calls_gen fun V hV_V => ?_
      have n_kr := hbk hV_V (w.heap.size)
      simp (maxDischargeDepth := 9) only [BK, not_false_eq_true, reduceCtorEq] at n_kr
      have o_kr : ¬ O (w.heap.size) := by first | exact hA.new (Nat.le_refl _) | exact hA.new (by omega)
      have hB : Below w.heap.size w V := nB hV_V
      replace hA : AP V ap s O := nA hV_V
      have z_V := zS hV_V
      clear hV_V
      have kr := n_kr; clear n_kr
      obtain ⟨c_kr, f_kr, l_kr_V⟩ := f3 kr
      refine (lLen_calls _ _ hA).mono ?_
      rintro e_W1 W1 ⟨rfl, hb_W1⟩
      replace hA := hA.below hb_W1
      replace hB := below_step hB hb_W1
      replace kr := keep_blk hb_W1 kr
      have z_W1 := hb_W1.size
      clear hb_W1 c_kr f_kr
      obtain ⟨c_kr, f_kr, l_kr_W1⟩ := f3 kr
      go_wp2_with fail
      refine bodyPost_ret (v := .tuple #[.agg #[.int .i64 0, .int .i64 0], .bool false]) (by simp [results, Tryz.results31, go_sem, *]) rfl ⟨rfl, by (repeat' first | with_reducible assumption | with_reducible exact Below.refl _ _ | with_reducible refine Below.alloc ?_ ?_ _ | with_reducible refine Below.setCell ?_ ?_ _ | with_reducible refine below_drewN ?_ _ | with_reducible refine Below.drew ?_ | exact Nat.le_refl _ | ((try dsimp only); omega) | (simp only [siz_alloc, siz_set]; omega))⟩
    · rw [if_neg (by omega)] at hr
      have d2 : decide (lLen s h ≤ i) = false := by simpa using h2
      clear h1 h2
      obtain ⟨b, hb, rfl⟩ := Option.map_eq_some_iff.1 hr
      have hb' := Lib.hid hb; clear hb hr
      have hA0 := Lib.hid hA
      go_enter Tryz.func31, Tryz.ntmps31
      go_wp2_with fail
      refine calls_gen fun V hV_V => ?_
      have n_kr := hbk hV_V (w.heap.size)
      simp (maxDischargeDepth := 9) only [BK, not_false_eq_true, reduceCtorEq] at n_kr
      have o_kr : ¬ O (w.heap.size) := by first | exact hA.new (Nat.le_refl _) | exact hA.new (by omega)
      have hB : Below w.heap.size w V := nB hV_V
      replace hA : AP V ap s O := nA hV_V
      have z_V := zS hV_V
      clear hV_V
      have kr := n_kr; clear n_kr
      obtain ⟨c_kr, f_kr, l_kr_V⟩ := f3 kr
      refine (lLen_calls _ _ hA).mono ?_
      rintro e_W1 W1 ⟨rfl, hb_W1⟩
      replace hA := hA.below hb_W1
      replace hB := below_step hB hb_W1
      replace kr := keep_blk hb_W1 kr
      have z_W1 := hb_W1.size
      clear hb_W1 c_kr f_kr
      obtain ⟨c_kr, f_kr, l_kr_W1⟩ := f3 kr
      go_wp2_with fail
      refine calls_gen fun V1 hV_V1 => ?_
      replace kr := kK hV_V1 kr
      replace hB : Below w.heap.size w V1 := nB hV_V1
      replace hA : AP V1 ap s O := nA hV_V1
      have z_V1 := zS hV_V1
      clear hV_V1 c_kr f_kr
      obtain ⟨c_kr, f_kr, l_kr_V1⟩ := f3 kr
      refine (lRow_calls _ _ hA).mono ?_
      rintro e_W2 W2 ⟨rfl, hb_W2⟩
      replace hA := hA.below hb_W2
      replace hB := below_step hB hb_W2
      replace kr := keep_blk hb_W2 kr
      have z_W2 := hb_W2.size
      clear hb_W2 c_kr f_kr
      obtain ⟨c_kr, f_kr, l_kr_W2⟩ := f3 kr
      unfold Nd.val
      go_wp2_with fail
      refine wp_gen fun V2 hV_V2 => ?_
      have n_kn := hbk hV_V2 (W2.heap.size)
      simp (maxDischargeDepth := 9) only [BK, not_false_eq_true, reduceCtorEq, kr, l_kr_V, l_kr_W1, l_kr_V1, l_kr_W2] at n_kn
      have o_kn : ¬ O (W2.heap.size) := by first | exact hA.new (Nat.le_refl _) | exact hA.new (by omega)
      replace kr := kK hV_V2 kr
      replace hB : Below w.heap.size w V2 := nB hV_V2
      replace hA : AP V2 ap s O := nA hV_V2
      have z_V2 := zS hV_V2
      clear hV_V2 c_kr f_kr
      obtain ⟨c_kr, f_kr, l_kr_V2⟩ := f3 kr
      have kn := n_kn; clear n_kn
      obtain ⟨c_kn, f_kn, l_kn_V2⟩ := f3 kn
      go_loopg [1, 2] rounds (fun k p q wr => ∃ x y : Int, p = .int .i64 x ∧ q = .int .i64 y ∧ wr.heap[W2.heap.size]? = some (.cells #[.int .i64 (s.get x).tag, .int .i64 (s.get x).k0, .int .i64 (s.get x).k1, .int .i64 (s.get x).k2, .int .i64 (s.get x).k3, .int .u64 (s.get x).a, .int .u64 (s.get x).b] 93 (0, 0)) ∧ wr.heap[w.heap.size]? = some (.cells #[.int .i64 0, .int .i64 0] 56 (0, 0)) ∧ Below w.heap.size w wr ∧ Hid (lGetL k s x y = some b))
      case atStart => exact ⟨h, i, rfl, rfl, kn, kr, hB, hb'⟩
      case round =>
        clear kn kr c_kn c_kr f_kn f_kr hA hB hb'
        obtain ⟨x, y, rfl, rfl, kn, kr, hB, hb'⟩ := hrel
        have hA := hA0.out.below hB
        obtain ⟨c_kn, f_kn, l_kn_wr⟩ := f3 kn
        obtain ⟨c_kr, f_kr, l_kr_wr⟩ := f3 kr
        have hb := hb'.out
        clear hb'
        cases gk with
        | zero => exact absurd hb (by simp [lGetL])
        | succ k =>
          unfold lGetL at hb
          by_cases h3 : (s.get x).tag = 5
          · rw [if_pos h3] at hb
            have d3 : ((s.get x).tag == 5) = true := by simpa using h3
            clear h3
            by_cases h4 : lLen s (s.get x).k0 ≤ y
            · rw [if_pos h4] at hb
              have d4 : decide (lLen s (s.get x).k0 ≤ y) = true := by simpa using h4
              have hb' := Lib.hid hb; clear hb h4
              go_wp2_with fail
              refine calls_gen fun V3 hV_V3 => ?_
              replace kn := kK hV_V3 kn
              replace kr := kK hV_V3 kr
              replace hB : Below w.heap.size w V3 := nB hV_V3
              replace hA : AP V3 ap s O := nA hV_V3
              have z_V3 := zS hV_V3
              clear hV_V3 c_kn f_kn c_kr f_kr
              obtain ⟨c_kn, f_kn, l_kn_V3⟩ := f3 kn
              obtain ⟨c_kr, f_kr, l_kr_V3⟩ := f3 kr
              refine (lLen_calls _ _ hA).mono ?_
              rintro e_W3 W3 ⟨rfl, hb_W3⟩
              replace hA := hA.below hb_W3
              replace hB := below_step hB hb_W3
              replace kn := keep_blk hb_W3 kn
              replace kr := keep_blk hb_W3 kr
              have z_W3 := hb_W3.size
              clear hb_W3 c_kn f_kn c_kr f_kr
              obtain ⟨c_kn, f_kn, l_kn_W3⟩ := f3 kn
              obtain ⟨c_kr, f_kr, l_kr_W3⟩ := f3 kr
              go_wp2_with fail
              refine calls_gen fun V4 hV_V4 => ?_
              replace kn := kK hV_V4 kn
              replace kr := kK hV_V4 kr
              replace hB : Below w.heap.size w V4 := nB hV_V4
              replace hA : AP V4 ap s O := nA hV_V4
              have z_V4 := zS hV_V4
              clear hV_V4 c_kn f_kn c_kr f_kr
              obtain ⟨c_kn, f_kn, l_kn_V4⟩ := f3 kn
              obtain ⟨c_kr, f_kr, l_kr_V4⟩ := f3 kr
              refine (lRow_calls _ _ hA).mono ?_
              rintro e_W4 W4 ⟨rfl, hb_W4⟩
              replace hA := hA.below hb_W4
              replace hB := below_step hB hb_W4
              replace kn := keep_blk hb_W4 kn
              replace kr := keep_blk hb_W4 kr
              have z_W4 := hb_W4.size
              clear hb_W4 c_kn f_kn c_kr f_kr
              obtain ⟨c_kn, f_kn, l_kn_W4⟩ := f3 kn
              obtain ⟨c_kr, f_kr, l_kr_W4⟩ := f3 kr
              unfold Nd.val
              go_wp2_with fail
              refine handed_gen fun V5 hV_V5 => ?_
              replace kn := kK hV_V5 kn
              replace kr := kK hV_V5 kr
              replace hB : Below w.heap.size w V5 := nB hV_V5
              replace hA : AP V5 ap s O := nA hV_V5
              have z_V5 := zS hV_V5
              clear hV_V5 c_kn f_kn c_kr f_kr
              obtain ⟨c_kn, f_kn, l_kn_V5⟩ := f3 kn
              obtain ⟨c_kr, f_kr, l_kr_V5⟩ := f3 kr
              go_roundg k
              case measure => omega
              case rel => exact ⟨_, _, rfl, rfl, kn, kr, hB, hb'⟩
            · rw [if_neg h4] at hb
              have d4 : decide (lLen s (s.get x).k0 ≤ y) = false := by simpa using h4
              have hb' := Lib.hid hb; clear hb h4
              go_wp2_with fail
              refine calls_gen fun V3 hV_V3 => ?_
              replace kn := kK hV_V3 kn
              replace kr := kK hV_V3 kr
              replace hB : Below w.heap.size w V3 := nB hV_V3
              replace hA : AP V3 ap s O := nA hV_V3
              have z_V3 := zS hV_V3
              clear hV_V3 c_kn f_kn c_kr f_kr
              obtain ⟨c_kn, f_kn, l_kn_V3⟩ := f3 kn
              obtain ⟨c_kr, f_kr, l_kr_V3⟩ := f3 kr
              refine (lLen_calls _ _ hA).mono ?_
              rintro e_W3 W3 ⟨rfl, hb_W3⟩
              replace hA := hA.below hb_W3
              replace hB := below_step hB hb_W3
              replace kn := keep_blk hb_W3 kn
              replace kr := keep_blk hb_W3 kr
              have z_W3 := hb_W3.size
              clear hb_W3 c_kn f_kn c_kr f_kr
              obtain ⟨c_kn, f_kn, l_kn_W3⟩ := f3 kn
              obtain ⟨c_kr, f_kr, l_kr_W3⟩ := f3 kr
              go_wp2_with fail
              refine calls_gen fun V4 hV_V4 => ?_
              replace kn := kK hV_V4 kn
              replace kr := kK hV_V4 kr
              replace hB : Below w.heap.size w V4 := nB hV_V4
              replace hA : AP V4 ap s O := nA hV_V4
              have z_V4 := zS hV_V4
              clear hV_V4 c_kn f_kn c_kr f_kr
              obtain ⟨c_kn, f_kn, l_kn_V4⟩ := f3 kn
              obtain ⟨c_kr, f_kr, l_kr_V4⟩ := f3 kr
              refine (lRow_calls _ _ hA).mono ?_
              rintro e_W4 W4 ⟨rfl, hb_W4⟩
              replace hA := hA.below hb_W4
              replace hB := below_step hB hb_W4
              replace kn := keep_blk hb_W4 kn
              replace kr := keep_blk hb_W4 kr
              have z_W4 := hb_W4.size
              clear hb_W4 c_kn f_kn c_kr f_kr
              obtain ⟨c_kn, f_kn, l_kn_W4⟩ := f3 kn
              obtain ⟨c_kr, f_kr, l_kr_W4⟩ := f3 kr
              unfold Nd.val
              go_wp2_with fail
              refine handed_gen fun V5 hV_V5 => ?_
              replace kn := kK hV_V5 kn
              replace kr := kK hV_V5 kr
              replace hB : Below w.heap.size w V5 := nB hV_V5
              replace hA : AP V5 ap s O := nA hV_V5
              have z_V5 := zS hV_V5
              clear hV_V5 c_kn f_kn c_kr f_kr
              obtain ⟨c_kn, f_kn, l_kn_V5⟩ := f3 kn
              obtain ⟨c_kr, f_kr, l_kr_V5⟩ := f3 kr
              go_roundg k
              case measure => omega
              case rel => exact ⟨_, _, rfl, rfl, kn, kr, hB, hb'⟩
          · rw [if_neg h3] at hb
            have d3 : ((s.get x).tag == 5) = false := by simpa using h3
            obtain rfl := Option.some.inj hb
            clear h3 hb
            go_wp2_with fail
            refine bodyPost_ret (v := .tuple #[.agg #[.int .i64 (wrap64 (s.get x).a), .int .i64 (wrap64 (s.get x).b)], .bool true]) (by simp [results, Tryz.results31, go_sem, *]) rfl ⟨rfl, by (repeat' first | with_reducible assumption | with_reducible exact Below.refl _ _ | with_reducible refine Below.alloc ?_ ?_ _ | with_reducible refine Below.setCell ?_ ?_ _ | with_reducible refine below_drewN ?_ _ | with_reducible refine Below.drew ?_ | exact Nat.le_refl _ | ((try dsimp only); omega) | (simp only [siz_alloc, siz_set]; omega))⟩
end Go.Proofs.YtdjpjmkpndmhaaaGreat
/- Lists in an arena: all items. -/
namespace Go.Proofs.YtdjpjmkpndmhaaaGreat
set_option linter.unusedSimpArgs false
set_option linter.unusedVariables false
set_option linter.unnecessarySimpa false
open Go.RowKit
attribute [local go_sem ↓] Go.wp_at_zero Go.wp_at_succ
attribute [local go_sem] lt_s2 lt_s3 lt_s4
attribute [local go_sem] idx0 idx1 idx2 idx3
variable {ap : Value} {s : Ar} {O : Nat → Prop}
theorem eachO_len {α : Type} {f : Int → Option α} : ∀ (d : Nat) (i : Int) (l : List α), eachO f d i = some l → l.length = d
  | 0, i, l, h => by cases h; rfl
  | d + 1, i, l, h => by
    unfold eachO at h
    obtain ⟨x, hx, h⟩ := Option.bind_eq_some_iff.1 h
    obtain ⟨m, hm, h⟩ := Option.bind_eq_some_iff.1 h
    cases h
    simp [eachO_len d (i + 1) m hm]
set_option maxRecDepth 100000 in
set_option maxHeartbeats 2000000 in
theorem lAll_calls (h : Int) (l : List (Int × Int)) (hr : lAll s h = some l) (hl : l.length ≤ 50000) (w : World) (hA : AP w ap s O) :
    Calls Tryz.prog 70 #[ap, .int .i64 h] w fun e w' => ∃ v, e = .returned v ∧ w'.ownsRow w.heap.size 56 2 v l.length (itemCells l) ∧ Below w.heap.size w w' := by
  have hA0 := Lib.hid hA
  have hr' := Lib.hid hr
  have hlen : l.length = (lLen s h).toNat := eachO_len _ _ _ hr
  clear hr
  go_enter Tryz.func70, Tryz.ntmps70
  go_wp2_with fail
  refine calls_gen fun V hV_V => ?_
  have hB : Below w.heap.size w V := nB hV_V
  replace hA : AP V ap s O := nA hV_V
  have z_V := zS hV_V
  clear hV_V
  refine (lLen_calls _ _ hA).mono ?_
  rintro e_W1 W1 ⟨rfl, hb_W1⟩
  replace hA := hA.below hb_W1
  replace hB := below_step hB hb_W1
  have z_W1 := hb_W1.size
  clear hb_W1
  go_wp2_with fail
  refine wp_gen fun V1 hV_V1 => ?_
  replace hB : Below w.heap.size w V1 := nB hV_V1
  replace hA : AP V1 ap s O := nA hV_V1
  have z_V1 := zS hV_V1
  clear hV_V1
  go_loopg [5, 12] (lLen s h).toNat (fun k p q wr => ∃ (i : Int) (d0 rest : List (Int × Int)), q = .int .i64 i ∧ 0 ≤ i ∧ i ≤ 50000 ∧ (d0.length : Int) = i ∧ k = (lLen s h - i).toNat ∧ Hid (eachO (fun i => (lGet s h i).map (·.1)) k i = some rest) ∧ Hid (l = d0 ++ rest) ∧ Hid (wr.ownsRow w.heap.size 56 2 p d0.length (itemCells d0)) ∧ Below w.heap.size w wr)
  case atStart => exact ⟨0, [], l, rfl, by omega, by omega, rfl, by simp, hr', Lib.hid rfl, Lib.hid (own_nil _ _ _ _), hB⟩
  case round =>
    clear hA hB hr'
    obtain ⟨i, d0, rest, rfl, hi0, hi1, hdl, hk, He, Hl, Hown, hB0⟩ := hrel
    have hA := hA0.out.below hB0
    by_cases hlt : i < lLen s h
    · have d1 : decide (i < lLen s h) = true := by simpa using hlt
      obtain ⟨k, rfl⟩ : ∃ k, gk = k + 1 := ⟨gk - 1, by omega⟩
      have he := He.out
      unfold eachO at he
      obtain ⟨x, hx, he⟩ := Option.bind_eq_some_iff.1 he
      obtain ⟨rest', he', hrest⟩ := Option.bind_eq_some_iff.1 he
      obtain ⟨g, hg, hgx⟩ := Option.map_eq_some_iff.1 hx
      have hrest := Option.some.inj hrest
      have hlx : l.length = d0.length + (1 + rest'.length) := by rw [Hl.out, ← hrest]; simp; omega
      have Hg := Lib.hid hg
      have Hx := Lib.hid hgx
      have He' := Lib.hid he'
      have Hl' : Hid (l = (d0 ++ [x]) ++ rest') := Lib.hid (by rw [Hl.out, ← hrest]; simp)
      clear He Hl he hx he' hrest hg hgx
      have hw0 := hB0.size
      have HB0 := Lib.hid hB0; clear hB0
      have hB := Below.refl wr.heap.size wr
      go_wp2_with fail
      refine calls_gen fun V2 hV_V2 => ?_
      replace hB : Below wr.heap.size wr V2 := nB hV_V2
      replace hA : AP V2 ap s O := nA hV_V2
      have z_V2 := zS hV_V2
      clear hV_V2
      refine (lGet_calls _ _ g Hg.out _ hA).mono ?_
      rintro e_W2 W2 ⟨rfl, hb_W2⟩
      replace hA := hA.below hb_W2
      replace hB := below_step hB hb_W2
      have z_W2 := hb_W2.size
      clear hb_W2
      have Hbl := Lib.hid (below_step HB0.out hB)
      have hown := own_below Hown.out hB
      clear Hown
      go_wp2_with (at_builtin; refine wpList_push _ (by rfl) _ _ 97 (by rfl) (w.heap.size) 56 (.agg #[.int .i64 0, .int .i64 0]) 2 16 Tryz.underlying97 (by kernel_rfl) (by rfl) (by omega) _ _ _ (by rfl) (hown.alloc _) _ (by rfl) (by rw [siz_alloc]; rfl) (by simp [Value.oneCell']) (by unfold maxLen; omega) (by omega) (by simp only [siz_alloc]; omega) ?_; intro g_W c_W W3 hown_W hlow_W hlt_W)
      have h1 : wrap64 (i + 1) = i + 1 := IntWalk.wrap64_in _ (by omega)
      go_wp2_with fail
      go_roundg k
      case measure => omega
      case rel =>
        refine ⟨i + 1, d0 ++ [x], rest', by rw [← h1], by omega, by omega, by simp; omega, by omega, He', Hl', ?_, low_step (Hbl.out.alloc (by omega) _) (by omega) hlow_W⟩
        rw [itemCells_append, List.length_append, ← Hx.out]
        exact Lib.hid hown_W
    · have d1 : decide (i < lLen s h) = false := by simpa using hlt
      obtain rfl : gk = 0 := by omega
      have he := He.out
      unfold eachO at he
      obtain rfl := Option.some.inj he
      have hl2 := Hl.out
      simp only [List.append_nil] at hl2
      have hn : d0.length = l.length := by rw [hl2]
      clear He Hl he
      go_wp2_with fail
      go_ret
      refine ⟨u5, rfl, ?_, hB0⟩
      rw [hl2]; exact Hown.out
end Go.Proofs.YtdjpjmkpndmhaaaGreat
/- The tree that makes nodes of lists: join. -/
namespace Go.Proofs.YtdjpjmkpndmhaaaGreat
set_option linter.unusedSimpArgs false
set_option linter.unusedVariables false
set_option linter.unnecessarySimpa false
open Go.RowKit
attribute [local go_sem ↓] Go.wp_at_zero Go.wp_at_succ
attribute [local go_sem] lt_s2 lt_s3 lt_s4
variable {ap : Value} {O : Nat → Prop} {tb : Nat} {t : Tb}
set_option maxRecDepth 100000 in
set_option maxHeartbeats 4000000 in
theorem lJoin_calls (x y : Int) (r : Int × Tb) (hr : t.join x y = some r) (w : World) (hT : LB w tb ap t O) :
  Calls Tryz.prog 116 #[.pointer (some ⟨tb, 0, none⟩), .int .i64 x, .int .i64 y] w fun e w' => e = .returned (.int .i64 r.1) ∧ DidL tb ap r.2 O w w' := by
 unfold Tb.join at hr
 obtain ⟨p, h_b, h_r⟩ := Option.bind_eq_some_iff.1 hr
 have Hp := Lib.hid h_b; clear h_b hr; have hr := h_r; clear h_r
 obtain ⟨q, h_b, h_r⟩ := Option.bind_eq_some_iff.1 hr
 have Hq := Lib.hid h_b; clear h_b hr; have hr := h_r; clear h_r
 by_cases he : t.e = 0
 ·
  have d1 : (t.e != 0) = false := by simp [he]
  rw [if_pos he] at hr
  clear he
  by_cases hx : x = 0
  ·
   have x1 : (x == 0) = true := by simpa using hx
   rw [if_pos (.inl hx)] at hr
   obtain rfl := Option.some.inj hr
   clear hr hx
   go_enter Tryz.func116, Tryz.ntmps116
   have hA := hT.hA
   have kt := hT.blk
   have o_kt := hT.no
   obtain ⟨c_kt, f_kt, l_kt_w⟩ := f3 kt
   go_wp2_with fail
   refine calls_gen fun VW1 hV_VW1 => ?_
   replace kt := kK hV_VW1 kt
   have hF : Fr ((oneX tb)) O O w VW1 := nF hV_VW1
   replace hA : AP VW1 ap t.s O := nA hV_VW1
   have z_VW1 := zS hV_VW1
   clear hV_VW1 c_kt f_kt
   obtain ⟨c_kt, f_kt, l_kt_VW1⟩ := f3 kt
   refine (lHigh_calls (t := t) _ _ _ _ Hp.out ⟨hA, kt, o_kt⟩).mono ?_
   rintro e_W1 W1 ⟨rfl, hb_W1⟩
   replace hA := hA.below hb_W1
   replace hF := hF.below hb_W1
   replace kt := keep_blk hb_W1 kt
   have z_W1 := hb_W1.size
   clear hb_W1 c_kt f_kt
   obtain ⟨c_kt, f_kt, l_kt_W1⟩ := f3 kt
   go_wp2_with fail
   refine calls_gen fun VW2 hV_VW2 => ?_
   replace kt := kK hV_VW2 kt
   replace hF : Fr ((oneX tb)) O O w VW2 := nF hV_VW2
   replace hA : AP VW2 ap t.s O := nA hV_VW2
   have z_VW2 := zS hV_VW2
   clear hV_VW2 c_kt f_kt
   obtain ⟨c_kt, f_kt, l_kt_VW2⟩ := f3 kt
   refine (lHigh_calls (t := t) _ _ _ _ Hq.out ⟨hA, kt, o_kt⟩).mono ?_
   rintro e_W2 W2 ⟨rfl, hb_W2⟩
   replace hA := hA.below hb_W2
   replace hF := hF.below hb_W2
   replace kt := keep_blk hb_W2 kt
   have z_W2 := hb_W2.size
   clear hb_W2 c_kt f_kt
   obtain ⟨c_kt, f_kt, l_kt_W2⟩ := f3 kt
   go_wp2_with fail
   go_ret
   exact ⟨rfl, O, ⟨hA, kt, o_kt⟩, hF⟩
  have x1 : (x == 0) = false := by simpa using hx
  by_cases hy : y = 0
  ·
   have y1 : (y == 0) = true := by simpa using hy
   rw [if_pos (.inr hy)] at hr
   obtain rfl := Option.some.inj hr
   clear hr hx hy
   go_enter Tryz.func116, Tryz.ntmps116
   have hA := hT.hA
   have kt := hT.blk
   have o_kt := hT.no
   obtain ⟨c_kt, f_kt, l_kt_w⟩ := f3 kt
   go_wp2_with fail
   refine calls_gen fun VW1 hV_VW1 => ?_
   replace kt := kK hV_VW1 kt
   have hF : Fr ((oneX tb)) O O w VW1 := nF hV_VW1
   replace hA : AP VW1 ap t.s O := nA hV_VW1
   have z_VW1 := zS hV_VW1
   clear hV_VW1 c_kt f_kt
   obtain ⟨c_kt, f_kt, l_kt_VW1⟩ := f3 kt
   refine (lHigh_calls (t := t) _ _ _ _ Hp.out ⟨hA, kt, o_kt⟩).mono ?_
   rintro e_W1 W1 ⟨rfl, hb_W1⟩
   replace hA := hA.below hb_W1
   replace hF := hF.below hb_W1
   replace kt := keep_blk hb_W1 kt
   have z_W1 := hb_W1.size
   clear hb_W1 c_kt f_kt
   obtain ⟨c_kt, f_kt, l_kt_W1⟩ := f3 kt
   go_wp2_with fail
   refine calls_gen fun VW2 hV_VW2 => ?_
   replace kt := kK hV_VW2 kt
   replace hF : Fr ((oneX tb)) O O w VW2 := nF hV_VW2
   replace hA : AP VW2 ap t.s O := nA hV_VW2
   have z_VW2 := zS hV_VW2
   clear hV_VW2 c_kt f_kt
   obtain ⟨c_kt, f_kt, l_kt_VW2⟩ := f3 kt
   refine (lHigh_calls (t := t) _ _ _ _ Hq.out ⟨hA, kt, o_kt⟩).mono ?_
   rintro e_W2 W2 ⟨rfl, hb_W2⟩
   replace hA := hA.below hb_W2
   replace hF := hF.below hb_W2
   replace kt := keep_blk hb_W2 kt
   have z_W2 := hb_W2.size
   clear hb_W2 c_kt f_kt
   obtain ⟨c_kt, f_kt, l_kt_W2⟩ := f3 kt
   go_wp2_with fail
   go_ret
   exact ⟨rfl, O, ⟨hA, kt, o_kt⟩, hF⟩
  have y1 : (y == 0) = false := by simpa using hy
  rw [if_neg (by intro h; rcases h with h | h; exact hx h; exact hy h)] at hr
  clear hx hy
  by_cases c1 : wrap64 (q + 1) < p
  ·
   have d2 : decide (wrap64 (q + 1) < p) = true := by simpa using c1
   rw [if_pos c1] at hr
   clear c1
   dsimp only at hr
   obtain ⟨a, h_b, h_r⟩ := Option.bind_eq_some_iff.1 hr
   have Ha := Lib.hid h_b; clear h_b hr; have hr := h_r; clear h_r
   obtain ⟨b, h_b, h_r⟩ := Option.bind_eq_some_iff.1 hr
   have Hb := Lib.hid h_b; clear h_b hr; have hr := h_r; clear h_r
   by_cases c2 : b ≤ a
   ·
    have d3 : decide (b ≤ a) = true := by simpa using c2
    rw [if_pos c2] at hr
    clear c2
    obtain rfl := Option.some.inj hr
    clear hr
    go_enter Tryz.func116, Tryz.ntmps116
    have hA := hT.hA
    have kt := hT.blk
    have o_kt := hT.no
    obtain ⟨c_kt, f_kt, l_kt_w⟩ := f3 kt
    go_wp2_with fail
    refine calls_gen fun VW1 hV_VW1 => ?_
    replace kt := kK hV_VW1 kt
    have hF : Fr ((oneX tb)) O O w VW1 := nF hV_VW1
    replace hA : AP VW1 ap t.s O := nA hV_VW1
    have z_VW1 := zS hV_VW1
    clear hV_VW1 c_kt f_kt
    obtain ⟨c_kt, f_kt, l_kt_VW1⟩ := f3 kt
    refine (lHigh_calls (t := t) _ _ _ _ Hp.out ⟨hA, kt, o_kt⟩).mono ?_
    rintro e_W1 W1 ⟨rfl, hb_W1⟩
    replace hA := hA.below hb_W1
    replace hF := hF.below hb_W1
    replace kt := keep_blk hb_W1 kt
    have z_W1 := hb_W1.size
    clear hb_W1 c_kt f_kt
    obtain ⟨c_kt, f_kt, l_kt_W1⟩ := f3 kt
    go_wp2_with fail
    refine calls_gen fun VW2 hV_VW2 => ?_
    replace kt := kK hV_VW2 kt
    replace hF : Fr ((oneX tb)) O O w VW2 := nF hV_VW2
    replace hA : AP VW2 ap t.s O := nA hV_VW2
    have z_VW2 := zS hV_VW2
    clear hV_VW2 c_kt f_kt
    obtain ⟨c_kt, f_kt, l_kt_VW2⟩ := f3 kt
    refine (lHigh_calls (t := t) _ _ _ _ Hq.out ⟨hA, kt, o_kt⟩).mono ?_
    rintro e_W2 W2 ⟨rfl, hb_W2⟩
    replace hA := hA.below hb_W2
    replace hF := hF.below hb_W2
    replace kt := keep_blk hb_W2 kt
    have z_W2 := hb_W2.size
    clear hb_W2 c_kt f_kt
    obtain ⟨c_kt, f_kt, l_kt_W2⟩ := f3 kt
    go_wp2_with fail
    refine calls_gen fun VW3 hV_VW3 => ?_
    replace kt := kK hV_VW3 kt
    replace hF : Fr ((oneX tb)) O O w VW3 := nF hV_VW3
    replace hA : AP VW3 ap t.s O := nA hV_VW3
    have z_VW3 := zS hV_VW3
    clear hV_VW3 c_kt f_kt
    obtain ⟨c_kt, f_kt, l_kt_VW3⟩ := f3 kt
    refine (lOpen_calls (t := t) x _ ⟨hA, kt, o_kt⟩).mono ?_
    rintro e_W3 W3 ⟨rfl, O1, hT_W3, hf_W3⟩
    clear kt c_kt f_kt o_kt; have kt := hT_W3.blk; have o_kt := hT_W3.no
    obtain ⟨c_kt, f_kt, l_kt_W3⟩ := f3 kt
    replace hF := hF.trans hf_W3
    have z_W3 := hf_W3.size
    clear hA hf_W3; have hA := hT_W3.hA; clear hT_W3
    go_wp2_with fail
    refine calls_gen fun VW4 hV_VW4 => ?_
    replace kt := kK hV_VW4 kt
    replace hF : Fr ((oneX tb)) O O1 w VW4 := nF hV_VW4
    replace hA : AP VW4 ap ((t).opened x).s O1 := nA hV_VW4
    have z_VW4 := zS hV_VW4
    clear hV_VW4 c_kt f_kt
    obtain ⟨c_kt, f_kt, l_kt_VW4⟩ := f3 kt
    refine (lHigh_calls (t := t.opened x) _ _ _ _ Ha.out ⟨hA, kt, o_kt⟩).mono ?_
    rintro e_W4 W4 ⟨rfl, hb_W4⟩
    replace hA := hA.below hb_W4
    replace hF := hF.below hb_W4
    replace kt := keep_blk hb_W4 kt
    have z_W4 := hb_W4.size
    clear hb_W4 c_kt f_kt
    obtain ⟨c_kt, f_kt, l_kt_W4⟩ := f3 kt
    go_wp2_with fail
    refine calls_gen fun VW5 hV_VW5 => ?_
    replace kt := kK hV_VW5 kt
    replace hF : Fr ((oneX tb)) O O1 w VW5 := nF hV_VW5
    replace hA : AP VW5 ap ((t).opened x).s O1 := nA hV_VW5
    have z_VW5 := zS hV_VW5
    clear hV_VW5 c_kt f_kt
    obtain ⟨c_kt, f_kt, l_kt_VW5⟩ := f3 kt
    refine (lHigh_calls (t := t.opened x) _ _ _ _ Hb.out ⟨hA, kt, o_kt⟩).mono ?_
    rintro e_W5 W5 ⟨rfl, hb_W5⟩
    replace hA := hA.below hb_W5
    replace hF := hF.below hb_W5
    replace kt := keep_blk hb_W5 kt
    have z_W5 := hb_W5.size
    clear hb_W5 c_kt f_kt
    obtain ⟨c_kt, f_kt, l_kt_W5⟩ := f3 kt
    go_wp2_with fail
    refine calls_gen fun VW6 hV_VW6 => ?_
    replace kt := kK hV_VW6 kt
    replace hF : Fr ((oneX tb)) O O1 w VW6 := nF hV_VW6
    replace hA : AP VW6 ap ((t).opened x).s O1 := nA hV_VW6
    have z_VW6 := zS hV_VW6
    clear hV_VW6 c_kt f_kt
    obtain ⟨c_kt, f_kt, l_kt_VW6⟩ := f3 kt
    refine (lPair_calls (t := t.opened x) _ _ _ ⟨hA, kt, o_kt⟩).mono ?_
    rintro e_W6 W6 ⟨rfl, O2, hT_W6, hf_W6⟩
    clear kt c_kt f_kt o_kt; have kt := hT_W6.blk; have o_kt := hT_W6.no
    obtain ⟨c_kt, f_kt, l_kt_W6⟩ := f3 kt
    replace hF := hF.trans hf_W6
    have z_W6 := hf_W6.size
    clear hA hf_W6; have hA := hT_W6.hA; clear hT_W6
    go_wp2_with fail
    refine calls_gen fun VW7 hV_VW7 => ?_
    replace kt := kK hV_VW7 kt
    replace hF : Fr ((oneX tb)) O O2 w VW7 := nF hV_VW7
    replace hA : AP VW7 ap (((t.opened x).lpair (t.s.get x).k1 y).2).s O2 := nA hV_VW7
    have z_VW7 := zS hV_VW7
    clear hV_VW7 c_kt f_kt
    obtain ⟨c_kt, f_kt, l_kt_VW7⟩ := f3 kt
    refine (lPair_calls (t := ((t.opened x).lpair (t.s.get x).k1 y).2) _ _ _ ⟨hA, kt, o_kt⟩).mono ?_
    rintro e_W7 W7 ⟨rfl, O3, hT_W7, hf_W7⟩
    clear kt c_kt f_kt o_kt; have kt := hT_W7.blk; have o_kt := hT_W7.no
    obtain ⟨c_kt, f_kt, l_kt_W7⟩ := f3 kt
    replace hF := hF.trans hf_W7
    have z_W7 := hf_W7.size
    clear hA hf_W7; have hA := hT_W7.hA; clear hT_W7
    go_wp2_with fail
    go_ret
    exact ⟨rfl, O3, ⟨hA, kt, o_kt⟩, hF⟩
   ·
    have d3 : decide (b ≤ a) = false := by simpa using c2
    rw [if_neg c2] at hr
    clear c2
    obtain rfl := Option.some.inj hr
    clear hr
    go_enter Tryz.func116, Tryz.ntmps116
    have hA := hT.hA
    have kt := hT.blk
    have o_kt := hT.no
    obtain ⟨c_kt, f_kt, l_kt_w⟩ := f3 kt
    go_wp2_with fail
    refine calls_gen fun VW1 hV_VW1 => ?_
    replace kt := kK hV_VW1 kt
    have hF : Fr ((oneX tb)) O O w VW1 := nF hV_VW1
    replace hA : AP VW1 ap t.s O := nA hV_VW1
    have z_VW1 := zS hV_VW1
    clear hV_VW1 c_kt f_kt
    obtain ⟨c_kt, f_kt, l_kt_VW1⟩ := f3 kt
    refine (lHigh_calls (t := t) _ _ _ _ Hp.out ⟨hA, kt, o_kt⟩).mono ?_
    rintro e_W1 W1 ⟨rfl, hb_W1⟩
    replace hA := hA.below hb_W1
    replace hF := hF.below hb_W1
    replace kt := keep_blk hb_W1 kt
    have z_W1 := hb_W1.size
    clear hb_W1 c_kt f_kt
    obtain ⟨c_kt, f_kt, l_kt_W1⟩ := f3 kt
    go_wp2_with fail
    refine calls_gen fun VW2 hV_VW2 => ?_
    replace kt := kK hV_VW2 kt
    replace hF : Fr ((oneX tb)) O O w VW2 := nF hV_VW2
    replace hA : AP VW2 ap t.s O := nA hV_VW2
    have z_VW2 := zS hV_VW2
    clear hV_VW2 c_kt f_kt
    obtain ⟨c_kt, f_kt, l_kt_VW2⟩ := f3 kt
    refine (lHigh_calls (t := t) _ _ _ _ Hq.out ⟨hA, kt, o_kt⟩).mono ?_
    rintro e_W2 W2 ⟨rfl, hb_W2⟩
    replace hA := hA.below hb_W2
    replace hF := hF.below hb_W2
    replace kt := keep_blk hb_W2 kt
    have z_W2 := hb_W2.size
    clear hb_W2 c_kt f_kt
    obtain ⟨c_kt, f_kt, l_kt_W2⟩ := f3 kt
    go_wp2_with fail
    refine calls_gen fun VW3 hV_VW3 => ?_
    replace kt := kK hV_VW3 kt
    replace hF : Fr ((oneX tb)) O O w VW3 := nF hV_VW3
    replace hA : AP VW3 ap t.s O := nA hV_VW3
    have z_VW3 := zS hV_VW3
    clear hV_VW3 c_kt f_kt
    obtain ⟨c_kt, f_kt, l_kt_VW3⟩ := f3 kt
    refine (lOpen_calls (t := t) x _ ⟨hA, kt, o_kt⟩).mono ?_
    rintro e_W3 W3 ⟨rfl, O1, hT_W3, hf_W3⟩
    clear kt c_kt f_kt o_kt; have kt := hT_W3.blk; have o_kt := hT_W3.no
    obtain ⟨c_kt, f_kt, l_kt_W3⟩ := f3 kt
    replace hF := hF.trans hf_W3
    have z_W3 := hf_W3.size
    clear hA hf_W3; have hA := hT_W3.hA; clear hT_W3
    go_wp2_with fail
    refine calls_gen fun VW4 hV_VW4 => ?_
    replace kt := kK hV_VW4 kt
    replace hF : Fr ((oneX tb)) O O1 w VW4 := nF hV_VW4
    replace hA : AP VW4 ap ((t).opened x).s O1 := nA hV_VW4
    have z_VW4 := zS hV_VW4
    clear hV_VW4 c_kt f_kt
    obtain ⟨c_kt, f_kt, l_kt_VW4⟩ := f3 kt
    refine (lHigh_calls (t := t.opened x) _ _ _ _ Ha.out ⟨hA, kt, o_kt⟩).mono ?_
    rintro e_W4 W4 ⟨rfl, hb_W4⟩
    replace hA := hA.below hb_W4
    replace hF := hF.below hb_W4
    replace kt := keep_blk hb_W4 kt
    have z_W4 := hb_W4.size
    clear hb_W4 c_kt f_kt
    obtain ⟨c_kt, f_kt, l_kt_W4⟩ := f3 kt
    go_wp2_with fail
    refine calls_gen fun VW5 hV_VW5 => ?_
    replace kt := kK hV_VW5 kt
    replace hF : Fr ((oneX tb)) O O1 w VW5 := nF hV_VW5
    replace hA : AP VW5 ap ((t).opened x).s O1 := nA hV_VW5
    have z_VW5 := zS hV_VW5
    clear hV_VW5 c_kt f_kt
    obtain ⟨c_kt, f_kt, l_kt_VW5⟩ := f3 kt
    refine (lHigh_calls (t := t.opened x) _ _ _ _ Hb.out ⟨hA, kt, o_kt⟩).mono ?_
    rintro e_W5 W5 ⟨rfl, hb_W5⟩
    replace hA := hA.below hb_W5
    replace hF := hF.below hb_W5
    replace kt := keep_blk hb_W5 kt
    have z_W5 := hb_W5.size
    clear hb_W5 c_kt f_kt
    obtain ⟨c_kt, f_kt, l_kt_W5⟩ := f3 kt
    go_wp2_with fail
    refine calls_gen fun VW6 hV_VW6 => ?_
    replace kt := kK hV_VW6 kt
    replace hF : Fr ((oneX tb)) O O1 w VW6 := nF hV_VW6
    replace hA : AP VW6 ap ((t).opened x).s O1 := nA hV_VW6
    have z_VW6 := zS hV_VW6
    clear hV_VW6 c_kt f_kt
    obtain ⟨c_kt, f_kt, l_kt_VW6⟩ := f3 kt
    refine (lOpen_calls (t := t.opened x) (t.s.get x).k1 _ ⟨hA, kt, o_kt⟩).mono ?_
    rintro e_W6 W6 ⟨rfl, O2, hT_W6, hf_W6⟩
    clear kt c_kt f_kt o_kt; have kt := hT_W6.blk; have o_kt := hT_W6.no
    obtain ⟨c_kt, f_kt, l_kt_W6⟩ := f3 kt
    replace hF := hF.trans hf_W6
    have z_W6 := hf_W6.size
    clear hA hf_W6; have hA := hT_W6.hA; clear hT_W6
    go_wp2_with fail
    refine calls_gen fun VW7 hV_VW7 => ?_
    replace kt := kK hV_VW7 kt
    replace hF : Fr ((oneX tb)) O O2 w VW7 := nF hV_VW7
    replace hA : AP VW7 ap ((t.opened x).opened (t.s.get x).k1).s O2 := nA hV_VW7
    have z_VW7 := zS hV_VW7
    clear hV_VW7 c_kt f_kt
    obtain ⟨c_kt, f_kt, l_kt_VW7⟩ := f3 kt
    refine (lPair_calls (t := (t.opened x).opened (t.s.get x).k1) _ _ _ ⟨hA, kt, o_kt⟩).mono ?_
    rintro e_W7 W7 ⟨rfl, O3, hT_W7, hf_W7⟩
    clear kt c_kt f_kt o_kt; have kt := hT_W7.blk; have o_kt := hT_W7.no
    obtain ⟨c_kt, f_kt, l_kt_W7⟩ := f3 kt
    replace hF := hF.trans hf_W7
    have z_W7 := hf_W7.size
    clear hA hf_W7; have hA := hT_W7.hA; clear hT_W7
    go_wp2_with fail
    refine calls_gen fun VW8 hV_VW8 => ?_
    replace kt := kK hV_VW8 kt
    replace hF : Fr ((oneX tb)) O O3 w VW8 := nF hV_VW8
    replace hA : AP VW8 ap ((((t.opened x).opened (t.s.get x).k1).lpair (t.s.get x).k0 ((t.opened x).s.get (t.s.get x).k1).k0).2).s O3 := nA hV_VW8
    have z_VW8 := zS hV_VW8
    clear hV_VW8 c_kt f_kt
    obtain ⟨c_kt, f_kt, l_kt_VW8⟩ := f3 kt
    refine (lPair_calls (t := (((t.opened x).opened (t.s.get x).k1).lpair (t.s.get x).k0 ((t.opened x).s.get (t.s.get x).k1).k0).2) _ _ _ ⟨hA, kt, o_kt⟩).mono ?_
    rintro e_W8 W8 ⟨rfl, O4, hT_W8, hf_W8⟩
    clear kt c_kt f_kt o_kt; have kt := hT_W8.blk; have o_kt := hT_W8.no
    obtain ⟨c_kt, f_kt, l_kt_W8⟩ := f3 kt
    replace hF := hF.trans hf_W8
    have z_W8 := hf_W8.size
    clear hA hf_W8; have hA := hT_W8.hA; clear hT_W8
    go_wp2_with fail
    refine calls_gen fun VW9 hV_VW9 => ?_
    replace kt := kK hV_VW9 kt
    replace hF : Fr ((oneX tb)) O O4 w VW9 := nF hV_VW9
    replace hA : AP VW9 ap ((((((t.opened x).opened (t.s.get x).k1).lpair (t.s.get x).k0 ((t.opened x).s.get (t.s.get x).k1).k0).2).lpair ((t.opened x).s.get (t.s.get x).k1).k1 y).2).s O4 := nA hV_VW9
    have z_VW9 := zS hV_VW9
    clear hV_VW9 c_kt f_kt
    obtain ⟨c_kt, f_kt, l_kt_VW9⟩ := f3 kt
    refine (lPair_calls (t := ((((t.opened x).opened (t.s.get x).k1).lpair (t.s.get x).k0 ((t.opened x).s.get (t.s.get x).k1).k0).2.lpair ((t.opened x).s.get (t.s.get x).k1).k1 y).2) _ _ _ ⟨hA, kt, o_kt⟩).mono ?_
    rintro e_W9 W9 ⟨rfl, O5, hT_W9, hf_W9⟩
    clear kt c_kt f_kt o_kt; have kt := hT_W9.blk; have o_kt := hT_W9.no
    obtain ⟨c_kt, f_kt, l_kt_W9⟩ := f3 kt
    replace hF := hF.trans hf_W9
    have z_W9 := hf_W9.size
    clear hA hf_W9; have hA := hT_W9.hA; clear hT_W9
    go_wp2_with fail
    go_ret
    exact ⟨rfl, O5, ⟨hA, kt, o_kt⟩, hF⟩
  ·
   have d2 : decide (wrap64 (q + 1) < p) = false := by simpa using c1
   rw [if_neg c1] at hr
   clear c1
   by_cases c3 : wrap64 (p + 1) < q
   ·
    have d4 : decide (wrap64 (p + 1) < q) = true := by simpa using c3
    rw [if_pos c3] at hr
    clear c3
    dsimp only at hr
    obtain ⟨a, h_b, h_r⟩ := Option.bind_eq_some_iff.1 hr
    have Ha := Lib.hid h_b; clear h_b hr; have hr := h_r; clear h_r
    obtain ⟨b, h_b, h_r⟩ := Option.bind_eq_some_iff.1 hr
    have Hb := Lib.hid h_b; clear h_b hr; have hr := h_r; clear h_r
    by_cases c2 : b ≤ a
    ·
     have d3 : decide (b ≤ a) = true := by simpa using c2
     rw [if_pos c2] at hr
     clear c2
     obtain rfl := Option.some.inj hr
     clear hr
     go_enter Tryz.func116, Tryz.ntmps116
     have hA := hT.hA
     have kt := hT.blk
     have o_kt := hT.no
     obtain ⟨c_kt, f_kt, l_kt_w⟩ := f3 kt
     go_wp2_with fail
     refine calls_gen fun VW1 hV_VW1 => ?_
     replace kt := kK hV_VW1 kt
     have hF : Fr ((oneX tb)) O O w VW1 := nF hV_VW1
     replace hA : AP VW1 ap t.s O := nA hV_VW1
     have z_VW1 := zS hV_VW1
     clear hV_VW1 c_kt f_kt
     obtain ⟨c_kt, f_kt, l_kt_VW1⟩ := f3 kt
     refine (lHigh_calls (t := t) _ _ _ _ Hp.out ⟨hA, kt, o_kt⟩).mono ?_
     rintro e_W1 W1 ⟨rfl, hb_W1⟩
     replace hA := hA.below hb_W1
     replace hF := hF.below hb_W1
     replace kt := keep_blk hb_W1 kt
     have z_W1 := hb_W1.size
     clear hb_W1 c_kt f_kt
     obtain ⟨c_kt, f_kt, l_kt_W1⟩ := f3 kt
     go_wp2_with fail
     refine calls_gen fun VW2 hV_VW2 => ?_
     replace kt := kK hV_VW2 kt
     replace hF : Fr ((oneX tb)) O O w VW2 := nF hV_VW2
     replace hA : AP VW2 ap t.s O := nA hV_VW2
     have z_VW2 := zS hV_VW2
     clear hV_VW2 c_kt f_kt
     obtain ⟨c_kt, f_kt, l_kt_VW2⟩ := f3 kt
     refine (lHigh_calls (t := t) _ _ _ _ Hq.out ⟨hA, kt, o_kt⟩).mono ?_
     rintro e_W2 W2 ⟨rfl, hb_W2⟩
     replace hA := hA.below hb_W2
     replace hF := hF.below hb_W2
     replace kt := keep_blk hb_W2 kt
     have z_W2 := hb_W2.size
     clear hb_W2 c_kt f_kt
     obtain ⟨c_kt, f_kt, l_kt_W2⟩ := f3 kt
     go_wp2_with fail
     refine calls_gen fun VW3 hV_VW3 => ?_
     replace kt := kK hV_VW3 kt
     replace hF : Fr ((oneX tb)) O O w VW3 := nF hV_VW3
     replace hA : AP VW3 ap t.s O := nA hV_VW3
     have z_VW3 := zS hV_VW3
     clear hV_VW3 c_kt f_kt
     obtain ⟨c_kt, f_kt, l_kt_VW3⟩ := f3 kt
     refine (lOpen_calls (t := t) y _ ⟨hA, kt, o_kt⟩).mono ?_
     rintro e_W3 W3 ⟨rfl, O1, hT_W3, hf_W3⟩
     clear kt c_kt f_kt o_kt; have kt := hT_W3.blk; have o_kt := hT_W3.no
     obtain ⟨c_kt, f_kt, l_kt_W3⟩ := f3 kt
     replace hF := hF.trans hf_W3
     have z_W3 := hf_W3.size
     clear hA hf_W3; have hA := hT_W3.hA; clear hT_W3
     go_wp2_with fail
     refine calls_gen fun VW4 hV_VW4 => ?_
     replace kt := kK hV_VW4 kt
     replace hF : Fr ((oneX tb)) O O1 w VW4 := nF hV_VW4
     replace hA : AP VW4 ap ((t).opened y).s O1 := nA hV_VW4
     have z_VW4 := zS hV_VW4
     clear hV_VW4 c_kt f_kt
     obtain ⟨c_kt, f_kt, l_kt_VW4⟩ := f3 kt
     refine (lHigh_calls (t := t.opened y) _ _ _ _ Ha.out ⟨hA, kt, o_kt⟩).mono ?_
     rintro e_W4 W4 ⟨rfl, hb_W4⟩
     replace hA := hA.below hb_W4
     replace hF := hF.below hb_W4
     replace kt := keep_blk hb_W4 kt
     have z_W4 := hb_W4.size
     clear hb_W4 c_kt f_kt
     obtain ⟨c_kt, f_kt, l_kt_W4⟩ := f3 kt
     go_wp2_with fail
     refine calls_gen fun VW5 hV_VW5 => ?_
     replace kt := kK hV_VW5 kt
     replace hF : Fr ((oneX tb)) O O1 w VW5 := nF hV_VW5
     replace hA : AP VW5 ap ((t).opened y).s O1 := nA hV_VW5
     have z_VW5 := zS hV_VW5
     clear hV_VW5 c_kt f_kt
     obtain ⟨c_kt, f_kt, l_kt_VW5⟩ := f3 kt
     refine (lHigh_calls (t := t.opened y) _ _ _ _ Hb.out ⟨hA, kt, o_kt⟩).mono ?_
     rintro e_W5 W5 ⟨rfl, hb_W5⟩
     replace hA := hA.below hb_W5
     replace hF := hF.below hb_W5
     replace kt := keep_blk hb_W5 kt
     have z_W5 := hb_W5.size
     clear hb_W5 c_kt f_kt
     obtain ⟨c_kt, f_kt, l_kt_W5⟩ := f3 kt
     go_wp2_with fail
     refine calls_gen fun VW6 hV_VW6 => ?_
     replace kt := kK hV_VW6 kt
     replace hF : Fr ((oneX tb)) O O1 w VW6 := nF hV_VW6
     replace hA : AP VW6 ap ((t).opened y).s O1 := nA hV_VW6
     have z_VW6 := zS hV_VW6
     clear hV_VW6 c_kt f_kt
     obtain ⟨c_kt, f_kt, l_kt_VW6⟩ := f3 kt
     refine (lPair_calls (t := t.opened y) _ _ _ ⟨hA, kt, o_kt⟩).mono ?_
     rintro e_W6 W6 ⟨rfl, O2, hT_W6, hf_W6⟩
     clear kt c_kt f_kt o_kt; have kt := hT_W6.blk; have o_kt := hT_W6.no
     obtain ⟨c_kt, f_kt, l_kt_W6⟩ := f3 kt
     replace hF := hF.trans hf_W6
     have z_W6 := hf_W6.size
     clear hA hf_W6; have hA := hT_W6.hA; clear hT_W6
     go_wp2_with fail
     refine calls_gen fun VW7 hV_VW7 => ?_
     replace kt := kK hV_VW7 kt
     replace hF : Fr ((oneX tb)) O O2 w VW7 := nF hV_VW7
     replace hA : AP VW7 ap (((t.opened y).lpair x (t.s.get y).k0).2).s O2 := nA hV_VW7
     have z_VW7 := zS hV_VW7
     clear hV_VW7 c_kt f_kt
     obtain ⟨c_kt, f_kt, l_kt_VW7⟩ := f3 kt
     refine (lPair_calls (t := ((t.opened y).lpair x (t.s.get y).k0).2) _ _ _ ⟨hA, kt, o_kt⟩).mono ?_
     rintro e_W7 W7 ⟨rfl, O3, hT_W7, hf_W7⟩
     clear kt c_kt f_kt o_kt; have kt := hT_W7.blk; have o_kt := hT_W7.no
     obtain ⟨c_kt, f_kt, l_kt_W7⟩ := f3 kt
     replace hF := hF.trans hf_W7
     have z_W7 := hf_W7.size
     clear hA hf_W7; have hA := hT_W7.hA; clear hT_W7
     go_wp2_with fail
     go_ret
     exact ⟨rfl, O3, ⟨hA, kt, o_kt⟩, hF⟩
    ·
     have d3 : decide (b ≤ a) = false := by simpa using c2
     rw [if_neg c2] at hr
     clear c2
     obtain rfl := Option.some.inj hr
     clear hr
     go_enter Tryz.func116, Tryz.ntmps116
     have hA := hT.hA
     have kt := hT.blk
     have o_kt := hT.no
     obtain ⟨c_kt, f_kt, l_kt_w⟩ := f3 kt
     go_wp2_with fail
     refine calls_gen fun VW1 hV_VW1 => ?_
     replace kt := kK hV_VW1 kt
     have hF : Fr ((oneX tb)) O O w VW1 := nF hV_VW1
     replace hA : AP VW1 ap t.s O := nA hV_VW1
     have z_VW1 := zS hV_VW1
     clear hV_VW1 c_kt f_kt
     obtain ⟨c_kt, f_kt, l_kt_VW1⟩ := f3 kt
     refine (lHigh_calls (t := t) _ _ _ _ Hp.out ⟨hA, kt, o_kt⟩).mono ?_
     rintro e_W1 W1 ⟨rfl, hb_W1⟩
     replace hA := hA.below hb_W1
     replace hF := hF.below hb_W1
     replace kt := keep_blk hb_W1 kt
     have z_W1 := hb_W1.size
     clear hb_W1 c_kt f_kt
     obtain ⟨c_kt, f_kt, l_kt_W1⟩ := f3 kt
     go_wp2_with fail
     refine calls_gen fun VW2 hV_VW2 => ?_
     replace kt := kK hV_VW2 kt
     replace hF : Fr ((oneX tb)) O O w VW2 := nF hV_VW2
     replace hA : AP VW2 ap t.s O := nA hV_VW2
     have z_VW2 := zS hV_VW2
     clear hV_VW2 c_kt f_kt
     obtain ⟨c_kt, f_kt, l_kt_VW2⟩ := f3 kt
     refine (lHigh_calls (t := t) _ _ _ _ Hq.out ⟨hA, kt, o_kt⟩).mono ?_
     rintro e_W2 W2 ⟨rfl, hb_W2⟩
     replace hA := hA.below hb_W2
     replace hF := hF.below hb_W2
     replace kt := keep_blk hb_W2 kt
     have z_W2 := hb_W2.size
     clear hb_W2 c_kt f_kt
     obtain ⟨c_kt, f_kt, l_kt_W2⟩ := f3 kt
     go_wp2_with fail
     refine calls_gen fun VW3 hV_VW3 => ?_
     replace kt := kK hV_VW3 kt
     replace hF : Fr ((oneX tb)) O O w VW3 := nF hV_VW3
     replace hA : AP VW3 ap t.s O := nA hV_VW3
     have z_VW3 := zS hV_VW3
     clear hV_VW3 c_kt f_kt
     obtain ⟨c_kt, f_kt, l_kt_VW3⟩ := f3 kt
     refine (lOpen_calls (t := t) y _ ⟨hA, kt, o_kt⟩).mono ?_
     rintro e_W3 W3 ⟨rfl, O1, hT_W3, hf_W3⟩
     clear kt c_kt f_kt o_kt; have kt := hT_W3.blk; have o_kt := hT_W3.no
     obtain ⟨c_kt, f_kt, l_kt_W3⟩ := f3 kt
     replace hF := hF.trans hf_W3
     have z_W3 := hf_W3.size
     clear hA hf_W3; have hA := hT_W3.hA; clear hT_W3
     go_wp2_with fail
     refine calls_gen fun VW4 hV_VW4 => ?_
     replace kt := kK hV_VW4 kt
     replace hF : Fr ((oneX tb)) O O1 w VW4 := nF hV_VW4
     replace hA : AP VW4 ap ((t).opened y).s O1 := nA hV_VW4
     have z_VW4 := zS hV_VW4
     clear hV_VW4 c_kt f_kt
     obtain ⟨c_kt, f_kt, l_kt_VW4⟩ := f3 kt
     refine (lHigh_calls (t := t.opened y) _ _ _ _ Ha.out ⟨hA, kt, o_kt⟩).mono ?_
     rintro e_W4 W4 ⟨rfl, hb_W4⟩
     replace hA := hA.below hb_W4
     replace hF := hF.below hb_W4
     replace kt := keep_blk hb_W4 kt
     have z_W4 := hb_W4.size
     clear hb_W4 c_kt f_kt
     obtain ⟨c_kt, f_kt, l_kt_W4⟩ := f3 kt
     go_wp2_with fail
     refine calls_gen fun VW5 hV_VW5 => ?_
     replace kt := kK hV_VW5 kt
     replace hF : Fr ((oneX tb)) O O1 w VW5 := nF hV_VW5
     replace hA : AP VW5 ap ((t).opened y).s O1 := nA hV_VW5
     have z_VW5 := zS hV_VW5
     clear hV_VW5 c_kt f_kt
     obtain ⟨c_kt, f_kt, l_kt_VW5⟩ := f3 kt
     refine (lHigh_calls (t := t.opened y) _ _ _ _ Hb.out ⟨hA, kt, o_kt⟩).mono ?_
     rintro e_W5 W5 ⟨rfl, hb_W5⟩
     replace hA := hA.below hb_W5
     replace hF := hF.below hb_W5
     replace kt := keep_blk hb_W5 kt
     have z_W5 := hb_W5.size
     clear hb_W5 c_kt f_kt
     obtain ⟨c_kt, f_kt, l_kt_W5⟩ := f3 kt
     go_wp2_with fail
     refine calls_gen fun VW6 hV_VW6 => ?_
     replace kt := kK hV_VW6 kt
     replace hF : Fr ((oneX tb)) O O1 w VW6 := nF hV_VW6
     replace hA : AP VW6 ap ((t).opened y).s O1 := nA hV_VW6
     have z_VW6 := zS hV_VW6
     clear hV_VW6 c_kt f_kt
     obtain ⟨c_kt, f_kt, l_kt_VW6⟩ := f3 kt
     refine (lOpen_calls (t := t.opened y) (t.s.get y).k0 _ ⟨hA, kt, o_kt⟩).mono ?_
     rintro e_W6 W6 ⟨rfl, O2, hT_W6, hf_W6⟩
     clear kt c_kt f_kt o_kt; have kt := hT_W6.blk; have o_kt := hT_W6.no
     obtain ⟨c_kt, f_kt, l_kt_W6⟩ := f3 kt
     replace hF := hF.trans hf_W6
     have z_W6 := hf_W6.size
     clear hA hf_W6; have hA := hT_W6.hA; clear hT_W6
     go_wp2_with fail
     refine calls_gen fun VW7 hV_VW7 => ?_
     replace kt := kK hV_VW7 kt
     replace hF : Fr ((oneX tb)) O O2 w VW7 := nF hV_VW7
     replace hA : AP VW7 ap ((t.opened y).opened (t.s.get y).k0).s O2 := nA hV_VW7
     have z_VW7 := zS hV_VW7
     clear hV_VW7 c_kt f_kt
     obtain ⟨c_kt, f_kt, l_kt_VW7⟩ := f3 kt
     refine (lPair_calls (t := (t.opened y).opened (t.s.get y).k0) _ _ _ ⟨hA, kt, o_kt⟩).mono ?_
     rintro e_W7 W7 ⟨rfl, O3, hT_W7, hf_W7⟩
     clear kt c_kt f_kt o_kt; have kt := hT_W7.blk; have o_kt := hT_W7.no
     obtain ⟨c_kt, f_kt, l_kt_W7⟩ := f3 kt
     replace hF := hF.trans hf_W7
     have z_W7 := hf_W7.size
     clear hA hf_W7; have hA := hT_W7.hA; clear hT_W7
     go_wp2_with fail
     refine calls_gen fun VW8 hV_VW8 => ?_
     replace kt := kK hV_VW8 kt
     replace hF : Fr ((oneX tb)) O O3 w VW8 := nF hV_VW8
     replace hA : AP VW8 ap ((((t.opened y).opened (t.s.get y).k0).lpair x ((t.opened y).s.get (t.s.get y).k0).k0).2).s O3 := nA hV_VW8
     have z_VW8 := zS hV_VW8
     clear hV_VW8 c_kt f_kt
     obtain ⟨c_kt, f_kt, l_kt_VW8⟩ := f3 kt
     refine (lPair_calls (t := (((t.opened y).opened (t.s.get y).k0).lpair x ((t.opened y).s.get (t.s.get y).k0).k0).2) _ _ _ ⟨hA, kt, o_kt⟩).mono ?_
     rintro e_W8 W8 ⟨rfl, O4, hT_W8, hf_W8⟩
     clear kt c_kt f_kt o_kt; have kt := hT_W8.blk; have o_kt := hT_W8.no
     obtain ⟨c_kt, f_kt, l_kt_W8⟩ := f3 kt
     replace hF := hF.trans hf_W8
     have z_W8 := hf_W8.size
     clear hA hf_W8; have hA := hT_W8.hA; clear hT_W8
     go_wp2_with fail
     refine calls_gen fun VW9 hV_VW9 => ?_
     replace kt := kK hV_VW9 kt
     replace hF : Fr ((oneX tb)) O O4 w VW9 := nF hV_VW9
     replace hA : AP VW9 ap ((((((t.opened y).opened (t.s.get y).k0).lpair x ((t.opened y).s.get (t.s.get y).k0).k0).2).lpair ((t.opened y).s.get (t.s.get y).k0).k1 (t.s.get y).k1).2).s O4 := nA hV_VW9
     have z_VW9 := zS hV_VW9
     clear hV_VW9 c_kt f_kt
     obtain ⟨c_kt, f_kt, l_kt_VW9⟩ := f3 kt
     refine (lPair_calls (t := ((((t.opened y).opened (t.s.get y).k0).lpair x ((t.opened y).s.get (t.s.get y).k0).k0).2.lpair ((t.opened y).s.get (t.s.get y).k0).k1 (t.s.get y).k1).2) _ _ _ ⟨hA, kt, o_kt⟩).mono ?_
     rintro e_W9 W9 ⟨rfl, O5, hT_W9, hf_W9⟩
     clear kt c_kt f_kt o_kt; have kt := hT_W9.blk; have o_kt := hT_W9.no
     obtain ⟨c_kt, f_kt, l_kt_W9⟩ := f3 kt
     replace hF := hF.trans hf_W9
     have z_W9 := hf_W9.size
     clear hA hf_W9; have hA := hT_W9.hA; clear hT_W9
     go_wp2_with fail
     go_ret
     exact ⟨rfl, O5, ⟨hA, kt, o_kt⟩, hF⟩
   ·
    have d4 : decide (wrap64 (p + 1) < q) = false := by simpa using c3
    rw [if_neg c3] at hr
    clear c3
    obtain rfl := Option.some.inj hr
    clear hr
    go_enter Tryz.func116, Tryz.ntmps116
    have hA := hT.hA
    have kt := hT.blk
    have o_kt := hT.no
    obtain ⟨c_kt, f_kt, l_kt_w⟩ := f3 kt
    go_wp2_with fail
    refine calls_gen fun VW1 hV_VW1 => ?_
    replace kt := kK hV_VW1 kt
    have hF : Fr ((oneX tb)) O O w VW1 := nF hV_VW1
    replace hA : AP VW1 ap t.s O := nA hV_VW1
    have z_VW1 := zS hV_VW1
    clear hV_VW1 c_kt f_kt
    obtain ⟨c_kt, f_kt, l_kt_VW1⟩ := f3 kt
    refine (lHigh_calls (t := t) _ _ _ _ Hp.out ⟨hA, kt, o_kt⟩).mono ?_
    rintro e_W1 W1 ⟨rfl, hb_W1⟩
    replace hA := hA.below hb_W1
    replace hF := hF.below hb_W1
    replace kt := keep_blk hb_W1 kt
    have z_W1 := hb_W1.size
    clear hb_W1 c_kt f_kt
    obtain ⟨c_kt, f_kt, l_kt_W1⟩ := f3 kt
    go_wp2_with fail
    refine calls_gen fun VW2 hV_VW2 => ?_
    replace kt := kK hV_VW2 kt
    replace hF : Fr ((oneX tb)) O O w VW2 := nF hV_VW2
    replace hA : AP VW2 ap t.s O := nA hV_VW2
    have z_VW2 := zS hV_VW2
    clear hV_VW2 c_kt f_kt
    obtain ⟨c_kt, f_kt, l_kt_VW2⟩ := f3 kt
    refine (lHigh_calls (t := t) _ _ _ _ Hq.out ⟨hA, kt, o_kt⟩).mono ?_
    rintro e_W2 W2 ⟨rfl, hb_W2⟩
    replace hA := hA.below hb_W2
    replace hF := hF.below hb_W2
    replace kt := keep_blk hb_W2 kt
    have z_W2 := hb_W2.size
    clear hb_W2 c_kt f_kt
    obtain ⟨c_kt, f_kt, l_kt_W2⟩ := f3 kt
    go_wp2_with fail
    refine calls_gen fun VW3 hV_VW3 => ?_
    replace kt := kK hV_VW3 kt
    replace hF : Fr ((oneX tb)) O O w VW3 := nF hV_VW3
    replace hA : AP VW3 ap t.s O := nA hV_VW3
    have z_VW3 := zS hV_VW3
    clear hV_VW3 c_kt f_kt
    obtain ⟨c_kt, f_kt, l_kt_VW3⟩ := f3 kt
    refine (lPair_calls (t := t) _ _ _ ⟨hA, kt, o_kt⟩).mono ?_
    rintro e_W3 W3 ⟨rfl, O1, hT_W3, hf_W3⟩
    clear kt c_kt f_kt o_kt; have kt := hT_W3.blk; have o_kt := hT_W3.no
    obtain ⟨c_kt, f_kt, l_kt_W3⟩ := f3 kt
    replace hF := hF.trans hf_W3
    have z_W3 := hf_W3.size
    clear hA hf_W3; have hA := hT_W3.hA; clear hT_W3
    go_wp2_with fail
    go_ret
    exact ⟨rfl, O1, ⟨hA, kt, o_kt⟩, hF⟩
 ·
  have d1 : (t.e != 0) = true := by simp [he]
  rw [if_neg he] at hr
  clear he
  obtain rfl := Option.some.inj hr
  clear hr
  go_enter Tryz.func116, Tryz.ntmps116
  have hA := hT.hA
  have kt := hT.blk
  have o_kt := hT.no
  obtain ⟨c_kt, f_kt, l_kt_w⟩ := f3 kt
  go_wp2_with fail
  refine calls_gen fun VW1 hV_VW1 => ?_
  replace kt := kK hV_VW1 kt
  have hF : Fr ((oneX tb)) O O w VW1 := nF hV_VW1
  replace hA : AP VW1 ap t.s O := nA hV_VW1
  have z_VW1 := zS hV_VW1
  clear hV_VW1 c_kt f_kt
  obtain ⟨c_kt, f_kt, l_kt_VW1⟩ := f3 kt
  refine (lHigh_calls (t := t) _ _ _ _ Hp.out ⟨hA, kt, o_kt⟩).mono ?_
  rintro e_W1 W1 ⟨rfl, hb_W1⟩
  replace hA := hA.below hb_W1
  replace hF := hF.below hb_W1
  replace kt := keep_blk hb_W1 kt
  have z_W1 := hb_W1.size
  clear hb_W1 c_kt f_kt
  obtain ⟨c_kt, f_kt, l_kt_W1⟩ := f3 kt
  go_wp2_with fail
  refine calls_gen fun VW2 hV_VW2 => ?_
  replace kt := kK hV_VW2 kt
  replace hF : Fr ((oneX tb)) O O w VW2 := nF hV_VW2
  replace hA : AP VW2 ap t.s O := nA hV_VW2
  have z_VW2 := zS hV_VW2
  clear hV_VW2 c_kt f_kt
  obtain ⟨c_kt, f_kt, l_kt_VW2⟩ := f3 kt
  refine (lHigh_calls (t := t) _ _ _ _ Hq.out ⟨hA, kt, o_kt⟩).mono ?_
  rintro e_W2 W2 ⟨rfl, hb_W2⟩
  replace hA := hA.below hb_W2
  replace hF := hF.below hb_W2
  replace kt := keep_blk hb_W2 kt
  have z_W2 := hb_W2.size
  clear hb_W2 c_kt f_kt
  obtain ⟨c_kt, f_kt, l_kt_W2⟩ := f3 kt
  go_wp2_with fail
  refine calls_gen fun VW3 hV_VW3 => ?_
  replace kt := kK hV_VW3 kt
  replace hF : Fr ((oneX tb)) O O w VW3 := nF hV_VW3
  replace hA : AP VW3 ap t.s O := nA hV_VW3
  have z_VW3 := zS hV_VW3
  clear hV_VW3 c_kt f_kt
  obtain ⟨c_kt, f_kt, l_kt_VW3⟩ := f3 kt
  refine (drop_calls _ _ hA).mono ?_
  rintro e_W3 W3 ⟨rfl, O1, hA_W3, hf_W3⟩
  have q_kt := hf_W3.keep kt o_kt (fun h => h)
  replace o_kt := hf_W3.not_own (lt_of kt) o_kt
  clear kt c_kt f_kt; have kt := q_kt; clear q_kt
  obtain ⟨c_kt, f_kt, l_kt_W3⟩ := f3 kt
  replace hF := hF.trans hf_W3.widen
  have z_W3 := hf_W3.size
  clear hA hf_W3; have hA := hA_W3; clear hA_W3
  go_wp2_with fail
  refine calls_gen fun VW4 hV_VW4 => ?_
  replace kt := kK hV_VW4 kt
  replace hF : Fr ((oneX tb)) O O1 w VW4 := nF hV_VW4
  replace hA : AP VW4 ap (t.s.drop x) O1 := nA hV_VW4
  have z_VW4 := zS hV_VW4
  clear hV_VW4 c_kt f_kt
  obtain ⟨c_kt, f_kt, l_kt_VW4⟩ := f3 kt
  refine (drop_calls _ _ hA).mono ?_
  rintro e_W4 W4 ⟨rfl, O2, hA_W4, hf_W4⟩
  have q_kt := hf_W4.keep kt o_kt (fun h => h)
  replace o_kt := hf_W4.not_own (lt_of kt) o_kt
  clear kt c_kt f_kt; have kt := q_kt; clear q_kt
  obtain ⟨c_kt, f_kt, l_kt_W4⟩ := f3 kt
  replace hF := hF.trans hf_W4.widen
  have z_W4 := hf_W4.size
  clear hA hf_W4; have hA := hA_W4; clear hA_W4
  go_wp2_with fail
  go_ret
  exact ⟨rfl, O2, ⟨hA, kt, o_kt⟩, hF⟩
end Go.Proofs.YtdjpjmkpndmhaaaGreat
