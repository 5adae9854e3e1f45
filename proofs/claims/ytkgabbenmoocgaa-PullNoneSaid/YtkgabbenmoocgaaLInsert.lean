/- Lists in an arena: a list with an item more. -/
import Derived.Test.YtkgabbenmoocgaaLChange
import Derived.Test.YtkgabbenmoocgaaBitsSet
namespace Go.Proofs.Ytkgabbenmoocgaa
set_option linter.unusedSimpArgs false
set_option linter.unusedVariables false
set_option linter.unnecessarySimpa false
open Go.RowKit
attribute [local go_sem ↓] Go.wp_at_zero Go.wp_at_succ
attribute [local go_sem] lt_s2 lt_s3 lt_s4
variable {ap : Value} {O : Nat → Prop} {s : Ar} {tb : Nat}
/-- What Insert's closure captured: the tree, the item, how many there are, and the place. -/
structure InsC (tb bt bx bn bi : Nat) (x : Int × Int) (n i : Int) (w : World) (O : Nat → Prop) : Prop where
 ct : w.heap[bt]? = some (.cells #[.pointer (some ⟨tb, 0, none⟩)] 102 (0, 0))
 cx : w.heap[bx]? = some (.cells #[.int .i64 x.1, .int .i64 x.2] 76 (0, 0))
 cn : w.heap[bn]? = some (.cells #[.int .i64 n] 3 (0, 0))
 ci : w.heap[bi]? = some (.cells #[.int .i64 i] 3 (0, 0))
 ot : ¬ O bt
 ox : ¬ O bx
 on : ¬ O bn
 oi : ¬ O bi
 nt : bt ≠ tb
 nx : bx ≠ tb
 nn : bn ≠ tb
 ni : bi ≠ tb
theorem InsC.keepC (tb bt bx bn bi : Nat) (x : Int × Int) (n i : Int) : KeepC tb (InsC tb bt bx bn bi x n i) := by
 intro w w' O O' h hF
 exact ⟨hF.keep h.ct h.ot h.nt, hF.keep h.cx h.ox h.nx, hF.keep h.cn h.on h.nn, hF.keep h.ci h.oi h.ni, hF.not_own (lt_of h.ct) h.ot, hF.not_own (lt_of h.cx) h.ox, hF.not_own (lt_of h.cn) h.on, hF.not_own (lt_of h.ci) h.oi, h.nt, h.nx, h.nn, h.ni⟩
theorem lMay_calls (x : Int × Int) (i most : Int) (w : World) : Calls Try.prog 56 #[.agg #[.int .i64 x.1, .int .i64 x.2], .int .i64 i, .int .i64 most] w fun e w' => e = .returned (.int .i64 (lMay x i most)) ∧ Below w.heap.size w w' := by
 unfold lMay
 by_cases h1 : x.1 < 0
 ·
  have d1 : decide (x.1 < 0) = true := by simpa using h1
  rw [if_pos (.inl h1)]
  clear h1
  go_enter Try.func56, Try.ntmps56
  go_wp2_with fail
  go_ret
  exact ⟨rfl, by (repeat' first | with_reducible assumption | with_reducible exact Below.refl _ _ | with_reducible refine Below.alloc ?_ ?_ _ | with_reducible refine Below.setCell ?_ ?_ _ | with_reducible refine below_drewN ?_ _ | with_reducible refine Below.drew ?_ | exact Nat.le_refl _ | ((try dsimp only); omega) | (simp only [siz_alloc, siz_set]; omega))⟩
 ·
  have d1 : decide (x.1 < 0) = false := by simpa using h1
  by_cases h2 : x.2 < 0
  ·
   have d2 : decide (x.2 < 0) = true := by simpa using h2
   rw [if_pos (.inr h2)]
   clear h1 h2
   go_enter Try.func56, Try.ntmps56
   go_wp2_with fail
   go_ret
   exact ⟨rfl, by (repeat' first | with_reducible assumption | with_reducible exact Below.refl _ _ | with_reducible refine Below.alloc ?_ ?_ _ | with_reducible refine Below.setCell ?_ ?_ _ | with_reducible refine below_drewN ?_ _ | with_reducible refine Below.drew ?_ | exact Nat.le_refl _ | ((try dsimp only); omega) | (simp only [siz_alloc, siz_set]; omega))⟩
  ·
   have d2 : decide (x.2 < 0) = false := by simpa using h2
   rw [if_neg (by omega)]
   clear h1 h2
   by_cases h3 : i < 0
   ·
    have d3 : decide (i < 0) = true := by simpa using h3
    rw [if_pos (.inl h3)]
    clear h3
    go_enter Try.func56, Try.ntmps56
    go_wp2_with fail
    go_ret
    exact ⟨rfl, by (repeat' first | with_reducible assumption | with_reducible exact Below.refl _ _ | with_reducible refine Below.alloc ?_ ?_ _ | with_reducible refine Below.setCell ?_ ?_ _ | with_reducible refine below_drewN ?_ _ | with_reducible refine Below.drew ?_ | exact Nat.le_refl _ | ((try dsimp only); omega) | (simp only [siz_alloc, siz_set]; omega))⟩
   ·
    have d3 : decide (i < 0) = false := by simpa using h3
    by_cases h4 : most < i
    ·
     have d4 : decide (most < i) = true := by simpa using h4
     rw [if_pos (.inr h4)]
     clear h3 h4
     go_enter Try.func56, Try.ntmps56
     go_wp2_with fail
     go_ret
     exact ⟨rfl, by (repeat' first | with_reducible assumption | with_reducible exact Below.refl _ _ | with_reducible refine Below.alloc ?_ ?_ _ | with_reducible refine Below.setCell ?_ ?_ _ | with_reducible refine below_drewN ?_ _ | with_reducible refine Below.drew ?_ | exact Nat.le_refl _ | ((try dsimp only); omega) | (simp only [siz_alloc, siz_set]; omega))⟩
    ·
     have d4 : decide (most < i) = false := by simpa using h4
     rw [if_neg (by omega)]
     clear h3 h4
     go_enter Try.func56, Try.ntmps56
     go_wp2_with fail
     go_ret
     exact ⟨rfl, by (repeat' first | with_reducible assumption | with_reducible exact Below.refl _ _ | with_reducible refine Below.alloc ?_ ?_ _ | with_reducible refine Below.setCell ?_ ?_ _ | with_reducible refine below_drewN ?_ _ | with_reducible refine Below.drew ?_ | exact Nat.le_refl _ | ((try dsimp only); omega) | (simp only [siz_alloc, siz_set]; omega))⟩
variable {t : Tb}
set_option maxRecDepth 100000 in
set_option maxHeartbeats 2000000 in
theorem lIns1_none (bt bx bn bi : Nat) (x : Int × Int) (n i : Int) (d1 : (n == 0) = true) (h : Int) (w : World) (hT : LB w tb ap t O) (hC : InsC tb bt bx bn bi x n i w O) :
  Calls Try.prog 59 #[.int .i64 h, .pointer (some ⟨bt, 0, none⟩), .pointer (some ⟨bx, 0, none⟩), .pointer (some ⟨bn, 0, none⟩), .pointer (some ⟨bi, 0, none⟩)] w fun e w' => e = .returned (.int .i64 (t.item x).1) ∧ DidL tb ap (t.item x).2 O w w' := by
 have ct := cells_of hC.ct; have cx := cells_of hC.cx; have cn := cells_of hC.cn; have ci := cells_of hC.ci
 have HC := Lib.hid hC; clear hC
 go_enter Try.func59, Try.ntmps59
 have hA := hT.hA
 have kt := hT.blk
 have o_kt := hT.no
 have c_kt := cells_of kt
 have f_kt := free_of kt
 have l_kt_w := lt_of kt
 go_wp2_with fail
 refine calls_gen fun V hV_V => ?_
 have n_kt := congrArg (fun v : World => v.heap[tb]?) hV_V
 simp (maxDischargeDepth := 9) only [BK, not_false_eq_true, reduceCtorEq, kt, l_kt_w] at n_kt
 have n_F : Fr ((oneX tb)) O O w V := nF hV_V
 have n_A : AP V ap t.s O := nA hV_V
 have z_V := Nat.le_of_eq (congrArg (fun v : World => v.heap.size) hV_V).symm
 try simp only [SZ] at z_V
 clear kt c_kt f_kt
 clear hV_V
 clear hA
 have hA := n_A
 clear n_A
 skip
 have hF := n_F
 clear n_F
 have kt := n_kt; clear n_kt
 have c_kt := cells_of kt
 have f_kt := free_of kt
 have l_kt_V := lt_of kt
 clear ct cx cn ci
 have hC := InsC.keepC _ _ _ _ _ _ _ _ _ _ _ _ HC.out hF
 have ct := cells_of hC.ct; have cx := cells_of hC.cx; have cn := cells_of hC.cn; have ci := cells_of hC.ci
 have HC2 := Lib.hid hC; clear hC
 refine (lItem_calls (t := t) x _ ⟨hA, kt, o_kt⟩).mono ?_
 rintro e_W1 W1 ⟨rfl, O1, hT_W1, hf_W1⟩
 clear kt c_kt f_kt o_kt; have kt := hT_W1.blk; have o_kt := hT_W1.no
 have c_kt := cells_of kt
 have f_kt := free_of kt
 have l_kt_W1 := lt_of kt
 replace hF := hF.trans hf_W1
 have z_W1 := hf_W1.size
 clear hA hf_W1; have hA := hT_W1.hA; clear hT_W1
 clear ct cx cn ci
 have hC := InsC.keepC _ _ _ _ _ _ _ _ _ _ _ _ HC.out hF
 have ct := cells_of hC.ct; have cx := cells_of hC.cx; have cn := cells_of hC.cn; have ci := cells_of hC.ci
 clear hC
 go_wp2_with fail
 go_ret
 exact ⟨rfl, O1, ⟨hA, kt, o_kt⟩, hF⟩
set_option maxRecDepth 100000 in
set_option maxHeartbeats 2000000 in
theorem lIns1_last (bt bx bn bi : Nat) (x : Int × Int) (n i : Int) (d1 : (n == 0) = false) (d2 : (i == n) = true) (h : Int) (r : Int × Tb) (hr : ((t.item x).2.keep h).join h (t.item x).1 = some r) (w : World) (hT : LB w tb ap t O) (hC : InsC tb bt bx bn bi x n i w O) :
  Calls Try.prog 59 #[.int .i64 h, .pointer (some ⟨bt, 0, none⟩), .pointer (some ⟨bx, 0, none⟩), .pointer (some ⟨bn, 0, none⟩), .pointer (some ⟨bi, 0, none⟩)] w fun e w' => e = .returned (.int .i64 r.1) ∧ DidL tb ap r.2 O w w' := by
 have Hr := Lib.hid hr; clear hr
 have ct := cells_of hC.ct; have cx := cells_of hC.cx; have cn := cells_of hC.cn; have ci := cells_of hC.ci
 have HC := Lib.hid hC; clear hC
 go_enter Try.func59, Try.ntmps59
 have hA := hT.hA
 have kt := hT.blk
 have o_kt := hT.no
 have c_kt := cells_of kt
 have f_kt := free_of kt
 have l_kt_w := lt_of kt
 go_wp2_with fail
 refine calls_gen fun V hV_V => ?_
 have n_kt := congrArg (fun v : World => v.heap[tb]?) hV_V
 simp (maxDischargeDepth := 9) only [BK, not_false_eq_true, reduceCtorEq, kt, l_kt_w] at n_kt
 have n_F : Fr ((oneX tb)) O O w V := nF hV_V
 have n_A : AP V ap t.s O := nA hV_V
 have z_V := Nat.le_of_eq (congrArg (fun v : World => v.heap.size) hV_V).symm
 try simp only [SZ] at z_V
 clear kt c_kt f_kt
 clear hV_V
 clear hA
 have hA := n_A
 clear n_A
 skip
 have hF := n_F
 clear n_F
 have kt := n_kt; clear n_kt
 have c_kt := cells_of kt
 have f_kt := free_of kt
 have l_kt_V := lt_of kt
 clear ct cx cn ci
 refine (lItem_calls (t := t) x _ ⟨hA, kt, o_kt⟩).mono ?_
 rintro e_W1 W1 ⟨rfl, O1, hT_W1, hf_W1⟩
 clear kt c_kt f_kt o_kt; have kt := hT_W1.blk; have o_kt := hT_W1.no
 have c_kt := cells_of kt
 have f_kt := free_of kt
 have l_kt_W1 := lt_of kt
 replace hF := hF.trans hf_W1
 have z_W1 := hf_W1.size
 clear hA hf_W1; have hA := hT_W1.hA; clear hT_W1
 have hC := InsC.keepC _ _ _ _ _ _ _ _ _ _ _ _ HC.out hF
 have kb := hC.ct
 have o_kb := hC.ot
 have e_kb := hC.nt
 have ct := cells_of hC.ct; have cx := cells_of hC.cx; have cn := cells_of hC.cn; have ci := cells_of hC.ci
 clear hC
 have c_kb := cells_of kb
 have f_kb := free_of kb
 have l_kb_W1 := lt_of kb
 go_wp2_with fail
 refine wp_gen fun V2 hV_V2 => ?_
 have n_kt := congrArg (fun v : World => v.heap[tb]?) hV_V2
 simp (maxDischargeDepth := 9) only [BK, not_false_eq_true, reduceCtorEq, kt, kb, l_kt_w, l_kt_V, l_kt_W1, l_kb_W1] at n_kt
 have n_kb := congrArg (fun v : World => v.heap[bt]?) hV_V2
 simp (maxDischargeDepth := 9) only [BK, not_false_eq_true, reduceCtorEq, kt, kb, l_kt_w, l_kt_V, l_kt_W1, l_kb_W1] at n_kb
 have n_F : Fr ((oneX tb)) O O1 w V2 := nF hV_V2
 have n_A : AP V2 ap ((t.item x).2).s O1 := nA hV_V2
 have z_V2 := Nat.le_of_eq (congrArg (fun v : World => v.heap.size) hV_V2).symm
 try simp only [SZ] at z_V2
 clear kt c_kt f_kt
 clear kb c_kb f_kb
 clear hV_V2
 clear hA
 have hA := n_A
 clear n_A
 clear hF
 have hF := n_F
 clear n_F
 have kt := n_kt; clear n_kt
 have c_kt := cells_of kt
 have f_kt := free_of kt
 have l_kt_V2 := lt_of kt
 have kb := n_kb; clear n_kb
 have c_kb := cells_of kb
 have f_kb := free_of kb
 have l_kb_V2 := lt_of kb
 clear ct cx cn ci
 refine wp_region_noPanic ?_
 refine wp_region_held_drew (S := fun v => (v.cell? ⟨tb, 0, none⟩ = V2.cell? ⟨tb, 0, none⟩) ∧ (∀ o, v.cell? ⟨bt, o, none⟩ = V2.cell? ⟨bt, o, none⟩) ∧ (V2.heap.size ≤ v.heap.size) ∧ True) (by kernel_rfl) ⟨rfl, (fun _ => rfl), (Nat.le_refl _), trivial⟩ (fun hHeld => ?_)
 generalize hV_V2d : V2.drew = V2d at hHeld ⊢
 have n_kt : V2d.heap[tb]? = V2.heap[tb]? := by rw [← hV_V2d]; rfl
 have d_kt := n_kt.trans kt
 clear n_kt c_kt f_kt
 have n_kb : V2d.heap[bt]? = V2.heap[bt]? := by rw [← hV_V2d]; rfl
 have d_kb := n_kb.trans kb
 clear n_kb c_kb f_kb
 have n_A : AP V2d ap ((t.item x).2).s O1 := by rw [← hV_V2d]; exact hA.drew
 clear hA; have hA := n_A; clear n_A
 have n_F : Fr ((oneX tb)) O O1 w V2d := by rw [← hV_V2d]; exact hF.drew
 clear hF; have hF := n_F; clear n_F
 have z_V2d : V2.heap.size ≤ V2d.heap.size := by rw [← hV_V2d]; exact Nat.le_refl _
 have v_kt := cells_of kt
 have v_kb := cells_of kb
 clear kt; have kt := d_kt; clear d_kt
 clear kb; have kb := d_kb; clear d_kb
 have c_kt := cells_of kt
 have f_kt := free_of kt
 have l_kt_V2d := lt_of kt
 have c_kb := cells_of kb
 have f_kb := free_of kb
 have l_kb_V2d := lt_of kb
 clear hV_V2d
 refine ty (i := 0) (v := ?_) rfl hHeld ?_ ?_
 rotate_left
 focus (intro w hSw; go_simp; (try simp only [IntWalk.i64_left]); try (with_reducible rfl))
 try simp only [PT]
 refine ty (i := 1) (v := ?_) rfl hHeld ?_ ?_
 rotate_left
 focus (intro w hSw; go_simp; (try simp only [IntWalk.i64_left]); try (with_reducible rfl))
 try simp only [PT]
 refine ty (i := 2) (v := ?_) rfl hHeld ?_ ?_
 rotate_left
 focus (intro w hSw; go_simp; (try simp only [IntWalk.i64_left]); try (with_reducible rfl))
 try simp only [PT]
 refine ty (i := 4) (v := ?_) rfl hHeld ?_ ?_
 rotate_left
 focus (intro w hSw; go_simp; (try simp only [IntWalk.i64_left]); try (with_reducible rfl))
 try simp only [PT]
 refine wpAnyH_ready (rs := [3]) (by kernel_rfl) (by simp) ?_
 refine ready_at rfl (fun K hK => ?_) AllReadyH.nil
 go_simp
 try simp only [IntWalk.i64_left]
 refine (lKeep_calls (t := (t.item x).2) h _ ⟨hA, kt, o_kt⟩).mono ?_
 rintro e_W2 W2 ⟨rfl, O2, hT_W2, hf_W2⟩
 have q_kb := hf_W2.keep kb o_kb (by unfold oneX; omega)
 replace o_kb := hf_W2.not_own (lt_of kb) o_kb
 clear kb; have kb := q_kb; clear q_kb
 have c_kb := cells_of kb
 have f_kb := free_of kb
 have l_kb_W2 := lt_of kb
 clear kt c_kt f_kt o_kt; have kt := hT_W2.blk; have o_kt := hT_W2.no
 have c_kt := cells_of kt
 have f_kt := free_of kt
 have l_kt_W2 := lt_of kt
 replace hF := hF.trans hf_W2
 have z_W2 := hf_W2.size
 clear hA hf_W2; have hA := hT_W2.hA; clear hT_W2
 refine hK.out _ _ ⟨((c_kt 0).trans (v_kt 0).symm), (fun o => (c_kb o).trans (v_kb o).symm), (by omega), trivial⟩ (fun hHeld => ?_)
 clear hK K
 try simp only [PT]
 refine wpAnyH_ready (rs := [5]) (by kernel_rfl) (by simp) ?_
 refine ready_at rfl (fun K hK => ?_) AllReadyH.nil
 go_simp
 try simp only [IntWalk.i64_left]
 refine (lJoin_calls (t := (t.item x).2.keep h) _ _ _ Hr.out _ ⟨hA, kt, o_kt⟩).mono ?_
 rintro e_W3 W3 ⟨rfl, O3, hT_W3, hf_W3⟩
 have q_kb := hf_W3.keep kb o_kb (by unfold oneX; omega)
 replace o_kb := hf_W3.not_own (lt_of kb) o_kb
 clear kb; have kb := q_kb; clear q_kb
 have c_kb := cells_of kb
 have f_kb := free_of kb
 have l_kb_W3 := lt_of kb
 clear kt c_kt f_kt o_kt; have kt := hT_W3.blk; have o_kt := hT_W3.no
 have c_kt := cells_of kt
 have f_kt := free_of kt
 have l_kt_W3 := lt_of kt
 replace hF := hF.trans hf_W3
 have z_W3 := hf_W3.size
 clear hA hf_W3; have hA := hT_W3.hA; clear hT_W3
 refine hK.out _ _ ⟨((c_kt 0).trans (v_kt 0).symm), (fun o => (c_kb o).trans (v_kb o).symm), (by omega), trivial⟩ (fun hHeld => ?_)
 clear hK K
 try simp only [PT]
 refine wpAnyH_ready (rs := [6]) (by kernel_rfl) (by simp) ?_
 refine ready_at rfl (fun K hK => ?_) AllReadyH.nil
 go_simp
 refine hK.out _ _ hHeld (fun hHeld => ?_)
 clear hK K
 try simp only [PT]
 refine wpAnyH_done (by kernel_rfl) ?_ _
 refine NoPanic.normal ?_
 go_wp2_with fail
 go_ret
 exact ⟨rfl, O3, ⟨hA, kt, o_kt⟩, hF⟩
set_option maxRecDepth 100000 in
set_option maxHeartbeats 2000000 in
theorem lIns1_ahead (bt bx bn bi : Nat) (x : Int × Int) (n i : Int) (d1 : (n == 0) = false) (d2 : (i == n) = false) (h : Int) (r : Int × Tb) (hr : ((t.item x).2.keep h).join (t.item x).1 h = some r) (w : World) (hT : LB w tb ap t O) (hC : InsC tb bt bx bn bi x n i w O) :
  Calls Try.prog 59 #[.int .i64 h, .pointer (some ⟨bt, 0, none⟩), .pointer (some ⟨bx, 0, none⟩), .pointer (some ⟨bn, 0, none⟩), .pointer (some ⟨bi, 0, none⟩)] w fun e w' => e = .returned (.int .i64 r.1) ∧ DidL tb ap r.2 O w w' := by
 have Hr := Lib.hid hr; clear hr
 have ct := cells_of hC.ct; have cx := cells_of hC.cx; have cn := cells_of hC.cn; have ci := cells_of hC.ci
 have HC := Lib.hid hC; clear hC
 go_enter Try.func59, Try.ntmps59
 have hA := hT.hA
 have kt := hT.blk
 have o_kt := hT.no
 have c_kt := cells_of kt
 have f_kt := free_of kt
 have l_kt_w := lt_of kt
 go_wp2_with fail
 refine calls_gen fun V hV_V => ?_
 have n_kt := congrArg (fun v : World => v.heap[tb]?) hV_V
 simp (maxDischargeDepth := 9) only [BK, not_false_eq_true, reduceCtorEq, kt, l_kt_w] at n_kt
 have n_F : Fr ((oneX tb)) O O w V := nF hV_V
 have n_A : AP V ap t.s O := nA hV_V
 have z_V := Nat.le_of_eq (congrArg (fun v : World => v.heap.size) hV_V).symm
 try simp only [SZ] at z_V
 clear kt c_kt f_kt
 clear hV_V
 clear hA
 have hA := n_A
 clear n_A
 skip
 have hF := n_F
 clear n_F
 have kt := n_kt; clear n_kt
 have c_kt := cells_of kt
 have f_kt := free_of kt
 have l_kt_V := lt_of kt
 clear ct cx cn ci
 refine (lItem_calls (t := t) x _ ⟨hA, kt, o_kt⟩).mono ?_
 rintro e_W1 W1 ⟨rfl, O1, hT_W1, hf_W1⟩
 clear kt c_kt f_kt o_kt; have kt := hT_W1.blk; have o_kt := hT_W1.no
 have c_kt := cells_of kt
 have f_kt := free_of kt
 have l_kt_W1 := lt_of kt
 replace hF := hF.trans hf_W1
 have z_W1 := hf_W1.size
 clear hA hf_W1; have hA := hT_W1.hA; clear hT_W1
 have hC := InsC.keepC _ _ _ _ _ _ _ _ _ _ _ _ HC.out hF
 have kb := hC.ct
 have o_kb := hC.ot
 have e_kb := hC.nt
 have ct := cells_of hC.ct; have cx := cells_of hC.cx; have cn := cells_of hC.cn; have ci := cells_of hC.ci
 clear hC
 have c_kb := cells_of kb
 have f_kb := free_of kb
 have l_kb_W1 := lt_of kb
 go_wp2_with fail
 refine wp_gen fun V2 hV_V2 => ?_
 have n_kt := congrArg (fun v : World => v.heap[tb]?) hV_V2
 simp (maxDischargeDepth := 9) only [BK, not_false_eq_true, reduceCtorEq, kt, kb, l_kt_w, l_kt_V, l_kt_W1, l_kb_W1] at n_kt
 have n_kb := congrArg (fun v : World => v.heap[bt]?) hV_V2
 simp (maxDischargeDepth := 9) only [BK, not_false_eq_true, reduceCtorEq, kt, kb, l_kt_w, l_kt_V, l_kt_W1, l_kb_W1] at n_kb
 have n_F : Fr ((oneX tb)) O O1 w V2 := nF hV_V2
 have n_A : AP V2 ap ((t.item x).2).s O1 := nA hV_V2
 have z_V2 := Nat.le_of_eq (congrArg (fun v : World => v.heap.size) hV_V2).symm
 try simp only [SZ] at z_V2
 clear kt c_kt f_kt
 clear kb c_kb f_kb
 clear hV_V2
 clear hA
 have hA := n_A
 clear n_A
 clear hF
 have hF := n_F
 clear n_F
 have kt := n_kt; clear n_kt
 have c_kt := cells_of kt
 have f_kt := free_of kt
 have l_kt_V2 := lt_of kt
 have kb := n_kb; clear n_kb
 have c_kb := cells_of kb
 have f_kb := free_of kb
 have l_kb_V2 := lt_of kb
 clear ct cx cn ci
 refine wp_region_noPanic ?_
 refine wp_region_held_drew (S := fun v => (v.cell? ⟨tb, 0, none⟩ = V2.cell? ⟨tb, 0, none⟩) ∧ (∀ o, v.cell? ⟨bt, o, none⟩ = V2.cell? ⟨bt, o, none⟩) ∧ (V2.heap.size ≤ v.heap.size) ∧ True) (by kernel_rfl) ⟨rfl, (fun _ => rfl), (Nat.le_refl _), trivial⟩ (fun hHeld => ?_)
 generalize hV_V2d : V2.drew = V2d at hHeld ⊢
 have n_kt : V2d.heap[tb]? = V2.heap[tb]? := by rw [← hV_V2d]; rfl
 have d_kt := n_kt.trans kt
 clear n_kt c_kt f_kt
 have n_kb : V2d.heap[bt]? = V2.heap[bt]? := by rw [← hV_V2d]; rfl
 have d_kb := n_kb.trans kb
 clear n_kb c_kb f_kb
 have n_A : AP V2d ap ((t.item x).2).s O1 := by rw [← hV_V2d]; exact hA.drew
 clear hA; have hA := n_A; clear n_A
 have n_F : Fr ((oneX tb)) O O1 w V2d := by rw [← hV_V2d]; exact hF.drew
 clear hF; have hF := n_F; clear n_F
 have z_V2d : V2.heap.size ≤ V2d.heap.size := by rw [← hV_V2d]; exact Nat.le_refl _
 have v_kt := cells_of kt
 have v_kb := cells_of kb
 clear kt; have kt := d_kt; clear d_kt
 clear kb; have kb := d_kb; clear d_kb
 have c_kt := cells_of kt
 have f_kt := free_of kt
 have l_kt_V2d := lt_of kt
 have c_kb := cells_of kb
 have f_kb := free_of kb
 have l_kb_V2d := lt_of kb
 clear hV_V2d
 refine ty (i := 0) (v := ?_) rfl hHeld ?_ ?_
 rotate_left
 focus (intro w hSw; go_simp; (try simp only [IntWalk.i64_left]); try (with_reducible rfl))
 try simp only [PT]
 refine ty (i := 1) (v := ?_) rfl hHeld ?_ ?_
 rotate_left
 focus (intro w hSw; go_simp; (try simp only [IntWalk.i64_left]); try (with_reducible rfl))
 try simp only [PT]
 refine ty (i := 2) (v := ?_) rfl hHeld ?_ ?_
 rotate_left
 focus (intro w hSw; go_simp; (try simp only [IntWalk.i64_left]); try (with_reducible rfl))
 try simp only [PT]
 refine ty (i := 3) (v := ?_) rfl hHeld ?_ ?_
 rotate_left
 focus (intro w hSw; go_simp; (try simp only [IntWalk.i64_left]); try (with_reducible rfl))
 try simp only [PT]
 refine wpAnyH_ready (rs := [4]) (by kernel_rfl) (by simp) ?_
 refine ready_at rfl (fun K hK => ?_) AllReadyH.nil
 go_simp
 try simp only [IntWalk.i64_left]
 refine (lKeep_calls (t := (t.item x).2) h _ ⟨hA, kt, o_kt⟩).mono ?_
 rintro e_W2 W2 ⟨rfl, O2, hT_W2, hf_W2⟩
 have q_kb := hf_W2.keep kb o_kb (by unfold oneX; omega)
 replace o_kb := hf_W2.not_own (lt_of kb) o_kb
 clear kb; have kb := q_kb; clear q_kb
 have c_kb := cells_of kb
 have f_kb := free_of kb
 have l_kb_W2 := lt_of kb
 clear kt c_kt f_kt o_kt; have kt := hT_W2.blk; have o_kt := hT_W2.no
 have c_kt := cells_of kt
 have f_kt := free_of kt
 have l_kt_W2 := lt_of kt
 replace hF := hF.trans hf_W2
 have z_W2 := hf_W2.size
 clear hA hf_W2; have hA := hT_W2.hA; clear hT_W2
 refine hK.out _ _ ⟨((c_kt 0).trans (v_kt 0).symm), (fun o => (c_kb o).trans (v_kb o).symm), (by omega), trivial⟩ (fun hHeld => ?_)
 clear hK K
 try simp only [PT]
 refine wpAnyH_ready (rs := [5]) (by kernel_rfl) (by simp) ?_
 refine ready_at rfl (fun K hK => ?_) AllReadyH.nil
 go_simp
 try simp only [IntWalk.i64_left]
 refine (lJoin_calls (t := (t.item x).2.keep h) _ _ _ Hr.out _ ⟨hA, kt, o_kt⟩).mono ?_
 rintro e_W3 W3 ⟨rfl, O3, hT_W3, hf_W3⟩
 have q_kb := hf_W3.keep kb o_kb (by unfold oneX; omega)
 replace o_kb := hf_W3.not_own (lt_of kb) o_kb
 clear kb; have kb := q_kb; clear q_kb
 have c_kb := cells_of kb
 have f_kb := free_of kb
 have l_kb_W3 := lt_of kb
 clear kt c_kt f_kt o_kt; have kt := hT_W3.blk; have o_kt := hT_W3.no
 have c_kt := cells_of kt
 have f_kt := free_of kt
 have l_kt_W3 := lt_of kt
 replace hF := hF.trans hf_W3
 have z_W3 := hf_W3.size
 clear hA hf_W3; have hA := hT_W3.hA; clear hT_W3
 refine hK.out _ _ ⟨((c_kt 0).trans (v_kt 0).symm), (fun o => (c_kb o).trans (v_kb o).symm), (by omega), trivial⟩ (fun hHeld => ?_)
 clear hK K
 try simp only [PT]
 refine wpAnyH_ready (rs := [6]) (by kernel_rfl) (by simp) ?_
 refine ready_at rfl (fun K hK => ?_) AllReadyH.nil
 go_simp
 refine hK.out _ _ hHeld (fun hHeld => ?_)
 clear hK K
 try simp only [PT]
 refine wpAnyH_done (by kernel_rfl) ?_ _
 refine NoPanic.normal ?_
 go_wp2_with fail
 go_ret
 exact ⟨rfl, O3, ⟨hA, kt, o_kt⟩, hF⟩
theorem minmax2 (i m : Int) {P : Prop} (h1 : (m < 0) = True → (0 < i) = True → imin i (imax m 0) = 0 → P) (h2 : (m < 0) = True → (0 < i) = False → imin i (imax m 0) = i → P) (h3 : (m < 0) = False → (m < i) = True → imin i (imax m 0) = m → P) (h4 : (m < 0) = False → (m < i) = False → imin i (imax m 0) = i → P) : P := by
 by_cases c1 : m < 0
 ·
  by_cases c2 : 0 < i
  ·
   exact h1 (eq_true c1) (eq_true c2) (by unfold imin imax; split <;> split <;> omega)
  ·
   exact h2 (eq_true c1) (eq_false c2) (by unfold imin imax; split <;> split <;> omega)
 ·
  by_cases c2 : m < i
  ·
   exact h3 (eq_false c1) (eq_true c2) (by unfold imin imax; split <;> split <;> omega)
  ·
   exact h4 (eq_false c1) (eq_false c2) (by unfold imin imax; split <;> split <;> omega)
theorem lIns1_calls (tb bt bx bn bi : Nat) (x : Int × Int) (n i : Int) : OneC tb ap (InsC tb bt bx bn bi x n i) 59 #[.pointer (some ⟨bt, 0, none⟩), .pointer (some ⟨bx, 0, none⟩), .pointer (some ⟨bn, 0, none⟩), .pointer (some ⟨bi, 0, none⟩)] (lInsOne n i x) := by
 intro t O h r w hr hT hC
 show Calls Try.prog _ #[.int .i64 h, .pointer (some ⟨bt, 0, none⟩), .pointer (some ⟨bx, 0, none⟩), .pointer (some ⟨bn, 0, none⟩), .pointer (some ⟨bi, 0, none⟩)] _ _
 unfold lInsOne at hr
 dsimp only at hr
 by_cases h1 : n = 0
 ·
  rw [if_pos h1] at hr
  obtain rfl := Option.some.inj hr
  exact lIns1_none bt bx bn bi x n i (by simpa using h1) h w hT hC
 ·
  rw [if_neg h1] at hr
  by_cases h2 : i = n
  ·
   rw [if_pos h2] at hr
   exact lIns1_last bt bx bn bi x n i (by simpa using h1) (by simpa using h2) h r hr w hT hC
  ·
   rw [if_neg h2] at hr
   exact lIns1_ahead bt bx bn bi x n i (by simpa using h1) (by simpa using h2) h r hr w hT hC
theorem told_s (u : Int × Tb) : (Tb.told u).2.2 = u.2.s := by unfold Tb.told; split <;> rfl
theorem lIns1_fun (args : Array Value) (w : World) : (callFunc 59 args).run Try.prog w = .ok (.enter 59 args) w := by kernel_rfl
set_option maxRecDepth 100000 in
set_option maxHeartbeats 2000000 in
theorem lInsert_calls (h i : Int) (x : Int × Int) (r : Int × Int × Ar) (hr : lInsert s h i x = some r) (w : World) (hA : AP w ap s O) :
  Calls Try.prog 30 #[ap, .int .i64 h, .int .i64 i, .agg #[.int .i64 x.1, .int .i64 x.2]] w fun e w' => e = .returned (.tuple #[.int .i64 r.1, .int .i64 r.2.1]) ∧ Did noX ap r.2.2 O w w' := by
 obtain ⟨q, rfl⟩ := hA.ptr
 unfold lInsert at hr
 by_cases h1 : lMay x i (lLen s h) = 0
 ·
  have d1 : (lMay x i (lLen s h) != 0) = false := by simp [h1]
  rw [if_pos h1] at hr
  obtain ⟨u, hu, rfl⟩ := Option.map_eq_some_iff.1 hr
  clear hr h1
  obtain ⟨m, hm⟩ : ∃ m, m = wrap64 (lLen s h - 1) := ⟨_, rfl⟩
  rw [← hm] at hu
  refine minmax2 i m ?_ ?_ ?_ ?_ <;> intro c1 c2 hmm <;> rw [hmm] at hu <;> clear hmm <;> subst hm
  all_goals
   have Hu := Lib.hid hu; clear hu
   go_enter Try.func30, Try.ntmps30
   go_wp2_with fail
   refine calls_gen fun V hV_V => ?_
   have n_ki := congrArg (fun v : World => v.heap[w.heap.size]?) hV_V
   simp (maxDischargeDepth := 9) only [BK, not_false_eq_true, reduceCtorEq] at n_ki
   have n_kx := congrArg (fun v : World => v.heap[w.heap.size + 1]?) hV_V
   simp (maxDischargeDepth := 9) only [BK, not_false_eq_true, reduceCtorEq] at n_kx
   have o_ki : ¬ O (w.heap.size) := by first | exact hA.new (Nat.le_refl _) | exact hA.new (by omega)
   have o_kx : ¬ O (w.heap.size + 1) := by first | exact hA.new (Nat.le_refl _) | exact hA.new (by omega)
   have n_F : Fr (noX) O O w V := nF hV_V
   have n_A : AP V (.pointer q) s O := nA hV_V
   have z_V := Nat.le_of_eq (congrArg (fun v : World => v.heap.size) hV_V).symm
   try simp only [SZ] at z_V
   clear hV_V
   clear hA
   have hA := n_A
   clear n_A
   skip
   have hF := n_F
   clear n_F
   have ki := n_ki; clear n_ki
   have c_ki := cells_of ki
   have f_ki := free_of ki
   have l_ki_V := lt_of ki
   have kx := n_kx; clear n_kx
   have c_kx := cells_of kx
   have f_kx := free_of kx
   have l_kx_V := lt_of kx
   refine (lLen_calls _ _ hA).mono ?_
   rintro e_W1 W1 ⟨rfl, hb_W1⟩
   replace hA := hA.below hb_W1
   replace hF := hF.below hb_W1
   replace ki := keep_blk hb_W1 ki
   have c_ki := cells_of ki
   have f_ki := free_of ki
   have l_ki_W1 := lt_of ki
   replace kx := keep_blk hb_W1 kx
   have c_kx := cells_of kx
   have f_kx := free_of kx
   have l_kx_W1 := lt_of kx
   have z_W1 := hb_W1.size
   clear hb_W1
   go_wp2_with fail
   refine calls_gen fun V1 hV_V1 => ?_
   have n_ki := congrArg (fun v : World => v.heap[w.heap.size]?) hV_V1
   simp (maxDischargeDepth := 9) only [BK, not_false_eq_true, reduceCtorEq, ki, kx, l_ki_V, l_kx_V, l_ki_W1, l_kx_W1] at n_ki
   have n_kx := congrArg (fun v : World => v.heap[w.heap.size + 1]?) hV_V1
   simp (maxDischargeDepth := 9) only [BK, not_false_eq_true, reduceCtorEq, ki, kx, l_ki_V, l_kx_V, l_ki_W1, l_kx_W1] at n_kx
   have n_kn := congrArg (fun v : World => v.heap[W1.heap.size]?) hV_V1
   simp (maxDischargeDepth := 9) only [BK, not_false_eq_true, reduceCtorEq, ki, kx, l_ki_V, l_kx_V, l_ki_W1, l_kx_W1] at n_kn
   have o_kn : ¬ O (W1.heap.size) := by first | exact hA.new (Nat.le_refl _) | exact hA.new (by omega)
   have n_F : Fr (noX) O O w V1 := nF hV_V1
   have n_A : AP V1 (.pointer q) s O := nA hV_V1
   have z_V1 := Nat.le_of_eq (congrArg (fun v : World => v.heap.size) hV_V1).symm
   try simp only [SZ] at z_V1
   clear ki c_ki f_ki
   clear kx c_kx f_kx
   clear hV_V1
   clear hA
   have hA := n_A
   clear n_A
   clear hF
   have hF := n_F
   clear n_F
   have ki := n_ki; clear n_ki
   have c_ki := cells_of ki
   have f_ki := free_of ki
   have l_ki_V1 := lt_of ki
   have kx := n_kx; clear n_kx
   have c_kx := cells_of kx
   have f_kx := free_of kx
   have l_kx_V1 := lt_of kx
   have kn := n_kn; clear n_kn
   have c_kn := cells_of kn
   have f_kn := free_of kn
   have l_kn_V1 := lt_of kn
   refine (lMay_calls x i (lLen s h) _).mono ?_
   rintro e_W2 W2 ⟨rfl, hb_W2⟩
   replace hA := hA.below hb_W2
   replace hF := hF.below hb_W2
   replace ki := keep_blk hb_W2 ki
   have c_ki := cells_of ki
   have f_ki := free_of ki
   have l_ki_W2 := lt_of ki
   replace kx := keep_blk hb_W2 kx
   have c_kx := cells_of kx
   have f_kx := free_of kx
   have l_kx_W2 := lt_of kx
   replace kn := keep_blk hb_W2 kn
   have c_kn := cells_of kn
   have f_kn := free_of kn
   have l_kn_W2 := lt_of kn
   have z_W2 := hb_W2.size
   clear hb_W2
   go_wp2_with fail
   refine wp_gen fun V2 hV_V2 => ?_
   have n_ki := congrArg (fun v : World => v.heap[w.heap.size]?) hV_V2
   simp (maxDischargeDepth := 9) only [BK, not_false_eq_true, reduceCtorEq, ki, kx, kn, l_ki_V, l_kx_V, l_ki_W1, l_kx_W1, l_ki_V1, l_kx_V1, l_kn_V1, l_ki_W2, l_kx_W2, l_kn_W2] at n_ki
   have n_kx := congrArg (fun v : World => v.heap[w.heap.size + 1]?) hV_V2
   simp (maxDischargeDepth := 9) only [BK, not_false_eq_true, reduceCtorEq, ki, kx, kn, l_ki_V, l_kx_V, l_ki_W1, l_kx_W1, l_ki_V1, l_kx_V1, l_kn_V1, l_ki_W2, l_kx_W2, l_kn_W2] at n_kx
   have n_kn := congrArg (fun v : World => v.heap[W1.heap.size]?) hV_V2
   simp (maxDischargeDepth := 9) only [BK, not_false_eq_true, reduceCtorEq, ki, kx, kn, l_ki_V, l_kx_V, l_ki_W1, l_kx_W1, l_ki_V1, l_kx_V1, l_kn_V1, l_ki_W2, l_kx_W2, l_kn_W2] at n_kn
   have n_kt := congrArg (fun v : World => v.heap[W2.heap.size]?) hV_V2
   simp (maxDischargeDepth := 9) only [BK, not_false_eq_true, reduceCtorEq, ki, kx, kn, l_ki_V, l_kx_V, l_ki_W1, l_kx_W1, l_ki_V1, l_kx_V1, l_kn_V1, l_ki_W2, l_kx_W2, l_kn_W2] at n_kt
   have n_kb := congrArg (fun v : World => v.heap[W2.heap.size + 1]?) hV_V2
   simp (maxDischargeDepth := 9) only [BK, not_false_eq_true, reduceCtorEq, ki, kx, kn, l_ki_V, l_kx_V, l_ki_W1, l_kx_W1, l_ki_V1, l_kx_V1, l_kn_V1, l_ki_W2, l_kx_W2, l_kn_W2] at n_kb
   have o_kt : ¬ O (W2.heap.size) := by first | exact hA.new (Nat.le_refl _) | exact hA.new (by omega)
   have o_kb : ¬ O (W2.heap.size + 1) := by first | exact hA.new (Nat.le_refl _) | exact hA.new (by omega)
   have n_F : Fr (noX) O O w V2 := nF hV_V2
   have n_A : AP V2 (.pointer q) s O := nA hV_V2
   have z_V2 := Nat.le_of_eq (congrArg (fun v : World => v.heap.size) hV_V2).symm
   try simp only [SZ] at z_V2
   clear ki c_ki f_ki
   clear kx c_kx f_kx
   clear kn c_kn f_kn
   clear hV_V2
   clear hA
   have hA := n_A
   clear n_A
   clear hF
   have hF := n_F
   clear n_F
   have ki := n_ki; clear n_ki
   have c_ki := cells_of ki
   have f_ki := free_of ki
   have l_ki_V2 := lt_of ki
   have kx := n_kx; clear n_kx
   have c_kx := cells_of kx
   have f_kx := free_of kx
   have l_kx_V2 := lt_of kx
   have kn := n_kn; clear n_kn
   have c_kn := cells_of kn
   have f_kn := free_of kn
   have l_kn_V2 := lt_of kn
   have kt := n_kt; clear n_kt
   have c_kt := cells_of kt
   have f_kt := free_of kt
   have l_kt_V2 := lt_of kt
   have kb := n_kb; clear n_kb
   have c_kb := cells_of kb
   have f_kb := free_of kb
   have l_kb_V2 := lt_of kb
   refine wp_region_noPanic ?_
   refine wp_region_held_drew (S := fun v => (∀ o, v.cell? ⟨w.heap.size, o, none⟩ = V2.cell? ⟨w.heap.size, o, none⟩) ∧ (∀ o, v.cell? ⟨w.heap.size + 1, o, none⟩ = V2.cell? ⟨w.heap.size + 1, o, none⟩) ∧ (∀ o, v.cell? ⟨W1.heap.size, o, none⟩ = V2.cell? ⟨W1.heap.size, o, none⟩) ∧ (v.cell? ⟨W2.heap.size, 0, none⟩ = V2.cell? ⟨W2.heap.size, 0, none⟩) ∧ (∀ o, v.cell? ⟨W2.heap.size + 1, o, none⟩ = V2.cell? ⟨W2.heap.size + 1, o, none⟩) ∧ (V2.heap.size ≤ v.heap.size) ∧ True) (by kernel_rfl) ⟨(fun _ => rfl), (fun _ => rfl), (fun _ => rfl), rfl, (fun _ => rfl), (Nat.le_refl _), trivial⟩ (fun hHeld => ?_)
   generalize hV_V2d : V2.drew = V2d at hHeld ⊢
   have n_ki : V2d.heap[w.heap.size]? = V2.heap[w.heap.size]? := by rw [← hV_V2d]; rfl
   have d_ki := n_ki.trans ki
   clear n_ki c_ki f_ki
   have n_kx : V2d.heap[w.heap.size + 1]? = V2.heap[w.heap.size + 1]? := by rw [← hV_V2d]; rfl
   have d_kx := n_kx.trans kx
   clear n_kx c_kx f_kx
   have n_kn : V2d.heap[W1.heap.size]? = V2.heap[W1.heap.size]? := by rw [← hV_V2d]; rfl
   have d_kn := n_kn.trans kn
   clear n_kn c_kn f_kn
   have n_kt : V2d.heap[W2.heap.size]? = V2.heap[W2.heap.size]? := by rw [← hV_V2d]; rfl
   have d_kt := n_kt.trans kt
   clear n_kt c_kt f_kt
   have n_kb : V2d.heap[W2.heap.size + 1]? = V2.heap[W2.heap.size + 1]? := by rw [← hV_V2d]; rfl
   have d_kb := n_kb.trans kb
   clear n_kb c_kb f_kb
   have n_A : AP V2d (.pointer q) s O := by rw [← hV_V2d]; exact hA.drew
   clear hA; have hA := n_A; clear n_A
   have n_F : Fr (noX) O O w V2d := by rw [← hV_V2d]; exact hF.drew
   clear hF; have hF := n_F; clear n_F
   have z_V2d : V2.heap.size ≤ V2d.heap.size := by rw [← hV_V2d]; exact Nat.le_refl _
   have v_ki := cells_of ki
   have v_kx := cells_of kx
   have v_kn := cells_of kn
   have v_kt := cells_of kt
   have v_kb := cells_of kb
   clear ki; have ki := d_ki; clear d_ki
   clear kx; have kx := d_kx; clear d_kx
   clear kn; have kn := d_kn; clear d_kn
   clear kt; have kt := d_kt; clear d_kt
   clear kb; have kb := d_kb; clear d_kb
   have c_ki := cells_of ki
   have f_ki := free_of ki
   have l_ki_V2d := lt_of ki
   have c_kx := cells_of kx
   have f_kx := free_of kx
   have l_kx_V2d := lt_of kx
   have c_kn := cells_of kn
   have f_kn := free_of kn
   have l_kn_V2d := lt_of kn
   have c_kt := cells_of kt
   have f_kt := free_of kt
   have l_kt_V2d := lt_of kt
   have c_kb := cells_of kb
   have f_kb := free_of kb
   have l_kb_V2d := lt_of kb
   clear hV_V2d
   refine ty (i := 0) (v := ?_) rfl hHeld ?_ ?_
   rotate_left
   focus (intro w hSw; go_simp; (try simp only [IntWalk.i64_left]); try (with_reducible rfl))
   try simp only [PT]
   refine ty (i := 1) (v := ?_) rfl hHeld ?_ ?_
   rotate_left
   focus (intro w hSw; go_simp; (try simp only [IntWalk.i64_left]); try (with_reducible rfl))
   try simp only [PT]
   refine ty (i := 2) (v := ?_) rfl hHeld ?_ ?_
   rotate_left
   focus (intro w hSw; go_simp; (try simp only [IntWalk.i64_left]); try (with_reducible rfl))
   try simp only [PT]
   refine ty (i := 3) (v := ?_) rfl hHeld ?_ ?_
   rotate_left
   focus (intro w hSw; go_simp; (try simp only [IntWalk.i64_left]); try (with_reducible rfl))
   try simp only [PT]
   refine ty (i := 4) (v := ?_) rfl hHeld ?_ ?_
   rotate_left
   focus (intro w hSw; go_simp; (try simp only [IntWalk.i64_left]); try (with_reducible rfl))
   try simp only [PT]
   refine ty (i := 5) (v := ?_) rfl hHeld ?_ ?_
   rotate_left
   focus (intro w hSw; go_simp; (try simp only [IntWalk.i64_left]); try (with_reducible rfl))
   try simp only [PT]
   refine ty (i := 6) (v := ?_) rfl hHeld ?_ ?_
   rotate_left
   focus (intro w hSw; go_simp; (try simp only [IntWalk.i64_left]); try (with_reducible rfl))
   try simp only [PT]
   refine ty (i := 7) (v := ?_) rfl hHeld ?_ ?_
   rotate_left
   focus (intro w hSw; go_simp; (try simp only [IntWalk.i64_left]); try (with_reducible rfl))
   try simp only [PT]
   refine ty (i := 8) (v := ?_) rfl hHeld ?_ ?_
   rotate_left
   focus (intro w hSw; go_simp; (try simp only [IntWalk.i64_left]); try (with_reducible rfl))
   try simp only [PT]
   refine wpAnyH_ready (rs := [9]) (by kernel_rfl) (by simp) ?_
   refine ready_at rfl (fun K hK => ?_) AllReadyH.nil
   go_simp
   try simp only [IntWalk.i64_left]
   refine (lChange_calls lIns1_fun (Lib.hid (InsC.keepC W2.heap.size (W2.heap.size + 1) (w.heap.size + 1) W1.heap.size w.heap.size x (lLen s h) i)) (Lib.hid (lIns1_calls W2.heap.size (W2.heap.size + 1) (w.heap.size + 1) W1.heap.size w.heap.size x (lLen s h) i)) rounds ⟨s, 0⟩ _ _ _ u _ Hu.out ⟨hA, kt, o_kt⟩ ⟨kb, kx, kn, ki, o_kb, o_kx, o_kn, o_ki, by omega, by omega, by omega, by omega⟩).mono ?_
   rintro e_W3 W3 ⟨rfl, O1, hT_W3, hf_W3⟩
   have q_ki := hf_W3.keep ki o_ki (by unfold oneX; omega)
   have q_kx := hf_W3.keep kx o_kx (by unfold oneX; omega)
   have q_kn := hf_W3.keep kn o_kn (by unfold oneX; omega)
   have q_kb := hf_W3.keep kb o_kb (by unfold oneX; omega)
   replace o_ki := hf_W3.not_own (lt_of ki) o_ki
   clear ki; have ki := q_ki; clear q_ki
   have c_ki := cells_of ki
   have f_ki := free_of ki
   have l_ki_W3 := lt_of ki
   replace o_kx := hf_W3.not_own (lt_of kx) o_kx
   clear kx; have kx := q_kx; clear q_kx
   have c_kx := cells_of kx
   have f_kx := free_of kx
   have l_kx_W3 := lt_of kx
   replace o_kn := hf_W3.not_own (lt_of kn) o_kn
   clear kn; have kn := q_kn; clear q_kn
   have c_kn := cells_of kn
   have f_kn := free_of kn
   have l_kn_W3 := lt_of kn
   replace o_kb := hf_W3.not_own (lt_of kb) o_kb
   clear kb; have kb := q_kb; clear q_kb
   have c_kb := cells_of kb
   have f_kb := free_of kb
   have l_kb_W3 := lt_of kb
   clear kt c_kt f_kt o_kt; have kt := hT_W3.blk; have o_kt := hT_W3.no
   have c_kt := cells_of kt
   have f_kt := free_of kt
   have l_kt_W3 := lt_of kt
   replace hF := hF.trans_new hf_W3 (by omega)
   have z_W3 := hf_W3.size
   clear hA hf_W3; have hA := hT_W3.hA; clear hT_W3
   refine hK.out _ _ ⟨(fun o => (c_ki o).trans (v_ki o).symm), (fun o => (c_kx o).trans (v_kx o).symm), (fun o => (c_kn o).trans (v_kn o).symm), ((c_kt 0).trans (v_kt 0).symm), (fun o => (c_kb o).trans (v_kb o).symm), (by omega), trivial⟩ (fun hHeld => ?_)
   clear hK K
   try simp only [PT]
   refine wpAnyH_ready (rs := [10]) (by kernel_rfl) (by simp) ?_
   refine ready_at rfl (fun K hK => ?_) AllReadyH.nil
   go_simp
   try simp only [IntWalk.i64_left]
   refine (lTold_calls (t := u.2) u.1 _ ⟨hA, kt, o_kt⟩).mono ?_
   rintro e_W4 W4 ⟨rfl, O2, hT_W4, hf_W4⟩
   have q_ki := hf_W4.keep ki o_ki (by unfold oneX; omega)
   have q_kx := hf_W4.keep kx o_kx (by unfold oneX; omega)
   have q_kn := hf_W4.keep kn o_kn (by unfold oneX; omega)
   have q_kb := hf_W4.keep kb o_kb (by unfold oneX; omega)
   replace o_ki := hf_W4.not_own (lt_of ki) o_ki
   clear ki; have ki := q_ki; clear q_ki
   have c_ki := cells_of ki
   have f_ki := free_of ki
   have l_ki_W4 := lt_of ki
   replace o_kx := hf_W4.not_own (lt_of kx) o_kx
   clear kx; have kx := q_kx; clear q_kx
   have c_kx := cells_of kx
   have f_kx := free_of kx
   have l_kx_W4 := lt_of kx
   replace o_kn := hf_W4.not_own (lt_of kn) o_kn
   clear kn; have kn := q_kn; clear q_kn
   have c_kn := cells_of kn
   have f_kn := free_of kn
   have l_kn_W4 := lt_of kn
   replace o_kb := hf_W4.not_own (lt_of kb) o_kb
   clear kb; have kb := q_kb; clear q_kb
   have c_kb := cells_of kb
   have f_kb := free_of kb
   have l_kb_W4 := lt_of kb
   clear kt c_kt f_kt o_kt; have kt := hT_W4.blk; have o_kt := hT_W4.no
   have c_kt := cells_of kt
   have f_kt := free_of kt
   have l_kt_W4 := lt_of kt
   replace hF := hF.trans_new hf_W4 (by omega)
   have z_W4 := hf_W4.size
   clear hA hf_W4; have hA := hT_W4.hA; clear hT_W4
   refine hK.out _ _ ⟨(fun o => (c_ki o).trans (v_ki o).symm), (fun o => (c_kx o).trans (v_kx o).symm), (fun o => (c_kn o).trans (v_kn o).symm), ((c_kt 0).trans (v_kt 0).symm), (fun o => (c_kb o).trans (v_kb o).symm), (by omega), trivial⟩ (fun hHeld => ?_)
   clear hK K
   try simp only [PT]
   refine ty (i := 11) (v := ?_) rfl hHeld ?_ ?_
   rotate_left
   focus (intro w hSw; go_simp; (try simp only [IntWalk.i64_left]); try (with_reducible rfl))
   try simp only [PT]
   refine ty (i := 12) (v := ?_) rfl hHeld ?_ ?_
   rotate_left
   focus (intro w hSw; go_simp; (try simp only [IntWalk.i64_left]); try (with_reducible rfl))
   try simp only [PT]
   refine wpAnyH_ready (rs := [13]) (by kernel_rfl) (by simp) ?_
   refine ready_at rfl (fun K hK => ?_) AllReadyH.nil
   go_simp
   refine hK.out _ _ hHeld (fun hHeld => ?_)
   clear hK K
   try simp only [PT]
   refine wpAnyH_ready (rs := [14]) (by kernel_rfl) (by simp) ?_
   refine ready_at rfl (fun K hK => ?_) AllReadyH.nil
   go_simp
   refine hK.out _ _ hHeld (fun hHeld => ?_)
   clear hK K
   try simp only [PT]
   refine wpAnyH_done (by kernel_rfl) ?_ _
   refine NoPanic.normal ?_
   go_wp2_with fail
   go_ret2
   refine ⟨rfl, O2, ?_, hF⟩
   rw [told_s]; exact hA
 ·
  have d1 : (lMay x i (lLen s h) != 0) = true := by simp [h1]
  rw [if_neg h1] at hr
  obtain rfl := Option.some.inj hr
  clear hr h1
  go_enter Try.func30, Try.ntmps30
  go_wp2_with fail
  refine calls_gen fun V hV_V => ?_
  have n_ki := congrArg (fun v : World => v.heap[w.heap.size]?) hV_V
  simp (maxDischargeDepth := 9) only [BK, not_false_eq_true, reduceCtorEq] at n_ki
  have n_kx := congrArg (fun v : World => v.heap[w.heap.size + 1]?) hV_V
  simp (maxDischargeDepth := 9) only [BK, not_false_eq_true, reduceCtorEq] at n_kx
  have o_ki : ¬ O (w.heap.size) := by first | exact hA.new (Nat.le_refl _) | exact hA.new (by omega)
  have o_kx : ¬ O (w.heap.size + 1) := by first | exact hA.new (Nat.le_refl _) | exact hA.new (by omega)
  have n_F : Fr (noX) O O w V := nF hV_V
  have n_A : AP V (.pointer q) s O := nA hV_V
  have z_V := Nat.le_of_eq (congrArg (fun v : World => v.heap.size) hV_V).symm
  try simp only [SZ] at z_V
  clear hV_V
  clear hA
  have hA := n_A
  clear n_A
  skip
  have hF := n_F
  clear n_F
  have ki := n_ki; clear n_ki
  have c_ki := cells_of ki
  have f_ki := free_of ki
  have l_ki_V := lt_of ki
  have kx := n_kx; clear n_kx
  have c_kx := cells_of kx
  have f_kx := free_of kx
  have l_kx_V := lt_of kx
  refine (lLen_calls _ _ hA).mono ?_
  rintro e_W1 W1 ⟨rfl, hb_W1⟩
  replace hA := hA.below hb_W1
  replace hF := hF.below hb_W1
  replace ki := keep_blk hb_W1 ki
  have c_ki := cells_of ki
  have f_ki := free_of ki
  have l_ki_W1 := lt_of ki
  replace kx := keep_blk hb_W1 kx
  have c_kx := cells_of kx
  have f_kx := free_of kx
  have l_kx_W1 := lt_of kx
  have z_W1 := hb_W1.size
  clear hb_W1
  go_wp2_with fail
  refine calls_gen fun V1 hV_V1 => ?_
  have n_ki := congrArg (fun v : World => v.heap[w.heap.size]?) hV_V1
  simp (maxDischargeDepth := 9) only [BK, not_false_eq_true, reduceCtorEq, ki, kx, l_ki_V, l_kx_V, l_ki_W1, l_kx_W1] at n_ki
  have n_kx := congrArg (fun v : World => v.heap[w.heap.size + 1]?) hV_V1
  simp (maxDischargeDepth := 9) only [BK, not_false_eq_true, reduceCtorEq, ki, kx, l_ki_V, l_kx_V, l_ki_W1, l_kx_W1] at n_kx
  have n_kn := congrArg (fun v : World => v.heap[W1.heap.size]?) hV_V1
  simp (maxDischargeDepth := 9) only [BK, not_false_eq_true, reduceCtorEq, ki, kx, l_ki_V, l_kx_V, l_ki_W1, l_kx_W1] at n_kn
  have o_kn : ¬ O (W1.heap.size) := by first | exact hA.new (Nat.le_refl _) | exact hA.new (by omega)
  have n_F : Fr (noX) O O w V1 := nF hV_V1
  have n_A : AP V1 (.pointer q) s O := nA hV_V1
  have z_V1 := Nat.le_of_eq (congrArg (fun v : World => v.heap.size) hV_V1).symm
  try simp only [SZ] at z_V1
  clear ki c_ki f_ki
  clear kx c_kx f_kx
  clear hV_V1
  clear hA
  have hA := n_A
  clear n_A
  clear hF
  have hF := n_F
  clear n_F
  have ki := n_ki; clear n_ki
  have c_ki := cells_of ki
  have f_ki := free_of ki
  have l_ki_V1 := lt_of ki
  have kx := n_kx; clear n_kx
  have c_kx := cells_of kx
  have f_kx := free_of kx
  have l_kx_V1 := lt_of kx
  have kn := n_kn; clear n_kn
  have c_kn := cells_of kn
  have f_kn := free_of kn
  have l_kn_V1 := lt_of kn
  refine (lMay_calls x i (lLen s h) _).mono ?_
  rintro e_W2 W2 ⟨rfl, hb_W2⟩
  replace hA := hA.below hb_W2
  replace hF := hF.below hb_W2
  replace ki := keep_blk hb_W2 ki
  have c_ki := cells_of ki
  have f_ki := free_of ki
  have l_ki_W2 := lt_of ki
  replace kx := keep_blk hb_W2 kx
  have c_kx := cells_of kx
  have f_kx := free_of kx
  have l_kx_W2 := lt_of kx
  replace kn := keep_blk hb_W2 kn
  have c_kn := cells_of kn
  have f_kn := free_of kn
  have l_kn_W2 := lt_of kn
  have z_W2 := hb_W2.size
  clear hb_W2
  go_wp2_with fail
  go_ret2
  exact ⟨rfl, O, hA, hF⟩
end Go.Proofs.Ytkgabbenmoocgaa
