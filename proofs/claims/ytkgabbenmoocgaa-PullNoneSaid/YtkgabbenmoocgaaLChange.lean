/- The tree that makes nodes of lists: change, by a closure's contract. -/
import Derived.Test.YtkgabbenmoocgaaLJoin
namespace Go.Proofs.Ytkgabbenmoocgaa
set_option linter.unusedSimpArgs false
set_option linter.unusedVariables false
set_option linter.unnecessarySimpa false
open Go.RowKit
attribute [local go_sem ↓] Go.wp_at_zero Go.wp_at_succ
attribute [local go_sem] lt_s2 lt_s3 lt_s4
attribute [local go_sem] idx0 idx1 idx2 idx3
variable {ap : Value} {tb : Nat}
/-- What a closure of a number, and with what it captured, does to a list. -/
def OneC (tb : Nat) (ap : Value) (C : World → (Nat → Prop) → Prop) (f : FuncId) (caps : Array Value) (one : Tb → Int → Option (Int × Tb)) : Prop :=
 ∀ (t : Tb) (O : Nat → Prop) (h : Int) (r : Int × Tb) (w : World), one t h = some r → LB w tb ap t O → C w O →
  Calls Try.prog f (#[.int .i64 h] ++ caps) w fun e w' => e = .returned (.int .i64 r.1) ∧ DidL tb ap r.2 O w w'
/-- What a closure captured stays as it is. -/
def KeepC (tb : Nat) (C : World → (Nat → Prop) → Prop) : Prop := ∀ w w' O O', C w O → Fr (oneX tb) O O' w w' → C w' O'
section
variable {t : Tb} {O : Nat → Prop} {C : World → (Nat → Prop) → Prop} {f : FuncId} {caps : Array Value} {one : Tb → Int → Option (Int × Tb)}
set_option maxRecDepth 100000 in
set_option maxHeartbeats 2000000 in
theorem lChg_none (hfun : ∀ args w, (callFunc f args).run Try.prog w = .ok (.enter f args) w) (hKC : Hid (KeepC tb C)) (hone : Hid (OneC tb ap C f caps one)) (h i : Int) (r : Int × Tb) (w : World) (hr : one t h = some r) (h0 : lIs t.s h = false) (hT : LB w tb ap t O) (hC : C w O) :
  Calls Try.prog 58 #[.pointer (some ⟨tb, 0, none⟩), .int .i64 h, .int .i64 i, .func (.func f) #[] caps] w fun e w' => e = .returned (.int .i64 r.1) ∧ DidL tb ap r.2 O w w' := by
 have Hr := Lib.hid hr; clear hr
 have HC := Lib.hid hC; clear hC
 go_enter Try.func58, Try.ntmps58
 have hA := hT.hA
 have kt := hT.blk
 have o_kt := hT.no
 have c_kt := cells_of kt
 have f_kt := free_of kt
 have l_kt_w := lt_of kt
 go_wp2_with fail
 refine calls_gen fun V hV_V => ?_
 have n_kt := congrArg (fun v : World => v.heap[tb]?) hV_V
 simp (maxDischargeDepth := 9) only [BK, not_false_eq_true, reduceCtorEq, kt, l_kt_w] at n_kt
 have n_F : Fr ((oneX tb)) O O w V := nF hV_V
 have n_A : AP V ap t.s O := nA hV_V
 have z_V := Nat.le_of_eq (congrArg (fun v : World => v.heap.size) hV_V).symm
 try simp only [SZ] at z_V
 clear kt c_kt f_kt
 clear hV_V
 clear hA
 have hA := n_A
 clear n_A
 skip
 have hF := n_F
 clear n_F
 have kt := n_kt; clear n_kt
 have c_kt := cells_of kt
 have f_kt := free_of kt
 have l_kt_V := lt_of kt
 refine (lRow_calls _ _ hA).mono ?_
 rintro e_W1 W1 ⟨rfl, hb_W1⟩
 replace hA := hA.below hb_W1
 replace hF := hF.below hb_W1
 replace kt := keep_blk hb_W1 kt
 have c_kt := cells_of kt
 have f_kt := free_of kt
 have l_kt_W1 := lt_of kt
 have z_W1 := hb_W1.size
 clear hb_W1
 unfold Nd.val
 go_wp2_with fail
 refine calls_gen fun V1 hV_V1 => ?_
 have n_kt := congrArg (fun v : World => v.heap[tb]?) hV_V1
 simp (maxDischargeDepth := 9) only [BK, not_false_eq_true, reduceCtorEq, kt, l_kt_w, l_kt_V, l_kt_W1] at n_kt
 have n_F : Fr ((oneX tb)) O O w V1 := nF hV_V1
 have n_A : AP V1 ap t.s O := nA hV_V1
 have z_V1 := Nat.le_of_eq (congrArg (fun v : World => v.heap.size) hV_V1).symm
 try simp only [SZ] at z_V1
 clear kt c_kt f_kt
 clear hV_V1
 clear hA
 have hA := n_A
 clear n_A
 clear hF
 have hF := n_F
 clear n_F
 have kt := n_kt; clear n_kt
 have c_kt := cells_of kt
 have f_kt := free_of kt
 have l_kt_V1 := lt_of kt
 refine (hone.out t O h r _ Hr.out ⟨hA, kt, o_kt⟩ (hKC.out _ _ _ _ HC.out hF)).mono ?_
 rintro e_W2 W2 ⟨rfl, O1, hT_W2, hf_W2⟩
 clear kt c_kt f_kt o_kt; have kt := hT_W2.blk; have o_kt := hT_W2.no
 have c_kt := cells_of kt
 have f_kt := free_of kt
 have l_kt_W2 := lt_of kt
 replace hF := hF.trans hf_W2
 have z_W2 := hf_W2.size
 clear hA hf_W2; have hA := hT_W2.hA; clear hT_W2
 go_wp2_with fail
 go_ret
 exact ⟨rfl, O1, ⟨hA, kt, o_kt⟩, hF⟩
set_option maxRecDepth 100000 in
set_option maxHeartbeats 2000000 in
theorem lChg_item (hfun : ∀ args w, (callFunc f args).run Try.prog w = .ok (.enter f args) w) (hKC : Hid (KeepC tb C)) (hone : Hid (OneC tb ap C f caps one)) (h i : Int) (r : Int × Tb) (w : World) (hr : one t h = some r) (h0 : lIs t.s h = true) (d1 : ((t.s.get h).tag == 4) = true) (hT : LB w tb ap t O) (hC : C w O) :
  Calls Try.prog 58 #[.pointer (some ⟨tb, 0, none⟩), .int .i64 h, .int .i64 i, .func (.func f) #[] caps] w fun e w' => e = .returned (.int .i64 r.1) ∧ DidL tb ap r.2 O w w' := by
 have Hr := Lib.hid hr; clear hr
 have HC := Lib.hid hC; clear hC
 go_enter Try.func58, Try.ntmps58
 have hA := hT.hA
 have kt := hT.blk
 have o_kt := hT.no
 have c_kt := cells_of kt
 have f_kt := free_of kt
 have l_kt_w := lt_of kt
 go_wp2_with fail
 refine calls_gen fun V hV_V => ?_
 have n_kt := congrArg (fun v : World => v.heap[tb]?) hV_V
 simp (maxDischargeDepth := 9) only [BK, not_false_eq_true, reduceCtorEq, kt, l_kt_w] at n_kt
 have n_F : Fr ((oneX tb)) O O w V := nF hV_V
 have n_A : AP V ap t.s O := nA hV_V
 have z_V := Nat.le_of_eq (congrArg (fun v : World => v.heap.size) hV_V).symm
 try simp only [SZ] at z_V
 clear kt c_kt f_kt
 clear hV_V
 clear hA
 have hA := n_A
 clear n_A
 skip
 have hF := n_F
 clear n_F
 have kt := n_kt; clear n_kt
 have c_kt := cells_of kt
 have f_kt := free_of kt
 have l_kt_V := lt_of kt
 refine (lRow_calls _ _ hA).mono ?_
 rintro e_W1 W1 ⟨rfl, hb_W1⟩
 replace hA := hA.below hb_W1
 replace hF := hF.below hb_W1
 replace kt := keep_blk hb_W1 kt
 have c_kt := cells_of kt
 have f_kt := free_of kt
 have l_kt_W1 := lt_of kt
 have z_W1 := hb_W1.size
 clear hb_W1
 unfold Nd.val
 go_wp2_with fail
 refine calls_gen fun V1 hV_V1 => ?_
 have n_kt := congrArg (fun v : World => v.heap[tb]?) hV_V1
 simp (maxDischargeDepth := 9) only [BK, not_false_eq_true, reduceCtorEq, kt, l_kt_w, l_kt_V, l_kt_W1] at n_kt
 have n_F : Fr ((oneX tb)) O O w V1 := nF hV_V1
 have n_A : AP V1 ap t.s O := nA hV_V1
 have z_V1 := Nat.le_of_eq (congrArg (fun v : World => v.heap.size) hV_V1).symm
 try simp only [SZ] at z_V1
 clear kt c_kt f_kt
 clear hV_V1
 clear hA
 have hA := n_A
 clear n_A
 clear hF
 have hF := n_F
 clear n_F
 have kt := n_kt; clear n_kt
 have c_kt := cells_of kt
 have f_kt := free_of kt
 have l_kt_V1 := lt_of kt
 refine (hone.out t O h r _ Hr.out ⟨hA, kt, o_kt⟩ (hKC.out _ _ _ _ HC.out hF)).mono ?_
 rintro e_W2 W2 ⟨rfl, O1, hT_W2, hf_W2⟩
 clear kt c_kt f_kt o_kt; have kt := hT_W2.blk; have o_kt := hT_W2.no
 have c_kt := cells_of kt
 have f_kt := free_of kt
 have l_kt_W2 := lt_of kt
 replace hF := hF.trans hf_W2
 have z_W2 := hf_W2.size
 clear hA hf_W2; have hA := hT_W2.hA; clear hT_W2
 go_wp2_with fail
 go_ret
 exact ⟨rfl, O1, ⟨hA, kt, o_kt⟩, hF⟩
set_option maxRecDepth 100000 in
set_option maxHeartbeats 2000000 in
theorem lChg_high (k : Nat) (hKC : Hid (KeepC tb C)) (ih : Hid (∀ (t : Tb) (O : Nat → Prop) (h i : Int) (r : Int × Tb) (w : World), Tb.change one k t h i = some r → LB w tb ap t O → C w O → Calls Try.prog 58 #[.pointer (some ⟨tb, 0, none⟩), .int .i64 h, .int .i64 i, .func (.func f) #[] caps] w fun e w' => e = .returned (.int .i64 r.1) ∧ DidL tb ap r.2 O w w')) (h i : Int) (r : Int × Tb) (w : World) (h0 : lIs t.s h = true) (d1 : ((t.s.get h).tag == 4) = false) (d2 : decide (lLen t.s (t.s.get h).k0 ≤ i) = true)
  (hr : (Tb.change one k (t.keep (t.s.get h).k0) (t.s.get h).k1 (wrap64 (i - lLen t.s (t.s.get h).k0))).bind (fun r => r.2.join (t.s.get h).k0 r.1) = some r) (hT : LB w tb ap t O) (hC : C w O) :
  Calls Try.prog 58 #[.pointer (some ⟨tb, 0, none⟩), .int .i64 h, .int .i64 i, .func (.func f) #[] caps] w fun e w' => e = .returned (.int .i64 r.1) ∧ DidL tb ap r.2 O w w' := by
 obtain ⟨u, h_b, h_r⟩ := Option.bind_eq_some_iff.1 hr
 have Hu := Lib.hid h_b; clear h_b hr; have hr := h_r; clear h_r
 have Hr := Lib.hid hr; clear hr
 have HC := Lib.hid hC; clear hC
 go_enter Try.func58, Try.ntmps58
 have hA := hT.hA
 have kt := hT.blk
 have o_kt := hT.no
 have c_kt := cells_of kt
 have f_kt := free_of kt
 have l_kt_w := lt_of kt
 go_wp2_with fail
 refine calls_gen fun V hV_V => ?_
 have n_kt := congrArg (fun v : World => v.heap[tb]?) hV_V
 simp (maxDischargeDepth := 9) only [BK, not_false_eq_true, reduceCtorEq, kt, l_kt_w] at n_kt
 have n_F : Fr ((oneX tb)) O O w V := nF hV_V
 have n_A : AP V ap t.s O := nA hV_V
 have z_V := Nat.le_of_eq (congrArg (fun v : World => v.heap.size) hV_V).symm
 try simp only [SZ] at z_V
 clear kt c_kt f_kt
 clear hV_V
 clear hA
 have hA := n_A
 clear n_A
 skip
 have hF := n_F
 clear n_F
 have kt := n_kt; clear n_kt
 have c_kt := cells_of kt
 have f_kt := free_of kt
 have l_kt_V := lt_of kt
 refine (lRow_calls _ _ hA).mono ?_
 rintro e_W1 W1 ⟨rfl, hb_W1⟩
 replace hA := hA.below hb_W1
 replace hF := hF.below hb_W1
 replace kt := keep_blk hb_W1 kt
 have c_kt := cells_of kt
 have f_kt := free_of kt
 have l_kt_W1 := lt_of kt
 have z_W1 := hb_W1.size
 clear hb_W1
 unfold Nd.val
 go_wp2_with fail
 refine wp_gen fun V1 hV_V1 => ?_
 have n_kt := congrArg (fun v : World => v.heap[tb]?) hV_V1
 simp (maxDischargeDepth := 9) only [BK, not_false_eq_true, reduceCtorEq, kt, l_kt_w, l_kt_V, l_kt_W1] at n_kt
 have n_kn := congrArg (fun v : World => v.heap[W1.heap.size]?) hV_V1
 simp (maxDischargeDepth := 9) only [BK, not_false_eq_true, reduceCtorEq, kt, l_kt_w, l_kt_V, l_kt_W1] at n_kn
 have o_kn : ¬ O (W1.heap.size) := by first | exact hA.new (Nat.le_refl _) | exact hA.new (by omega)
 have n_F : Fr ((oneX tb)) O O w V1 := nF hV_V1
 have n_A : AP V1 ap t.s O := nA hV_V1
 have z_V1 := Nat.le_of_eq (congrArg (fun v : World => v.heap.size) hV_V1).symm
 try simp only [SZ] at z_V1
 clear kt c_kt f_kt
 clear hV_V1
 clear hA
 have hA := n_A
 clear n_A
 clear hF
 have hF := n_F
 clear n_F
 have kt := n_kt; clear n_kt
 have c_kt := cells_of kt
 have f_kt := free_of kt
 have l_kt_V1 := lt_of kt
 have kn := n_kn; clear n_kn
 have c_kn := cells_of kn
 have f_kn := free_of kn
 have l_kn_V1 := lt_of kn
 refine wp_region_noPanic ?_
 refine wp_region_held_drew (S := fun v => (∀ o, v.cell? ⟨tb, o, none⟩ = V1.cell? ⟨tb, o, none⟩) ∧ (∀ o, v.cell? ⟨W1.heap.size, o, none⟩ = V1.cell? ⟨W1.heap.size, o, none⟩) ∧ (V1.heap.size ≤ v.heap.size) ∧ AP v ap t.s O) (by kernel_rfl) ⟨(fun _ => rfl), (fun _ => rfl), (Nat.le_refl _), hA.drew⟩ (fun hHeld => ?_)
 generalize hV_V1d : V1.drew = V1d at hHeld ⊢
 have n_kt : V1d.heap[tb]? = V1.heap[tb]? := by rw [← hV_V1d]; rfl
 have d_kt := n_kt.trans kt
 clear n_kt c_kt f_kt
 have n_kn : V1d.heap[W1.heap.size]? = V1.heap[W1.heap.size]? := by rw [← hV_V1d]; rfl
 have d_kn := n_kn.trans kn
 clear n_kn c_kn f_kn
 have n_A : AP V1d ap t.s O := by rw [← hV_V1d]; exact hA.drew
 clear hA; have hA := n_A; clear n_A
 have n_F : Fr ((oneX tb)) O O w V1d := by rw [← hV_V1d]; exact hF.drew
 clear hF; have hF := n_F; clear n_F
 have z_V1d : V1.heap.size ≤ V1d.heap.size := by rw [← hV_V1d]; exact Nat.le_refl _
 have v_kt := cells_of kt
 have v_kn := cells_of kn
 clear kt; have kt := d_kt; clear d_kt
 clear kn; have kn := d_kn; clear d_kn
 have c_kt := cells_of kt
 have f_kt := free_of kt
 have l_kt_V1d := lt_of kt
 have c_kn := cells_of kn
 have f_kn := free_of kn
 have l_kn_V1d := lt_of kn
 clear hV_V1d
 refine ty (i := 0) (v := ?_) rfl hHeld ?_ ?_
 rotate_left
 focus (intro w hSw; go_simp; (try simp only [IntWalk.i64_left]); try (with_reducible rfl))
 try simp only [PT]
 refine ty (i := 1) (v := ?_) rfl hHeld ?_ ?_
 rotate_left
 focus (intro w hSw; go_simp; (try simp only [IntWalk.i64_left]); try (with_reducible rfl))
 try simp only [PT]
 refine ty (i := 2) (v := ?_) rfl hHeld ?_ ?_
 rotate_left
 focus (intro w hSw; go_simp; (try simp only [IntWalk.i64_left]); try (with_reducible rfl))
 try simp only [PT]
 refine ty (i := 3) (v := ?_) rfl hHeld ?_ ?_
 rotate_left
 focus (intro w hSw; go_simp; (try simp only [IntWalk.i64_left]); try (with_reducible rfl))
 try simp only [PT]
 refine ty (i := 4) (v := ?_) rfl hHeld ?_ ?_
 rotate_left
 focus (intro w hSw; go_simp; (try simp only [IntWalk.i64_left]); try (with_reducible rfl))
 try simp only [PT]
 refine ty (i := 5) (v := ?_) rfl hHeld ?_ ?_
 rotate_left
 focus (intro w hSw; go_simp; (try simp only [IntWalk.i64_left]); try (with_reducible rfl))
 try simp only [PT]
 refine ty (i := 6) (v := ?_) rfl hHeld ?_ ?_
 rotate_left
 focus (intro w hSw; go_simp; (try simp only [IntWalk.i64_left]); try (with_reducible rfl))
 try simp only [PT]
 refine wpAnyH_ready (rs := [7]) (by kernel_rfl) (by simp) ?_
 refine ready_at rfl (fun K hK => ?_) AllReadyH.nil
 go_simp
 try simp only [IntWalk.i64_left]
 refine (lLen_calls _ _ hA).mono ?_
 rintro e_W2 W2 ⟨rfl, hb_W2⟩
 replace hA := hA.below hb_W2
 replace hF := hF.below hb_W2
 replace kt := keep_blk hb_W2 kt
 have c_kt := cells_of kt
 have f_kt := free_of kt
 have l_kt_W2 := lt_of kt
 replace kn := keep_blk hb_W2 kn
 have c_kn := cells_of kn
 have f_kn := free_of kn
 have l_kn_W2 := lt_of kn
 have z_W2 := hb_W2.size
 clear hb_W2
 refine hK.out _ _ ⟨(fun o => (c_kt o).trans (v_kt o).symm), (fun o => (c_kn o).trans (v_kn o).symm), (by omega), hA⟩ (fun hHeld => ?_)
 clear hK K
 try simp only [PT]
 refine wpAnyH_ready (rs := [8]) (by kernel_rfl) (by simp) ?_
 refine ready_at rfl (fun K hK => ?_) AllReadyH.nil
 go_simp
 refine hK.out _ _ hHeld (fun hHeld => ?_)
 clear hK K
 try simp only [PT]
 refine wpAnyH_done (by kernel_rfl) ?_ _
 refine NoPanic.normal ?_
 go_wp2_with fail
 refine wp_gen fun V2 hV_V2 => ?_
 have n_kt := congrArg (fun v : World => v.heap[tb]?) hV_V2
 simp (maxDischargeDepth := 9) only [BK, not_false_eq_true, reduceCtorEq, kt, kn, l_kt_w, l_kt_V, l_kt_W1, l_kt_V1, l_kn_V1, l_kt_V1d, l_kn_V1d, l_kt_W2, l_kn_W2] at n_kt
 have n_kn := congrArg (fun v : World => v.heap[W1.heap.size]?) hV_V2
 simp (maxDischargeDepth := 9) only [BK, not_false_eq_true, reduceCtorEq, kt, kn, l_kt_w, l_kt_V, l_kt_W1, l_kt_V1, l_kn_V1, l_kt_V1d, l_kn_V1d, l_kt_W2, l_kn_W2] at n_kn
 have n_F : Fr ((oneX tb)) O O w V2 := nF hV_V2
 have n_A : AP V2 ap t.s O := nA hV_V2
 have z_V2 := Nat.le_of_eq (congrArg (fun v : World => v.heap.size) hV_V2).symm
 try simp only [SZ] at z_V2
 clear kt c_kt f_kt
 clear kn c_kn f_kn
 clear hV_V2
 clear hA
 have hA := n_A
 clear n_A
 clear hF
 have hF := n_F
 clear n_F
 have kt := n_kt; clear n_kt
 have c_kt := cells_of kt
 have f_kt := free_of kt
 have l_kt_V2 := lt_of kt
 have kn := n_kn; clear n_kn
 have c_kn := cells_of kn
 have f_kn := free_of kn
 have l_kn_V2 := lt_of kn
 refine wp_region_noPanic ?_
 refine wp_region_held_drew (S := fun v => (v.cell? ⟨tb, 0, none⟩ = V2.cell? ⟨tb, 0, none⟩) ∧ (∀ o, v.cell? ⟨W1.heap.size, o, none⟩ = V2.cell? ⟨W1.heap.size, o, none⟩) ∧ (V2.heap.size ≤ v.heap.size) ∧ True) (by kernel_rfl) ⟨rfl, (fun _ => rfl), (Nat.le_refl _), trivial⟩ (fun hHeld => ?_)
 generalize hV_V2d : V2.drew = V2d at hHeld ⊢
 have n_kt : V2d.heap[tb]? = V2.heap[tb]? := by rw [← hV_V2d]; rfl
 have d_kt := n_kt.trans kt
 clear n_kt c_kt f_kt
 have n_kn : V2d.heap[W1.heap.size]? = V2.heap[W1.heap.size]? := by rw [← hV_V2d]; rfl
 have d_kn := n_kn.trans kn
 clear n_kn c_kn f_kn
 have n_A : AP V2d ap t.s O := by rw [← hV_V2d]; exact hA.drew
 clear hA; have hA := n_A; clear n_A
 have n_F : Fr ((oneX tb)) O O w V2d := by rw [← hV_V2d]; exact hF.drew
 clear hF; have hF := n_F; clear n_F
 have z_V2d : V2.heap.size ≤ V2d.heap.size := by rw [← hV_V2d]; exact Nat.le_refl _
 have v_kt := cells_of kt
 have v_kn := cells_of kn
 clear kt; have kt := d_kt; clear d_kt
 clear kn; have kn := d_kn; clear d_kn
 have c_kt := cells_of kt
 have f_kt := free_of kt
 have l_kt_V2d := lt_of kt
 have c_kn := cells_of kn
 have f_kn := free_of kn
 have l_kn_V2d := lt_of kn
 clear hV_V2d
 refine ty (i := 0) (v := ?_) rfl hHeld ?_ ?_
 rotate_left
 focus (intro w hSw; go_simp; (try simp only [IntWalk.i64_left]); try (with_reducible rfl))
 try simp only [PT]
 refine ty (i := 1) (v := ?_) rfl hHeld ?_ ?_
 rotate_left
 focus (intro w hSw; go_simp; (try simp only [IntWalk.i64_left]); try (with_reducible rfl))
 try simp only [PT]
 refine ty (i := 2) (v := ?_) rfl hHeld ?_ ?_
 rotate_left
 focus (intro w hSw; go_simp; (try simp only [IntWalk.i64_left]); try (with_reducible rfl))
 try simp only [PT]
 refine ty (i := 3) (v := ?_) rfl hHeld ?_ ?_
 rotate_left
 focus (intro w hSw; go_simp; (try simp only [IntWalk.i64_left]); try (with_reducible rfl))
 try simp only [PT]
 refine ty (i := 4) (v := ?_) rfl hHeld ?_ ?_
 rotate_left
 focus (intro w hSw; go_simp; (try simp only [IntWalk.i64_left]); try (with_reducible rfl))
 try simp only [PT]
 refine ty (i := 6) (v := ?_) rfl hHeld ?_ ?_
 rotate_left
 focus (intro w hSw; go_simp; (try simp only [IntWalk.i64_left]); try (with_reducible rfl))
 try simp only [PT]
 refine ty (i := 7) (v := ?_) rfl hHeld ?_ ?_
 rotate_left
 focus (intro w hSw; go_simp; (try simp only [IntWalk.i64_left]); try (with_reducible rfl))
 try simp only [PT]
 refine ty (i := 8) (v := ?_) rfl hHeld ?_ ?_
 rotate_left
 focus (intro w hSw; go_simp; (try simp only [IntWalk.i64_left]); try (with_reducible rfl))
 try simp only [PT]
 refine ty (i := 9) (v := ?_) rfl hHeld ?_ ?_
 rotate_left
 focus (intro w hSw; go_simp; (try simp only [IntWalk.i64_left]); try (with_reducible rfl))
 try simp only [PT]
 refine ty (i := 10) (v := ?_) rfl hHeld ?_ ?_
 rotate_left
 focus (intro w hSw; go_simp; (try simp only [IntWalk.i64_left]); try (with_reducible rfl))
 try simp only [PT]
 refine ty (i := 11) (v := ?_) rfl hHeld ?_ ?_
 rotate_left
 focus (intro w hSw; go_simp; (try simp only [IntWalk.i64_left]); try (with_reducible rfl))
 try simp only [PT]
 refine ty (i := 12) (v := ?_) rfl hHeld ?_ ?_
 rotate_left
 focus (intro w hSw; go_simp; (try simp only [IntWalk.i64_left]); try (with_reducible rfl))
 try simp only [PT]
 refine ty (i := 13) (v := ?_) rfl hHeld ?_ ?_
 rotate_left
 focus (intro w hSw; go_simp; (try simp only [IntWalk.i64_left]); try (with_reducible rfl))
 try simp only [PT]
 refine wpAnyH_ready (rs := [5]) (by kernel_rfl) (by simp) ?_
 refine ready_at rfl (fun K hK => ?_) AllReadyH.nil
 go_simp
 try simp only [IntWalk.i64_left]
 refine (lKeep_calls (t := t) (t.s.get h).k0 _ ⟨hA, kt, o_kt⟩).mono ?_
 rintro e_W3 W3 ⟨rfl, O1, hT_W3, hf_W3⟩
 have q_kn := hf_W3.keep kn o_kn (by unfold oneX; omega)
 replace o_kn := hf_W3.not_own (lt_of kn) o_kn
 clear kn; have kn := q_kn; clear q_kn
 have c_kn := cells_of kn
 have f_kn := free_of kn
 have l_kn_W3 := lt_of kn
 clear kt c_kt f_kt o_kt; have kt := hT_W3.blk; have o_kt := hT_W3.no
 have c_kt := cells_of kt
 have f_kt := free_of kt
 have l_kt_W3 := lt_of kt
 replace hF := hF.trans hf_W3
 have z_W3 := hf_W3.size
 clear hA hf_W3; have hA := hT_W3.hA; clear hT_W3
 refine hK.out _ _ ⟨((c_kt 0).trans (v_kt 0).symm), (fun o => (c_kn o).trans (v_kn o).symm), (by omega), trivial⟩ (fun hHeld => ?_)
 clear hK K
 try simp only [PT]
 refine wpAnyH_ready (rs := [14]) (by kernel_rfl) (by simp) ?_
 refine ready_at rfl (fun K hK => ?_) AllReadyH.nil
 go_simp
 try simp only [IntWalk.i64_left]
 refine (ih.out (t.keep (t.s.get h).k0) _ _ _ _ _ Hu.out ⟨hA, kt, o_kt⟩ (hKC.out _ _ _ _ HC.out hF)).mono ?_
 rintro e_W4 W4 ⟨rfl, O2, hT_W4, hf_W4⟩
 have q_kn := hf_W4.keep kn o_kn (by unfold oneX; omega)
 replace o_kn := hf_W4.not_own (lt_of kn) o_kn
 clear kn; have kn := q_kn; clear q_kn
 have c_kn := cells_of kn
 have f_kn := free_of kn
 have l_kn_W4 := lt_of kn
 clear kt c_kt f_kt o_kt; have kt := hT_W4.blk; have o_kt := hT_W4.no
 have c_kt := cells_of kt
 have f_kt := free_of kt
 have l_kt_W4 := lt_of kt
 replace hF := hF.trans hf_W4
 have z_W4 := hf_W4.size
 clear hA hf_W4; have hA := hT_W4.hA; clear hT_W4
 refine hK.out _ _ ⟨((c_kt 0).trans (v_kt 0).symm), (fun o => (c_kn o).trans (v_kn o).symm), (by omega), trivial⟩ (fun hHeld => ?_)
 clear hK K
 try simp only [PT]
 refine wpAnyH_ready (rs := [15]) (by kernel_rfl) (by simp) ?_
 refine ready_at rfl (fun K hK => ?_) AllReadyH.nil
 go_simp
 try simp only [IntWalk.i64_left]
 refine (lJoin_calls (t := u.2) _ _ _ Hr.out _ ⟨hA, kt, o_kt⟩).mono ?_
 rintro e_W5 W5 ⟨rfl, O3, hT_W5, hf_W5⟩
 have q_kn := hf_W5.keep kn o_kn (by unfold oneX; omega)
 replace o_kn := hf_W5.not_own (lt_of kn) o_kn
 clear kn; have kn := q_kn; clear q_kn
 have c_kn := cells_of kn
 have f_kn := free_of kn
 have l_kn_W5 := lt_of kn
 clear kt c_kt f_kt o_kt; have kt := hT_W5.blk; have o_kt := hT_W5.no
 have c_kt := cells_of kt
 have f_kt := free_of kt
 have l_kt_W5 := lt_of kt
 replace hF := hF.trans hf_W5
 have z_W5 := hf_W5.size
 clear hA hf_W5; have hA := hT_W5.hA; clear hT_W5
 refine hK.out _ _ ⟨((c_kt 0).trans (v_kt 0).symm), (fun o => (c_kn o).trans (v_kn o).symm), (by omega), trivial⟩ (fun hHeld => ?_)
 clear hK K
 try simp only [PT]
 refine wpAnyH_ready (rs := [16]) (by kernel_rfl) (by simp) ?_
 refine ready_at rfl (fun K hK => ?_) AllReadyH.nil
 go_simp
 refine hK.out _ _ hHeld (fun hHeld => ?_)
 clear hK K
 try simp only [PT]
 refine wpAnyH_done (by kernel_rfl) ?_ _
 refine NoPanic.normal ?_
 go_wp2_with fail
 go_ret
 exact ⟨rfl, O3, ⟨hA, kt, o_kt⟩, hF⟩
set_option maxRecDepth 100000 in
set_option maxHeartbeats 2000000 in
theorem lChg_low (k : Nat) (hKC : Hid (KeepC tb C)) (ih : Hid (∀ (t : Tb) (O : Nat → Prop) (h i : Int) (r : Int × Tb) (w : World), Tb.change one k t h i = some r → LB w tb ap t O → C w O → Calls Try.prog 58 #[.pointer (some ⟨tb, 0, none⟩), .int .i64 h, .int .i64 i, .func (.func f) #[] caps] w fun e w' => e = .returned (.int .i64 r.1) ∧ DidL tb ap r.2 O w w')) (h i : Int) (r : Int × Tb) (w : World) (h0 : lIs t.s h = true) (d1 : ((t.s.get h).tag == 4) = false) (d2 : decide (lLen t.s (t.s.get h).k0 ≤ i) = false)
  (hr : (Tb.change one k t (t.s.get h).k0 i).bind (fun r => (r.2.keep (t.s.get h).k1).join r.1 (t.s.get h).k1) = some r) (hT : LB w tb ap t O) (hC : C w O) :
  Calls Try.prog 58 #[.pointer (some ⟨tb, 0, none⟩), .int .i64 h, .int .i64 i, .func (.func f) #[] caps] w fun e w' => e = .returned (.int .i64 r.1) ∧ DidL tb ap r.2 O w w' := by
 obtain ⟨u, h_b, h_r⟩ := Option.bind_eq_some_iff.1 hr
 have Hu := Lib.hid h_b; clear h_b hr; have hr := h_r; clear h_r
 have Hr := Lib.hid hr; clear hr
 have HC := Lib.hid hC; clear hC
 go_enter Try.func58, Try.ntmps58
 have hA := hT.hA
 have kt := hT.blk
 have o_kt := hT.no
 have c_kt := cells_of kt
 have f_kt := free_of kt
 have l_kt_w := lt_of kt
 go_wp2_with fail
 refine calls_gen fun V hV_V => ?_
 have n_kt := congrArg (fun v : World => v.heap[tb]?) hV_V
 simp (maxDischargeDepth := 9) only [BK, not_false_eq_true, reduceCtorEq, kt, l_kt_w] at n_kt
 have n_F : Fr ((oneX tb)) O O w V := nF hV_V
 have n_A : AP V ap t.s O := nA hV_V
 have z_V := Nat.le_of_eq (congrArg (fun v : World => v.heap.size) hV_V).symm
 try simp only [SZ] at z_V
 clear kt c_kt f_kt
 clear hV_V
 clear hA
 have hA := n_A
 clear n_A
 skip
 have hF := n_F
 clear n_F
 have kt := n_kt; clear n_kt
 have c_kt := cells_of kt
 have f_kt := free_of kt
 have l_kt_V := lt_of kt
 refine (lRow_calls _ _ hA).mono ?_
 rintro e_W1 W1 ⟨rfl, hb_W1⟩
 replace hA := hA.below hb_W1
 replace hF := hF.below hb_W1
 replace kt := keep_blk hb_W1 kt
 have c_kt := cells_of kt
 have f_kt := free_of kt
 have l_kt_W1 := lt_of kt
 have z_W1 := hb_W1.size
 clear hb_W1
 unfold Nd.val
 go_wp2_with fail
 refine wp_gen fun V1 hV_V1 => ?_
 have n_kt := congrArg (fun v : World => v.heap[tb]?) hV_V1
 simp (maxDischargeDepth := 9) only [BK, not_false_eq_true, reduceCtorEq, kt, l_kt_w, l_kt_V, l_kt_W1] at n_kt
 have n_kn := congrArg (fun v : World => v.heap[W1.heap.size]?) hV_V1
 simp (maxDischargeDepth := 9) only [BK, not_false_eq_true, reduceCtorEq, kt, l_kt_w, l_kt_V, l_kt_W1] at n_kn
 have o_kn : ¬ O (W1.heap.size) := by first | exact hA.new (Nat.le_refl _) | exact hA.new (by omega)
 have n_F : Fr ((oneX tb)) O O w V1 := nF hV_V1
 have n_A : AP V1 ap t.s O := nA hV_V1
 have z_V1 := Nat.le_of_eq (congrArg (fun v : World => v.heap.size) hV_V1).symm
 try simp only [SZ] at z_V1
 clear kt c_kt f_kt
 clear hV_V1
 clear hA
 have hA := n_A
 clear n_A
 clear hF
 have hF := n_F
 clear n_F
 have kt := n_kt; clear n_kt
 have c_kt := cells_of kt
 have f_kt := free_of kt
 have l_kt_V1 := lt_of kt
 have kn := n_kn; clear n_kn
 have c_kn := cells_of kn
 have f_kn := free_of kn
 have l_kn_V1 := lt_of kn
 refine wp_region_noPanic ?_
 refine wp_region_held_drew (S := fun v => (∀ o, v.cell? ⟨tb, o, none⟩ = V1.cell? ⟨tb, o, none⟩) ∧ (∀ o, v.cell? ⟨W1.heap.size, o, none⟩ = V1.cell? ⟨W1.heap.size, o, none⟩) ∧ (V1.heap.size ≤ v.heap.size) ∧ AP v ap t.s O) (by kernel_rfl) ⟨(fun _ => rfl), (fun _ => rfl), (Nat.le_refl _), hA.drew⟩ (fun hHeld => ?_)
 generalize hV_V1d : V1.drew = V1d at hHeld ⊢
 have n_kt : V1d.heap[tb]? = V1.heap[tb]? := by rw [← hV_V1d]; rfl
 have d_kt := n_kt.trans kt
 clear n_kt c_kt f_kt
 have n_kn : V1d.heap[W1.heap.size]? = V1.heap[W1.heap.size]? := by rw [← hV_V1d]; rfl
 have d_kn := n_kn.trans kn
 clear n_kn c_kn f_kn
 have n_A : AP V1d ap t.s O := by rw [← hV_V1d]; exact hA.drew
 clear hA; have hA := n_A; clear n_A
 have n_F : Fr ((oneX tb)) O O w V1d := by rw [← hV_V1d]; exact hF.drew
 clear hF; have hF := n_F; clear n_F
 have z_V1d : V1.heap.size ≤ V1d.heap.size := by rw [← hV_V1d]; exact Nat.le_refl _
 have v_kt := cells_of kt
 have v_kn := cells_of kn
 clear kt; have kt := d_kt; clear d_kt
 clear kn; have kn := d_kn; clear d_kn
 have c_kt := cells_of kt
 have f_kt := free_of kt
 have l_kt_V1d := lt_of kt
 have c_kn := cells_of kn
 have f_kn := free_of kn
 have l_kn_V1d := lt_of kn
 clear hV_V1d
 refine ty (i := 0) (v := ?_) rfl hHeld ?_ ?_
 rotate_left
 focus (intro w hSw; go_simp; (try simp only [IntWalk.i64_left]); try (with_reducible rfl))
 try simp only [PT]
 refine ty (i := 1) (v := ?_) rfl hHeld ?_ ?_
 rotate_left
 focus (intro w hSw; go_simp; (try simp only [IntWalk.i64_left]); try (with_reducible rfl))
 try simp only [PT]
 refine ty (i := 2) (v := ?_) rfl hHeld ?_ ?_
 rotate_left
 focus (intro w hSw; go_simp; (try simp only [IntWalk.i64_left]); try (with_reducible rfl))
 try simp only [PT]
 refine ty (i := 3) (v := ?_) rfl hHeld ?_ ?_
 rotate_left
 focus (intro w hSw; go_simp; (try simp only [IntWalk.i64_left]); try (with_reducible rfl))
 try simp only [PT]
 refine ty (i := 4) (v := ?_) rfl hHeld ?_ ?_
 rotate_left
 focus (intro w hSw; go_simp; (try simp only [IntWalk.i64_left]); try (with_reducible rfl))
 try simp only [PT]
 refine ty (i := 5) (v := ?_) rfl hHeld ?_ ?_
 rotate_left
 focus (intro w hSw; go_simp; (try simp only [IntWalk.i64_left]); try (with_reducible rfl))
 try simp only [PT]
 refine ty (i := 6) (v := ?_) rfl hHeld ?_ ?_
 rotate_left
 focus (intro w hSw; go_simp; (try simp only [IntWalk.i64_left]); try (with_reducible rfl))
 try simp only [PT]
 refine wpAnyH_ready (rs := [7]) (by kernel_rfl) (by simp) ?_
 refine ready_at rfl (fun K hK => ?_) AllReadyH.nil
 go_simp
 try simp only [IntWalk.i64_left]
 refine (lLen_calls _ _ hA).mono ?_
 rintro e_W2 W2 ⟨rfl, hb_W2⟩
 replace hA := hA.below hb_W2
 replace hF := hF.below hb_W2
 replace kt := keep_blk hb_W2 kt
 have c_kt := cells_of kt
 have f_kt := free_of kt
 have l_kt_W2 := lt_of kt
 replace kn := keep_blk hb_W2 kn
 have c_kn := cells_of kn
 have f_kn := free_of kn
 have l_kn_W2 := lt_of kn
 have z_W2 := hb_W2.size
 clear hb_W2
 refine hK.out _ _ ⟨(fun o => (c_kt o).trans (v_kt o).symm), (fun o => (c_kn o).trans (v_kn o).symm), (by omega), hA⟩ (fun hHeld => ?_)
 clear hK K
 try simp only [PT]
 refine wpAnyH_ready (rs := [8]) (by kernel_rfl) (by simp) ?_
 refine ready_at rfl (fun K hK => ?_) AllReadyH.nil
 go_simp
 refine hK.out _ _ hHeld (fun hHeld => ?_)
 clear hK K
 try simp only [PT]
 refine wpAnyH_done (by kernel_rfl) ?_ _
 refine NoPanic.normal ?_
 go_wp2_with fail
 refine wp_gen fun V2 hV_V2 => ?_
 have n_kt := congrArg (fun v : World => v.heap[tb]?) hV_V2
 simp (maxDischargeDepth := 9) only [BK, not_false_eq_true, reduceCtorEq, kt, kn, l_kt_w, l_kt_V, l_kt_W1, l_kt_V1, l_kn_V1, l_kt_V1d, l_kn_V1d, l_kt_W2, l_kn_W2] at n_kt
 have n_kn := congrArg (fun v : World => v.heap[W1.heap.size]?) hV_V2
 simp (maxDischargeDepth := 9) only [BK, not_false_eq_true, reduceCtorEq, kt, kn, l_kt_w, l_kt_V, l_kt_W1, l_kt_V1, l_kn_V1, l_kt_V1d, l_kn_V1d, l_kt_W2, l_kn_W2] at n_kn
 have n_F : Fr ((oneX tb)) O O w V2 := nF hV_V2
 have n_A : AP V2 ap t.s O := nA hV_V2
 have z_V2 := Nat.le_of_eq (congrArg (fun v : World => v.heap.size) hV_V2).symm
 try simp only [SZ] at z_V2
 clear kt c_kt f_kt
 clear kn c_kn f_kn
 clear hV_V2
 clear hA
 have hA := n_A
 clear n_A
 clear hF
 have hF := n_F
 clear n_F
 have kt := n_kt; clear n_kt
 have c_kt := cells_of kt
 have f_kt := free_of kt
 have l_kt_V2 := lt_of kt
 have kn := n_kn; clear n_kn
 have c_kn := cells_of kn
 have f_kn := free_of kn
 have l_kn_V2 := lt_of kn
 refine wp_region_noPanic ?_
 refine wp_region_held_drew (S := fun v => (v.cell? ⟨tb, 0, none⟩ = V2.cell? ⟨tb, 0, none⟩) ∧ (∀ o, v.cell? ⟨W1.heap.size, o, none⟩ = V2.cell? ⟨W1.heap.size, o, none⟩) ∧ (V2.heap.size ≤ v.heap.size) ∧ True) (by kernel_rfl) ⟨rfl, (fun _ => rfl), (Nat.le_refl _), trivial⟩ (fun hHeld => ?_)
 generalize hV_V2d : V2.drew = V2d at hHeld ⊢
 have n_kt : V2d.heap[tb]? = V2.heap[tb]? := by rw [← hV_V2d]; rfl
 have d_kt := n_kt.trans kt
 clear n_kt c_kt f_kt
 have n_kn : V2d.heap[W1.heap.size]? = V2.heap[W1.heap.size]? := by rw [← hV_V2d]; rfl
 have d_kn := n_kn.trans kn
 clear n_kn c_kn f_kn
 have n_A : AP V2d ap t.s O := by rw [← hV_V2d]; exact hA.drew
 clear hA; have hA := n_A; clear n_A
 have n_F : Fr ((oneX tb)) O O w V2d := by rw [← hV_V2d]; exact hF.drew
 clear hF; have hF := n_F; clear n_F
 have z_V2d : V2.heap.size ≤ V2d.heap.size := by rw [← hV_V2d]; exact Nat.le_refl _
 have v_kt := cells_of kt
 have v_kn := cells_of kn
 clear kt; have kt := d_kt; clear d_kt
 clear kn; have kn := d_kn; clear d_kn
 have c_kt := cells_of kt
 have f_kt := free_of kt
 have l_kt_V2d := lt_of kt
 have c_kn := cells_of kn
 have f_kn := free_of kn
 have l_kn_V2d := lt_of kn
 clear hV_V2d
 refine ty (i := 0) (v := ?_) rfl hHeld ?_ ?_
 rotate_left
 focus (intro w hSw; go_simp; (try simp only [IntWalk.i64_left]); try (with_reducible rfl))
 try simp only [PT]
 refine ty (i := 1) (v := ?_) rfl hHeld ?_ ?_
 rotate_left
 focus (intro w hSw; go_simp; (try simp only [IntWalk.i64_left]); try (with_reducible rfl))
 try simp only [PT]
 refine ty (i := 2) (v := ?_) rfl hHeld ?_ ?_
 rotate_left
 focus (intro w hSw; go_simp; (try simp only [IntWalk.i64_left]); try (with_reducible rfl))
 try simp only [PT]
 refine ty (i := 3) (v := ?_) rfl hHeld ?_ ?_
 rotate_left
 focus (intro w hSw; go_simp; (try simp only [IntWalk.i64_left]); try (with_reducible rfl))
 try simp only [PT]
 refine ty (i := 4) (v := ?_) rfl hHeld ?_ ?_
 rotate_left
 focus (intro w hSw; go_simp; (try simp only [IntWalk.i64_left]); try (with_reducible rfl))
 try simp only [PT]
 refine ty (i := 5) (v := ?_) rfl hHeld ?_ ?_
 rotate_left
 focus (intro w hSw; go_simp; (try simp only [IntWalk.i64_left]); try (with_reducible rfl))
 try simp only [PT]
 refine ty (i := 6) (v := ?_) rfl hHeld ?_ ?_
 rotate_left
 focus (intro w hSw; go_simp; (try simp only [IntWalk.i64_left]); try (with_reducible rfl))
 try simp only [PT]
 refine ty (i := 8) (v := ?_) rfl hHeld ?_ ?_
 rotate_left
 focus (intro w hSw; go_simp; (try simp only [IntWalk.i64_left]); try (with_reducible rfl))
 try simp only [PT]
 refine ty (i := 9) (v := ?_) rfl hHeld ?_ ?_
 rotate_left
 focus (intro w hSw; go_simp; (try simp only [IntWalk.i64_left]); try (with_reducible rfl))
 try simp only [PT]
 refine ty (i := 10) (v := ?_) rfl hHeld ?_ ?_
 rotate_left
 focus (intro w hSw; go_simp; (try simp only [IntWalk.i64_left]); try (with_reducible rfl))
 try simp only [PT]
 refine ty (i := 11) (v := ?_) rfl hHeld ?_ ?_
 rotate_left
 focus (intro w hSw; go_simp; (try simp only [IntWalk.i64_left]); try (with_reducible rfl))
 try simp only [PT]
 refine wpAnyH_ready (rs := [7]) (by kernel_rfl) (by simp) ?_
 refine ready_at rfl (fun K hK => ?_) AllReadyH.nil
 go_simp
 try simp only [IntWalk.i64_left]
 refine (ih.out t _ _ _ _ _ Hu.out ⟨hA, kt, o_kt⟩ (hKC.out _ _ _ _ HC.out hF)).mono ?_
 rintro e_W3 W3 ⟨rfl, O1, hT_W3, hf_W3⟩
 have q_kn := hf_W3.keep kn o_kn (by unfold oneX; omega)
 replace o_kn := hf_W3.not_own (lt_of kn) o_kn
 clear kn; have kn := q_kn; clear q_kn
 have c_kn := cells_of kn
 have f_kn := free_of kn
 have l_kn_W3 := lt_of kn
 clear kt c_kt f_kt o_kt; have kt := hT_W3.blk; have o_kt := hT_W3.no
 have c_kt := cells_of kt
 have f_kt := free_of kt
 have l_kt_W3 := lt_of kt
 replace hF := hF.trans hf_W3
 have z_W3 := hf_W3.size
 clear hA hf_W3; have hA := hT_W3.hA; clear hT_W3
 refine hK.out _ _ ⟨((c_kt 0).trans (v_kt 0).symm), (fun o => (c_kn o).trans (v_kn o).symm), (by omega), trivial⟩ (fun hHeld => ?_)
 clear hK K
 try simp only [PT]
 refine wpAnyH_ready (rs := [12]) (by kernel_rfl) (by simp) ?_
 refine ready_at rfl (fun K hK => ?_) AllReadyH.nil
 go_simp
 try simp only [IntWalk.i64_left]
 refine (lKeep_calls (t := u.2) (t.s.get h).k1 _ ⟨hA, kt, o_kt⟩).mono ?_
 rintro e_W4 W4 ⟨rfl, O2, hT_W4, hf_W4⟩
 have q_kn := hf_W4.keep kn o_kn (by unfold oneX; omega)
 replace o_kn := hf_W4.not_own (lt_of kn) o_kn
 clear kn; have kn := q_kn; clear q_kn
 have c_kn := cells_of kn
 have f_kn := free_of kn
 have l_kn_W4 := lt_of kn
 clear kt c_kt f_kt o_kt; have kt := hT_W4.blk; have o_kt := hT_W4.no
 have c_kt := cells_of kt
 have f_kt := free_of kt
 have l_kt_W4 := lt_of kt
 replace hF := hF.trans hf_W4
 have z_W4 := hf_W4.size
 clear hA hf_W4; have hA := hT_W4.hA; clear hT_W4
 refine hK.out _ _ ⟨((c_kt 0).trans (v_kt 0).symm), (fun o => (c_kn o).trans (v_kn o).symm), (by omega), trivial⟩ (fun hHeld => ?_)
 clear hK K
 try simp only [PT]
 refine wpAnyH_ready (rs := [13]) (by kernel_rfl) (by simp) ?_
 refine ready_at rfl (fun K hK => ?_) AllReadyH.nil
 go_simp
 try simp only [IntWalk.i64_left]
 refine (lJoin_calls (t := u.2.keep (t.s.get h).k1) _ _ _ Hr.out _ ⟨hA, kt, o_kt⟩).mono ?_
 rintro e_W5 W5 ⟨rfl, O3, hT_W5, hf_W5⟩
 have q_kn := hf_W5.keep kn o_kn (by unfold oneX; omega)
 replace o_kn := hf_W5.not_own (lt_of kn) o_kn
 clear kn; have kn := q_kn; clear q_kn
 have c_kn := cells_of kn
 have f_kn := free_of kn
 have l_kn_W5 := lt_of kn
 clear kt c_kt f_kt o_kt; have kt := hT_W5.blk; have o_kt := hT_W5.no
 have c_kt := cells_of kt
 have f_kt := free_of kt
 have l_kt_W5 := lt_of kt
 replace hF := hF.trans hf_W5
 have z_W5 := hf_W5.size
 clear hA hf_W5; have hA := hT_W5.hA; clear hT_W5
 refine hK.out _ _ ⟨((c_kt 0).trans (v_kt 0).symm), (fun o => (c_kn o).trans (v_kn o).symm), (by omega), trivial⟩ (fun hHeld => ?_)
 clear hK K
 try simp only [PT]
 refine wpAnyH_ready (rs := [14]) (by kernel_rfl) (by simp) ?_
 refine ready_at rfl (fun K hK => ?_) AllReadyH.nil
 go_simp
 refine hK.out _ _ hHeld (fun hHeld => ?_)
 clear hK K
 try simp only [PT]
 refine wpAnyH_done (by kernel_rfl) ?_ _
 refine NoPanic.normal ?_
 go_wp2_with fail
 go_ret
 exact ⟨rfl, O3, ⟨hA, kt, o_kt⟩, hF⟩
end
set_option maxHeartbeats 400000 in
theorem lChange_calls {C : World → (Nat → Prop) → Prop} {f : FuncId} {caps : Array Value} {one : Tb → Int → Option (Int × Tb)} (hfun : ∀ args w, (callFunc f args).run Try.prog w = .ok (.enter f args) w) (hKC : Hid (KeepC tb C)) (hone : Hid (OneC tb ap C f caps one)) :
  ∀ (k : Nat) (t : Tb) (O : Nat → Prop) (h i : Int) (r : Int × Tb) (w : World), Tb.change one k t h i = some r → LB w tb ap t O → C w O →
  Calls Try.prog 58 #[.pointer (some ⟨tb, 0, none⟩), .int .i64 h, .int .i64 i, .func (.func f) #[] caps] w fun e w' => e = .returned (.int .i64 r.1) ∧ DidL tb ap r.2 O w w'
 | 0, t, O, h, i, r, w, hr, hT, hC => by cases hr
 | k + 1, t, O, h, i, r, w, hr, hT, hC => by
  have ih := Lib.hid (lChange_calls hfun hKC hone k)
  unfold Tb.change at hr
  cases h0 : lIs t.s h with
  | false =>
   rw [if_pos (.inl h0)] at hr
   exact lChg_none hfun hKC hone h i r w hr h0 hT hC
  | true =>
   by_cases h1 : (t.s.get h).tag = 4
   ·
    rw [if_pos (.inr h1)] at hr
    exact lChg_item hfun hKC hone h i r w hr h0 (by simpa using h1) hT hC
   ·
    rw [if_neg (by rw [h0]; simp [h1])] at hr
    by_cases h2 : lLen t.s (t.s.get h).k0 ≤ i
    ·
     rw [if_pos h2] at hr
     exact lChg_high k hKC ih h i r w h0 (by simpa using h1) (by simpa using h2) hr hT hC
    ·
     rw [if_neg h2] at hr
     exact lChg_low k hKC ih h i r w h0 (by simpa using h1) (by simpa using h2) hr hT hC
end Go.Proofs.Ytkgabbenmoocgaa
