/- The tree that makes nodes of lists: its small ways; a list's length. -/
import Derived.Test.YtkgabbenmoocgaaRowFns
import Derived.Test.YtkgabbenmoocgaaArenaMake
import Derived.Test.YtkgabbenmoocgaaTree
namespace Go.Proofs.Ytkgabbenmoocgaa
set_option linter.unusedSimpArgs false
set_option linter.unusedVariables false
set_option linter.unnecessarySimpa false
open Go.RowKit
attribute [local go_sem ↓] Go.wp_at_zero Go.wp_at_succ
attribute [local go_sem] lt_s2 lt_s3 lt_s4
attribute [local go_sem] idx0 idx1 idx2 idx3
/-- The tree whose struct is block tb. -/
structure LB (w : World) (tb : Nat) (ap : Value) (t : Tb) (O : Nat → Prop) : Prop where
 hA : AP w ap t.s O
 blk : w.heap[tb]? = some (.cells #[ap, .int .i64 t.e] 104 (0, 0))
 no : ¬ O tb
/-- What a call on a tree leaves. -/
def DidL (tb : Nat) (ap : Value) (t' : Tb) (O : Nat → Prop) (w w' : World) : Prop := ∃ O', LB w' tb ap t' O' ∧ Fr (oneX tb) O O' w w'
variable {ap : Value} {O : Nat → Prop} {tb : Nat} {t : Tb} {s : Ar}
set_option maxRecDepth 100000 in
set_option maxHeartbeats 800000 in
theorem lLen_calls (h : Int) (w : World) (hA : AP w ap s O) :
  Calls Try.prog 55 #[ap, .int .i64 h] w fun e w' => e = .returned (.int .i64 (lLen s h)) ∧ Below w.heap.size w w' := by
 unfold lLen
 cases h1 : lIs s h with
 | false =>
  go_enter Try.func55, Try.ntmps55
  go_wp2_with fail
  refine calls_gen fun V hV_V => ?_
  have n_B : Below w.heap.size w V := nB hV_V
  have n_A : AP V ap s O := nA hV_V
  have z_V := Nat.le_of_eq (congrArg (fun v : World => v.heap.size) hV_V).symm
  try simp only [SZ] at z_V
  clear hV_V
  clear hA
  have hA := n_A
  clear n_A
  skip
  have hB := n_B
  clear n_B
  refine (lRow_calls _ _ hA).mono ?_
  rintro e_w1 w1 ⟨rfl, hb_w1⟩
  replace hA := hA.below hb_w1
  replace hB := below_step hB hb_w1
  have z_w1 := hb_w1.size
  clear hb_w1
  unfold Nd.val
  go_wp2_with fail
  go_ret
  exact ⟨rfl, by (repeat' first | with_reducible assumption | with_reducible exact Below.refl _ _ | with_reducible refine Below.alloc ?_ ?_ _ | with_reducible refine Below.setCell ?_ ?_ _ | with_reducible refine below_drewN ?_ _ | with_reducible refine Below.drew ?_ | exact Nat.le_refl _ | ((try dsimp only); omega) | (simp only [siz_alloc, siz_set]; omega))⟩
 | true =>
  rw [if_pos rfl]
  by_cases h2 : (s.get h).tag = 4
  ·
   have d1 : ((s.get h).tag == 4) = true := by simpa using h2
   rw [if_pos h2]
   clear h2
   go_enter Try.func55, Try.ntmps55
   go_wp2_with fail
   refine calls_gen fun V hV_V => ?_
   have n_B : Below w.heap.size w V := nB hV_V
   have n_A : AP V ap s O := nA hV_V
   have z_V := Nat.le_of_eq (congrArg (fun v : World => v.heap.size) hV_V).symm
   try simp only [SZ] at z_V
   clear hV_V
   clear hA
   have hA := n_A
   clear n_A
   skip
   have hB := n_B
   clear n_B
   refine (lRow_calls _ _ hA).mono ?_
   rintro e_w1 w1 ⟨rfl, hb_w1⟩
   replace hA := hA.below hb_w1
   replace hB := below_step hB hb_w1
   have z_w1 := hb_w1.size
   clear hb_w1
   unfold Nd.val
   go_wp2_with fail
   go_ret
   exact ⟨rfl, by (repeat' first | with_reducible assumption | with_reducible exact Below.refl _ _ | with_reducible refine Below.alloc ?_ ?_ _ | with_reducible refine Below.setCell ?_ ?_ _ | with_reducible refine below_drewN ?_ _ | with_reducible refine Below.drew ?_ | exact Nat.le_refl _ | ((try dsimp only); omega) | (simp only [siz_alloc, siz_set]; omega))⟩
  ·
   have d1 : ((s.get h).tag == 4) = false := by simpa using h2
   rw [if_neg h2]
   clear h2
   go_enter Try.func55, Try.ntmps55
   go_wp2_with fail
   refine calls_gen fun V hV_V => ?_
   have n_B : Below w.heap.size w V := nB hV_V
   have n_A : AP V ap s O := nA hV_V
   have z_V := Nat.le_of_eq (congrArg (fun v : World => v.heap.size) hV_V).symm
   try simp only [SZ] at z_V
   clear hV_V
   clear hA
   have hA := n_A
   clear n_A
   skip
   have hB := n_B
   clear n_B
   refine (lRow_calls _ _ hA).mono ?_
   rintro e_w1 w1 ⟨rfl, hb_w1⟩
   replace hA := hA.below hb_w1
   replace hB := below_step hB hb_w1
   have z_w1 := hb_w1.size
   clear hb_w1
   unfold Nd.val
   go_wp2_with fail
   go_ret
   exact ⟨rfl, by (repeat' first | with_reducible assumption | with_reducible exact Below.refl _ _ | with_reducible refine Below.alloc ?_ ?_ _ | with_reducible refine Below.setCell ?_ ?_ _ | with_reducible refine below_drewN ?_ _ | with_reducible refine Below.drew ?_ | exact Nat.le_refl _ | ((try dsimp only); omega) | (simp only [siz_alloc, siz_set]; omega))⟩
set_option maxRecDepth 100000 in
set_option maxHeartbeats 800000 in
theorem lKeep_calls (h : Int) (w : World) (hT : LB w tb ap t O) :
  Calls Try.prog 62 #[.pointer (some ⟨tb, 0, none⟩), .int .i64 h] w fun e w' => e = .returned (.int .i64 h) ∧ DidL tb ap (t.keep h) O w w' := by
 go_enter Try.func62, Try.ntmps62
 have hA := hT.hA
 have kt := hT.blk
 have o_kt := hT.no
 have c_kt := cells_of kt
 have f_kt := free_of kt
 have l_kt_w := lt_of kt
 go_wp2_with fail
 refine calls_gen fun V hV_V => ?_
 have n_kt := congrArg (fun v : World => v.heap[tb]?) hV_V
 simp (maxDischargeDepth := 9) only [BK, not_false_eq_true, reduceCtorEq, kt, l_kt_w] at n_kt
 have n_F : Fr (oneX tb) O O w V := nF hV_V
 have n_A : AP V ap t.s O := nA hV_V
 have z_V := Nat.le_of_eq (congrArg (fun v : World => v.heap.size) hV_V).symm
 try simp only [SZ] at z_V
 clear kt c_kt f_kt
 clear hV_V
 clear hA
 have hA := n_A
 clear n_A
 skip
 have hF := n_F
 clear n_F
 have kt := n_kt; clear n_kt
 have c_kt := cells_of kt
 have f_kt := free_of kt
 have l_kt_V := lt_of kt
 refine (keep_calls _ _ hA).mono ?_
 rintro e_W W ⟨rfl, O1, hA_W, hf_W⟩
 have q_kt := hf_W.keep kt o_kt (fun h => h)
 replace o_kt := hf_W.not_own (lt_of kt) o_kt
 clear kt; have kt := q_kt; clear q_kt
 have c_kt := cells_of kt
 have f_kt := free_of kt
 have l_kt_W := lt_of kt
 replace hF := hF.trans hf_W.widen
 have z_W := hf_W.size
 clear hA hf_W; have hA := hA_W; clear hA_W
 go_wp2_with fail
 go_ret
 refine ⟨rfl, O1, ⟨hA, kt, o_kt⟩, hF⟩
set_option maxRecDepth 100000 in
set_option maxHeartbeats 1600000 in
theorem lNode_calls (n : Nd) (hn : U64 n.a) (w : World) (hT : LB w tb ap t O) :
  Calls Try.prog 87 #[.pointer (some ⟨tb, 0, none⟩), n.val] w fun e w' => e = .returned (.int .i64 (t.lnode n).1) ∧ DidL tb ap (t.lnode n).2 O w w' := by
 by_cases he : t.e = 0
 ·
  have d1 : (t.e == 0) = true := by simpa using he
  have e1 : Hid (t.lnode n = ((t.s.make n).1, ⟨((t.s.make n).2.2.drop n.k0).drop n.k1, (t.s.make n).2.1⟩)) := by
   show _ = _
   unfold Tb.lnode Tb.nodeD; rw [if_pos he]; rfl
  clear he
  unfold Nd.val
  go_enter Try.func87, Try.ntmps87
  have hA := hT.hA
  have kt := hT.blk
  have o_kt := hT.no
  have c_kt := cells_of kt
  have f_kt := free_of kt
  have l_kt_w := lt_of kt
  go_wp2_with fail
  refine wp_gen fun V hV_V => ?_
  have n_kt := congrArg (fun v : World => v.heap[tb]?) hV_V
  simp (maxDischargeDepth := 9) only [BK, not_false_eq_true, reduceCtorEq, kt, l_kt_w] at n_kt
  have n_kn := congrArg (fun v : World => v.heap[w.heap.size]?) hV_V
  simp (maxDischargeDepth := 9) only [BK, not_false_eq_true, reduceCtorEq, kt, l_kt_w] at n_kn
  have o_kn : ¬ O (w.heap.size) := by first | exact hA.new (Nat.le_refl _) | exact hA.new (by omega)
  have n_F : Fr ((oneX tb)) O O w V := nF hV_V
  have n_A : AP V ap t.s O := nA hV_V
  have z_V := Nat.le_of_eq (congrArg (fun v : World => v.heap.size) hV_V).symm
  try simp only [SZ] at z_V
  clear kt c_kt f_kt
  clear hV_V
  clear hA
  have hA := n_A
  clear n_A
  skip
  have hF := n_F
  clear n_F
  have kt := n_kt; clear n_kt
  have c_kt := cells_of kt
  have f_kt := free_of kt
  have l_kt_V := lt_of kt
  have kn := n_kn; clear n_kn
  have c_kn := cells_of kn
  have f_kn := free_of kn
  have l_kn_V := lt_of kn
  refine wp_region_noPanic ?_
  refine wp_region_held_drew (S := fun v => (v.cell? ⟨tb, 0, none⟩ = V.cell? ⟨tb, 0, none⟩) ∧ (∀ o, v.cell? ⟨w.heap.size, o, none⟩ = V.cell? ⟨w.heap.size, o, none⟩) ∧ (V.heap.size ≤ v.heap.size) ∧ True) (by kernel_rfl) ⟨rfl, (fun _ => rfl), (Nat.le_refl _), trivial⟩ (fun hHeld => ?_)
  generalize hV_Vd : V.drew = Vd at hHeld ⊢
  have n_kt : Vd.heap[tb]? = V.heap[tb]? := by rw [← hV_Vd]; rfl
  have d_kt := n_kt.trans kt
  clear n_kt c_kt f_kt
  have n_kn : Vd.heap[w.heap.size]? = V.heap[w.heap.size]? := by rw [← hV_Vd]; rfl
  have d_kn := n_kn.trans kn
  clear n_kn c_kn f_kn
  have n_A : AP Vd ap t.s O := by rw [← hV_Vd]; exact hA.drew
  clear hA; have hA := n_A; clear n_A
  have n_F : Fr ((oneX tb)) O O w Vd := by rw [← hV_Vd]; exact hF.drew
  clear hF; have hF := n_F; clear n_F
  have z_Vd : V.heap.size ≤ Vd.heap.size := by rw [← hV_Vd]; exact Nat.le_refl _
  have v_kt := cells_of kt
  have v_kn := cells_of kn
  clear kt; have kt := d_kt; clear d_kt
  clear kn; have kn := d_kn; clear d_kn
  have c_kt := cells_of kt
  have f_kt := free_of kt
  have l_kt_Vd := lt_of kt
  have c_kn := cells_of kn
  have f_kn := free_of kn
  have l_kn_Vd := lt_of kn
  clear hV_Vd
  refine ty (i := 0) (v := ?_) rfl hHeld ?_ ?_
  rotate_left
  focus (intro w hSw; go_simp; (try simp only [IntWalk.i64_left]); try (with_reducible rfl))
  try simp only [PT]
  refine ty (i := 1) (v := ?_) rfl hHeld ?_ ?_
  rotate_left
  focus (intro w hSw; go_simp; (try simp only [IntWalk.i64_left]); try (with_reducible rfl))
  try simp only [PT]
  refine ty (i := 2) (v := ?_) rfl hHeld ?_ ?_
  rotate_left
  focus (intro w hSw; go_simp; (try simp only [IntWalk.i64_left]); try (with_reducible rfl))
  try simp only [PT]
  refine ty (i := 3) (v := ?_) rfl hHeld ?_ ?_
  rotate_left
  focus (intro w hSw; go_simp; (try simp only [IntWalk.i64_left]); try (with_reducible rfl))
  try simp only [PT]
  refine ty (i := 4) (v := ?_) rfl hHeld ?_ ?_
  rotate_left
  focus (intro w hSw; go_simp; (try simp only [IntWalk.i64_left]); try (with_reducible rfl))
  try simp only [PT]
  refine ty (i := 5) (v := ?_) rfl hHeld ?_ ?_
  rotate_left
  focus (intro w hSw; go_simp; (try simp only [IntWalk.i64_left]); try (with_reducible rfl))
  try simp only [PT]
  refine wpAnyH_ready (rs := [6]) (by kernel_rfl) (by simp) ?_
  refine ready_at rfl (fun K hK => ?_) AllReadyH.nil
  go_simp
  try simp only [IntWalk.i64_left]
  refine (make_calls n hn _ hA).mono ?_
  rintro e_W W ⟨rfl, O1, hA_W, hf_W⟩
  have q_kt := hf_W.keep kt o_kt (fun h => h)
  have q_kn := hf_W.keep kn o_kn (fun h => h)
  replace o_kt := hf_W.not_own (lt_of kt) o_kt
  clear kt; have kt := q_kt; clear q_kt
  have c_kt := cells_of kt
  have f_kt := free_of kt
  have l_kt_W := lt_of kt
  replace o_kn := hf_W.not_own (lt_of kn) o_kn
  clear kn; have kn := q_kn; clear q_kn
  have c_kn := cells_of kn
  have f_kn := free_of kn
  have l_kn_W := lt_of kn
  replace hF := hF.trans hf_W.widen
  have z_W := hf_W.size
  clear hA hf_W; have hA := hA_W; clear hA_W
  refine hK.out _ _ ⟨((c_kt 0).trans (v_kt 0).symm), (fun o => (c_kn o).trans (v_kn o).symm), (by omega), trivial⟩ (fun hHeld => ?_)
  clear hK K
  try simp only [PT]
  refine ty (i := 7) (v := ?_) rfl hHeld ?_ ?_
  rotate_left
  focus (intro w hSw; go_simp; (try simp only [IntWalk.i64_left]); try (with_reducible rfl))
  try simp only [PT]
  refine ty (i := 8) (v := ?_) rfl hHeld ?_ ?_
  rotate_left
  focus (intro w hSw; go_simp; (try simp only [IntWalk.i64_left]); try (with_reducible rfl))
  try simp only [PT]
  refine ty (i := 9) (v := ?_) rfl hHeld ?_ ?_
  rotate_left
  focus (intro w hSw; go_simp; (try simp only [IntWalk.i64_left]); try (with_reducible rfl))
  try simp only [PT]
  refine wpAnyH_ready (rs := [10]) (by kernel_rfl) (by simp) ?_
  refine ready_at rfl (fun K hK => ?_) AllReadyH.nil
  go_simp
  refine hK.out _ _ hHeld (fun hHeld => ?_)
  clear hK K
  try simp only [PT]
  refine ty (i := 11) (v := ?_) rfl hHeld ?_ ?_
  rotate_left
  focus (intro w hSw; go_simp; (try simp only [IntWalk.i64_left]); try (with_reducible rfl))
  try simp only [PT]
  refine ty (i := 12) (v := ?_) rfl hHeld ?_ ?_
  rotate_left
  focus (intro w hSw; go_simp; (try simp only [IntWalk.i64_left]); try (with_reducible rfl))
  try simp only [PT]
  refine wpAnyH_ready (rs := [13]) (by kernel_rfl) (by simp) ?_
  refine ready_at rfl (fun K hK => ?_) AllReadyH.nil
  go_simp
  refine gen_app (K := K) (fun D hV_D => ?_)
  have n_kt := congrArg (fun v : World => v.heap[tb]?) hV_D
  simp (maxDischargeDepth := 9) only [BK, not_false_eq_true, reduceCtorEq, kt, kn, l_kt_w, l_kt_V, l_kn_V, l_kt_Vd, l_kn_Vd, l_kt_W, l_kn_W] at n_kt
  have n_kn := congrArg (fun v : World => v.heap[w.heap.size]?) hV_D
  simp (maxDischargeDepth := 9) only [BK, not_false_eq_true, reduceCtorEq, kt, kn, l_kt_w, l_kt_V, l_kn_V, l_kt_Vd, l_kn_Vd, l_kt_W, l_kn_W] at n_kn
  have n_F : Fr ((oneX tb)) O O1 w D := nF hV_D
  have n_A : AP D ap ((t.s.make n).2.2) O1 := nA hV_D
  have z_D := Nat.le_of_eq (congrArg (fun v : World => v.heap.size) hV_D).symm
  try simp only [SZ] at z_D
  clear kt c_kt f_kt
  clear kn c_kn f_kn
  clear hV_D
  clear hA
  have hA := n_A
  clear n_A
  clear hF
  have hF := n_F
  clear n_F
  have kt := n_kt; clear n_kt
  have c_kt := cells_of kt
  have f_kt := free_of kt
  have l_kt_D := lt_of kt
  have kn := n_kn; clear n_kn
  have c_kn := cells_of kn
  have f_kn := free_of kn
  have l_kn_D := lt_of kn
  refine hK.out _ _ ⟨((c_kt 0).trans (v_kt 0).symm), (fun o => (c_kn o).trans (v_kn o).symm), (by omega), trivial⟩ (fun hHeld => ?_)
  clear hK K
  try simp only [PT]
  refine wpAnyH_done (by kernel_rfl) ?_ _
  refine NoPanic.normal ?_
  go_wp2_with fail
  refine wp_gen fun D1 hV_D1 => ?_
  have n_kt := congrArg (fun v : World => v.heap[tb]?) hV_D1
  simp (maxDischargeDepth := 9) only [BK, not_false_eq_true, reduceCtorEq, kt, kn, l_kt_w, l_kt_V, l_kn_V, l_kt_Vd, l_kn_Vd, l_kt_W, l_kn_W, l_kt_D, l_kn_D] at n_kt
  have n_kn := congrArg (fun v : World => v.heap[w.heap.size]?) hV_D1
  simp (maxDischargeDepth := 9) only [BK, not_false_eq_true, reduceCtorEq, kt, kn, l_kt_w, l_kt_V, l_kn_V, l_kt_Vd, l_kn_Vd, l_kt_W, l_kn_W, l_kt_D, l_kn_D] at n_kn
  have n_F : Fr ((oneX tb)) O O1 w D1 := nF hV_D1
  have n_A : AP D1 ap ((t.s.make n).2.2) O1 := nA hV_D1
  have z_D1 := Nat.le_of_eq (congrArg (fun v : World => v.heap.size) hV_D1).symm
  try simp only [SZ] at z_D1
  clear kt c_kt f_kt
  clear kn c_kn f_kn
  clear hV_D1
  clear hA
  have hA := n_A
  clear n_A
  clear hF
  have hF := n_F
  clear n_F
  have kt := n_kt; clear n_kt
  have c_kt := cells_of kt
  have f_kt := free_of kt
  have l_kt_D1 := lt_of kt
  have kn := n_kn; clear n_kn
  have c_kn := cells_of kn
  have f_kn := free_of kn
  have l_kn_D1 := lt_of kn
  refine wp_region_noPanic ?_
  refine wp_region_held_drew (S := fun v => (∀ o, v.cell? ⟨tb, o, none⟩ = D1.cell? ⟨tb, o, none⟩) ∧ (∀ o, v.cell? ⟨w.heap.size, o, none⟩ = D1.cell? ⟨w.heap.size, o, none⟩) ∧ (D1.heap.size ≤ v.heap.size) ∧ True) (by kernel_rfl) ⟨(fun _ => rfl), (fun _ => rfl), (Nat.le_refl _), trivial⟩ (fun hHeld => ?_)
  generalize hV_D1d : D1.drew = D1d at hHeld ⊢
  have n_kt : D1d.heap[tb]? = D1.heap[tb]? := by rw [← hV_D1d]; rfl
  have d_kt := n_kt.trans kt
  clear n_kt c_kt f_kt
  have n_kn : D1d.heap[w.heap.size]? = D1.heap[w.heap.size]? := by rw [← hV_D1d]; rfl
  have d_kn := n_kn.trans kn
  clear n_kn c_kn f_kn
  have n_A : AP D1d ap ((t.s.make n).2.2) O1 := by rw [← hV_D1d]; exact hA.drew
  clear hA; have hA := n_A; clear n_A
  have n_F : Fr ((oneX tb)) O O1 w D1d := by rw [← hV_D1d]; exact hF.drew
  clear hF; have hF := n_F; clear n_F
  have z_D1d : D1.heap.size ≤ D1d.heap.size := by rw [← hV_D1d]; exact Nat.le_refl _
  have v_kt := cells_of kt
  have v_kn := cells_of kn
  clear kt; have kt := d_kt; clear d_kt
  clear kn; have kn := d_kn; clear d_kn
  have c_kt := cells_of kt
  have f_kt := free_of kt
  have l_kt_D1d := lt_of kt
  have c_kn := cells_of kn
  have f_kn := free_of kn
  have l_kn_D1d := lt_of kn
  clear hV_D1d
  refine ty (i := 0) (v := ?_) rfl hHeld ?_ ?_
  rotate_left
  focus (intro w hSw; go_simp; (try simp only [IntWalk.i64_left]); try (with_reducible rfl))
  try simp only [PT]
  refine ty (i := 1) (v := ?_) rfl hHeld ?_ ?_
  rotate_left
  focus (intro w hSw; go_simp; (try simp only [IntWalk.i64_left]); try (with_reducible rfl))
  try simp only [PT]
  refine ty (i := 2) (v := ?_) rfl hHeld ?_ ?_
  rotate_left
  focus (intro w hSw; go_simp; (try simp only [IntWalk.i64_left]); try (with_reducible rfl))
  try simp only [PT]
  refine ty (i := 3) (v := ?_) rfl hHeld ?_ ?_
  rotate_left
  focus (intro w hSw; go_simp; (try simp only [IntWalk.i64_left]); try (with_reducible rfl))
  try simp only [PT]
  refine ty (i := 4) (v := ?_) rfl hHeld ?_ ?_
  rotate_left
  focus (intro w hSw; go_simp; (try simp only [IntWalk.i64_left]); try (with_reducible rfl))
  try simp only [PT]
  refine ty (i := 5) (v := ?_) rfl hHeld ?_ ?_
  rotate_left
  focus (intro w hSw; go_simp; (try simp only [IntWalk.i64_left]); try (with_reducible rfl))
  try simp only [PT]
  refine ty (i := 6) (v := ?_) rfl hHeld ?_ ?_
  rotate_left
  focus (intro w hSw; go_simp; (try simp only [IntWalk.i64_left]); try (with_reducible rfl))
  try simp only [PT]
  refine wpAnyH_ready (rs := [7]) (by kernel_rfl) (by simp) ?_
  refine ready_at rfl (fun K hK => ?_) AllReadyH.nil
  go_simp
  try simp only [IntWalk.i64_left]
  refine (drop_calls _ _ hA).mono ?_
  rintro e_W2 W2 ⟨rfl, O2, hA_W2, hf_W2⟩
  have q_kt := hf_W2.keep kt o_kt (fun h => h)
  have q_kn := hf_W2.keep kn o_kn (fun h => h)
  replace o_kt := hf_W2.not_own (lt_of kt) o_kt
  clear kt; have kt := q_kt; clear q_kt
  have c_kt := cells_of kt
  have f_kt := free_of kt
  have l_kt_W2 := lt_of kt
  replace o_kn := hf_W2.not_own (lt_of kn) o_kn
  clear kn; have kn := q_kn; clear q_kn
  have c_kn := cells_of kn
  have f_kn := free_of kn
  have l_kn_W2 := lt_of kn
  replace hF := hF.trans hf_W2.widen
  have z_W2 := hf_W2.size
  clear hA hf_W2; have hA := hA_W2; clear hA_W2
  refine hK.out _ _ ⟨(fun o => (c_kt o).trans (v_kt o).symm), (fun o => (c_kn o).trans (v_kn o).symm), (by omega), trivial⟩ (fun hHeld => ?_)
  clear hK K
  try simp only [PT]
  refine wpAnyH_done (by kernel_rfl) ?_ _
  refine NoPanic.normal ?_
  go_wp2_with fail
  refine wp_gen fun D2 hV_D2 => ?_
  have n_kt := congrArg (fun v : World => v.heap[tb]?) hV_D2
  simp (maxDischargeDepth := 9) only [BK, not_false_eq_true, reduceCtorEq, kt, kn, l_kt_w, l_kt_V, l_kn_V, l_kt_Vd, l_kn_Vd, l_kt_W, l_kn_W, l_kt_D, l_kn_D, l_kt_D1, l_kn_D1, l_kt_D1d, l_kn_D1d, l_kt_W2, l_kn_W2] at n_kt
  have n_kn := congrArg (fun v : World => v.heap[w.heap.size]?) hV_D2
  simp (maxDischargeDepth := 9) only [BK, not_false_eq_true, reduceCtorEq, kt, kn, l_kt_w, l_kt_V, l_kn_V, l_kt_Vd, l_kn_Vd, l_kt_W, l_kn_W, l_kt_D, l_kn_D, l_kt_D1, l_kn_D1, l_kt_D1d, l_kn_D1d, l_kt_W2, l_kn_W2] at n_kn
  have n_F : Fr ((oneX tb)) O O2 w D2 := nF hV_D2
  have n_A : AP D2 ap (((t.s.make n).2.2).drop n.k0) O2 := nA hV_D2
  have z_D2 := Nat.le_of_eq (congrArg (fun v : World => v.heap.size) hV_D2).symm
  try simp only [SZ] at z_D2
  clear kt c_kt f_kt
  clear kn c_kn f_kn
  clear hV_D2
  clear hA
  have hA := n_A
  clear n_A
  clear hF
  have hF := n_F
  clear n_F
  have kt := n_kt; clear n_kt
  have c_kt := cells_of kt
  have f_kt := free_of kt
  have l_kt_D2 := lt_of kt
  have kn := n_kn; clear n_kn
  have c_kn := cells_of kn
  have f_kn := free_of kn
  have l_kn_D2 := lt_of kn
  refine wp_region_noPanic ?_
  refine wp_region_held_drew (S := fun v => (∀ o, v.cell? ⟨tb, o, none⟩ = D2.cell? ⟨tb, o, none⟩) ∧ (∀ o, v.cell? ⟨w.heap.size, o, none⟩ = D2.cell? ⟨w.heap.size, o, none⟩) ∧ (D2.heap.size ≤ v.heap.size) ∧ True) (by kernel_rfl) ⟨(fun _ => rfl), (fun _ => rfl), (Nat.le_refl _), trivial⟩ (fun hHeld => ?_)
  generalize hV_D2d : D2.drew = D2d at hHeld ⊢
  have n_kt : D2d.heap[tb]? = D2.heap[tb]? := by rw [← hV_D2d]; rfl
  have d_kt := n_kt.trans kt
  clear n_kt c_kt f_kt
  have n_kn : D2d.heap[w.heap.size]? = D2.heap[w.heap.size]? := by rw [← hV_D2d]; rfl
  have d_kn := n_kn.trans kn
  clear n_kn c_kn f_kn
  have n_A : AP D2d ap (((t.s.make n).2.2).drop n.k0) O2 := by rw [← hV_D2d]; exact hA.drew
  clear hA; have hA := n_A; clear n_A
  have n_F : Fr ((oneX tb)) O O2 w D2d := by rw [← hV_D2d]; exact hF.drew
  clear hF; have hF := n_F; clear n_F
  have z_D2d : D2.heap.size ≤ D2d.heap.size := by rw [← hV_D2d]; exact Nat.le_refl _
  have v_kt := cells_of kt
  have v_kn := cells_of kn
  clear kt; have kt := d_kt; clear d_kt
  clear kn; have kn := d_kn; clear d_kn
  have c_kt := cells_of kt
  have f_kt := free_of kt
  have l_kt_D2d := lt_of kt
  have c_kn := cells_of kn
  have f_kn := free_of kn
  have l_kn_D2d := lt_of kn
  clear hV_D2d
  refine ty (i := 0) (v := ?_) rfl hHeld ?_ ?_
  rotate_left
  focus (intro w hSw; go_simp; (try simp only [IntWalk.i64_left]); try (with_reducible rfl))
  try simp only [PT]
  refine ty (i := 1) (v := ?_) rfl hHeld ?_ ?_
  rotate_left
  focus (intro w hSw; go_simp; (try simp only [IntWalk.i64_left]); try (with_reducible rfl))
  try simp only [PT]
  refine ty (i := 2) (v := ?_) rfl hHeld ?_ ?_
  rotate_left
  focus (intro w hSw; go_simp; (try simp only [IntWalk.i64_left]); try (with_reducible rfl))
  try simp only [PT]
  refine ty (i := 3) (v := ?_) rfl hHeld ?_ ?_
  rotate_left
  focus (intro w hSw; go_simp; (try simp only [IntWalk.i64_left]); try (with_reducible rfl))
  try simp only [PT]
  refine ty (i := 4) (v := ?_) rfl hHeld ?_ ?_
  rotate_left
  focus (intro w hSw; go_simp; (try simp only [IntWalk.i64_left]); try (with_reducible rfl))
  try simp only [PT]
  refine ty (i := 5) (v := ?_) rfl hHeld ?_ ?_
  rotate_left
  focus (intro w hSw; go_simp; (try simp only [IntWalk.i64_left]); try (with_reducible rfl))
  try simp only [PT]
  refine ty (i := 6) (v := ?_) rfl hHeld ?_ ?_
  rotate_left
  focus (intro w hSw; go_simp; (try simp only [IntWalk.i64_left]); try (with_reducible rfl))
  try simp only [PT]
  refine wpAnyH_ready (rs := [7]) (by kernel_rfl) (by simp) ?_
  refine ready_at rfl (fun K hK => ?_) AllReadyH.nil
  go_simp
  try simp only [IntWalk.i64_left]
  refine (drop_calls _ _ hA).mono ?_
  rintro e_W3 W3 ⟨rfl, O3, hA_W3, hf_W3⟩
  have q_kt := hf_W3.keep kt o_kt (fun h => h)
  have q_kn := hf_W3.keep kn o_kn (fun h => h)
  replace o_kt := hf_W3.not_own (lt_of kt) o_kt
  clear kt; have kt := q_kt; clear q_kt
  have c_kt := cells_of kt
  have f_kt := free_of kt
  have l_kt_W3 := lt_of kt
  replace o_kn := hf_W3.not_own (lt_of kn) o_kn
  clear kn; have kn := q_kn; clear q_kn
  have c_kn := cells_of kn
  have f_kn := free_of kn
  have l_kn_W3 := lt_of kn
  replace hF := hF.trans hf_W3.widen
  have z_W3 := hf_W3.size
  clear hA hf_W3; have hA := hA_W3; clear hA_W3
  refine hK.out _ _ ⟨(fun o => (c_kt o).trans (v_kt o).symm), (fun o => (c_kn o).trans (v_kn o).symm), (by omega), trivial⟩ (fun hHeld => ?_)
  clear hK K
  try simp only [PT]
  refine wpAnyH_done (by kernel_rfl) ?_ _
  refine NoPanic.normal ?_
  go_wp2_with fail
  go_ret
  refine ⟨by rw [e1.out]; rfl, ?_⟩
  rw [e1.out]
  exact ⟨O3, ⟨hA, kt, o_kt⟩, hF⟩
 ·
  have d1 : (t.e == 0) = false := by simpa using he
  have e1 : Hid (t.lnode n = (0, ⟨(t.s.drop n.k0).drop n.k1, t.e⟩)) := by
   show _ = _
   unfold Tb.lnode Tb.nodeD; rw [if_neg he]; rfl
  clear he
  unfold Nd.val
  go_enter Try.func87, Try.ntmps87
  have hA := hT.hA
  have kt := hT.blk
  have o_kt := hT.no
  have c_kt := cells_of kt
  have f_kt := free_of kt
  have l_kt_w := lt_of kt
  go_wp2_with fail
  refine wp_gen fun D1 hV_D1 => ?_
  have n_kt := congrArg (fun v : World => v.heap[tb]?) hV_D1
  simp (maxDischargeDepth := 9) only [BK, not_false_eq_true, reduceCtorEq, kt, l_kt_w] at n_kt
  have n_kn := congrArg (fun v : World => v.heap[w.heap.size]?) hV_D1
  simp (maxDischargeDepth := 9) only [BK, not_false_eq_true, reduceCtorEq, kt, l_kt_w] at n_kn
  have o_kn : ¬ O (w.heap.size) := by first | exact hA.new (Nat.le_refl _) | exact hA.new (by omega)
  have n_F : Fr ((oneX tb)) O O w D1 := nF hV_D1
  have n_A : AP D1 ap t.s O := nA hV_D1
  have z_D1 := Nat.le_of_eq (congrArg (fun v : World => v.heap.size) hV_D1).symm
  try simp only [SZ] at z_D1
  clear kt c_kt f_kt
  clear hV_D1
  clear hA
  have hA := n_A
  clear n_A
  skip
  have hF := n_F
  clear n_F
  have kt := n_kt; clear n_kt
  have c_kt := cells_of kt
  have f_kt := free_of kt
  have l_kt_D1 := lt_of kt
  have kn := n_kn; clear n_kn
  have c_kn := cells_of kn
  have f_kn := free_of kn
  have l_kn_D1 := lt_of kn
  refine wp_region_noPanic ?_
  refine wp_region_held_drew (S := fun v => (∀ o, v.cell? ⟨tb, o, none⟩ = D1.cell? ⟨tb, o, none⟩) ∧ (∀ o, v.cell? ⟨w.heap.size, o, none⟩ = D1.cell? ⟨w.heap.size, o, none⟩) ∧ (D1.heap.size ≤ v.heap.size) ∧ True) (by kernel_rfl) ⟨(fun _ => rfl), (fun _ => rfl), (Nat.le_refl _), trivial⟩ (fun hHeld => ?_)
  generalize hV_D1d : D1.drew = D1d at hHeld ⊢
  have n_kt : D1d.heap[tb]? = D1.heap[tb]? := by rw [← hV_D1d]; rfl
  have d_kt := n_kt.trans kt
  clear n_kt c_kt f_kt
  have n_kn : D1d.heap[w.heap.size]? = D1.heap[w.heap.size]? := by rw [← hV_D1d]; rfl
  have d_kn := n_kn.trans kn
  clear n_kn c_kn f_kn
  have n_A : AP D1d ap t.s O := by rw [← hV_D1d]; exact hA.drew
  clear hA; have hA := n_A; clear n_A
  have n_F : Fr ((oneX tb)) O O w D1d := by rw [← hV_D1d]; exact hF.drew
  clear hF; have hF := n_F; clear n_F
  have z_D1d : D1.heap.size ≤ D1d.heap.size := by rw [← hV_D1d]; exact Nat.le_refl _
  have v_kt := cells_of kt
  have v_kn := cells_of kn
  clear kt; have kt := d_kt; clear d_kt
  clear kn; have kn := d_kn; clear d_kn
  have c_kt := cells_of kt
  have f_kt := free_of kt
  have l_kt_D1d := lt_of kt
  have c_kn := cells_of kn
  have f_kn := free_of kn
  have l_kn_D1d := lt_of kn
  clear hV_D1d
  refine ty (i := 0) (v := ?_) rfl hHeld ?_ ?_
  rotate_left
  focus (intro w hSw; go_simp; (try simp only [IntWalk.i64_left]); try (with_reducible rfl))
  try simp only [PT]
  refine ty (i := 1) (v := ?_) rfl hHeld ?_ ?_
  rotate_left
  focus (intro w hSw; go_simp; (try simp only [IntWalk.i64_left]); try (with_reducible rfl))
  try simp only [PT]
  refine ty (i := 2) (v := ?_) rfl hHeld ?_ ?_
  rotate_left
  focus (intro w hSw; go_simp; (try simp only [IntWalk.i64_left]); try (with_reducible rfl))
  try simp only [PT]
  refine ty (i := 3) (v := ?_) rfl hHeld ?_ ?_
  rotate_left
  focus (intro w hSw; go_simp; (try simp only [IntWalk.i64_left]); try (with_reducible rfl))
  try simp only [PT]
  refine ty (i := 4) (v := ?_) rfl hHeld ?_ ?_
  rotate_left
  focus (intro w hSw; go_simp; (try simp only [IntWalk.i64_left]); try (with_reducible rfl))
  try simp only [PT]
  refine ty (i := 5) (v := ?_) rfl hHeld ?_ ?_
  rotate_left
  focus (intro w hSw; go_simp; (try simp only [IntWalk.i64_left]); try (with_reducible rfl))
  try simp only [PT]
  refine ty (i := 6) (v := ?_) rfl hHeld ?_ ?_
  rotate_left
  focus (intro w hSw; go_simp; (try simp only [IntWalk.i64_left]); try (with_reducible rfl))
  try simp only [PT]
  refine wpAnyH_ready (rs := [7]) (by kernel_rfl) (by simp) ?_
  refine ready_at rfl (fun K hK => ?_) AllReadyH.nil
  go_simp
  try simp only [IntWalk.i64_left]
  refine (drop_calls _ _ hA).mono ?_
  rintro e_W2 W2 ⟨rfl, O2, hA_W2, hf_W2⟩
  have q_kt := hf_W2.keep kt o_kt (fun h => h)
  have q_kn := hf_W2.keep kn o_kn (fun h => h)
  replace o_kt := hf_W2.not_own (lt_of kt) o_kt
  clear kt; have kt := q_kt; clear q_kt
  have c_kt := cells_of kt
  have f_kt := free_of kt
  have l_kt_W2 := lt_of kt
  replace o_kn := hf_W2.not_own (lt_of kn) o_kn
  clear kn; have kn := q_kn; clear q_kn
  have c_kn := cells_of kn
  have f_kn := free_of kn
  have l_kn_W2 := lt_of kn
  replace hF := hF.trans hf_W2.widen
  have z_W2 := hf_W2.size
  clear hA hf_W2; have hA := hA_W2; clear hA_W2
  refine hK.out _ _ ⟨(fun o => (c_kt o).trans (v_kt o).symm), (fun o => (c_kn o).trans (v_kn o).symm), (by omega), trivial⟩ (fun hHeld => ?_)
  clear hK K
  try simp only [PT]
  refine wpAnyH_done (by kernel_rfl) ?_ _
  refine NoPanic.normal ?_
  go_wp2_with fail
  refine wp_gen fun D2 hV_D2 => ?_
  have n_kt := congrArg (fun v : World => v.heap[tb]?) hV_D2
  simp (maxDischargeDepth := 9) only [BK, not_false_eq_true, reduceCtorEq, kt, kn, l_kt_w, l_kt_D1, l_kn_D1, l_kt_D1d, l_kn_D1d, l_kt_W2, l_kn_W2] at n_kt
  have n_kn := congrArg (fun v : World => v.heap[w.heap.size]?) hV_D2
  simp (maxDischargeDepth := 9) only [BK, not_false_eq_true, reduceCtorEq, kt, kn, l_kt_w, l_kt_D1, l_kn_D1, l_kt_D1d, l_kn_D1d, l_kt_W2, l_kn_W2] at n_kn
  have n_F : Fr ((oneX tb)) O O2 w D2 := nF hV_D2
  have n_A : AP D2 ap (t.s.drop n.k0) O2 := nA hV_D2
  have z_D2 := Nat.le_of_eq (congrArg (fun v : World => v.heap.size) hV_D2).symm
  try simp only [SZ] at z_D2
  clear kt c_kt f_kt
  clear kn c_kn f_kn
  clear hV_D2
  clear hA
  have hA := n_A
  clear n_A
  clear hF
  have hF := n_F
  clear n_F
  have kt := n_kt; clear n_kt
  have c_kt := cells_of kt
  have f_kt := free_of kt
  have l_kt_D2 := lt_of kt
  have kn := n_kn; clear n_kn
  have c_kn := cells_of kn
  have f_kn := free_of kn
  have l_kn_D2 := lt_of kn
  refine wp_region_noPanic ?_
  refine wp_region_held_drew (S := fun v => (∀ o, v.cell? ⟨tb, o, none⟩ = D2.cell? ⟨tb, o, none⟩) ∧ (∀ o, v.cell? ⟨w.heap.size, o, none⟩ = D2.cell? ⟨w.heap.size, o, none⟩) ∧ (D2.heap.size ≤ v.heap.size) ∧ True) (by kernel_rfl) ⟨(fun _ => rfl), (fun _ => rfl), (Nat.le_refl _), trivial⟩ (fun hHeld => ?_)
  generalize hV_D2d : D2.drew = D2d at hHeld ⊢
  have n_kt : D2d.heap[tb]? = D2.heap[tb]? := by rw [← hV_D2d]; rfl
  have d_kt := n_kt.trans kt
  clear n_kt c_kt f_kt
  have n_kn : D2d.heap[w.heap.size]? = D2.heap[w.heap.size]? := by rw [← hV_D2d]; rfl
  have d_kn := n_kn.trans kn
  clear n_kn c_kn f_kn
  have n_A : AP D2d ap (t.s.drop n.k0) O2 := by rw [← hV_D2d]; exact hA.drew
  clear hA; have hA := n_A; clear n_A
  have n_F : Fr ((oneX tb)) O O2 w D2d := by rw [← hV_D2d]; exact hF.drew
  clear hF; have hF := n_F; clear n_F
  have z_D2d : D2.heap.size ≤ D2d.heap.size := by rw [← hV_D2d]; exact Nat.le_refl _
  have v_kt := cells_of kt
  have v_kn := cells_of kn
  clear kt; have kt := d_kt; clear d_kt
  clear kn; have kn := d_kn; clear d_kn
  have c_kt := cells_of kt
  have f_kt := free_of kt
  have l_kt_D2d := lt_of kt
  have c_kn := cells_of kn
  have f_kn := free_of kn
  have l_kn_D2d := lt_of kn
  clear hV_D2d
  refine ty (i := 0) (v := ?_) rfl hHeld ?_ ?_
  rotate_left
  focus (intro w hSw; go_simp; (try simp only [IntWalk.i64_left]); try (with_reducible rfl))
  try simp only [PT]
  refine ty (i := 1) (v := ?_) rfl hHeld ?_ ?_
  rotate_left
  focus (intro w hSw; go_simp; (try simp only [IntWalk.i64_left]); try (with_reducible rfl))
  try simp only [PT]
  refine ty (i := 2) (v := ?_) rfl hHeld ?_ ?_
  rotate_left
  focus (intro w hSw; go_simp; (try simp only [IntWalk.i64_left]); try (with_reducible rfl))
  try simp only [PT]
  refine ty (i := 3) (v := ?_) rfl hHeld ?_ ?_
  rotate_left
  focus (intro w hSw; go_simp; (try simp only [IntWalk.i64_left]); try (with_reducible rfl))
  try simp only [PT]
  refine ty (i := 4) (v := ?_) rfl hHeld ?_ ?_
  rotate_left
  focus (intro w hSw; go_simp; (try simp only [IntWalk.i64_left]); try (with_reducible rfl))
  try simp only [PT]
  refine ty (i := 5) (v := ?_) rfl hHeld ?_ ?_
  rotate_left
  focus (intro w hSw; go_simp; (try simp only [IntWalk.i64_left]); try (with_reducible rfl))
  try simp only [PT]
  refine ty (i := 6) (v := ?_) rfl hHeld ?_ ?_
  rotate_left
  focus (intro w hSw; go_simp; (try simp only [IntWalk.i64_left]); try (with_reducible rfl))
  try simp only [PT]
  refine wpAnyH_ready (rs := [7]) (by kernel_rfl) (by simp) ?_
  refine ready_at rfl (fun K hK => ?_) AllReadyH.nil
  go_simp
  try simp only [IntWalk.i64_left]
  refine (drop_calls _ _ hA).mono ?_
  rintro e_W3 W3 ⟨rfl, O3, hA_W3, hf_W3⟩
  have q_kt := hf_W3.keep kt o_kt (fun h => h)
  have q_kn := hf_W3.keep kn o_kn (fun h => h)
  replace o_kt := hf_W3.not_own (lt_of kt) o_kt
  clear kt; have kt := q_kt; clear q_kt
  have c_kt := cells_of kt
  have f_kt := free_of kt
  have l_kt_W3 := lt_of kt
  replace o_kn := hf_W3.not_own (lt_of kn) o_kn
  clear kn; have kn := q_kn; clear q_kn
  have c_kn := cells_of kn
  have f_kn := free_of kn
  have l_kn_W3 := lt_of kn
  replace hF := hF.trans hf_W3.widen
  have z_W3 := hf_W3.size
  clear hA hf_W3; have hA := hA_W3; clear hA_W3
  refine hK.out _ _ ⟨(fun o => (c_kt o).trans (v_kt o).symm), (fun o => (c_kn o).trans (v_kn o).symm), (by omega), trivial⟩ (fun hHeld => ?_)
  clear hK K
  try simp only [PT]
  refine wpAnyH_done (by kernel_rfl) ?_ _
  refine NoPanic.normal ?_
  go_wp2_with fail
  go_ret
  refine ⟨by rw [e1.out]; rfl, ?_⟩
  rw [e1.out]
  exact ⟨O3, ⟨hA, kt, o_kt⟩, hF⟩
set_option maxRecDepth 100000 in
set_option maxHeartbeats 800000 in
theorem lItem_calls (x : Int × Int) (w : World) (hT : LB w tb ap t O) :
  Calls Try.prog 60 #[.pointer (some ⟨tb, 0, none⟩), .agg #[.int .i64 x.1, .int .i64 x.2]] w fun e w' => e = .returned (.int .i64 (t.item x).1) ∧ DidL tb ap (t.item x).2 O w w' := by
 go_enter Try.func60, Try.ntmps60
 have hA := hT.hA
 have kt := hT.blk
 have o_kt := hT.no
 have c_kt := cells_of kt
 have f_kt := free_of kt
 have l_kt_w := lt_of kt
 go_wp2_with fail
 refine calls_gen fun D1 hV_D1 => ?_
 have n_kt := congrArg (fun v : World => v.heap[tb]?) hV_D1
 simp (maxDischargeDepth := 9) only [BK, not_false_eq_true, reduceCtorEq, kt, l_kt_w] at n_kt
 have n_kn := congrArg (fun v : World => v.heap[w.heap.size]?) hV_D1
 simp (maxDischargeDepth := 9) only [BK, not_false_eq_true, reduceCtorEq, kt, l_kt_w] at n_kn
 have o_kn : ¬ O (w.heap.size) := by first | exact hA.new (Nat.le_refl _) | exact hA.new (by omega)
 have n_F : Fr ((oneX tb)) O O w D1 := nF hV_D1
 have n_A : AP D1 ap t.s O := nA hV_D1
 have z_D1 := Nat.le_of_eq (congrArg (fun v : World => v.heap.size) hV_D1).symm
 try simp only [SZ] at z_D1
 clear kt c_kt f_kt
 clear hV_D1
 clear hA
 have hA := n_A
 clear n_A
 skip
 have hF := n_F
 clear n_F
 have kt := n_kt; clear n_kt
 have c_kt := cells_of kt
 have f_kt := free_of kt
 have l_kt_D1 := lt_of kt
 have kn := n_kn; clear n_kn
 have c_kn := cells_of kn
 have f_kn := free_of kn
 have l_kn_D1 := lt_of kn
 refine (lNode_calls ⟨4, 0, 0, 0, 0, u64 x.1, u64 x.2⟩ (U64.u64 _) _ ⟨hA, kt, o_kt⟩).mono ?_
 rintro e_W2 W2 ⟨rfl, O2, hT_W2, hf_W2⟩
 have q_kn := hf_W2.keep kn o_kn (by unfold oneX; omega)
 replace o_kn := hf_W2.not_own (lt_of kn) o_kn
 clear kn; have kn := q_kn; clear q_kn
 have c_kn := cells_of kn
 have f_kn := free_of kn
 have l_kn_W2 := lt_of kn
 clear kt c_kt f_kt o_kt; have kt := hT_W2.blk; have o_kt := hT_W2.no
 have c_kt := cells_of kt
 have f_kt := free_of kt
 have l_kt_W2 := lt_of kt
 replace hF := hF.trans hf_W2
 have z_W2 := hf_W2.size
 clear hA hf_W2; have hA := hT_W2.hA; clear hT_W2
 go_wp2_with fail
 go_ret
 exact ⟨rfl, O2, ⟨hA, kt, o_kt⟩, hF⟩
set_option maxRecDepth 100000 in
set_option maxHeartbeats 800000 in
theorem lPair_calls (x y : Int) (w : World) (hT : LB w tb ap t O) :
  Calls Try.prog 90 #[.pointer (some ⟨tb, 0, none⟩), .int .i64 x, .int .i64 y] w fun e w' => e = .returned (.int .i64 (t.lpair x y).1) ∧ DidL tb ap (t.lpair x y).2 O w w' := by
 have hu : U64 (u64 (wrap64 (lLen t.s x + lLen t.s y))) := U64.u64 _
 go_enter Try.func90, Try.ntmps90
 have hA := hT.hA
 have kt := hT.blk
 have o_kt := hT.no
 have c_kt := cells_of kt
 have f_kt := free_of kt
 have l_kt_w := lt_of kt
 go_wp2_with fail
 refine wp_gen fun V hV_V => ?_
 have n_kt := congrArg (fun v : World => v.heap[tb]?) hV_V
 simp (maxDischargeDepth := 9) only [BK, not_false_eq_true, reduceCtorEq, kt, l_kt_w] at n_kt
 have n_F : Fr ((oneX tb)) O O w V := nF hV_V
 have n_A : AP V ap t.s O := nA hV_V
 have z_V := Nat.le_of_eq (congrArg (fun v : World => v.heap.size) hV_V).symm
 try simp only [SZ] at z_V
 clear kt c_kt f_kt
 clear hV_V
 clear hA
 have hA := n_A
 clear n_A
 skip
 have hF := n_F
 clear n_F
 have kt := n_kt; clear n_kt
 have c_kt := cells_of kt
 have f_kt := free_of kt
 have l_kt_V := lt_of kt
 refine wp_region_noPanic ?_
 refine wp_region_held_drew (S := fun v => (v.cell? ⟨tb, 0, none⟩ = V.cell? ⟨tb, 0, none⟩) ∧ (V.heap.size ≤ v.heap.size) ∧ True) (by kernel_rfl) ⟨rfl, (Nat.le_refl _), trivial⟩ (fun hHeld => ?_)
 generalize hV_Vd : V.drew = Vd at hHeld ⊢
 have n_kt : Vd.heap[tb]? = V.heap[tb]? := by rw [← hV_Vd]; rfl
 have d_kt := n_kt.trans kt
 clear n_kt c_kt f_kt
 have n_A : AP Vd ap t.s O := by rw [← hV_Vd]; exact hA.drew
 clear hA; have hA := n_A; clear n_A
 have n_F : Fr ((oneX tb)) O O w Vd := by rw [← hV_Vd]; exact hF.drew
 clear hF; have hF := n_F; clear n_F
 have z_Vd : V.heap.size ≤ Vd.heap.size := by rw [← hV_Vd]; exact Nat.le_refl _
 have v_kt := cells_of kt
 clear kt; have kt := d_kt; clear d_kt
 have c_kt := cells_of kt
 have f_kt := free_of kt
 have l_kt_Vd := lt_of kt
 clear hV_Vd
 refine ty (i := 0) (v := ?_) rfl hHeld ?_ ?_
 rotate_left
 focus (intro w hSw; go_simp; (try simp only [IntWalk.i64_left]); try (with_reducible rfl))
 try simp only [PT]
 refine ty (i := 1) (v := ?_) rfl hHeld ?_ ?_
 rotate_left
 focus (intro w hSw; go_simp; (try simp only [IntWalk.i64_left]); try (with_reducible rfl))
 try simp only [PT]
 refine ty (i := 2) (v := ?_) rfl hHeld ?_ ?_
 rotate_left
 focus (intro w hSw; go_simp; (try simp only [IntWalk.i64_left]); try (with_reducible rfl))
 try simp only [PT]
 refine ty (i := 3) (v := ?_) rfl hHeld ?_ ?_
 rotate_left
 focus (intro w hSw; go_simp; (try simp only [IntWalk.i64_left]); try (with_reducible rfl))
 try simp only [PT]
 refine ty (i := 4) (v := ?_) rfl hHeld ?_ ?_
 rotate_left
 focus (intro w hSw; go_simp; (try simp only [IntWalk.i64_left]); try (with_reducible rfl))
 try simp only [PT]
 refine ty (i := 5) (v := ?_) rfl hHeld ?_ ?_
 rotate_left
 focus (intro w hSw; go_simp; (try simp only [IntWalk.i64_left]); try (with_reducible rfl))
 try simp only [PT]
 refine ty (i := 6) (v := ?_) rfl hHeld ?_ ?_
 rotate_left
 focus (intro w hSw; go_simp; (try simp only [IntWalk.i64_left]); try (with_reducible rfl))
 try simp only [PT]
 refine ty (i := 7) (v := ?_) rfl hHeld ?_ ?_
 rotate_left
 focus (intro w hSw; go_simp; (try simp only [IntWalk.i64_left]); try (with_reducible rfl))
 try simp only [PT]
 refine ty (i := 8) (v := ?_) rfl hHeld ?_ ?_
 rotate_left
 focus (intro w hSw; go_simp; (try simp only [IntWalk.i64_left]); try (with_reducible rfl))
 try simp only [PT]
 refine ty (i := 10) (v := ?_) rfl hHeld ?_ ?_
 rotate_left
 focus (intro w hSw; go_simp; (try simp only [IntWalk.i64_left]); try (with_reducible rfl))
 try simp only [PT]
 refine ty (i := 11) (v := ?_) rfl hHeld ?_ ?_
 rotate_left
 focus (intro w hSw; go_simp; (try simp only [IntWalk.i64_left]); try (with_reducible rfl))
 try simp only [PT]
 refine ty (i := 12) (v := ?_) rfl hHeld ?_ ?_
 rotate_left
 focus (intro w hSw; go_simp; (try simp only [IntWalk.i64_left]); try (with_reducible rfl))
 try simp only [PT]
 refine ty (i := 13) (v := ?_) rfl hHeld ?_ ?_
 rotate_left
 focus (intro w hSw; go_simp; (try simp only [IntWalk.i64_left]); try (with_reducible rfl))
 try simp only [PT]
 refine ty (i := 14) (v := ?_) rfl hHeld ?_ ?_
 rotate_left
 focus (intro w hSw; go_simp; (try simp only [IntWalk.i64_left]); try (with_reducible rfl))
 try simp only [PT]
 refine wpAnyH_ready (rs := [9]) (by kernel_rfl) (by simp) ?_
 refine ready_at rfl (fun K hK => ?_) AllReadyH.nil
 go_simp
 try simp only [IntWalk.i64_left]
 refine (lLen_calls _ _ hA).mono ?_
 rintro e_W1 W1 ⟨rfl, hb_W1⟩
 replace hA := hA.below hb_W1
 replace hF := hF.below hb_W1
 replace kt := keep_blk hb_W1 kt
 have c_kt := cells_of kt
 have f_kt := free_of kt
 have l_kt_W1 := lt_of kt
 have z_W1 := hb_W1.size
 clear hb_W1
 refine hK.out _ _ ⟨((c_kt 0).trans (v_kt 0).symm), (by omega), trivial⟩ (fun hHeld => ?_)
 clear hK K
 try simp only [PT]
 refine wpAnyH_ready (rs := [15]) (by kernel_rfl) (by simp) ?_
 refine ready_at rfl (fun K hK => ?_) AllReadyH.nil
 go_simp
 try simp only [IntWalk.i64_left]
 refine (lLen_calls _ _ hA).mono ?_
 rintro e_W2 W2 ⟨rfl, hb_W2⟩
 replace hA := hA.below hb_W2
 replace hF := hF.below hb_W2
 replace kt := keep_blk hb_W2 kt
 have c_kt := cells_of kt
 have f_kt := free_of kt
 have l_kt_W2 := lt_of kt
 have z_W2 := hb_W2.size
 clear hb_W2
 refine hK.out _ _ ⟨((c_kt 0).trans (v_kt 0).symm), (by omega), trivial⟩ (fun hHeld => ?_)
 clear hK K
 try simp only [PT]
 refine ty (i := 16) (v := ?_) rfl hHeld ?_ ?_
 rotate_left
 focus (intro w hSw; go_simp; (try simp only [IntWalk.i64_left]); try (with_reducible rfl))
 try simp only [PT]
 refine ty (i := 17) (v := ?_) rfl hHeld ?_ ?_
 rotate_left
 focus (intro w hSw; go_simp; (try simp only [IntWalk.i64_left]); try (with_reducible rfl))
 try simp only [PT]
 refine ty (i := 18) (v := ?_) rfl hHeld ?_ ?_
 rotate_left
 focus (intro w hSw; go_simp; (try simp only [IntWalk.i64_left]); try (with_reducible rfl))
 try simp only [PT]
 refine wpAnyH_ready (rs := [19]) (by kernel_rfl) (by simp) ?_
 refine ready_at rfl (fun K hK => ?_) AllReadyH.nil
 go_simp
 try simp only [IntWalk.i64_left]
 refine (lNode_calls ⟨5, x, y, 0, 0, u64 (wrap64 (lLen t.s x + lLen t.s y)), 0⟩ hu _ ⟨hA, kt, o_kt⟩).mono ?_
 rintro e_W5 W5 ⟨rfl, O2, hT_W5, hf_W5⟩
 clear kt c_kt f_kt o_kt; have kt := hT_W5.blk; have o_kt := hT_W5.no
 have c_kt := cells_of kt
 have f_kt := free_of kt
 have l_kt_W5 := lt_of kt
 replace hF := hF.trans hf_W5
 have z_W5 := hf_W5.size
 clear hA hf_W5; have hA := hT_W5.hA; clear hT_W5
 refine hK.out _ _ ⟨((c_kt 0).trans (v_kt 0).symm), (by omega), trivial⟩ (fun hHeld => ?_)
 clear hK K
 try simp only [PT]
 refine wpAnyH_ready (rs := [20]) (by kernel_rfl) (by simp) ?_
 refine ready_at rfl (fun K hK => ?_) AllReadyH.nil
 go_simp
 refine hK.out _ _ hHeld (fun hHeld => ?_)
 clear hK K
 try simp only [PT]
 refine wpAnyH_done (by kernel_rfl) ?_ _
 refine NoPanic.normal ?_
 go_wp2_with fail
 go_ret
 exact ⟨rfl, O2, ⟨hA, kt, o_kt⟩, hF⟩
set_option maxRecDepth 100000 in
set_option maxHeartbeats 800000 in
theorem lTold_calls (h : Int) (w : World) (hT : LB w tb ap t O) :
  Calls Try.prog 57 #[.pointer (some ⟨tb, 0, none⟩), .int .i64 h] w fun e w' => e = .returned (.tuple #[.int .i64 (Tb.told (h, t)).1, .int .i64 (Tb.told (h, t)).2.1]) ∧ DidL tb ap t O w w' := by
 by_cases he : t.e = 0
 ·
  have d1 : (t.e != 0) = false := by simp [he]
  have e1 : Hid (Tb.told (h, t) = (h, 0, t.s)) := by show _ = _; unfold Tb.told; rw [if_pos he]
  clear he
  go_enter Try.func57, Try.ntmps57
  have hA := hT.hA
  have kt := hT.blk
  have o_kt := hT.no
  have c_kt := cells_of kt
  have f_kt := free_of kt
  have l_kt_w := lt_of kt
  go_wp2_with fail
  go_ret2
  rw [e1.out]
  exact ⟨rfl, O, hT, Fr.refl _ _ _⟩
 ·
  have d1 : (t.e != 0) = true := by simp [he]
  have e1 : Hid (Tb.told (h, t) = (0, t.e, t.s)) := by show _ = _; unfold Tb.told; rw [if_neg he]
  clear he
  go_enter Try.func57, Try.ntmps57
  have hA := hT.hA
  have kt := hT.blk
  have o_kt := hT.no
  have c_kt := cells_of kt
  have f_kt := free_of kt
  have l_kt_w := lt_of kt
  go_wp2_with fail
  refine wp_gen fun V hV_V => ?_
  have n_kt := congrArg (fun v : World => v.heap[tb]?) hV_V
  simp (maxDischargeDepth := 9) only [BK, not_false_eq_true, reduceCtorEq, kt, l_kt_w] at n_kt
  have n_F : Fr ((oneX tb)) O O w V := nF hV_V
  have n_A : AP V ap t.s O := nA hV_V
  have z_V := Nat.le_of_eq (congrArg (fun v : World => v.heap.size) hV_V).symm
  try simp only [SZ] at z_V
  clear kt c_kt f_kt
  clear hV_V
  clear hA
  have hA := n_A
  clear n_A
  skip
  have hF := n_F
  clear n_F
  have kt := n_kt; clear n_kt
  have c_kt := cells_of kt
  have f_kt := free_of kt
  have l_kt_V := lt_of kt
  refine wp_region_noPanic ?_
  refine wp_region_held_drew (S := fun v => (∀ o, v.cell? ⟨tb, o, none⟩ = V.cell? ⟨tb, o, none⟩) ∧ (V.heap.size ≤ v.heap.size) ∧ AP v ap t.s O) (by kernel_rfl) ⟨(fun _ => rfl), (Nat.le_refl _), hA.drew⟩ (fun hHeld => ?_)
  generalize hV_Vd : V.drew = Vd at hHeld ⊢
  have n_kt : Vd.heap[tb]? = V.heap[tb]? := by rw [← hV_Vd]; rfl
  have d_kt := n_kt.trans kt
  clear n_kt c_kt f_kt
  have n_A : AP Vd ap t.s O := by rw [← hV_Vd]; exact hA.drew
  clear hA; have hA := n_A; clear n_A
  have n_F : Fr ((oneX tb)) O O w Vd := by rw [← hV_Vd]; exact hF.drew
  clear hF; have hF := n_F; clear n_F
  have z_Vd : V.heap.size ≤ Vd.heap.size := by rw [← hV_Vd]; exact Nat.le_refl _
  have v_kt := cells_of kt
  clear kt; have kt := d_kt; clear d_kt
  have c_kt := cells_of kt
  have f_kt := free_of kt
  have l_kt_Vd := lt_of kt
  clear hV_Vd
  refine ty (i := 0) (v := ?_) rfl hHeld ?_ ?_
  rotate_left
  focus (intro w hSw; go_simp; (try simp only [IntWalk.i64_left]); try (with_reducible rfl))
  try simp only [PT]
  refine ty (i := 1) (v := ?_) rfl hHeld ?_ ?_
  rotate_left
  focus (intro w hSw; go_simp; (try simp only [IntWalk.i64_left]); try (with_reducible rfl))
  try simp only [PT]
  refine ty (i := 2) (v := ?_) rfl hHeld ?_ ?_
  rotate_left
  focus (intro w hSw; go_simp; (try simp only [IntWalk.i64_left]); try (with_reducible rfl))
  try simp only [PT]
  refine ty (i := 3) (v := ?_) rfl hHeld ?_ ?_
  rotate_left
  focus (intro w hSw; go_simp; (try simp only [IntWalk.i64_left]); try (with_reducible rfl))
  try simp only [PT]
  refine wpAnyH_ready (rs := [4]) (by kernel_rfl) (by simp) ?_
  refine ready_at rfl (fun K hK => ?_) AllReadyH.nil
  go_simp
  refine hK.out _ _ hHeld (fun hHeld => ?_)
  clear hK K
  try simp only [PT]
  refine wpAnyH_ready (rs := [5]) (by kernel_rfl) (by simp) ?_
  refine ready_at rfl (fun K hK => ?_) AllReadyH.nil
  go_simp
  refine hK.out _ _ hHeld (fun hHeld => ?_)
  clear hK K
  try simp only [PT]
  refine wpAnyH_done (by kernel_rfl) ?_ _
  refine NoPanic.normal ?_
  go_wp2_with fail
  go_ret2
  rw [e1.out]
  exact ⟨rfl, O, ⟨hA, kt, o_kt⟩, hF⟩
set_option maxRecDepth 100000 in
set_option maxHeartbeats 800000 in
theorem lHigh_calls : ∀ (k : Nat) (h r : Int) (w : World), lHigh k t.s h = some r → LB w tb ap t O →
  Calls Try.prog 88 #[.pointer (some ⟨tb, 0, none⟩), .int .i64 h] w fun e w' => e = .returned (.int .i64 r) ∧ Below w.heap.size w w'
 | 0, h, r, w, hr, hT => by cases hr
 | k + 1, h, r, w, hr, hT => by
  have ih := Lib.hid (lHigh_calls k)
  unfold lHigh at hr
  cases h1 : lIs t.s h with
  | false =>
   rw [h1, if_neg (by decide)] at hr
   cases hr
   go_enter Try.func88, Try.ntmps88
   have hA := hT.hA
   have kt := hT.blk
   have o_kt := hT.no
   have c_kt := cells_of kt
   have f_kt := free_of kt
   have l_kt_w := lt_of kt
   go_wp2_with fail
   refine calls_gen fun V hV_V => ?_
   have n_kt := congrArg (fun v : World => v.heap[tb]?) hV_V
   simp (maxDischargeDepth := 9) only [BK, not_false_eq_true, reduceCtorEq, kt, l_kt_w] at n_kt
   have n_B : Below w.heap.size w V := nB hV_V
   have n_A : AP V ap t.s O := nA hV_V
   have z_V := Nat.le_of_eq (congrArg (fun v : World => v.heap.size) hV_V).symm
   try simp only [SZ] at z_V
   clear kt c_kt f_kt
   clear hV_V
   clear hA
   have hA := n_A
   clear n_A
   skip
   have hB := n_B
   clear n_B
   have kt := n_kt; clear n_kt
   have c_kt := cells_of kt
   have f_kt := free_of kt
   have l_kt_V := lt_of kt
   refine (lRow_calls _ _ hA).mono ?_
   rintro e_W1 W1 ⟨rfl, hb_W1⟩
   replace hA := hA.below hb_W1
   replace hB := below_step hB hb_W1
   replace kt := keep_blk hb_W1 kt
   have c_kt := cells_of kt
   have f_kt := free_of kt
   have l_kt_W1 := lt_of kt
   have z_W1 := hb_W1.size
   clear hb_W1
   unfold Nd.val
   go_wp2_with fail
   go_ret
   exact ⟨rfl, by (repeat' first | with_reducible assumption | with_reducible exact Below.refl _ _ | with_reducible refine Below.alloc ?_ ?_ _ | with_reducible refine Below.setCell ?_ ?_ _ | with_reducible refine below_drewN ?_ _ | with_reducible refine Below.drew ?_ | exact Nat.le_refl _ | ((try dsimp only); omega) | (simp only [siz_alloc, siz_set]; omega))⟩
  | true =>
   rw [h1, if_pos rfl] at hr
   by_cases h2 : (t.s.get h).tag = 4
   ·
    have d1 : ((t.s.get h).tag == 4) = true := by simpa using h2
    rw [if_pos h2] at hr
    cases hr
    clear h2
    go_enter Try.func88, Try.ntmps88
    have hA := hT.hA
    have kt := hT.blk
    have o_kt := hT.no
    have c_kt := cells_of kt
    have f_kt := free_of kt
    have l_kt_w := lt_of kt
    go_wp2_with fail
    refine calls_gen fun V hV_V => ?_
    have n_kt := congrArg (fun v : World => v.heap[tb]?) hV_V
    simp (maxDischargeDepth := 9) only [BK, not_false_eq_true, reduceCtorEq, kt, l_kt_w] at n_kt
    have n_B : Below w.heap.size w V := nB hV_V
    have n_A : AP V ap t.s O := nA hV_V
    have z_V := Nat.le_of_eq (congrArg (fun v : World => v.heap.size) hV_V).symm
    try simp only [SZ] at z_V
    clear kt c_kt f_kt
    clear hV_V
    clear hA
    have hA := n_A
    clear n_A
    skip
    have hB := n_B
    clear n_B
    have kt := n_kt; clear n_kt
    have c_kt := cells_of kt
    have f_kt := free_of kt
    have l_kt_V := lt_of kt
    refine (lRow_calls _ _ hA).mono ?_
    rintro e_W1 W1 ⟨rfl, hb_W1⟩
    replace hA := hA.below hb_W1
    replace hB := below_step hB hb_W1
    replace kt := keep_blk hb_W1 kt
    have c_kt := cells_of kt
    have f_kt := free_of kt
    have l_kt_W1 := lt_of kt
    have z_W1 := hb_W1.size
    clear hb_W1
    unfold Nd.val
    go_wp2_with fail
    go_ret
    exact ⟨rfl, by (repeat' first | with_reducible assumption | with_reducible exact Below.refl _ _ | with_reducible refine Below.alloc ?_ ?_ _ | with_reducible refine Below.setCell ?_ ?_ _ | with_reducible refine below_drewN ?_ _ | with_reducible refine Below.drew ?_ | exact Nat.le_refl _ | ((try dsimp only); omega) | (simp only [siz_alloc, siz_set]; omega))⟩
   ·
    have d1 : ((t.s.get h).tag == 4) = false := by simpa using h2
    rw [if_neg h2] at hr
    clear h2
    obtain ⟨p, hp, hr⟩ := Option.bind_eq_some_iff.1 hr
    obtain ⟨q, hq, hr⟩ := Option.bind_eq_some_iff.1 hr
    have hr := Option.some.inj hr
    have Hp := Lib.hid hp; have Hq := Lib.hid hq; have Hr := Lib.hid hr
    clear hp hq hr
    by_cases hpq : p < q
    all_goals
     go_enter Try.func88, Try.ntmps88
     have hA := hT.hA
     have kt := hT.blk
     have o_kt := hT.no
     have c_kt := cells_of kt
     have f_kt := free_of kt
     have l_kt_w := lt_of kt
     go_wp2_with fail
     refine calls_gen fun V hV_V => ?_
     have n_kt := congrArg (fun v : World => v.heap[tb]?) hV_V
     simp (maxDischargeDepth := 9) only [BK, not_false_eq_true, reduceCtorEq, kt, l_kt_w] at n_kt
     have n_B : Below w.heap.size w V := nB hV_V
     have n_A : AP V ap t.s O := nA hV_V
     have z_V := Nat.le_of_eq (congrArg (fun v : World => v.heap.size) hV_V).symm
     try simp only [SZ] at z_V
     clear kt c_kt f_kt
     clear hV_V
     clear hA
     have hA := n_A
     clear n_A
     skip
     have hB := n_B
     clear n_B
     have kt := n_kt; clear n_kt
     have c_kt := cells_of kt
     have f_kt := free_of kt
     have l_kt_V := lt_of kt
     refine (lRow_calls _ _ hA).mono ?_
     rintro e_W1 W1 ⟨rfl, hb_W1⟩
     replace hA := hA.below hb_W1
     replace hB := below_step hB hb_W1
     replace kt := keep_blk hb_W1 kt
     have c_kt := cells_of kt
     have f_kt := free_of kt
     have l_kt_W1 := lt_of kt
     have z_W1 := hb_W1.size
     clear hb_W1
     unfold Nd.val
     go_wp2_with fail
     refine wp_gen fun V1 hV_V1 => ?_
     have n_kt := congrArg (fun v : World => v.heap[tb]?) hV_V1
     simp (maxDischargeDepth := 9) only [BK, not_false_eq_true, reduceCtorEq, kt, l_kt_w, l_kt_V, l_kt_W1] at n_kt
     have n_kn := congrArg (fun v : World => v.heap[W1.heap.size]?) hV_V1
     simp (maxDischargeDepth := 9) only [BK, not_false_eq_true, reduceCtorEq, kt, l_kt_w, l_kt_V, l_kt_W1] at n_kn
     have o_kn : ¬ O (W1.heap.size) := by first | exact hA.new (Nat.le_refl _) | exact hA.new (by omega)
     have n_B : Below w.heap.size w V1 := nB hV_V1
     have n_A : AP V1 ap t.s O := nA hV_V1
     have z_V1 := Nat.le_of_eq (congrArg (fun v : World => v.heap.size) hV_V1).symm
     try simp only [SZ] at z_V1
     clear kt c_kt f_kt
     clear hV_V1
     clear hA
     have hA := n_A
     clear n_A
     clear hB
     have hB := n_B
     clear n_B
     have kt := n_kt; clear n_kt
     have c_kt := cells_of kt
     have f_kt := free_of kt
     have l_kt_V1 := lt_of kt
     have kn := n_kn; clear n_kn
     have c_kn := cells_of kn
     have f_kn := free_of kn
     have l_kn_V1 := lt_of kn
     refine wp_region_noPanic ?_
     refine wp_region_held_drew (S := fun v => (∀ o, v.cell? ⟨tb, o, none⟩ = V1.cell? ⟨tb, o, none⟩) ∧ (∀ o, v.cell? ⟨W1.heap.size, o, none⟩ = V1.cell? ⟨W1.heap.size, o, none⟩) ∧ (V1.heap.size ≤ v.heap.size) ∧ AP v ap t.s O) (by kernel_rfl) ⟨(fun _ => rfl), (fun _ => rfl), (Nat.le_refl _), hA.drew⟩ (fun hHeld => ?_)
     generalize hV_V1d : V1.drew = V1d at hHeld ⊢
     have n_kt : V1d.heap[tb]? = V1.heap[tb]? := by rw [← hV_V1d]; rfl
     have d_kt := n_kt.trans kt
     clear n_kt c_kt f_kt
     have n_kn : V1d.heap[W1.heap.size]? = V1.heap[W1.heap.size]? := by rw [← hV_V1d]; rfl
     have d_kn := n_kn.trans kn
     clear n_kn c_kn f_kn
     have n_A : AP V1d ap t.s O := by rw [← hV_V1d]; exact hA.drew
     clear hA; have hA := n_A; clear n_A
     have n_B : Below w.heap.size w V1d := by rw [← hV_V1d]; exact hB.drew
     clear hB; have hB := n_B; clear n_B
     have z_V1d : V1.heap.size ≤ V1d.heap.size := by rw [← hV_V1d]; exact Nat.le_refl _
     have v_kt := cells_of kt
     have v_kn := cells_of kn
     clear kt; have kt := d_kt; clear d_kt
     clear kn; have kn := d_kn; clear d_kn
     have c_kt := cells_of kt
     have f_kt := free_of kt
     have l_kt_V1d := lt_of kt
     have c_kn := cells_of kn
     have f_kn := free_of kn
     have l_kn_V1d := lt_of kn
     clear hV_V1d
     refine ty (i := 0) (v := ?_) rfl hHeld ?_ ?_
     rotate_left
     focus (intro w hSw; go_simp; (try simp only [IntWalk.i64_left]); try (with_reducible rfl))
     try simp only [PT]
     refine ty (i := 1) (v := ?_) rfl hHeld ?_ ?_
     rotate_left
     focus (intro w hSw; go_simp; (try simp only [IntWalk.i64_left]); try (with_reducible rfl))
     try simp only [PT]
     refine ty (i := 2) (v := ?_) rfl hHeld ?_ ?_
     rotate_left
     focus (intro w hSw; go_simp; (try simp only [IntWalk.i64_left]); try (with_reducible rfl))
     try simp only [PT]
     refine ty (i := 3) (v := ?_) rfl hHeld ?_ ?_
     rotate_left
     focus (intro w hSw; go_simp; (try simp only [IntWalk.i64_left]); try (with_reducible rfl))
     try simp only [PT]
     refine ty (i := 5) (v := ?_) rfl hHeld ?_ ?_
     rotate_left
     focus (intro w hSw; go_simp; (try simp only [IntWalk.i64_left]); try (with_reducible rfl))
     try simp only [PT]
     refine ty (i := 6) (v := ?_) rfl hHeld ?_ ?_
     rotate_left
     focus (intro w hSw; go_simp; (try simp only [IntWalk.i64_left]); try (with_reducible rfl))
     try simp only [PT]
     refine ty (i := 7) (v := ?_) rfl hHeld ?_ ?_
     rotate_left
     focus (intro w hSw; go_simp; (try simp only [IntWalk.i64_left]); try (with_reducible rfl))
     try simp only [PT]
     refine ty (i := 8) (v := ?_) rfl hHeld ?_ ?_
     rotate_left
     focus (intro w hSw; go_simp; (try simp only [IntWalk.i64_left]); try (with_reducible rfl))
     try simp only [PT]
     refine wpAnyH_ready (rs := [4]) (by kernel_rfl) (by simp) ?_
     refine ready_at rfl (fun K hK => ?_) AllReadyH.nil
     go_simp
     try simp only [IntWalk.i64_left]
     refine (ih.out _ _ _ Hp.out ⟨hA, kt, o_kt⟩).mono ?_
     rintro e_W2 W2 ⟨rfl, hb_W2⟩
     replace hA := hA.below hb_W2
     replace hB := below_step hB hb_W2
     replace kt := keep_blk hb_W2 kt
     have c_kt := cells_of kt
     have f_kt := free_of kt
     have l_kt_W2 := lt_of kt
     replace kn := keep_blk hb_W2 kn
     have c_kn := cells_of kn
     have f_kn := free_of kn
     have l_kn_W2 := lt_of kn
     have z_W2 := hb_W2.size
     clear hb_W2
     refine hK.out _ _ ⟨(fun o => (c_kt o).trans (v_kt o).symm), (fun o => (c_kn o).trans (v_kn o).symm), (by omega), hA⟩ (fun hHeld => ?_)
     clear hK K
     try simp only [PT]
     refine wpAnyH_ready (rs := [9]) (by kernel_rfl) (by simp) ?_
     refine ready_at rfl (fun K hK => ?_) AllReadyH.nil
     go_simp
     try simp only [IntWalk.i64_left]
     refine (ih.out _ _ _ Hq.out ⟨hA, kt, o_kt⟩).mono ?_
     rintro e_W3 W3 ⟨rfl, hb_W3⟩
     replace hA := hA.below hb_W3
     replace hB := below_step hB hb_W3
     replace kt := keep_blk hb_W3 kt
     have c_kt := cells_of kt
     have f_kt := free_of kt
     have l_kt_W3 := lt_of kt
     replace kn := keep_blk hb_W3 kn
     have c_kn := cells_of kn
     have f_kn := free_of kn
     have l_kn_W3 := lt_of kn
     have z_W3 := hb_W3.size
     clear hb_W3
     refine hK.out _ _ ⟨(fun o => (c_kt o).trans (v_kt o).symm), (fun o => (c_kn o).trans (v_kn o).symm), (by omega), hA⟩ (fun hHeld => ?_)
     clear hK K
     try simp only [PT]
     refine ty (i := 10) (v := ?_) rfl hHeld ?_ ?_
     rotate_left
     focus (intro w hSw; go_simp; (try simp only [IntWalk.i64_left]); try (with_reducible rfl))
     try simp only [PT]
     refine ty (i := 11) (v := ?_) rfl hHeld ?_ ?_
     rotate_left
     focus (intro w hSw; go_simp; (try simp only [IntWalk.i64_left]); try (with_reducible rfl))
     try simp only [PT]
     refine wpAnyH_ready (rs := [12]) (by kernel_rfl) (by simp) ?_
     refine ready_at rfl (fun K hK => ?_) AllReadyH.nil
     go_simp
     refine hK.out _ _ hHeld (fun hHeld => ?_)
     clear hK K
     try simp only [PT]
     refine wpAnyH_done (by kernel_rfl) ?_ _
     refine NoPanic.normal ?_
     go_wp2_with fail
     go_ret
     refine ⟨?_, by (repeat' first | with_reducible assumption | with_reducible exact Below.refl _ _ | with_reducible refine Below.alloc ?_ ?_ _ | with_reducible refine Below.setCell ?_ ?_ _ | with_reducible refine below_drewN ?_ _ | with_reducible refine Below.drew ?_ | exact Nat.le_refl _ | ((try dsimp only); omega) | (simp only [siz_alloc, siz_set]; omega))⟩
     rw [← Hr.out]
     unfold imax
     first | rw [if_pos hpq] | rw [if_neg (Int.not_lt.2 hpq)]
     simp only [IntWalk.i64_left]
     rfl
set_option maxRecDepth 100000 in
set_option maxHeartbeats 800000 in
theorem lOpen_calls (h : Int) (w : World) (hT : LB w tb ap t O) :
  Calls Try.prog 89 #[.pointer (some ⟨tb, 0, none⟩), .int .i64 h] w fun e w' => e = .returned (.tuple #[.int .i64 (t.s.get h).k0, .int .i64 (t.s.get h).k1]) ∧ DidL tb ap (t.opened h) O w w' := by
 go_enter Try.func89, Try.ntmps89
 have hA := hT.hA
 have kt := hT.blk
 have o_kt := hT.no
 have c_kt := cells_of kt
 have f_kt := free_of kt
 have l_kt_w := lt_of kt
 go_wp2_with fail
 refine calls_gen fun V hV_V => ?_
 have n_kt := congrArg (fun v : World => v.heap[tb]?) hV_V
 simp (maxDischargeDepth := 9) only [BK, not_false_eq_true, reduceCtorEq, kt, l_kt_w] at n_kt
 have n_F : Fr ((oneX tb)) O O w V := nF hV_V
 have n_A : AP V ap t.s O := nA hV_V
 have z_V := Nat.le_of_eq (congrArg (fun v : World => v.heap.size) hV_V).symm
 try simp only [SZ] at z_V
 clear kt c_kt f_kt
 clear hV_V
 clear hA
 have hA := n_A
 clear n_A
 skip
 have hF := n_F
 clear n_F
 have kt := n_kt; clear n_kt
 have c_kt := cells_of kt
 have f_kt := free_of kt
 have l_kt_V := lt_of kt
 refine (lRow_calls _ _ hA).mono ?_
 rintro e_W1 W1 ⟨rfl, hb_W1⟩
 replace hA := hA.below hb_W1
 replace hF := hF.below hb_W1
 replace kt := keep_blk hb_W1 kt
 have c_kt := cells_of kt
 have f_kt := free_of kt
 have l_kt_W1 := lt_of kt
 have z_W1 := hb_W1.size
 clear hb_W1
 unfold Nd.val
 go_wp2_with fail
 refine wp_gen fun V1 hV_V1 => ?_
 have n_kt := congrArg (fun v : World => v.heap[tb]?) hV_V1
 simp (maxDischargeDepth := 9) only [BK, not_false_eq_true, reduceCtorEq, kt, l_kt_w, l_kt_V, l_kt_W1] at n_kt
 have n_kn := congrArg (fun v : World => v.heap[W1.heap.size]?) hV_V1
 simp (maxDischargeDepth := 9) only [BK, not_false_eq_true, reduceCtorEq, kt, l_kt_w, l_kt_V, l_kt_W1] at n_kn
 have o_kn : ¬ O (W1.heap.size) := by first | exact hA.new (Nat.le_refl _) | exact hA.new (by omega)
 have n_F : Fr ((oneX tb)) O O w V1 := nF hV_V1
 have n_A : AP V1 ap t.s O := nA hV_V1
 have z_V1 := Nat.le_of_eq (congrArg (fun v : World => v.heap.size) hV_V1).symm
 try simp only [SZ] at z_V1
 clear kt c_kt f_kt
 clear hV_V1
 clear hA
 have hA := n_A
 clear n_A
 clear hF
 have hF := n_F
 clear n_F
 have kt := n_kt; clear n_kt
 have c_kt := cells_of kt
 have f_kt := free_of kt
 have l_kt_V1 := lt_of kt
 have kn := n_kn; clear n_kn
 have c_kn := cells_of kn
 have f_kn := free_of kn
 have l_kn_V1 := lt_of kn
 refine wp_region_noPanic ?_
 refine wp_region_held_drew (S := fun v => (∀ o, v.cell? ⟨tb, o, none⟩ = V1.cell? ⟨tb, o, none⟩) ∧ (∀ o, v.cell? ⟨W1.heap.size, o, none⟩ = V1.cell? ⟨W1.heap.size, o, none⟩) ∧ (V1.heap.size ≤ v.heap.size) ∧ True) (by kernel_rfl) ⟨(fun _ => rfl), (fun _ => rfl), (Nat.le_refl _), trivial⟩ (fun hHeld => ?_)
 generalize hV_V1d : V1.drew = V1d at hHeld ⊢
 have n_kt : V1d.heap[tb]? = V1.heap[tb]? := by rw [← hV_V1d]; rfl
 have d_kt := n_kt.trans kt
 clear n_kt c_kt f_kt
 have n_kn : V1d.heap[W1.heap.size]? = V1.heap[W1.heap.size]? := by rw [← hV_V1d]; rfl
 have d_kn := n_kn.trans kn
 clear n_kn c_kn f_kn
 have n_A : AP V1d ap t.s O := by rw [← hV_V1d]; exact hA.drew
 clear hA; have hA := n_A; clear n_A
 have n_F : Fr ((oneX tb)) O O w V1d := by rw [← hV_V1d]; exact hF.drew
 clear hF; have hF := n_F; clear n_F
 have z_V1d : V1.heap.size ≤ V1d.heap.size := by rw [← hV_V1d]; exact Nat.le_refl _
 have v_kt := cells_of kt
 have v_kn := cells_of kn
 clear kt; have kt := d_kt; clear d_kt
 clear kn; have kn := d_kn; clear d_kn
 have c_kt := cells_of kt
 have f_kt := free_of kt
 have l_kt_V1d := lt_of kt
 have c_kn := cells_of kn
 have f_kn := free_of kn
 have l_kn_V1d := lt_of kn
 clear hV_V1d
 refine ty (i := 0) (v := ?_) rfl hHeld ?_ ?_
 rotate_left
 focus (intro w hSw; go_simp; (try simp only [IntWalk.i64_left]); try (with_reducible rfl))
 try simp only [PT]
 refine ty (i := 1) (v := ?_) rfl hHeld ?_ ?_
 rotate_left
 focus (intro w hSw; go_simp; (try simp only [IntWalk.i64_left]); try (with_reducible rfl))
 try simp only [PT]
 refine ty (i := 2) (v := ?_) rfl hHeld ?_ ?_
 rotate_left
 focus (intro w hSw; go_simp; (try simp only [IntWalk.i64_left]); try (with_reducible rfl))
 try simp only [PT]
 refine ty (i := 3) (v := ?_) rfl hHeld ?_ ?_
 rotate_left
 focus (intro w hSw; go_simp; (try simp only [IntWalk.i64_left]); try (with_reducible rfl))
 try simp only [PT]
 refine ty (i := 5) (v := ?_) rfl hHeld ?_ ?_
 rotate_left
 focus (intro w hSw; go_simp; (try simp only [IntWalk.i64_left]); try (with_reducible rfl))
 try simp only [PT]
 refine ty (i := 6) (v := ?_) rfl hHeld ?_ ?_
 rotate_left
 focus (intro w hSw; go_simp; (try simp only [IntWalk.i64_left]); try (with_reducible rfl))
 try simp only [PT]
 refine ty (i := 7) (v := ?_) rfl hHeld ?_ ?_
 rotate_left
 focus (intro w hSw; go_simp; (try simp only [IntWalk.i64_left]); try (with_reducible rfl))
 try simp only [PT]
 refine ty (i := 8) (v := ?_) rfl hHeld ?_ ?_
 rotate_left
 focus (intro w hSw; go_simp; (try simp only [IntWalk.i64_left]); try (with_reducible rfl))
 try simp only [PT]
 refine wpAnyH_ready (rs := [4]) (by kernel_rfl) (by simp) ?_
 refine ready_at rfl (fun K hK => ?_) AllReadyH.nil
 go_simp
 try simp only [IntWalk.i64_left]
 refine (lKeep_calls (t := t) (t.s.get h).k0 _ ⟨hA, kt, o_kt⟩).mono ?_
 rintro e_W2 W2 ⟨rfl, O1, hT_W2, hf_W2⟩
 have q_kn := hf_W2.keep kn o_kn (by unfold oneX; omega)
 replace o_kn := hf_W2.not_own (lt_of kn) o_kn
 clear kn; have kn := q_kn; clear q_kn
 have c_kn := cells_of kn
 have f_kn := free_of kn
 have l_kn_W2 := lt_of kn
 clear kt c_kt f_kt o_kt; have kt := hT_W2.blk; have o_kt := hT_W2.no
 have c_kt := cells_of kt
 have f_kt := free_of kt
 have l_kt_W2 := lt_of kt
 replace hF := hF.trans hf_W2
 have z_W2 := hf_W2.size
 clear hA hf_W2; have hA := hT_W2.hA; clear hT_W2
 refine hK.out _ _ ⟨(fun o => (c_kt o).trans (v_kt o).symm), (fun o => (c_kn o).trans (v_kn o).symm), (by omega), trivial⟩ (fun hHeld => ?_)
 clear hK K
 try simp only [PT]
 refine wpAnyH_ready (rs := [9]) (by kernel_rfl) (by simp) ?_
 refine ready_at rfl (fun K hK => ?_) AllReadyH.nil
 go_simp
 try simp only [IntWalk.i64_left]
 refine (lKeep_calls (t := t.keep (t.s.get h).k0) (t.s.get h).k1 _ ⟨hA, kt, o_kt⟩).mono ?_
 rintro e_W3 W3 ⟨rfl, O2, hT_W3, hf_W3⟩
 have q_kn := hf_W3.keep kn o_kn (by unfold oneX; omega)
 replace o_kn := hf_W3.not_own (lt_of kn) o_kn
 clear kn; have kn := q_kn; clear q_kn
 have c_kn := cells_of kn
 have f_kn := free_of kn
 have l_kn_W3 := lt_of kn
 clear kt c_kt f_kt o_kt; have kt := hT_W3.blk; have o_kt := hT_W3.no
 have c_kt := cells_of kt
 have f_kt := free_of kt
 have l_kt_W3 := lt_of kt
 replace hF := hF.trans hf_W3
 have z_W3 := hf_W3.size
 clear hA hf_W3; have hA := hT_W3.hA; clear hT_W3
 refine hK.out _ _ ⟨(fun o => (c_kt o).trans (v_kt o).symm), (fun o => (c_kn o).trans (v_kn o).symm), (by omega), trivial⟩ (fun hHeld => ?_)
 clear hK K
 try simp only [PT]
 refine wpAnyH_ready (rs := [10]) (by kernel_rfl) (by simp) ?_
 refine ready_at rfl (fun K hK => ?_) AllReadyH.nil
 go_simp
 refine hK.out _ _ hHeld (fun hHeld => ?_)
 clear hK K
 try simp only [PT]
 refine wpAnyH_ready (rs := [11]) (by kernel_rfl) (by simp) ?_
 refine ready_at rfl (fun K hK => ?_) AllReadyH.nil
 go_simp
 refine hK.out _ _ hHeld (fun hHeld => ?_)
 clear hK K
 try simp only [PT]
 refine wpAnyH_done (by kernel_rfl) ?_ _
 refine NoPanic.normal ?_
 go_wp2_with fail
 refine calls_gen fun V4 hV_V4 => ?_
 have n_kt := congrArg (fun v : World => v.heap[tb]?) hV_V4
 simp (maxDischargeDepth := 9) only [BK, not_false_eq_true, reduceCtorEq, kt, kn, l_kt_w, l_kt_V, l_kt_W1, l_kt_V1, l_kn_V1, l_kt_V1d, l_kn_V1d, l_kn_W2, l_kt_W2, l_kn_W3, l_kt_W3] at n_kt
 have n_kn := congrArg (fun v : World => v.heap[W1.heap.size]?) hV_V4
 simp (maxDischargeDepth := 9) only [BK, not_false_eq_true, reduceCtorEq, kt, kn, l_kt_w, l_kt_V, l_kt_W1, l_kt_V1, l_kn_V1, l_kt_V1d, l_kn_V1d, l_kn_W2, l_kt_W2, l_kn_W3, l_kt_W3] at n_kn
 have n_F : Fr ((oneX tb)) O O2 w V4 := nF hV_V4
 have n_A : AP V4 ap ((t.keep (t.s.get h).k0).keep (t.s.get h).k1).s O2 := nA hV_V4
 have z_V4 := Nat.le_of_eq (congrArg (fun v : World => v.heap.size) hV_V4).symm
 try simp only [SZ] at z_V4
 clear kt c_kt f_kt
 clear kn c_kn f_kn
 clear hV_V4
 clear hA
 have hA := n_A
 clear n_A
 clear hF
 have hF := n_F
 clear n_F
 have kt := n_kt; clear n_kt
 have c_kt := cells_of kt
 have f_kt := free_of kt
 have l_kt_V4 := lt_of kt
 have kn := n_kn; clear n_kn
 have c_kn := cells_of kn
 have f_kn := free_of kn
 have l_kn_V4 := lt_of kn
 refine (drop_calls _ _ hA).mono ?_
 rintro e_W5 W5 ⟨rfl, O3, hA_W5, hf_W5⟩
 have q_kt := hf_W5.keep kt o_kt (fun h => h)
 have q_kn := hf_W5.keep kn o_kn (fun h => h)
 replace o_kt := hf_W5.not_own (lt_of kt) o_kt
 clear kt; have kt := q_kt; clear q_kt
 have c_kt := cells_of kt
 have f_kt := free_of kt
 have l_kt_W5 := lt_of kt
 replace o_kn := hf_W5.not_own (lt_of kn) o_kn
 clear kn; have kn := q_kn; clear q_kn
 have c_kn := cells_of kn
 have f_kn := free_of kn
 have l_kn_W5 := lt_of kn
 replace hF := hF.trans hf_W5.widen
 have z_W5 := hf_W5.size
 clear hA hf_W5; have hA := hA_W5; clear hA_W5
 go_wp2_with fail
 go_ret2
 exact ⟨rfl, O3, ⟨hA, kt, o_kt⟩, hF⟩
end Go.Proofs.Ytkgabbenmoocgaa
