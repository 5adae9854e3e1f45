/- Part 6 of what these laws needs: the walks of the program's functions, and plain facts. -/
import Derived.Test.YtdjpjmkpndmhaaaGreatCoreM5
/- The tree that makes nodes of lists: change, by a closure's contract. -/
namespace Go.Proofs.YtdjpjmkpndmhaaaGreat
set_option linter.unusedSimpArgs false
set_option linter.unusedVariables false
set_option linter.unnecessarySimpa false
open Go.RowKit
attribute [local go_sem ↓] Go.wp_at_zero Go.wp_at_succ
attribute [local go_sem] lt_s2 lt_s3 lt_s4
attribute [local go_sem] idx0 idx1 idx2 idx3
variable {ap : Value} {tb : Nat}
/-- What a closure of a number, and with what it captured, does to a list. -/
def OneC (tb : Nat) (ap : Value) (C : World → (Nat → Prop) → Prop) (f : FuncId) (caps : Array Value) (one : Tb → Int → Option (Int × Tb)) : Prop :=
  ∀ (t : Tb) (O : Nat → Prop) (h : Int) (r : Int × Tb) (w : World), one t h = some r → LB w tb ap t O → C w O →
    Calls Tryz.prog f (#[.int .i64 h] ++ caps) w fun e w' => e = .returned (.int .i64 r.1) ∧ DidL tb ap r.2 O w w'
/-- What a closure captured stays as it is. -/
def KeepC (tb : Nat) (C : World → (Nat → Prop) → Prop) : Prop := ∀ w w' O O', C w O → Fr (oneX tb) O O' w w' → C w' O'
section
variable {t : Tb} {O : Nat → Prop} {C : World → (Nat → Prop) → Prop} {f : FuncId} {caps : Array Value} {one : Tb → Int → Option (Int × Tb)}
set_option maxRecDepth 100000 in
set_option maxHeartbeats 2000000 in
theorem lChg_none (hfun : ∀ args w, (callFunc f args).run Tryz.prog w = .ok (.enter f args) w) (hKC : Hid (KeepC tb C)) (hone : Hid (OneC tb ap C f caps one)) (h i : Int) (r : Int × Tb) (w : World) (hr : one t h = some r) (h0 : lIs t.s h = false) (hT : LB w tb ap t O) (hC : C w O) :
    Calls Tryz.prog 113 #[.pointer (some ⟨tb, 0, none⟩), .int .i64 h, .int .i64 i, .func (.func f) #[] caps] w fun e w' => e = .returned (.int .i64 r.1) ∧ DidL tb ap r.2 O w w' := by
  have Hr := Lib.hid hr; clear hr
  have HC := Lib.hid hC; clear hC
  go_enter Tryz.func113, Tryz.ntmps113
  have hA := hT.hA
  have kt := hT.blk
  have o_kt := hT.no
  obtain ⟨c_kt, f_kt, l_kt_w⟩ := f3 kt
  go_wp2_with fail
  refine calls_gen fun V hV_V => ?_
  replace kt := kK hV_V kt
  have hF : Fr ((oneX tb)) O O w V := nF hV_V
  replace hA : AP V ap t.s O := nA hV_V
  have z_V := zS hV_V
  clear hV_V c_kt f_kt
  obtain ⟨c_kt, f_kt, l_kt_V⟩ := f3 kt
  refine (lRow_calls _ _ hA).mono ?_
  rintro e_W1 W1 ⟨rfl, hb_W1⟩
  replace hA := hA.below hb_W1
  replace hF := hF.below hb_W1
  replace kt := keep_blk hb_W1 kt
  have z_W1 := hb_W1.size
  clear hb_W1 c_kt f_kt
  obtain ⟨c_kt, f_kt, l_kt_W1⟩ := f3 kt
  unfold Nd.val
  go_wp2_with fail
  refine calls_gen fun V1 hV_V1 => ?_
  replace kt := kK hV_V1 kt
  replace hF : Fr ((oneX tb)) O O w V1 := nF hV_V1
  replace hA : AP V1 ap t.s O := nA hV_V1
  have z_V1 := zS hV_V1
  clear hV_V1 c_kt f_kt
  obtain ⟨c_kt, f_kt, l_kt_V1⟩ := f3 kt
  refine (hone.out t O h r _ Hr.out ⟨hA, kt, o_kt⟩ (hKC.out _ _ _ _ HC.out hF)).mono ?_
  rintro e_W2 W2 ⟨rfl, O1, hT_W2, hf_W2⟩
  clear kt c_kt f_kt o_kt; have kt := hT_W2.blk; have o_kt := hT_W2.no
  obtain ⟨c_kt, f_kt, l_kt_W2⟩ := f3 kt
  replace hF := hF.trans hf_W2
  have z_W2 := hf_W2.size
  clear hA hf_W2; have hA := hT_W2.hA; clear hT_W2
  go_wp2_with fail
  go_ret
  exact ⟨rfl, O1, ⟨hA, kt, o_kt⟩, hF⟩
set_option maxRecDepth 100000 in
set_option maxHeartbeats 2000000 in
theorem lChg_item (hfun : ∀ args w, (callFunc f args).run Tryz.prog w = .ok (.enter f args) w) (hKC : Hid (KeepC tb C)) (hone : Hid (OneC tb ap C f caps one)) (h i : Int) (r : Int × Tb) (w : World) (hr : one t h = some r) (h0 : lIs t.s h = true) (d1 : ((t.s.get h).tag == 4) = true) (hT : LB w tb ap t O) (hC : C w O) :
    Calls Tryz.prog 113 #[.pointer (some ⟨tb, 0, none⟩), .int .i64 h, .int .i64 i, .func (.func f) #[] caps] w fun e w' => e = .returned (.int .i64 r.1) ∧ DidL tb ap r.2 O w w' := by
  have Hr := Lib.hid hr; clear hr
  have HC := Lib.hid hC; clear hC
  go_enter Tryz.func113, Tryz.ntmps113
  have hA := hT.hA
  have kt := hT.blk
  have o_kt := hT.no
  obtain ⟨c_kt, f_kt, l_kt_w⟩ := f3 kt
  go_wp2_with fail
  refine calls_gen fun V hV_V => ?_
  replace kt := kK hV_V kt
  have hF : Fr ((oneX tb)) O O w V := nF hV_V
  replace hA : AP V ap t.s O := nA hV_V
  have z_V := zS hV_V
  clear hV_V c_kt f_kt
  obtain ⟨c_kt, f_kt, l_kt_V⟩ := f3 kt
  refine (lRow_calls _ _ hA).mono ?_
  rintro e_W1 W1 ⟨rfl, hb_W1⟩
  replace hA := hA.below hb_W1
  replace hF := hF.below hb_W1
  replace kt := keep_blk hb_W1 kt
  have z_W1 := hb_W1.size
  clear hb_W1 c_kt f_kt
  obtain ⟨c_kt, f_kt, l_kt_W1⟩ := f3 kt
  unfold Nd.val
  go_wp2_with fail
  refine calls_gen fun V1 hV_V1 => ?_
  replace kt := kK hV_V1 kt
  replace hF : Fr ((oneX tb)) O O w V1 := nF hV_V1
  replace hA : AP V1 ap t.s O := nA hV_V1
  have z_V1 := zS hV_V1
  clear hV_V1 c_kt f_kt
  obtain ⟨c_kt, f_kt, l_kt_V1⟩ := f3 kt
  refine (hone.out t O h r _ Hr.out ⟨hA, kt, o_kt⟩ (hKC.out _ _ _ _ HC.out hF)).mono ?_
  rintro e_W2 W2 ⟨rfl, O1, hT_W2, hf_W2⟩
  clear kt c_kt f_kt o_kt; have kt := hT_W2.blk; have o_kt := hT_W2.no
  obtain ⟨c_kt, f_kt, l_kt_W2⟩ := f3 kt
  replace hF := hF.trans hf_W2
  have z_W2 := hf_W2.size
  clear hA hf_W2; have hA := hT_W2.hA; clear hT_W2
  go_wp2_with fail
  go_ret
  exact ⟨rfl, O1, ⟨hA, kt, o_kt⟩, hF⟩
set_option maxRecDepth 100000 in
set_option maxHeartbeats 2000000 in
theorem lChg_high (k : Nat) (hKC : Hid (KeepC tb C)) (ih : Hid (∀ (t : Tb) (O : Nat → Prop) (h i : Int) (r : Int × Tb) (w : World), Tb.change one k t h i = some r → LB w tb ap t O → C w O → Calls Tryz.prog 113 #[.pointer (some ⟨tb, 0, none⟩), .int .i64 h, .int .i64 i, .func (.func f) #[] caps] w fun e w' => e = .returned (.int .i64 r.1) ∧ DidL tb ap r.2 O w w')) (h i : Int) (r : Int × Tb) (w : World) (h0 : lIs t.s h = true) (d1 : ((t.s.get h).tag == 4) = false) (d2 : decide (lLen t.s (t.s.get h).k0 ≤ i) = true)
    (hr : (Tb.change one k (t.keep (t.s.get h).k0) (t.s.get h).k1 (wrap64 (i - lLen t.s (t.s.get h).k0))).bind (fun r => r.2.join (t.s.get h).k0 r.1) = some r) (hT : LB w tb ap t O) (hC : C w O) :
    Calls Tryz.prog 113 #[.pointer (some ⟨tb, 0, none⟩), .int .i64 h, .int .i64 i, .func (.func f) #[] caps] w fun e w' => e = .returned (.int .i64 r.1) ∧ DidL tb ap r.2 O w w' := by
  obtain ⟨u, h_b, h_r⟩ := Option.bind_eq_some_iff.1 hr
  have Hu := Lib.hid h_b; clear h_b hr; have hr := h_r; clear h_r
  have Hr := Lib.hid hr; clear hr
  have HC := Lib.hid hC; clear hC
  go_enter Tryz.func113, Tryz.ntmps113
  have hA := hT.hA
  have kt := hT.blk
  have o_kt := hT.no
  obtain ⟨c_kt, f_kt, l_kt_w⟩ := f3 kt
  go_wp2_with fail
  refine calls_gen fun V hV_V => ?_
  replace kt := kK hV_V kt
  have hF : Fr ((oneX tb)) O O w V := nF hV_V
  replace hA : AP V ap t.s O := nA hV_V
  have z_V := zS hV_V
  clear hV_V c_kt f_kt
  obtain ⟨c_kt, f_kt, l_kt_V⟩ := f3 kt
  refine (lRow_calls _ _ hA).mono ?_
  rintro e_W1 W1 ⟨rfl, hb_W1⟩
  replace hA := hA.below hb_W1
  replace hF := hF.below hb_W1
  replace kt := keep_blk hb_W1 kt
  have z_W1 := hb_W1.size
  clear hb_W1 c_kt f_kt
  obtain ⟨c_kt, f_kt, l_kt_W1⟩ := f3 kt
  unfold Nd.val
  go_wp2_with fail
  refine wp_gen fun V1 hV_V1 => ?_
  have n_kn := hbk hV_V1 (W1.heap.size)
  simp (maxDischargeDepth := 9) only [BK, not_false_eq_true, reduceCtorEq, kt, l_kt_w, l_kt_V, l_kt_W1] at n_kn
  have o_kn : ¬ O (W1.heap.size) := by first | exact hA.new (Nat.le_refl _) | exact hA.new (by omega)
  replace kt := kK hV_V1 kt
  replace hF : Fr ((oneX tb)) O O w V1 := nF hV_V1
  replace hA : AP V1 ap t.s O := nA hV_V1
  have z_V1 := zS hV_V1
  clear hV_V1 c_kt f_kt
  obtain ⟨c_kt, f_kt, l_kt_V1⟩ := f3 kt
  have kn := n_kn; clear n_kn
  obtain ⟨c_kn, f_kn, l_kn_V1⟩ := f3 kn
  refine wp_region_noPanic ?_
  refine wp_region_held_drew (S := fun v => (∀ o, v.cell? ⟨tb, o, none⟩ = V1.cell? ⟨tb, o, none⟩) ∧ (∀ o, v.cell? ⟨W1.heap.size, o, none⟩ = V1.cell? ⟨W1.heap.size, o, none⟩) ∧ (V1.heap.size ≤ v.heap.size) ∧ AP v ap t.s O) (by kernel_rfl) ⟨(fun _ => rfl), (fun _ => rfl), (Nat.le_refl _), hA.drew⟩ (fun hHeld => ?_)
  generalize hV_V1d : V1.drew = V1d at hHeld ⊢
  have d_kt := dK hV_V1d kt
  have d_kn := dK hV_V1d kn
  clear c_kt f_kt c_kn f_kn
  replace hA := hA.drew; rw [hV_V1d] at hA
  replace hF := hF.drew; rw [hV_V1d] at hF
  have z_V1d := dZ hV_V1d
  have v_kt := cells_of kt
  have v_kn := cells_of kn
  clear kt; have kt := d_kt; clear d_kt
  clear kn; have kn := d_kn; clear d_kn
  obtain ⟨c_kt, f_kt, l_kt_V1d⟩ := f3 kt
  obtain ⟨c_kn, f_kn, l_kn_V1d⟩ := f3 kn
  clear hV_V1d
  refine tz 0 rfl hHeld ?_
  try simp only [PT]
  refine tz 1 rfl hHeld ?_
  try simp only [PT]
  refine tz 2 rfl hHeld ?_
  try simp only [PT]
  refine tz 3 rfl hHeld ?_
  try simp only [PT]
  refine tz 4 rfl hHeld ?_
  try simp only [PT]
  refine tz 5 rfl hHeld ?_
  try simp only [PT]
  refine tz 6 rfl hHeld ?_
  try simp only [PT]
  refine rd 7 rfl fun K hK => ?_
  go_simp
  try simp only [IntWalk.i64_left]
  refine (lLen_calls _ _ hA).mono ?_
  rintro e_W2 W2 ⟨rfl, hb_W2⟩
  replace hA := hA.below hb_W2
  replace hF := hF.below hb_W2
  replace kt := keep_blk hb_W2 kt
  replace kn := keep_blk hb_W2 kn
  have z_W2 := hb_W2.size
  clear hb_W2 c_kt f_kt c_kn f_kn
  obtain ⟨c_kt, f_kt, l_kt_W2⟩ := f3 kt
  obtain ⟨c_kn, f_kn, l_kn_W2⟩ := f3 kn
  refine hK.out _ _ ⟨(fun o => (c_kt o).trans (v_kt o).symm), (fun o => (c_kn o).trans (v_kn o).symm), (by omega), hA⟩ (fun hHeld => ?_)
  clear hK K
  try simp only [PT]
  refine rd 8 rfl fun K hK => ?_
  go_simp
  refine hK.out _ _ hHeld (fun hHeld => ?_)
  clear hK K
  try simp only [PT]
  refine wpAnyH_done (by kernel_rfl) ?_ _
  refine NoPanic.normal ?_
  go_wp2_with fail
  refine wp_gen fun V2 hV_V2 => ?_
  replace kt := kK hV_V2 kt
  replace kn := kK hV_V2 kn
  replace hF : Fr ((oneX tb)) O O w V2 := nF hV_V2
  replace hA : AP V2 ap t.s O := nA hV_V2
  have z_V2 := zS hV_V2
  clear hV_V2 c_kt f_kt c_kn f_kn
  obtain ⟨c_kt, f_kt, l_kt_V2⟩ := f3 kt
  obtain ⟨c_kn, f_kn, l_kn_V2⟩ := f3 kn
  refine wp_region_noPanic ?_
  refine wp_region_held_drew (S := fun v => (v.cell? ⟨tb, 0, none⟩ = V2.cell? ⟨tb, 0, none⟩) ∧ (∀ o, v.cell? ⟨W1.heap.size, o, none⟩ = V2.cell? ⟨W1.heap.size, o, none⟩) ∧ (V2.heap.size ≤ v.heap.size) ∧ True) (by kernel_rfl) ⟨rfl, (fun _ => rfl), (Nat.le_refl _), trivial⟩ (fun hHeld => ?_)
  generalize hV_V2d : V2.drew = V2d at hHeld ⊢
  have d_kt := dK hV_V2d kt
  have d_kn := dK hV_V2d kn
  clear c_kt f_kt c_kn f_kn
  replace hA := hA.drew; rw [hV_V2d] at hA
  replace hF := hF.drew; rw [hV_V2d] at hF
  have z_V2d := dZ hV_V2d
  have v_kt := cells_of kt
  have v_kn := cells_of kn
  clear kt; have kt := d_kt; clear d_kt
  clear kn; have kn := d_kn; clear d_kn
  obtain ⟨c_kt, f_kt, l_kt_V2d⟩ := f3 kt
  obtain ⟨c_kn, f_kn, l_kn_V2d⟩ := f3 kn
  clear hV_V2d
  refine tz 0 rfl hHeld ?_
  try simp only [PT]
  refine tz 1 rfl hHeld ?_
  try simp only [PT]
  refine tz 2 rfl hHeld ?_
  try simp only [PT]
  refine tz 3 rfl hHeld ?_
  try simp only [PT]
  refine tz 4 rfl hHeld ?_
  try simp only [PT]
  refine tz 6 rfl hHeld ?_
  try simp only [PT]
  refine tz 7 rfl hHeld ?_
  try simp only [PT]
  refine tz 8 rfl hHeld ?_
  try simp only [PT]
  refine tz 9 rfl hHeld ?_
  try simp only [PT]
  refine tz 10 rfl hHeld ?_
  try simp only [PT]
  refine tz 11 rfl hHeld ?_
  try simp only [PT]
  refine tz 12 rfl hHeld ?_
  try simp only [PT]
  refine tz 13 rfl hHeld ?_
  try simp only [PT]
  refine rd 5 rfl fun K hK => ?_
  go_simp
  try simp only [IntWalk.i64_left]
  refine (lKeep_calls (t := t) (t.s.get h).k0 _ ⟨hA, kt, o_kt⟩).mono ?_
  rintro e_W3 W3 ⟨rfl, O1, hT_W3, hf_W3⟩
  have q_kn := hf_W3.keep kn o_kn (by unfold oneX; omega)
  replace o_kn := hf_W3.not_own (lt_of kn) o_kn
  clear kn; have kn := q_kn; clear q_kn
  obtain ⟨c_kn, f_kn, l_kn_W3⟩ := f3 kn
  clear kt c_kt f_kt o_kt; have kt := hT_W3.blk; have o_kt := hT_W3.no
  obtain ⟨c_kt, f_kt, l_kt_W3⟩ := f3 kt
  replace hF := hF.trans hf_W3
  have z_W3 := hf_W3.size
  clear hA hf_W3; have hA := hT_W3.hA; clear hT_W3
  refine hK.out _ _ ⟨((c_kt 0).trans (v_kt 0).symm), (fun o => (c_kn o).trans (v_kn o).symm), (by omega), trivial⟩ (fun hHeld => ?_)
  clear hK K
  try simp only [PT]
  refine rd 14 rfl fun K hK => ?_
  go_simp
  try simp only [IntWalk.i64_left]
  refine (ih.out (t.keep (t.s.get h).k0) _ _ _ _ _ Hu.out ⟨hA, kt, o_kt⟩ (hKC.out _ _ _ _ HC.out hF)).mono ?_
  rintro e_W4 W4 ⟨rfl, O2, hT_W4, hf_W4⟩
  have q_kn := hf_W4.keep kn o_kn (by unfold oneX; omega)
  replace o_kn := hf_W4.not_own (lt_of kn) o_kn
  clear kn; have kn := q_kn; clear q_kn
  obtain ⟨c_kn, f_kn, l_kn_W4⟩ := f3 kn
  clear kt c_kt f_kt o_kt; have kt := hT_W4.blk; have o_kt := hT_W4.no
  obtain ⟨c_kt, f_kt, l_kt_W4⟩ := f3 kt
  replace hF := hF.trans hf_W4
  have z_W4 := hf_W4.size
  clear hA hf_W4; have hA := hT_W4.hA; clear hT_W4
  refine hK.out _ _ ⟨((c_kt 0).trans (v_kt 0).symm), (fun o => (c_kn o).trans (v_kn o).symm), (by omega), trivial⟩ (fun hHeld => ?_)
  clear hK K
  try simp only [PT]
  refine rd 15 rfl fun K hK => ?_
  go_simp
  try simp only [IntWalk.i64_left]
  refine (lJoin_calls (t := u.2) _ _ _ Hr.out _ ⟨hA, kt, o_kt⟩).mono ?_
  rintro e_W5 W5 ⟨rfl, O3, hT_W5, hf_W5⟩
  have q_kn := hf_W5.keep kn o_kn (by unfold oneX; omega)
  replace o_kn := hf_W5.not_own (lt_of kn) o_kn
  clear kn; have kn := q_kn; clear q_kn
  obtain ⟨c_kn, f_kn, l_kn_W5⟩ := f3 kn
  clear kt c_kt f_kt o_kt; have kt := hT_W5.blk; have o_kt := hT_W5.no
  obtain ⟨c_kt, f_kt, l_kt_W5⟩ := f3 kt
  replace hF := hF.trans hf_W5
  have z_W5 := hf_W5.size
  clear hA hf_W5; have hA := hT_W5.hA; clear hT_W5
  refine hK.out _ _ ⟨((c_kt 0).trans (v_kt 0).symm), (fun o => (c_kn o).trans (v_kn o).symm), (by omega), trivial⟩ (fun hHeld => ?_)
  clear hK K
  try simp only [PT]
  refine rd 16 rfl fun K hK => ?_
  go_simp
  refine hK.out _ _ hHeld (fun hHeld => ?_)
  clear hK K
  try simp only [PT]
  refine wpAnyH_done (by kernel_rfl) ?_ _
  refine NoPanic.normal ?_
  go_wp2_with fail
  go_ret
  exact ⟨rfl, O3, ⟨hA, kt, o_kt⟩, hF⟩
set_option maxRecDepth 100000 in
set_option maxHeartbeats 2000000 in
theorem lChg_low (k : Nat) (hKC : Hid (KeepC tb C)) (ih : Hid (∀ (t : Tb) (O : Nat → Prop) (h i : Int) (r : Int × Tb) (w : World), Tb.change one k t h i = some r → LB w tb ap t O → C w O → Calls Tryz.prog 113 #[.pointer (some ⟨tb, 0, none⟩), .int .i64 h, .int .i64 i, .func (.func f) #[] caps] w fun e w' => e = .returned (.int .i64 r.1) ∧ DidL tb ap r.2 O w w')) (h i : Int) (r : Int × Tb) (w : World) (h0 : lIs t.s h = true) (d1 : ((t.s.get h).tag == 4) = false) (d2 : decide (lLen t.s (t.s.get h).k0 ≤ i) = false)
    (hr : (Tb.change one k t (t.s.get h).k0 i).bind (fun r => (r.2.keep (t.s.get h).k1).join r.1 (t.s.get h).k1) = some r) (hT : LB w tb ap t O) (hC : C w O) :
    Calls Tryz.prog 113 #[.pointer (some ⟨tb, 0, none⟩), .int .i64 h, .int .i64 i, .func (.func f) #[] caps] w fun e w' => e = .returned (.int .i64 r.1) ∧ DidL tb ap r.2 O w w' := by
  obtain ⟨u, h_b, h_r⟩ := Option.bind_eq_some_iff.1 hr
  have Hu := Lib.hid h_b; clear h_b hr; have hr := h_r; clear h_r
  have Hr := Lib.hid hr; clear hr
  have HC := Lib.hid hC; clear hC
  go_enter Tryz.func113, Tryz.ntmps113
  have hA := hT.hA
  have kt := hT.blk
  have o_kt := hT.no
  obtain ⟨c_kt, f_kt, l_kt_w⟩ := f3 kt
  go_wp2_with fail
  refine calls_gen fun V hV_V => ?_
  replace kt := kK hV_V kt
  have hF : Fr ((oneX tb)) O O w V := nF hV_V
  replace hA : AP V ap t.s O := nA hV_V
  have z_V := zS hV_V
  clear hV_V c_kt f_kt
  obtain ⟨c_kt, f_kt, l_kt_V⟩ := f3 kt
  refine (lRow_calls _ _ hA).mono ?_
  rintro e_W1 W1 ⟨rfl, hb_W1⟩
  replace hA := hA.below hb_W1
  replace hF := hF.below hb_W1
  replace kt := keep_blk hb_W1 kt
  have z_W1 := hb_W1.size
  clear hb_W1 c_kt f_kt
  obtain ⟨c_kt, f_kt, l_kt_W1⟩ := f3 kt
  unfold Nd.val
  go_wp2_with fail
  refine wp_gen fun V1 hV_V1 => ?_
  have n_kn := hbk hV_V1 (W1.heap.size)
  simp (maxDischargeDepth := 9) only [BK, not_false_eq_true, reduceCtorEq, kt, l_kt_w, l_kt_V, l_kt_W1] at n_kn
  have o_kn : ¬ O (W1.heap.size) := by first | exact hA.new (Nat.le_refl _) | exact hA.new (by omega)
  replace kt := kK hV_V1 kt
  replace hF : Fr ((oneX tb)) O O w V1 := nF hV_V1
  replace hA : AP V1 ap t.s O := nA hV_V1
  have z_V1 := zS hV_V1
  clear hV_V1 c_kt f_kt
  obtain ⟨c_kt, f_kt, l_kt_V1⟩ := f3 kt
  have kn := n_kn; clear n_kn
  obtain ⟨c_kn, f_kn, l_kn_V1⟩ := f3 kn
  refine wp_region_noPanic ?_
  refine wp_region_held_drew (S := fun v => (∀ o, v.cell? ⟨tb, o, none⟩ = V1.cell? ⟨tb, o, none⟩) ∧ (∀ o, v.cell? ⟨W1.heap.size, o, none⟩ = V1.cell? ⟨W1.heap.size, o, none⟩) ∧ (V1.heap.size ≤ v.heap.size) ∧ AP v ap t.s O) (by kernel_rfl) ⟨(fun _ => rfl), (fun _ => rfl), (Nat.le_refl _), hA.drew⟩ (fun hHeld => ?_)
  generalize hV_V1d : V1.drew = V1d at hHeld ⊢
  have d_kt := dK hV_V1d kt
  have d_kn := dK hV_V1d kn
  clear c_kt f_kt c_kn f_kn
  replace hA := hA.drew; rw [hV_V1d] at hA
  replace hF := hF.drew; rw [hV_V1d] at hF
  have z_V1d := dZ hV_V1d
  have v_kt := cells_of kt
  have v_kn := cells_of kn
  clear kt; have kt := d_kt; clear d_kt
  clear kn; have kn := d_kn; clear d_kn
  obtain ⟨c_kt, f_kt, l_kt_V1d⟩ := f3 kt
  obtain ⟨c_kn, f_kn, l_kn_V1d⟩ := f3 kn
  clear hV_V1d
  refine tz 0 rfl hHeld ?_
  try simp only [PT]
  refine tz 1 rfl hHeld ?_
  try simp only [PT]
  refine tz 2 rfl hHeld ?_
  try simp only [PT]
  refine tz 3 rfl hHeld ?_
  try simp only [PT]
  refine tz 4 rfl hHeld ?_
  try simp only [PT]
  refine tz 5 rfl hHeld ?_
  try simp only [PT]
  refine tz 6 rfl hHeld ?_
  try simp only [PT]
  refine rd 7 rfl fun K hK => ?_
  go_simp
  try simp only [IntWalk.i64_left]
  refine (lLen_calls _ _ hA).mono ?_
  rintro e_W2 W2 ⟨rfl, hb_W2⟩
  replace hA := hA.below hb_W2
  replace hF := hF.below hb_W2
  replace kt := keep_blk hb_W2 kt
  replace kn := keep_blk hb_W2 kn
  have z_W2 := hb_W2.size
  clear hb_W2 c_kt f_kt c_kn f_kn
  obtain ⟨c_kt, f_kt, l_kt_W2⟩ := f3 kt
  obtain ⟨c_kn, f_kn, l_kn_W2⟩ := f3 kn
  refine hK.out _ _ ⟨(fun o => (c_kt o).trans (v_kt o).symm), (fun o => (c_kn o).trans (v_kn o).symm), (by omega), hA⟩ (fun hHeld => ?_)
  clear hK K
  try simp only [PT]
  refine rd 8 rfl fun K hK => ?_
  go_simp
  refine hK.out _ _ hHeld (fun hHeld => ?_)
  clear hK K
  try simp only [PT]
  refine wpAnyH_done (by kernel_rfl) ?_ _
  refine NoPanic.normal ?_
  go_wp2_with fail
  refine wp_gen fun V2 hV_V2 => ?_
  replace kt := kK hV_V2 kt
  replace kn := kK hV_V2 kn
  replace hF : Fr ((oneX tb)) O O w V2 := nF hV_V2
  replace hA : AP V2 ap t.s O := nA hV_V2
  have z_V2 := zS hV_V2
  clear hV_V2 c_kt f_kt c_kn f_kn
  obtain ⟨c_kt, f_kt, l_kt_V2⟩ := f3 kt
  obtain ⟨c_kn, f_kn, l_kn_V2⟩ := f3 kn
  refine wp_region_noPanic ?_
  refine wp_region_held_drew (S := fun v => (v.cell? ⟨tb, 0, none⟩ = V2.cell? ⟨tb, 0, none⟩) ∧ (∀ o, v.cell? ⟨W1.heap.size, o, none⟩ = V2.cell? ⟨W1.heap.size, o, none⟩) ∧ (V2.heap.size ≤ v.heap.size) ∧ True) (by kernel_rfl) ⟨rfl, (fun _ => rfl), (Nat.le_refl _), trivial⟩ (fun hHeld => ?_)
  generalize hV_V2d : V2.drew = V2d at hHeld ⊢
  have d_kt := dK hV_V2d kt
  have d_kn := dK hV_V2d kn
  clear c_kt f_kt c_kn f_kn
  replace hA := hA.drew; rw [hV_V2d] at hA
  replace hF := hF.drew; rw [hV_V2d] at hF
  have z_V2d := dZ hV_V2d
  have v_kt := cells_of kt
  have v_kn := cells_of kn
  clear kt; have kt := d_kt; clear d_kt
  clear kn; have kn := d_kn; clear d_kn
  obtain ⟨c_kt, f_kt, l_kt_V2d⟩ := f3 kt
  obtain ⟨c_kn, f_kn, l_kn_V2d⟩ := f3 kn
  clear hV_V2d
  refine tz 0 rfl hHeld ?_
  try simp only [PT]
  refine tz 1 rfl hHeld ?_
  try simp only [PT]
  refine tz 2 rfl hHeld ?_
  try simp only [PT]
  refine tz 3 rfl hHeld ?_
  try simp only [PT]
  refine tz 4 rfl hHeld ?_
  try simp only [PT]
  refine tz 5 rfl hHeld ?_
  try simp only [PT]
  refine tz 6 rfl hHeld ?_
  try simp only [PT]
  refine tz 8 rfl hHeld ?_
  try simp only [PT]
  refine tz 9 rfl hHeld ?_
  try simp only [PT]
  refine tz 10 rfl hHeld ?_
  try simp only [PT]
  refine tz 11 rfl hHeld ?_
  try simp only [PT]
  refine rd 7 rfl fun K hK => ?_
  go_simp
  try simp only [IntWalk.i64_left]
  refine (ih.out t _ _ _ _ _ Hu.out ⟨hA, kt, o_kt⟩ (hKC.out _ _ _ _ HC.out hF)).mono ?_
  rintro e_W3 W3 ⟨rfl, O1, hT_W3, hf_W3⟩
  have q_kn := hf_W3.keep kn o_kn (by unfold oneX; omega)
  replace o_kn := hf_W3.not_own (lt_of kn) o_kn
  clear kn; have kn := q_kn; clear q_kn
  obtain ⟨c_kn, f_kn, l_kn_W3⟩ := f3 kn
  clear kt c_kt f_kt o_kt; have kt := hT_W3.blk; have o_kt := hT_W3.no
  obtain ⟨c_kt, f_kt, l_kt_W3⟩ := f3 kt
  replace hF := hF.trans hf_W3
  have z_W3 := hf_W3.size
  clear hA hf_W3; have hA := hT_W3.hA; clear hT_W3
  refine hK.out _ _ ⟨((c_kt 0).trans (v_kt 0).symm), (fun o => (c_kn o).trans (v_kn o).symm), (by omega), trivial⟩ (fun hHeld => ?_)
  clear hK K
  try simp only [PT]
  refine rd 12 rfl fun K hK => ?_
  go_simp
  try simp only [IntWalk.i64_left]
  refine (lKeep_calls (t := u.2) (t.s.get h).k1 _ ⟨hA, kt, o_kt⟩).mono ?_
  rintro e_W4 W4 ⟨rfl, O2, hT_W4, hf_W4⟩
  have q_kn := hf_W4.keep kn o_kn (by unfold oneX; omega)
  replace o_kn := hf_W4.not_own (lt_of kn) o_kn
  clear kn; have kn := q_kn; clear q_kn
  obtain ⟨c_kn, f_kn, l_kn_W4⟩ := f3 kn
  clear kt c_kt f_kt o_kt; have kt := hT_W4.blk; have o_kt := hT_W4.no
  obtain ⟨c_kt, f_kt, l_kt_W4⟩ := f3 kt
  replace hF := hF.trans hf_W4
  have z_W4 := hf_W4.size
  clear hA hf_W4; have hA := hT_W4.hA; clear hT_W4
  refine hK.out _ _ ⟨((c_kt 0).trans (v_kt 0).symm), (fun o => (c_kn o).trans (v_kn o).symm), (by omega), trivial⟩ (fun hHeld => ?_)
  clear hK K
  try simp only [PT]
  refine rd 13 rfl fun K hK => ?_
  go_simp
  try simp only [IntWalk.i64_left]
  refine (lJoin_calls (t := u.2.keep (t.s.get h).k1) _ _ _ Hr.out _ ⟨hA, kt, o_kt⟩).mono ?_
  rintro e_W5 W5 ⟨rfl, O3, hT_W5, hf_W5⟩
  have q_kn := hf_W5.keep kn o_kn (by unfold oneX; omega)
  replace o_kn := hf_W5.not_own (lt_of kn) o_kn
  clear kn; have kn := q_kn; clear q_kn
  obtain ⟨c_kn, f_kn, l_kn_W5⟩ := f3 kn
  clear kt c_kt f_kt o_kt; have kt := hT_W5.blk; have o_kt := hT_W5.no
  obtain ⟨c_kt, f_kt, l_kt_W5⟩ := f3 kt
  replace hF := hF.trans hf_W5
  have z_W5 := hf_W5.size
  clear hA hf_W5; have hA := hT_W5.hA; clear hT_W5
  refine hK.out _ _ ⟨((c_kt 0).trans (v_kt 0).symm), (fun o => (c_kn o).trans (v_kn o).symm), (by omega), trivial⟩ (fun hHeld => ?_)
  clear hK K
  try simp only [PT]
  refine rd 14 rfl fun K hK => ?_
  go_simp
  refine hK.out _ _ hHeld (fun hHeld => ?_)
  clear hK K
  try simp only [PT]
  refine wpAnyH_done (by kernel_rfl) ?_ _
  refine NoPanic.normal ?_
  go_wp2_with fail
  go_ret
  exact ⟨rfl, O3, ⟨hA, kt, o_kt⟩, hF⟩
end
set_option maxHeartbeats 400000 in
theorem lChange_calls {C : World → (Nat → Prop) → Prop} {f : FuncId} {caps : Array Value} {one : Tb → Int → Option (Int × Tb)} (hfun : ∀ args w, (callFunc f args).run Tryz.prog w = .ok (.enter f args) w) (hKC : Hid (KeepC tb C)) (hone : Hid (OneC tb ap C f caps one)) :
    ∀ (k : Nat) (t : Tb) (O : Nat → Prop) (h i : Int) (r : Int × Tb) (w : World), Tb.change one k t h i = some r → LB w tb ap t O → C w O →
    Calls Tryz.prog 113 #[.pointer (some ⟨tb, 0, none⟩), .int .i64 h, .int .i64 i, .func (.func f) #[] caps] w fun e w' => e = .returned (.int .i64 r.1) ∧ DidL tb ap r.2 O w w'
  | 0, t, O, h, i, r, w, hr, hT, hC => by cases hr
  | k + 1, t, O, h, i, r, w, hr, hT, hC => by
    have ih := Lib.hid (lChange_calls hfun hKC hone k)
    unfold Tb.change at hr
    cases h0 : lIs t.s h with
    | false =>
      rw [if_pos (.inl h0)] at hr
      exact lChg_none hfun hKC hone h i r w hr h0 hT hC
    | true =>
      by_cases h1 : (t.s.get h).tag = 4
      · rw [if_pos (.inr h1)] at hr
        exact lChg_item hfun hKC hone h i r w hr h0 (by simpa using h1) hT hC
      · rw [if_neg (by rw [h0]; simp [h1])] at hr
        by_cases h2 : lLen t.s (t.s.get h).k0 ≤ i
        · rw [if_pos h2] at hr
          exact lChg_high k hKC ih h i r w h0 (by simpa using h1) (by simpa using h2) hr hT hC
        · rw [if_neg h2] at hr
          exact lChg_low k hKC ih h i r w h0 (by simpa using h1) (by simpa using h2) hr hT hC
end Go.Proofs.YtdjpjmkpndmhaaaGreat
/- Lists in an arena: a list with an item more. -/
namespace Go.Proofs.YtdjpjmkpndmhaaaGreat
set_option linter.unusedSimpArgs false
set_option linter.unusedVariables false
set_option linter.unnecessarySimpa false
open Go.RowKit
attribute [local go_sem ↓] Go.wp_at_zero Go.wp_at_succ
attribute [local go_sem] lt_s2 lt_s3 lt_s4
variable {ap : Value} {O : Nat → Prop} {s : Ar} {tb : Nat}
/-- What Insert's closure captured: the tree, the item, how many there are, and the place. -/
structure InsC (tb bt bx bn bi : Nat) (x : Int × Int) (n i : Int) (w : World) (O : Nat → Prop) : Prop where
  ct : w.heap[bt]? = some (.cells #[.pointer (some ⟨tb, 0, none⟩)] 143 (0, 0))
  cx : w.heap[bx]? = some (.cells #[.int .i64 x.1, .int .i64 x.2] 56 (0, 0))
  cn : w.heap[bn]? = some (.cells #[.int .i64 n] 3 (0, 0))
  ci : w.heap[bi]? = some (.cells #[.int .i64 i] 3 (0, 0))
  ot : ¬ O bt
  ox : ¬ O bx
  on : ¬ O bn
  oi : ¬ O bi
  nt : bt ≠ tb
  nx : bx ≠ tb
  nn : bn ≠ tb
  ni : bi ≠ tb
theorem InsC.keepC (tb bt bx bn bi : Nat) (x : Int × Int) (n i : Int) : KeepC tb (InsC tb bt bx bn bi x n i) := by
  intro w w' O O' h hF
  exact ⟨hF.keep h.ct h.ot h.nt, hF.keep h.cx h.ox h.nx, hF.keep h.cn h.on h.nn, hF.keep h.ci h.oi h.ni, hF.not_own (lt_of h.ct) h.ot, hF.not_own (lt_of h.cx) h.ox, hF.not_own (lt_of h.cn) h.on, hF.not_own (lt_of h.ci) h.oi, h.nt, h.nx, h.nn, h.ni⟩
theorem lMay_calls (x : Int × Int) (i most : Int) (w : World) : Calls Tryz.prog 111 #[.agg #[.int .i64 x.1, .int .i64 x.2], .int .i64 i, .int .i64 most] w fun e w' => e = .returned (.int .i64 (lMay x i most)) ∧ Below w.heap.size w w' := by
  unfold lMay
  by_cases h1 : x.1 < 0
  · have d1 : decide (x.1 < 0) = true := by simpa using h1
    rw [if_pos (.inl h1)]
    clear h1
    go_enter Tryz.func111, Tryz.ntmps111
    go_wp2_with fail
    go_ret
    exact ⟨rfl, by (repeat' first | with_reducible assumption | with_reducible exact Below.refl _ _ | with_reducible refine Below.alloc ?_ ?_ _ | with_reducible refine Below.setCell ?_ ?_ _ | with_reducible refine below_drewN ?_ _ | with_reducible refine Below.drew ?_ | exact Nat.le_refl _ | ((try dsimp only); omega) | (simp only [siz_alloc, siz_set]; omega))⟩
  · have d1 : decide (x.1 < 0) = false := by simpa using h1
    by_cases h2 : x.2 < 0
    · have d2 : decide (x.2 < 0) = true := by simpa using h2
      rw [if_pos (.inr h2)]
      clear h1 h2
      go_enter Tryz.func111, Tryz.ntmps111
      go_wp2_with fail
      go_ret
      exact ⟨rfl, by (repeat' first | with_reducible assumption | with_reducible exact Below.refl _ _ | with_reducible refine Below.alloc ?_ ?_ _ | with_reducible refine Below.setCell ?_ ?_ _ | with_reducible refine below_drewN ?_ _ | with_reducible refine Below.drew ?_ | exact Nat.le_refl _ | ((try dsimp only); omega) | (simp only [siz_alloc, siz_set]; omega))⟩
    · have d2 : decide (x.2 < 0) = false := by simpa using h2
      rw [if_neg (by omega)]
      clear h1 h2
      by_cases h3 : i < 0
      · have d3 : decide (i < 0) = true := by simpa using h3
        rw [if_pos (.inl h3)]
        clear h3
        go_enter Tryz.func111, Tryz.ntmps111
        go_wp2_with fail
        go_ret
        exact ⟨rfl, by (repeat' first | with_reducible assumption | with_reducible exact Below.refl _ _ | with_reducible refine Below.alloc ?_ ?_ _ | with_reducible refine Below.setCell ?_ ?_ _ | with_reducible refine below_drewN ?_ _ | with_reducible refine Below.drew ?_ | exact Nat.le_refl _ | ((try dsimp only); omega) | (simp only [siz_alloc, siz_set]; omega))⟩
      · have d3 : decide (i < 0) = false := by simpa using h3
        by_cases h4 : most < i
        · have d4 : decide (most < i) = true := by simpa using h4
          rw [if_pos (.inr h4)]
          clear h3 h4
          go_enter Tryz.func111, Tryz.ntmps111
          go_wp2_with fail
          go_ret
          exact ⟨rfl, by (repeat' first | with_reducible assumption | with_reducible exact Below.refl _ _ | with_reducible refine Below.alloc ?_ ?_ _ | with_reducible refine Below.setCell ?_ ?_ _ | with_reducible refine below_drewN ?_ _ | with_reducible refine Below.drew ?_ | exact Nat.le_refl _ | ((try dsimp only); omega) | (simp only [siz_alloc, siz_set]; omega))⟩
        · have d4 : decide (most < i) = false := by simpa using h4
          rw [if_neg (by omega)]
          clear h3 h4
          go_enter Tryz.func111, Tryz.ntmps111
          go_wp2_with fail
          go_ret
          exact ⟨rfl, by (repeat' first | with_reducible assumption | with_reducible exact Below.refl _ _ | with_reducible refine Below.alloc ?_ ?_ _ | with_reducible refine Below.setCell ?_ ?_ _ | with_reducible refine below_drewN ?_ _ | with_reducible refine Below.drew ?_ | exact Nat.le_refl _ | ((try dsimp only); omega) | (simp only [siz_alloc, siz_set]; omega))⟩
variable {t : Tb}
set_option maxRecDepth 100000 in
set_option maxHeartbeats 2000000 in
theorem lIns1_none (bt bx bn bi : Nat) (x : Int × Int) (n i : Int) (d1 : (n == 0) = true) (h : Int) (w : World) (hT : LB w tb ap t O) (hC : InsC tb bt bx bn bi x n i w O) :
    Calls Tryz.prog 114 #[.int .i64 h, .pointer (some ⟨bt, 0, none⟩), .pointer (some ⟨bx, 0, none⟩), .pointer (some ⟨bn, 0, none⟩), .pointer (some ⟨bi, 0, none⟩)] w fun e w' => e = .returned (.int .i64 (t.item x).1) ∧ DidL tb ap (t.item x).2 O w w' := by
  have ct := cells_of hC.ct; have cx := cells_of hC.cx; have cn := cells_of hC.cn; have ci := cells_of hC.ci
  have HC := Lib.hid hC; clear hC
  go_enter Tryz.func114, Tryz.ntmps114
  have hA := hT.hA
  have kt := hT.blk
  have o_kt := hT.no
  obtain ⟨c_kt, f_kt, l_kt_w⟩ := f3 kt
  go_wp2_with fail
  refine calls_gen fun V hV_V => ?_
  replace kt := kK hV_V kt
  have hF : Fr ((oneX tb)) O O w V := nF hV_V
  replace hA : AP V ap t.s O := nA hV_V
  have z_V := zS hV_V
  clear hV_V c_kt f_kt
  obtain ⟨c_kt, f_kt, l_kt_V⟩ := f3 kt
  clear ct cx cn ci
  have hC := InsC.keepC _ _ _ _ _ _ _ _ _ _ _ _ HC.out hF
  have ct := cells_of hC.ct; have cx := cells_of hC.cx; have cn := cells_of hC.cn; have ci := cells_of hC.ci
  have HC2 := Lib.hid hC; clear hC
  refine (lItem_calls (t := t) x _ ⟨hA, kt, o_kt⟩).mono ?_
  rintro e_W1 W1 ⟨rfl, O1, hT_W1, hf_W1⟩
  clear kt c_kt f_kt o_kt; have kt := hT_W1.blk; have o_kt := hT_W1.no
  obtain ⟨c_kt, f_kt, l_kt_W1⟩ := f3 kt
  replace hF := hF.trans hf_W1
  have z_W1 := hf_W1.size
  clear hA hf_W1; have hA := hT_W1.hA; clear hT_W1
  clear ct cx cn ci
  have hC := InsC.keepC _ _ _ _ _ _ _ _ _ _ _ _ HC.out hF
  have ct := cells_of hC.ct; have cx := cells_of hC.cx; have cn := cells_of hC.cn; have ci := cells_of hC.ci
  clear hC
  go_wp2_with fail
  go_ret
  exact ⟨rfl, O1, ⟨hA, kt, o_kt⟩, hF⟩
set_option maxRecDepth 100000 in
set_option maxHeartbeats 2000000 in
theorem lIns1_last (bt bx bn bi : Nat) (x : Int × Int) (n i : Int) (d1 : (n == 0) = false) (d2 : (i == n) = true) (h : Int) (r : Int × Tb) (hr : ((t.item x).2.keep h).join h (t.item x).1 = some r) (w : World) (hT : LB w tb ap t O) (hC : InsC tb bt bx bn bi x n i w O) :
    Calls Tryz.prog 114 #[.int .i64 h, .pointer (some ⟨bt, 0, none⟩), .pointer (some ⟨bx, 0, none⟩), .pointer (some ⟨bn, 0, none⟩), .pointer (some ⟨bi, 0, none⟩)] w fun e w' => e = .returned (.int .i64 r.1) ∧ DidL tb ap r.2 O w w' := by
  have Hr := Lib.hid hr; clear hr
  have ct := cells_of hC.ct; have cx := cells_of hC.cx; have cn := cells_of hC.cn; have ci := cells_of hC.ci
  have HC := Lib.hid hC; clear hC
  go_enter Tryz.func114, Tryz.ntmps114
  have hA := hT.hA
  have kt := hT.blk
  have o_kt := hT.no
  obtain ⟨c_kt, f_kt, l_kt_w⟩ := f3 kt
  go_wp2_with fail
  refine calls_gen fun V hV_V => ?_
  replace kt := kK hV_V kt
  have hF : Fr ((oneX tb)) O O w V := nF hV_V
  replace hA : AP V ap t.s O := nA hV_V
  have z_V := zS hV_V
  clear hV_V c_kt f_kt
  obtain ⟨c_kt, f_kt, l_kt_V⟩ := f3 kt
  clear ct cx cn ci
  refine (lItem_calls (t := t) x _ ⟨hA, kt, o_kt⟩).mono ?_
  rintro e_W1 W1 ⟨rfl, O1, hT_W1, hf_W1⟩
  clear kt c_kt f_kt o_kt; have kt := hT_W1.blk; have o_kt := hT_W1.no
  obtain ⟨c_kt, f_kt, l_kt_W1⟩ := f3 kt
  replace hF := hF.trans hf_W1
  have z_W1 := hf_W1.size
  clear hA hf_W1; have hA := hT_W1.hA; clear hT_W1
  have hC := InsC.keepC _ _ _ _ _ _ _ _ _ _ _ _ HC.out hF
  have kb := hC.ct
  have o_kb := hC.ot
  have e_kb := hC.nt
  have ct := cells_of hC.ct; have cx := cells_of hC.cx; have cn := cells_of hC.cn; have ci := cells_of hC.ci
  clear hC
  obtain ⟨c_kb, f_kb, l_kb_W1⟩ := f3 kb
  go_wp2_with fail
  refine wp_gen fun V2 hV_V2 => ?_
  replace kt := kK hV_V2 kt
  replace kb := kK hV_V2 kb
  replace hF : Fr ((oneX tb)) O O1 w V2 := nF hV_V2
  replace hA : AP V2 ap ((t.item x).2).s O1 := nA hV_V2
  have z_V2 := zS hV_V2
  clear hV_V2 c_kt f_kt c_kb f_kb
  obtain ⟨c_kt, f_kt, l_kt_V2⟩ := f3 kt
  obtain ⟨c_kb, f_kb, l_kb_V2⟩ := f3 kb
  clear ct cx cn ci
  refine wp_region_noPanic ?_
  refine wp_region_held_drew (S := fun v => (v.cell? ⟨tb, 0, none⟩ = V2.cell? ⟨tb, 0, none⟩) ∧ (∀ o, v.cell? ⟨bt, o, none⟩ = V2.cell? ⟨bt, o, none⟩) ∧ (V2.heap.size ≤ v.heap.size) ∧ True) (by kernel_rfl) ⟨rfl, (fun _ => rfl), (Nat.le_refl _), trivial⟩ (fun hHeld => ?_)
  generalize hV_V2d : V2.drew = V2d at hHeld ⊢
  have d_kt := dK hV_V2d kt
  have d_kb := dK hV_V2d kb
  clear c_kt f_kt c_kb f_kb
  replace hA := hA.drew; rw [hV_V2d] at hA
  replace hF := hF.drew; rw [hV_V2d] at hF
  have z_V2d := dZ hV_V2d
  have v_kt := cells_of kt
  have v_kb := cells_of kb
  clear kt; have kt := d_kt; clear d_kt
  clear kb; have kb := d_kb; clear d_kb
  obtain ⟨c_kt, f_kt, l_kt_V2d⟩ := f3 kt
  obtain ⟨c_kb, f_kb, l_kb_V2d⟩ := f3 kb
  clear hV_V2d
  refine tz 0 rfl hHeld ?_
  try simp only [PT]
  refine tz 1 rfl hHeld ?_
  try simp only [PT]
  refine tz 2 rfl hHeld ?_
  try simp only [PT]
  refine tz 4 rfl hHeld ?_
  try simp only [PT]
  refine rd 3 rfl fun K hK => ?_
  go_simp
  try simp only [IntWalk.i64_left]
  refine (lKeep_calls (t := (t.item x).2) h _ ⟨hA, kt, o_kt⟩).mono ?_
  rintro e_W2 W2 ⟨rfl, O2, hT_W2, hf_W2⟩
  have q_kb := hf_W2.keep kb o_kb (by unfold oneX; omega)
  replace o_kb := hf_W2.not_own (lt_of kb) o_kb
  clear kb; have kb := q_kb; clear q_kb
  obtain ⟨c_kb, f_kb, l_kb_W2⟩ := f3 kb
  clear kt c_kt f_kt o_kt; have kt := hT_W2.blk; have o_kt := hT_W2.no
  obtain ⟨c_kt, f_kt, l_kt_W2⟩ := f3 kt
  replace hF := hF.trans hf_W2
  have z_W2 := hf_W2.size
  clear hA hf_W2; have hA := hT_W2.hA; clear hT_W2
  refine hK.out _ _ ⟨((c_kt 0).trans (v_kt 0).symm), (fun o => (c_kb o).trans (v_kb o).symm), (by omega), trivial⟩ (fun hHeld => ?_)
  clear hK K
  try simp only [PT]
  refine rd 5 rfl fun K hK => ?_
  go_simp
  try simp only [IntWalk.i64_left]
  refine (lJoin_calls (t := (t.item x).2.keep h) _ _ _ Hr.out _ ⟨hA, kt, o_kt⟩).mono ?_
  rintro e_W3 W3 ⟨rfl, O3, hT_W3, hf_W3⟩
  have q_kb := hf_W3.keep kb o_kb (by unfold oneX; omega)
  replace o_kb := hf_W3.not_own (lt_of kb) o_kb
  clear kb; have kb := q_kb; clear q_kb
  obtain ⟨c_kb, f_kb, l_kb_W3⟩ := f3 kb
  clear kt c_kt f_kt o_kt; have kt := hT_W3.blk; have o_kt := hT_W3.no
  obtain ⟨c_kt, f_kt, l_kt_W3⟩ := f3 kt
  replace hF := hF.trans hf_W3
  have z_W3 := hf_W3.size
  clear hA hf_W3; have hA := hT_W3.hA; clear hT_W3
  refine hK.out _ _ ⟨((c_kt 0).trans (v_kt 0).symm), (fun o => (c_kb o).trans (v_kb o).symm), (by omega), trivial⟩ (fun hHeld => ?_)
  clear hK K
  try simp only [PT]
  refine rd 6 rfl fun K hK => ?_
  go_simp
  refine hK.out _ _ hHeld (fun hHeld => ?_)
  clear hK K
  try simp only [PT]
  refine wpAnyH_done (by kernel_rfl) ?_ _
  refine NoPanic.normal ?_
  go_wp2_with fail
  go_ret
  exact ⟨rfl, O3, ⟨hA, kt, o_kt⟩, hF⟩
set_option maxRecDepth 100000 in
set_option maxHeartbeats 2000000 in
theorem lIns1_ahead (bt bx bn bi : Nat) (x : Int × Int) (n i : Int) (d1 : (n == 0) = false) (d2 : (i == n) = false) (h : Int) (r : Int × Tb) (hr : ((t.item x).2.keep h).join (t.item x).1 h = some r) (w : World) (hT : LB w tb ap t O) (hC : InsC tb bt bx bn bi x n i w O) :
    Calls Tryz.prog 114 #[.int .i64 h, .pointer (some ⟨bt, 0, none⟩), .pointer (some ⟨bx, 0, none⟩), .pointer (some ⟨bn, 0, none⟩), .pointer (some ⟨bi, 0, none⟩)] w fun e w' => e = .returned (.int .i64 r.1) ∧ DidL tb ap r.2 O w w' := by
  have Hr := Lib.hid hr; clear hr
  have ct := cells_of hC.ct; have cx := cells_of hC.cx; have cn := cells_of hC.cn; have ci := cells_of hC.ci
  have HC := Lib.hid hC; clear hC
  go_enter Tryz.func114, Tryz.ntmps114
  have hA := hT.hA
  have kt := hT.blk
  have o_kt := hT.no
  obtain ⟨c_kt, f_kt, l_kt_w⟩ := f3 kt
  go_wp2_with fail
  refine calls_gen fun V hV_V => ?_
  replace kt := kK hV_V kt
  have hF : Fr ((oneX tb)) O O w V := nF hV_V
  replace hA : AP V ap t.s O := nA hV_V
  have z_V := zS hV_V
  clear hV_V c_kt f_kt
  obtain ⟨c_kt, f_kt, l_kt_V⟩ := f3 kt
  clear ct cx cn ci
  refine (lItem_calls (t := t) x _ ⟨hA, kt, o_kt⟩).mono ?_
  rintro e_W1 W1 ⟨rfl, O1, hT_W1, hf_W1⟩
  clear kt c_kt f_kt o_kt; have kt := hT_W1.blk; have o_kt := hT_W1.no
  obtain ⟨c_kt, f_kt, l_kt_W1⟩ := f3 kt
  replace hF := hF.trans hf_W1
  have z_W1 := hf_W1.size
  clear hA hf_W1; have hA := hT_W1.hA; clear hT_W1
  have hC := InsC.keepC _ _ _ _ _ _ _ _ _ _ _ _ HC.out hF
  have kb := hC.ct
  have o_kb := hC.ot
  have e_kb := hC.nt
  have ct := cells_of hC.ct; have cx := cells_of hC.cx; have cn := cells_of hC.cn; have ci := cells_of hC.ci
  clear hC
  obtain ⟨c_kb, f_kb, l_kb_W1⟩ := f3 kb
  go_wp2_with fail
  refine wp_gen fun V2 hV_V2 => ?_
  replace kt := kK hV_V2 kt
  replace kb := kK hV_V2 kb
  replace hF : Fr ((oneX tb)) O O1 w V2 := nF hV_V2
  replace hA : AP V2 ap ((t.item x).2).s O1 := nA hV_V2
  have z_V2 := zS hV_V2
  clear hV_V2 c_kt f_kt c_kb f_kb
  obtain ⟨c_kt, f_kt, l_kt_V2⟩ := f3 kt
  obtain ⟨c_kb, f_kb, l_kb_V2⟩ := f3 kb
  clear ct cx cn ci
  refine wp_region_noPanic ?_
  refine wp_region_held_drew (S := fun v => (v.cell? ⟨tb, 0, none⟩ = V2.cell? ⟨tb, 0, none⟩) ∧ (∀ o, v.cell? ⟨bt, o, none⟩ = V2.cell? ⟨bt, o, none⟩) ∧ (V2.heap.size ≤ v.heap.size) ∧ True) (by kernel_rfl) ⟨rfl, (fun _ => rfl), (Nat.le_refl _), trivial⟩ (fun hHeld => ?_)
  generalize hV_V2d : V2.drew = V2d at hHeld ⊢
  have d_kt := dK hV_V2d kt
  have d_kb := dK hV_V2d kb
  clear c_kt f_kt c_kb f_kb
  replace hA := hA.drew; rw [hV_V2d] at hA
  replace hF := hF.drew; rw [hV_V2d] at hF
  have z_V2d := dZ hV_V2d
  have v_kt := cells_of kt
  have v_kb := cells_of kb
  clear kt; have kt := d_kt; clear d_kt
  clear kb; have kb := d_kb; clear d_kb
  obtain ⟨c_kt, f_kt, l_kt_V2d⟩ := f3 kt
  obtain ⟨c_kb, f_kb, l_kb_V2d⟩ := f3 kb
  clear hV_V2d
  refine tz 0 rfl hHeld ?_
  try simp only [PT]
  refine tz 1 rfl hHeld ?_
  try simp only [PT]
  refine tz 2 rfl hHeld ?_
  try simp only [PT]
  refine tz 3 rfl hHeld ?_
  try simp only [PT]
  refine rd 4 rfl fun K hK => ?_
  go_simp
  try simp only [IntWalk.i64_left]
  refine (lKeep_calls (t := (t.item x).2) h _ ⟨hA, kt, o_kt⟩).mono ?_
  rintro e_W2 W2 ⟨rfl, O2, hT_W2, hf_W2⟩
  have q_kb := hf_W2.keep kb o_kb (by unfold oneX; omega)
  replace o_kb := hf_W2.not_own (lt_of kb) o_kb
  clear kb; have kb := q_kb; clear q_kb
  obtain ⟨c_kb, f_kb, l_kb_W2⟩ := f3 kb
  clear kt c_kt f_kt o_kt; have kt := hT_W2.blk; have o_kt := hT_W2.no
  obtain ⟨c_kt, f_kt, l_kt_W2⟩ := f3 kt
  replace hF := hF.trans hf_W2
  have z_W2 := hf_W2.size
  clear hA hf_W2; have hA := hT_W2.hA; clear hT_W2
  refine hK.out _ _ ⟨((c_kt 0).trans (v_kt 0).symm), (fun o => (c_kb o).trans (v_kb o).symm), (by omega), trivial⟩ (fun hHeld => ?_)
  clear hK K
  try simp only [PT]
  refine rd 5 rfl fun K hK => ?_
  go_simp
  try simp only [IntWalk.i64_left]
  refine (lJoin_calls (t := (t.item x).2.keep h) _ _ _ Hr.out _ ⟨hA, kt, o_kt⟩).mono ?_
  rintro e_W3 W3 ⟨rfl, O3, hT_W3, hf_W3⟩
  have q_kb := hf_W3.keep kb o_kb (by unfold oneX; omega)
  replace o_kb := hf_W3.not_own (lt_of kb) o_kb
  clear kb; have kb := q_kb; clear q_kb
  obtain ⟨c_kb, f_kb, l_kb_W3⟩ := f3 kb
  clear kt c_kt f_kt o_kt; have kt := hT_W3.blk; have o_kt := hT_W3.no
  obtain ⟨c_kt, f_kt, l_kt_W3⟩ := f3 kt
  replace hF := hF.trans hf_W3
  have z_W3 := hf_W3.size
  clear hA hf_W3; have hA := hT_W3.hA; clear hT_W3
  refine hK.out _ _ ⟨((c_kt 0).trans (v_kt 0).symm), (fun o => (c_kb o).trans (v_kb o).symm), (by omega), trivial⟩ (fun hHeld => ?_)
  clear hK K
  try simp only [PT]
  refine rd 6 rfl fun K hK => ?_
  go_simp
  refine hK.out _ _ hHeld (fun hHeld => ?_)
  clear hK K
  try simp only [PT]
  refine wpAnyH_done (by kernel_rfl) ?_ _
  refine NoPanic.normal ?_
  go_wp2_with fail
  go_ret
  exact ⟨rfl, O3, ⟨hA, kt, o_kt⟩, hF⟩
theorem minmax2 (i m : Int) {P : Prop} (h1 : (m < 0) = True → (0 < i) = True → imin i (imax m 0) = 0 → P) (h2 : (m < 0) = True → (0 < i) = False → imin i (imax m 0) = i → P) (h3 : (m < 0) = False → (m < i) = True → imin i (imax m 0) = m → P) (h4 : (m < 0) = False → (m < i) = False → imin i (imax m 0) = i → P) : P := by
  by_cases c1 : m < 0
  · by_cases c2 : 0 < i
    · exact h1 (eq_true c1) (eq_true c2) (by unfold imin imax; split <;> split <;> omega)
    · exact h2 (eq_true c1) (eq_false c2) (by unfold imin imax; split <;> split <;> omega)
  · by_cases c2 : m < i
    · exact h3 (eq_false c1) (eq_true c2) (by unfold imin imax; split <;> split <;> omega)
    · exact h4 (eq_false c1) (eq_false c2) (by unfold imin imax; split <;> split <;> omega)
theorem lIns1_calls (tb bt bx bn bi : Nat) (x : Int × Int) (n i : Int) : OneC tb ap (InsC tb bt bx bn bi x n i) 114 #[.pointer (some ⟨bt, 0, none⟩), .pointer (some ⟨bx, 0, none⟩), .pointer (some ⟨bn, 0, none⟩), .pointer (some ⟨bi, 0, none⟩)] (lInsOne n i x) := by
  intro t O h r w hr hT hC
  show Calls Tryz.prog _ #[.int .i64 h, .pointer (some ⟨bt, 0, none⟩), .pointer (some ⟨bx, 0, none⟩), .pointer (some ⟨bn, 0, none⟩), .pointer (some ⟨bi, 0, none⟩)] _ _
  unfold lInsOne at hr
  dsimp only at hr
  by_cases h1 : n = 0
  · rw [if_pos h1] at hr
    obtain rfl := Option.some.inj hr
    exact lIns1_none bt bx bn bi x n i (by simpa using h1) h w hT hC
  · rw [if_neg h1] at hr
    by_cases h2 : i = n
    · rw [if_pos h2] at hr
      exact lIns1_last bt bx bn bi x n i (by simpa using h1) (by simpa using h2) h r hr w hT hC
    · rw [if_neg h2] at hr
      exact lIns1_ahead bt bx bn bi x n i (by simpa using h1) (by simpa using h2) h r hr w hT hC
theorem told_s (u : Int × Tb) : (Tb.told u).2.2 = u.2.s := by unfold Tb.told; split <;> rfl
theorem lIns1_fun (args : Array Value) (w : World) : (callFunc 114 args).run Tryz.prog w = .ok (.enter 114 args) w := by kernel_rfl
set_option maxRecDepth 100000 in
set_option maxHeartbeats 2000000 in
theorem lInsert_calls (h i : Int) (x : Int × Int) (r : Int × Int × Ar) (hr : lInsert s h i x = some r) (w : World) (hA : AP w ap s O) :
    Calls Tryz.prog 62 #[ap, .int .i64 h, .int .i64 i, .agg #[.int .i64 x.1, .int .i64 x.2]] w fun e w' => e = .returned (.tuple #[.int .i64 r.1, .int .i64 r.2.1]) ∧ Did noX ap r.2.2 O w w' := by
  obtain ⟨q, rfl⟩ := hA.ptr
  unfold lInsert at hr
  by_cases h1 : lMay x i (lLen s h) = 0
  · have d1 : (lMay x i (lLen s h) != 0) = false := by simp [h1]
    rw [if_pos h1] at hr
    obtain ⟨u, hu, rfl⟩ := Option.map_eq_some_iff.1 hr
    clear hr h1
    obtain ⟨m, hm⟩ : ∃ m, m = wrap64 (lLen s h - 1) := ⟨_, rfl⟩
    rw [← hm] at hu
    refine minmax2 i m ?_ ?_ ?_ ?_ <;> intro c1 c2 hmm <;> rw [hmm] at hu <;> clear hmm <;> subst hm
    all_goals
      have Hu := Lib.hid hu; clear hu
      go_enter Tryz.func62, Tryz.ntmps62
      go_wp2_with fail
      refine calls_gen fun V hV_V => ?_
      have n_ki := hbk hV_V (w.heap.size)
      simp (maxDischargeDepth := 9) only [BK, not_false_eq_true, reduceCtorEq] at n_ki
      have n_kx := hbk hV_V (w.heap.size + 1)
      simp (maxDischargeDepth := 9) only [BK, not_false_eq_true, reduceCtorEq] at n_kx
      have o_ki : ¬ O (w.heap.size) := by first | exact hA.new (Nat.le_refl _) | exact hA.new (by omega)
      have o_kx : ¬ O (w.heap.size + 1) := by first | exact hA.new (Nat.le_refl _) | exact hA.new (by omega)
      have hF : Fr (noX) O O w V := nF hV_V
      replace hA : AP V (.pointer q) s O := nA hV_V
      have z_V := zS hV_V
      clear hV_V
      have ki := n_ki; clear n_ki
      obtain ⟨c_ki, f_ki, l_ki_V⟩ := f3 ki
      have kx := n_kx; clear n_kx
      obtain ⟨c_kx, f_kx, l_kx_V⟩ := f3 kx
      refine (lLen_calls _ _ hA).mono ?_
      rintro e_W1 W1 ⟨rfl, hb_W1⟩
      replace hA := hA.below hb_W1
      replace hF := hF.below hb_W1
      replace ki := keep_blk hb_W1 ki
      replace kx := keep_blk hb_W1 kx
      have z_W1 := hb_W1.size
      clear hb_W1 c_ki f_ki c_kx f_kx
      obtain ⟨c_ki, f_ki, l_ki_W1⟩ := f3 ki
      obtain ⟨c_kx, f_kx, l_kx_W1⟩ := f3 kx
      go_wp2_with fail
      refine calls_gen fun V1 hV_V1 => ?_
      have n_kn := hbk hV_V1 (W1.heap.size)
      simp (maxDischargeDepth := 9) only [BK, not_false_eq_true, reduceCtorEq, ki, kx, l_ki_V, l_kx_V, l_ki_W1, l_kx_W1] at n_kn
      have o_kn : ¬ O (W1.heap.size) := by first | exact hA.new (Nat.le_refl _) | exact hA.new (by omega)
      replace ki := kK hV_V1 ki
      replace kx := kK hV_V1 kx
      replace hF : Fr (noX) O O w V1 := nF hV_V1
      replace hA : AP V1 (.pointer q) s O := nA hV_V1
      have z_V1 := zS hV_V1
      clear hV_V1 c_ki f_ki c_kx f_kx
      obtain ⟨c_ki, f_ki, l_ki_V1⟩ := f3 ki
      obtain ⟨c_kx, f_kx, l_kx_V1⟩ := f3 kx
      have kn := n_kn; clear n_kn
      obtain ⟨c_kn, f_kn, l_kn_V1⟩ := f3 kn
      refine (lMay_calls x i (lLen s h) _).mono ?_
      rintro e_W2 W2 ⟨rfl, hb_W2⟩
      replace hA := hA.below hb_W2
      replace hF := hF.below hb_W2
      replace ki := keep_blk hb_W2 ki
      replace kx := keep_blk hb_W2 kx
      replace kn := keep_blk hb_W2 kn
      have z_W2 := hb_W2.size
      clear hb_W2 c_ki f_ki c_kx f_kx c_kn f_kn
      obtain ⟨c_ki, f_ki, l_ki_W2⟩ := f3 ki
      obtain ⟨c_kx, f_kx, l_kx_W2⟩ := f3 kx
      obtain ⟨c_kn, f_kn, l_kn_W2⟩ := f3 kn
      go_wp2_with fail
      refine wp_gen fun V2 hV_V2 => ?_
      have n_kt := hbk hV_V2 (W2.heap.size)
      simp (maxDischargeDepth := 9) only [BK, not_false_eq_true, reduceCtorEq, ki, kx, kn, l_ki_V, l_kx_V, l_ki_W1, l_kx_W1, l_ki_V1, l_kx_V1, l_kn_V1, l_ki_W2, l_kx_W2, l_kn_W2] at n_kt
      have n_kb := hbk hV_V2 (W2.heap.size + 1)
      simp (maxDischargeDepth := 9) only [BK, not_false_eq_true, reduceCtorEq, ki, kx, kn, l_ki_V, l_kx_V, l_ki_W1, l_kx_W1, l_ki_V1, l_kx_V1, l_kn_V1, l_ki_W2, l_kx_W2, l_kn_W2] at n_kb
      have o_kt : ¬ O (W2.heap.size) := by first | exact hA.new (Nat.le_refl _) | exact hA.new (by omega)
      have o_kb : ¬ O (W2.heap.size + 1) := by first | exact hA.new (Nat.le_refl _) | exact hA.new (by omega)
      replace ki := kK hV_V2 ki
      replace kx := kK hV_V2 kx
      replace kn := kK hV_V2 kn
      replace hF : Fr (noX) O O w V2 := nF hV_V2
      replace hA : AP V2 (.pointer q) s O := nA hV_V2
      have z_V2 := zS hV_V2
      clear hV_V2 c_ki f_ki c_kx f_kx c_kn f_kn
      obtain ⟨c_ki, f_ki, l_ki_V2⟩ := f3 ki
      obtain ⟨c_kx, f_kx, l_kx_V2⟩ := f3 kx
      obtain ⟨c_kn, f_kn, l_kn_V2⟩ := f3 kn
      have kt := n_kt; clear n_kt
      obtain ⟨c_kt, f_kt, l_kt_V2⟩ := f3 kt
      have kb := n_kb; clear n_kb
      obtain ⟨c_kb, f_kb, l_kb_V2⟩ := f3 kb
      refine wp_region_noPanic ?_
      refine wp_region_held_drew (S := fun v => (∀ o, v.cell? ⟨w.heap.size, o, none⟩ = V2.cell? ⟨w.heap.size, o, none⟩) ∧ (∀ o, v.cell? ⟨w.heap.size + 1, o, none⟩ = V2.cell? ⟨w.heap.size + 1, o, none⟩) ∧ (∀ o, v.cell? ⟨W1.heap.size, o, none⟩ = V2.cell? ⟨W1.heap.size, o, none⟩) ∧ (v.cell? ⟨W2.heap.size, 0, none⟩ = V2.cell? ⟨W2.heap.size, 0, none⟩) ∧ (∀ o, v.cell? ⟨W2.heap.size + 1, o, none⟩ = V2.cell? ⟨W2.heap.size + 1, o, none⟩) ∧ (V2.heap.size ≤ v.heap.size) ∧ True) (by kernel_rfl) ⟨(fun _ => rfl), (fun _ => rfl), (fun _ => rfl), rfl, (fun _ => rfl), (Nat.le_refl _), trivial⟩ (fun hHeld => ?_)
      generalize hV_V2d : V2.drew = V2d at hHeld ⊢
      have d_ki := dK hV_V2d ki
      have d_kx := dK hV_V2d kx
      have d_kn := dK hV_V2d kn
      have d_kt := dK hV_V2d kt
      have d_kb := dK hV_V2d kb
      clear c_ki f_ki c_kx f_kx c_kn f_kn c_kt f_kt c_kb f_kb
      replace hA := hA.drew; rw [hV_V2d] at hA
      replace hF := hF.drew; rw [hV_V2d] at hF
      have z_V2d := dZ hV_V2d
      have v_ki := cells_of ki
      have v_kx := cells_of kx
      have v_kn := cells_of kn
      have v_kt := cells_of kt
      have v_kb := cells_of kb
      clear ki; have ki := d_ki; clear d_ki
      clear kx; have kx := d_kx; clear d_kx
      clear kn; have kn := d_kn; clear d_kn
      clear kt; have kt := d_kt; clear d_kt
      clear kb; have kb := d_kb; clear d_kb
      obtain ⟨c_ki, f_ki, l_ki_V2d⟩ := f3 ki
      obtain ⟨c_kx, f_kx, l_kx_V2d⟩ := f3 kx
      obtain ⟨c_kn, f_kn, l_kn_V2d⟩ := f3 kn
      obtain ⟨c_kt, f_kt, l_kt_V2d⟩ := f3 kt
      obtain ⟨c_kb, f_kb, l_kb_V2d⟩ := f3 kb
      clear hV_V2d
      refine tz 0 rfl hHeld ?_
      try simp only [PT]
      refine tz 1 rfl hHeld ?_
      try simp only [PT]
      refine tz 2 rfl hHeld ?_
      try simp only [PT]
      refine tz 3 rfl hHeld ?_
      try simp only [PT]
      refine tz 4 rfl hHeld ?_
      try simp only [PT]
      refine tz 5 rfl hHeld ?_
      try simp only [PT]
      refine tz 6 rfl hHeld ?_
      try simp only [PT]
      refine tz 7 rfl hHeld ?_
      try simp only [PT]
      refine tz 8 rfl hHeld ?_
      try simp only [PT]
      refine rd 9 rfl fun K hK => ?_
      go_simp
      try simp only [IntWalk.i64_left]
      refine (lChange_calls lIns1_fun (Lib.hid (InsC.keepC W2.heap.size (W2.heap.size + 1) (w.heap.size + 1) W1.heap.size w.heap.size x (lLen s h) i)) (Lib.hid (lIns1_calls W2.heap.size (W2.heap.size + 1) (w.heap.size + 1) W1.heap.size w.heap.size x (lLen s h) i)) rounds ⟨s, 0⟩ _ _ _ u _ Hu.out ⟨hA, kt, o_kt⟩ ⟨kb, kx, kn, ki, o_kb, o_kx, o_kn, o_ki, by omega, by omega, by omega, by omega⟩).mono ?_
      rintro e_W3 W3 ⟨rfl, O1, hT_W3, hf_W3⟩
      have q_ki := hf_W3.keep ki o_ki (by unfold oneX; omega)
      have q_kx := hf_W3.keep kx o_kx (by unfold oneX; omega)
      have q_kn := hf_W3.keep kn o_kn (by unfold oneX; omega)
      have q_kb := hf_W3.keep kb o_kb (by unfold oneX; omega)
      replace o_ki := hf_W3.not_own (lt_of ki) o_ki
      clear ki; have ki := q_ki; clear q_ki
      obtain ⟨c_ki, f_ki, l_ki_W3⟩ := f3 ki
      replace o_kx := hf_W3.not_own (lt_of kx) o_kx
      clear kx; have kx := q_kx; clear q_kx
      obtain ⟨c_kx, f_kx, l_kx_W3⟩ := f3 kx
      replace o_kn := hf_W3.not_own (lt_of kn) o_kn
      clear kn; have kn := q_kn; clear q_kn
      obtain ⟨c_kn, f_kn, l_kn_W3⟩ := f3 kn
      replace o_kb := hf_W3.not_own (lt_of kb) o_kb
      clear kb; have kb := q_kb; clear q_kb
      obtain ⟨c_kb, f_kb, l_kb_W3⟩ := f3 kb
      clear kt c_kt f_kt o_kt; have kt := hT_W3.blk; have o_kt := hT_W3.no
      obtain ⟨c_kt, f_kt, l_kt_W3⟩ := f3 kt
      replace hF := hF.trans_new hf_W3 (by omega)
      have z_W3 := hf_W3.size
      clear hA hf_W3; have hA := hT_W3.hA; clear hT_W3
      refine hK.out _ _ ⟨(fun o => (c_ki o).trans (v_ki o).symm), (fun o => (c_kx o).trans (v_kx o).symm), (fun o => (c_kn o).trans (v_kn o).symm), ((c_kt 0).trans (v_kt 0).symm), (fun o => (c_kb o).trans (v_kb o).symm), (by omega), trivial⟩ (fun hHeld => ?_)
      clear hK K
      try simp only [PT]
      refine rd 10 rfl fun K hK => ?_
      go_simp
      try simp only [IntWalk.i64_left]
      refine (lTold_calls (t := u.2) u.1 _ ⟨hA, kt, o_kt⟩).mono ?_
      rintro e_W4 W4 ⟨rfl, O2, hT_W4, hf_W4⟩
      have q_ki := hf_W4.keep ki o_ki (by unfold oneX; omega)
      have q_kx := hf_W4.keep kx o_kx (by unfold oneX; omega)
      have q_kn := hf_W4.keep kn o_kn (by unfold oneX; omega)
      have q_kb := hf_W4.keep kb o_kb (by unfold oneX; omega)
      replace o_ki := hf_W4.not_own (lt_of ki) o_ki
      clear ki; have ki := q_ki; clear q_ki
      obtain ⟨c_ki, f_ki, l_ki_W4⟩ := f3 ki
      replace o_kx := hf_W4.not_own (lt_of kx) o_kx
      clear kx; have kx := q_kx; clear q_kx
      obtain ⟨c_kx, f_kx, l_kx_W4⟩ := f3 kx
      replace o_kn := hf_W4.not_own (lt_of kn) o_kn
      clear kn; have kn := q_kn; clear q_kn
      obtain ⟨c_kn, f_kn, l_kn_W4⟩ := f3 kn
      replace o_kb := hf_W4.not_own (lt_of kb) o_kb
      clear kb; have kb := q_kb; clear q_kb
      obtain ⟨c_kb, f_kb, l_kb_W4⟩ := f3 kb
      clear kt c_kt f_kt o_kt; have kt := hT_W4.blk; have o_kt := hT_W4.no
      obtain ⟨c_kt, f_kt, l_kt_W4⟩ := f3 kt
      replace hF := hF.trans_new hf_W4 (by omega)
      have z_W4 := hf_W4.size
      clear hA hf_W4; have hA := hT_W4.hA; clear hT_W4
      refine hK.out _ _ ⟨(fun o => (c_ki o).trans (v_ki o).symm), (fun o => (c_kx o).trans (v_kx o).symm), (fun o => (c_kn o).trans (v_kn o).symm), ((c_kt 0).trans (v_kt 0).symm), (fun o => (c_kb o).trans (v_kb o).symm), (by omega), trivial⟩ (fun hHeld => ?_)
      clear hK K
      try simp only [PT]
      refine tz 11 rfl hHeld ?_
      try simp only [PT]
      refine tz 12 rfl hHeld ?_
      try simp only [PT]
      refine rd 13 rfl fun K hK => ?_
      go_simp
      refine hK.out _ _ hHeld (fun hHeld => ?_)
      clear hK K
      try simp only [PT]
      refine rd 14 rfl fun K hK => ?_
      go_simp
      refine hK.out _ _ hHeld (fun hHeld => ?_)
      clear hK K
      try simp only [PT]
      refine wpAnyH_done (by kernel_rfl) ?_ _
      refine NoPanic.normal ?_
      go_wp2_with fail
      go_ret2
      refine ⟨rfl, O2, ?_, hF⟩
      rw [told_s]; exact hA
  · have d1 : (lMay x i (lLen s h) != 0) = true := by simp [h1]
    rw [if_neg h1] at hr
    obtain rfl := Option.some.inj hr
    clear hr h1
    go_enter Tryz.func62, Tryz.ntmps62
    go_wp2_with fail
    refine calls_gen fun V hV_V => ?_
    have n_ki := hbk hV_V (w.heap.size)
    simp (maxDischargeDepth := 9) only [BK, not_false_eq_true, reduceCtorEq] at n_ki
    have n_kx := hbk hV_V (w.heap.size + 1)
    simp (maxDischargeDepth := 9) only [BK, not_false_eq_true, reduceCtorEq] at n_kx
    have o_ki : ¬ O (w.heap.size) := by first | exact hA.new (Nat.le_refl _) | exact hA.new (by omega)
    have o_kx : ¬ O (w.heap.size + 1) := by first | exact hA.new (Nat.le_refl _) | exact hA.new (by omega)
    have hF : Fr (noX) O O w V := nF hV_V
    replace hA : AP V (.pointer q) s O := nA hV_V
    have z_V := zS hV_V
    clear hV_V
    have ki := n_ki; clear n_ki
    obtain ⟨c_ki, f_ki, l_ki_V⟩ := f3 ki
    have kx := n_kx; clear n_kx
    obtain ⟨c_kx, f_kx, l_kx_V⟩ := f3 kx
    refine (lLen_calls _ _ hA).mono ?_
    rintro e_W1 W1 ⟨rfl, hb_W1⟩
    replace hA := hA.below hb_W1
    replace hF := hF.below hb_W1
    replace ki := keep_blk hb_W1 ki
    replace kx := keep_blk hb_W1 kx
    have z_W1 := hb_W1.size
    clear hb_W1 c_ki f_ki c_kx f_kx
    obtain ⟨c_ki, f_ki, l_ki_W1⟩ := f3 ki
    obtain ⟨c_kx, f_kx, l_kx_W1⟩ := f3 kx
    go_wp2_with fail
    refine calls_gen fun V1 hV_V1 => ?_
    have n_kn := hbk hV_V1 (W1.heap.size)
    simp (maxDischargeDepth := 9) only [BK, not_false_eq_true, reduceCtorEq, ki, kx, l_ki_V, l_kx_V, l_ki_W1, l_kx_W1] at n_kn
    have o_kn : ¬ O (W1.heap.size) := by first | exact hA.new (Nat.le_refl _) | exact hA.new (by omega)
    replace ki := kK hV_V1 ki
    replace kx := kK hV_V1 kx
    replace hF : Fr (noX) O O w V1 := nF hV_V1
    replace hA : AP V1 (.pointer q) s O := nA hV_V1
    have z_V1 := zS hV_V1
    clear hV_V1 c_ki f_ki c_kx f_kx
    obtain ⟨c_ki, f_ki, l_ki_V1⟩ := f3 ki
    obtain ⟨c_kx, f_kx, l_kx_V1⟩ := f3 kx
    have kn := n_kn; clear n_kn
    obtain ⟨c_kn, f_kn, l_kn_V1⟩ := f3 kn
    refine (lMay_calls x i (lLen s h) _).mono ?_
    rintro e_W2 W2 ⟨rfl, hb_W2⟩
    replace hA := hA.below hb_W2
    replace hF := hF.below hb_W2
    replace ki := keep_blk hb_W2 ki
    replace kx := keep_blk hb_W2 kx
    replace kn := keep_blk hb_W2 kn
    have z_W2 := hb_W2.size
    clear hb_W2 c_ki f_ki c_kx f_kx c_kn f_kn
    obtain ⟨c_ki, f_ki, l_ki_W2⟩ := f3 ki
    obtain ⟨c_kx, f_kx, l_kx_W2⟩ := f3 kx
    obtain ⟨c_kn, f_kn, l_kn_W2⟩ := f3 kn
    go_wp2_with fail
    go_ret2
    exact ⟨rfl, O, hA, hF⟩
end Go.Proofs.YtdjpjmkpndmhaaaGreat
/- Tables: a document's place. -/
namespace Go.Proofs.YtdjpjmkpndmhaaaGreat
set_option linter.unusedSimpArgs false
set_option linter.unusedVariables false
set_option linter.unnecessarySimpa false
open Go.RowKit
attribute [local go_sem ↓] Go.wp_at_zero Go.wp_at_succ
attribute [local go_sem] lt_s2 lt_s3 lt_s4
attribute [local go_sem] idx0 idx1 idx2 idx3
variable {ap : Value} {s : Ar} {O : Nat → Prop}
theorem tLen_calls (h : Int) (w : World) (hA : AP w ap s O) :
    Calls Tryz.prog 34 #[ap, .int .i64 h] w fun e w' => e = .returned (.int .i64 (lLen s h)) ∧ Below w.heap.size w w' := by
  go_enter Tryz.func34, Tryz.ntmps34
  go_wp2_with fail
  refine calls_gen fun V hV_V => ?_
  have hB : Below w.heap.size w V := nB hV_V
  replace hA : AP V ap s O := nA hV_V
  have z_V := zS hV_V
  clear hV_V
  refine (lLen_calls _ _ hA).mono ?_
  rintro e_W1 W1 ⟨rfl, hb_W1⟩
  replace hA := hA.below hb_W1
  replace hB := below_step hB hb_W1
  have z_W1 := hb_W1.size
  clear hb_W1
  go_wp2_with fail
  go_ret
  exact ⟨rfl, hB⟩
set_option maxRecDepth 100000 in
set_option maxHeartbeats 2000000 in
theorem tPlace_calls (h id : Int) (l : List (Int × Int)) (hr : lAll s h = some l) (hl : l.length ≤ 50000) (w : World) (hA : AP w ap s O) :
    Calls Tryz.prog 94 #[ap, .int .i64 h, .int .i64 id] w fun e w' => e = .returned (.tuple #[.int .i64 (placeIn id l 0).1, .bool (placeIn id l 0).2]) ∧ Below w.heap.size w w' := by
  have Hr := Lib.hid hr; clear hr
  obtain ⟨R, hR⟩ : ∃ R, R = placeIn id l 0 := ⟨_, rfl⟩
  rw [← hR]
  have HR := Lib.hid hR; clear hR
  go_enter Tryz.func94, Tryz.ntmps94
  go_wp2_with fail
  refine calls_gen fun V hV_V => ?_
  have hB : Below w.heap.size w V := nB hV_V
  replace hA : AP V ap s O := nA hV_V
  have z_V := zS hV_V
  clear hV_V
  refine (lAll_calls _ l Hr.out hl _ hA).mono ?_
  rintro e_W1 W1 ⟨v, rfl, hown, hb_W1⟩
  replace hA := hA.below hb_W1
  replace hB := below_step hB hb_W1
  have z_W1 := hb_W1.size
  clear hb_W1
  obtain ⟨hx1, A, cap, rfl, hx2⟩ := Rx.of_own hown
  clear hown hA
  have HB1 := Lib.hid hB; clear hB
  go_wp2_with fail
  go_loopg [14] l.length (fun k p wr => ∃ i : Nat, p = .int .i64 (i : Int) ∧ i + k = l.length ∧ Hid (placeIn id (l.drop i) i = R) ∧ Below W1.heap.size W1 wr)
  case atStart => exact ⟨0, rfl, by omega, Lib.hid HR.out.symm, Below.refl _ _⟩
  case round =>
    obtain ⟨i, rfl, hk, Hp, hB⟩ := hrel
    by_cases hlt : i < l.length
    · have d1 : decide ((i : Int) < (l.length : Int)) = true := by simpa using hlt
      obtain ⟨k, rfl⟩ : ∃ k, gk = k + 1 := ⟨gk - 1, by omega⟩
      obtain ⟨g, rfl, hg, hc⟩ := hx2 (by omega)
      obtain ⟨x, hx⟩ : ∃ x, l[i]? = some x := ⟨l[i], by simp [hlt]⟩
      have hp := Hp.out
      have hd : l.drop i = x :: l.drop (i + 1) := by rw [List.drop_eq_getElem_cons hlt]; congr 1; exact Option.some.inj ((List.getElem?_eq_getElem hlt).symm.trans hx)
      rw [hd] at hp
      unfold placeIn at hp
      have c1 : wr.cell? ⟨g, i * 2, none⟩ = some (.int .i64 x.1) := ((hB.cell (by exact hg)).trans (hc _ (by omega))).trans (itemCells_at l i x hx).1
      have c2 : wr.cell? ⟨g, i * 2 + 1, none⟩ = some (.int .i64 x.2) := ((hB.cell (by exact hg)).trans (hc _ (by omega))).trans (itemCells_at l i x hx).2
      clear hx2 hc Hp hd hx hx1
      by_cases he : x.1 = id
      · have d2 : (x.1 == id) = true := by simpa using he
        rw [if_pos he] at hp
        have Hp := Lib.hid hp; clear hp he
        go_wp2_with fail
        go_ret2
        have hb := below_step HB1.out hB
        exact ⟨by rw [← Hp.out]; rfl, hb.alloc hb.size _⟩
      · have d2 : (x.1 == id) = false := by simpa using he
        rw [if_neg he] at hp
        have Hp := Lib.hid hp; clear hp he
        go_wp2_with fail
        go_roundg k
        case measure => omega
        case rel => exact ⟨i + 1, by simp, by omega, Lib.hid (by rw [show ((i + 1 : Nat) : Int) = (i : Int) + 1 from rfl]; exact Hp.out), hB.alloc hB.size _⟩
    · have d1 : decide ((i : Int) < (l.length : Int)) = false := by simpa using hlt
      have hi : i = l.length := by omega
      have hp := Hp.out
      rw [hi, List.drop_length] at hp
      unfold placeIn at hp
      have Hp2 := Lib.hid hp; clear hp Hp
      go_wp2_with fail
      go_ret2
      exact ⟨by rw [← Hp2.out]; rfl, below_step HB1.out hB⟩
set_option maxRecDepth 100000 in
set_option maxHeartbeats 4000000 in
theorem tAdd_calls (h id len : Int) (l : List (Int × Int)) (hr : lAll s h = some l) (hl : l.length ≤ 50000) (r : Int × Int × Ar) (h2 : tAdd s h id len = some r) (w : World) (hA : AP w ap s O) :
    Calls Tryz.prog 63 #[ap, .int .i64 h, .int .i64 id, .int .i64 len] w fun e w' => e = .returned (.tuple #[.int .i64 r.1, .int .i64 r.2.1]) ∧ Did noX ap r.2.2 O w w' := by
  unfold tAdd tPlace at h2
  rw [hr] at h2
  simp only [Option.map_some, Option.bind_some] at h2
  have Hr := Lib.hid hr; clear hr
  by_cases c : id < 1 ∨ (placeIn id l 0).2 = true ∨ len < 0 ∨ 40 < len
  · rw [if_pos c] at h2
    obtain rfl := Option.some.inj h2
    clear h2
    by_cases c1 : id < 1
    · have d1 : decide (id < 1) = true := by simpa using c1
      clear c c1
      go_enter Tryz.func63, Tryz.ntmps63
      go_wp2_with fail
      refine calls_gen fun V hV_V => ?_
      have hF : Fr (noX) O O w V := nF hV_V
      replace hA : AP V ap s O := nA hV_V
      have z_V := zS hV_V
      clear hV_V
      refine (tLen_calls _ _ hA).mono ?_
      rintro e_W1 W1 ⟨rfl, hb_W1⟩
      replace hA := hA.below hb_W1
      replace hF := hF.below hb_W1
      have z_W1 := hb_W1.size
      clear hb_W1
      go_wp2_with fail
      refine calls_gen fun V1 hV_V1 => ?_
      replace hF : Fr (noX) O O w V1 := nF hV_V1
      replace hA : AP V1 ap s O := nA hV_V1
      have z_V1 := zS hV_V1
      clear hV_V1
      refine (tPlace_calls _ _ l Hr.out hl _ hA).mono ?_
      rintro e_W2 W2 ⟨rfl, hb_W2⟩
      replace hA := hA.below hb_W2
      replace hF := hF.below hb_W2
      have z_W2 := hb_W2.size
      clear hb_W2
      go_wp2_with fail
      go_ret2
      exact ⟨rfl, O, hA, hF⟩
    · have d1 : decide (id < 1) = false := by simpa using c1
      cases c2 : (placeIn id l 0).2 with
      | true =>
        clear c c1
        go_enter Tryz.func63, Tryz.ntmps63
        go_wp2_with fail
        refine calls_gen fun V hV_V => ?_
        have hF : Fr (noX) O O w V := nF hV_V
        replace hA : AP V ap s O := nA hV_V
        have z_V := zS hV_V
        clear hV_V
        refine (tLen_calls _ _ hA).mono ?_
        rintro e_W1 W1 ⟨rfl, hb_W1⟩
        replace hA := hA.below hb_W1
        replace hF := hF.below hb_W1
        have z_W1 := hb_W1.size
        clear hb_W1
        go_wp2_with fail
        refine calls_gen fun V1 hV_V1 => ?_
        replace hF : Fr (noX) O O w V1 := nF hV_V1
        replace hA : AP V1 ap s O := nA hV_V1
        have z_V1 := zS hV_V1
        clear hV_V1
        refine (tPlace_calls _ _ l Hr.out hl _ hA).mono ?_
        rintro e_W2 W2 ⟨rfl, hb_W2⟩
        replace hA := hA.below hb_W2
        replace hF := hF.below hb_W2
        have z_W2 := hb_W2.size
        clear hb_W2
        rw [c2]
        go_wp2_with fail
        go_ret2
        exact ⟨rfl, O, hA, hF⟩
      | false =>
        by_cases c3 : len < 0
        · have d3 : decide (len < 0) = true := by simpa using c3
          clear c c1 c3
          go_enter Tryz.func63, Tryz.ntmps63
          go_wp2_with fail
          refine calls_gen fun V hV_V => ?_
          have hF : Fr (noX) O O w V := nF hV_V
          replace hA : AP V ap s O := nA hV_V
          have z_V := zS hV_V
          clear hV_V
          refine (tLen_calls _ _ hA).mono ?_
          rintro e_W1 W1 ⟨rfl, hb_W1⟩
          replace hA := hA.below hb_W1
          replace hF := hF.below hb_W1
          have z_W1 := hb_W1.size
          clear hb_W1
          go_wp2_with fail
          refine calls_gen fun V1 hV_V1 => ?_
          replace hF : Fr (noX) O O w V1 := nF hV_V1
          replace hA : AP V1 ap s O := nA hV_V1
          have z_V1 := zS hV_V1
          clear hV_V1
          refine (tPlace_calls _ _ l Hr.out hl _ hA).mono ?_
          rintro e_W2 W2 ⟨rfl, hb_W2⟩
          replace hA := hA.below hb_W2
          replace hF := hF.below hb_W2
          have z_W2 := hb_W2.size
          clear hb_W2
          rw [c2]
          go_wp2_with fail
          go_ret2
          exact ⟨rfl, O, hA, hF⟩
        · have d3 : decide (len < 0) = false := by simpa using c3
          have d4 : decide (40 < len) = true := by
            rcases c with c | c | c | c
            · exact absurd c c1
            · rw [c2] at c; cases c
            · exact absurd c c3
            · simpa using c
          clear c c1 c3
          go_enter Tryz.func63, Tryz.ntmps63
          go_wp2_with fail
          refine calls_gen fun V hV_V => ?_
          have hF : Fr (noX) O O w V := nF hV_V
          replace hA : AP V ap s O := nA hV_V
          have z_V := zS hV_V
          clear hV_V
          refine (tLen_calls _ _ hA).mono ?_
          rintro e_W1 W1 ⟨rfl, hb_W1⟩
          replace hA := hA.below hb_W1
          replace hF := hF.below hb_W1
          have z_W1 := hb_W1.size
          clear hb_W1
          go_wp2_with fail
          refine calls_gen fun V1 hV_V1 => ?_
          replace hF : Fr (noX) O O w V1 := nF hV_V1
          replace hA : AP V1 ap s O := nA hV_V1
          have z_V1 := zS hV_V1
          clear hV_V1
          refine (tPlace_calls _ _ l Hr.out hl _ hA).mono ?_
          rintro e_W2 W2 ⟨rfl, hb_W2⟩
          replace hA := hA.below hb_W2
          replace hF := hF.below hb_W2
          have z_W2 := hb_W2.size
          clear hb_W2
          rw [c2]
          go_wp2_with fail
          go_ret2
          exact ⟨rfl, O, hA, hF⟩
  · rw [if_neg c] at h2
    have d1 : decide (id < 1) = false := by simp; omega
    have d3 : decide (len < 0) = false := by simp; omega
    have d4 : decide (40 < len) = false := by simp; omega
    have c2 : (placeIn id l 0).2 = false := by cases c5 : (placeIn id l 0).2 with | true => exact absurd (.inr (.inl c5)) c | false => rfl
    by_cases c6 : 10 ≤ lLen s h
    · rw [if_pos c6] at h2
      have d6 : decide (10 ≤ lLen s h) = true := by simpa using c6
      obtain rfl := Option.some.inj h2
      clear h2 c c6
      go_enter Tryz.func63, Tryz.ntmps63
      go_wp2_with fail
      refine calls_gen fun V hV_V => ?_
      have hF : Fr (noX) O O w V := nF hV_V
      replace hA : AP V ap s O := nA hV_V
      have z_V := zS hV_V
      clear hV_V
      refine (tLen_calls _ _ hA).mono ?_
      rintro e_W1 W1 ⟨rfl, hb_W1⟩
      replace hA := hA.below hb_W1
      replace hF := hF.below hb_W1
      have z_W1 := hb_W1.size
      clear hb_W1
      go_wp2_with fail
      refine calls_gen fun V1 hV_V1 => ?_
      replace hF : Fr (noX) O O w V1 := nF hV_V1
      replace hA : AP V1 ap s O := nA hV_V1
      have z_V1 := zS hV_V1
      clear hV_V1
      refine (tPlace_calls _ _ l Hr.out hl _ hA).mono ?_
      rintro e_W2 W2 ⟨rfl, hb_W2⟩
      replace hA := hA.below hb_W2
      replace hF := hF.below hb_W2
      have z_W2 := hb_W2.size
      clear hb_W2
      rw [c2]
      go_wp2_with fail
      go_ret2
      exact ⟨rfl, O, hA, hF⟩
    · rw [if_neg c6] at h2
      have d6 : decide (10 ≤ lLen s h) = false := by simpa using c6
      have H2 := Lib.hid h2
      clear h2 c c6
      go_enter Tryz.func63, Tryz.ntmps63
      go_wp2_with fail
      refine calls_gen fun V hV_V => ?_
      have hF : Fr (noX) O O w V := nF hV_V
      replace hA : AP V ap s O := nA hV_V
      have z_V := zS hV_V
      clear hV_V
      refine (tLen_calls _ _ hA).mono ?_
      rintro e_W1 W1 ⟨rfl, hb_W1⟩
      replace hA := hA.below hb_W1
      replace hF := hF.below hb_W1
      have z_W1 := hb_W1.size
      clear hb_W1
      go_wp2_with fail
      refine calls_gen fun V1 hV_V1 => ?_
      replace hF : Fr (noX) O O w V1 := nF hV_V1
      replace hA : AP V1 ap s O := nA hV_V1
      have z_V1 := zS hV_V1
      clear hV_V1
      refine (tPlace_calls _ _ l Hr.out hl _ hA).mono ?_
      rintro e_W2 W2 ⟨rfl, hb_W2⟩
      replace hA := hA.below hb_W2
      replace hF := hF.below hb_W2
      have z_W2 := hb_W2.size
      clear hb_W2
      rw [c2]
      go_wp2_with fail
      refine calls_gen fun V2 hV_V2 => ?_
      replace hF : Fr (noX) O O w V2 := nF hV_V2
      replace hA : AP V2 ap s O := nA hV_V2
      have z_V2 := zS hV_V2
      clear hV_V2
      refine (lInsert_calls _ _ (id, len) _ H2.out _ hA).mono ?_
      rintro e_W3 W3 ⟨rfl, O1, hA_W3, hf_W3⟩
      replace hF := hF.trans hf_W3.widen
      have z_W3 := hf_W3.size
      clear hA hf_W3; have hA := hA_W3; clear hA_W3
      go_wp2_with fail
      go_ret2
      exact ⟨rfl, O1, hA, hF⟩
end Go.Proofs.YtdjpjmkpndmhaaaGreat
/- The arena's Work. -/
namespace Go.Proofs.YtdjpjmkpndmhaaaGreat
set_option linter.unusedSimpArgs false
set_option linter.unusedVariables false
set_option linter.unnecessarySimpa false
open Go.RowKit
attribute [local go_sem ↓] Go.wp_at_zero Go.wp_at_succ
attribute [local go_sem] lt_s2 lt_s3 lt_s4
attribute [local go_sem] idx0 idx1 idx2 idx3
variable {ap : Value} {s : Ar} {O : Nat → Prop}
set_option maxRecDepth 100000 in
set_option maxHeartbeats 4000000 in
theorem work_calls (most : Int) (r : Int × Ar) (hr : s.work most = some r) (w : World) (hA : AP w ap s O) :
    Calls Tryz.prog 24 #[ap, .int .i64 most] w fun e w' => e = .returned (.int .i64 r.1) ∧ Did noX ap r.2 O w w' := by
  have hb' := Lib.hid hr; clear hr
  go_enter Tryz.func24, Tryz.ntmps24
  go_wp2_with fail
  refine wp_scope_ghost 0 (fun n a' wr => ∃ x s1 O1, (AP wr ap s1 O1 ∧ Fr noX O O1 w wr ∧ Hid (Ar.workL n s1 most x = some r)) ∧ ∃ u2 u3 u4 u6 u7 u8 u9 u10 u11 u12 u13 u14 u15 u16 u17 u18 u19 u20 u21 u22 u23 u24 u25 u26 u27 u28 u29 u30 u31 u32 u33 u34 u35 u36 u37 u38 u39 u40 u41 u42 u43 u44 u45 u46 u47 u48 u49 u50 u51 u52 u53 u54 u55 u56 u57 u58 u59 u60 u61 u62 u63 u64 u65 u66 u67 u68 u69 u70 : Value, a' = { tmps := #[(ap : Value), (.int .i64 most : Value), u2, u3, u4, (.int .i64 x : Value), u6, u7, u8, u9, u10, u11, u12, u13, u14, u15, u16, u17, u18, u19, u20, u21, u22, u23, u24, u25, u26, u27, u28, u29, u30, u31, u32, u33, u34, u35, u36, u37, u38, u39, u40, u41, u42, u43, u44, u45, u46, u47, u48, u49, u50, u51, u52, u53, u54, u55, u56, u57, u58, u59, u60, u61, u62, u63, u64, u65, u66, u67, u68, u69, u70], defers := [] }) (by rfl) ?first ?pass
  case first =>
    intro hrest
    go_wp2_with fail
    go_step3
    go_step
    go_step
    refine hrest rounds _ _ ⟨0, s, O, ⟨hA, Fr.refl _ _ _, hb'⟩, ?_⟩
    exact ⟨_, _, _, _, _, _, _, _, _, _, _, _, _, _, _, _, _, _, _, _, _, _, _, _, _, _, _, _, _, _, _, _, _, _, _, _, _, _, _, _, _, _, _, _, _, _, _, _, _, _, _, _, _, _, _, _, _, _, _, _, _, _, _, _, _, _, _, _, rfl⟩
  case pass =>
    rintro n a' wr ⟨x, s1, O1, ⟨hA, hF0, hb'⟩, u2, u3, u4, u6, u7, u8, u9, u10, u11, u12, u13, u14, u15, u16, u17, u18, u19, u20, u21, u22, u23, u24, u25, u26, u27, u28, u29, u30, u31, u32, u33, u34, u35, u36, u37, u38, u39, u40, u41, u42, u43, u44, u45, u46, u47, u48, u49, u50, u51, u52, u53, u54, u55, u56, u57, u58, u59, u60, u61, u62, u63, u64, u65, u66, u67, u68, u69, u70, rfl⟩ J hJ
    have hb := hb'.out
    clear hb'
    cases n with
    | zero => exact absurd hb (by simp [Ar.workL])
    | succ n =>
      unfold Ar.workL at hb
      by_cases h1 : most ≤ x
      · rw [if_pos h1] at hb
        have d1 : decide (most ≤ x) = true := by simpa using h1
        obtain rfl := Option.some.inj hb
        clear hb h1
        have HF := Lib.hid hF0; clear hF0
        go_wp2_with fail
        simp only [Exit.jump]
        go_ret
        exact ⟨rfl, O1, hA, HF.out⟩
      · rw [if_neg h1] at hb
        have d1 : decide (most ≤ x) = false := by simpa using h1
        clear h1
        cases hwt : s1.wait with
        | nil =>
          rw [hwt] at hb
          obtain rfl := Option.some.inj hb
          clear hb
          have HF := Lib.hid hF0; clear hF0
          go_wp2_with fail
          refine (pending_calls _ hA).mono ?_
          rintro e w1 ⟨rfl, rfl⟩
          rw [hwt]
          go_wp2_with fail
          simp only [Exit.jump]
          go_ret
          exact ⟨rfl, O1, hA, HF.out⟩
        | cons h l =>
          rw [hwt] at hb
          dsimp only at hb
          have hm := hA.1.mem h (by rw [hwt]; simp)
          obtain ⟨p, nb, cb, ub, wv, rfl, hR⟩ := hA.raw (by omega)
          have hwv := hR.hw
          rw [hwt] at hwv
          rcases hwv with ⟨-, h0⟩ | ⟨g, off, cap, c, rfl, hg, hl1, hl2, hl3, hl4⟩
          · cases h0
          have hs := hA.1.small
          have Hb := Lib.hid hb; clear hb
          have HF := Lib.hid hF0; clear hF0
          obtain ⟨cp, cc, cu, n0, n1, n2, n3, n4, n5, n6⟩ := hR.reads
          have cu := cu h hm.2.1; have n0 := n0 h hm.2.1; have n1 := n1 h hm.2.1; have n2 := n2 h hm.2.1; have n3 := n3 h hm.2.1; have n4 := n4 h hm.2.1; have n5 := n5 h hm.2.1; have n6 := n6 h hm.2.1
          clear cc
          have hc4 := hl4 0 (by simp)
          simp only [Nat.add_zero, List.getElem_cons_zero] at hc4
          have cw : wr.cell? ⟨g, off, none⟩ = some (.int .i64 (h : Int)) := by rw [cells_of hg]; exact hc4
          clear hc4
          have hne1 := hR.pn; have hne2 := hR.pc; have hne3 := hR.pu; have hne4 := hR.nc; have hne5 := hR.nu; have hne6 := hR.cu
          have fn := free_of hR.hn; have fu := free_of hR.hu; have fp := free_of hR.hp
          have d3 : (h : Int) < (s1.size : Int) + 1 := by omega
          have d4 : (0 : Int) ≤ (h : Int) := by omega
          have HR := Lib.hid hR; clear hR
          have hO1 : ∀ y, wr.heap.size ≤ y → ¬ O1 y := fun y hy => hA.new hy
          have hWq := hA.1.pop hwt
          have HW := Lib.hid hWq; clear hWq
          go_wp2_with fail
          refine (pending_calls _ hA).mono ?_
          rintro e w1 ⟨rfl, rfl⟩
          rw [hwt]
          clear hA
          have HL4 := Lib.hid hl4; clear hl4
          have HG := Lib.hid hg; clear hg
          have Hwt := Lib.hid hwt; clear hwt
          by_cases hcap : cap = 1
          all_goals
            go_wp2_with fail
            refine wp_gen fun V hV => ?_
            have key : ∃ nv, Raw V p s1.size nb cb ub nv (nodeF s1) (countF s1) (usedF s1) s1.busy s1.made l O1 ∧ V.heap[wr.heap.size]? = some (.cells #[.int .i64 (s1.node h).k0, .int .i64 (s1.node h).k1, .int .i64 (s1.node h).k2, .int .i64 (s1.node h).k3] 90 (0, 0)) ∧ Fr noX O O1 w V := by
              have hR := HR.out
              have hl1' : l.length + 1 ≤ cap := by simpa using hl1
              have hnb : (Value.slice (some ⟨g, off, none⟩) (h :: l).length cap).ownBlock = some g := rfl
              have hwt2 : ∀ (o2 c2 : Nat), (l.length = 0 ∨ o2 = off + 1) → l.length ≤ c2 → o2 + c2 ≤ off + cap → Wt wr (.slice (some ⟨g, o2, none⟩) l.length c2) l := by
                intro o2 c2 ho hc2 hoc
                refine .inr ⟨g, o2, c2, c, rfl, HG.out, hc2, by omega, by omega, fun i hi => ?_⟩
                have ho2 : o2 = off + 1 := by omega
                subst ho2
                have := HL4.out (i + 1) (by simp; omega)
                rw [show off + 1 + i = off + (i + 1) by omega, this]
                simp
              have hO := hR.ow g hnb
              have h1 : g ≠ cb := fun e => hR.ncw (by rw [hnb, e])
              have h2 : g ≠ p := fun e => hR.wp (by rw [hnb, e])
              first
              | exact ⟨_, by rw [hV]; exact (hR.setW (.slice (some ⟨g, off + 1, none⟩) l.length (cap - 1)) l (hwt2 _ _ (.inr rfl) (by omega) (by omega)) (by simp [Value.ownBlock]; exact h1) (by simp [Value.ownBlock]; exact h2) (by simp [Value.ownBlock]; exact hO)).alloc _, by rw [hV]; exact blk_new _ _ _ (by rw [siz_set]), by rw [hV]; exact (HF.out.ownSet (q := ⟨p, 3, none⟩) hR.op _).alloc _⟩
              | exact ⟨_, by rw [hV]; exact (hR.setW (.slice (some ⟨g, off, none⟩) l.length (cap - 1)) l (hwt2 _ _ (.inl (by omega)) (by omega) (by omega)) (by simp [Value.ownBlock]; exact h1) (by simp [Value.ownBlock]; exact h2) (by simp [Value.ownBlock]; exact hO)).alloc _, by rw [hV]; exact blk_new _ _ _ (by rw [siz_set]), by rw [hV]; exact (HF.out.ownSet (q := ⟨p, 3, none⟩) hR.op _).alloc _⟩
              | exact ⟨_, by rw [hV]; exact (hR.setW (.slice (some ⟨g, off, none⟩) l.length 0) l (hwt2 _ _ (.inl (by omega)) (by omega) (by omega)) (by simp [Value.ownBlock]; exact h1) (by simp [Value.ownBlock]; exact h2) (by simp [Value.ownBlock]; exact hO)).alloc _, by rw [hV]; exact blk_new _ _ _ (by rw [siz_set]), by rw [hV]; exact (HF.out.ownSet (q := ⟨p, 3, none⟩) hR.op _).alloc _⟩
            obtain ⟨nv, hRV, hk, hFV⟩ := key
            have hz : wr.heap.size < V.heap.size := lt_of hk
            have hx1 : wr.heap.size ≠ nb := fun e => hO1 _ (Nat.le_refl _) (by rw [e]; exact hRV.on)
            have hx2 : wr.heap.size ≠ cb := fun e => hO1 _ (Nat.le_refl _) (by rw [e]; exact hRV.oc)
            have hx3 : wr.heap.size ≠ ub := fun e => hO1 _ (Nat.le_refl _) (by rw [e]; exact hRV.ou)
            have hx4 : wr.heap.size ≠ p := fun e => hO1 _ (Nat.le_refl _) (by rw [e]; exact hRV.op)
            have hkO : ¬ O1 wr.heap.size := hO1 _ (Nat.le_refl _)
            clear hV HL4 HG HR HF cp cu n0 n1 n2 n3 n4 n5 n6 cw fn fu fp hl1 hl2 hl3
            obtain ⟨cp, cc, cu, n0, n1, n2, n3, n4, n5, n6⟩ : ArenaC V p { s1 with wait := l } nb cb ub nv := RawS.reads (s := { s1 with wait := l }) hRV
            have cu := cu h hm.2.1; have n0 := n0 h hm.2.1; have n1 := n1 h hm.2.1; have n2 := n2 h hm.2.1; have n3 := n3 h hm.2.1; have n4 := n4 h hm.2.1; have n5 := n5 h hm.2.1; have n6 := n6 h hm.2.1
            clear cc
            dsimp only at cp cu n0 n1 n2 n3 n4 n5 n6
            have ck := cells_of hk
            have fn := free_of hRV.hn; have fu := free_of hRV.hu
            have HRV := Lib.hid hRV; clear hRV
            have HFV := Lib.hid hFV; clear hFV
            go_region
            have fp := free_of HRV.out.hp
            go_wp2_with fail
            refine wp_gen fun V2 hV2 => ?_
            have key2 : AP V2 (.pointer (some ⟨p, 0, none⟩)) (s1.pop h l) O1 ∧ Fr noX O O1 w V2 := by
              have hR2 := HRV.out
              have hfin := (((((((((hR2.setN (h * 7) (.int .i64 0)).setN (h * 7 + 1) (.int .i64 0)).setN (h * 7 + 2) (.int .i64 0)).setN (h * 7 + 3) (.int .i64 0)).setN (h * 7 + 4) (.int .i64 0)).setN (h * 7 + 5) (.int .u64 0)).setN (h * 7 + 6) (.int .u64 0)).setU h (.bool false)).setB (wrap64 (s1.busy - 1)))
              have hf0 := HFV.out
              have o1 := hR2.op; have o2 := hR2.on; have o4 := hR2.ou
              rw [hV2]
              constructor
              · refine (AP.of_raw (nb := nb) (cb := cb) (ub := ub) (wv := nv) (s := s1.pop h l) ?_ HW.out).drew
                refine hfin.congr (fun i _ => (nodeF_upd _ h Nd.zero i).trans ?_) (fun i _ => rfl) (fun i _ => ?_)
                · rfl
                · unfold updF usedF Ar.pop upd; dsimp only; split <;> rfl
              · clear hfin
                exact (((((((((hf0.ownSet (q := _) (by exact o2) _).ownSet (q := _) (by exact o2) _).ownSet (q := _) (by exact o2) _).ownSet (q := _) (by exact o2) _).ownSet (q := _) (by exact o2) _).ownSet (q := _) (by exact o2) _).ownSet (q := _) (by exact o2) _).ownSet (q := _) (by exact o4) _).ownSet (q := _) (by exact o1) _).drew
            obtain ⟨hA2, hF2⟩ := key2
            clear hV2 HRV HFV
            have HA2 := Lib.hid hA2; have HF2 := Lib.hid hF2; clear hA2 hF2
            go_loopw [62] (fun y w3 => ∃ i : Nat, i ≤ 4 ∧ y = .int .i64 i ∧ ∃ O', AP w3 (.pointer (some ⟨p, 0, none⟩)) ((s1.pop h l).dropAll ((s1.node h).kids.take i)) O' ∧ Fr noX O O' w w3) (fun y _ => 4 - (intOf y).toNat)
            case atStart => exact ⟨0, by omega, rfl, _, HA2.out, HF2.out⟩
            case round =>
              obtain ⟨i, hi, rfl, O', hA', hF'⟩ := hrel
              rcases (show i = 0 ∨ i = 1 ∨ i = 2 ∨ i = 3 ∨ i = 4 by omega) with rfl | rfl | rfl | rfl | rfl
              · have HA := Lib.hid hA'; have HF2 := Lib.hid hF'; clear hA' hF'
                go_wp2_with fail
                refine (drop_calls _ _ HA.out).mono ?_
                rintro e1 w1 ⟨rfl, O3, hA1, hf1⟩
                go_wp2_with fail
                go_roundw
                case rel => exact ⟨1, by omega, rfl, O3, hA1, HF2.out.trans hf1⟩
                case measure => simp [intOf]
              · have HA := Lib.hid hA'; have HF2 := Lib.hid hF'; clear hA' hF'
                go_wp2_with fail
                refine (drop_calls _ _ HA.out).mono ?_
                rintro e1 w1 ⟨rfl, O3, hA1, hf1⟩
                go_wp2_with fail
                go_roundw
                case rel => exact ⟨2, by omega, rfl, O3, hA1, HF2.out.trans hf1⟩
                case measure => simp [intOf]
              · have HA := Lib.hid hA'; have HF2 := Lib.hid hF'; clear hA' hF'
                go_wp2_with fail
                refine (drop_calls _ _ HA.out).mono ?_
                rintro e1 w1 ⟨rfl, O3, hA1, hf1⟩
                go_wp2_with fail
                go_roundw
                case rel => exact ⟨3, by omega, rfl, O3, hA1, HF2.out.trans hf1⟩
                case measure => simp [intOf]
              · have HA := Lib.hid hA'; have HF2 := Lib.hid hF'; clear hA' hF'
                go_wp2_with fail
                refine (drop_calls _ _ HA.out).mono ?_
                rintro e1 w1 ⟨rfl, O3, hA1, hf1⟩
                go_wp2_with fail
                go_roundw
                case rel => exact ⟨4, by omega, rfl, O3, hA1, HF2.out.trans hf1⟩
                case measure => simp [intOf]
              · have HA := Lib.hid hA'; have HF3 := Lib.hid hF'; clear hA' hF'
                go_wp2_with fail
                go_step3
                refine ⟨rfl, hJ _ _ ⟨n, by omega, _, _, _, ⟨HA.out, HF3.out, Hb⟩, ?_⟩⟩
                exact ⟨_, _, _, _, _, _, _, _, _, _, _, _, _, _, _, _, _, _, _, _, _, _, _, _, _, _, _, _, _, _, _, _, _, _, _, _, _, _, _, _, _, _, _, _, _, _, _, _, _, _, _, _, _, _, _, _, _, _, _, _, _, _, _, _, _, _, _, _, rfl⟩
end Go.Proofs.YtdjpjmkpndmhaaaGreat
/- Rows of symbols in an arena: a symbol. -/
namespace Go.Proofs.YtdjpjmkpndmhaaaGreat
set_option linter.unusedSimpArgs false
set_option linter.unusedVariables false
set_option linter.unnecessarySimpa false
open Go.RowKit
attribute [local go_sem ↓] Go.wp_at_zero Go.wp_at_succ
attribute [local go_sem] lt_s2 lt_s3 lt_s4
variable {ap : Value} {s : Ar} {O : Nat → Prop}
set_option maxRecDepth 100000 in
set_option maxHeartbeats 4000000 in
theorem wGet_calls (h i : Int) (r : Int × Bool) (hr : wGet s h i = some r) (w : World) (hA : AP w ap s O) :
    Calls Tryz.prog 79 #[ap, .int .i64 h, .int .i64 i] w fun e w' => e = .returned (.tuple #[.int .i64 r.1, .bool r.2]) ∧ Below w.heap.size w w' := by
  unfold wGet at hr
  by_cases h1 : i < 0
  · rw [if_pos (.inl h1)] at hr
    have d1 : decide (i < 0) = true := by simpa using h1
    cases hr
    clear h1
    go_enter Tryz.func79, Tryz.ntmps79
    go_wp2_with fail
    go_step3
    go_wp2_with fail
    simp only [Exit.noGoto_ret]
    go_ret2
    exact ⟨rfl, by (repeat' first | with_reducible assumption | with_reducible exact Below.refl _ _ | with_reducible refine Below.alloc ?_ ?_ _ | with_reducible refine Below.setCell ?_ ?_ _ | with_reducible refine below_drewN ?_ _ | with_reducible refine Below.drew ?_ | exact Nat.le_refl _ | ((try dsimp only); omega) | (simp only [siz_alloc, siz_set]; omega))⟩
  · have d1 : decide (i < 0) = false := by simpa using h1
    by_cases h2 : wLen s h ≤ i
    · rw [if_pos (.inr h2)] at hr
      have d2 : decide (wLen s h ≤ i) = true := by simpa using h2
      cases hr
      clear h1 h2
      go_enter Tryz.func79, Tryz.ntmps79
      go_wp2_with fail
      go_step3
      go_wp2_with fail
      refine calls_gen fun V hV_V => ?_
      have hB : Below w.heap.size w V := nB hV_V
      replace hA : AP V ap s O := nA hV_V
      have z_V := zS hV_V
      clear hV_V
      refine (wLen_calls _ _ hA).mono ?_
      rintro e_w1 w1 ⟨rfl, hb_w1⟩
      replace hA := hA.below hb_w1
      replace hB := below_step hB hb_w1
      have z_w1 := hb_w1.size
      clear hb_w1
      go_wp2_with fail
      simp only [Exit.noGoto_ret]
      go_ret2
      exact ⟨rfl, by (repeat' first | with_reducible assumption | with_reducible exact Below.refl _ _ | with_reducible refine Below.alloc ?_ ?_ _ | with_reducible refine Below.setCell ?_ ?_ _ | with_reducible refine below_drewN ?_ _ | with_reducible refine Below.drew ?_ | exact Nat.le_refl _ | ((try dsimp only); omega) | (simp only [siz_alloc, siz_set]; omega))⟩
    · rw [if_neg (by omega)] at hr
      have d2 : decide (wLen s h ≤ i) = false := by simpa using h2
      clear h1 h2
      obtain ⟨b, hb, rfl⟩ := Option.map_eq_some_iff.1 hr
      have hb' := Lib.hid hb; clear hb hr
      go_enter Tryz.func79, Tryz.ntmps79
      go_wp2_with fail
      refine wp_scope_ghost 0 (fun n a' wr => ∃ x y z l, (Below w.heap.size w wr ∧ 1 ≤ n ∧ n ≤ 9 ∧ l = 9 - (n : Int) ∧ Hid (wGetL n s x y z = some b)) ∧ ∃ u3 u4 u5 u6 u7 u10 u11 u12 u13 u14 u15 u16 u17 u18 u19 u20 u21 u22 u23 u24 u25 u26 u27 u28 u29 u30 u31 u32 u33 u34 u35 u36 u37 u38 u39 u40 u41 u42 u43 u44 u45 u46 u47 u48 u49 u50 u51 u52 u53 u54 u55 u56 u57 : Value, a' = { tmps := #[(ap : Value), (.int .i64 x : Value), (.int .i64 y : Value), u3, u4, u5, u6, u7, (.int .i64 z : Value), (.int .i64 l : Value), u10, u11, u12, u13, u14, u15, u16, u17, u18, u19, u20, u21, u22, u23, u24, u25, u26, u27, u28, u29, u30, u31, u32, u33, u34, u35, u36, u37, u38, u39, u40, u41, u42, u43, u44, u45, u46, u47, u48, u49, u50, u51, u52, u53, u54, u55, u56, u57], defers := [] }) (by rfl) ?first ?pass
      case first =>
        intro hrest
        go_wp2_with fail
        refine calls_gen fun V hV_V => ?_
        have hB : Below w.heap.size w V := nB hV_V
        replace hA : AP V ap s O := nA hV_V
        have z_V := zS hV_V
        clear hV_V
        refine (wLen_calls _ _ hA).mono ?_
        rintro e_w1 w1 ⟨rfl, hb_w1⟩
        replace hA := hA.below hb_w1
        replace hB := below_step hB hb_w1
        have z_w1 := hb_w1.size
        clear hb_w1
        go_wp2_with fail
        go_step3
        go_step
        go_step
        refine hrest 9 _ _ ⟨h, i, 0, 0, ⟨hB, by omega, by omega, by omega, hb'⟩, ?_⟩
        exact ⟨_, _, _, _, _, _, _, _, _, _, _, _, _, _, _, _, _, _, _, _, _, _, _, _, _, _, _, _, _, _, _, _, _, _, _, _, _, _, _, _, _, _, _, _, _, _, _, _, _, _, _, _, _, rfl⟩
      case pass =>
        rintro n a' wr ⟨x, y, z, l, ⟨hB, hn1, hn2, hl, hb'⟩, u3, u4, u5, u6, u7, u10, u11, u12, u13, u14, u15, u16, u17, u18, u19, u20, u21, u22, u23, u24, u25, u26, u27, u28, u29, u30, u31, u32, u33, u34, u35, u36, u37, u38, u39, u40, u41, u42, u43, u44, u45, u46, u47, u48, u49, u50, u51, u52, u53, u54, u55, u56, u57, rfl⟩ J hJ
        have hA := hA.below hB
        have z_r := hB.size
        have hb := hb'.out
        clear hb'
        obtain ⟨n, rfl⟩ : ∃ m, n = m + 1 := ⟨n - 1, by omega⟩
        unfold wGetL at hb
        obtain ⟨o, ho, hb⟩ := Option.bind_eq_some_iff.1 hb
        obtain ⟨j, hj, hb⟩ := Option.bind_eq_some_iff.1 hb
        have Ho := Lib.hid ho; have Hj := Lib.hid hj; have Hb := Lib.hid hb; clear ho hj hb
        have hl' : l + 1 = 9 - (n : Int) := by omega
        have hl1 : 0 ≤ l := by omega
        have hl2 : l ≤ 9 := by omega
        have Hl := Lib.hid hl'
        clear hl' hl
        obtain ⟨one, oo⟩ := o
        by_cases hn : 1 ≤ n
        · have d3 : decide (l + 1 < 9) = true := by have := Hl.out; simp; omega
          cases one
          all_goals
            go_wp2_with fail
            refine calls_gen fun V1 hV_V1 => ?_
            replace hB : Below w.heap.size w V1 := nB hV_V1
            replace hA : AP V1 ap s O := nA hV_V1
            have z_V1 := zS hV_V1
            clear hV_V1
            refine (wRow_calls _ _ hA).mono ?_
            rintro e_w2 w2 ⟨rfl, hb_w2⟩
            replace hA := hA.below hb_w2
            replace hB := below_step hB hb_w2
            have z_w2 := hb_w2.size
            clear hb_w2
            unfold Nd.val
            go_wp2_with fail
            refine calls_gen fun V2 hV_V2 => ?_
            have n_k0 := hbk hV_V2 (w2.heap.size)
            simp (maxDischargeDepth := 9) only [BK, not_false_eq_true, reduceCtorEq] at n_k0
            have o_k0 : ¬ O (w2.heap.size) := by first | exact hA.new (Nat.le_refl _) | exact hA.new (by omega)
            replace hB : Below w.heap.size w V2 := nB hV_V2
            replace hA : AP V2 ap s O := nA hV_V2
            have z_V2 := zS hV_V2
            clear hV_V2
            have k0 := n_k0; clear n_k0
            obtain ⟨c_k0, f_k0, l_k0_V2⟩ := f3 k0
            refine (bGet_calls _ _ _ Ho.out _ hA).mono ?_
            rintro e_w3 w3 ⟨rfl, hb_w3⟩
            replace hA := hA.below hb_w3
            replace hB := below_step hB hb_w3
            replace k0 := keep_blk hb_w3 k0
            have z_w3 := hb_w3.size
            clear hb_w3 c_k0 f_k0
            obtain ⟨c_k0, f_k0, l_k0_w3⟩ := f3 k0
            go_wp2_with fail
            refine calls_gen fun V3 hV_V3 => ?_
            replace k0 := kK hV_V3 k0
            replace hB : Below w.heap.size w V3 := nB hV_V3
            replace hA : AP V3 ap s O := nA hV_V3
            have z_V3 := zS hV_V3
            clear hV_V3 c_k0 f_k0
            obtain ⟨c_k0, f_k0, l_k0_V3⟩ := f3 k0
            refine (wAlike_calls _ _ _ _ Hj.out _ hA).mono ?_
            rintro e_w4 w4 ⟨rfl, hb_w4⟩
            replace hA := hA.below hb_w4
            replace hB := below_step hB hb_w4
            replace k0 := keep_blk hb_w4 k0
            have z_w4 := hb_w4.size
            clear hb_w4 c_k0 f_k0
            obtain ⟨c_k0, f_k0, l_k0_w4⟩ := f3 k0
            go_wp2_with fail
            refine calls_gen fun V4 hV_V4 => ?_
            replace k0 := kK hV_V4 k0
            replace hB : Below w.heap.size w V4 := nB hV_V4
            replace hA : AP V4 ap s O := nA hV_V4
            have z_V4 := zS hV_V4
            clear hV_V4 c_k0 f_k0
            obtain ⟨c_k0, f_k0, l_k0_V4⟩ := f3 k0
            refine (wKid_calls (s.get x) _ _).mono ?_
            rintro e_w5 w5 ⟨rfl, hb_w5⟩
            replace hA := hA.below hb_w5
            replace hB := below_step hB hb_w5
            replace k0 := keep_blk hb_w5 k0
            have z_w5 := hb_w5.size
            clear hb_w5 c_k0 f_k0
            obtain ⟨c_k0, f_k0, l_k0_w5⟩ := f3 k0
            go_wp2_with fail
            go_step3
            refine ⟨rfl, hJ _ _ ⟨n, by omega, _, _, _, _, ⟨by (repeat' first | with_reducible assumption | with_reducible exact Below.refl _ _ | with_reducible refine Below.alloc ?_ ?_ _ | with_reducible refine Below.setCell ?_ ?_ _ | with_reducible refine below_drewN ?_ _ | with_reducible refine Below.drew ?_ | exact Nat.le_refl _ | ((try dsimp only); omega) | (simp only [siz_alloc, siz_set]; omega)), hn, by omega, Hl.out, Hb⟩, ?_⟩⟩
            exact ⟨_, _, _, _, _, _, _, _, _, _, _, _, _, _, _, _, _, _, _, _, _, _, _, _, _, _, _, _, _, _, _, _, _, _, _, _, _, _, _, _, _, _, _, _, _, _, _, _, _, _, _, _, _, rfl⟩
        · obtain rfl : n = 0 := by omega
          have d3 : decide (l + 1 < 9) = false := by have := Hl.out; simp; omega
          cases one
          all_goals
            go_wp2_with fail
            refine calls_gen fun V1 hV_V1 => ?_
            replace hB : Below w.heap.size w V1 := nB hV_V1
            replace hA : AP V1 ap s O := nA hV_V1
            have z_V1 := zS hV_V1
            clear hV_V1
            refine (wRow_calls _ _ hA).mono ?_
            rintro e_w2 w2 ⟨rfl, hb_w2⟩
            replace hA := hA.below hb_w2
            replace hB := below_step hB hb_w2
            have z_w2 := hb_w2.size
            clear hb_w2
            unfold Nd.val
            go_wp2_with fail
            refine calls_gen fun V2 hV_V2 => ?_
            have n_k0 := hbk hV_V2 (w2.heap.size)
            simp (maxDischargeDepth := 9) only [BK, not_false_eq_true, reduceCtorEq] at n_k0
            have o_k0 : ¬ O (w2.heap.size) := by first | exact hA.new (Nat.le_refl _) | exact hA.new (by omega)
            replace hB : Below w.heap.size w V2 := nB hV_V2
            replace hA : AP V2 ap s O := nA hV_V2
            have z_V2 := zS hV_V2
            clear hV_V2
            have k0 := n_k0; clear n_k0
            obtain ⟨c_k0, f_k0, l_k0_V2⟩ := f3 k0
            refine (bGet_calls _ _ _ Ho.out _ hA).mono ?_
            rintro e_w3 w3 ⟨rfl, hb_w3⟩
            replace hA := hA.below hb_w3
            replace hB := below_step hB hb_w3
            replace k0 := keep_blk hb_w3 k0
            have z_w3 := hb_w3.size
            clear hb_w3 c_k0 f_k0
            obtain ⟨c_k0, f_k0, l_k0_w3⟩ := f3 k0
            go_wp2_with fail
            refine calls_gen fun V3 hV_V3 => ?_
            replace k0 := kK hV_V3 k0
            replace hB : Below w.heap.size w V3 := nB hV_V3
            replace hA : AP V3 ap s O := nA hV_V3
            have z_V3 := zS hV_V3
            clear hV_V3 c_k0 f_k0
            obtain ⟨c_k0, f_k0, l_k0_V3⟩ := f3 k0
            refine (wAlike_calls _ _ _ _ Hj.out _ hA).mono ?_
            rintro e_w4 w4 ⟨rfl, hb_w4⟩
            replace hA := hA.below hb_w4
            replace hB := below_step hB hb_w4
            replace k0 := keep_blk hb_w4 k0
            have z_w4 := hb_w4.size
            clear hb_w4 c_k0 f_k0
            obtain ⟨c_k0, f_k0, l_k0_w4⟩ := f3 k0
            go_wp2_with fail
            refine calls_gen fun V4 hV_V4 => ?_
            replace k0 := kK hV_V4 k0
            replace hB : Below w.heap.size w V4 := nB hV_V4
            replace hA : AP V4 ap s O := nA hV_V4
            have z_V4 := zS hV_V4
            clear hV_V4 c_k0 f_k0
            obtain ⟨c_k0, f_k0, l_k0_V4⟩ := f3 k0
            refine (wKid_calls (s.get x) _ _).mono ?_
            rintro e_w5 w5 ⟨rfl, hb_w5⟩
            replace hA := hA.below hb_w5
            replace hB := below_step hB hb_w5
            replace k0 := keep_blk hb_w5 k0
            have z_w5 := hb_w5.size
            clear hb_w5 c_k0 f_k0
            obtain ⟨c_k0, f_k0, l_k0_w5⟩ := f3 k0
            go_wp2_with fail
            simp only [Exit.jump]
            go_ret2
            exact ⟨by rw [← Option.some.inj Hb.out]; rfl, by (repeat' first | with_reducible assumption | with_reducible exact Below.refl _ _ | with_reducible refine Below.alloc ?_ ?_ _ | with_reducible refine Below.setCell ?_ ?_ _ | with_reducible refine below_drewN ?_ _ | with_reducible refine Below.drew ?_ | exact Nat.le_refl _ | ((try dsimp only); omega) | (simp only [siz_alloc, siz_set]; omega))⟩
end Go.Proofs.YtdjpjmkpndmhaaaGreat
/- Rows of symbols in an arena: how often a symbol is among the first ones; how many are less. -/
namespace Go.Proofs.YtdjpjmkpndmhaaaGreat
set_option linter.unusedSimpArgs false
set_option linter.unusedVariables false
set_option linter.unnecessarySimpa false
open Go.RowKit
attribute [local go_sem ↓] Go.wp_at_zero Go.wp_at_succ
attribute [local go_sem] lt_s2 lt_s3 lt_s4
variable {ap : Value} {s : Ar} {O : Nat → Prop}
set_option maxRecDepth 100000 in
set_option maxHeartbeats 4000000 in
theorem wRank_calls (h c i r : Int) (hr : wRank s h c i = some r) (w : World) (hA : AP w ap s O) :
    Calls Tryz.prog 81 #[ap, .int .i64 h, .int .i64 c, .int .i64 i] w fun e w' => e = .returned (.int .i64 r) ∧ Below w.heap.size w w' := by
  unfold wRank at hr
  cases h1 : wIs c with
  | false =>
    rw [h1, if_neg (by decide)] at hr
    cases hr
    go_enter Tryz.func81, Tryz.ntmps81
    go_wp2_with fail
    go_step3
    go_wp2_with fail
    refine calls_gen fun V hV_V => ?_
    have hB : Below w.heap.size w V := nB hV_V
    replace hA : AP V ap s O := nA hV_V
    have z_V := zS hV_V
    clear hV_V
    refine (wIs_calls _ _).mono ?_
    rintro e_q w_q ⟨rfl, rfl⟩
    go_wp2_with fail
    simp only [Exit.noGoto_ret]
    go_ret
    exact ⟨rfl, by (repeat' first | with_reducible assumption | with_reducible exact Below.refl _ _ | with_reducible refine Below.alloc ?_ ?_ _ | with_reducible refine Below.setCell ?_ ?_ _ | with_reducible refine below_drewN ?_ _ | with_reducible refine Below.drew ?_ | exact Nat.le_refl _ | ((try dsimp only); omega) | (simp only [siz_alloc, siz_set]; omega))⟩
  | true =>
    rw [h1, if_pos rfl] at hr
    have hb' := Lib.hid hr; clear hr
    go_enter Tryz.func81, Tryz.ntmps81
    go_wp2_with fail
    refine wp_scope_ghost 0 (fun n a' wr => ∃ x y l, (Below w.heap.size w wr ∧ 1 ≤ n ∧ n ≤ 9 ∧ l = 9 - (n : Int) ∧ Hid (wRankL n s x c y = some r)) ∧ ∃ u4 u5 u6 u7 u8 u10 u11 u12 u13 u14 u15 u16 u17 u18 u19 u20 u21 u22 u23 u24 u25 u26 u27 u28 u29 u30 u31 u32 u33 u34 u35 u36 u37 u38 u39 u40 u41 u42 u43 : Value, a' = { tmps := #[(ap : Value), (.int .i64 x : Value), (.int .i64 c : Value), (.int .i64 y : Value), u4, u5, u6, u7, u8, (.int .i64 l : Value), u10, u11, u12, u13, u14, u15, u16, u17, u18, u19, u20, u21, u22, u23, u24, u25, u26, u27, u28, u29, u30, u31, u32, u33, u34, u35, u36, u37, u38, u39, u40, u41, u42, u43], defers := [] }) (by rfl) ?first ?pass
    case first =>
      intro hrest
      go_wp2_with fail
      refine calls_gen fun V hV_V => ?_
      have hB : Below w.heap.size w V := nB hV_V
      replace hA : AP V ap s O := nA hV_V
      have z_V := zS hV_V
      clear hV_V
      refine (wIs_calls _ _).mono ?_
      rintro e_q w_q ⟨rfl, rfl⟩
      go_wp2_with fail
      go_step3
      go_step
      go_step
      refine hrest 9 _ _ ⟨h, i, 0, ⟨hB, by omega, by omega, by omega, hb'⟩, ?_⟩
      exact ⟨_, _, _, _, _, _, _, _, _, _, _, _, _, _, _, _, _, _, _, _, _, _, _, _, _, _, _, _, _, _, _, _, _, _, _, _, _, _, _, rfl⟩
    case pass =>
      rintro n a' wr ⟨x, y, l, ⟨hB, hn1, hn2, hl, hb'⟩, u4, u5, u6, u7, u8, u10, u11, u12, u13, u14, u15, u16, u17, u18, u19, u20, u21, u22, u23, u24, u25, u26, u27, u28, u29, u30, u31, u32, u33, u34, u35, u36, u37, u38, u39, u40, u41, u42, u43, rfl⟩ J hJ
      have hA := hA.below hB
      have z_r := hB.size
      have hb := hb'.out
      clear hb'
      obtain ⟨n, rfl⟩ : ∃ m, n = m + 1 := ⟨n - 1, by omega⟩
      unfold wRankL at hb
      have e8 : (8 - (n : Int)) = l := by omega
      rw [e8] at hb
      obtain ⟨j, hj, hb⟩ := Option.bind_eq_some_iff.1 hb
      have Hj := Lib.hid hj; clear hj
      have hl' : l + 1 = 9 - (n : Int) := by omega
      have hl1 : 0 ≤ l := by omega
      have hl2 : l ≤ 9 := by omega
      have Hl := Lib.hid hl'
      clear hl' hl e8
      generalize ho : symBit c l = one at *
      have Ho := Lib.hid ho; clear ho
      by_cases hj0 : 0 < j
      · rw [if_pos hj0] at hb
        have d4 : decide (0 < j) = true := by simpa using hj0
        have Hb := Lib.hid hb; clear hb hj0
        by_cases hn : 1 ≤ n
        · have d3 : decide (l + 1 < 9) = true := by have := Hl.out; simp; omega
          go_wp2_with fail
          refine calls_gen fun V1 hV_V1 => ?_
          replace hB : Below w.heap.size w V1 := nB hV_V1
          replace hA : AP V1 ap s O := nA hV_V1
          have z_V1 := zS hV_V1
          clear hV_V1
          refine (wRow_calls _ _ hA).mono ?_
          rintro e_w2 w2 ⟨rfl, hb_w2⟩
          replace hA := hA.below hb_w2
          replace hB := below_step hB hb_w2
          have z_w2 := hb_w2.size
          clear hb_w2
          unfold Nd.val
          go_wp2_with fail
          refine calls_gen fun V2 hV_V2 => ?_
          have n_k0 := hbk hV_V2 (w2.heap.size)
          simp (maxDischargeDepth := 9) only [BK, not_false_eq_true, reduceCtorEq] at n_k0
          have o_k0 : ¬ O (w2.heap.size) := by first | exact hA.new (Nat.le_refl _) | exact hA.new (by omega)
          replace hB : Below w.heap.size w V2 := nB hV_V2
          replace hA : AP V2 ap s O := nA hV_V2
          have z_V2 := zS hV_V2
          clear hV_V2
          have k0 := n_k0; clear n_k0
          obtain ⟨c_k0, f_k0, l_k0_V2⟩ := f3 k0
          refine (symBit_calls _ _ _).mono ?_
          rintro e_q w_q ⟨rfl, rfl⟩
          rw [Ho.out]
          go_wp2_with fail
          refine calls_gen fun V3 hV_V3 => ?_
          replace k0 := kK hV_V3 k0
          replace hB : Below w.heap.size w V3 := nB hV_V3
          replace hA : AP V3 ap s O := nA hV_V3
          have z_V3 := zS hV_V3
          clear hV_V3 c_k0 f_k0
          obtain ⟨c_k0, f_k0, l_k0_V3⟩ := f3 k0
          refine (wAlike_calls _ _ _ _ Hj.out _ hA).mono ?_
          rintro e_w4 w4 ⟨rfl, hb_w4⟩
          replace hA := hA.below hb_w4
          replace hB := below_step hB hb_w4
          replace k0 := keep_blk hb_w4 k0
          have z_w4 := hb_w4.size
          clear hb_w4 c_k0 f_k0
          obtain ⟨c_k0, f_k0, l_k0_w4⟩ := f3 k0
          go_wp2_with fail
          refine calls_gen fun V4 hV_V4 => ?_
          replace k0 := kK hV_V4 k0
          replace hB : Below w.heap.size w V4 := nB hV_V4
          replace hA : AP V4 ap s O := nA hV_V4
          have z_V4 := zS hV_V4
          clear hV_V4 c_k0 f_k0
          obtain ⟨c_k0, f_k0, l_k0_V4⟩ := f3 k0
          refine (wKid_calls (s.get x) _ _).mono ?_
          rintro e_w5 w5 ⟨rfl, hb_w5⟩
          replace hA := hA.below hb_w5
          replace hB := below_step hB hb_w5
          replace k0 := keep_blk hb_w5 k0
          have z_w5 := hb_w5.size
          clear hb_w5 c_k0 f_k0
          obtain ⟨c_k0, f_k0, l_k0_w5⟩ := f3 k0
          go_wp2_with fail
          go_step3
          refine ⟨rfl, hJ _ _ ⟨n, by omega, _, _, _, ⟨by (repeat' first | with_reducible assumption | with_reducible exact Below.refl _ _ | with_reducible refine Below.alloc ?_ ?_ _ | with_reducible refine Below.setCell ?_ ?_ _ | with_reducible refine below_drewN ?_ _ | with_reducible refine Below.drew ?_ | exact Nat.le_refl _ | ((try dsimp only); omega) | (simp only [siz_alloc, siz_set]; omega)), hn, by omega, Hl.out, Hb⟩, ?_⟩⟩
          exact ⟨_, _, _, _, _, _, _, _, _, _, _, _, _, _, _, _, _, _, _, _, _, _, _, _, _, _, _, _, _, _, _, _, _, _, _, _, _, _, _, rfl⟩
        · obtain rfl : n = 0 := by omega
          have d3 : decide (l + 1 < 9) = false := by have := Hl.out; simp; omega
          go_wp2_with fail
          refine calls_gen fun V1 hV_V1 => ?_
          replace hB : Below w.heap.size w V1 := nB hV_V1
          replace hA : AP V1 ap s O := nA hV_V1
          have z_V1 := zS hV_V1
          clear hV_V1
          refine (wRow_calls _ _ hA).mono ?_
          rintro e_w2 w2 ⟨rfl, hb_w2⟩
          replace hA := hA.below hb_w2
          replace hB := below_step hB hb_w2
          have z_w2 := hb_w2.size
          clear hb_w2
          unfold Nd.val
          go_wp2_with fail
          refine calls_gen fun V2 hV_V2 => ?_
          have n_k0 := hbk hV_V2 (w2.heap.size)
          simp (maxDischargeDepth := 9) only [BK, not_false_eq_true, reduceCtorEq] at n_k0
          have o_k0 : ¬ O (w2.heap.size) := by first | exact hA.new (Nat.le_refl _) | exact hA.new (by omega)
          replace hB : Below w.heap.size w V2 := nB hV_V2
          replace hA : AP V2 ap s O := nA hV_V2
          have z_V2 := zS hV_V2
          clear hV_V2
          have k0 := n_k0; clear n_k0
          obtain ⟨c_k0, f_k0, l_k0_V2⟩ := f3 k0
          refine (symBit_calls _ _ _).mono ?_
          rintro e_q w_q ⟨rfl, rfl⟩
          rw [Ho.out]
          go_wp2_with fail
          refine calls_gen fun V3 hV_V3 => ?_
          replace k0 := kK hV_V3 k0
          replace hB : Below w.heap.size w V3 := nB hV_V3
          replace hA : AP V3 ap s O := nA hV_V3
          have z_V3 := zS hV_V3
          clear hV_V3 c_k0 f_k0
          obtain ⟨c_k0, f_k0, l_k0_V3⟩ := f3 k0
          refine (wAlike_calls _ _ _ _ Hj.out _ hA).mono ?_
          rintro e_w4 w4 ⟨rfl, hb_w4⟩
          replace hA := hA.below hb_w4
          replace hB := below_step hB hb_w4
          replace k0 := keep_blk hb_w4 k0
          have z_w4 := hb_w4.size
          clear hb_w4 c_k0 f_k0
          obtain ⟨c_k0, f_k0, l_k0_w4⟩ := f3 k0
          go_wp2_with fail
          refine calls_gen fun V4 hV_V4 => ?_
          replace k0 := kK hV_V4 k0
          replace hB : Below w.heap.size w V4 := nB hV_V4
          replace hA : AP V4 ap s O := nA hV_V4
          have z_V4 := zS hV_V4
          clear hV_V4 c_k0 f_k0
          obtain ⟨c_k0, f_k0, l_k0_V4⟩ := f3 k0
          refine (wKid_calls (s.get x) _ _).mono ?_
          rintro e_w5 w5 ⟨rfl, hb_w5⟩
          replace hA := hA.below hb_w5
          replace hB := below_step hB hb_w5
          replace k0 := keep_blk hb_w5 k0
          have z_w5 := hb_w5.size
          clear hb_w5 c_k0 f_k0
          obtain ⟨c_k0, f_k0, l_k0_w5⟩ := f3 k0
          go_wp2_with fail
          simp only [Exit.jump]
          go_ret
          exact ⟨by rw [← Option.some.inj Hb.out]; rfl, by (repeat' first | with_reducible assumption | with_reducible exact Below.refl _ _ | with_reducible refine Below.alloc ?_ ?_ _ | with_reducible refine Below.setCell ?_ ?_ _ | with_reducible refine below_drewN ?_ _ | with_reducible refine Below.drew ?_ | exact Nat.le_refl _ | ((try dsimp only); omega) | (simp only [siz_alloc, siz_set]; omega))⟩
      · rw [if_neg hj0] at hb
        have d4 : decide (0 < j) = false := by simpa using hj0
        obtain rfl := Option.some.inj hb
        clear hb hj0
        by_cases hn : 1 ≤ n
        all_goals
          first
          | have d3 : decide (l + 1 < 9) = true := by have := Hl.out; simp; omega
          | have d3 : decide (l + 1 < 9) = false := by have := Hl.out; simp; omega
          go_wp2_with fail
          refine calls_gen fun V1 hV_V1 => ?_
          replace hB : Below w.heap.size w V1 := nB hV_V1
          replace hA : AP V1 ap s O := nA hV_V1
          have z_V1 := zS hV_V1
          clear hV_V1
          refine (wRow_calls _ _ hA).mono ?_
          rintro e_w2 w2 ⟨rfl, hb_w2⟩
          replace hA := hA.below hb_w2
          replace hB := below_step hB hb_w2
          have z_w2 := hb_w2.size
          clear hb_w2
          unfold Nd.val
          go_wp2_with fail
          refine calls_gen fun V2 hV_V2 => ?_
          have n_k0 := hbk hV_V2 (w2.heap.size)
          simp (maxDischargeDepth := 9) only [BK, not_false_eq_true, reduceCtorEq] at n_k0
          have o_k0 : ¬ O (w2.heap.size) := by first | exact hA.new (Nat.le_refl _) | exact hA.new (by omega)
          replace hB : Below w.heap.size w V2 := nB hV_V2
          replace hA : AP V2 ap s O := nA hV_V2
          have z_V2 := zS hV_V2
          clear hV_V2
          have k0 := n_k0; clear n_k0
          obtain ⟨c_k0, f_k0, l_k0_V2⟩ := f3 k0
          refine (symBit_calls _ _ _).mono ?_
          rintro e_q w_q ⟨rfl, rfl⟩
          rw [Ho.out]
          go_wp2_with fail
          refine calls_gen fun V3 hV_V3 => ?_
          replace k0 := kK hV_V3 k0
          replace hB : Below w.heap.size w V3 := nB hV_V3
          replace hA : AP V3 ap s O := nA hV_V3
          have z_V3 := zS hV_V3
          clear hV_V3 c_k0 f_k0
          obtain ⟨c_k0, f_k0, l_k0_V3⟩ := f3 k0
          refine (wAlike_calls _ _ _ _ Hj.out _ hA).mono ?_
          rintro e_w4 w4 ⟨rfl, hb_w4⟩
          replace hA := hA.below hb_w4
          replace hB := below_step hB hb_w4
          replace k0 := keep_blk hb_w4 k0
          have z_w4 := hb_w4.size
          clear hb_w4 c_k0 f_k0
          obtain ⟨c_k0, f_k0, l_k0_w4⟩ := f3 k0
          go_wp2_with fail
          refine calls_gen fun V4 hV_V4 => ?_
          replace k0 := kK hV_V4 k0
          replace hB : Below w.heap.size w V4 := nB hV_V4
          replace hA : AP V4 ap s O := nA hV_V4
          have z_V4 := zS hV_V4
          clear hV_V4 c_k0 f_k0
          obtain ⟨c_k0, f_k0, l_k0_V4⟩ := f3 k0
          refine (wKid_calls (s.get x) _ _).mono ?_
          rintro e_w5 w5 ⟨rfl, hb_w5⟩
          replace hA := hA.below hb_w5
          replace hB := below_step hB hb_w5
          replace k0 := keep_blk hb_w5 k0
          have z_w5 := hb_w5.size
          clear hb_w5 c_k0 f_k0
          obtain ⟨c_k0, f_k0, l_k0_w5⟩ := f3 k0
          go_wp2_with fail
          simp only [Exit.jump]
          go_ret
          exact ⟨rfl, by (repeat' first | with_reducible assumption | with_reducible exact Below.refl _ _ | with_reducible refine Below.alloc ?_ ?_ _ | with_reducible refine Below.setCell ?_ ?_ _ | with_reducible refine below_drewN ?_ _ | with_reducible refine Below.drew ?_ | exact Nat.le_refl _ | ((try dsimp only); omega) | (simp only [siz_alloc, siz_set]; omega))⟩
end Go.Proofs.YtdjpjmkpndmhaaaGreat
/- Rows of symbols in an arena: how many are less than a symbol. -/
namespace Go.Proofs.YtdjpjmkpndmhaaaGreat
set_option linter.unusedSimpArgs false
set_option linter.unusedVariables false
set_option linter.unnecessarySimpa false
open Go.RowKit
attribute [local go_sem ↓] Go.wp_at_zero Go.wp_at_succ
attribute [local go_sem] lt_s2 lt_s3 lt_s4
variable {ap : Value} {s : Ar} {O : Nat → Prop}
set_option maxRecDepth 100000 in
set_option maxHeartbeats 4000000 in
theorem wBefore_calls (h c r : Int) (hr : wBefore s h c = some r) (w : World) (hA : AP w ap s O) :
    Calls Tryz.prog 80 #[ap, .int .i64 h, .int .i64 c] w fun e w' => e = .returned (.int .i64 r) ∧ Below w.heap.size w w' := by
  unfold wBefore at hr
  by_cases h1 : c < 0
  · have d1 : decide (c < 0) = true := by simpa using h1
    rw [if_pos h1] at hr
    cases hr
    clear h1
    go_enter Tryz.func80, Tryz.ntmps80
    go_wp2_with fail
    go_step3
    go_wp2_with fail
    simp only [Exit.noGoto_ret]
    go_ret
    exact ⟨rfl, by (repeat' first | with_reducible assumption | with_reducible exact Below.refl _ _ | with_reducible refine Below.alloc ?_ ?_ _ | with_reducible refine Below.setCell ?_ ?_ _ | with_reducible refine below_drewN ?_ _ | with_reducible refine Below.drew ?_ | exact Nat.le_refl _ | ((try dsimp only); omega) | (simp only [siz_alloc, siz_set]; omega))⟩
  · have d1 : decide (c < 0) = false := by simpa using h1
    rw [if_neg h1] at hr
    by_cases h2 : 257 ≤ c
    · have d2 : decide (257 ≤ c) = true := by simpa using h2
      rw [if_pos h2] at hr
      cases hr
      clear h1 h2
      go_enter Tryz.func80, Tryz.ntmps80
      go_wp2_with fail
      go_step3
      go_wp2_with fail
      refine calls_gen fun V hV_V => ?_
      have hB : Below w.heap.size w V := nB hV_V
      replace hA : AP V ap s O := nA hV_V
      have z_V := zS hV_V
      clear hV_V
      refine (wLen_calls _ _ hA).mono ?_
      rintro e_w1 w1 ⟨rfl, hb_w1⟩
      replace hA := hA.below hb_w1
      replace hB := below_step hB hb_w1
      have z_w1 := hb_w1.size
      clear hb_w1
      go_wp2_with fail
      simp only [Exit.noGoto_ret]
      go_ret
      exact ⟨rfl, by (repeat' first | with_reducible assumption | with_reducible exact Below.refl _ _ | with_reducible refine Below.alloc ?_ ?_ _ | with_reducible refine Below.setCell ?_ ?_ _ | with_reducible refine below_drewN ?_ _ | with_reducible refine Below.drew ?_ | exact Nat.le_refl _ | ((try dsimp only); omega) | (simp only [siz_alloc, siz_set]; omega))⟩
    · have d2 : decide (257 ≤ c) = false := by simpa using h2
      rw [if_neg h2] at hr
      have hb' := Lib.hid hr; clear hr h1 h2
      go_enter Tryz.func80, Tryz.ntmps80
      go_wp2_with fail
      refine wp_scope_ghost 0 (fun n a' wr => ∃ x z l, (Below w.heap.size w wr ∧ 1 ≤ n ∧ n ≤ 9 ∧ l = 9 - (n : Int) ∧ Hid (wBeforeL n s x c z = some r)) ∧ ∃ u3 u4 u5 u6 u9 u10 u11 u12 u13 u14 u15 u16 u17 u18 u19 u20 u21 u22 u23 u24 u25 u26 u27 u28 u29 u30 u31 u32 u33 u34 u35 u36 u37 u38 u39 u40 u41 u42 u43 u44 u45 u46 u47 u48 u49 u50 : Value, a' = { tmps := #[(ap : Value), (.int .i64 x : Value), (.int .i64 c : Value), u3, u4, u5, u6, (.int .i64 z : Value), (.int .i64 l : Value), u9, u10, u11, u12, u13, u14, u15, u16, u17, u18, u19, u20, u21, u22, u23, u24, u25, u26, u27, u28, u29, u30, u31, u32, u33, u34, u35, u36, u37, u38, u39, u40, u41, u42, u43, u44, u45, u46, u47, u48, u49, u50], defers := [] }) (by rfl) ?first ?pass
      case first =>
        intro hrest
        go_wp2_with fail
        go_step3
        go_step
        go_step
        refine hrest 9 _ _ ⟨h, 0, 0, ⟨Below.refl _ _, by omega, by omega, by omega, hb'⟩, ?_⟩
        exact ⟨_, _, _, _, _, _, _, _, _, _, _, _, _, _, _, _, _, _, _, _, _, _, _, _, _, _, _, _, _, _, _, _, _, _, _, _, _, _, _, _, _, _, _, _, _, _, rfl⟩
      case pass =>
        rintro n a' wr ⟨x, z, l, ⟨hB, hn1, hn2, hl, hb'⟩, u3, u4, u5, u6, u9, u10, u11, u12, u13, u14, u15, u16, u17, u18, u19, u20, u21, u22, u23, u24, u25, u26, u27, u28, u29, u30, u31, u32, u33, u34, u35, u36, u37, u38, u39, u40, u41, u42, u43, u44, u45, u46, u47, u48, u49, u50, rfl⟩ J hJ
        have hA := hA.below hB
        have z_r := hB.size
        have hb := hb'.out
        clear hb'
        obtain ⟨n, rfl⟩ : ∃ m, n = m + 1 := ⟨n - 1, by omega⟩
        unfold wBeforeL at hb
        have e8 : (8 - (n : Int)) = l := by omega
        rw [e8] at hb
        have hl' : l + 1 = 9 - (n : Int) := by omega
        have hl1 : 0 ≤ l := by omega
        have hl2 : l ≤ 9 := by omega
        have Hl := Lib.hid hl'
        clear hl' hl e8
        cases ho : symBit c l with
        | true =>
          rw [ho, if_pos rfl] at hb
          obtain ⟨j, hj, hb⟩ := Option.bind_eq_some_iff.1 hb
          have Hj := Lib.hid hj; clear hj
          have Hb := Lib.hid hb; clear hb
          have Ho := Lib.hid ho; clear ho
          by_cases hn : 1 ≤ n
          all_goals
            first
            | have d3 : decide (l + 1 < 9) = true := by have := Hl.out; simp; omega
            | have d3 : decide (l + 1 < 9) = false := by have := Hl.out; simp; omega
            go_wp2_with fail
            refine calls_gen fun V1 hV_V1 => ?_
            replace hB : Below w.heap.size w V1 := nB hV_V1
            replace hA : AP V1 ap s O := nA hV_V1
            have z_V1 := zS hV_V1
            clear hV_V1
            refine (wRow_calls _ _ hA).mono ?_
            rintro e_w2 w2 ⟨rfl, hb_w2⟩
            replace hA := hA.below hb_w2
            replace hB := below_step hB hb_w2
            have z_w2 := hb_w2.size
            clear hb_w2
            unfold Nd.val
            go_wp2_with fail
            refine calls_gen fun V2 hV_V2 => ?_
            have n_k0 := hbk hV_V2 (w2.heap.size)
            simp (maxDischargeDepth := 9) only [BK, not_false_eq_true, reduceCtorEq] at n_k0
            have o_k0 : ¬ O (w2.heap.size) := by first | exact hA.new (Nat.le_refl _) | exact hA.new (by omega)
            replace hB : Below w.heap.size w V2 := nB hV_V2
            replace hA : AP V2 ap s O := nA hV_V2
            have z_V2 := zS hV_V2
            clear hV_V2
            have k0 := n_k0; clear n_k0
            obtain ⟨c_k0, f_k0, l_k0_V2⟩ := f3 k0
            refine (symBit_calls _ _ _).mono ?_
            rintro e_q w_q ⟨rfl, rfl⟩
            rw [Ho.out]
            go_wp2_with fail
            refine wp_gen fun V3 hV_V3 => ?_
            replace k0 := kK hV_V3 k0
            replace hB : Below w.heap.size w V3 := nB hV_V3
            replace hA : AP V3 ap s O := nA hV_V3
            have z_V3 := zS hV_V3
            clear hV_V3 c_k0 f_k0
            obtain ⟨c_k0, f_k0, l_k0_V3⟩ := f3 k0
            refine wp_region_noPanic ?_
            refine wp_region_held_drew (S := fun v => (∀ o, v.cell? ⟨w2.heap.size, o, none⟩ = V3.cell? ⟨w2.heap.size, o, none⟩) ∧ (V3.heap.size ≤ v.heap.size) ∧ AP v ap s O) (by kernel_rfl) ⟨(fun _ => rfl), (Nat.le_refl _), hA.drew⟩ (fun hHeld => ?_)
            generalize hV_V3d : V3.drew = V3d at hHeld ⊢
            have d_k0 := dK hV_V3d k0
            clear c_k0 f_k0
            replace hA := hA.drew; rw [hV_V3d] at hA
            replace hB := hB.drew; rw [hV_V3d] at hB
            have z_V3d := dZ hV_V3d
            have v_k0 := cells_of k0
            clear k0; have k0 := d_k0; clear d_k0
            obtain ⟨c_k0, f_k0, l_k0_V3d⟩ := f3 k0
            clear hV_V3d
            refine tz 0 rfl hHeld ?_
            try simp only [PT]
            refine tz 1 rfl hHeld ?_
            try simp only [PT]
            refine tz 2 rfl hHeld ?_
            try simp only [PT]
            refine tz 3 rfl hHeld ?_
            try simp only [PT]
            refine tz 4 rfl hHeld ?_
            try simp only [PT]
            refine tz 5 rfl hHeld ?_
            try simp only [PT]
            refine tz 6 rfl hHeld ?_
            try simp only [PT]
            refine tz 7 rfl hHeld ?_
            try simp only [PT]
            refine tz 8 rfl hHeld ?_
            try simp only [PT]
            refine rd 9 rfl fun K hK => ?_
            go_simp
            try simp only [IntWalk.i64_left]
            refine (bLen_calls _ _ hA).mono ?_
            rintro e_w3 w3 ⟨rfl, hb_w3⟩
            replace hA := hA.below hb_w3
            replace hB := below_step hB hb_w3
            replace k0 := keep_blk hb_w3 k0
            have z_w3 := hb_w3.size
            clear hb_w3 c_k0 f_k0
            obtain ⟨c_k0, f_k0, l_k0_w3⟩ := f3 k0
            refine hK.out _ _ ⟨(fun o => (c_k0 o).trans (v_k0 o).symm), (by omega), hA⟩ (fun hHeld => ?_)
            clear hK K
            try simp only [PT]
            refine rd 10 rfl fun K hK => ?_
            go_simp
            try simp only [IntWalk.i64_left]
            refine (wAlike_calls _ _ _ _ Hj.out _ hA).mono ?_
            rintro e_w4 w4 ⟨rfl, hb_w4⟩
            replace hA := hA.below hb_w4
            replace hB := below_step hB hb_w4
            replace k0 := keep_blk hb_w4 k0
            have z_w4 := hb_w4.size
            clear hb_w4 c_k0 f_k0
            obtain ⟨c_k0, f_k0, l_k0_w4⟩ := f3 k0
            refine hK.out _ _ ⟨(fun o => (c_k0 o).trans (v_k0 o).symm), (by omega), hA⟩ (fun hHeld => ?_)
            clear hK K
            try simp only [PT]
            refine tz 11 rfl hHeld ?_
            try simp only [PT]
            refine rd 12 rfl fun K hK => ?_
            go_simp
            refine hK.out _ _ hHeld (fun hHeld => ?_)
            clear hK K
            try simp only [PT]
            refine wpAnyH_done (by kernel_rfl) ?_ _
            refine NoPanic.normal ?_
            go_wp2_with fail
            refine calls_gen fun V4 hV_V4 => ?_
            replace k0 := kK hV_V4 k0
            replace hB : Below w.heap.size w V4 := nB hV_V4
            replace hA : AP V4 ap s O := nA hV_V4
            have z_V4 := zS hV_V4
            clear hV_V4 c_k0 f_k0
            obtain ⟨c_k0, f_k0, l_k0_V4⟩ := f3 k0
            refine (wKid_calls (s.get x) _ _).mono ?_
            rintro e_w5 w5 ⟨rfl, hb_w5⟩
            replace hA := hA.below hb_w5
            replace hB := below_step hB hb_w5
            replace k0 := keep_blk hb_w5 k0
            have z_w5 := hb_w5.size
            clear hb_w5 c_k0 f_k0
            obtain ⟨c_k0, f_k0, l_k0_w5⟩ := f3 k0
            go_wp2_with fail
            first
            | (go_step3; refine ⟨rfl, hJ _ _ ⟨n, by omega, _, _, _, ⟨by (repeat' first | with_reducible assumption | with_reducible exact Below.refl _ _ | with_reducible refine Below.alloc ?_ ?_ _ | with_reducible refine Below.setCell ?_ ?_ _ | with_reducible refine below_drewN ?_ _ | with_reducible refine Below.drew ?_ | exact Nat.le_refl _ | ((try dsimp only); omega) | (simp only [siz_alloc, siz_set]; omega)), hn, by omega, Hl.out, Hb⟩, ?_⟩⟩; exact ⟨_, _, _, _, _, _, _, _, _, _, _, _, _, _, _, _, _, _, _, _, _, _, _, _, _, _, _, _, _, _, _, _, _, _, _, _, _, _, _, _, _, _, _, _, _, _, rfl⟩)
            | (simp only [Exit.jump]; go_ret; obtain rfl : n = 0 := (by omega); exact ⟨by first | (rw [← Option.some.inj Hb.out]; done) | (rw [← Option.some.inj Hb.out]; rfl) | (have e := Option.some.inj Hb.out; subst e; rfl), by (repeat' first | with_reducible assumption | with_reducible exact Below.refl _ _ | with_reducible refine Below.alloc ?_ ?_ _ | with_reducible refine Below.setCell ?_ ?_ _ | with_reducible refine below_drewN ?_ _ | with_reducible refine Below.drew ?_ | exact Nat.le_refl _ | ((try dsimp only); omega) | (simp only [siz_alloc, siz_set]; omega))⟩)
        | false =>
          rw [ho, if_neg (by decide)] at hb
          have Hb := Lib.hid hb; clear hb
          have Ho := Lib.hid ho; clear ho
          by_cases hn : 1 ≤ n
          all_goals
            first
            | have d3 : decide (l + 1 < 9) = true := by have := Hl.out; simp; omega
            | have d3 : decide (l + 1 < 9) = false := by have := Hl.out; simp; omega
            go_wp2_with fail
            refine calls_gen fun V1 hV_V1 => ?_
            replace hB : Below w.heap.size w V1 := nB hV_V1
            replace hA : AP V1 ap s O := nA hV_V1
            have z_V1 := zS hV_V1
            clear hV_V1
            refine (wRow_calls _ _ hA).mono ?_
            rintro e_w2 w2 ⟨rfl, hb_w2⟩
            replace hA := hA.below hb_w2
            replace hB := below_step hB hb_w2
            have z_w2 := hb_w2.size
            clear hb_w2
            unfold Nd.val
            go_wp2_with fail
            refine calls_gen fun V2 hV_V2 => ?_
            have n_k0 := hbk hV_V2 (w2.heap.size)
            simp (maxDischargeDepth := 9) only [BK, not_false_eq_true, reduceCtorEq] at n_k0
            have o_k0 : ¬ O (w2.heap.size) := by first | exact hA.new (Nat.le_refl _) | exact hA.new (by omega)
            replace hB : Below w.heap.size w V2 := nB hV_V2
            replace hA : AP V2 ap s O := nA hV_V2
            have z_V2 := zS hV_V2
            clear hV_V2
            have k0 := n_k0; clear n_k0
            obtain ⟨c_k0, f_k0, l_k0_V2⟩ := f3 k0
            refine (symBit_calls _ _ _).mono ?_
            rintro e_q w_q ⟨rfl, rfl⟩
            rw [Ho.out]
            go_wp2_with fail
            refine calls_gen fun V4 hV_V4 => ?_
            replace k0 := kK hV_V4 k0
            replace hB : Below w.heap.size w V4 := nB hV_V4
            replace hA : AP V4 ap s O := nA hV_V4
            have z_V4 := zS hV_V4
            clear hV_V4 c_k0 f_k0
            obtain ⟨c_k0, f_k0, l_k0_V4⟩ := f3 k0
            refine (wKid_calls (s.get x) _ _).mono ?_
            rintro e_w5 w5 ⟨rfl, hb_w5⟩
            replace hA := hA.below hb_w5
            replace hB := below_step hB hb_w5
            replace k0 := keep_blk hb_w5 k0
            have z_w5 := hb_w5.size
            clear hb_w5 c_k0 f_k0
            obtain ⟨c_k0, f_k0, l_k0_w5⟩ := f3 k0
            go_wp2_with fail
            first
            | (go_step3; refine ⟨rfl, hJ _ _ ⟨n, by omega, _, _, _, ⟨by (repeat' first | with_reducible assumption | with_reducible exact Below.refl _ _ | with_reducible refine Below.alloc ?_ ?_ _ | with_reducible refine Below.setCell ?_ ?_ _ | with_reducible refine below_drewN ?_ _ | with_reducible refine Below.drew ?_ | exact Nat.le_refl _ | ((try dsimp only); omega) | (simp only [siz_alloc, siz_set]; omega)), hn, by omega, Hl.out, Hb⟩, ?_⟩⟩; exact ⟨_, _, _, _, _, _, _, _, _, _, _, _, _, _, _, _, _, _, _, _, _, _, _, _, _, _, _, _, _, _, _, _, _, _, _, _, _, _, _, _, _, _, _, _, _, _, rfl⟩)
            | (simp only [Exit.jump]; go_ret; obtain rfl : n = 0 := (by omega); exact ⟨by first | (rw [← Option.some.inj Hb.out]; done) | (rw [← Option.some.inj Hb.out]; rfl) | (have e := Option.some.inj Hb.out; subst e; rfl), by (repeat' first | with_reducible assumption | with_reducible exact Below.refl _ _ | with_reducible refine Below.alloc ?_ ?_ _ | with_reducible refine Below.setCell ?_ ?_ _ | with_reducible refine below_drewN ?_ _ | with_reducible refine Below.drew ?_ | exact Nat.le_refl _ | ((try dsimp only); omega) | (simp only [siz_alloc, siz_set]; omega))⟩)
end Go.Proofs.YtdjpjmkpndmhaaaGreat
/- Versions. -/
namespace Go.Proofs.YtdjpjmkpndmhaaaGreat
set_option linter.unusedSimpArgs false
set_option linter.unusedVariables false
set_option linter.unnecessarySimpa false
open Go.RowKit
attribute [local go_sem ↓] Go.wp_at_zero Go.wp_at_succ
attribute [local go_sem] lt_s2 lt_s3 lt_s4
attribute [local go_sem] idx0 idx1 idx2 idx3
variable {ap : Value} {s : Ar} {O : Nat → Prop}
def Parts.val (p : Parts) : Value := .agg #[.int .i64 p.wave, .int .i64 p.marks, .int .i64 p.spots, .int .i64 p.table]
set_option maxRecDepth 100000 in
set_option maxHeartbeats 2000000 in
theorem vOf_calls (h : Int) (w : World) (hA : AP w ap s O) :
    Calls Tryz.prog 19 #[ap, .int .i64 h] w fun e w' => e = .returned (.tuple #[(vOf s h).val, .bool (vIs s h)]) ∧ Below w.heap.size w w' := by
  unfold Parts.val
  by_cases h1 : h = 0
  · have E1 : vOf s h = Parts.zero := by unfold vOf; rw [if_neg (by simp [h1])]
    have E2 : vIs s h = true := by unfold vIs; simp [h1]
    rw [E1, E2]
    have d1 : (h == 0) = true := by simpa using h1
    clear h1 E1 E2
    go_enter Tryz.func19, Tryz.ntmps19
    go_wp2_with fail
    refine bodyPost_ret (v := .tuple #[.agg #[.int .i64 0, .int .i64 0, .int .i64 0, .int .i64 0], .bool true]) (by simp [results, Tryz.results19, go_sem, *]) rfl ⟨rfl, by (repeat' first | with_reducible assumption | with_reducible exact Below.refl _ _ | with_reducible refine Below.alloc ?_ ?_ _ | with_reducible refine Below.setCell ?_ ?_ _ | with_reducible refine below_drewN ?_ _ | with_reducible refine Below.drew ?_ | exact Nat.le_refl _ | ((try dsimp only); omega) | (simp only [siz_alloc, siz_set]; omega))⟩
  · have d1 : (h == 0) = false := by simpa using h1
    cases h2 : s.has h with
    | false =>
      have E2 : vIs s h = false := by unfold vIs; simp [h1, h2]
      have E1 : vOf s h = Parts.zero := by unfold vOf; rw [if_neg (by simp [E2])]
      rw [E1, E2]
      clear h1 E1 E2
      go_enter Tryz.func19, Tryz.ntmps19
      go_wp2_with fail
      refine calls_gen fun V hV_V => ?_
      have n_kr := hbk hV_V (w.heap.size)
      simp (maxDischargeDepth := 9) only [BK, not_false_eq_true, reduceCtorEq] at n_kr
      have o_kr : ¬ O (w.heap.size) := by first | exact hA.new (Nat.le_refl _) | exact hA.new (by omega)
      have hB : Below w.heap.size w V := nB hV_V
      replace hA : AP V ap s O := nA hV_V
      have z_V := zS hV_V
      clear hV_V
      have kr := n_kr; clear n_kr
      obtain ⟨c_kr, f_kr, l_kr_V⟩ := f3 kr
      refine (aget_calls _ _ hA).mono ?_
      rintro e_W1 W1 ⟨rfl, hb_W1⟩
      replace hA := hA.below hb_W1
      replace hB := below_step hB hb_W1
      replace kr := keep_blk hb_W1 kr
      have z_W1 := hb_W1.size
      clear hb_W1 c_kr f_kr
      obtain ⟨c_kr, f_kr, l_kr_W1⟩ := f3 kr
      rw [h2]
      unfold Nd.val
      go_wp2_with fail
      refine bodyPost_ret (v := .tuple #[.agg #[.int .i64 0, .int .i64 0, .int .i64 0, .int .i64 0], .bool false]) (by simp [results, Tryz.results19, go_sem, *]) rfl ⟨rfl, by (repeat' first | with_reducible assumption | with_reducible exact Below.refl _ _ | with_reducible refine Below.alloc ?_ ?_ _ | with_reducible refine Below.setCell ?_ ?_ _ | with_reducible refine below_drewN ?_ _ | with_reducible refine Below.drew ?_ | exact Nat.le_refl _ | ((try dsimp only); omega) | (simp only [siz_alloc, siz_set]; omega))⟩
    | true =>
      by_cases h3 : s.cnt h = 0
      · have E2 : vIs s h = false := by unfold vIs; simp [h1, h2, h3]
        have E1 : vOf s h = Parts.zero := by unfold vOf; rw [if_neg (by simp [E2])]
        rw [E1, E2]
        have d3 : (s.cnt h == 0) = true := by simpa using h3
        clear h1 E1 E2 h3
        go_enter Tryz.func19, Tryz.ntmps19
        go_wp2_with fail
        refine calls_gen fun V hV_V => ?_
        have n_kr := hbk hV_V (w.heap.size)
        simp (maxDischargeDepth := 9) only [BK, not_false_eq_true, reduceCtorEq] at n_kr
        have o_kr : ¬ O (w.heap.size) := by first | exact hA.new (Nat.le_refl _) | exact hA.new (by omega)
        have hB : Below w.heap.size w V := nB hV_V
        replace hA : AP V ap s O := nA hV_V
        have z_V := zS hV_V
        clear hV_V
        have kr := n_kr; clear n_kr
        obtain ⟨c_kr, f_kr, l_kr_V⟩ := f3 kr
        refine (aget_calls _ _ hA).mono ?_
        rintro e_W1 W1 ⟨rfl, hb_W1⟩
        replace hA := hA.below hb_W1
        replace hB := below_step hB hb_W1
        replace kr := keep_blk hb_W1 kr
        have z_W1 := hb_W1.size
        clear hb_W1 c_kr f_kr
        obtain ⟨c_kr, f_kr, l_kr_W1⟩ := f3 kr
        rw [h2]
        unfold Nd.val
        go_wp2_with fail
        refine calls_gen fun V1 hV_V1 => ?_
        have n_kn := hbk hV_V1 (W1.heap.size)
        simp (maxDischargeDepth := 9) only [BK, not_false_eq_true, reduceCtorEq, kr, l_kr_V, l_kr_W1] at n_kn
        have o_kn : ¬ O (W1.heap.size) := by first | exact hA.new (Nat.le_refl _) | exact hA.new (by omega)
        replace kr := kK hV_V1 kr
        replace hB : Below w.heap.size w V1 := nB hV_V1
        replace hA : AP V1 ap s O := nA hV_V1
        have z_V1 := zS hV_V1
        clear hV_V1 c_kr f_kr
        obtain ⟨c_kr, f_kr, l_kr_V1⟩ := f3 kr
        have kn := n_kn; clear n_kn
        obtain ⟨c_kn, f_kn, l_kn_V1⟩ := f3 kn
        refine (count_calls _ _ hA).mono ?_
        rintro e_q w_q ⟨rfl, rfl⟩
        go_wp2_with fail
        refine bodyPost_ret (v := .tuple #[.agg #[.int .i64 0, .int .i64 0, .int .i64 0, .int .i64 0], .bool false]) (by simp [results, Tryz.results19, go_sem, *]) rfl ⟨rfl, by (repeat' first | with_reducible assumption | with_reducible exact Below.refl _ _ | with_reducible refine Below.alloc ?_ ?_ _ | with_reducible refine Below.setCell ?_ ?_ _ | with_reducible refine below_drewN ?_ _ | with_reducible refine Below.drew ?_ | exact Nat.le_refl _ | ((try dsimp only); omega) | (simp only [siz_alloc, siz_set]; omega))⟩
      · have d3 : (s.cnt h == 0) = false := by simpa using h3
        by_cases h4 : (s.get h).tag = 6
        · have E2 : vIs s h = true := by unfold vIs; simp [h1, h2, h3, h4]
          have E1 : vOf s h = ⟨(s.get h).k0, (s.get h).k1, (s.get h).k2, (s.get h).k3⟩ := by unfold vOf; rw [if_pos ⟨h1, E2⟩]
          rw [E1, E2]
          have d4 : ((s.get h).tag != 6) = false := by simp [h4]
          clear h1 E1 E2 h3 h4
          go_enter Tryz.func19, Tryz.ntmps19
          go_wp2_with fail
          refine calls_gen fun V hV_V => ?_
          have n_kr := hbk hV_V (w.heap.size)
          simp (maxDischargeDepth := 9) only [BK, not_false_eq_true, reduceCtorEq] at n_kr
          have o_kr : ¬ O (w.heap.size) := by first | exact hA.new (Nat.le_refl _) | exact hA.new (by omega)
          have hB : Below w.heap.size w V := nB hV_V
          replace hA : AP V ap s O := nA hV_V
          have z_V := zS hV_V
          clear hV_V
          have kr := n_kr; clear n_kr
          obtain ⟨c_kr, f_kr, l_kr_V⟩ := f3 kr
          refine (aget_calls _ _ hA).mono ?_
          rintro e_W1 W1 ⟨rfl, hb_W1⟩
          replace hA := hA.below hb_W1
          replace hB := below_step hB hb_W1
          replace kr := keep_blk hb_W1 kr
          have z_W1 := hb_W1.size
          clear hb_W1 c_kr f_kr
          obtain ⟨c_kr, f_kr, l_kr_W1⟩ := f3 kr
          rw [h2]
          unfold Nd.val
          go_wp2_with fail
          refine calls_gen fun V1 hV_V1 => ?_
          have n_kn := hbk hV_V1 (W1.heap.size)
          simp (maxDischargeDepth := 9) only [BK, not_false_eq_true, reduceCtorEq, kr, l_kr_V, l_kr_W1] at n_kn
          have o_kn : ¬ O (W1.heap.size) := by first | exact hA.new (Nat.le_refl _) | exact hA.new (by omega)
          replace kr := kK hV_V1 kr
          replace hB : Below w.heap.size w V1 := nB hV_V1
          replace hA : AP V1 ap s O := nA hV_V1
          have z_V1 := zS hV_V1
          clear hV_V1 c_kr f_kr
          obtain ⟨c_kr, f_kr, l_kr_V1⟩ := f3 kr
          have kn := n_kn; clear n_kn
          obtain ⟨c_kn, f_kn, l_kn_V1⟩ := f3 kn
          refine (count_calls _ _ hA).mono ?_
          rintro e_q w_q ⟨rfl, rfl⟩
          go_wp2_with fail
          refine bodyPost_ret (v := .tuple #[.agg #[.int .i64 (s.get h).k0, .int .i64 (s.get h).k1, .int .i64 (s.get h).k2, .int .i64 (s.get h).k3], .bool true]) (by simp [results, Tryz.results19, go_sem, *]) rfl ⟨rfl, by (repeat' first | with_reducible assumption | with_reducible exact Below.refl _ _ | with_reducible refine Below.alloc ?_ ?_ _ | with_reducible refine Below.setCell ?_ ?_ _ | with_reducible refine below_drewN ?_ _ | with_reducible refine Below.drew ?_ | exact Nat.le_refl _ | ((try dsimp only); omega) | (simp only [siz_alloc, siz_set]; omega))⟩
        · have E2 : vIs s h = false := by unfold vIs; simp [h1, h2, h3, h4]
          have E1 : vOf s h = Parts.zero := by unfold vOf; rw [if_neg (by simp [E2])]
          rw [E1, E2]
          have d4 : ((s.get h).tag != 6) = true := by simp [h4]
          clear h1 E1 E2 h3 h4
          go_enter Tryz.func19, Tryz.ntmps19
          go_wp2_with fail
          refine calls_gen fun V hV_V => ?_
          have n_kr := hbk hV_V (w.heap.size)
          simp (maxDischargeDepth := 9) only [BK, not_false_eq_true, reduceCtorEq] at n_kr
          have o_kr : ¬ O (w.heap.size) := by first | exact hA.new (Nat.le_refl _) | exact hA.new (by omega)
          have hB : Below w.heap.size w V := nB hV_V
          replace hA : AP V ap s O := nA hV_V
          have z_V := zS hV_V
          clear hV_V
          have kr := n_kr; clear n_kr
          obtain ⟨c_kr, f_kr, l_kr_V⟩ := f3 kr
          refine (aget_calls _ _ hA).mono ?_
          rintro e_W1 W1 ⟨rfl, hb_W1⟩
          replace hA := hA.below hb_W1
          replace hB := below_step hB hb_W1
          replace kr := keep_blk hb_W1 kr
          have z_W1 := hb_W1.size
          clear hb_W1 c_kr f_kr
          obtain ⟨c_kr, f_kr, l_kr_W1⟩ := f3 kr
          rw [h2]
          unfold Nd.val
          go_wp2_with fail
          refine calls_gen fun V1 hV_V1 => ?_
          have n_kn := hbk hV_V1 (W1.heap.size)
          simp (maxDischargeDepth := 9) only [BK, not_false_eq_true, reduceCtorEq, kr, l_kr_V, l_kr_W1] at n_kn
          have o_kn : ¬ O (W1.heap.size) := by first | exact hA.new (Nat.le_refl _) | exact hA.new (by omega)
          replace kr := kK hV_V1 kr
          replace hB : Below w.heap.size w V1 := nB hV_V1
          replace hA : AP V1 ap s O := nA hV_V1
          have z_V1 := zS hV_V1
          clear hV_V1 c_kr f_kr
          obtain ⟨c_kr, f_kr, l_kr_V1⟩ := f3 kr
          have kn := n_kn; clear n_kn
          obtain ⟨c_kn, f_kn, l_kn_V1⟩ := f3 kn
          refine (count_calls _ _ hA).mono ?_
          rintro e_q w_q ⟨rfl, rfl⟩
          go_wp2_with fail
          refine bodyPost_ret (v := .tuple #[.agg #[.int .i64 0, .int .i64 0, .int .i64 0, .int .i64 0], .bool false]) (by simp [results, Tryz.results19, go_sem, *]) rfl ⟨rfl, by (repeat' first | with_reducible assumption | with_reducible exact Below.refl _ _ | with_reducible refine Below.alloc ?_ ?_ _ | with_reducible refine Below.setCell ?_ ?_ _ | with_reducible refine below_drewN ?_ _ | with_reducible refine Below.drew ?_ | exact Nat.le_refl _ | ((try dsimp only); omega) | (simp only [siz_alloc, siz_set]; omega))⟩
set_option maxRecDepth 100000 in
set_option maxHeartbeats 800000 in
theorem vRows_calls (h : Int) (w : World) (hA : AP w ap s O) :
    Calls Tryz.prog 27 #[ap, .int .i64 h] w fun e w' => e = .returned (.int .i64 (vRows s h)) ∧ Below w.heap.size w w' := by
  go_enter Tryz.func27, Tryz.ntmps27
  go_wp2_with fail
  refine calls_gen fun V hV_V => ?_
  have hB : Below w.heap.size w V := nB hV_V
  replace hA : AP V ap s O := nA hV_V
  have z_V := zS hV_V
  clear hV_V
  refine (vOf_calls _ _ hA).mono ?_
  rintro e_W1 W1 ⟨rfl, hb_W1⟩
  replace hA := hA.below hb_W1
  replace hB := below_step hB hb_W1
  have z_W1 := hb_W1.size
  clear hb_W1
  unfold Parts.val
  go_wp2_with fail
  refine calls_gen fun V1 hV_V1 => ?_
  have n_kp := hbk hV_V1 (W1.heap.size)
  simp (maxDischargeDepth := 9) only [BK, not_false_eq_true, reduceCtorEq] at n_kp
  have o_kp : ¬ O (W1.heap.size) := by first | exact hA.new (Nat.le_refl _) | exact hA.new (by omega)
  replace hB : Below w.heap.size w V1 := nB hV_V1
  replace hA : AP V1 ap s O := nA hV_V1
  have z_V1 := zS hV_V1
  clear hV_V1
  have kp := n_kp; clear n_kp
  obtain ⟨c_kp, f_kp, l_kp_V1⟩ := f3 kp
  refine (wLen_calls _ _ hA).mono ?_
  rintro e_W2 W2 ⟨rfl, hb_W2⟩
  replace hA := hA.below hb_W2
  replace hB := below_step hB hb_W2
  replace kp := keep_blk hb_W2 kp
  have z_W2 := hb_W2.size
  clear hb_W2 c_kp f_kp
  obtain ⟨c_kp, f_kp, l_kp_W2⟩ := f3 kp
  go_wp2_with fail
  go_ret
  exact ⟨rfl, hB⟩
set_option maxRecDepth 100000 in
set_option maxHeartbeats 800000 in
theorem vDocs_calls (h : Int) (w : World) (hA : AP w ap s O) :
    Calls Tryz.prog 41 #[ap, .int .i64 h] w fun e w' => e = .returned (.int .i64 (vDocs s h)) ∧ Below w.heap.size w w' := by
  go_enter Tryz.func41, Tryz.ntmps41
  go_wp2_with fail
  refine calls_gen fun V hV_V => ?_
  have hB : Below w.heap.size w V := nB hV_V
  replace hA : AP V ap s O := nA hV_V
  have z_V := zS hV_V
  clear hV_V
  refine (vOf_calls _ _ hA).mono ?_
  rintro e_W1 W1 ⟨rfl, hb_W1⟩
  replace hA := hA.below hb_W1
  replace hB := below_step hB hb_W1
  have z_W1 := hb_W1.size
  clear hb_W1
  unfold Parts.val
  go_wp2_with fail
  refine calls_gen fun V1 hV_V1 => ?_
  have n_kp := hbk hV_V1 (W1.heap.size)
  simp (maxDischargeDepth := 9) only [BK, not_false_eq_true, reduceCtorEq] at n_kp
  have o_kp : ¬ O (W1.heap.size) := by first | exact hA.new (Nat.le_refl _) | exact hA.new (by omega)
  replace hB : Below w.heap.size w V1 := nB hV_V1
  replace hA : AP V1 ap s O := nA hV_V1
  have z_V1 := zS hV_V1
  clear hV_V1
  have kp := n_kp; clear n_kp
  obtain ⟨c_kp, f_kp, l_kp_V1⟩ := f3 kp
  refine (tLen_calls _ _ hA).mono ?_
  rintro e_W2 W2 ⟨rfl, hb_W2⟩
  replace hA := hA.below hb_W2
  replace hB := below_step hB hb_W2
  replace kp := keep_blk hb_W2 kp
  have z_W2 := hb_W2.size
  clear hb_W2 c_kp f_kp
  obtain ⟨c_kp, f_kp, l_kp_W2⟩ := f3 kp
  go_wp2_with fail
  go_ret
  exact ⟨rfl, hB⟩
set_option maxRecDepth 100000 in
set_option maxHeartbeats 2000000 in
theorem vNext_calls (h i : Int) (r : Int × Bool) (hr : vNext s h i = some r) (w : World) (hA : AP w ap s O) :
    Calls Tryz.prog 28 #[ap, .int .i64 h, .int .i64 i] w fun e w' => e = .returned (.tuple #[.int .i64 r.1, .bool r.2]) ∧ Below w.heap.size w w' := by
  unfold vNext at hr
  obtain ⟨x, h_b, h_r⟩ := Option.bind_eq_some_iff.1 hr
  have Hx := Lib.hid h_b; clear h_b hr; have hr := h_r; clear h_r
  cases h1 : x.2 with
  | false =>
    rw [if_pos (.inl h1)] at hr
    obtain rfl := Option.some.inj hr
    clear hr
    go_enter Tryz.func28, Tryz.ntmps28
    go_wp2_with fail
    refine calls_gen fun V hV_V => ?_
    have hB : Below w.heap.size w V := nB hV_V
    replace hA : AP V ap s O := nA hV_V
    have z_V := zS hV_V
    clear hV_V
    refine (vOf_calls _ _ hA).mono ?_
    rintro e_W1 W1 ⟨rfl, hb_W1⟩
    replace hA := hA.below hb_W1
    replace hB := below_step hB hb_W1
    have z_W1 := hb_W1.size
    clear hb_W1
    unfold Parts.val
    go_wp2_with fail
    refine calls_gen fun V1 hV_V1 => ?_
    have n_kp := hbk hV_V1 (W1.heap.size)
    simp (maxDischargeDepth := 9) only [BK, not_false_eq_true, reduceCtorEq] at n_kp
    have o_kp : ¬ O (W1.heap.size) := by first | exact hA.new (Nat.le_refl _) | exact hA.new (by omega)
    replace hB : Below w.heap.size w V1 := nB hV_V1
    replace hA : AP V1 ap s O := nA hV_V1
    have z_V1 := zS hV_V1
    clear hV_V1
    have kp := n_kp; clear n_kp
    obtain ⟨c_kp, f_kp, l_kp_V1⟩ := f3 kp
    refine (wGet_calls _ _ _ Hx.out _ hA).mono ?_
    rintro e_W2 W2 ⟨rfl, hb_W2⟩
    replace hA := hA.below hb_W2
    replace hB := below_step hB hb_W2
    replace kp := keep_blk hb_W2 kp
    have z_W2 := hb_W2.size
    clear hb_W2 c_kp f_kp
    obtain ⟨c_kp, f_kp, l_kp_W2⟩ := f3 kp
    rw [h1]
    go_wp2_with fail
    go_ret2
    exact ⟨rfl, hB⟩
  | true =>
    by_cases h2 : x.1 = 0
    · rw [if_pos (.inr h2)] at hr
      obtain rfl := Option.some.inj hr
      have d2 : (x.1 == 0) = true := by simpa using h2
      clear hr h2
      go_enter Tryz.func28, Tryz.ntmps28
      go_wp2_with fail
      refine calls_gen fun V hV_V => ?_
      have hB : Below w.heap.size w V := nB hV_V
      replace hA : AP V ap s O := nA hV_V
      have z_V := zS hV_V
      clear hV_V
      refine (vOf_calls _ _ hA).mono ?_
      rintro e_W1 W1 ⟨rfl, hb_W1⟩
      replace hA := hA.below hb_W1
      replace hB := below_step hB hb_W1
      have z_W1 := hb_W1.size
      clear hb_W1
      unfold Parts.val
      go_wp2_with fail
      refine calls_gen fun V1 hV_V1 => ?_
      have n_kp := hbk hV_V1 (W1.heap.size)
      simp (maxDischargeDepth := 9) only [BK, not_false_eq_true, reduceCtorEq] at n_kp
      have o_kp : ¬ O (W1.heap.size) := by first | exact hA.new (Nat.le_refl _) | exact hA.new (by omega)
      replace hB : Below w.heap.size w V1 := nB hV_V1
      replace hA : AP V1 ap s O := nA hV_V1
      have z_V1 := zS hV_V1
      clear hV_V1
      have kp := n_kp; clear n_kp
      obtain ⟨c_kp, f_kp, l_kp_V1⟩ := f3 kp
      refine (wGet_calls _ _ _ Hx.out _ hA).mono ?_
      rintro e_W2 W2 ⟨rfl, hb_W2⟩
      replace hA := hA.below hb_W2
      replace hB := below_step hB hb_W2
      replace kp := keep_blk hb_W2 kp
      have z_W2 := hb_W2.size
      clear hb_W2 c_kp f_kp
      obtain ⟨c_kp, f_kp, l_kp_W2⟩ := f3 kp
      rw [h1]
      go_wp2_with fail
      go_ret2
      exact ⟨rfl, hB⟩
    · rw [if_neg (by rw [h1]; simp [h2])] at hr
      have d2 : (x.1 == 0) = false := by simpa using h2
      clear h2
      obtain ⟨p, h_b, h_r⟩ := Option.bind_eq_some_iff.1 hr
      have Hp := Lib.hid h_b; clear h_b hr; have hr := h_r; clear h_r
      obtain ⟨q, h_b, h_r⟩ := Option.bind_eq_some_iff.1 hr
      have Hq := Lib.hid h_b; clear h_b hr; have hr := h_r; clear h_r
      obtain rfl := Option.some.inj hr
      clear hr
      go_enter Tryz.func28, Tryz.ntmps28
      go_wp2_with fail
      refine calls_gen fun V hV_V => ?_
      have hB : Below w.heap.size w V := nB hV_V
      replace hA : AP V ap s O := nA hV_V
      have z_V := zS hV_V
      clear hV_V
      refine (vOf_calls _ _ hA).mono ?_
      rintro e_W1 W1 ⟨rfl, hb_W1⟩
      replace hA := hA.below hb_W1
      replace hB := below_step hB hb_W1
      have z_W1 := hb_W1.size
      clear hb_W1
      unfold Parts.val
      go_wp2_with fail
      refine calls_gen fun V1 hV_V1 => ?_
      have n_kp := hbk hV_V1 (W1.heap.size)
      simp (maxDischargeDepth := 9) only [BK, not_false_eq_true, reduceCtorEq] at n_kp
      have o_kp : ¬ O (W1.heap.size) := by first | exact hA.new (Nat.le_refl _) | exact hA.new (by omega)
      replace hB : Below w.heap.size w V1 := nB hV_V1
      replace hA : AP V1 ap s O := nA hV_V1
      have z_V1 := zS hV_V1
      clear hV_V1
      have kp := n_kp; clear n_kp
      obtain ⟨c_kp, f_kp, l_kp_V1⟩ := f3 kp
      refine (wGet_calls _ _ _ Hx.out _ hA).mono ?_
      rintro e_W2 W2 ⟨rfl, hb_W2⟩
      replace hA := hA.below hb_W2
      replace hB := below_step hB hb_W2
      replace kp := keep_blk hb_W2 kp
      have z_W2 := hb_W2.size
      clear hb_W2 c_kp f_kp
      obtain ⟨c_kp, f_kp, l_kp_W2⟩ := f3 kp
      rw [h1]
      go_wp2_with fail
      refine wp_gen fun V2 hV_V2 => ?_
      replace kp := kK hV_V2 kp
      replace hB : Below w.heap.size w V2 := nB hV_V2
      replace hA : AP V2 ap s O := nA hV_V2
      have z_V2 := zS hV_V2
      clear hV_V2 c_kp f_kp
      obtain ⟨c_kp, f_kp, l_kp_V2⟩ := f3 kp
      refine wp_region_noPanic ?_
      refine wp_region_held_drew (S := fun v => (∀ o, v.cell? ⟨W1.heap.size, o, none⟩ = V2.cell? ⟨W1.heap.size, o, none⟩) ∧ (V2.heap.size ≤ v.heap.size) ∧ AP v ap s O) (by kernel_rfl) ⟨(fun _ => rfl), (Nat.le_refl _), hA.drew⟩ (fun hHeld => ?_)
      generalize hV_V2d : V2.drew = V2d at hHeld ⊢
      have d_kp := dK hV_V2d kp
      clear c_kp f_kp
      replace hA := hA.drew; rw [hV_V2d] at hA
      replace hB := hB.drew; rw [hV_V2d] at hB
      have z_V2d := dZ hV_V2d
      have v_kp := cells_of kp
      clear kp; have kp := d_kp; clear d_kp
      obtain ⟨c_kp, f_kp, l_kp_V2d⟩ := f3 kp
      clear hV_V2d
      refine tz 0 rfl hHeld ?_
      try simp only [PT]
      refine tz 1 rfl hHeld ?_
      try simp only [PT]
      refine tz 2 rfl hHeld ?_
      try simp only [PT]
      refine tz 3 rfl hHeld ?_
      try simp only [PT]
      refine tz 5 rfl hHeld ?_
      try simp only [PT]
      refine tz 6 rfl hHeld ?_
      try simp only [PT]
      refine tz 7 rfl hHeld ?_
      try simp only [PT]
      refine tz 8 rfl hHeld ?_
      try simp only [PT]
      refine tz 9 rfl hHeld ?_
      try simp only [PT]
      refine rd 4 rfl fun K hK => ?_
      go_simp
      try simp only [IntWalk.i64_left]
      refine (wBefore_calls _ _ _ Hp.out _ hA).mono ?_
      rintro e_W3 W3 ⟨rfl, hb_W3⟩
      replace hA := hA.below hb_W3
      replace hB := below_step hB hb_W3
      replace kp := keep_blk hb_W3 kp
      have z_W3 := hb_W3.size
      clear hb_W3 c_kp f_kp
      obtain ⟨c_kp, f_kp, l_kp_W3⟩ := f3 kp
      refine hK.out _ _ ⟨(fun o => (c_kp o).trans (v_kp o).symm), (by omega), hA⟩ (fun hHeld => ?_)
      clear hK K
      try simp only [PT]
      refine rd 10 rfl fun K hK => ?_
      go_simp
      try simp only [IntWalk.i64_left]
      refine (wRank_calls _ _ _ _ Hq.out _ hA).mono ?_
      rintro e_W4 W4 ⟨rfl, hb_W4⟩
      replace hA := hA.below hb_W4
      replace hB := below_step hB hb_W4
      replace kp := keep_blk hb_W4 kp
      have z_W4 := hb_W4.size
      clear hb_W4 c_kp f_kp
      obtain ⟨c_kp, f_kp, l_kp_W4⟩ := f3 kp
      refine hK.out _ _ ⟨(fun o => (c_kp o).trans (v_kp o).symm), (by omega), hA⟩ (fun hHeld => ?_)
      clear hK K
      try simp only [PT]
      refine tz 11 rfl hHeld ?_
      try simp only [PT]
      refine rd 12 rfl fun K hK => ?_
      go_simp
      refine hK.out _ _ hHeld (fun hHeld => ?_)
      clear hK K
      try simp only [PT]
      refine rd 13 rfl fun K hK => ?_
      go_simp
      refine hK.out _ _ hHeld (fun hHeld => ?_)
      clear hK K
      try simp only [PT]
      refine wpAnyH_done (by kernel_rfl) ?_ _
      refine NoPanic.normal ?_
      go_wp2_with fail
      go_ret2
      exact ⟨by simp only [IntWalk.i64_left]; rfl, hB⟩
end Go.Proofs.YtdjpjmkpndmhaaaGreat
/- The laws' helper Build: its closure. -/
namespace Go.Proofs.YtdjpjmkpndmhaaaGreat
set_option linter.unusedSimpArgs false
set_option linter.unusedVariables false
set_option linter.unnecessarySimpa false
open Go.RowKit
attribute [local go_sem ↓] Go.wp_at_zero Go.wp_at_succ
variable {ap : Value} {s : Ar} {O : Nat → Prop}
/-- The cell that holds whether all went well. -/
structure NB (w : World) (bo : Nat) (ap : Value) (s : Ar) (ok : Bool) (O : Nat → Prop) : Prop where
  hA : AP w ap s O
  blk : w.heap[bo]? = some (.cells #[.bool ok] 4 (0, 0))
  no : ¬ O bo
set_option maxRecDepth 100000 in
set_option maxHeartbeats 1600000 in
theorem next_calls (bo ba : Nat) (ok : Bool) (h : Int) (r : Int × Int × Ar) (w : World) (hA : AP w ap r.2.2 O) (ko : w.heap[bo]? = some (.cells #[.bool ok] 4 (0, 0))) (ka : w.heap[ba]? = some (.cells #[ap] 25 (0, 0))) (o_ko : ¬ O bo) (o_ka : ¬ O ba) (hne : ba ≠ bo) :
    Calls Tryz.prog 59 #[.int .i64 h, .int .i64 r.1, .int .i64 r.2.1, .pointer (some ⟨bo, 0, none⟩), .pointer (some ⟨ba, 0, none⟩)] w fun e w' => e = .returned (.int .i64 (nextA ok h r).1) ∧ ∃ O', NB w' bo ap (nextA ok h r).2.2 (nextA ok h r).2.1 O' ∧ Fr (oneX bo) O O' w w' := by
  by_cases h1 : r.2.1 = 0
  · have d1 : (r.2.1 != 0) = false := by simp [h1]
    by_cases h2 : h = 0
    · have d2 : (h != 0) = false := by simp [h2]
      have E : Hid (nextA ok h r = (r.1, ok, r.2.2)) := Lib.hid (by unfold nextA; rw [if_pos h1, if_pos h2])
      clear h1 h2
      go_enter Tryz.func59, Tryz.ntmps59
      go_wp2_with fail
      go_ret
      rw [E.out]
      exact ⟨rfl, O, ⟨hA, ko, o_ko⟩, Fr.refl _ _ _⟩
    · have d2 : (h != 0) = true := by simp [h2]
      have E : Hid (nextA ok h r = (r.1, ok, r.2.2.drop h)) := Lib.hid (by unfold nextA; rw [if_pos h1, if_neg h2])
      clear h1 h2
      go_enter Tryz.func59, Tryz.ntmps59
      obtain ⟨c_ko, f_ko, l_ko_w⟩ := f3 ko
      obtain ⟨c_ka, f_ka, l_ka_w⟩ := f3 ka
      go_wp2_with fail
      refine calls_gen fun V hV_V => ?_
      replace ko := kK hV_V ko
      replace ka := kK hV_V ka
      have hF : Fr ((oneX bo)) O O w V := nF hV_V
      replace hA : AP V ap r.2.2 O := nA hV_V
      have z_V := zS hV_V
      clear hV_V c_ko f_ko c_ka f_ka
      obtain ⟨c_ko, f_ko, l_ko_V⟩ := f3 ko
      obtain ⟨c_ka, f_ka, l_ka_V⟩ := f3 ka
      refine (drop_calls _ _ hA).mono ?_
      rintro e_W1 W1 ⟨rfl, O1, hA_W1, hf_W1⟩
      have q_ko := hf_W1.keep ko o_ko (fun h => h)
      have q_ka := hf_W1.keep ka o_ka (fun h => h)
      replace o_ko := hf_W1.not_own (lt_of ko) o_ko
      clear ko c_ko f_ko; have ko := q_ko; clear q_ko
      obtain ⟨c_ko, f_ko, l_ko_W1⟩ := f3 ko
      replace o_ka := hf_W1.not_own (lt_of ka) o_ka
      clear ka c_ka f_ka; have ka := q_ka; clear q_ka
      obtain ⟨c_ka, f_ka, l_ka_W1⟩ := f3 ka
      replace hF := hF.trans hf_W1.widen
      have z_W1 := hf_W1.size
      clear hA hf_W1; have hA := hA_W1; clear hA_W1
      go_wp2_with fail
      go_ret
      rw [E.out]
      exact ⟨rfl, O1, ⟨hA, ko, o_ko⟩, hF⟩
  · have d1 : (r.2.1 != 0) = true := by simp [h1]
    have E : Hid (nextA ok h r = (h, false, r.2.2)) := Lib.hid (by unfold nextA; rw [if_neg h1])
    clear h1
    go_enter Tryz.func59, Tryz.ntmps59
    obtain ⟨c_ko, f_ko, l_ko_w⟩ := f3 ko
    obtain ⟨c_ka, f_ka, l_ka_w⟩ := f3 ka
    go_wp2_with fail
    go_ret
    rw [E.out]
    refine ⟨rfl, O, ⟨hA.set o_ko _, ?_, o_ko⟩, (Fr.refl (oneX bo) O w).set (q := ⟨bo, 0, none⟩) (.inr (by show oneX bo bo; rfl)) _⟩
    rw [blk_set, ko]; rfl
theorem next_t (bo ba : Nat) (ok : Bool) (h : Int) (r : Int × Int × Ar) (t : Int × Bool × Ar) (ht : nextA ok h r = t) (w : World) (hA : AP w ap r.2.2 O) (ko : w.heap[bo]? = some (.cells #[.bool ok] 4 (0, 0))) (ka : w.heap[ba]? = some (.cells #[ap] 25 (0, 0))) (o_ko : ¬ O bo) (o_ka : ¬ O ba) (hne : ba ≠ bo) :
    Calls Tryz.prog 59 #[.int .i64 h, .int .i64 r.1, .int .i64 r.2.1, .pointer (some ⟨bo, 0, none⟩), .pointer (some ⟨ba, 0, none⟩)] w fun e w' => e = .returned (.int .i64 t.1) ∧ ∃ O', NB w' bo ap t.2.2 t.2.1 O' ∧ Fr (oneX bo) O O' w w' := by
  subst ht; exact next_calls bo ba ok h r w hA ko ka o_ko o_ka hne
def twoX (a b : Nat) : Nat → Prop := fun x => x = a ∨ x = b
/-- A frame that may spare blocks that are the call's own. -/
theorem Fr.trans_own {X Y O O' O'' : Nat → Prop} {a b c : World} (h : Fr X O O' a b) (k : Fr Y O' O'' b c) (hY : ∀ x, Y x → a.heap.size ≤ x) : Fr X O O'' a c := by
  refine ⟨k.os.trans h.os, k.tape.trans h.tape, k.output.trans h.output, Nat.le_trans h.size k.size, fun x hx ho hX => ?_, fun x hx => ?_⟩
  · refine (k.block x (Nat.lt_of_lt_of_le hx h.size) (fun ho' => ?_) (fun e => ?_)).trans (h.block x hx ho hX)
    · rcases h.own x ho' with g | g
      · exact ho g
      · omega
    · have := hY x e; omega
  · rcases k.own x hx with g | g
    · exact h.own x g
    · exact .inr (Nat.le_trans h.size g)
set_option maxRecDepth 100000 in
set_option maxHeartbeats 1600000 in
theorem vMake_calls (p : Parts) (w : World) (hA : AP w ap s O) :
    Calls Tryz.prog 21 #[ap, p.val] w fun e w' => e = .returned (.tuple #[.int .i64 (vMake s p).1, .int .i64 (vMake s p).2.1]) ∧ Did noX ap (vMake s p).2.2 O w w' := by
  unfold Parts.val
  by_cases h : p.wave = 0 ∧ p.marks = 0 ∧ p.spots = 0 ∧ p.table = 0
  · obtain ⟨a, b, c, d⟩ := p
    obtain ⟨rfl, rfl, rfl, rfl⟩ := h
    have E : Hid (vMake s ⟨0, 0, 0, 0⟩ = (0, 0, s)) := Lib.hid (by unfold vMake; rw [if_pos ⟨rfl, rfl, rfl, rfl⟩])
    go_enter Tryz.func21, Tryz.ntmps21
    go_wp2_with fail
    go_ret2
    rw [E.out]
    exact ⟨rfl, O, by first | exact hA | exact hA.alloc _, by first | exact Fr.refl _ _ _ | exact (Fr.refl _ _ _).alloc _⟩
  · have E : Hid (vMake s p = s.make ⟨6, p.wave, p.marks, p.spots, p.table, 0, 0⟩) := Lib.hid (by unfold vMake; rw [if_neg h])
    obtain ⟨f1, f2, f3, f4, hf⟩ : ∃ f1 f2 f3 f4 : Bool, (p.wave == 0) = f1 ∧ (p.marks == 0) = f2 ∧ (p.spots == 0) = f3 ∧ (p.table == 0) = f4 := ⟨_, _, _, _, rfl, rfl, rfl, rfl⟩
    obtain ⟨g1, g2, g3, g4⟩ := hf
    have hn : ¬ (f1 = true ∧ f2 = true ∧ f3 = true ∧ f4 = true) := by
      rintro ⟨rfl, rfl, rfl, rfl⟩
      exact h ⟨by simpa using g1, by simpa using g2, by simpa using g3, by simpa using g4⟩
    clear h
    cases f1 <;> cases f2 <;> cases f3 <;> cases f4 <;> first | exact absurd ⟨rfl, rfl, rfl, rfl⟩ hn | skip
    all_goals
      clear hn
      go_enter Tryz.func21, Tryz.ntmps21
      go_wp2_with fail
      refine calls_gen fun V hV_V => ?_
      have n_kp := hbk hV_V (w.heap.size)
      simp (maxDischargeDepth := 9) only [BK, not_false_eq_true, reduceCtorEq] at n_kp
      have o_kp : ¬ O (w.heap.size) := by first | exact hA.new (Nat.le_refl _) | exact hA.new (by omega)
      have hF : Fr (noX) O O w V := nF hV_V
      replace hA : AP V ap s O := nA hV_V
      have z_V := zS hV_V
      clear hV_V
      have kp := n_kp; clear n_kp
      obtain ⟨c_kp, f_kp, l_kp_V⟩ := f3 kp
      refine (make_calls (⟨6, p.wave, p.marks, p.spots, p.table, 0, 0⟩ : Nd) U64.zero _ hA).mono ?_
      rintro e_W1 W1 ⟨rfl, O1, hA_W1, hf_W1⟩
      have q_kp := hf_W1.keep kp o_kp (fun h => h)
      replace o_kp := hf_W1.not_own (lt_of kp) o_kp
      clear kp c_kp f_kp; have kp := q_kp; clear q_kp
      obtain ⟨c_kp, f_kp, l_kp_W1⟩ := f3 kp
      replace hF := hF.trans hf_W1.widen
      have z_W1 := hf_W1.size
      clear hA hf_W1; have hA := hA_W1; clear hA_W1
      go_wp2_with fail
      go_ret2
      rw [E.out]
      exact ⟨rfl, O1, hA, hF⟩
end Go.Proofs.YtdjpjmkpndmhaaaGreat
/- Appends of slices onto rows of the call's own, in a region that draws; elements of any size. -/
namespace Go.Proofs.YtdjpjmkpndmhaaaGreat
set_option linter.unusedSimpArgs false
set_option linter.unusedVariables false
set_option linter.unnecessarySimpa false
open Go.RowKit
/-- A slice's address, its length, and what is in its cells, so many an element. -/
def Rds (w : World) (A : Option Addr) (n size : Nat) (xs : List Value) : Prop :=
  xs.length = n * size ∧ (0 < n → ∃ ad, A = some ad ∧ ad.block < w.heap.size ∧ ∀ j u, xs[j]? = some u → w.cell? (ad.add j) = some u)
theorem Rds.below {w w' : World} {A : Option Addr} {n size : Nat} {xs : List Value} (h : Rds w A n size xs) (hb : Below w.heap.size w w') : Rds w' A n size xs :=
  ⟨h.1, fun hn => by
    obtain ⟨ad, e, hl, hc⟩ := h.2 hn
    exact ⟨ad, e, Nat.lt_of_lt_of_le hl hb.size, fun j u hu => (hb.cell (by rw [block_of_add]; exact hl)).trans (hc j u hu)⟩⟩
theorem add_zero_off (g j : Nat) : (⟨g, 0, none⟩ : Addr).add j = ⟨g, j, none⟩ := by unfold Addr.add; split <;> simp_all
theorem Rds.of_own {w : World} {base cap : Nat} {A : Option Addr} {e : TypeId} {size n : Nat} {xs : List Value} (h : w.ownsRow base e size (.slice A n cap) n xs) : Rds w A n size xs := by
  refine ⟨h.1, fun hn => ?_⟩
  obtain ⟨-, A', cap', hv, h2⟩ := Rx.of_own h
  obtain ⟨g, rfl, hg, hc⟩ := h2 hn
  obtain ⟨rfl, -, rfl⟩ := Value.slice.inj hv
  refine ⟨_, rfl, hg, fun j u hu => ?_⟩
  rw [add_zero_off, hc j (by have := (List.getElem?_eq_some_iff.1 hu).1; have := h.1; omega)]
  exact hu
theorem Rds.part {w : World} {A : Option Addr} {n size : Nat} {xs : List Value} (h : Rds w A n size xs) (k : Nat) (hk : k ≤ n) : Rds w A k size (xs.take (k * size)) := by
  have hm : k * size ≤ n * size := Nat.mul_le_mul_right _ hk
  refine ⟨by have := h.1; simp; omega, fun h0 => ?_⟩
  obtain ⟨ad, e, hl, hc⟩ := h.2 (by omega)
  refine ⟨ad, e, hl, fun j u hu => hc j u ?_⟩
  simp only [List.getElem?_take] at hu
  split at hu
  · exact hu
  · cases hu
theorem Rds.behind {w : World} {A A' : Option Addr} {n size : Nat} {xs : List Value} (h : Rds w A n size xs) (k m : Nat) (hk : k ≤ n) (hm : m = n - k) (hA : k < n → A' = A.map (·.add (k * size))) : Rds w A' m size (xs.drop (k * size)) := by
  subst hm
  have hm : k * size ≤ n * size := Nat.mul_le_mul_right _ hk
  refine ⟨by have := h.1; rw [List.length_drop, this, Nat.sub_mul], fun h0 => ?_⟩
  obtain ⟨ad, e, hl, hc⟩ := h.2 (by omega)
  refine ⟨ad.add (k * size), by rw [hA (by omega), e]; rfl, by rw [block_of_add]; exact hl, fun j u hu => ?_⟩
  have := hc (k * size + j) u (by rw [List.getElem?_drop] at hu; exact hu)
  rw [← this]
  congr 1
  generalize k * size = q
  obtain ⟨bb, oo, pp⟩ := ad
  unfold Addr.add
  rcases Nat.eq_zero_or_pos q with rfl | h1
  · simp
  · rcases Nat.eq_zero_or_pos j with rfl | h2
    · simp
    · rw [if_neg (by omega), if_neg (by omega), if_neg (by omega)]
      cases pp <;> simp <;> omega
/-- One element in a block of its own. -/
theorem rds_one (w : World) (cs : Array Value) (e : TypeId) (size : Nat) (hs : cs.size = size) : Rds (w.alloc (.cells cs e)) (some ⟨w.heap.size, 0, none⟩) 1 size cs.toList := by
  refine ⟨by simp [hs], fun _ => ⟨_, rfl, by simp, fun j x hx => ?_⟩⟩
  rw [add_zero_off, cells_of (blk_new w (.cells cs e) w.heap.size rfl) j]
  simpa using hx
theorem step_moreN {P : Program} {ops : Array Oper} {o : Oper} {a : Act} {K : Act → World → Prop} {Q : Exit → Act → World → Prop} {E : Prop} {w : World} (hwant : Region.wanted o (yielded ops a.tmps) = true) (s x : Operand) (t : TypeId)
    (ho : o.op = .call { callee := .builtin .append, args := #[s, x], argTypes := #[t, t] })
    {base : Nat} {e : TypeId} (z : Value) (size bytes : Nat) (hsz : 0 < size) (ht : P.underlying t = some (.slice e)) (hi : (P.info? e).map (fun i => (i.zero, i.size, i.bytes)) = some (some z, size, bytes)) (hzs : z.cells.size = size)
    {v : Value} {n : Nat} {xs : List Value} (hs : a.eval s = v) (hown : w.ownsRow base e size v n xs)
    {A : Option Addr} {m c : Nat} {news : List Value} (hx : a.eval x = .slice A m c) (hr : Rds w A m size news) (h1 : ∀ u ∈ news, u.oneCell' = true)
    {nm : Nat} (hnm : nm = n + m) (h63 : nm ≤ 60000) (hby : bytes ≤ 60000) (hbase : base ≤ w.heap.size)
    (h : ∀ A' c' w', w'.ownsRow base e size (.slice A' nm c') nm (xs ++ news) → Below base w w' → (∀ B, B ≤ w.heap.size → (∀ k, v.ownBlock = some k → B ≤ k) → Below B w w') → K (a.put o.dst (.slice A' nm c')) w') :
    if Region.wanted o (yielded ops a.tmps) = true then Oper.wp P o a w K Q else E := by
  subst hnm
  rw [if_pos hwant]
  have hb : (n + m) * bytes ≤ 140737488355328 := Nat.le_trans (Nat.mul_le_mul h63 hby) (by omega)
  obtain ⟨i0, hi0, hz0, hz1, hz2⟩ := info_parts hi
  have key : ∃ v' w', (Builtin.append_ #[t, t] o.type #[v, .slice A m c]).run P w = .ok v' w' ∧ w'.ownsRow base e size v' (n + m) (xs ++ news) ∧ Below base w w' ∧ (∀ B, B ≤ w.heap.size → (∀ k, v.ownBlock = some k → B ≤ k) → Below B w w') := by
    rcases A with _ | ad
    · have h0 : m = 0 := by
        rcases Nat.eq_zero_or_pos m with h0 | h0
        · exact h0
        · obtain ⟨ad, h, _⟩ := hr.2 h0
          cases h
      subst h0
      have hn : news = [] := List.eq_nil_of_length_eq_zero (by have := hr.1; omega)
      subst hn
      refine ⟨v, w, ?_, by simpa using hown, Below.refl _ _, fun B _ _ => Below.refl _ _⟩
      rcases hown.2 with ⟨rfl, rfl⟩ | ⟨g, cap, cur, rfl, _, _, hnc, _⟩
      · simp [Builtin.append_, run_underlying ht, sizeOf, typeInfo, hi0, Builtin.lenOf, Builtin.firstCells]
      · simp [Builtin.append_, run_underlying ht, sizeOf, typeInfo, hi0, Builtin.lenOf, Builtin.firstCells, hnc, storeCells]
    · have hc : ∀ j u, news[j]? = some u → w.cell? (ad.add j) = some u := by
        intro j u hu
        rcases Nat.eq_zero_or_pos m with h0 | h0
        · subst h0
          have hn : news = [] := List.eq_nil_of_length_eq_zero (by have := hr.1; omega)
          subst hn
          simp at hu
        · obtain ⟨ad', h, _, hc⟩ := hr.2 h0
          injection h with h
          subst h
          exact hc j u hu
      obtain ⟨v', w', hrun, h2, hg, _, h5⟩ := run_append_own_at (P := P) w base t o.type e i0 z size bytes ht hi0 hz0 hz1 hz2 hzs hsz v n xs hown ad m c news (by simpa using hr.1) hc h1 (by unfold maxLen; omega) hb hbase
      refine ⟨v', w', hrun, h2, (Below.refl base w).grown hg hbase fun k hk => ?_, fun B hB hk => (Below.refl B w).grown hg hB hk⟩
      rcases hown.2 with ⟨rfl, _⟩ | ⟨g', cap', cur, rfl, hge, _⟩
      · simp [Value.ownBlock] at hk
      · simp [Value.ownBlock] at hk; omega
  obtain ⟨v', w', hrun, h2, h3, h4⟩ := key
  obtain ⟨-, A', c', rfl, -⟩ := Rx.of_own h2
  unfold Oper.wp execOp
  simp only [ho, resolve, invoke, builtin, Sem.run_bind, Sem.run_pure, Result.andThen_ok, List.map_toArray, List.map_cons, List.map_nil, hs, hx, hrun]
  exact h A' c' w' h2 h3 h4
theorem own_cap {w : World} {base n cap size : Nat} {A : Option Addr} {e : TypeId} {xs : List Value} (h : w.ownsRow base e size (.slice A n cap) n xs) : n ≤ cap := by
  rcases h.2 with ⟨hv, h0⟩ | ⟨g, cap', cur, hv, hg, hc, hcap, -⟩
  · omega
  · obtain ⟨-, -, rfl⟩ := Value.slice.inj hv; exact hcap
/-- What a region that draws keeps: all that lies below its beginning. -/
abbrev HeldB (W v : World) : Prop := Below W.heap.size W v ∧ (W.heap.size ≤ v.heap.size) ∧ ∀ b o, b < W.heap.size → v.cell? ⟨b, o, none⟩ = W.cell? ⟨b, o, none⟩
theorem HeldB.of {W v : World} (h : Below W.heap.size W v) : HeldB W v := ⟨h, h.size, (bcell h).1⟩
theorem HeldB.start (W : World) : HeldB W W.drew := HeldB.of (Below.refl _ _).drew
theorem HeldB.low {W u v : World} (h : HeldB W u) (hb : Below W.heap.size u v) : HeldB W v := HeldB.of (h.1.trans hb)
theorem HeldB.call {W u v : World} (h : HeldB W u) (hb : Below u.heap.size u v) : HeldB W v := HeldB.of (h.1.trans (hb.mono h.2.1))
theorem HeldB.alloc {W u : World} (h : HeldB W u) (o : Obj) : HeldB W (u.alloc o) := HeldB.of (h.1.alloc h.2.1 o)
def rowCells (l : List (Nat × Nat)) : List Value := itemCells (rowInts l)
end Go.Proofs.YtdjpjmkpndmhaaaGreat
