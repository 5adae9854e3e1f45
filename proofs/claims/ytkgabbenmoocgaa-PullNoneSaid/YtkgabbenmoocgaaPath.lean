/- walk.Path, walk.End. -/
import Derived.Test.YtkgabbenmoocgaaWalk
import Derived.Test.YtkgabbenmoocgaaText
import Derived.Laws.ComplexArith
namespace Go.Proofs.Ytkgabbenmoocgaa
set_option linter.unusedSimpArgs false
set_option linter.unusedVariables false
set_option linter.unnecessarySimpa false
open Go.RowKit
attribute [local go_sem ↓] Go.wp_at_zero Go.wp_at_succ
def pathCells (l : List (Int × Int)) : List Value := l.map fun z => .complex .f64 (zb z.1) (zb z.2)
theorem str_index (l : List UInt8) (i : Nat) (b : UInt8) (h : l[i]? = some b) (w : World) : (Instr.index 9 (strOf l) (.int .i64 (i : Int))).run Try.prog w = .ok (.int .u8 (b.toNat : Int)) w := by
  unfold strOf
  obtain ⟨h1, h2⟩ := List.getElem?_eq_some_iff.1 h
  rw [run_index_string w 9 ⟨l.toArray⟩ .i64 (i : Int) (by kernel_rfl)]
  have h3 : (⟨l.toArray⟩ : ByteArray).size = l.length := by simp [ByteArray.size]
  rw [dif_pos ⟨by omega, by rw [h3]; omega⟩]
  congr 3
  rw [← h2]
  rfl
theorem str_len (l : List UInt8) (w : World) : (Builtin.len_ #[9] 3 #[strOf l]).run Try.prog w = .ok (.int .i64 (l.length : Int)) w := by
  unfold strOf
  rw [run_len_string w 9 3 _ (by kernel_rfl)]
  have h3 : (⟨l.toArray⟩ : ByteArray).size = l.length := by simp [ByteArray.size]
  rw [h3]; rfl
attribute [local go_sem] str_len
theorem cadd_step (z : Int × Int) (b : UInt8) (hz : -49 ≤ z.1 ∧ z.1 ≤ 49 ∧ -49 ≤ z.2 ∧ z.2 ≤ 49) (w : World) :
    (binOp BinOp.add 34 (.complex .f64 (zb z.1) (zb z.2)) (.complex .f64 (zb (stepOf b (0, 0)).1) (zb (stepOf b (0, 0)).2))).run Try.prog w = .ok (.complex .f64 (zb (stepOf b z).1) (zb (stepOf b z).2)) w := by
  refine run_complex_sum w .add (.inl rfl) _ _ _ _ _ _ _ _ ?_
  have a1 := zb_add1 z.1 (by omega) (by omega); have a2 := zb_add1 z.2 (by omega) (by omega)
  have b1 := zb_addm z.1 (by omega) (by omega); have b2 := zb_addm z.2 (by omega) (by omega)
  have c1 := zb_add0 z.1 (by omega) (by omega); have c2 := zb_add0 z.2 (by omega) (by omega)
  rw [stepOf_add b z]
  rcases stepOf_small b with e | e | e | e
  · rw [e]; simp [cSumBits, floatBits, a1, a2, c1, c2]
  · rw [e]; simp [cSumBits, floatBits, a1, a2, c1, c2]
  · rw [e]; rw [Int.sub_eq_add_neg] at b1; simp [cSumBits, floatBits, b1, c2]
  · rw [e]; rw [Int.sub_eq_add_neg] at b2; simp [cSumBits, floatBits, b2, c1]
theorem nearTake (l : List UInt8) (hl : l.length ≤ 48) (i : Nat) : -48 ≤ ((l.take i).foldl (fun z b => stepOf b z) (0, 0)).1 ∧ ((l.take i).foldl (fun z b => stepOf b z) (0, 0)).1 ≤ 48 ∧ -48 ≤ ((l.take i).foldl (fun z b => stepOf b z) (0, 0)).2 ∧ ((l.take i).foldl (fun z b => stepOf b z) (0, 0)).2 ≤ 48 :=
  walk_near (l.take i) (by rw [List.length_take]; omega)
set_option maxRecDepth 100000 in
set_option maxHeartbeats 2000000 in
theorem wpath_calls (l : List UInt8) (hl : l.length ≤ 48) (w : World) : Calls Try.prog 64 #[strOf l] w fun e w' => ∃ v, e = .returned v ∧ w'.ownsRow w.heap.size 34 1 v (l.length + 1) (pathCells (pathOf (0, 0) l)) ∧ Below w.heap.size w w' := by
  go_enter Try.func64, Try.ntmps64
  have h0 := World.ownsRow_lit (base := w.heap.size) (e := 34) (size := 1) w #[.complex .f64 0 0] 1 (Nat.le_refl _) (by unfold maxLen; omega) rfl
  have h1 : pathCells (pathOf (0, 0) (l.take 0)) = [.complex .f64 0 0] := by simp [pathCells, pathOf, zb_zero]
  have hB := below_box w (.cells #[.complex .f64 0 0] 34 (0, 0))
  have H0 := Lib.hid h0; have HB := Lib.hid hB; have H1 := Lib.hid h1; clear h0 hB h1
  go_wp2_with fail
  go_loopg [3, 9] l.length (fun k v q wr => ∃ i : Nat, q = .int .i64 (i : Int) ∧ i + k = l.length ∧ Hid (wr.ownsRow w.heap.size 34 1 v (i + 1) (pathCells (pathOf (0, 0) (l.take i)))) ∧ Hid (Below w.heap.size w wr))
  case atStart => exact ⟨0, rfl, by omega, Lib.hid (by rw [H1.out]; exact H0.out), HB⟩
  case round =>
    clear H0 HB H1
    obtain ⟨i, rfl, hk, Hown, HB0⟩ := hrel
    by_cases hlt : i < l.length
    · have d1 : decide ((i : Int) < (l.length : Int)) = true := by simpa using hlt
      obtain ⟨k, rfl⟩ : ∃ k, gk = k + 1 := ⟨gk - 1, by omega⟩
      obtain ⟨b, hb⟩ : ∃ b, l[i]? = some b := ⟨l[i], by simp [hlt]⟩
      have hlen : (l.take i).length = i := by rw [List.length_take]; omega
      have hix := str_index l i b hb
      have hstep : l.take (i + 1) = l.take i ++ [b] := by
        rw [List.take_succ_eq_append_getElem hlt]; congr 2
        exact Option.some.inj ((List.getElem?_eq_getElem hlt).symm.trans hb)
      have hpath : Hid (pathOf (0, 0) (l.take (i + 1)) = pathOf (0, 0) (l.take i) ++ [stepOf b ((l.take i).foldl (fun z b => stepOf b z) (0, 0))]) := Lib.hid (by rw [hstep, pathOf_snoc])
      have hlast := pathOf_last (0, 0) (l.take i)
      rw [hlen] at hlast
      have hnear := nearTake l hl i
      have hnear2 := nearTake l hl (i + 1)
      rw [hstep, List.foldl_append] at hnear2
      simp only [List.foldl_cons, List.foldl_nil] at hnear2
      generalize hz : (l.take i).foldl (fun z b => stepOf b z) (0, 0) = z at hpath hlast hnear hnear2
      clear hz hstep hb
      have hadd := cadd_step z b (by omega)
      rcases Hown.out.2 with ⟨-, h0⟩ | ⟨g, cap, cur, rfl, hg, hc, -, -, -, -⟩
      · omega
      have hci : cur[i]? = some (.complex .f64 (zb z.1) (zb z.2)) := by
        have h1 := Hown.out.cellAt i (by omega)
        rw [cells_of hc] at h1
        rw [h1]
        unfold pathCells
        rw [List.getElem?_map, hlast]; rfl
      have kg := hc; clear hc
      have n1 : (i : Int) < (i : Int) + 1 := by omega
      have n2 : ¬ (i : Int) < 0 := by omega
      have hw0 := HB0.out.size
      have hB := Below.refl wr.heap.size wr
      have c_kg := cells_of kg
      have f_kg := free_of kg
      have l_kg_wr := lt_of kg
      go_wp2_with fail
      refine wp_gen fun V2 hV_V2 => ?_
      have n_kg := congrArg (fun v : World => v.heap[g]?) hV_V2
      simp (maxDischargeDepth := 9) only [BK, not_false_eq_true, reduceCtorEq, kg, l_kg_wr] at n_kg
      have n_B : Below wr.heap.size wr V2 := nB hV_V2
      have z_V2 := Nat.le_of_eq (congrArg (fun v : World => v.heap.size) hV_V2).symm
      try simp only [SZ] at z_V2
      clear kg c_kg f_kg
      clear hV_V2
      clear hB
      have hB := n_B
      clear n_B
      have kg := n_kg; clear n_kg
      have c_kg := cells_of kg
      have f_kg := free_of kg
      have l_kg_V2 := lt_of kg
      refine wp_region_noPanic ?_
      refine wp_region_held_drew (S := fun v => (∀ o, v.cell? ⟨g, o, none⟩ = V2.cell? ⟨g, o, none⟩) ∧ (V2.heap.size ≤ v.heap.size) ∧ True) (by kernel_rfl) ⟨(fun _ => rfl), (Nat.le_refl _), trivial⟩ (fun hHeld => ?_)
      generalize hV_V2d : V2.drew = V2d at hHeld ⊢
      have n_kg : V2d.heap[g]? = V2.heap[g]? := by rw [← hV_V2d]; rfl
      have d_kg := n_kg.trans kg
      clear n_kg c_kg f_kg
      have n_B : Below wr.heap.size wr V2d := by rw [← hV_V2d]; exact hB.drew
      clear hB; have hB := n_B; clear n_B
      have z_V2d : V2.heap.size ≤ V2d.heap.size := by rw [← hV_V2d]; exact Nat.le_refl _
      have v_kg := cells_of kg
      clear kg; have kg := d_kg; clear d_kg
      have c_kg := cells_of kg
      have f_kg := free_of kg
      have l_kg_V2d := lt_of kg
      clear hV_V2d
      refine ty (i := 0) (v := ?_) rfl hHeld ?_ ?_
      rotate_left
      focus (intro w hSw; go_simp; (try simp only [IntWalk.i64_left]); try (with_reducible rfl))
      try simp only [PT]
      refine ty (i := 1) (v := ?_) rfl hHeld ?_ ?_
      rotate_left
      focus (intro w hSw; go_simp; (try simp only [IntWalk.i64_left]); try (with_reducible rfl))
      try simp only [PT]
      refine ty (i := 2) (v := ?_) rfl hHeld ?_ ?_
      rotate_left
      focus (intro w hSw; go_simp; (try simp only [IntWalk.i64_left]); try (with_reducible rfl))
      try simp only [PT]
      refine ty (i := 3) (v := ?_) rfl hHeld ?_ ?_
      rotate_left
      focus (intro w hSw; go_simp; (try simp only [IntWalk.i64_left]); try (with_reducible rfl))
      try simp only [PT]
      refine ty (i := 4) (v := ?_) rfl hHeld ?_ ?_
      rotate_left
      focus (intro w hSw; go_simp; (try simp only [IntWalk.i64_left]); try (with_reducible rfl))
      try simp only [PT]
      refine ty (i := 5) (v := ?_) rfl hHeld ?_ ?_
      rotate_left
      focus (intro w hSw; go_simp; (try simp only [IntWalk.i64_left]); try (with_reducible rfl))
      try simp only [PT]
      refine ty (i := 6) (v := ?_) rfl hHeld ?_ ?_
      rotate_left
      focus (intro w hSw; go_simp; (try simp only [IntWalk.i64_left]); try (with_reducible rfl))
      try simp only [PT]
      refine take_call (i := 7) (f := ?_) (args := ?_) (v := ?_) rfl (by kernel_rfl) (by kernel_rfl) (by kernel_rfl) (fun _ _ _ h => h) (by rfl) hHeld ?_ (fun v hSv => ?_) ?_
      rotate_left 3
      focus (intro v hSv; go_simp; constructor <;> with_reducible rfl)
      focus (obtain ⟨c0, zs, hAv⟩ := hSv; exact wstep_calls b v)
      try simp only [PT]
      refine ty (i := 8) (v := ?_) rfl hHeld ?_ ?_
      rotate_left
      focus (intro w hSw; go_simp; (try simp only [IntWalk.i64_left]); try (with_reducible rfl))
      try simp only [PT]
      refine wpAnyH_ready (rs := [9]) (by kernel_rfl) (by simp) ?_
      refine ready_at rfl (fun K hK => ?_) AllReadyH.nil
      go_simp
      refine hK.out _ _ hHeld (fun hHeld => ?_)
      clear hK K
      try simp only [PT]
      refine wpAnyH_done (by kernel_rfl) ?_ _
      refine NoPanic.normal ?_
      go_wp2_with fail
      refine calls_gen fun V3 hV_V3 => ?_
      have n_kg := congrArg (fun v : World => v.heap[g]?) hV_V3
      simp (maxDischargeDepth := 9) only [BK, not_false_eq_true, reduceCtorEq, kg, l_kg_wr, l_kg_V2, l_kg_V2d] at n_kg
      have n_B : Below wr.heap.size wr V3 := nB hV_V3
      have z_V3 := Nat.le_of_eq (congrArg (fun v : World => v.heap.size) hV_V3).symm
      try simp only [SZ] at z_V3
      clear kg c_kg f_kg
      clear hV_V3
      clear hB
      have hB := n_B
      clear n_B
      have kg := n_kg; clear n_kg
      have c_kg := cells_of kg
      have f_kg := free_of kg
      have l_kg_V3 := lt_of kg
      refine (turn_z (stepOf b z).1 (stepOf b z).2 (by omega) (by omega) _).mono ?_
      rintro e_q w_q ⟨rfl, rfl⟩
      have hown := own_below Hown.out hB
      have HB3 := Lib.hid (below_step HB0.out hB)
      have hsz3 := HB3.out.size
      clear Hown hB
      go_wp2_with (at_builtin; refine wpList_push _ (by rfl) _ _ 40 (by rfl) (w.heap.size) 34 (.complex .f64 0 0) 1 16 Try.underlying40 (by kernel_rfl) (by rfl) (by omega) _ _ _ (by rfl) hown _ (by rfl) (by rfl) (by simp [Value.oneCell']) (by unfold maxLen; omega) (by omega) (by omega) ?_; intro g_W c_W W5 hown_W hlow_W hlt_W)
      go_wp2_with fail
      go_roundg k
      case measure => omega
      case rel => exact ⟨i + 1, by simp, by omega, Lib.hid (by rw [hpath.out]; unfold pathCells at hown_W ⊢; rw [List.map_append]; exact hown_W), Lib.hid (low_step HB3.out (Nat.le_refl _) hlow_W)⟩
    · have d1 : decide ((i : Int) < (l.length : Int)) = false := by simpa using hlt
      obtain rfl : i = l.length := by omega
      have Hown' := Hown.out
      rw [List.take_length] at Hown'
      have HO := Lib.hid Hown'; clear Hown' Hown
      go_wp2_with fail
      go_ret
      exact ⟨u3, rfl, HO.out, HB0.out⟩
set_option maxRecDepth 100000 in
set_option maxHeartbeats 2000000 in
theorem wend_calls (l : List UInt8) (hl : l.length ≤ 48) (w : World) : Calls Try.prog 34 #[strOf l] w fun e w' => e = .returned (.complex .f64 (zb (walkOf l).1) (zb (walkOf l).2)) ∧ Below w.heap.size w w' := by
  go_enter Try.func34, Try.ntmps34
  go_wp2_with fail
  refine calls_gen fun V hV_V => ?_
  have n_B : Below w.heap.size w V := nB hV_V
  have z_V := Nat.le_of_eq (congrArg (fun v : World => v.heap.size) hV_V).symm
  try simp only [SZ] at z_V
  clear hV_V
  skip
  have hB := n_B
  clear n_B
  refine (wpath_calls l hl _).mono ?_
  rintro e1 W1 ⟨v, rfl, hown, hb1⟩
  have hB1 := Lib.hid (below_step hB hb1)
  rcases hown.2 with ⟨-, h0⟩ | ⟨g, cap, cur, rfl, hg, hc, -, -, -, -⟩
  · omega
  have hci : W1.cell? ⟨g, l.length, none⟩ = some (.complex .f64 (zb (walkOf l).1) (zb (walkOf l).2)) := by
    have h1 := hown.cellAt l.length (by omega)
    rw [h1]
    unfold pathCells walkOf
    rw [List.getElem?_map, pathOf_last]; rfl
  have n1 : (l.length : Int) < (l.length : Int) + 1 := by omega
  clear hown hc hb1 hB
  go_wp2_with fail
  go_ret
  exact ⟨rfl, hB1.out⟩
end Go.Proofs.Ytkgabbenmoocgaa
