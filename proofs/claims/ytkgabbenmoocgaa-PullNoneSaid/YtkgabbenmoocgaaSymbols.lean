/- The document's own: the symbols of the rows. -/
import Derived.Test.YtkgabbenmoocgaaSortedAll
namespace Go.Proofs.Ytkgabbenmoocgaa
set_option linter.unusedSimpArgs false
set_option linter.unusedVariables false
set_option linter.unnecessarySimpa false
open Go.RowKit
attribute [local go_sem ↓] Go.wp_at_zero Go.wp_at_succ
attribute [local go_sem] str_len
theorem sorted_calls (v : Value) (ts : List (List UInt8)) (hn : ts.length ≤ 50000) (w : World) (h : Rk w 1 v ts.length (ts.map strOf)) :
    Calls Try.prog 24 #[v] w fun e w' => ∃ v', e = .returned v' ∧ w'.ownsRow w.heap.size 72 2 v' (refSorted ts).length (rowCells (refSorted ts)) ∧ Below w.heap.size w w' := by
  unfold refSorted
  cases hrt : refRight ts with
  | true => rw [if_pos rfl]; exact sorted_walk v ts hrt w h
  | false =>
    rw [if_neg (by decide)]
    have HK := Lib.hid h
    obtain ⟨h1, A, cap, rfl, h2⟩ := h
    clear h1 h2
    go_enter Try.func24, Try.ntmps24
    go_wp2_with fail
    refine calls_gen fun V0 hV_V0 => ?_
    have n_B : Below w.heap.size w V0 := nB hV_V0
    have z_V0 := Nat.le_of_eq (congrArg (fun v : World => v.heap.size) hV_V0).symm
    try simp only [SZ] at z_V0
    clear hV_V0
    skip
    have hB := n_B
    clear n_B
    refine (rright_calls _ ts hn _ (HK.out.below hB)).mono ?_
    rintro e_W0 W0 ⟨rfl, hb_W0⟩
    replace hB := below_step hB hb_W0
    have z_W0 := hb_W0.size
    clear hb_W0
    rw [hrt]
    go_wp2_with fail
    go_ret
    exact ⟨_, rfl, own_nil _ _ _ _, hB⟩
/-- The symbol of a row: the byte ahead of it, or 0. -/
def symOf (ts : List (List UInt8)) (r : Nat × Nat) : Int := if r.2 = 0 then 0 else (((ts.getD r.1 []).getD (r.2 - 1) 0).toNat : Int) + 1
def intCells (l : List Int) : List Value := l.map fun x => .int .i64 x
theorem sorted_valid {ts : List (List UInt8)} {x : Nat × Nat} (h : x ∈ refSorted ts) : ∃ t, ts[x.1]? = some t ∧ x.2 ≤ t.length := by
  unfold refSorted at h
  split at h
  · rw [refFold_mem] at h
    rcases upto_mem h with ⟨h1, h2⟩ | ⟨h1, h2⟩
    · obtain ⟨t, ht⟩ := at_some h1
      rw [getD_at ht] at h2
      exact ⟨t, ht, h2⟩
    · omega
  · cases h
theorem sorted_small (ts : List (List UInt8)) : (refSorted ts).length ≤ 500 := by
  unfold refSorted
  split
  · rename_i h
    exact fold_small h _ _ (right_len h).1 (by omega)
  · simp
theorem step_id (j n : Nat) (h : j ≤ n) (hn : n ≤ 50000) : wrap64 (j : Int) = (j : Int) := IntWalk.wrap64_in _ (by omega)
set_option maxRecDepth 100000 in
set_option maxHeartbeats 4000000 in
theorem symbols_calls (v : Value) (ts : List (List UInt8)) (hn : ts.length ≤ 50000) (hn2 : ∀ t, t ∈ ts → t.length ≤ 50000) (w : World) (h : Rk w 1 v ts.length (ts.map strOf)) :
    Calls Try.prog 25 #[v] w fun e w' => ∃ v', e = .returned v' ∧ w'.ownsRow w.heap.size 3 1 v' (refSorted ts).length (intCells ((refSorted ts).map (symOf ts))) ∧ Below w.heap.size w w' := by
  obtain ⟨R, hR⟩ : ∃ R, R = refSorted ts := ⟨_, rfl⟩
  rw [← hR]
  have HK := Lib.hid h
  obtain ⟨h1, A, cap, rfl, h2⟩ := h
  have hval : ∀ x, x ∈ R → ∃ t, ts[x.1]? = some t ∧ x.2 ≤ t.length := fun x hx => sorted_valid (hR ▸ hx)
  have hsm : R.length ≤ 500 := by rw [hR]; exact sorted_small ts
  have Hval := Lib.hid hval; have HR := Lib.hid hR
  clear h1 h2 hval hR
  go_enter Try.func25, Try.ntmps25
  go_wp2_with fail
  refine calls_gen fun V0 hV_V0 => ?_
  have n_B : Below w.heap.size w V0 := nB hV_V0
  have z_V0 := Nat.le_of_eq (congrArg (fun v : World => v.heap.size) hV_V0).symm
  try simp only [SZ] at z_V0
  clear hV_V0
  skip
  have hB := n_B
  clear n_B
  refine (sorted_calls _ ts hn _ (HK.out.below hB)).mono ?_
  rintro e1 W1 ⟨v1, rfl, hown1, hb1⟩
  have hB1 := below_step hB hb1
  rw [← HR.out] at hown1
  obtain ⟨-, A1, c1, rfl, hx1⟩ := Rx.of_own hown1
  have HX := Lib.hid (Rk.of_own hown1); have HB1 := Lib.hid hB1
  have hsz1 := hB1.size
  clear hown1 hb1 hB hB1 hx1
  go_wp2_with fail
  go_loopg [4, 5] R.length (fun k p q wr => ∃ i : Nat, q = .int .i64 (i : Int) ∧ i + k = R.length ∧ Hid (wr.ownsRow W1.heap.size 3 1 p i (intCells ((R.take i).map (symOf ts)))) ∧ Hid (Below W1.heap.size W1 wr))
  case atStart => exact ⟨0, rfl, by omega, Lib.hid (own_nil _ _ _ _), Lib.hid (Below.refl _ _)⟩
  case round =>
    obtain ⟨i, rfl, hk, Hown, HB⟩ := hrel
    by_cases hlt : i < R.length
    · obtain ⟨k, rfl⟩ : ∃ k, gk = k + 1 := ⟨gk - 1, by omega⟩
      obtain ⟨x, hx⟩ := at_some hlt
      obtain ⟨t, ht, hxt⟩ := Hval.out x (List.mem_of_getElem? hx)
      obtain ⟨-, A', cap', hv, h2⟩ := HX.out
      obtain ⟨g1, cs1, T1, rfl, kg1', hcs1⟩ := h2 (by omega)
      have kg1 := keep_blk HB.out kg1'
      have w1a := cells_of kg1'
      have w1l := lt_of kg1'
      obtain ⟨rfl, -, rfl⟩ := Value.slice.inj hv
      have c1a : cs1[i * 2]? = some (.int .i64 (x.1 : Int)) := (hcs1 _ (by omega)).trans (rowCells_at hx).1
      have c1b : cs1[i * 2 + 1]? = some (.int .i64 (x.2 : Int)) := (hcs1 _ (by omega)).trans (rowCells_at hx).2
      clear h2 hv hcs1
      have htake : Hid (intCells ((R.take (i + 1)).map (symOf ts)) = intCells ((R.take i).map (symOf ts)) ++ [.int .i64 (symOf ts x)]) := Lib.hid (by
        unfold intCells
        rw [List.take_succ_eq_append_getElem hlt, List.map_append, List.map_append, (List.getElem_eq_iff hlt).2 hx]; rfl)
      have n1 : decide ((i : Int) < (R.length : Int)) = true := by simpa using hlt
      have n2 : (i : Int) < (R.length : Int) := by omega
      have E3 := Lib.hid (step_wrap i 500 (by omega) (by omega))
      have hw1 := HB.out.size
      by_cases h0 : x.2 = 0
      · have hs : Hid (symOf ts x = 0) := Lib.hid (by unfold symOf; rw [if_pos h0])
        have d0 : ((x.2 : Int) == 0) = true := by rw [h0]; rfl
        clear h0 hxt
        have c_kg1 := cells_of kg1
        have f_kg1 := free_of kg1
        have l_kg1_wr := lt_of kg1
        go_wp2_with (at_builtin; refine wpList_push _ (by rfl) _ _ 50 (by rfl) (W1.heap.size) 3 (.int .i64 0) 1 8 Try.underlying50 (by kernel_rfl) (by rfl) (by omega) _ _ _ (by rfl) Hown.out _ (by rfl) (by rfl) (by simp [Value.oneCell']) (by unfold maxLen; omega) (by omega) (by omega) ?_; intro g_W c_W W5 hown_W hlow_W hlt_W)
        go_wp2_with fail
        go_roundg k
        case measure => omega
        case rel => exact ⟨i + 1, by first | rfl | (rw [E3.out]; rfl), by omega, Lib.hid (by rw [htake.out, hs.out]; exact hown_W), Lib.hid (low_step HB.out (Nat.le_refl _) hlow_W)⟩
      · obtain ⟨j, hj⟩ : ∃ j : Nat, x.2 = j + 1 := ⟨x.2 - 1, by omega⟩
        obtain ⟨b, hb⟩ := at_some (show j < t.length by omega)
        have htl := hn2 t (List.mem_of_getElem? ht)
        have hs : Hid (symOf ts x = (b.toNat : Int) + 1) := Lib.hid (by unfold symOf; rw [if_neg h0, getD_at ht, hj]; simp [List.getD, hb])
        have d0 : ((x.2 : Int) == 0) = false := by rw [beq_eq_false_iff_ne]; omega
        obtain ⟨hd, -⟩ := List.getElem?_eq_some_iff.1 ht
        obtain ⟨-, A2, cap2, hv2, h3⟩ := HK.out.below HB1.out
        obtain ⟨g2, cs2, T2, rfl, kg2', hcs2⟩ := h3 (by omega)
        have kg2 := keep_blk HB.out kg2'
        have w2a := cells_of kg2'
        have w2l := lt_of kg2'
        obtain ⟨rfl, -, rfl⟩ := Value.slice.inj hv2
        have c2a : cs2[x.1]? = some (strOf t) := by rw [hcs2 _ (by omega), List.getElem?_map, ht]; rfl
        have n3 : (x.1 : Int) < (ts.length : Int) := by omega
        have hix := str_index t j b hb
        have e6 : Hid (wrap64 ((x.2 : Int) - 1) = (j : Int)) := Lib.hid (by rw [hj, IntWalk.wrap64_in _ (by omega)]; omega)
        have hb8 := b.toNat_lt
        have e7 : wrap64 ((b.toNat : Int) + 1) = (b.toNat : Int) + 1 := IntWalk.wrap64_in _ (by omega)
        have E7 := Lib.hid e7; clear e7
        have hxj : (x.2 : Int) = (j : Int) + 1 := by omega
        rw [hxj] at c1b d0
        have e9 : wrap64 (j : Int) = (j : Int) := step_id j t.length (by omega) (by omega)
        have E9 := Lib.hid e9; clear e9
        have E10 := Lib.hid (step_id b.toNat 256 (by omega) (by omega))
        have e8 : wrap64 ((j : Int) + 1 - 1) = (j : Int) := by rw [show (j : Int) + 1 - 1 = (j : Int) by omega]; exact step_id j t.length (by omega) (by omega)
        clear h0 hxt h3 hv2 hcs2 hb e6 hxj
        have c_kg1 := cells_of kg1
        have f_kg1 := free_of kg1
        have l_kg1_wr := lt_of kg1
        have c_kg2 := cells_of kg2
        have f_kg2 := free_of kg2
        have l_kg2_wr := lt_of kg2
        go_wp2_with fail
        refine wp_region_noPanic ?_
        refine wp_region_held_drew (S := fun v => Below W1.heap.size W1 v ∧ (W1.heap.size ≤ v.heap.size) ∧ ∀ b o, b < W1.heap.size → v.cell? ⟨b, o, none⟩ = W1.cell? ⟨b, o, none⟩) (by kernel_rfl) (HeldB.of HB.out.drew) (fun hHeld => ?_)
        have hB_d : Below wr.heap.size wr wr.drew := (Below.refl _ _).drew
        generalize wr.drew = wrd at hHeld hB_d ⊢
        have e9 := E9.out
        have e7 := E7.out
        have e10 : wrap64 (b.toNat : Int) = (b.toNat : Int) := E10.out
        refine ty (i := 0) (v := ?_) rfl hHeld ?_ ?_
        rotate_left
        focus (intro w hSw; go_simp; (try simp only [IntWalk.i64_left]); try (with_reducible rfl))
        try simp only [PT]
        refine ty (i := 1) (v := ?_) rfl hHeld ?_ ?_
        rotate_left
        focus (intro w hSw; go_simp; (try simp only [IntWalk.i64_left]); try (with_reducible rfl))
        try simp only [PT]
        refine ty (i := 2) (v := ?_) rfl hHeld ?_ ?_
        rotate_left
        focus (intro w hSw; go_simp; (try simp only [IntWalk.i64_left]); try (with_reducible rfl))
        try simp only [PT]
        refine ty (i := 3) (v := ?_) rfl hHeld ?_ ?_
        rotate_left
        focus (intro w hSw; go_simp; (try simp only [IntWalk.i64_left]); try (with_reducible rfl))
        try simp only [PT]
        refine ty (i := 4) (v := ?_) rfl hHeld ?_ ?_
        rotate_left
        focus (intro w hSw; go_simp; (try simp only [IntWalk.i64_left]); try (with_reducible rfl))
        try simp only [PT]
        refine ty (i := 5) (v := ?_) rfl hHeld ?_ ?_
        rotate_left
        focus (intro w hSw; go_simp; (try simp only [IntWalk.i64_left]); try (with_reducible rfl))
        try simp only [PT]
        refine ty (i := 6) (v := ?_) rfl hHeld ?_ ?_
        rotate_left
        focus (intro w hSw; go_simp; (try simp only [IntWalk.i64_left]); try (with_reducible rfl))
        try simp only [PT]
        refine ty (i := 7) (v := ?_) rfl hHeld ?_ ?_
        rotate_left
        focus (intro w hSw; go_simp; (try simp only [IntWalk.i64_left]); try (with_reducible rfl))
        try simp only [PT]
        refine ty (i := 8) (v := ?_) rfl hHeld ?_ ?_
        rotate_left
        focus (intro w hSw; go_simp; (try simp only [IntWalk.i64_left]); try (with_reducible rfl))
        try simp only [PT]
        refine ty (i := 9) (v := ?_) rfl hHeld ?_ ?_
        rotate_left
        focus (intro w hSw; go_simp; (try simp only [IntWalk.i64_left]); try (with_reducible rfl))
        try simp only [PT]
        refine ty (i := 10) (v := ?_) rfl hHeld ?_ ?_
        rotate_left
        focus (intro w hSw; go_simp; (try simp only [IntWalk.i64_left]); try (with_reducible rfl))
        try simp only [PT]
        refine ty (i := 11) (v := ?_) rfl hHeld ?_ ?_
        rotate_left
        focus (intro w hSw; go_simp; (try simp only [IntWalk.i64_left]); try (with_reducible rfl))
        try simp only [PT]
        refine ty (i := 12) (v := ?_) rfl hHeld ?_ ?_
        rotate_left
        focus (intro w hSw; go_simp; (try simp only [IntWalk.i64_left]); try (with_reducible rfl))
        try simp only [PT]
        refine ty (i := 13) (v := ?_) rfl hHeld ?_ ?_
        rotate_left
        focus (intro w hSw; go_simp; (try simp only [IntWalk.i64_left]); try (with_reducible rfl))
        try simp only [PT]
        refine ty (i := 14) (v := ?_) rfl hHeld ?_ ?_
        rotate_left
        focus (intro w hSw; go_simp; (try simp only [IntWalk.i64_left]); try (with_reducible rfl))
        try simp only [PT]
        refine ty (i := 15) (v := ?_) rfl hHeld ?_ ?_
        rotate_left
        focus (intro w hSw; go_simp; (try simp only [IntWalk.i64_left]); try (with_reducible rfl))
        try simp only [PT]
        refine ty (i := 16) (v := ?_) rfl hHeld ?_ ?_
        rotate_left
        focus (intro w hSw; go_simp; (try simp only [IntWalk.i64_left]); try (with_reducible rfl))
        try simp only [PT]
        refine ty (i := 17) (v := ?_) rfl hHeld ?_ ?_
        rotate_left
        focus (intro w hSw; go_simp; (try simp only [IntWalk.i64_left]); try (with_reducible rfl))
        try simp only [PT]
        simp only [e7]
        clear e7 e8 e9 e10
        refine wpAnyH_ready (rs := [18]) (by kernel_rfl) (by simp) ?_
        refine ready_at rfl (fun K hK => ?_) AllReadyH.nil
        go_simp
        refine hK.out _ _ (HeldB.alloc hHeld _) (fun hHeld => ?_)
        clear hK K
        try simp only [PT]
        refine wpAnyH_ready (rs := [19]) (by kernel_rfl) (by simp) ?_
        refine ready_at rfl (fun K hK => ?_) AllReadyH.nil
        refine step_moreN (by rfl) _ _ 50 (by rfl) (base := W1.heap.size) (e := 3) (.int .i64 0) 1 8 (by omega) Try.underlying50 (by kernel_rfl) (by rfl) (v := u4) (by rfl) ((own_below Hown.out hB_d).alloc _) (by rfl) (rds_one wrd #[.int .i64 ((b.toNat : Int) + 1)] 3 1 rfl) (by simp [Value.oneCell']) (nm := i + 1) rfl (by omega) (by omega) (by rw [siz_alloc]; have := hB_d.size; omega) ?_
        intro A5 c5 W8 hown8 hlow8 hkeep8
        have HB8 := Lib.hid (low_step (hHeld.1) (Nat.le_refl _) hlow8)
        refine hK.out _ _ (HeldB.of HB8.out) (fun hHeld => ?_)
        clear hK K
        try simp only [PT]
        refine wpAnyH_ready (rs := [20]) (by kernel_rfl) (by simp) ?_
        refine ready_at rfl (fun K hK => ?_) AllReadyH.nil
        go_simp
        refine hK.out _ _ hHeld (fun hHeld => ?_)
        clear hK K
        try simp only [PT]
        refine wpAnyH_done (by kernel_rfl) ?_ _
        refine NoPanic.normal ?_
        have HO8 : Hid (W8.ownsRow W1.heap.size 3 1 (.slice A5 (i + 1) c5) (i + 1) (intCells ((R.take (i + 1)).map (symOf ts)))) := Lib.hid (by rw [htake.out, hs.out]; exact hown8)
        clear hown8 hlow8 hkeep8 w1a w2a hHeld
        go_wp2_with fail
        go_roundg k
        case measure => omega
        case rel => exact ⟨i + 1, by first | rfl | (rw [E3.out]; rfl), by omega, HO8, HB8⟩
    · have hi : i = R.length := by omega
      have n1 : decide ((i : Int) < (R.length : Int)) = false := by simpa using hlt
      have hown := Hown.out
      rw [hi, List.take_length] at hown
      have HO := Lib.hid (own_mono hown hsz1); clear hown Hown
      have HBF := Lib.hid (below_step HB1.out HB.out)
      go_wp2_with fail
      go_ret
      exact ⟨u4, rfl, HO.out, HBF.out⟩
section
attribute [local go_sem] str_len run_cplx
set_option maxRecDepth 100000 in
set_option maxHeartbeats 4000000 in
theorem rpath_calls (l : List UInt8) (hl : l.length ≤ 48) (w : World) : Calls Try.prog 15 #[strOf l] w fun e w' => ∃ v, e = .returned v ∧ w'.ownsRow w.heap.size 34 1 v (l.length + 1) (pathCells (pathOf (0, 0) l)) ∧ Below w.heap.size w w' := by
  go_enter Try.func15, Try.ntmps15
  have h0 := World.ownsRow_lit (base := w.heap.size) (e := 34) (size := 1) w #[.complex .f64 0 0] 1 (Nat.le_refl _) (by unfold maxLen; omega) rfl
  have h1 : pathCells (pathOf (0, 0) (l.take 0)) = [.complex .f64 0 0] := by simp [pathCells, pathOf, zb_zero]
  have hB := below_box w (.cells #[.complex .f64 0 0] 34 (0, 0))
  have H0 := Lib.hid h0; have HB := Lib.hid hB; have H1 := Lib.hid h1; clear h0 hB h1
  go_wp2_with fail
  go_loopg [3, 4, 5, 6] l.length (fun k p1 p2 v q wr => ∃ (i : Nat) (z : Int × Int), q = .int .i64 (i : Int) ∧ p1 = .int .i64 z.1 ∧ p2 = .int .i64 z.2 ∧ i + k = l.length ∧ Hid (z = (l.take i).foldl (fun z b => stepOf b z) (0, 0)) ∧ Hid (wr.ownsRow w.heap.size 34 1 v (i + 1) (pathCells (pathOf (0, 0) (l.take i)))) ∧ Hid (Below w.heap.size w wr))
  case atStart => exact ⟨0, (0, 0), rfl, rfl, rfl, by omega, Lib.hid rfl, Lib.hid (by rw [H1.out]; exact H0.out), HB⟩
  case round =>
    clear H0 HB H1
    obtain ⟨i, ⟨x, y⟩, rfl, rfl, rfl, hk, Hz, Hown, HB0⟩ := hrel
    by_cases hlt : i < l.length
    · have d1 : decide ((i : Int) < (l.length : Int)) = true := by simpa using hlt
      obtain ⟨k, rfl⟩ : ∃ k, gk = k + 1 := ⟨gk - 1, by omega⟩
      obtain ⟨b, hb⟩ := at_some hlt
      have hix := str_index l i b hb
      have hz := Hz.out
      have hnear := nearTake l hl i
      have hstep : l.take (i + 1) = l.take i ++ [b] := by
        rw [List.take_succ_eq_append_getElem hlt, (List.getElem_eq_iff hlt).2 hb]
      rw [← hz] at hnear
      have hz2 : Hid (stepOf b (x, y) = (l.take (i + 1)).foldl (fun z b => stepOf b z) (0, 0)) := Lib.hid (by rw [hstep, List.foldl_append, ← hz]; rfl)
      have hpath : Hid (pathCells (pathOf (0, 0) (l.take (i + 1))) = pathCells (pathOf (0, 0) (l.take i)) ++ [.complex .f64 (zb (stepOf b (x, y)).1) (zb (stepOf b (x, y)).2)]) := Lib.hid (by
        rw [hstep, pathOf_snoc, ← hz]; unfold pathCells; rw [List.map_append]; rfl)
      have hw0 := HB0.out.size
      dsimp only at hnear
      have E3 := Lib.hid (step_wrap i 50 (by omega) (by omega))
      clear hz hstep hb
      rcases (show b.toNat % 4 = 0 ∨ b.toNat % 4 = 1 ∨ b.toNat % 4 = 2 ∨ b.toNat % 4 = 3 by omega) with h | h | h | h
      · have hs : Hid (stepOf b (x, y) = (x + 1, y)) := Lib.hid (by unfold stepOf; simp [h])
        have hm : (b.toNat : Int) % 4 = 0 := by omega
        clear h
        go_wp2_with (at_builtin; refine wpList_push _ (by rfl) _ _ 40 (by rfl) (w.heap.size) 34 (.complex .f64 0 0) 1 16 Try.underlying40 (by kernel_rfl) (by rfl) (by omega) _ _ _ (by rfl) Hown.out _ (by rfl) (by rfl) (by simp [Value.oneCell']) (by unfold maxLen; omega) (by omega) (by omega) ?_; intro g_W c_W W5 hown_W hlow_W hlt_W)
        go_wp2_with fail
        go_roundg k
        case measure => omega
        case rel => exact ⟨i + 1, (x + 1, y), by first | rfl | (rw [E3.out]; rfl), by rfl, by rfl, by omega, Lib.hid (by rw [← hs.out]; exact hz2.out), Lib.hid (by rw [hpath.out, hs.out]; exact hown_W), Lib.hid (low_step HB0.out (Nat.le_refl _) hlow_W)⟩
      · have hs : Hid (stepOf b (x, y) = (x, y + 1)) := Lib.hid (by unfold stepOf; simp [h])
        have hm : (b.toNat : Int) % 4 = 1 := by omega
        clear h
        go_wp2_with (at_builtin; refine wpList_push _ (by rfl) _ _ 40 (by rfl) (w.heap.size) 34 (.complex .f64 0 0) 1 16 Try.underlying40 (by kernel_rfl) (by rfl) (by omega) _ _ _ (by rfl) Hown.out _ (by rfl) (by rfl) (by simp [Value.oneCell']) (by unfold maxLen; omega) (by omega) (by omega) ?_; intro g_W c_W W5 hown_W hlow_W hlt_W)
        go_wp2_with fail
        go_roundg k
        case measure => omega
        case rel => exact ⟨i + 1, (x, y + 1), by first | rfl | (rw [E3.out]; rfl), by rfl, by rfl, by omega, Lib.hid (by rw [← hs.out]; exact hz2.out), Lib.hid (by rw [hpath.out, hs.out]; exact hown_W), Lib.hid (low_step HB0.out (Nat.le_refl _) hlow_W)⟩
      · have hs : Hid (stepOf b (x, y) = (x - 1, y)) := Lib.hid (by unfold stepOf; simp [h])
        have hm : (b.toNat : Int) % 4 = 2 := by omega
        clear h
        go_wp2_with (at_builtin; refine wpList_push _ (by rfl) _ _ 40 (by rfl) (w.heap.size) 34 (.complex .f64 0 0) 1 16 Try.underlying40 (by kernel_rfl) (by rfl) (by omega) _ _ _ (by rfl) Hown.out _ (by rfl) (by rfl) (by simp [Value.oneCell']) (by unfold maxLen; omega) (by omega) (by omega) ?_; intro g_W c_W W5 hown_W hlow_W hlt_W)
        go_wp2_with fail
        go_roundg k
        case measure => omega
        case rel => exact ⟨i + 1, (x - 1, y), by first | rfl | (rw [E3.out]; rfl), by rfl, by rfl, by omega, Lib.hid (by rw [← hs.out]; exact hz2.out), Lib.hid (by rw [hpath.out, hs.out]; exact hown_W), Lib.hid (low_step HB0.out (Nat.le_refl _) hlow_W)⟩
      · have hs : Hid (stepOf b (x, y) = (x, y - 1)) := Lib.hid (by unfold stepOf; simp [h])
        have hm : (b.toNat : Int) % 4 = 3 := by omega
        clear h
        go_wp2_with (at_builtin; refine wpList_push _ (by rfl) _ _ 40 (by rfl) (w.heap.size) 34 (.complex .f64 0 0) 1 16 Try.underlying40 (by kernel_rfl) (by rfl) (by omega) _ _ _ (by rfl) Hown.out _ (by rfl) (by rfl) (by simp [Value.oneCell']) (by unfold maxLen; omega) (by omega) (by omega) ?_; intro g_W c_W W5 hown_W hlow_W hlt_W)
        go_wp2_with fail
        go_roundg k
        case measure => omega
        case rel => exact ⟨i + 1, (x, y - 1), by first | rfl | (rw [E3.out]; rfl), by rfl, by rfl, by omega, Lib.hid (by rw [← hs.out]; exact hz2.out), Lib.hid (by rw [hpath.out, hs.out]; exact hown_W), Lib.hid (low_step HB0.out (Nat.le_refl _) hlow_W)⟩
    · have d1 : decide ((i : Int) < (l.length : Int)) = false := by simpa using hlt
      obtain rfl : i = l.length := by omega
      have Hown' := Hown.out
      rw [List.take_length] at Hown'
      have HO := Lib.hid Hown'; clear Hown' Hown
      go_wp2_with fail
      go_ret
      exact ⟨u5, rfl, HO.out, HB0.out⟩
set_option maxRecDepth 100000 in
set_option maxHeartbeats 2000000 in
theorem rend_calls (l : List UInt8) (hl : l.length ≤ 48) (w : World) : Calls Try.prog 14 #[strOf l] w fun e w' => e = .returned (.complex .f64 (zb (walkOf l).1) (zb (walkOf l).2)) ∧ Below w.heap.size w w' := by
  go_enter Try.func14, Try.ntmps14
  go_wp2_with fail
  refine calls_gen fun V hV_V => ?_
  have n_B : Below w.heap.size w V := nB hV_V
  have z_V := Nat.le_of_eq (congrArg (fun v : World => v.heap.size) hV_V).symm
  try simp only [SZ] at z_V
  clear hV_V
  skip
  have hB := n_B
  clear n_B
  refine (rpath_calls l hl _).mono ?_
  rintro e1 W1 ⟨v, rfl, hown, hb1⟩
  have hB1 := Lib.hid (below_step hB hb1)
  rcases hown.2 with ⟨-, h0⟩ | ⟨g, cap, cur, rfl, hg, hc, -, -, -, -⟩
  · omega
  have hci : W1.cell? ⟨g, l.length, none⟩ = some (.complex .f64 (zb (walkOf l).1) (zb (walkOf l).2)) := by
    have h1 := hown.cellAt l.length (by omega)
    rw [h1]
    unfold pathCells walkOf
    rw [List.getElem?_map, pathOf_last]; rfl
  have n1 : (l.length : Int) < (l.length : Int) + 1 := by omega
  have e1 : wrap64 ((l.length : Int) + 1 - 1) = (l.length : Int) := by rw [show (l.length : Int) + 1 - 1 = (l.length : Int) by omega]; exact step_id l.length 48 hl (by omega)
  clear hown hc hb1 hB
  go_wp2_with fail
  go_ret
  exact ⟨rfl, hB1.out⟩
end
end Go.Proofs.Ytkgabbenmoocgaa
