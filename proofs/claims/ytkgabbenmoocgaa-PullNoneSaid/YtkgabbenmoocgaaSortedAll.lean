/- The document's own: the rows in their order (written by gen_sorted.py). -/
import Derived.Test.YtkgabbenmoocgaaMore
namespace Go.Proofs.Ytkgabbenmoocgaa
set_option linter.unusedSimpArgs false
set_option linter.unusedVariables false
set_option linter.unnecessarySimpa false
open Go.RowKit
attribute [local go_sem ↓] Go.wp_at_zero Go.wp_at_succ
attribute [local go_sem] str_len
theorem rowCells_length (l : List (Nat × Nat)) : (rowCells l).length = l.length * 2 := by unfold rowCells rowInts; rw [itemCells_length, List.length_map]
theorem rowCells_append (a b : List (Nat × Nat)) : rowCells (a ++ b) = rowCells a ++ rowCells b := by unfold rowCells rowInts; rw [List.map_append, itemCells_append]
theorem rowCells_take : ∀ (l : List (Nat × Nat)) (k : Nat), (rowCells l).take (k * 2) = rowCells (l.take k)
 | [], k => by simp [rowCells, rowInts, itemCells]
 | x :: l, 0 => rfl
 | x :: l, k + 1 => by
  have := rowCells_take l k
  rw [show (k + 1) * 2 = k * 2 + 1 + 1 by omega]
  unfold rowCells rowInts at this ⊢
  simp [itemCells, this]
theorem rowCells_drop : ∀ (l : List (Nat × Nat)) (k : Nat), (rowCells l).drop (k * 2) = rowCells (l.drop k)
 | [], k => by simp [rowCells, rowInts, itemCells]
 | x :: l, 0 => rfl
 | x :: l, k + 1 => by
  have := rowCells_drop l k
  rw [show (k + 1) * 2 = k * 2 + 1 + 1 by omega]
  unfold rowCells rowInts at this ⊢
  simp [itemCells, this]
theorem rowCells_one (l : List (Nat × Nat)) : ∀ u ∈ rowCells l, u.oneCell' = true := by
 unfold rowCells rowInts
 induction l with
 | nil => simp [itemCells]
 | cons x l ih =>
  intro u hu
  simp only [List.map_cons, itemCells, List.mem_cons] at hu
  rcases hu with rfl | rfl | hu
  ·
   rfl
  ·
   rfl
  ·
   exact ih u hu
theorem rowCells_at {l : List (Nat × Nat)} {i : Nat} {r : Nat × Nat} (h : l[i]? = some r) : (rowCells l)[i * 2]? = some (.int .i64 (r.1 : Int)) ∧ (rowCells l)[i * 2 + 1]? = some (.int .i64 (r.2 : Int)) := by
 unfold rowCells rowInts
 exact itemCells_at _ i ((r.1 : Int), (r.2 : Int)) (by simp [h])
theorem step_wrap (j n : Nat) (h : j ≤ n) (hn : n ≤ 50000) : wrap64 ((j : Int) + 1) = (j : Int) + 1 := IntWalk.wrap64_in _ (by omega)
set_option maxRecDepth 100000 in
set_option maxHeartbeats 8000000 in
theorem sorted_walk (v : Value) (ts : List (List UInt8)) (hrt : refRight ts = true) (w : World) (h : Rk w 1 v ts.length (ts.map strOf)) :
  Calls Try.prog 24 #[v] w fun e w' => ∃ v', e = .returned v' ∧ w'.ownsRow w.heap.size 72 2 v' (refFold ts (upto ts ts.length 0)).length (rowCells (refFold ts (upto ts ts.length 0))) ∧ Below w.heap.size w w' := by
 obtain ⟨hn10, h40⟩ := right_len hrt
 have H40 := Lib.hid h40; clear h40
 have HK := Lib.hid h
 obtain ⟨h1, A, cap, rfl, h2⟩ := h
 clear h1 h2
 go_enter Try.func24, Try.ntmps24
 go_wp2_with fail
 refine calls_gen fun V0 hV_V0 => ?_
 have n_B : Below w.heap.size w V0 := nB hV_V0
 have z_V0 := Nat.le_of_eq (congrArg (fun v : World => v.heap.size) hV_V0).symm
 try simp only [SZ] at z_V0
 clear hV_V0
 skip
 have hB := n_B
 clear n_B
 refine (rright_calls _ ts (by omega) _ (HK.out.below hB)).mono ?_
 rintro e_W0 W0 ⟨rfl, hb_W0⟩
 replace hB := below_step hB hb_W0
 have z_W0 := hb_W0.size
 clear hb_W0
 rw [hrt]
 have HB0 := Lib.hid hB; clear hB
 go_wp2_with fail
 go_loopg [3, 4] ts.length (fun k p q wr => ∃ d : Nat, q = .int .i64 (d : Int) ∧ d + k = ts.length ∧ Hid (wr.ownsRow w.heap.size 72 2 p (refFold ts (upto ts d 0)).length (rowCells (refFold ts (upto ts d 0)))) ∧ Hid (Below w.heap.size w wr))
 case atStart => exact ⟨0, rfl, by omega, Lib.hid (own_nil _ _ _ _), HB0⟩
 case round =>
  clear HB0
  obtain ⟨d, rfl, hk, Hown, HB⟩ := hrel
  by_cases hlt : d < ts.length
  ·
   obtain ⟨k, rfl⟩ : ∃ k, gk = k + 1 := ⟨gk - 1, by omega⟩
   obtain ⟨t, ht⟩ := at_some hlt
   have n1 : decide ((d : Int) < (ts.length : Int)) = true := by simpa using hlt
   have n2 : (d : Int) < (ts.length : Int) := by omega
   have E3 := Lib.hid (step_wrap d 10 (by omega) (by omega))
   have hgd := getD_at ht
   have hlen := H40.out d
   rw [hgd] at hlen
   go_wp2_with fail
   go_loopg [3, 5] (t.length + 1) (fun k2 p q wr => ∃ a : Nat, q = .int .i64 (a : Int) ∧ a + k2 = t.length + 1 ∧ Hid (wr.ownsRow w.heap.size 72 2 p (refFold ts (upto ts d a)).length (rowCells (refFold ts (upto ts d a)))) ∧ Hid (Below w.heap.size w wr))
   case atStart => exact ⟨0, rfl, by omega, Hown, HB⟩
   case round =>
    clear Hown HB
    obtain ⟨a, rfl, hk2, Hown, HB⟩ := hrel
    obtain ⟨-, A', cap', hv, h2⟩ := HK.out.below HB.out
    obtain ⟨g, cs, T, rfl, kg, hcs⟩ := h2 (by omega)
    obtain ⟨rfl, -, rfl⟩ := Value.slice.inj hv
    have hci : cs[d]? = some (strOf t) := by rw [hcs d (by omega), List.getElem?_map, ht]; rfl
    clear h2 hv hcs
    have c_kg := cells_of kg
    have f_kg := free_of kg
    have l_kg_wr := lt_of kg
    by_cases hla : a ≤ t.length
    ·
     obtain ⟨k2, rfl⟩ : ∃ k, gk = k + 1 := ⟨gk - 1, by omega⟩
     have m1 : decide ((a : Int) ≤ (t.length : Int)) = true := by simp; omega
     have E4 := Lib.hid (step_wrap a 40 (by omega) (by omega))
     have hw0 := HB.out.size
     have hd10 : d ≤ 10 := by omega
     have ha41 : a ≤ 41 := by omega
     have hB := Below.refl wr.heap.size wr
     have c_kg := cells_of kg
     have f_kg := free_of kg
     have l_kg_wr := lt_of kg
     go_wp2_with fail
     refine wp_gen fun V hV_V => ?_
     have n_kg := congrArg (fun v : World => v.heap[g]?) hV_V
     simp (maxDischargeDepth := 9) only [BK, not_false_eq_true, reduceCtorEq, kg, l_kg_wr] at n_kg
     have n_kr := congrArg (fun v : World => v.heap[wr.heap.size]?) hV_V
     simp (maxDischargeDepth := 9) only [BK, not_false_eq_true, reduceCtorEq, kg, l_kg_wr] at n_kr
     have n_B : Below wr.heap.size wr V := nB hV_V
     have z_V := Nat.le_of_eq (congrArg (fun v : World => v.heap.size) hV_V).symm
     try simp only [SZ] at z_V
     clear kg c_kg f_kg
     clear hV_V
     clear hB
     have hB := n_B
     clear n_B
     have kg := n_kg; clear n_kg
     have c_kg := cells_of kg
     have f_kg := free_of kg
     have l_kg_V := lt_of kg
     have kr := n_kr; clear n_kr
     have c_kr := cells_of kr
     have f_kr := free_of kr
     have l_kr_V := lt_of kr
     have hownV := own_below Hown.out hB
     have hBV := below_step HB.out hB
     have hszV := hBV.size
     obtain ⟨out, hout⟩ : ∃ out, out = refFold ts (upto ts d a) := ⟨_, rfl⟩
     rw [← hout] at hownV
     have hol : out.length ≤ 500 := by rw [hout]; exact fold_small hrt d a hd10 ha41
     have hval : ∀ x, x ∈ out → ∃ t', ts[x.1]? = some t' ∧ x.2 ≤ t'.length := fun x hx => fold_valid d a t ht hla x (hout ▸ hx)
     obtain ⟨-, A3, c3, rfl, hx3⟩ := Rx.of_own hownV
     have HownV := Lib.hid hownV; have HBV := Lib.hid hBV; have Hval := Lib.hid hval; have Hout := Lib.hid hout; have HX3 := Lib.hid hx3; have KG := Lib.hid kg; have KR := Lib.hid kr
     clear hownV hBV hval hout hx3 Hown kg kr c_kg c_kr f_kg f_kr hB
     generalize hkrb : wr.heap.size = krb at *
     go_loopg [7] out.length (fun k3 p wr => ∃ j : Nat, p = .int .i64 (j : Int) ∧ j + k3 = out.length ∧ Hid (∀ i x, i < j → out[i]? = some x → refLess ts x (d, a) = true) ∧ Below V.heap.size V wr)
     case atStart => exact ⟨0, rfl, by omega, Lib.hid (fun i x hi => absurd hi (by omega)), Below.refl _ _⟩
     case round =>
      obtain ⟨j, rfl, hk3, Hpre, hB2⟩ := hrel
      have hsz2 := hB2.size
      by_cases hj : j < out.length
      ·
       obtain ⟨k3, rfl⟩ : ∃ k, gk = k + 1 := ⟨gk - 1, by omega⟩
       obtain ⟨x, hx⟩ := at_some hj
       obtain ⟨t1, ht1, hx2⟩ := Hval.out x (List.mem_of_getElem? hx)
       obtain ⟨g3, rfl, hg3, hc3⟩ := HX3.out (by omega)
       have c1 : wr.cell? ⟨g3, j * 2, none⟩ = some (.int .i64 (x.1 : Int)) := ((hB2.cell (by exact hg3)).trans (hc3 _ (by omega))).trans (rowCells_at hx).1
       have c2 : wr.cell? ⟨g3, j * 2 + 1, none⟩ = some (.int .i64 (x.2 : Int)) := ((hB2.cell (by exact hg3)).trans (hc3 _ (by omega))).trans (rowCells_at hx).2
       have ck := cells_of (keep_blk hB2 KR.out)
       have l1 : g3 < wr.heap.size := by omega
       have l2 := lt_of (keep_blk hB2 KR.out)
       have j1 : decide ((j : Int) < (out.length : Int)) = true := by simpa using hj
       have j2 : (j : Int) < (out.length : Int) := by omega
       have E5 := Lib.hid (step_wrap j 500 (by omega) (by omega))
       have hlen1 := H40.out x.1
       rw [getD_at ht1] at hlen1
       have hless : Hid (lessL (decide (x.1 < d)) (t1.drop x.2) (t.drop a) = refLess ts x (d, a)) := Lib.hid (by unfold refLess; rw [getD_at ht1, getD_at ht])
       clear hc3
       go_wp2_with fail
       refine wp_region_noPanic ?_
       refine wp_region_held_drew (S := fun v => Below wr.heap.size wr v ∧ (wr.heap.size ≤ v.heap.size) ∧ ∀ b o, b < wr.heap.size → v.cell? ⟨b, o, none⟩ = wr.cell? ⟨b, o, none⟩) (by kernel_rfl) (HeldB.start wr) (fun hHeld => ?_)
       have hB_d : Below wr.heap.size wr wr.drew := (Below.refl _ _).drew
       generalize wr.drew = wrd at hHeld hB_d ⊢
       refine ty (i := 0) (v := ?_) rfl hHeld ?_ ?_
       rotate_left
       focus (intro w hSw; go_simp; (try simp only [IntWalk.i64_left]); try (with_reducible rfl))
       try simp only [PT]
       refine ty (i := 1) (v := ?_) rfl hHeld ?_ ?_
       rotate_left
       focus (intro w hSw; go_simp; (try simp only [IntWalk.i64_left]); try (with_reducible rfl))
       try simp only [PT]
       refine ty (i := 2) (v := ?_) rfl hHeld ?_ ?_
       rotate_left
       focus (intro w hSw; go_simp; (try simp only [IntWalk.i64_left]); try (with_reducible rfl))
       try simp only [PT]
       refine ty (i := 3) (v := ?_) rfl hHeld ?_ ?_
       rotate_left
       focus (intro w hSw; go_simp; (try simp only [IntWalk.i64_left]); try (with_reducible rfl))
       try simp only [PT]
       refine ty (i := 4) (v := ?_) rfl hHeld ?_ ?_
       rotate_left
       focus (intro w hSw; go_simp; (try simp only [IntWalk.i64_left]); try (with_reducible rfl))
       try simp only [PT]
       refine ty (i := 5) (v := ?_) rfl hHeld ?_ ?_
       rotate_left
       focus (intro w hSw; go_simp; (try simp only [IntWalk.i64_left]); try (with_reducible rfl))
       try simp only [PT]
       refine ty (i := 6) (v := ?_) rfl hHeld ?_ ?_
       rotate_left
       focus (intro w hSw; go_simp; (try simp only [IntWalk.i64_left]); try (with_reducible rfl))
       try simp only [PT]
       refine ty (i := 7) (v := ?_) rfl hHeld ?_ ?_
       rotate_left
       focus (intro w hSw; go_simp; (try simp only [IntWalk.i64_left]); try (with_reducible rfl))
       try simp only [PT]
       refine ty (i := 8) (v := ?_) rfl hHeld ?_ ?_
       rotate_left
       focus (intro w hSw; go_simp; (try simp only [IntWalk.i64_left]); try (with_reducible rfl))
       try simp only [PT]
       refine ty (i := 9) (v := ?_) rfl hHeld ?_ ?_
       rotate_left
       focus (intro w hSw; go_simp; (try simp only [IntWalk.i64_left]); try (with_reducible rfl))
       try simp only [PT]
       refine ty (i := 10) (v := ?_) rfl hHeld ?_ ?_
       rotate_left
       focus (intro w hSw; go_simp; (try simp only [IntWalk.i64_left]); try (with_reducible rfl))
       try simp only [PT]
       refine wpAnyH_ready (rs := [11]) (by kernel_rfl) (by simp) ?_
       refine ready_at rfl (fun K hK => ?_) AllReadyH.nil
       go_simp
       refine (less_calls _ ts x.1 x.2 d a t1 t ht1 hx2 ht hla (by omega) _ hless.out _ (HK.out.below (below_step (below_step HBV.out hB2) hB_d))).mono ?_
       rintro e6 W6 ⟨rfl, hb6⟩
       refine hK.out _ _ (HeldB.call hHeld hb6) (fun hHeld => ?_)
       clear hK K
       try simp only [PT]
       have hBX : Below V.heap.size V W6 := below_step hB2 (below_step hB_d hb6)
       cases hR : refLess ts x (d, a) with
       | true =>
        have Hpre2 : Hid (∀ i y, i < j + 1 → out[i]? = some y → refLess ts y (d, a) = true) := Lib.hid (fun i y hi hy => by
         rcases Nat.lt_or_ge i j with h | h
         ·
          exact Hpre.out i y h hy
         ·
          obtain rfl : i = j := by omega
          rw [hx] at hy; cases hy; exact hR)
        refine ty (i := 12) (v := ?_) rfl hHeld ?_ ?_
        rotate_left
        focus (intro w hSw; go_simp; (try simp only [IntWalk.i64_left]); try (with_reducible rfl))
        try simp only [PT]
        refine wpAnyH_done (by kernel_rfl) ?_ _
        refine NoPanic.normal ?_
        clear c1 c2 ck hHeld Hpre
        go_wp2_with fail
        go_roundg k3
        case measure => omega
        case rel => exact ⟨j + 1, by first | rfl | (rw [E5.out]; rfl), by omega, Hpre2, hBX⟩
       | false =>
        have Hat : Hid (refAt ts out (d, a) = j) := Lib.hid (refAt_of (by omega) Hpre.out (fun y hy => by rw [hx] at hy; cases hy; exact hR))
        refine ty (i := 12) (v := ?_) rfl hHeld ?_ ?_
        rotate_left
        focus (intro w hSw; go_simp; (try simp only [IntWalk.i64_left]); try (with_reducible rfl))
        try simp only [PT]
        refine wpAnyH_done (by kernel_rfl) ?_ _
        refine NoPanic.normal ?_
        clear c1 c2 ck hHeld Hpre hB_d hb6
        go_wp2_with fail
        have ownX := own_below HownV.out hBX
        have krX := keep_blk hBX KR.out
        have ckX := cells_of krX
        have lkX := lt_of krX
        have q0 : out.length ≤ c3 := own_cap HownV.out
        have q1 : j ≤ c3 := by omega
        have q2 : j ≤ out.length := by omega
        refine wp_region_noPanic ?_
        refine wp_region_held_drew (S := fun v => Below W6.heap.size W6 v ∧ (W6.heap.size ≤ v.heap.size) ∧ ∀ b o, b < W6.heap.size → v.cell? ⟨b, o, none⟩ = W6.cell? ⟨b, o, none⟩) (by kernel_rfl) (HeldB.start W6) (fun hHeld => ?_)
        have hB_d : Below W6.heap.size W6 W6.drew := (Below.refl _ _).drew
        generalize W6.drew = W6d at hHeld hB_d ⊢
        refine ty (i := 0) (v := ?_) rfl hHeld ?_ ?_
        rotate_left
        focus (intro w hSw; go_simp; (try simp only [IntWalk.i64_left]); try (with_reducible rfl))
        try simp only [PT]
        refine ty (i := 1) (v := ?_) rfl hHeld ?_ ?_
        rotate_left
        focus (intro w hSw; go_simp; (try simp only [IntWalk.i64_left]); try (with_reducible rfl))
        try simp only [PT]
        refine ty (i := 2) (v := ?_) rfl hHeld ?_ ?_
        rotate_left
        focus (intro w hSw; go_simp; (try simp only [IntWalk.i64_left]); try (with_reducible rfl))
        try simp only [PT]
        refine ty (i := 4) (v := ?_) rfl hHeld ?_ ?_
        rotate_left
        focus (intro w hSw; go_simp; (try simp only [IntWalk.i64_left]); try (with_reducible rfl))
        try simp only [PT]
        refine ty (i := 7) (v := ?_) rfl hHeld ?_ ?_
        rotate_left
        focus (intro w hSw; go_simp; (try simp only [IntWalk.i64_left]); try (with_reducible rfl))
        try simp only [PT]
        refine ty (i := 8) (v := ?_) rfl hHeld ?_ ?_
        rotate_left
        focus (intro w hSw; go_simp; (try simp only [IntWalk.i64_left]); try (with_reducible rfl))
        try simp only [PT]
        refine ty (i := 9) (v := ?_) rfl hHeld ?_ ?_
        rotate_left
        focus (intro w hSw; go_simp; (try simp only [IntWalk.i64_left]); try (with_reducible rfl))
        try simp only [PT]
        have ownD := own_below ownX hB_d
        have hszX := hBX.size
        have hszD := hB_d.size
        skip
        refine wpAnyH_ready (rs := [3, 5]) (by kernel_rfl) (by simp) ?_
        refine ready_at rfl (fun K hK => ?_) (ready_at rfl (fun K hK => ?_) AllReadyH.nil)
        ·
         refine step_moreN (by rfl) _ _ 63 (by rfl) (base := W6.heap.size) (e := 72) (.agg #[.int .i64 0, .int .i64 0]) 2 16 (by omega) Try.underlying63 (by kernel_rfl) (by rfl) (v := .slice none 0 0) (by rfl) (own_nil _ _ _ _) (by rfl) (by have := (Rds.of_own (ownD)).part j q2; rw [rowCells_take] at this; exact this) (rowCells_one _) (nm := j) (by omega) (by omega) (by omega) (hHeld.2.1) ?_
         intro A4 c4 W7 hown7 hlow7 hkeep7
         refine hK.out _ _ (HeldB.low hHeld hlow7) (fun hHeld => ?_)
         clear hK K
         try simp only [PT]
         refine wpAnyH_ready (rs := [5]) (by kernel_rfl) (by simp) ?_
         refine ready_at rfl (fun K hK => ?_) AllReadyH.nil
         go_simp
         refine hK.out _ _ (HeldB.alloc hHeld _) (fun hHeld => ?_)
         clear hK K
         try simp only [PT]
         refine wpAnyH_ready (rs := [6]) (by kernel_rfl) (by simp) ?_
         refine ready_at rfl (fun K hK => ?_) AllReadyH.nil
         refine step_moreN (by rfl) _ _ 63 (by rfl) (base := W6.heap.size) (e := 72) (.agg #[.int .i64 0, .int .i64 0]) 2 16 (by omega) Try.underlying63 (by kernel_rfl) (by rfl) (v := .slice A4 j c4) (by rfl) (hown7.alloc _) (by rfl) (rds_one W7 #[.int .i64 (d : Int), .int .i64 (a : Int)] 72 2 rfl) (rowCells_one [(d, a)]) (nm := j + 1) (by omega) (by omega) (by omega) (hHeld.2.1) ?_
         intro A5 c5 W8 hown8 hlow8 hkeep8
         refine hK.out _ _ (HeldB.low hHeld hlow8) (fun hHeld => ?_)
         clear hK K
         try simp only [PT]
         refine wpAnyH_ready (rs := [10]) (by kernel_rfl) (by simp) ?_
         refine ready_at rfl (fun K hK => ?_) AllReadyH.nil
         refine step_moreN (by rfl) _ _ 63 (by rfl) (base := W6.heap.size) (e := 72) (.agg #[.int .i64 0, .int .i64 0]) 2 16 (by omega) Try.underlying63 (by kernel_rfl) (by rfl) (v := .slice A5 (j + 1) c5) (by rfl) (hown8) (by rfl) (by have := (Rds.of_own (own_below ownX hHeld.1)).behind (A' := if c3 = j then some ⟨g3, 0, none⟩ else some ⟨g3, j * 2, none⟩) j (out.length - j) q2 (by omega) (fun h => by first | (exfalso; omega) | (rw [if_neg (by omega)]; simp [add_zero_off])); rw [rowCells_drop] at this; exact this) (rowCells_one _) (nm := out.length + 1) (by omega) (by omega) (by omega) (hHeld.2.1) ?_
         intro A6 c6 W9 hown9 hlow9 hkeep9
         refine hK.out _ _ (HeldB.low hHeld hlow9) (fun hHeld => ?_)
         clear hK K
         try simp only [PT]
         have hfin := hHeld.1
         refine wpAnyH_ready (rs := [11]) (by kernel_rfl) (by simp) ?_
         refine ready_at rfl (fun K hK => ?_) AllReadyH.nil
         go_simp
         refine hK.out _ _ hHeld (fun hHeld => ?_)
         clear hK K
         try simp only [PT]
         refine wpAnyH_done (by kernel_rfl) ?_ _
         refine NoPanic.normal ?_
         have HF : Hid (W9.ownsRow w.heap.size 72 2 (.slice A6 (out.length + 1) c6) (refFold ts (upto ts d (a + 1))).length (rowCells (refFold ts (upto ts d (a + 1))))) := Lib.hid (by
          rw [upto_snoc, refFold_snoc, ← Hout.out, refIns_length]
          unfold refIns
          rw [Hat.out, rowCells_append, show (d, a) :: out.drop j = [(d, a)] ++ out.drop j from rfl, rowCells_append, ← List.append_assoc]
          exact own_mono hown9 (by omega))
         have HBF := Lib.hid (below_step (below_step HBV.out hBX) hfin)
         clear hown9 hlow9 hkeep9 hfin ownX ownD ckX
         go_wp2_with fail
         all_goals
          go_roundg k2
          case measure => omega
          case rel => exact ⟨a + 1, by first | rfl | (rw [E4.out]; rfl), by omega, HF, HBF⟩
        ·
         go_simp
         refine hK.out _ _ (HeldB.alloc hHeld _) (fun hHeld => ?_)
         clear hK K
         try simp only [PT]
         refine wpAnyH_ready (rs := [3]) (by kernel_rfl) (by simp) ?_
         refine ready_at rfl (fun K hK => ?_) AllReadyH.nil
         refine step_moreN (by rfl) _ _ 63 (by rfl) (base := W6.heap.size) (e := 72) (.agg #[.int .i64 0, .int .i64 0]) 2 16 (by omega) Try.underlying63 (by kernel_rfl) (by rfl) (v := .slice none 0 0) (by rfl) (own_nil _ _ _ _) (by rfl) (by have := (Rds.of_own (ownD.alloc (.cells #[.int .i64 (d : Int), .int .i64 (a : Int)] 72))).part j q2; rw [rowCells_take] at this; exact this) (rowCells_one _) (nm := j) (by omega) (by omega) (by omega) (hHeld.2.1) ?_
         intro A4 c4 W7 hown7 hlow7 hkeep7
         refine hK.out _ _ (HeldB.low hHeld hlow7) (fun hHeld => ?_)
         clear hK K
         try simp only [PT]
         refine wpAnyH_ready (rs := [6]) (by kernel_rfl) (by simp) ?_
         refine ready_at rfl (fun K hK => ?_) AllReadyH.nil
         refine step_moreN (by rfl) _ _ 63 (by rfl) (base := W6.heap.size) (e := 72) (.agg #[.int .i64 0, .int .i64 0]) 2 16 (by omega) Try.underlying63 (by kernel_rfl) (by rfl) (v := .slice A4 j c4) (by rfl) (hown7) (by rfl) ((rds_one W6d #[.int .i64 (d : Int), .int .i64 (a : Int)] 72 2 rfl).below (hkeep7 _ (Nat.le_refl _) (by simp [Value.ownBlock]))) (rowCells_one [(d, a)]) (nm := j + 1) (by omega) (by omega) (by omega) (hHeld.2.1) ?_
         intro A5 c5 W8 hown8 hlow8 hkeep8
         refine hK.out _ _ (HeldB.low hHeld hlow8) (fun hHeld => ?_)
         clear hK K
         try simp only [PT]
         refine wpAnyH_ready (rs := [10]) (by kernel_rfl) (by simp) ?_
         refine ready_at rfl (fun K hK => ?_) AllReadyH.nil
         refine step_moreN (by rfl) _ _ 63 (by rfl) (base := W6.heap.size) (e := 72) (.agg #[.int .i64 0, .int .i64 0]) 2 16 (by omega) Try.underlying63 (by kernel_rfl) (by rfl) (v := .slice A5 (j + 1) c5) (by rfl) (hown8) (by rfl) (by have := (Rds.of_own (own_below ownX hHeld.1)).behind (A' := if c3 = j then some ⟨g3, 0, none⟩ else some ⟨g3, j * 2, none⟩) j (out.length - j) q2 (by omega) (fun h => by first | (exfalso; omega) | (rw [if_neg (by omega)]; simp [add_zero_off])); rw [rowCells_drop] at this; exact this) (rowCells_one _) (nm := out.length + 1) (by omega) (by omega) (by omega) (hHeld.2.1) ?_
         intro A6 c6 W9 hown9 hlow9 hkeep9
         refine hK.out _ _ (HeldB.low hHeld hlow9) (fun hHeld => ?_)
         clear hK K
         try simp only [PT]
         have hfin := hHeld.1
         refine wpAnyH_ready (rs := [11]) (by kernel_rfl) (by simp) ?_
         refine ready_at rfl (fun K hK => ?_) AllReadyH.nil
         go_simp
         refine hK.out _ _ hHeld (fun hHeld => ?_)
         clear hK K
         try simp only [PT]
         refine wpAnyH_done (by kernel_rfl) ?_ _
         refine NoPanic.normal ?_
         have HF : Hid (W9.ownsRow w.heap.size 72 2 (.slice A6 (out.length + 1) c6) (refFold ts (upto ts d (a + 1))).length (rowCells (refFold ts (upto ts d (a + 1))))) := Lib.hid (by
          rw [upto_snoc, refFold_snoc, ← Hout.out, refIns_length]
          unfold refIns
          rw [Hat.out, rowCells_append, show (d, a) :: out.drop j = [(d, a)] ++ out.drop j from rfl, rowCells_append, ← List.append_assoc]
          exact own_mono hown9 (by omega))
         have HBF := Lib.hid (below_step (below_step HBV.out hBX) hfin)
         clear hown9 hlow9 hkeep9 hfin ownX ownD ckX
         go_wp2_with fail
         all_goals
          go_roundg k2
          case measure => omega
          case rel => exact ⟨a + 1, by first | rfl | (rw [E4.out]; rfl), by omega, HF, HBF⟩
      ·
       obtain rfl : j = out.length := by omega
       have j1 : decide ((out.length : Int) < (out.length : Int)) = false := by simp
       have Hat : Hid (refAt ts out (d, a) = out.length) := Lib.hid (refAt_of (Nat.le_refl _) Hpre.out (fun y hy => by simp at hy))
       clear Hpre
       go_wp2_with fail
       refine wp_region_noPanic ?_
       refine wp_region_held_drew (S := fun v => Below wr.heap.size wr v ∧ (wr.heap.size ≤ v.heap.size) ∧ ∀ b o, b < wr.heap.size → v.cell? ⟨b, o, none⟩ = wr.cell? ⟨b, o, none⟩) (by kernel_rfl) (HeldB.start wr) (fun hHeld => ?_)
       have hB_d : Below wr.heap.size wr wr.drew := (Below.refl _ _).drew
       generalize wr.drew = wrd at hHeld hB_d ⊢
       refine ty (i := 0) (v := ?_) rfl hHeld ?_ ?_
       rotate_left
       focus (intro w hSw; go_simp; (try simp only [IntWalk.i64_left]); try (with_reducible rfl))
       try simp only [PT]
       refine ty (i := 1) (v := ?_) rfl hHeld ?_ ?_
       rotate_left
       focus (intro w hSw; go_simp; (try simp only [IntWalk.i64_left]); try (with_reducible rfl))
       try simp only [PT]
       refine ty (i := 2) (v := ?_) rfl hHeld ?_ ?_
       rotate_left
       focus (intro w hSw; go_simp; (try simp only [IntWalk.i64_left]); try (with_reducible rfl))
       try simp only [PT]
       refine ty (i := 3) (v := ?_) rfl hHeld ?_ ?_
       rotate_left
       focus (intro w hSw; go_simp; (try simp only [IntWalk.i64_left]); try (with_reducible rfl))
       try simp only [PT]
       refine ty (i := 4) (v := ?_) rfl hHeld ?_ ?_
       rotate_left
       focus (intro w hSw; go_simp; (try simp only [IntWalk.i64_left]); try (with_reducible rfl))
       try simp only [PT]
       refine take_no (i := 5) rfl (by kernel_rfl) (by kernel_rfl) (by kernel_rfl) (fun _ _ _ h => h) (by rfl) hHeld ?_
       try simp only [PT]
       refine take_no (i := 6) rfl (by kernel_rfl) (by kernel_rfl) (by kernel_rfl) (fun _ _ _ h => h) (by rfl) hHeld ?_
       try simp only [PT]
       refine take_no (i := 7) rfl (by kernel_rfl) (by kernel_rfl) (by kernel_rfl) (fun _ _ _ h => h) (by rfl) hHeld ?_
       try simp only [PT]
       refine take_no (i := 8) rfl (by kernel_rfl) (by kernel_rfl) (by kernel_rfl) (fun _ _ _ h => h) (by rfl) hHeld ?_
       try simp only [PT]
       refine take_no (i := 9) rfl (by kernel_rfl) (by kernel_rfl) (by kernel_rfl) (fun _ _ _ h => h) (by rfl) hHeld ?_
       try simp only [PT]
       refine take_no (i := 10) rfl (by kernel_rfl) (by kernel_rfl) (by kernel_rfl) (fun _ _ _ h => h) (by rfl) hHeld ?_
       try simp only [PT]
       refine take_no (i := 11) rfl (by kernel_rfl) (by kernel_rfl) (by kernel_rfl) (fun _ _ _ h => h) (by rfl) hHeld ?_
       try simp only [PT]
       refine ty (i := 12) (v := ?_) rfl hHeld ?_ ?_
       rotate_left
       focus (intro w hSw; go_simp; (try simp only [IntWalk.i64_left]); try (with_reducible rfl))
       try simp only [PT]
       refine wpAnyH_done (by kernel_rfl) ?_ _
       refine NoPanic.normal ?_
       have hBX : Below V.heap.size V wrd := below_step hB2 hB_d
       clear hHeld hB_d
       go_wp2_with fail
       have ownX := own_below HownV.out hBX
       have krX := keep_blk hBX KR.out
       have ckX := cells_of krX
       have lkX := lt_of krX
       have q0 : out.length ≤ c3 := own_cap HownV.out
       have q1 : out.length ≤ c3 := by omega
       have q2 : out.length ≤ out.length := by omega
       refine wp_region_noPanic ?_
       refine wp_region_held_drew (S := fun v => Below wrd.heap.size wrd v ∧ (wrd.heap.size ≤ v.heap.size) ∧ ∀ b o, b < wrd.heap.size → v.cell? ⟨b, o, none⟩ = wrd.cell? ⟨b, o, none⟩) (by kernel_rfl) (HeldB.start wrd) (fun hHeld => ?_)
       have hB_d : Below wrd.heap.size wrd wrd.drew := (Below.refl _ _).drew
       generalize wrd.drew = wrdd at hHeld hB_d ⊢
       refine ty (i := 0) (v := ?_) rfl hHeld ?_ ?_
       rotate_left
       focus (intro w hSw; go_simp; (try simp only [IntWalk.i64_left]); try (with_reducible rfl))
       try simp only [PT]
       refine ty (i := 1) (v := ?_) rfl hHeld ?_ ?_
       rotate_left
       focus (intro w hSw; go_simp; (try simp only [IntWalk.i64_left]); try (with_reducible rfl))
       try simp only [PT]
       refine ty (i := 2) (v := ?_) rfl hHeld ?_ ?_
       rotate_left
       focus (intro w hSw; go_simp; (try simp only [IntWalk.i64_left]); try (with_reducible rfl))
       try simp only [PT]
       refine ty (i := 4) (v := ?_) rfl hHeld ?_ ?_
       rotate_left
       focus (intro w hSw; go_simp; (try simp only [IntWalk.i64_left]); try (with_reducible rfl))
       try simp only [PT]
       refine ty (i := 7) (v := ?_) rfl hHeld ?_ ?_
       rotate_left
       focus (intro w hSw; go_simp; (try simp only [IntWalk.i64_left]); try (with_reducible rfl))
       try simp only [PT]
       refine ty (i := 8) (v := ?_) rfl hHeld ?_ ?_
       rotate_left
       focus (intro w hSw; go_simp; (try simp only [IntWalk.i64_left]); try (with_reducible rfl))
       try simp only [PT]
       refine ty (i := 9) (v := ?_) rfl hHeld ?_ ?_
       rotate_left
       focus (intro w hSw; go_simp; (try simp only [IntWalk.i64_left]); try (with_reducible rfl))
       try simp only [PT]
       have ownD := own_below ownX hB_d
       have hszX := hBX.size
       have hszD := hB_d.size
       skip
       refine wpAnyH_ready (rs := [3, 5]) (by kernel_rfl) (by simp) ?_
       refine ready_at rfl (fun K hK => ?_) (ready_at rfl (fun K hK => ?_) AllReadyH.nil)
       ·
        refine step_moreN (by rfl) _ _ 63 (by rfl) (base := wrd.heap.size) (e := 72) (.agg #[.int .i64 0, .int .i64 0]) 2 16 (by omega) Try.underlying63 (by kernel_rfl) (by rfl) (v := .slice none 0 0) (by rfl) (own_nil _ _ _ _) (by rfl) (by have := (Rds.of_own (ownD)).part out.length q2; rw [rowCells_take] at this; exact this) (rowCells_one _) (nm := out.length) (by omega) (by omega) (by omega) (hHeld.2.1) ?_
        intro A4 c4 W7 hown7 hlow7 hkeep7
        refine hK.out _ _ (HeldB.low hHeld hlow7) (fun hHeld => ?_)
        clear hK K
        try simp only [PT]
        refine wpAnyH_ready (rs := [5]) (by kernel_rfl) (by simp) ?_
        refine ready_at rfl (fun K hK => ?_) AllReadyH.nil
        go_simp
        refine hK.out _ _ (HeldB.alloc hHeld _) (fun hHeld => ?_)
        clear hK K
        try simp only [PT]
        refine wpAnyH_ready (rs := [6]) (by kernel_rfl) (by simp) ?_
        refine ready_at rfl (fun K hK => ?_) AllReadyH.nil
        refine step_moreN (by rfl) _ _ 63 (by rfl) (base := wrd.heap.size) (e := 72) (.agg #[.int .i64 0, .int .i64 0]) 2 16 (by omega) Try.underlying63 (by kernel_rfl) (by rfl) (v := .slice A4 out.length c4) (by rfl) (hown7.alloc _) (by rfl) (rds_one W7 #[.int .i64 (d : Int), .int .i64 (a : Int)] 72 2 rfl) (rowCells_one [(d, a)]) (nm := out.length + 1) (by omega) (by omega) (by omega) (hHeld.2.1) ?_
        intro A5 c5 W8 hown8 hlow8 hkeep8
        refine hK.out _ _ (HeldB.low hHeld hlow8) (fun hHeld => ?_)
        clear hK K
        try simp only [PT]
        refine wpAnyH_ready (rs := [10]) (by kernel_rfl) (by simp) ?_
        refine ready_at rfl (fun K hK => ?_) AllReadyH.nil
        refine step_moreN (by rfl) _ _ 63 (by rfl) (base := wrd.heap.size) (e := 72) (.agg #[.int .i64 0, .int .i64 0]) 2 16 (by omega) Try.underlying63 (by kernel_rfl) (by rfl) (v := .slice A5 (out.length + 1) c5) (by rfl) (hown8) (by rfl) (by have := (Rds.of_own (own_below ownX hHeld.1)).behind (A' := if c3 = out.length then A3 else A3.map (·.add (out.length * 2))) out.length 0 q2 (by omega) (fun h => by first | (exfalso; omega) | (rw [if_neg (by omega)]; simp [add_zero_off])); rw [rowCells_drop] at this; exact this) (rowCells_one _) (nm := out.length + 1) (by omega) (by omega) (by omega) (hHeld.2.1) ?_
        intro A6 c6 W9 hown9 hlow9 hkeep9
        refine hK.out _ _ (HeldB.low hHeld hlow9) (fun hHeld => ?_)
        clear hK K
        try simp only [PT]
        have hfin := hHeld.1
        refine wpAnyH_ready (rs := [11]) (by kernel_rfl) (by simp) ?_
        refine ready_at rfl (fun K hK => ?_) AllReadyH.nil
        go_simp
        refine hK.out _ _ hHeld (fun hHeld => ?_)
        clear hK K
        try simp only [PT]
        refine wpAnyH_done (by kernel_rfl) ?_ _
        refine NoPanic.normal ?_
        have HF : Hid (W9.ownsRow w.heap.size 72 2 (.slice A6 (out.length + 1) c6) (refFold ts (upto ts d (a + 1))).length (rowCells (refFold ts (upto ts d (a + 1))))) := Lib.hid (by
         rw [upto_snoc, refFold_snoc, ← Hout.out, refIns_length]
         unfold refIns
         rw [Hat.out, rowCells_append, show (d, a) :: out.drop out.length = [(d, a)] ++ out.drop out.length from rfl, rowCells_append, ← List.append_assoc]
         exact own_mono hown9 (by omega))
        have HBF := Lib.hid (below_step (below_step HBV.out hBX) hfin)
        clear hown9 hlow9 hkeep9 hfin ownX ownD ckX
        go_wp2_with fail
        all_goals
         go_roundg k2
         case measure => omega
         case rel => exact ⟨a + 1, by first | rfl | (rw [E4.out]; rfl), by omega, HF, HBF⟩
       ·
        go_simp
        refine hK.out _ _ (HeldB.alloc hHeld _) (fun hHeld => ?_)
        clear hK K
        try simp only [PT]
        refine wpAnyH_ready (rs := [3]) (by kernel_rfl) (by simp) ?_
        refine ready_at rfl (fun K hK => ?_) AllReadyH.nil
        refine step_moreN (by rfl) _ _ 63 (by rfl) (base := wrd.heap.size) (e := 72) (.agg #[.int .i64 0, .int .i64 0]) 2 16 (by omega) Try.underlying63 (by kernel_rfl) (by rfl) (v := .slice none 0 0) (by rfl) (own_nil _ _ _ _) (by rfl) (by have := (Rds.of_own (ownD.alloc (.cells #[.int .i64 (d : Int), .int .i64 (a : Int)] 72))).part out.length q2; rw [rowCells_take] at this; exact this) (rowCells_one _) (nm := out.length) (by omega) (by omega) (by omega) (hHeld.2.1) ?_
        intro A4 c4 W7 hown7 hlow7 hkeep7
        refine hK.out _ _ (HeldB.low hHeld hlow7) (fun hHeld => ?_)
        clear hK K
        try simp only [PT]
        refine wpAnyH_ready (rs := [6]) (by kernel_rfl) (by simp) ?_
        refine ready_at rfl (fun K hK => ?_) AllReadyH.nil
        refine step_moreN (by rfl) _ _ 63 (by rfl) (base := wrd.heap.size) (e := 72) (.agg #[.int .i64 0, .int .i64 0]) 2 16 (by omega) Try.underlying63 (by kernel_rfl) (by rfl) (v := .slice A4 out.length c4) (by rfl) (hown7) (by rfl) ((rds_one wrdd #[.int .i64 (d : Int), .int .i64 (a : Int)] 72 2 rfl).below (hkeep7 _ (Nat.le_refl _) (by simp [Value.ownBlock]))) (rowCells_one [(d, a)]) (nm := out.length + 1) (by omega) (by omega) (by omega) (hHeld.2.1) ?_
        intro A5 c5 W8 hown8 hlow8 hkeep8
        refine hK.out _ _ (HeldB.low hHeld hlow8) (fun hHeld => ?_)
        clear hK K
        try simp only [PT]
        refine wpAnyH_ready (rs := [10]) (by kernel_rfl) (by simp) ?_
        refine ready_at rfl (fun K hK => ?_) AllReadyH.nil
        refine step_moreN (by rfl) _ _ 63 (by rfl) (base := wrd.heap.size) (e := 72) (.agg #[.int .i64 0, .int .i64 0]) 2 16 (by omega) Try.underlying63 (by kernel_rfl) (by rfl) (v := .slice A5 (out.length + 1) c5) (by rfl) (hown8) (by rfl) (by have := (Rds.of_own (own_below ownX hHeld.1)).behind (A' := if c3 = out.length then A3 else A3.map (·.add (out.length * 2))) out.length 0 q2 (by omega) (fun h => by first | (exfalso; omega) | (rw [if_neg (by omega)]; simp [add_zero_off])); rw [rowCells_drop] at this; exact this) (rowCells_one _) (nm := out.length + 1) (by omega) (by omega) (by omega) (hHeld.2.1) ?_
        intro A6 c6 W9 hown9 hlow9 hkeep9
        refine hK.out _ _ (HeldB.low hHeld hlow9) (fun hHeld => ?_)
        clear hK K
        try simp only [PT]
        have hfin := hHeld.1
        refine wpAnyH_ready (rs := [11]) (by kernel_rfl) (by simp) ?_
        refine ready_at rfl (fun K hK => ?_) AllReadyH.nil
        go_simp
        refine hK.out _ _ hHeld (fun hHeld => ?_)
        clear hK K
        try simp only [PT]
        refine wpAnyH_done (by kernel_rfl) ?_ _
        refine NoPanic.normal ?_
        have HF : Hid (W9.ownsRow w.heap.size 72 2 (.slice A6 (out.length + 1) c6) (refFold ts (upto ts d (a + 1))).length (rowCells (refFold ts (upto ts d (a + 1))))) := Lib.hid (by
         rw [upto_snoc, refFold_snoc, ← Hout.out, refIns_length]
         unfold refIns
         rw [Hat.out, rowCells_append, show (d, a) :: out.drop out.length = [(d, a)] ++ out.drop out.length from rfl, rowCells_append, ← List.append_assoc]
         exact own_mono hown9 (by omega))
        have HBF := Lib.hid (below_step (below_step HBV.out hBX) hfin)
        clear hown9 hlow9 hkeep9 hfin ownX ownD ckX
        go_wp2_with fail
        all_goals
         go_roundg k2
         case measure => omega
         case rel => exact ⟨a + 1, by first | rfl | (rw [E4.out]; rfl), by omega, HF, HBF⟩
    ·
     obtain rfl : a = t.length + 1 := by omega
     have m1 : decide (((t.length + 1 : Nat) : Int) ≤ (t.length : Int)) = false := by simp; omega
     have hown := Hown.out
     rw [← hgd, upto_next] at hown
     have HO := Lib.hid hown; clear hown Hown
     go_wp2_with fail
     go_roundg k
     case measure => omega
     case rel => exact ⟨d + 1, by first | rfl | (rw [E3.out]; rfl), by omega, HO, HB⟩
  ·
   have hi : d = ts.length := by omega
   have n1 : decide ((d : Int) < (ts.length : Int)) = false := by simpa using hlt
   have hown := Hown.out
   rw [hi] at hown
   have HO := Lib.hid hown; clear hown Hown
   go_wp2_with fail
   go_ret
   exact ⟨u3, rfl, HO.out, HB.out⟩
end Go.Proofs.Ytkgabbenmoocgaa
