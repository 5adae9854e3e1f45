/- Part 7 of what these laws needs: the walks of the program's functions, and plain facts. -/
import Derived.Test.YtpdpcgmkpgfblaaCoreM6
import Derived.Deep.Slices
import Derived.Deep.Fields
import Derived.ChangeSame
import Derived.WideShapes
import Derived.Laws.IdiomStrings
import Derived.Laws.ComplexArith
import Derived.Laws.Externs
/- The document's own: the rows in their order (written by gen_sorted.py). -/
namespace Go.Proofs.Ytpdpcgmkpgfblaa
set_option linter.unusedSimpArgs false
set_option linter.unusedVariables false
set_option linter.unnecessarySimpa false
open Go.RowKit
attribute [local go_sem ↓] Go.wp_at_zero Go.wp_at_succ
attribute [local go_sem] str_len
theorem rowCells_length (l : List (Nat × Nat)) : (rowCells l).length = l.length * 2 := by unfold rowCells rowInts; rw [itemCells_length, List.length_map]
theorem rowCells_append (a b : List (Nat × Nat)) : rowCells (a ++ b) = rowCells a ++ rowCells b := by unfold rowCells rowInts; rw [List.map_append, itemCells_append]
theorem rowCells_take : ∀ (l : List (Nat × Nat)) (k : Nat), (rowCells l).take (k * 2) = rowCells (l.take k)
  | [], k => by simp [rowCells, rowInts, itemCells]
  | x :: l, 0 => rfl
  | x :: l, k + 1 => by
    have := rowCells_take l k
    rw [show (k + 1) * 2 = k * 2 + 1 + 1 by omega]
    unfold rowCells rowInts at this ⊢
    simp [itemCells, this]
theorem rowCells_drop : ∀ (l : List (Nat × Nat)) (k : Nat), (rowCells l).drop (k * 2) = rowCells (l.drop k)
  | [], k => by simp [rowCells, rowInts, itemCells]
  | x :: l, 0 => rfl
  | x :: l, k + 1 => by
    have := rowCells_drop l k
    rw [show (k + 1) * 2 = k * 2 + 1 + 1 by omega]
    unfold rowCells rowInts at this ⊢
    simp [itemCells, this]
theorem rowCells_one (l : List (Nat × Nat)) : ∀ u ∈ rowCells l, u.oneCell' = true := by
  unfold rowCells rowInts
  induction l with
  | nil => simp [itemCells]
  | cons x l ih =>
    intro u hu
    simp only [List.map_cons, itemCells, List.mem_cons] at hu
    rcases hu with rfl | rfl | hu
    · rfl
    · rfl
    · exact ih u hu
theorem rowCells_at {l : List (Nat × Nat)} {i : Nat} {r : Nat × Nat} (h : l[i]? = some r) : (rowCells l)[i * 2]? = some (.int .i64 (r.1 : Int)) ∧ (rowCells l)[i * 2 + 1]? = some (.int .i64 (r.2 : Int)) := by
  unfold rowCells rowInts
  exact itemCells_at _ i ((r.1 : Int), (r.2 : Int)) (by simp [h])
theorem step_wrap (j n : Nat) (h : j ≤ n) (hn : n ≤ 50000) : wrap64 ((j : Int) + 1) = (j : Int) + 1 := IntWalk.wrap64_in _ (by omega)
set_option maxRecDepth 100000 in
set_option maxHeartbeats 8000000 in
theorem sorted_walk (v : Value) (ts : List (List UInt8)) (hrt : refRight ts = true) (w : World) (h : Rk w 1 v ts.length (ts.map strOf)) :
    Calls Try.prog 21 #[v] w fun e w' => ∃ v', e = .returned v' ∧ w'.ownsRow w.heap.size 65 2 v' (refFold ts (upto ts ts.length 0)).length (rowCells (refFold ts (upto ts ts.length 0))) ∧ Below w.heap.size w w' := by
  obtain ⟨hn10, h40⟩ := right_len hrt
  have H40 := Lib.hid h40; clear h40
  have HK := Lib.hid h
  obtain ⟨h1, A, cap, rfl, h2⟩ := h
  clear h1 h2
  go_enter Try.func21, Try.ntmps21
  go_wp2_with fail
  refine calls_gen fun V0 hV_V0 => ?_
  have hB : Below w.heap.size w V0 := nB hV_V0
  have z_V0 := zS hV_V0
  clear hV_V0
  refine (rright_calls _ ts (by omega) _ (HK.out.below hB)).mono ?_
  rintro e_W0 W0 ⟨rfl, hb_W0⟩
  replace hB := below_step hB hb_W0
  have z_W0 := hb_W0.size
  clear hb_W0
  rw [hrt]
  have HB0 := Lib.hid hB; clear hB
  go_wp2_with fail
  go_loopg [3, 4] ts.length (fun k p q wr => ∃ d : Nat, q = .int .i64 (d : Int) ∧ d + k = ts.length ∧ Hid (wr.ownsRow w.heap.size 65 2 p (refFold ts (upto ts d 0)).length (rowCells (refFold ts (upto ts d 0)))) ∧ Hid (Below w.heap.size w wr))
  case atStart => exact ⟨0, rfl, by omega, Lib.hid (own_nil _ _ _ _), HB0⟩
  case round =>
    clear HB0
    obtain ⟨d, rfl, hk, Hown, HB⟩ := hrel
    by_cases hlt : d < ts.length
    · obtain ⟨k, rfl⟩ : ∃ k, gk = k + 1 := ⟨gk - 1, by omega⟩
      obtain ⟨t, ht⟩ := at_some hlt
      have n1 : decide ((d : Int) < (ts.length : Int)) = true := by simpa using hlt
      have n2 : (d : Int) < (ts.length : Int) := by omega
      have E3 := Lib.hid (step_wrap d 10 (by omega) (by omega))
      have hgd := getD_at ht
      have hlen := H40.out d
      rw [hgd] at hlen
      go_wp2_with fail
      go_loopg [3, 5] (t.length + 1) (fun k2 p q wr => ∃ a : Nat, q = .int .i64 (a : Int) ∧ a + k2 = t.length + 1 ∧ Hid (wr.ownsRow w.heap.size 65 2 p (refFold ts (upto ts d a)).length (rowCells (refFold ts (upto ts d a)))) ∧ Hid (Below w.heap.size w wr))
      case atStart => exact ⟨0, rfl, by omega, Hown, HB⟩
      case round =>
        clear Hown HB
        obtain ⟨a, rfl, hk2, Hown, HB⟩ := hrel
        obtain ⟨-, A', cap', hv, h2⟩ := HK.out.below HB.out
        obtain ⟨g, cs, T, rfl, kg, hcs⟩ := h2 (by omega)
        obtain ⟨rfl, -, rfl⟩ := Value.slice.inj hv
        have hci : cs[d]? = some (strOf t) := by rw [hcs d (by omega), List.getElem?_map, ht]; rfl
        clear h2 hv hcs
        obtain ⟨c_kg, f_kg, l_kg_wr⟩ := f3 kg
        by_cases hla : a ≤ t.length
        · obtain ⟨k2, rfl⟩ : ∃ k, gk = k + 1 := ⟨gk - 1, by omega⟩
          have m1 : decide ((a : Int) ≤ (t.length : Int)) = true := by simp; omega
          have E4 := Lib.hid (step_wrap a 40 (by omega) (by omega))
          have hw0 := HB.out.size
          have hd10 : d ≤ 10 := by omega
          have ha41 : a ≤ 41 := by omega
          have hB := Below.refl wr.heap.size wr
          obtain ⟨c_kg, f_kg, l_kg_wr⟩ := f3 kg
          go_wp2_with fail
          refine wp_gen fun V hV_V => ?_
          have n_kr := hbk hV_V (wr.heap.size)
          simp (maxDischargeDepth := 9) only [BK, not_false_eq_true, reduceCtorEq, kg, l_kg_wr] at n_kr
          replace kg := kK hV_V kg
          replace hB : Below wr.heap.size wr V := nB hV_V
          have z_V := zS hV_V
          clear hV_V c_kg f_kg
          obtain ⟨c_kg, f_kg, l_kg_V⟩ := f3 kg
          have kr := n_kr; clear n_kr
          obtain ⟨c_kr, f_kr, l_kr_V⟩ := f3 kr
          have hownV := own_below Hown.out hB
          have hBV := below_step HB.out hB
          have hszV := hBV.size
          obtain ⟨out, hout⟩ : ∃ out, out = refFold ts (upto ts d a) := ⟨_, rfl⟩
          rw [← hout] at hownV
          have hol : out.length ≤ 500 := by rw [hout]; exact fold_small hrt d a hd10 ha41
          have hval : ∀ x, x ∈ out → ∃ t', ts[x.1]? = some t' ∧ x.2 ≤ t'.length := fun x hx => fold_valid d a t ht hla x (hout ▸ hx)
          obtain ⟨-, A3, c3, rfl, hx3⟩ := Rx.of_own hownV
          have HownV := Lib.hid hownV; have HBV := Lib.hid hBV; have Hval := Lib.hid hval; have Hout := Lib.hid hout; have HX3 := Lib.hid hx3; have KG := Lib.hid kg; have KR := Lib.hid kr
          clear hownV hBV hval hout hx3 Hown kg kr c_kg c_kr f_kg f_kr hB
          generalize hkrb : wr.heap.size = krb at *
          go_loopg [7] out.length (fun k3 p wr => ∃ j : Nat, p = .int .i64 (j : Int) ∧ j + k3 = out.length ∧ Hid (∀ i x, i < j → out[i]? = some x → refLess ts x (d, a) = true) ∧ Below V.heap.size V wr)
          case atStart => exact ⟨0, rfl, by omega, Lib.hid (fun i x hi => absurd hi (by omega)), Below.refl _ _⟩
          case round =>
            obtain ⟨j, rfl, hk3, Hpre, hB2⟩ := hrel
            have hsz2 := hB2.size
            by_cases hj : j < out.length
            · obtain ⟨k3, rfl⟩ : ∃ k, gk = k + 1 := ⟨gk - 1, by omega⟩
              obtain ⟨x, hx⟩ := at_some hj
              obtain ⟨t1, ht1, hx2⟩ := Hval.out x (List.mem_of_getElem? hx)
              obtain ⟨g3, rfl, hg3, hc3⟩ := HX3.out (by omega)
              have c1 : wr.cell? ⟨g3, j * 2, none⟩ = some (.int .i64 (x.1 : Int)) := ((hB2.cell (by exact hg3)).trans (hc3 _ (by omega))).trans (rowCells_at hx).1
              have c2 : wr.cell? ⟨g3, j * 2 + 1, none⟩ = some (.int .i64 (x.2 : Int)) := ((hB2.cell (by exact hg3)).trans (hc3 _ (by omega))).trans (rowCells_at hx).2
              have ck := cells_of (keep_blk hB2 KR.out)
              have l1 : g3 < wr.heap.size := by omega
              have l2 := lt_of (keep_blk hB2 KR.out)
              have j1 : decide ((j : Int) < (out.length : Int)) = true := by simpa using hj
              have j2 : (j : Int) < (out.length : Int) := by omega
              have E5 := Lib.hid (step_wrap j 500 (by omega) (by omega))
              have hlen1 := H40.out x.1
              rw [getD_at ht1] at hlen1
              have hless : Hid (lessL (decide (x.1 < d)) (t1.drop x.2) (t.drop a) = refLess ts x (d, a)) := Lib.hid (by unfold refLess; rw [getD_at ht1, getD_at ht])
              clear hc3
              go_wp2_with fail
              refine wp_region_noPanic ?_
              refine wp_region_held_drew (S := fun v => Below wr.heap.size wr v ∧ (wr.heap.size ≤ v.heap.size) ∧ ∀ b o, b < wr.heap.size → v.cell? ⟨b, o, none⟩ = wr.cell? ⟨b, o, none⟩) (by kernel_rfl) (HeldB.start wr) (fun hHeld => ?_)
              have hB_d : Below wr.heap.size wr wr.drew := (Below.refl _ _).drew
              generalize wr.drew = wrd at hHeld hB_d ⊢
              refine tz 0 rfl hHeld ?_
              try simp only [PT]
              refine tz 1 rfl hHeld ?_
              try simp only [PT]
              refine tz 2 rfl hHeld ?_
              try simp only [PT]
              refine tz 3 rfl hHeld ?_
              try simp only [PT]
              refine tz 4 rfl hHeld ?_
              try simp only [PT]
              refine tz 5 rfl hHeld ?_
              try simp only [PT]
              refine tz 6 rfl hHeld ?_
              try simp only [PT]
              refine tz 7 rfl hHeld ?_
              try simp only [PT]
              refine tz 8 rfl hHeld ?_
              try simp only [PT]
              refine tz 9 rfl hHeld ?_
              try simp only [PT]
              refine tz 10 rfl hHeld ?_
              try simp only [PT]
              refine rd 11 rfl fun K hK => ?_
              go_simp
              refine (less_calls _ ts x.1 x.2 d a t1 t ht1 hx2 ht hla (by omega) _ hless.out _ (HK.out.below (below_step (below_step HBV.out hB2) hB_d))).mono ?_
              rintro e6 W6 ⟨rfl, hb6⟩
              refine hK.out _ _ (HeldB.call hHeld hb6) (fun hHeld => ?_)
              clear hK K
              try simp only [PT]
              have hBX : Below V.heap.size V W6 := below_step hB2 (below_step hB_d hb6)
              cases hR : refLess ts x (d, a) with
              | true =>
                have Hpre2 : Hid (∀ i y, i < j + 1 → out[i]? = some y → refLess ts y (d, a) = true) := Lib.hid (fun i y hi hy => by
                  rcases Nat.lt_or_ge i j with h | h
                  · exact Hpre.out i y h hy
                  · obtain rfl : i = j := by omega
                    rw [hx] at hy; cases hy; exact hR)
                refine tz 12 rfl hHeld ?_
                try simp only [PT]
                refine wpAnyH_done (by kernel_rfl) ?_ _
                refine NoPanic.normal ?_
                clear c1 c2 ck hHeld Hpre
                go_wp2_with fail
                go_roundg k3
                case measure => omega
                case rel => exact ⟨j + 1, by first | rfl | (rw [E5.out]; rfl), by omega, Hpre2, hBX⟩
              | false =>
                have Hat : Hid (refAt ts out (d, a) = j) := Lib.hid (refAt_of (by omega) Hpre.out (fun y hy => by rw [hx] at hy; cases hy; exact hR))
                refine tz 12 rfl hHeld ?_
                try simp only [PT]
                refine wpAnyH_done (by kernel_rfl) ?_ _
                refine NoPanic.normal ?_
                clear c1 c2 ck hHeld Hpre hB_d hb6
                go_wp2_with fail
                have ownX := own_below HownV.out hBX
                have krX := keep_blk hBX KR.out
                have ckX := cells_of krX
                have lkX := lt_of krX
                have q0 : out.length ≤ c3 := own_cap HownV.out
                have q1 : j ≤ c3 := by omega
                have q2 : j ≤ out.length := by omega
                refine wp_region_noPanic ?_
                refine wp_region_held_drew (S := fun v => Below W6.heap.size W6 v ∧ (W6.heap.size ≤ v.heap.size) ∧ ∀ b o, b < W6.heap.size → v.cell? ⟨b, o, none⟩ = W6.cell? ⟨b, o, none⟩) (by kernel_rfl) (HeldB.start W6) (fun hHeld => ?_)
                have hB_d : Below W6.heap.size W6 W6.drew := (Below.refl _ _).drew
                generalize W6.drew = W6d at hHeld hB_d ⊢
                refine tz 0 rfl hHeld ?_
                try simp only [PT]
                refine tz 1 rfl hHeld ?_
                try simp only [PT]
                refine tz 2 rfl hHeld ?_
                try simp only [PT]
                refine tz 4 rfl hHeld ?_
                try simp only [PT]
                refine tz 7 rfl hHeld ?_
                try simp only [PT]
                refine tz 8 rfl hHeld ?_
                try simp only [PT]
                refine tz 9 rfl hHeld ?_
                try simp only [PT]
                have ownD := own_below ownX hB_d
                have hszX := hBX.size
                have hszD := hB_d.size
                skip
                refine wpAnyH_ready (rs := [3, 5]) (by kernel_rfl) (by simp) ?_
                refine ready_at rfl (fun K hK => ?_) (ready_at rfl (fun K hK => ?_) AllReadyH.nil)
                · refine step_moreN (by rfl) _ _ 55 (by rfl) (base := W6.heap.size) (e := 65) (.agg #[.int .i64 0, .int .i64 0]) 2 16 (by omega) Try.underlying55 (by kernel_rfl) (by rfl) (v := .slice none 0 0) (by rfl) (own_nil _ _ _ _) (by rfl) (by have := (Rds.of_own (ownD)).part j q2; rw [rowCells_take] at this; exact this) (rowCells_one _) (nm := j) (by omega) (by omega) (by omega) (hHeld.2.1) ?_
                  intro A4 c4 W7 hown7 hlow7 hkeep7
                  refine hK.out _ _ (HeldB.low hHeld hlow7) (fun hHeld => ?_)
                  clear hK K
                  try simp only [PT]
                  refine rd 5 rfl fun K hK => ?_
                  go_simp
                  refine hK.out _ _ (HeldB.alloc hHeld _) (fun hHeld => ?_)
                  clear hK K
                  try simp only [PT]
                  refine rd 6 rfl fun K hK => ?_
                  refine step_moreN (by rfl) _ _ 55 (by rfl) (base := W6.heap.size) (e := 65) (.agg #[.int .i64 0, .int .i64 0]) 2 16 (by omega) Try.underlying55 (by kernel_rfl) (by rfl) (v := .slice A4 j c4) (by rfl) (hown7.alloc _) (by rfl) (rds_one W7 #[.int .i64 (d : Int), .int .i64 (a : Int)] 65 2 rfl) (rowCells_one [(d, a)]) (nm := j + 1) (by omega) (by omega) (by omega) (hHeld.2.1) ?_
                  intro A5 c5 W8 hown8 hlow8 hkeep8
                  refine hK.out _ _ (HeldB.low hHeld hlow8) (fun hHeld => ?_)
                  clear hK K
                  try simp only [PT]
                  refine rd 10 rfl fun K hK => ?_
                  refine step_moreN (by rfl) _ _ 55 (by rfl) (base := W6.heap.size) (e := 65) (.agg #[.int .i64 0, .int .i64 0]) 2 16 (by omega) Try.underlying55 (by kernel_rfl) (by rfl) (v := .slice A5 (j + 1) c5) (by rfl) (hown8) (by rfl) (by have := (Rds.of_own (own_below ownX hHeld.1)).behind (A' := if c3 = j then some ⟨g3, 0, none⟩ else some ⟨g3, j * 2, none⟩) j (out.length - j) q2 (by omega) (fun h => by first | (exfalso; omega) | (rw [if_neg (by omega)]; simp [add_zero_off])); rw [rowCells_drop] at this; exact this) (rowCells_one _) (nm := out.length + 1) (by omega) (by omega) (by omega) (hHeld.2.1) ?_
                  intro A6 c6 W9 hown9 hlow9 hkeep9
                  refine hK.out _ _ (HeldB.low hHeld hlow9) (fun hHeld => ?_)
                  clear hK K
                  try simp only [PT]
                  have hfin := hHeld.1
                  refine rd 11 rfl fun K hK => ?_
                  go_simp
                  refine hK.out _ _ hHeld (fun hHeld => ?_)
                  clear hK K
                  try simp only [PT]
                  refine wpAnyH_done (by kernel_rfl) ?_ _
                  refine NoPanic.normal ?_
                  have HF : Hid (W9.ownsRow w.heap.size 65 2 (.slice A6 (out.length + 1) c6) (refFold ts (upto ts d (a + 1))).length (rowCells (refFold ts (upto ts d (a + 1))))) := Lib.hid (by
                    rw [upto_snoc, refFold_snoc, ← Hout.out, refIns_length]
                    unfold refIns
                    rw [Hat.out, rowCells_append, show (d, a) :: out.drop j = [(d, a)] ++ out.drop j from rfl, rowCells_append, ← List.append_assoc]
                    exact own_mono hown9 (by omega))
                  have HBF := Lib.hid (below_step (below_step HBV.out hBX) hfin)
                  clear hown9 hlow9 hkeep9 hfin ownX ownD ckX
                  go_wp2_with fail
                  all_goals
                    go_roundg k2
                    case measure => omega
                    case rel => exact ⟨a + 1, by first | rfl | (rw [E4.out]; rfl), by omega, HF, HBF⟩
                · go_simp
                  refine hK.out _ _ (HeldB.alloc hHeld _) (fun hHeld => ?_)
                  clear hK K
                  try simp only [PT]
                  refine rd 3 rfl fun K hK => ?_
                  refine step_moreN (by rfl) _ _ 55 (by rfl) (base := W6.heap.size) (e := 65) (.agg #[.int .i64 0, .int .i64 0]) 2 16 (by omega) Try.underlying55 (by kernel_rfl) (by rfl) (v := .slice none 0 0) (by rfl) (own_nil _ _ _ _) (by rfl) (by have := (Rds.of_own (ownD.alloc (.cells #[.int .i64 (d : Int), .int .i64 (a : Int)] 65))).part j q2; rw [rowCells_take] at this; exact this) (rowCells_one _) (nm := j) (by omega) (by omega) (by omega) (hHeld.2.1) ?_
                  intro A4 c4 W7 hown7 hlow7 hkeep7
                  refine hK.out _ _ (HeldB.low hHeld hlow7) (fun hHeld => ?_)
                  clear hK K
                  try simp only [PT]
                  refine rd 6 rfl fun K hK => ?_
                  refine step_moreN (by rfl) _ _ 55 (by rfl) (base := W6.heap.size) (e := 65) (.agg #[.int .i64 0, .int .i64 0]) 2 16 (by omega) Try.underlying55 (by kernel_rfl) (by rfl) (v := .slice A4 j c4) (by rfl) (hown7) (by rfl) ((rds_one W6d #[.int .i64 (d : Int), .int .i64 (a : Int)] 65 2 rfl).below (hkeep7 _ (Nat.le_refl _) (by simp [Value.ownBlock]))) (rowCells_one [(d, a)]) (nm := j + 1) (by omega) (by omega) (by omega) (hHeld.2.1) ?_
                  intro A5 c5 W8 hown8 hlow8 hkeep8
                  refine hK.out _ _ (HeldB.low hHeld hlow8) (fun hHeld => ?_)
                  clear hK K
                  try simp only [PT]
                  refine rd 10 rfl fun K hK => ?_
                  refine step_moreN (by rfl) _ _ 55 (by rfl) (base := W6.heap.size) (e := 65) (.agg #[.int .i64 0, .int .i64 0]) 2 16 (by omega) Try.underlying55 (by kernel_rfl) (by rfl) (v := .slice A5 (j + 1) c5) (by rfl) (hown8) (by rfl) (by have := (Rds.of_own (own_below ownX hHeld.1)).behind (A' := if c3 = j then some ⟨g3, 0, none⟩ else some ⟨g3, j * 2, none⟩) j (out.length - j) q2 (by omega) (fun h => by first | (exfalso; omega) | (rw [if_neg (by omega)]; simp [add_zero_off])); rw [rowCells_drop] at this; exact this) (rowCells_one _) (nm := out.length + 1) (by omega) (by omega) (by omega) (hHeld.2.1) ?_
                  intro A6 c6 W9 hown9 hlow9 hkeep9
                  refine hK.out _ _ (HeldB.low hHeld hlow9) (fun hHeld => ?_)
                  clear hK K
                  try simp only [PT]
                  have hfin := hHeld.1
                  refine rd 11 rfl fun K hK => ?_
                  go_simp
                  refine hK.out _ _ hHeld (fun hHeld => ?_)
                  clear hK K
                  try simp only [PT]
                  refine wpAnyH_done (by kernel_rfl) ?_ _
                  refine NoPanic.normal ?_
                  have HF : Hid (W9.ownsRow w.heap.size 65 2 (.slice A6 (out.length + 1) c6) (refFold ts (upto ts d (a + 1))).length (rowCells (refFold ts (upto ts d (a + 1))))) := Lib.hid (by
                    rw [upto_snoc, refFold_snoc, ← Hout.out, refIns_length]
                    unfold refIns
                    rw [Hat.out, rowCells_append, show (d, a) :: out.drop j = [(d, a)] ++ out.drop j from rfl, rowCells_append, ← List.append_assoc]
                    exact own_mono hown9 (by omega))
                  have HBF := Lib.hid (below_step (below_step HBV.out hBX) hfin)
                  clear hown9 hlow9 hkeep9 hfin ownX ownD ckX
                  go_wp2_with fail
                  all_goals
                    go_roundg k2
                    case measure => omega
                    case rel => exact ⟨a + 1, by first | rfl | (rw [E4.out]; rfl), by omega, HF, HBF⟩
            · obtain rfl : j = out.length := by omega
              have j1 : decide ((out.length : Int) < (out.length : Int)) = false := by simp
              have Hat : Hid (refAt ts out (d, a) = out.length) := Lib.hid (refAt_of (Nat.le_refl _) Hpre.out (fun y hy => by simp at hy))
              clear Hpre
              go_wp2_with fail
              refine wp_region_noPanic ?_
              refine wp_region_held_drew (S := fun v => Below wr.heap.size wr v ∧ (wr.heap.size ≤ v.heap.size) ∧ ∀ b o, b < wr.heap.size → v.cell? ⟨b, o, none⟩ = wr.cell? ⟨b, o, none⟩) (by kernel_rfl) (HeldB.start wr) (fun hHeld => ?_)
              have hB_d : Below wr.heap.size wr wr.drew := (Below.refl _ _).drew
              generalize wr.drew = wrd at hHeld hB_d ⊢
              refine tz 0 rfl hHeld ?_
              try simp only [PT]
              refine tz 1 rfl hHeld ?_
              try simp only [PT]
              refine tz 2 rfl hHeld ?_
              try simp only [PT]
              refine tz 3 rfl hHeld ?_
              try simp only [PT]
              refine tz 4 rfl hHeld ?_
              try simp only [PT]
              refine take_no (i := 5) rfl (by kernel_rfl) (by kernel_rfl) (by kernel_rfl) (fun _ _ _ h => h) (by rfl) hHeld ?_
              try simp only [PT]
              refine take_no (i := 6) rfl (by kernel_rfl) (by kernel_rfl) (by kernel_rfl) (fun _ _ _ h => h) (by rfl) hHeld ?_
              try simp only [PT]
              refine take_no (i := 7) rfl (by kernel_rfl) (by kernel_rfl) (by kernel_rfl) (fun _ _ _ h => h) (by rfl) hHeld ?_
              try simp only [PT]
              refine take_no (i := 8) rfl (by kernel_rfl) (by kernel_rfl) (by kernel_rfl) (fun _ _ _ h => h) (by rfl) hHeld ?_
              try simp only [PT]
              refine take_no (i := 9) rfl (by kernel_rfl) (by kernel_rfl) (by kernel_rfl) (fun _ _ _ h => h) (by rfl) hHeld ?_
              try simp only [PT]
              refine take_no (i := 10) rfl (by kernel_rfl) (by kernel_rfl) (by kernel_rfl) (fun _ _ _ h => h) (by rfl) hHeld ?_
              try simp only [PT]
              refine take_no (i := 11) rfl (by kernel_rfl) (by kernel_rfl) (by kernel_rfl) (fun _ _ _ h => h) (by rfl) hHeld ?_
              try simp only [PT]
              refine tz 12 rfl hHeld ?_
              try simp only [PT]
              refine wpAnyH_done (by kernel_rfl) ?_ _
              refine NoPanic.normal ?_
              have hBX : Below V.heap.size V wrd := below_step hB2 hB_d
              clear hHeld hB_d
              go_wp2_with fail
              have ownX := own_below HownV.out hBX
              have krX := keep_blk hBX KR.out
              have ckX := cells_of krX
              have lkX := lt_of krX
              have q0 : out.length ≤ c3 := own_cap HownV.out
              have q1 : out.length ≤ c3 := by omega
              have q2 : out.length ≤ out.length := by omega
              refine wp_region_noPanic ?_
              refine wp_region_held_drew (S := fun v => Below wrd.heap.size wrd v ∧ (wrd.heap.size ≤ v.heap.size) ∧ ∀ b o, b < wrd.heap.size → v.cell? ⟨b, o, none⟩ = wrd.cell? ⟨b, o, none⟩) (by kernel_rfl) (HeldB.start wrd) (fun hHeld => ?_)
              have hB_d : Below wrd.heap.size wrd wrd.drew := (Below.refl _ _).drew
              generalize wrd.drew = wrdd at hHeld hB_d ⊢
              refine tz 0 rfl hHeld ?_
              try simp only [PT]
              refine tz 1 rfl hHeld ?_
              try simp only [PT]
              refine tz 2 rfl hHeld ?_
              try simp only [PT]
              refine tz 4 rfl hHeld ?_
              try simp only [PT]
              refine tz 7 rfl hHeld ?_
              try simp only [PT]
              refine tz 8 rfl hHeld ?_
              try simp only [PT]
              refine tz 9 rfl hHeld ?_
              try simp only [PT]
              have ownD := own_below ownX hB_d
              have hszX := hBX.size
              have hszD := hB_d.size
              skip
              refine wpAnyH_ready (rs := [3, 5]) (by kernel_rfl) (by simp) ?_
              refine ready_at rfl (fun K hK => ?_) (ready_at rfl (fun K hK => ?_) AllReadyH.nil)
              · refine step_moreN (by rfl) _ _ 55 (by rfl) (base := wrd.heap.size) (e := 65) (.agg #[.int .i64 0, .int .i64 0]) 2 16 (by omega) Try.underlying55 (by kernel_rfl) (by rfl) (v := .slice none 0 0) (by rfl) (own_nil _ _ _ _) (by rfl) (by have := (Rds.of_own (ownD)).part out.length q2; rw [rowCells_take] at this; exact this) (rowCells_one _) (nm := out.length) (by omega) (by omega) (by omega) (hHeld.2.1) ?_
                intro A4 c4 W7 hown7 hlow7 hkeep7
                refine hK.out _ _ (HeldB.low hHeld hlow7) (fun hHeld => ?_)
                clear hK K
                try simp only [PT]
                refine rd 5 rfl fun K hK => ?_
                go_simp
                refine hK.out _ _ (HeldB.alloc hHeld _) (fun hHeld => ?_)
                clear hK K
                try simp only [PT]
                refine rd 6 rfl fun K hK => ?_
                refine step_moreN (by rfl) _ _ 55 (by rfl) (base := wrd.heap.size) (e := 65) (.agg #[.int .i64 0, .int .i64 0]) 2 16 (by omega) Try.underlying55 (by kernel_rfl) (by rfl) (v := .slice A4 out.length c4) (by rfl) (hown7.alloc _) (by rfl) (rds_one W7 #[.int .i64 (d : Int), .int .i64 (a : Int)] 65 2 rfl) (rowCells_one [(d, a)]) (nm := out.length + 1) (by omega) (by omega) (by omega) (hHeld.2.1) ?_
                intro A5 c5 W8 hown8 hlow8 hkeep8
                refine hK.out _ _ (HeldB.low hHeld hlow8) (fun hHeld => ?_)
                clear hK K
                try simp only [PT]
                refine rd 10 rfl fun K hK => ?_
                refine step_moreN (by rfl) _ _ 55 (by rfl) (base := wrd.heap.size) (e := 65) (.agg #[.int .i64 0, .int .i64 0]) 2 16 (by omega) Try.underlying55 (by kernel_rfl) (by rfl) (v := .slice A5 (out.length + 1) c5) (by rfl) (hown8) (by rfl) (by have := (Rds.of_own (own_below ownX hHeld.1)).behind (A' := if c3 = out.length then A3 else A3.map (·.add (out.length * 2))) out.length 0 q2 (by omega) (fun h => by first | (exfalso; omega) | (rw [if_neg (by omega)]; simp [add_zero_off])); rw [rowCells_drop] at this; exact this) (rowCells_one _) (nm := out.length + 1) (by omega) (by omega) (by omega) (hHeld.2.1) ?_
                intro A6 c6 W9 hown9 hlow9 hkeep9
                refine hK.out _ _ (HeldB.low hHeld hlow9) (fun hHeld => ?_)
                clear hK K
                try simp only [PT]
                have hfin := hHeld.1
                refine rd 11 rfl fun K hK => ?_
                go_simp
                refine hK.out _ _ hHeld (fun hHeld => ?_)
                clear hK K
                try simp only [PT]
                refine wpAnyH_done (by kernel_rfl) ?_ _
                refine NoPanic.normal ?_
                have HF : Hid (W9.ownsRow w.heap.size 65 2 (.slice A6 (out.length + 1) c6) (refFold ts (upto ts d (a + 1))).length (rowCells (refFold ts (upto ts d (a + 1))))) := Lib.hid (by
                  rw [upto_snoc, refFold_snoc, ← Hout.out, refIns_length]
                  unfold refIns
                  rw [Hat.out, rowCells_append, show (d, a) :: out.drop out.length = [(d, a)] ++ out.drop out.length from rfl, rowCells_append, ← List.append_assoc]
                  exact own_mono hown9 (by omega))
                have HBF := Lib.hid (below_step (below_step HBV.out hBX) hfin)
                clear hown9 hlow9 hkeep9 hfin ownX ownD ckX
                go_wp2_with fail
                all_goals
                  go_roundg k2
                  case measure => omega
                  case rel => exact ⟨a + 1, by first | rfl | (rw [E4.out]; rfl), by omega, HF, HBF⟩
              · go_simp
                refine hK.out _ _ (HeldB.alloc hHeld _) (fun hHeld => ?_)
                clear hK K
                try simp only [PT]
                refine rd 3 rfl fun K hK => ?_
                refine step_moreN (by rfl) _ _ 55 (by rfl) (base := wrd.heap.size) (e := 65) (.agg #[.int .i64 0, .int .i64 0]) 2 16 (by omega) Try.underlying55 (by kernel_rfl) (by rfl) (v := .slice none 0 0) (by rfl) (own_nil _ _ _ _) (by rfl) (by have := (Rds.of_own (ownD.alloc (.cells #[.int .i64 (d : Int), .int .i64 (a : Int)] 65))).part out.length q2; rw [rowCells_take] at this; exact this) (rowCells_one _) (nm := out.length) (by omega) (by omega) (by omega) (hHeld.2.1) ?_
                intro A4 c4 W7 hown7 hlow7 hkeep7
                refine hK.out _ _ (HeldB.low hHeld hlow7) (fun hHeld => ?_)
                clear hK K
                try simp only [PT]
                refine rd 6 rfl fun K hK => ?_
                refine step_moreN (by rfl) _ _ 55 (by rfl) (base := wrd.heap.size) (e := 65) (.agg #[.int .i64 0, .int .i64 0]) 2 16 (by omega) Try.underlying55 (by kernel_rfl) (by rfl) (v := .slice A4 out.length c4) (by rfl) (hown7) (by rfl) ((rds_one wrdd #[.int .i64 (d : Int), .int .i64 (a : Int)] 65 2 rfl).below (hkeep7 _ (Nat.le_refl _) (by simp [Value.ownBlock]))) (rowCells_one [(d, a)]) (nm := out.length + 1) (by omega) (by omega) (by omega) (hHeld.2.1) ?_
                intro A5 c5 W8 hown8 hlow8 hkeep8
                refine hK.out _ _ (HeldB.low hHeld hlow8) (fun hHeld => ?_)
                clear hK K
                try simp only [PT]
                refine rd 10 rfl fun K hK => ?_
                refine step_moreN (by rfl) _ _ 55 (by rfl) (base := wrd.heap.size) (e := 65) (.agg #[.int .i64 0, .int .i64 0]) 2 16 (by omega) Try.underlying55 (by kernel_rfl) (by rfl) (v := .slice A5 (out.length + 1) c5) (by rfl) (hown8) (by rfl) (by have := (Rds.of_own (own_below ownX hHeld.1)).behind (A' := if c3 = out.length then A3 else A3.map (·.add (out.length * 2))) out.length 0 q2 (by omega) (fun h => by first | (exfalso; omega) | (rw [if_neg (by omega)]; simp [add_zero_off])); rw [rowCells_drop] at this; exact this) (rowCells_one _) (nm := out.length + 1) (by omega) (by omega) (by omega) (hHeld.2.1) ?_
                intro A6 c6 W9 hown9 hlow9 hkeep9
                refine hK.out _ _ (HeldB.low hHeld hlow9) (fun hHeld => ?_)
                clear hK K
                try simp only [PT]
                have hfin := hHeld.1
                refine rd 11 rfl fun K hK => ?_
                go_simp
                refine hK.out _ _ hHeld (fun hHeld => ?_)
                clear hK K
                try simp only [PT]
                refine wpAnyH_done (by kernel_rfl) ?_ _
                refine NoPanic.normal ?_
                have HF : Hid (W9.ownsRow w.heap.size 65 2 (.slice A6 (out.length + 1) c6) (refFold ts (upto ts d (a + 1))).length (rowCells (refFold ts (upto ts d (a + 1))))) := Lib.hid (by
                  rw [upto_snoc, refFold_snoc, ← Hout.out, refIns_length]
                  unfold refIns
                  rw [Hat.out, rowCells_append, show (d, a) :: out.drop out.length = [(d, a)] ++ out.drop out.length from rfl, rowCells_append, ← List.append_assoc]
                  exact own_mono hown9 (by omega))
                have HBF := Lib.hid (below_step (below_step HBV.out hBX) hfin)
                clear hown9 hlow9 hkeep9 hfin ownX ownD ckX
                go_wp2_with fail
                all_goals
                  go_roundg k2
                  case measure => omega
                  case rel => exact ⟨a + 1, by first | rfl | (rw [E4.out]; rfl), by omega, HF, HBF⟩
        · obtain rfl : a = t.length + 1 := by omega
          have m1 : decide (((t.length + 1 : Nat) : Int) ≤ (t.length : Int)) = false := by simp; omega
          have hown := Hown.out
          rw [← hgd, upto_next] at hown
          have HO := Lib.hid hown; clear hown Hown
          go_wp2_with fail
          go_roundg k
          case measure => omega
          case rel => exact ⟨d + 1, by first | rfl | (rw [E3.out]; rfl), by omega, HO, HB⟩
    · have hi : d = ts.length := by omega
      have n1 : decide ((d : Int) < (ts.length : Int)) = false := by simpa using hlt
      have hown := Hown.out
      rw [hi] at hown
      have HO := Lib.hid hown; clear hown Hown
      go_wp2_with fail
      go_ret
      exact ⟨u3, rfl, HO.out, HB.out⟩
end Go.Proofs.Ytpdpcgmkpgfblaa
/- The document's own: the symbols of the rows. -/
namespace Go.Proofs.Ytpdpcgmkpgfblaa
set_option linter.unusedSimpArgs false
set_option linter.unusedVariables false
set_option linter.unnecessarySimpa false
open Go.RowKit
attribute [local go_sem ↓] Go.wp_at_zero Go.wp_at_succ
attribute [local go_sem] str_len
theorem sorted_calls (v : Value) (ts : List (List UInt8)) (hn : ts.length ≤ 50000) (w : World) (h : Rk w 1 v ts.length (ts.map strOf)) :
    Calls Try.prog 21 #[v] w fun e w' => ∃ v', e = .returned v' ∧ w'.ownsRow w.heap.size 65 2 v' (refSorted ts).length (rowCells (refSorted ts)) ∧ Below w.heap.size w w' := by
  unfold refSorted
  cases hrt : refRight ts with
  | true => rw [if_pos rfl]; exact sorted_walk v ts hrt w h
  | false =>
    rw [if_neg (by decide)]
    have HK := Lib.hid h
    obtain ⟨h1, A, cap, rfl, h2⟩ := h
    clear h1 h2
    go_enter Try.func21, Try.ntmps21
    go_wp2_with fail
    refine calls_gen fun V0 hV_V0 => ?_
    have hB : Below w.heap.size w V0 := nB hV_V0
    have z_V0 := zS hV_V0
    clear hV_V0
    refine (rright_calls _ ts hn _ (HK.out.below hB)).mono ?_
    rintro e_W0 W0 ⟨rfl, hb_W0⟩
    replace hB := below_step hB hb_W0
    have z_W0 := hb_W0.size
    clear hb_W0
    rw [hrt]
    go_wp2_with fail
    go_ret
    exact ⟨_, rfl, own_nil _ _ _ _, hB⟩
def intCells (l : List Int) : List Value := l.map fun x => .int .i64 x
theorem step_id (j n : Nat) (h : j ≤ n) (hn : n ≤ 50000) : wrap64 (j : Int) = (j : Int) := IntWalk.wrap64_in _ (by omega)
set_option maxRecDepth 100000 in
set_option maxHeartbeats 4000000 in
theorem symbols_calls (v : Value) (ts : List (List UInt8)) (hn : ts.length ≤ 50000) (hn2 : ∀ t, t ∈ ts → t.length ≤ 50000) (w : World) (h : Rk w 1 v ts.length (ts.map strOf)) :
    Calls Try.prog 22 #[v] w fun e w' => ∃ v', e = .returned v' ∧ w'.ownsRow w.heap.size 3 1 v' (refSorted ts).length (intCells ((refSorted ts).map (symOf ts))) ∧ Below w.heap.size w w' := by
  obtain ⟨R, hR⟩ : ∃ R, R = refSorted ts := ⟨_, rfl⟩
  rw [← hR]
  have HK := Lib.hid h
  obtain ⟨h1, A, cap, rfl, h2⟩ := h
  have hval : ∀ x, x ∈ R → ∃ t, ts[x.1]? = some t ∧ x.2 ≤ t.length := fun x hx => sorted_valid (hR ▸ hx)
  have hsm : R.length ≤ 500 := by rw [hR]; exact sorted_small ts
  have Hval := Lib.hid hval; have HR := Lib.hid hR
  clear h1 h2 hval hR
  go_enter Try.func22, Try.ntmps22
  go_wp2_with fail
  refine calls_gen fun V0 hV_V0 => ?_
  have hB : Below w.heap.size w V0 := nB hV_V0
  have z_V0 := zS hV_V0
  clear hV_V0
  refine (sorted_calls _ ts hn _ (HK.out.below hB)).mono ?_
  rintro e1 W1 ⟨v1, rfl, hown1, hb1⟩
  have hB1 := below_step hB hb1
  rw [← HR.out] at hown1
  obtain ⟨-, A1, c1, rfl, hx1⟩ := Rx.of_own hown1
  have HX := Lib.hid (Rk.of_own hown1); have HB1 := Lib.hid hB1
  have hsz1 := hB1.size
  clear hown1 hb1 hB hB1 hx1
  go_wp2_with fail
  go_loopg [4, 5] R.length (fun k p q wr => ∃ i : Nat, q = .int .i64 (i : Int) ∧ i + k = R.length ∧ Hid (wr.ownsRow W1.heap.size 3 1 p i (intCells ((R.take i).map (symOf ts)))) ∧ Hid (Below W1.heap.size W1 wr))
  case atStart => exact ⟨0, rfl, by omega, Lib.hid (own_nil _ _ _ _), Lib.hid (Below.refl _ _)⟩
  case round =>
    obtain ⟨i, rfl, hk, Hown, HB⟩ := hrel
    by_cases hlt : i < R.length
    · obtain ⟨k, rfl⟩ : ∃ k, gk = k + 1 := ⟨gk - 1, by omega⟩
      obtain ⟨x, hx⟩ := at_some hlt
      obtain ⟨t, ht, hxt⟩ := Hval.out x (List.mem_of_getElem? hx)
      obtain ⟨-, A', cap', hv, h2⟩ := HX.out
      obtain ⟨g1, cs1, T1, rfl, kg1', hcs1⟩ := h2 (by omega)
      have kg1 := keep_blk HB.out kg1'
      have w1a := cells_of kg1'
      have w1l := lt_of kg1'
      obtain ⟨rfl, -, rfl⟩ := Value.slice.inj hv
      have c1a : cs1[i * 2]? = some (.int .i64 (x.1 : Int)) := (hcs1 _ (by omega)).trans (rowCells_at hx).1
      have c1b : cs1[i * 2 + 1]? = some (.int .i64 (x.2 : Int)) := (hcs1 _ (by omega)).trans (rowCells_at hx).2
      clear h2 hv hcs1
      have htake : Hid (intCells ((R.take (i + 1)).map (symOf ts)) = intCells ((R.take i).map (symOf ts)) ++ [.int .i64 (symOf ts x)]) := Lib.hid (by
        unfold intCells
        rw [List.take_succ_eq_append_getElem hlt, List.map_append, List.map_append, (List.getElem_eq_iff hlt).2 hx]; rfl)
      have n1 : decide ((i : Int) < (R.length : Int)) = true := by simpa using hlt
      have n2 : (i : Int) < (R.length : Int) := by omega
      have E3 := Lib.hid (step_wrap i 500 (by omega) (by omega))
      have hw1 := HB.out.size
      by_cases h0 : x.2 = 0
      · have hs : Hid (symOf ts x = 0) := Lib.hid (by unfold symOf; rw [if_pos h0])
        have d0 : ((x.2 : Int) == 0) = true := by rw [h0]; rfl
        clear h0 hxt
        obtain ⟨c_kg1, f_kg1, l_kg1_wr⟩ := f3 kg1
        go_wp2_with (at_builtin; refine wpList_push _ (by rfl) _ _ 42 (by rfl) (W1.heap.size) 3 (.int .i64 0) 1 8 Try.underlying42 (by kernel_rfl) (by rfl) (by omega) _ _ _ (by rfl) Hown.out _ (by rfl) (by rfl) (by simp [Value.oneCell']) (by unfold maxLen; omega) (by omega) (by omega) ?_; intro g_W c_W W5 hown_W hlow_W hlt_W)
        go_wp2_with fail
        go_roundg k
        case measure => omega
        case rel => exact ⟨i + 1, by first | rfl | (rw [E3.out]; rfl), by omega, Lib.hid (by rw [htake.out, hs.out]; exact hown_W), Lib.hid (low_step HB.out (Nat.le_refl _) hlow_W)⟩
      · obtain ⟨j, hj⟩ : ∃ j : Nat, x.2 = j + 1 := ⟨x.2 - 1, by omega⟩
        obtain ⟨b, hb⟩ := at_some (show j < t.length by omega)
        have htl := hn2 t (List.mem_of_getElem? ht)
        have hs : Hid (symOf ts x = (b.toNat : Int) + 1) := Lib.hid (by unfold symOf; rw [if_neg h0, getD_at ht, hj]; simp [List.getD, hb])
        have d0 : ((x.2 : Int) == 0) = false := by rw [beq_eq_false_iff_ne]; omega
        obtain ⟨hd, -⟩ := List.getElem?_eq_some_iff.1 ht
        obtain ⟨-, A2, cap2, hv2, h3⟩ := HK.out.below HB1.out
        obtain ⟨g2, cs2, T2, rfl, kg2', hcs2⟩ := h3 (by omega)
        have kg2 := keep_blk HB.out kg2'
        have w2a := cells_of kg2'
        have w2l := lt_of kg2'
        obtain ⟨rfl, -, rfl⟩ := Value.slice.inj hv2
        have c2a : cs2[x.1]? = some (strOf t) := by rw [hcs2 _ (by omega), List.getElem?_map, ht]; rfl
        have n3 : (x.1 : Int) < (ts.length : Int) := by omega
        have hix := str_index t j b hb
        have e6 : Hid (wrap64 ((x.2 : Int) - 1) = (j : Int)) := Lib.hid (by rw [hj, IntWalk.wrap64_in _ (by omega)]; omega)
        have hb8 := b.toNat_lt
        have e7 : wrap64 ((b.toNat : Int) + 1) = (b.toNat : Int) + 1 := IntWalk.wrap64_in _ (by omega)
        have E7 := Lib.hid e7; clear e7
        have hxj : (x.2 : Int) = (j : Int) + 1 := by omega
        rw [hxj] at c1b d0
        have e9 : wrap64 (j : Int) = (j : Int) := step_id j t.length (by omega) (by omega)
        have E9 := Lib.hid e9; clear e9
        have E10 := Lib.hid (step_id b.toNat 256 (by omega) (by omega))
        have e8 : wrap64 ((j : Int) + 1 - 1) = (j : Int) := by rw [show (j : Int) + 1 - 1 = (j : Int) by omega]; exact step_id j t.length (by omega) (by omega)
        clear h0 hxt h3 hv2 hcs2 hb e6 hxj
        obtain ⟨c_kg1, f_kg1, l_kg1_wr⟩ := f3 kg1
        obtain ⟨c_kg2, f_kg2, l_kg2_wr⟩ := f3 kg2
        go_wp2_with fail
        refine wp_region_noPanic ?_
        refine wp_region_held_drew (S := fun v => Below W1.heap.size W1 v ∧ (W1.heap.size ≤ v.heap.size) ∧ ∀ b o, b < W1.heap.size → v.cell? ⟨b, o, none⟩ = W1.cell? ⟨b, o, none⟩) (by kernel_rfl) (HeldB.of HB.out.drew) (fun hHeld => ?_)
        have hB_d : Below wr.heap.size wr wr.drew := (Below.refl _ _).drew
        generalize wr.drew = wrd at hHeld hB_d ⊢
        have e9 := E9.out
        have e7 := E7.out
        have e10 : wrap64 (b.toNat : Int) = (b.toNat : Int) := E10.out
        refine tz 0 rfl hHeld ?_
        try simp only [PT]
        refine tz 1 rfl hHeld ?_
        try simp only [PT]
        refine tz 2 rfl hHeld ?_
        try simp only [PT]
        refine tz 3 rfl hHeld ?_
        try simp only [PT]
        refine tz 4 rfl hHeld ?_
        try simp only [PT]
        refine tz 5 rfl hHeld ?_
        try simp only [PT]
        refine tz 6 rfl hHeld ?_
        try simp only [PT]
        refine tz 7 rfl hHeld ?_
        try simp only [PT]
        refine tz 8 rfl hHeld ?_
        try simp only [PT]
        refine tz 9 rfl hHeld ?_
        try simp only [PT]
        refine tz 10 rfl hHeld ?_
        try simp only [PT]
        refine tz 11 rfl hHeld ?_
        try simp only [PT]
        refine tz 12 rfl hHeld ?_
        try simp only [PT]
        refine tz 13 rfl hHeld ?_
        try simp only [PT]
        refine tz 14 rfl hHeld ?_
        try simp only [PT]
        refine tz 15 rfl hHeld ?_
        try simp only [PT]
        refine tz 16 rfl hHeld ?_
        try simp only [PT]
        refine tz 17 rfl hHeld ?_
        try simp only [PT]
        simp only [e7]
        clear e7 e8 e9 e10
        refine rd 18 rfl fun K hK => ?_
        go_simp
        refine hK.out _ _ (HeldB.alloc hHeld _) (fun hHeld => ?_)
        clear hK K
        try simp only [PT]
        refine rd 19 rfl fun K hK => ?_
        refine step_moreN (by rfl) _ _ 42 (by rfl) (base := W1.heap.size) (e := 3) (.int .i64 0) 1 8 (by omega) Try.underlying42 (by kernel_rfl) (by rfl) (v := u4) (by rfl) ((own_below Hown.out hB_d).alloc _) (by rfl) (rds_one wrd #[.int .i64 ((b.toNat : Int) + 1)] 3 1 rfl) (by simp [Value.oneCell']) (nm := i + 1) rfl (by omega) (by omega) (by rw [siz_alloc]; have := hB_d.size; omega) ?_
        intro A5 c5 W8 hown8 hlow8 hkeep8
        have HB8 := Lib.hid (low_step (hHeld.1) (Nat.le_refl _) hlow8)
        refine hK.out _ _ (HeldB.of HB8.out) (fun hHeld => ?_)
        clear hK K
        try simp only [PT]
        refine rd 20 rfl fun K hK => ?_
        go_simp
        refine hK.out _ _ hHeld (fun hHeld => ?_)
        clear hK K
        try simp only [PT]
        refine wpAnyH_done (by kernel_rfl) ?_ _
        refine NoPanic.normal ?_
        have HO8 : Hid (W8.ownsRow W1.heap.size 3 1 (.slice A5 (i + 1) c5) (i + 1) (intCells ((R.take (i + 1)).map (symOf ts)))) := Lib.hid (by rw [htake.out, hs.out]; exact hown8)
        clear hown8 hlow8 hkeep8 w1a w2a hHeld
        go_wp2_with fail
        go_roundg k
        case measure => omega
        case rel => exact ⟨i + 1, by first | rfl | (rw [E3.out]; rfl), by omega, HO8, HB8⟩
    · have hi : i = R.length := by omega
      have n1 : decide ((i : Int) < (R.length : Int)) = false := by simpa using hlt
      have hown := Hown.out
      rw [hi, List.take_length] at hown
      have HO := Lib.hid (own_mono hown hsz1); clear hown Hown
      have HBF := Lib.hid (below_step HB1.out HB.out)
      go_wp2_with fail
      go_ret
      exact ⟨u4, rfl, HO.out, HBF.out⟩
end Go.Proofs.Ytpdpcgmkpgfblaa
/- The laws' helper Build. -/
namespace Go.Proofs.Ytpdpcgmkpgfblaa
set_option linter.unusedSimpArgs false
set_option linter.unusedVariables false
set_option linter.unnecessarySimpa false
open Go.RowKit
attribute [local go_sem ↓] Go.wp_at_zero Go.wp_at_succ
attribute [local go_sem] str_len
variable {ap : Value} {s : Ar} {O : Nat → Prop}
theorem cell_same {w w' : World} {a : Addr} (h : w'.heap[a.block]? = w.heap[a.block]?) : w'.cell? a = w.cell? a := by
 unfold World.cell?
 rw [h]
/-- A row of documents behind what leaves its block alone. -/
theorem Rd2.fr {w w' : World} {X O O' : Nat → Prop} {ad : Addr} {cap : Nat} {ds : List (Int × List UInt8)} (h : Rd2 w (.slice (some ad) ds.length cap) ds) (hF : Fr X O O' w w') (h1 : ¬ O ad.block) (h2 : ¬ X ad.block) : Rd2 w' (.slice (some ad) ds.length cap) ds := by
 obtain ⟨A, c, hv, hc⟩ := h
 obtain ⟨rfl, -, rfl⟩ := Value.slice.inj hv
 refine ⟨_, _, rfl, fun hn => ?_⟩
 obtain ⟨ad', ha, hlt, hc⟩ := hc hn
 obtain rfl := Option.some.inj ha
 have hb := hF.block _ hlt h1 h2
 refine ⟨ad, rfl, Nat.lt_of_lt_of_le hlt hF.size, fun i d hd => ?_⟩
 obtain ⟨c0, c1, c2⟩ := hc i d hd
 have hb' : w'.heap[(ad.add (i * 2)).block]? = w.heap[(ad.add (i * 2)).block]? := by rw [block_of_add]; exact hb
 exact ⟨Nat.lt_of_lt_of_le c0 hF.size, (cell_same hb').trans c1, (cell_same (by exact hb')).trans c2⟩
theorem below_fr {w W1 W2 : World} {O O' : Nat → Prop} (hb : Below w.heap.size w W1) (hF : Fr noX O O' W1 W2) (hO : ∀ b, O b → w.heap.size ≤ b) : Below w.heap.size w W2 :=
 ⟨hF.os.trans hb.os, hF.tape.trans hb.tape, hF.output.trans hb.output, Nat.le_trans hb.size hF.size, fun k hk => (hF.block k (Nat.lt_of_lt_of_le hk hb.size) (fun h => by have := hO k h; omega) (fun h => h)).trans (hb.block k hk)⟩
theorem bRows_ok {rate : Int} : ∀ {l : List (Int × Int × Int)} {i : Int} {b b' : Bst}, bRows rate l i b = some b' → b'.ok = true → b.ok = true
 | [], i, b, b', h, ho => by cases h; exact ho
 | x :: l, i, b, b', h, ho => by
  unfold bRows at h
  cases hb : b.ok with
  | true => rfl
  | false => rw [hb, if_neg (by decide)] at h; cases h; rw [hb] at ho; cases ho
set_option maxRecDepth 100000 in
set_option maxHeartbeats 8000000 in
theorem build_calls (rate : Int) (hr1 : 1 ≤ rate) (hr2 : rate ≤ 1000) (ds : List (Int × List UInt8)) (ad : Addr) (cap : Nat) (hne : ds ≠ []) (hrt : refRight (ds.map (·.2)) = true) (w : World) (hD : Rd2 w (.slice (some ad) ds.length cap) ds) (hO : ¬ O ad.block) (hA : AP w ap s O)
  (B1 B2 : Bst) (h1 : bRows rate (rowsM ds) 0 ⟨s, true, Parts.zero, 0⟩ = some B1) (ho1 : B1.ok = true) (h2 : bTable (docsM ds) B1 = some B2) (ho2 : B2.ok = true) (root : Int) (s' : Ar) (h3 : bEnd B2 = some (root, true, s')) :
  Calls Try.prog 9 #[ap, .int .i64 rate, .slice (some ad) ds.length cap] w fun e w' => e = .returned (.tuple #[.int .i64 root, .bool true]) ∧ Did noX ap s' O w w' := by
 have hlen : 0 < ds.length := List.length_pos_iff.2 hne
 obtain ⟨hn10, h40⟩ := right_len hrt
 rw [List.length_map] at hn10
 have d0 : ((ds.length : Int) == 0) = false := by rw [beq_eq_false_iff_ne]; omega
 have HD := Lib.hid hD; have H1 := Lib.hid h1; have H2 := Lib.hid h2; have H3 := Lib.hid h3; have H40 := Lib.hid h40; have HO := Lib.hid hO
 clear hD h1 h2 h3 h40 hne
 obtain ⟨ts, hts⟩ : ∃ ts, ts = ds.map (·.2) := ⟨_, rfl⟩
 have htl : ts.length = ds.length := by rw [hts, List.length_map]
 rw [← hts] at hrt
 have H40' : Hid (∀ t, t ∈ ts → t.length ≤ 50000) := Lib.hid (fun t ht => by
  obtain ⟨i, hi, rfl⟩ := List.getElem_of_mem ht
  have := (right_len hrt).2 i
  rw [getD_at (List.getElem?_eq_getElem hi)] at this
  omega)
 have Hts := Lib.hid hts; clear hts
 obtain ⟨q, rfl⟩ := hA.ptr
 go_enter Try.func9, Try.ntmps9
 go_wp2_with fail
 refine calls_gen fun V0 hV_V0 => ?_
 have n_ka := hbk hV_V0 (w.heap.size)
 simp (maxDischargeDepth := 9) only [BK, not_false_eq_true, reduceCtorEq] at n_ka
 have o_ka : ¬ O (w.heap.size) := by first | exact hA.new (Nat.le_refl _) | exact hA.new (by omega)
 have hF : Fr (noX) O O w V0 := nF hV_V0
 replace hA : AP V0 (.pointer q) s O := nA hV_V0
 have z_V0 := zS hV_V0
 clear hV_V0
 have ka := n_ka; clear n_ka
 obtain ⟨c_ka, f_ka, l_ka_V0⟩ := f3 ka
 have hAV0 := hA
 refine (texts_calls _ ds (by omega) _ (HD.out.fr hF HO.out (fun h => h))).mono ?_
 rintro e_W0 W0 ⟨v0, rfl, hown0, hb_W0⟩
 replace hA := hA.below hb_W0
 replace hF := hF.below hb_W0
 replace ka := keep_blk hb_W0 ka
 have z_W0 := hb_W0.size
 clear hb_W0 c_ka f_ka
 obtain ⟨c_ka, f_ka, l_ka_W0⟩ := f3 ka
 have hge0 : ∀ g, v0.ownBlock = some g → V0.heap.size ≤ g := fun g hg => (hown0.lt g hg).1
 obtain ⟨hl0, A0, c0, rfl, hx0⟩ := Rk.of_own hown0
 obtain ⟨g0, cs0, T0, rfl, kx, hcs0⟩ := hx0 (by omega)
 have o_kx : ¬ O g0 := fun h => by have := hAV0.lt h; have := hge0 g0 rfl; omega
 have HX0 : Hid (∀ V : World, V.heap[g0]? = some (.cells cs0 T0 (0, 0)) → Rk V 1 (.slice (some ⟨g0, 0, none⟩) ds.length c0) ts.length (ts.map strOf)) := Lib.hid (fun V hV => by
  rw [Hts.out, List.length_map]
  exact ⟨hl0, _, _, rfl, fun _ => ⟨g0, cs0, T0, rfl, hV, hcs0⟩⟩)
 clear hAV0 hown0 hge0 hl0 hx0 hcs0
 obtain ⟨c_kx, f_kx, l_kx_W0⟩ := f3 kx
 go_wp2_with fail
 refine calls_gen fun V1 hV_V1 => ?_
 replace ka := kK hV_V1 ka
 replace kx := kK hV_V1 kx
 replace hF : Fr (noX) O O w V1 := nF hV_V1
 replace hA : AP V1 (.pointer q) s O := nA hV_V1
 have z_V1 := zS hV_V1
 clear hV_V1 c_ka f_ka c_kx f_kx
 obtain ⟨c_ka, f_ka, l_ka_V1⟩ := f3 ka
 obtain ⟨c_kx, f_kx, l_kx_V1⟩ := f3 kx
 have hAV1 := hA
 refine (sorted_calls _ ts (by omega) _ (HX0.out _ kx)).mono ?_
 rintro e_W1 W1 ⟨v1, rfl, hown1, hb_W1⟩
 replace hA := hA.below hb_W1
 replace hF := hF.below hb_W1
 replace ka := keep_blk hb_W1 ka
 replace kx := keep_blk hb_W1 kx
 have z_W1 := hb_W1.size
 clear hb_W1 c_ka f_ka c_kx f_kx
 obtain ⟨c_ka, f_ka, l_ka_W1⟩ := f3 ka
 obtain ⟨c_kx, f_kx, l_kx_W1⟩ := f3 kx
 have hge1 : ∀ g, v1.ownBlock = some g → V1.heap.size ≤ g := fun g hg => (hown1.lt g hg).1
 have hRpos : 0 < (refSorted ts).length := by
  unfold refSorted; rw [if_pos hrt, refFold_length]
  obtain ⟨n, hn⟩ : ∃ n, ts.length = n + 1 := ⟨ts.length - 1, by omega⟩
  rw [hn, ← upto_next, upto_snoc]; simp
 obtain ⟨hl1, A1, c1, rfl, hx1⟩ := Rk.of_own hown1
 obtain ⟨g1, cs1, T1, rfl, kr, hcs1⟩ := hx1 hRpos
 have o_kr : ¬ O g1 := fun h => by have := hAV1.lt h; have := hge1 g1 rfl; omega
 have hrows : Hid (∀ (i : Nat) (r : Nat × Nat), (refSorted ts)[i]? = some r → cs1[i * 2]? = some (Value.int .i64 (r.1 : Int)) ∧ cs1[i * 2 + 1]? = some (Value.int .i64 (r.2 : Int))) := Lib.hid (fun (i : Nat) (r : Nat × Nat) hr => by
  have hi := (List.getElem?_eq_some_iff.1 hr).1
  exact ⟨(hcs1 _ (by omega)).trans (rowCells_at hr).1, (hcs1 _ (by omega)).trans (rowCells_at hr).2⟩)
 clear hAV1 hown1 hge1 hl1 hx1 hcs1
 obtain ⟨c_kr, f_kr, l_kr_W1⟩ := f3 kr
 go_wp2_with fail
 refine calls_gen fun V2 hV_V2 => ?_
 replace ka := kK hV_V2 ka
 replace kx := kK hV_V2 kx
 replace kr := kK hV_V2 kr
 replace hF : Fr (noX) O O w V2 := nF hV_V2
 replace hA : AP V2 (.pointer q) s O := nA hV_V2
 have z_V2 := zS hV_V2
 clear hV_V2 c_ka f_ka c_kx f_kx c_kr f_kr
 obtain ⟨c_ka, f_ka, l_ka_V2⟩ := f3 ka
 obtain ⟨c_kx, f_kx, l_kx_V2⟩ := f3 kx
 obtain ⟨c_kr, f_kr, l_kr_V2⟩ := f3 kr
 have hAV2 := hA
 refine (symbols_calls _ ts (by omega) H40'.out _ (HX0.out _ kx)).mono ?_
 rintro e_W2 W2 ⟨v2, rfl, hown2, hb_W2⟩
 replace hA := hA.below hb_W2
 replace hF := hF.below hb_W2
 replace ka := keep_blk hb_W2 ka
 replace kx := keep_blk hb_W2 kx
 replace kr := keep_blk hb_W2 kr
 have z_W2 := hb_W2.size
 clear hb_W2 c_ka f_ka c_kx f_kx c_kr f_kr
 obtain ⟨c_ka, f_ka, l_ka_W2⟩ := f3 ka
 obtain ⟨c_kx, f_kx, l_kx_W2⟩ := f3 kx
 obtain ⟨c_kr, f_kr, l_kr_W2⟩ := f3 kr
 have hge2 : ∀ g, v2.ownBlock = some g → V2.heap.size ≤ g := fun g hg => (hown2.lt g hg).1
 obtain ⟨hl2, A2, c2, rfl, hx2⟩ := Rk.of_own hown2
 obtain ⟨g2, cs2, T2, rfl, ks, hcs2⟩ := hx2 hRpos
 have o_ks : ¬ O g2 := fun h => by have := hAV2.lt h; have := hge2 g2 rfl; omega
 have hsyms : Hid (∀ (i : Nat) (r : Nat × Nat), (refSorted ts)[i]? = some r → cs2[i]? = some (Value.int .i64 (symOf ts r))) := Lib.hid (fun (i : Nat) (r : Nat × Nat) hr => by
  have hi := (List.getElem?_eq_some_iff.1 hr).1
  refine (hcs2 _ (by omega)).trans ?_
  unfold intCells; rw [List.getElem?_map, List.getElem?_map, hr]; rfl)
 clear hAV2 hown2 hge2 hl2 hx2 hcs2
 obtain ⟨c_ks, f_ks, l_ks_W2⟩ := f3 ks
 have hl2 := lt_of ks
 have hl1 := lt_of kr
 go_wp2_with fail
 refine wp_gen fun V3 hV_V3 => ?_
 have n_kp := hbk hV_V3 (W2.heap.size)
 simp (maxDischargeDepth := 9) only [BK, not_false_eq_true, reduceCtorEq, ka, kx, kr, ks, l_ka_V0, l_ka_W0, l_kx_W0, l_ka_V1, l_kx_V1, l_ka_W1, l_kx_W1, l_kr_W1, l_ka_V2, l_kx_V2, l_kr_V2, l_ka_W2, l_kx_W2, l_kr_W2, l_ks_W2] at n_kp
 have n_kt := hbk hV_V3 (W2.heap.size + 1)
 simp (maxDischargeDepth := 9) only [BK, not_false_eq_true, reduceCtorEq, ka, kx, kr, ks, l_ka_V0, l_ka_W0, l_kx_W0, l_ka_V1, l_kx_V1, l_ka_W1, l_kx_W1, l_kr_W1, l_ka_V2, l_kx_V2, l_kr_V2, l_ka_W2, l_kx_W2, l_kr_W2, l_ks_W2] at n_kt
 have o_kp : ¬ O (W2.heap.size) := by first | exact hA.new (Nat.le_refl _) | exact hA.new (by omega)
 have o_kt : ¬ O (W2.heap.size + 1) := by first | exact hA.new (Nat.le_refl _) | exact hA.new (by omega)
 replace ka := kK hV_V3 ka
 replace kr := kK hV_V3 kr
 replace ks := kK hV_V3 ks
 replace hF : Fr (noX) O O w V3 := nF hV_V3
 replace hA : AP V3 (.pointer q) s O := nA hV_V3
 have z_V3 := zS hV_V3
 clear hV_V3 c_ka f_ka kx c_kx f_kx c_kr f_kr c_ks f_ks
 obtain ⟨c_ka, f_ka, l_ka_V3⟩ := f3 ka
 obtain ⟨c_kr, f_kr, l_kr_V3⟩ := f3 kr
 obtain ⟨c_ks, f_ks, l_ks_V3⟩ := f3 ks
 have kp := n_kp; clear n_kp
 obtain ⟨c_kp, f_kp, l_kp_V3⟩ := f3 kp
 have kt := n_kt; clear n_kt
 obtain ⟨c_kt, f_kt, l_kt_V3⟩ := f3 kt
 obtain ⟨R, hR⟩ : ∃ R, R = refSorted ts := ⟨_, rfl⟩
 rw [← hR] at hrows hsyms hRpos
 have hsm : R.length ≤ 500 := by rw [hR]; exact sorted_small ts
 have hlt1 : ∀ (i : Nat) (r : Nat × Nat), R[i]? = some r → ∃ d, ds[r.1]? = some d ∧ (rowsM ds)[i]? = some (d.1, (r.2 : Int), symOf ts r) := by
  intro i r hr
  obtain ⟨t, ht, -⟩ := sorted_valid (hR ▸ List.mem_of_getElem? hr)
  have h1 := (List.getElem?_eq_some_iff.1 ht).1
  obtain ⟨d, hd⟩ := at_some (show r.1 < ds.length by omega)
  refine ⟨d, hd, ?_⟩
  unfold rowsM
  rw [← Hts.out, ← hR, List.getElem?_map, hr]
  simp [List.getD, hd]
 have hLlen : (rowsM ds).length = R.length := by unfold rowsM; rw [← Hts.out, ← hR, List.length_map]
 have Hlt1 := Lib.hid hlt1; have HR := Lib.hid hR
 simp only [← hR]
 clear hlt1 hR
 have hneq : g1 ≠ W2.heap.size ∧ g1 ≠ W2.heap.size + 1 ∧ g2 ≠ W2.heap.size ∧ g2 ≠ W2.heap.size + 1 ∧ w.heap.size ≠ W2.heap.size ∧ w.heap.size ≠ W2.heap.size + 1 ∧ w.heap.size < W2.heap.size := by
  have := lt_of ka
  omega
 obtain ⟨ne1, ne2, ne3, ne4, ne5, ne6, hww⟩ := hneq
 have hY : ∀ x, twoX W2.heap.size (W2.heap.size + 1) x → w.heap.size ≤ x := by
  intro x hx
  rcases hx with rfl | rfl <;> omega
 have hdoc : Hid (Rd2 V3 (.slice (some ad) ds.length cap) ds) := Lib.hid (HD.out.fr hF HO.out (fun h => h))
 have HF3 := Lib.hid hF
 go_loopg [14, 40] R.length (fun k p1 p2 wr => ∃ (i : Nat) (st : Bst) (O' : Nat → Prop), p1 = .int .i64 st.n ∧ p2 = .int .i64 (i : Int) ∧ i + k = R.length ∧ AP wr (.pointer q) st.s O' ∧ Hid (Fr noX O O' w wr)
  ∧ wr.heap[W2.heap.size]? = some (.cells #[.int .i64 st.p.wave, .int .i64 st.p.marks, .int .i64 st.p.spots, .int .i64 st.p.table] 59 (0, 0)) ∧ wr.heap[W2.heap.size + 1]? = some (.cells #[.bool st.ok] 4 (0, 0)) ∧ wr.heap[w.heap.size]? = some (.cells #[.pointer q] 25 (0, 0))
  ∧ wr.heap[g1]? = some (.cells cs1 T1 (0, 0)) ∧ wr.heap[g2]? = some (.cells cs2 T2 (0, 0)) ∧ ¬ O' (W2.heap.size) ∧ ¬ O' (W2.heap.size + 1) ∧ ¬ O' w.heap.size ∧ ¬ O' g1 ∧ ¬ O' g2 ∧ ¬ O' ad.block ∧ Hid (Rd2 wr (.slice (some ad) ds.length cap) ds) ∧ Hid (bRows rate ((rowsM ds).drop i) i st = some B1))
 case atStart => exact ⟨0, _, O, rfl, rfl, by omega, hA, HF3, kp, kt, ka, kr, ks, o_kp, o_kt, o_ka, o_kr, o_ks, HO.out, hdoc, H1⟩
 case round =>
  clear ka kr ks kp kt c_ka c_kr c_ks c_kp c_kt f_ka f_kr f_ks f_kp f_kt hA hF hdoc HF3 o_kp o_kt o_ka o_kr o_ks
  obtain ⟨i, st, O1, rfl, rfl, hk, hA, HF, kp, kt, ka, kr, ks, o_kp, o_kt, o_ka, o_kr, o_ks, oD, hdoc, Hb⟩ := hrel
  have hok := bRows_ok Hb.out ho1
  by_cases hlt : i < R.length
  ·
   obtain ⟨k, rfl⟩ : ∃ k, gk = k + 1 := ⟨gk - 1, by omega⟩
   obtain ⟨r, hr⟩ := at_some hlt
   obtain ⟨d, hd, hx⟩ := Hlt1.out i r hr
   have hb := Hb.out
   rw [drop_at hx] at hb
   unfold bRows at hb
   rw [hok, if_pos rfl] at hb
   obtain ⟨st2, hst2, hb2⟩ := Option.bind_eq_some_iff.1 hb
   unfold bStep at hst2
   obtain ⟨r1, hr1', hst2⟩ := Option.bind_eq_some_iff.1 hst2
   dsimp only at hr1' hst2
   obtain ⟨r2, hr2', hst2⟩ := Option.bind_eq_some_iff.1 hst2
   obtain ⟨t1, ht1⟩ : ∃ t, nextA st.ok st.p.wave r1 = t := ⟨_, rfl⟩
   rw [ht1] at hr2' hst2
   obtain ⟨t2, ht2⟩ : ∃ t, nextA t1.2.1 st.p.marks r2 = t := ⟨_, rfl⟩
   rw [ht2] at hst2
   have Hr1 := Lib.hid hr1'; have Hr2 := Lib.hid hr2'; have Hst2 := Lib.hid hst2; have Hb2 := Lib.hid hb2; have Ht1 := Lib.hid ht1; have Ht2 := Lib.hid ht2
   obtain ⟨rc1, rc2⟩ := hrows.out i r hr
   have rc3 := hsyms.out i r hr
   have n1 : decide ((i : Int) < (R.length : Int)) = true := by simpa using hlt
   have n2 : (i : Int) < (R.length : Int) := by omega
   have E3 := Lib.hid (step_wrap i 500 (by omega) (by omega))
   have hd1 := (List.getElem?_eq_some_iff.1 hd).1
   have n3 : (r.1 : Int) < (ds.length : Int) := by omega
   have Hd := Lib.hid hd; have Hlt := Lib.hid hlt
   clear hb hr1' hr2' hst2 hb2 ht1 ht2 hr hx hd hlt Hb hd1
   have hF := Fr.refl ((twoX W2.heap.size (W2.heap.size + 1))) O1 wr
   obtain ⟨c_ka, f_ka, l_ka_wr⟩ := f3 ka
   obtain ⟨c_kr, f_kr, l_kr_wr⟩ := f3 kr
   obtain ⟨c_ks, f_ks, l_ks_wr⟩ := f3 ks
   obtain ⟨c_kp, f_kp, l_kp_wr⟩ := f3 kp
   obtain ⟨c_kt, f_kt, l_kt_wr⟩ := f3 kt
   go_wp2_with fail
   refine wp_gen fun V4 hV_V4 => ?_
   replace ka := kK hV_V4 ka
   replace kr := kK hV_V4 kr
   replace ks := kK hV_V4 ks
   replace kp := kK hV_V4 kp
   replace kt := kK hV_V4 kt
   replace hF : Fr ((twoX W2.heap.size (W2.heap.size + 1))) O1 O1 wr V4 := nF hV_V4
   replace hA : AP V4 (.pointer q) st.s O1 := nA hV_V4
   have z_V4 := zS hV_V4
   clear hV_V4 c_ka f_ka c_kr f_kr c_ks f_ks c_kp f_kp c_kt f_kt
   obtain ⟨c_ka, f_ka, l_ka_V4⟩ := f3 ka
   obtain ⟨c_kr, f_kr, l_kr_V4⟩ := f3 kr
   obtain ⟨c_ks, f_ks, l_ks_V4⟩ := f3 ks
   obtain ⟨c_kp, f_kp, l_kp_V4⟩ := f3 kp
   obtain ⟨c_kt, f_kt, l_kt_V4⟩ := f3 kt
   refine wp_region_noPanic ?_
   refine wp_region_held_drew (S := fun v => (∀ o, v.cell? ⟨w.heap.size, o, none⟩ = V4.cell? ⟨w.heap.size, o, none⟩) ∧ (∀ o, v.cell? ⟨g1, o, none⟩ = V4.cell? ⟨g1, o, none⟩) ∧ (∀ o, v.cell? ⟨g2, o, none⟩ = V4.cell? ⟨g2, o, none⟩) ∧ (∀ o, v.cell? ⟨W2.heap.size, o, none⟩ = V4.cell? ⟨W2.heap.size, o, none⟩) ∧ (∀ o, v.cell? ⟨W2.heap.size + 1, o, none⟩ = V4.cell? ⟨W2.heap.size + 1, o, none⟩) ∧ (V4.heap.size ≤ v.heap.size) ∧ True) (by kernel_rfl) ⟨(fun _ => rfl), (fun _ => rfl), (fun _ => rfl), (fun _ => rfl), (fun _ => rfl), (Nat.le_refl _), trivial⟩ (fun hHeld => ?_)
   generalize hV_V4d : V4.drew = V4d at hHeld ⊢
   have d_ka := dK hV_V4d ka
   have d_kr := dK hV_V4d kr
   have d_ks := dK hV_V4d ks
   have d_kp := dK hV_V4d kp
   have d_kt := dK hV_V4d kt
   clear c_ka f_ka c_kr f_kr c_ks f_ks c_kp f_kp c_kt f_kt
   replace hA := hA.drew; rw [hV_V4d] at hA
   replace hF := hF.drew; rw [hV_V4d] at hF
   have z_V4d := dZ hV_V4d
   have v_ka := cells_of ka
   have v_kr := cells_of kr
   have v_ks := cells_of ks
   have v_kp := cells_of kp
   have v_kt := cells_of kt
   clear ka; have ka := d_ka; clear d_ka
   clear kr; have kr := d_kr; clear d_kr
   clear ks; have ks := d_ks; clear d_ks
   clear kp; have kp := d_kp; clear d_kp
   clear kt; have kt := d_kt; clear d_kt
   obtain ⟨c_ka, f_ka, l_ka_V4d⟩ := f3 ka
   obtain ⟨c_kr, f_kr, l_kr_V4d⟩ := f3 kr
   obtain ⟨c_ks, f_ks, l_ks_V4d⟩ := f3 ks
   obtain ⟨c_kp, f_kp, l_kp_V4d⟩ := f3 kp
   obtain ⟨c_kt, f_kt, l_kt_V4d⟩ := f3 kt
   clear hV_V4d
   refine tz 0 rfl hHeld ?_
   try simp only [PT]
   refine tz 1 rfl hHeld ?_
   try simp only [PT]
   refine tz 2 rfl hHeld ?_
   try simp only [PT]
   refine tz 3 rfl hHeld ?_
   try simp only [PT]
   refine tz 4 rfl hHeld ?_
   try simp only [PT]
   refine tz 5 rfl hHeld ?_
   try simp only [PT]
   refine tz 6 rfl hHeld ?_
   try simp only [PT]
   refine tz 7 rfl hHeld ?_
   try simp only [PT]
   refine rd 8 rfl fun K hK => ?_
   go_simp
   try simp only [IntWalk.i64_left]
   refine (wInsert_calls st.s O1 _ _ _ r1 Hr1.out _ hA).mono ?_
   rintro e_W5 W5 ⟨rfl, O2, hA_W5, hf_W5⟩
   have q_ka := hf_W5.keep ka o_ka (fun h => h)
   have q_kr := hf_W5.keep kr o_kr (fun h => h)
   have q_ks := hf_W5.keep ks o_ks (fun h => h)
   have q_kp := hf_W5.keep kp o_kp (fun h => h)
   have q_kt := hf_W5.keep kt o_kt (fun h => h)
   replace o_ka := hf_W5.not_own (lt_of ka) o_ka
   clear ka c_ka f_ka; have ka := q_ka; clear q_ka
   obtain ⟨c_ka, f_ka, l_ka_W5⟩ := f3 ka
   replace o_kr := hf_W5.not_own (lt_of kr) o_kr
   clear kr c_kr f_kr; have kr := q_kr; clear q_kr
   obtain ⟨c_kr, f_kr, l_kr_W5⟩ := f3 kr
   replace o_ks := hf_W5.not_own (lt_of ks) o_ks
   clear ks c_ks f_ks; have ks := q_ks; clear q_ks
   obtain ⟨c_ks, f_ks, l_ks_W5⟩ := f3 ks
   replace o_kp := hf_W5.not_own (lt_of kp) o_kp
   clear kp c_kp f_kp; have kp := q_kp; clear q_kp
   obtain ⟨c_kp, f_kp, l_kp_W5⟩ := f3 kp
   replace o_kt := hf_W5.not_own (lt_of kt) o_kt
   clear kt c_kt f_kt; have kt := q_kt; clear q_kt
   obtain ⟨c_kt, f_kt, l_kt_W5⟩ := f3 kt
   replace hF := hF.trans hf_W5.widen
   have z_W5 := hf_W5.size
   clear hA hf_W5; have hA := hA_W5; clear hA_W5
   refine hK.out _ _ ⟨(fun o => (c_ka o).trans (v_ka o).symm), (fun o => (c_kr o).trans (v_kr o).symm), (fun o => (c_ks o).trans (v_ks o).symm), (fun o => (c_kp o).trans (v_kp o).symm), (fun o => (c_kt o).trans (v_kt o).symm), (by omega), trivial⟩ (fun hHeld => ?_)
   clear hK K
   try simp only [PT]
   refine tz 9 rfl hHeld ?_
   try simp only [PT]
   refine tz 10 rfl hHeld ?_
   try simp only [PT]
   refine tz 11 rfl hHeld ?_
   try simp only [PT]
   refine rd 12 rfl fun K hK => ?_
   go_simp
   refine hK.out _ _ hHeld (fun hHeld => ?_)
   clear hK K
   try simp only [PT]
   refine rd 13 rfl fun K hK => ?_
   go_simp
   refine hK.out _ _ hHeld (fun hHeld => ?_)
   clear hK K
   try simp only [PT]
   refine wpAnyH_done (by kernel_rfl) ?_ _
   refine NoPanic.normal ?_
   go_wp2_with fail
   refine calls_gen fun V5 hV_V5 => ?_
   replace ka := kK hV_V5 ka
   replace kr := kK hV_V5 kr
   replace ks := kK hV_V5 ks
   replace kp := kK hV_V5 kp
   replace kt := kK hV_V5 kt
   replace hF : Fr ((twoX W2.heap.size (W2.heap.size + 1))) O1 O2 wr V5 := nF hV_V5
   replace hA : AP V5 (.pointer q) r1.2.2 O2 := nA hV_V5
   have z_V5 := zS hV_V5
   clear hV_V5 c_ka f_ka c_kr f_kr c_ks f_ks c_kp f_kp c_kt f_kt
   obtain ⟨c_ka, f_ka, l_ka_V5⟩ := f3 ka
   obtain ⟨c_kr, f_kr, l_kr_V5⟩ := f3 kr
   obtain ⟨c_ks, f_ks, l_ks_V5⟩ := f3 ks
   obtain ⟨c_kp, f_kp, l_kp_V5⟩ := f3 kp
   obtain ⟨c_kt, f_kt, l_kt_V5⟩ := f3 kt
   refine (next_t (W2.heap.size + 1) w.heap.size st.ok st.p.wave r1 t1 Ht1.out _ hA kt ka o_kt o_ka ne6).mono ?_
   rintro e_W6 W6 ⟨rfl, O3, hT_W6, hf_W6⟩
   have q_ka := hf_W6.keep ka o_ka (by unfold oneX; omega)
   have q_kr := hf_W6.keep kr o_kr (by unfold oneX; omega)
   have q_ks := hf_W6.keep ks o_ks (by unfold oneX; omega)
   have q_kp := hf_W6.keep kp o_kp (by unfold oneX; omega)
   replace o_ka := hf_W6.not_own (lt_of ka) o_ka
   clear ka; have ka := q_ka; clear q_ka
   obtain ⟨c_ka, f_ka, l_ka_W6⟩ := f3 ka
   replace o_kr := hf_W6.not_own (lt_of kr) o_kr
   clear kr; have kr := q_kr; clear q_kr
   obtain ⟨c_kr, f_kr, l_kr_W6⟩ := f3 kr
   replace o_ks := hf_W6.not_own (lt_of ks) o_ks
   clear ks; have ks := q_ks; clear q_ks
   obtain ⟨c_ks, f_ks, l_ks_W6⟩ := f3 ks
   replace o_kp := hf_W6.not_own (lt_of kp) o_kp
   clear kp; have kp := q_kp; clear q_kp
   obtain ⟨c_kp, f_kp, l_kp_W6⟩ := f3 kp
   clear kt c_kt f_kt o_kt; have kt := hT_W6.blk; have o_kt := hT_W6.no
   obtain ⟨c_kt, f_kt, l_kt_W6⟩ := f3 kt
   replace hF := hF.trans (hf_W6.mono (fun x h => Or.inr h))
   have z_W6 := hf_W6.size
   clear hA hf_W6; have hA := hT_W6.hA; clear hT_W6
   go_wp2_with fail
   refine calls_gen fun V6 hV_V6 => ?_
   replace ka := kK hV_V6 ka
   replace kr := kK hV_V6 kr
   replace ks := kK hV_V6 ks
   replace kp := kK hV_V6 kp
   replace kt := kK hV_V6 kt
   replace hF : Fr ((twoX W2.heap.size (W2.heap.size + 1))) O1 O3 wr V6 := nF hV_V6
   replace hA : AP V6 (.pointer q) ((⟨t1.2.2, 0⟩ : Tb)).s O3 := nA hV_V6
   have z_V6 := zS hV_V6
   clear hV_V6 c_ka f_ka c_kr f_kr c_ks f_ks c_kp f_kp c_kt f_kt
   obtain ⟨c_ka, f_ka, l_ka_V6⟩ := f3 ka
   obtain ⟨c_kr, f_kr, l_kr_V6⟩ := f3 kr
   obtain ⟨c_ks, f_ks, l_ks_V6⟩ := f3 ks
   obtain ⟨c_kp, f_kp, l_kp_V6⟩ := f3 kp
   obtain ⟨c_kt, f_kt, l_kt_V6⟩ := f3 kt
   have hadlt : ad.block < w.heap.size := by
    obtain ⟨A, c, hv, hc⟩ := HD.out
    obtain ⟨rfl, -, rfl⟩ := Value.slice.inj hv
    obtain ⟨ad', ha, hlt, -⟩ := hc hlen
    obtain rfl := Option.some.inj ha
    exact hlt
   have hX : ¬ twoX W2.heap.size (W2.heap.size + 1) ad.block := by unfold twoX; omega
   by_cases hm : (r.2 : Int) % rate = 0
   ·
    have m1 : ((r.2 : Int) % rate == 0) = true := by rw [hm]; rfl
    have hst := Hst2.out
    rw [if_pos hm] at hst
    obtain ⟨r3, hr3', hst⟩ := Option.bind_eq_some_iff.1 hst
    obtain ⟨u, hu, hst⟩ := Option.map_eq_some_iff.1 hst
    obtain ⟨t3, ht3⟩ : ∃ t, nextA t2.2.1 st.p.spots r3 = t := ⟨_, rfl⟩
    rw [ht3] at hu hst
    have Hr3 := Lib.hid hr3'; have Hu := Lib.hid hu; have Hst := Lib.hid hst; have Ht3 := Lib.hid ht3; have Hm := Lib.hid hm
    have e2 : decide ((r.2 : Int) % rate = 0) = ((r.2 : Int) % rate == 0) := rfl
    have Hr2' : Hid (bInsert t1.2.2 st.p.marks (i : Int) ((r.2 : Int) % rate == 0) = some r2) := Lib.hid Hr2.out
    rw [m1] at Hr2' ⊢
    clear hst hr3' hu ht3 hm e2
    refine (bInsert_calls (s := t1.2.2) _ _ _ r2 Hr2'.out _ hA).mono ?_
    rintro e_W7 W7 ⟨rfl, O4, hA_W7, hf_W7⟩
    have q_ka := hf_W7.keep ka o_ka (fun h => h)
    have q_kr := hf_W7.keep kr o_kr (fun h => h)
    have q_ks := hf_W7.keep ks o_ks (fun h => h)
    have q_kp := hf_W7.keep kp o_kp (fun h => h)
    have q_kt := hf_W7.keep kt o_kt (fun h => h)
    replace o_ka := hf_W7.not_own (lt_of ka) o_ka
    clear ka c_ka f_ka; have ka := q_ka; clear q_ka
    obtain ⟨c_ka, f_ka, l_ka_W7⟩ := f3 ka
    replace o_kr := hf_W7.not_own (lt_of kr) o_kr
    clear kr c_kr f_kr; have kr := q_kr; clear q_kr
    obtain ⟨c_kr, f_kr, l_kr_W7⟩ := f3 kr
    replace o_ks := hf_W7.not_own (lt_of ks) o_ks
    clear ks c_ks f_ks; have ks := q_ks; clear q_ks
    obtain ⟨c_ks, f_ks, l_ks_W7⟩ := f3 ks
    replace o_kp := hf_W7.not_own (lt_of kp) o_kp
    clear kp c_kp f_kp; have kp := q_kp; clear q_kp
    obtain ⟨c_kp, f_kp, l_kp_W7⟩ := f3 kp
    replace o_kt := hf_W7.not_own (lt_of kt) o_kt
    clear kt c_kt f_kt; have kt := q_kt; clear q_kt
    obtain ⟨c_kt, f_kt, l_kt_W7⟩ := f3 kt
    replace hF := hF.trans hf_W7.widen
    have z_W7 := hf_W7.size
    clear hA hf_W7; have hA := hA_W7; clear hA_W7
    go_wp2_with fail
    refine calls_gen fun V7 hV_V7 => ?_
    replace ka := kK hV_V7 ka
    replace kr := kK hV_V7 kr
    replace ks := kK hV_V7 ks
    replace kp := kK hV_V7 kp
    replace kt := kK hV_V7 kt
    replace hF : Fr ((twoX W2.heap.size (W2.heap.size + 1))) O1 O4 wr V7 := nF hV_V7
    replace hA : AP V7 (.pointer q) r2.2.2 O4 := nA hV_V7
    have z_V7 := zS hV_V7
    clear hV_V7 c_ka f_ka c_kr f_kr c_ks f_ks c_kp f_kp c_kt f_kt
    obtain ⟨c_ka, f_ka, l_ka_V7⟩ := f3 ka
    obtain ⟨c_kr, f_kr, l_kr_V7⟩ := f3 kr
    obtain ⟨c_ks, f_ks, l_ks_V7⟩ := f3 ks
    obtain ⟨c_kp, f_kp, l_kp_V7⟩ := f3 kp
    obtain ⟨c_kt, f_kt, l_kt_V7⟩ := f3 kt
    refine (next_t (W2.heap.size + 1) w.heap.size t1.2.1 st.p.marks r2 t2 Ht2.out _ hA kt ka o_kt o_ka ne6).mono ?_
    rintro e_W8 W8 ⟨rfl, O5, hT_W8, hf_W8⟩
    have q_ka := hf_W8.keep ka o_ka (by unfold oneX; omega)
    have q_kr := hf_W8.keep kr o_kr (by unfold oneX; omega)
    have q_ks := hf_W8.keep ks o_ks (by unfold oneX; omega)
    have q_kp := hf_W8.keep kp o_kp (by unfold oneX; omega)
    replace o_ka := hf_W8.not_own (lt_of ka) o_ka
    clear ka; have ka := q_ka; clear q_ka
    obtain ⟨c_ka, f_ka, l_ka_W8⟩ := f3 ka
    replace o_kr := hf_W8.not_own (lt_of kr) o_kr
    clear kr; have kr := q_kr; clear q_kr
    obtain ⟨c_kr, f_kr, l_kr_W8⟩ := f3 kr
    replace o_ks := hf_W8.not_own (lt_of ks) o_ks
    clear ks; have ks := q_ks; clear q_ks
    obtain ⟨c_ks, f_ks, l_ks_W8⟩ := f3 ks
    replace o_kp := hf_W8.not_own (lt_of kp) o_kp
    clear kp; have kp := q_kp; clear q_kp
    obtain ⟨c_kp, f_kp, l_kp_W8⟩ := f3 kp
    clear kt c_kt f_kt o_kt; have kt := hT_W8.blk; have o_kt := hT_W8.no
    obtain ⟨c_kt, f_kt, l_kt_W8⟩ := f3 kt
    replace hF := hF.trans (hf_W8.mono (fun x h => Or.inr h))
    have z_W8 := hf_W8.size
    clear hA hf_W8; have hA := hT_W8.hA; clear hT_W8
    go_wp2_with fail
    refine wp_gen fun V8 hV_V8 => ?_
    replace ka := kK hV_V8 ka
    replace kr := kK hV_V8 kr
    replace ks := kK hV_V8 ks
    replace kp := kK hV_V8 kp
    replace kt := kK hV_V8 kt
    replace hF : Fr ((twoX W2.heap.size (W2.heap.size + 1))) O1 O5 wr V8 := nF hV_V8
    replace hA : AP V8 (.pointer q) ((⟨t2.2.2, 0⟩ : Tb)).s O5 := nA hV_V8
    have z_V8 := zS hV_V8
    clear hV_V8 c_ka f_ka c_kr f_kr c_ks f_ks c_kp f_kp c_kt f_kt
    obtain ⟨c_ka, f_ka, l_ka_V8⟩ := f3 ka
    obtain ⟨c_kr, f_kr, l_kr_V8⟩ := f3 kr
    obtain ⟨c_ks, f_ks, l_ks_V8⟩ := f3 ks
    obtain ⟨c_kp, f_kp, l_kp_V8⟩ := f3 kp
    obtain ⟨c_kt, f_kt, l_kt_V8⟩ := f3 kt
    obtain ⟨c_d_lt, c_d, -⟩ : (ad.add (r.1 * 2)).block < V8.heap.size ∧ V8.cell? (ad.add (r.1 * 2)) = some (.int .i64 d.1) ∧ True := by
     obtain ⟨A, c, hv, hc⟩ := hdoc.out.fr hF oD hX
     obtain ⟨rfl, -, rfl⟩ := Value.slice.inj hv
     obtain ⟨ad', ha, hlt, hc⟩ := hc hlen
     obtain rfl := Option.some.inj ha
     obtain ⟨q1, q2, -⟩ := hc r.1 d Hd.out
     exact ⟨q1, q2, trivial⟩
    have c_d_no : ¬ O5 (ad.add (r.1 * 2)).block := by
     rw [block_of_add]
     exact hF.not_own (by have := hF.size; omega) oD
    refine wp_region_noPanic ?_
    refine wp_region_held_drew (S := fun v => (v.cell? (ad.add (r.1 * 2)) = some (.int .i64 d.1)) ∧ (∀ o, v.cell? ⟨w.heap.size, o, none⟩ = V8.cell? ⟨w.heap.size, o, none⟩) ∧ (∀ o, v.cell? ⟨g1, o, none⟩ = V8.cell? ⟨g1, o, none⟩) ∧ (∀ o, v.cell? ⟨g2, o, none⟩ = V8.cell? ⟨g2, o, none⟩) ∧ (∀ o, v.cell? ⟨W2.heap.size, o, none⟩ = V8.cell? ⟨W2.heap.size, o, none⟩) ∧ (∀ o, v.cell? ⟨W2.heap.size + 1, o, none⟩ = V8.cell? ⟨W2.heap.size + 1, o, none⟩) ∧ (V8.heap.size ≤ v.heap.size) ∧ True) (by kernel_rfl) ⟨c_d, (fun _ => rfl), (fun _ => rfl), (fun _ => rfl), (fun _ => rfl), (fun _ => rfl), (Nat.le_refl _), trivial⟩ (fun hHeld => ?_)
    generalize hV_V8d : V8.drew = V8d at hHeld ⊢
    have d_ka := dK hV_V8d ka
    have d_kr := dK hV_V8d kr
    have d_ks := dK hV_V8d ks
    have d_kp := dK hV_V8d kp
    have d_kt := dK hV_V8d kt
    clear c_ka f_ka c_kr f_kr c_ks f_ks c_kp f_kp c_kt f_kt
    replace c_d : V8d.cell? (ad.add (r.1 * 2)) = some (.int .i64 d.1) := by rw [← hV_V8d]; exact c_d
    replace c_d_lt : ((ad.add (r.1 * 2))).block < V8d.heap.size := by rw [← hV_V8d]; exact c_d_lt
    replace hA := hA.drew; rw [hV_V8d] at hA
    replace hF := hF.drew; rw [hV_V8d] at hF
    have z_V8d := dZ hV_V8d
    have v_ka := cells_of ka
    have v_kr := cells_of kr
    have v_ks := cells_of ks
    have v_kp := cells_of kp
    have v_kt := cells_of kt
    clear ka; have ka := d_ka; clear d_ka
    clear kr; have kr := d_kr; clear d_kr
    clear ks; have ks := d_ks; clear d_ks
    clear kp; have kp := d_kp; clear d_kp
    clear kt; have kt := d_kt; clear d_kt
    obtain ⟨c_ka, f_ka, l_ka_V8d⟩ := f3 ka
    obtain ⟨c_kr, f_kr, l_kr_V8d⟩ := f3 kr
    obtain ⟨c_ks, f_ks, l_ks_V8d⟩ := f3 ks
    obtain ⟨c_kp, f_kp, l_kp_V8d⟩ := f3 kp
    obtain ⟨c_kt, f_kt, l_kt_V8d⟩ := f3 kt
    clear hV_V8d
    refine tz 0 rfl hHeld ?_
    try simp only [PT]
    refine tz 1 rfl hHeld ?_
    try simp only [PT]
    refine tz 2 rfl hHeld ?_
    try simp only [PT]
    refine tz 3 rfl hHeld ?_
    try simp only [PT]
    refine tz 4 rfl hHeld ?_
    try simp only [PT]
    refine tz 5 rfl hHeld ?_
    try simp only [PT]
    refine tz 6 rfl hHeld ?_
    try simp only [PT]
    refine tz 7 rfl hHeld ?_
    try simp only [PT]
    refine tz 8 rfl hHeld ?_
    try simp only [PT]
    refine tz 9 rfl hHeld ?_
    try simp only [PT]
    refine tz 10 rfl hHeld ?_
    try simp only [PT]
    refine tz 11 rfl hHeld ?_
    try simp only [PT]
    refine tz 12 rfl hHeld ?_
    try simp only [PT]
    refine tz 13 rfl hHeld ?_
    try simp only [PT]
    refine tz 14 rfl hHeld ?_
    try simp only [PT]
    refine tz 15 rfl hHeld ?_
    try simp only [PT]
    refine tz 16 rfl hHeld ?_
    try simp only [PT]
    refine tz 17 rfl hHeld ?_
    try simp only [PT]
    refine tz 18 rfl hHeld ?_
    try simp only [PT]
    refine rd 19 rfl fun K hK => ?_
    go_simp
    try simp only [IntWalk.i64_left]
    refine (lInsert_calls (s := t2.2.2) _ _ (d.1, (r.2 : Int)) r3 Hr3.out _ hA).mono ?_
    rintro e_W9 W9 ⟨rfl, O6, hA_W9, hf_W9⟩
    have q_ka := hf_W9.keep ka o_ka (fun h => h)
    have q_kr := hf_W9.keep kr o_kr (fun h => h)
    have q_ks := hf_W9.keep ks o_ks (fun h => h)
    have q_kp := hf_W9.keep kp o_kp (fun h => h)
    have q_kt := hf_W9.keep kt o_kt (fun h => h)
    replace o_ka := hf_W9.not_own (lt_of ka) o_ka
    clear ka c_ka f_ka; have ka := q_ka; clear q_ka
    obtain ⟨c_ka, f_ka, l_ka_W9⟩ := f3 ka
    replace o_kr := hf_W9.not_own (lt_of kr) o_kr
    clear kr c_kr f_kr; have kr := q_kr; clear q_kr
    obtain ⟨c_kr, f_kr, l_kr_W9⟩ := f3 kr
    replace o_ks := hf_W9.not_own (lt_of ks) o_ks
    clear ks c_ks f_ks; have ks := q_ks; clear q_ks
    obtain ⟨c_ks, f_ks, l_ks_W9⟩ := f3 ks
    replace o_kp := hf_W9.not_own (lt_of kp) o_kp
    clear kp c_kp f_kp; have kp := q_kp; clear q_kp
    obtain ⟨c_kp, f_kp, l_kp_W9⟩ := f3 kp
    replace o_kt := hf_W9.not_own (lt_of kt) o_kt
    clear kt c_kt f_kt; have kt := q_kt; clear q_kt
    obtain ⟨c_kt, f_kt, l_kt_W9⟩ := f3 kt
    replace c_d := (cell_same (hf_W9.block _ c_d_lt c_d_no (fun h => h))).trans c_d
    clear c_d_lt c_d_no
    replace hF := hF.trans hf_W9.widen
    have z_W9 := hf_W9.size
    clear hA hf_W9; have hA := hA_W9; clear hA_W9
    refine hK.out _ _ ⟨c_d, (fun o => (c_ka o).trans (v_ka o).symm), (fun o => (c_kr o).trans (v_kr o).symm), (fun o => (c_ks o).trans (v_ks o).symm), (fun o => (c_kp o).trans (v_kp o).symm), (fun o => (c_kt o).trans (v_kt o).symm), (by omega), trivial⟩ (fun hHeld => ?_)
    clear hK K
    try simp only [PT]
    refine tz 20 rfl hHeld ?_
    try simp only [PT]
    refine tz 21 rfl hHeld ?_
    try simp only [PT]
    refine tz 22 rfl hHeld ?_
    try simp only [PT]
    refine rd 23 rfl fun K hK => ?_
    go_simp
    refine hK.out _ _ hHeld (fun hHeld => ?_)
    clear hK K
    try simp only [PT]
    refine rd 24 rfl fun K hK => ?_
    go_simp
    refine hK.out _ _ hHeld (fun hHeld => ?_)
    clear hK K
    try simp only [PT]
    refine wpAnyH_done (by kernel_rfl) ?_ _
    refine NoPanic.normal ?_
    go_wp2_with fail
    refine calls_gen fun V9 hV_V9 => ?_
    replace ka := kK hV_V9 ka
    replace kr := kK hV_V9 kr
    replace ks := kK hV_V9 ks
    replace kp := kK hV_V9 kp
    replace kt := kK hV_V9 kt
    replace hF : Fr ((twoX W2.heap.size (W2.heap.size + 1))) O1 O6 wr V9 := nF hV_V9
    replace hA : AP V9 (.pointer q) r3.2.2 O6 := nA hV_V9
    have z_V9 := zS hV_V9
    clear hV_V9 c_ka f_ka c_kr f_kr c_ks f_ks c_kp f_kp c_kt f_kt
    obtain ⟨c_ka, f_ka, l_ka_V9⟩ := f3 ka
    obtain ⟨c_kr, f_kr, l_kr_V9⟩ := f3 kr
    obtain ⟨c_ks, f_ks, l_ks_V9⟩ := f3 ks
    obtain ⟨c_kp, f_kp, l_kp_V9⟩ := f3 kp
    obtain ⟨c_kt, f_kt, l_kt_V9⟩ := f3 kt
    refine (next_t (W2.heap.size + 1) w.heap.size t2.2.1 st.p.spots r3 t3 Ht3.out _ hA kt ka o_kt o_ka ne6).mono ?_
    rintro e_W10 W10 ⟨rfl, O7, hT_W10, hf_W10⟩
    have q_ka := hf_W10.keep ka o_ka (by unfold oneX; omega)
    have q_kr := hf_W10.keep kr o_kr (by unfold oneX; omega)
    have q_ks := hf_W10.keep ks o_ks (by unfold oneX; omega)
    have q_kp := hf_W10.keep kp o_kp (by unfold oneX; omega)
    replace o_ka := hf_W10.not_own (lt_of ka) o_ka
    clear ka; have ka := q_ka; clear q_ka
    obtain ⟨c_ka, f_ka, l_ka_W10⟩ := f3 ka
    replace o_kr := hf_W10.not_own (lt_of kr) o_kr
    clear kr; have kr := q_kr; clear q_kr
    obtain ⟨c_kr, f_kr, l_kr_W10⟩ := f3 kr
    replace o_ks := hf_W10.not_own (lt_of ks) o_ks
    clear ks; have ks := q_ks; clear q_ks
    obtain ⟨c_ks, f_ks, l_ks_W10⟩ := f3 ks
    replace o_kp := hf_W10.not_own (lt_of kp) o_kp
    clear kp; have kp := q_kp; clear q_kp
    obtain ⟨c_kp, f_kp, l_kp_W10⟩ := f3 kp
    clear kt c_kt f_kt o_kt; have kt := hT_W10.blk; have o_kt := hT_W10.no
    obtain ⟨c_kt, f_kt, l_kt_W10⟩ := f3 kt
    replace hF := hF.trans (hf_W10.mono (fun x h => Or.inr h))
    have z_W10 := hf_W10.size
    clear hA hf_W10; have hA := hT_W10.hA; clear hT_W10
    go_wp2_with fail
    refine calls_gen fun V10 hV_V10 => ?_
    replace ka := kK hV_V10 ka
    replace kr := kK hV_V10 kr
    replace ks := kK hV_V10 ks
    replace kp := kK hV_V10 kp
    replace kt := kK hV_V10 kt
    replace hF : Fr ((twoX W2.heap.size (W2.heap.size + 1))) O1 O7 wr V10 := nF hV_V10
    replace hA : AP V10 (.pointer q) ((⟨t3.2.2, 0⟩ : Tb)).s O7 := nA hV_V10
    have z_V10 := zS hV_V10
    clear hV_V10 c_ka f_ka c_kr f_kr c_ks f_ks c_kp f_kp c_kt f_kt
    obtain ⟨c_ka, f_ka, l_ka_V10⟩ := f3 ka
    obtain ⟨c_kr, f_kr, l_kr_V10⟩ := f3 kr
    obtain ⟨c_ks, f_ks, l_ks_V10⟩ := f3 ks
    obtain ⟨c_kp, f_kp, l_kp_V10⟩ := f3 kp
    obtain ⟨c_kt, f_kt, l_kt_V10⟩ := f3 kt
    refine (work_calls (s := t3.2.2) 1073741824 u Hu.out _ hA).mono ?_
    rintro e_W11 W11 ⟨rfl, O8, hA_W11, hf_W11⟩
    have q_ka := hf_W11.keep ka o_ka (fun h => h)
    have q_kr := hf_W11.keep kr o_kr (fun h => h)
    have q_ks := hf_W11.keep ks o_ks (fun h => h)
    have q_kp := hf_W11.keep kp o_kp (fun h => h)
    have q_kt := hf_W11.keep kt o_kt (fun h => h)
    replace o_ka := hf_W11.not_own (lt_of ka) o_ka
    clear ka c_ka f_ka; have ka := q_ka; clear q_ka
    obtain ⟨c_ka, f_ka, l_ka_W11⟩ := f3 ka
    replace o_kr := hf_W11.not_own (lt_of kr) o_kr
    clear kr c_kr f_kr; have kr := q_kr; clear q_kr
    obtain ⟨c_kr, f_kr, l_kr_W11⟩ := f3 kr
    replace o_ks := hf_W11.not_own (lt_of ks) o_ks
    clear ks c_ks f_ks; have ks := q_ks; clear q_ks
    obtain ⟨c_ks, f_ks, l_ks_W11⟩ := f3 ks
    replace o_kp := hf_W11.not_own (lt_of kp) o_kp
    clear kp c_kp f_kp; have kp := q_kp; clear q_kp
    obtain ⟨c_kp, f_kp, l_kp_W11⟩ := f3 kp
    replace o_kt := hf_W11.not_own (lt_of kt) o_kt
    clear kt c_kt f_kt; have kt := q_kt; clear q_kt
    obtain ⟨c_kt, f_kt, l_kt_W11⟩ := f3 kt
    replace hF := hF.trans hf_W11.widen
    have z_W11 := hf_W11.size
    clear hA hf_W11; have hA := hA_W11; clear hA_W11
    obtain rfl := Hst.out
    have HF2 := Lib.hid (HF.out.trans_own hF hY)
    have hdoc2 := Lib.hid (hdoc.out.fr hF oD hX)
    have oD2 := hF.not_own (by have := HF.out.size; omega) oD
    have HA2 := Lib.hid hA
    clear hF hdoc oD hA
    go_wp2_with fail
    go_roundg k
    case measure => omega
    case rel => exact ⟨i + 1, _, O8, rfl, by first | rfl | (rw [E3.out]; rfl), by omega, HA2.out, HF2, kp, kt, ka, kr, ks, o_kp, o_kt, o_ka, o_kr, o_ks, oD2, hdoc2, Lib.hid (by exact Hb2.out)⟩
   ·
    have m1 : ((r.2 : Int) % rate == 0) = false := by rw [beq_eq_false_iff_ne]; exact hm
    have hst := Hst2.out
    rw [if_neg hm] at hst
    obtain ⟨u, hu, hst⟩ := Option.map_eq_some_iff.1 hst
    have Hu := Lib.hid hu; have Hst := Lib.hid hst; have Hm := Lib.hid hm
    have Hr2' : Hid (bInsert t1.2.2 st.p.marks (i : Int) ((r.2 : Int) % rate == 0) = some r2) := Lib.hid Hr2.out
    rw [m1] at Hr2' ⊢
    clear hst hu hm
    refine (bInsert_calls (s := t1.2.2) _ _ _ r2 Hr2'.out _ hA).mono ?_
    rintro e_W7 W7 ⟨rfl, O4, hA_W7, hf_W7⟩
    have q_ka := hf_W7.keep ka o_ka (fun h => h)
    have q_kr := hf_W7.keep kr o_kr (fun h => h)
    have q_ks := hf_W7.keep ks o_ks (fun h => h)
    have q_kp := hf_W7.keep kp o_kp (fun h => h)
    have q_kt := hf_W7.keep kt o_kt (fun h => h)
    replace o_ka := hf_W7.not_own (lt_of ka) o_ka
    clear ka c_ka f_ka; have ka := q_ka; clear q_ka
    obtain ⟨c_ka, f_ka, l_ka_W7⟩ := f3 ka
    replace o_kr := hf_W7.not_own (lt_of kr) o_kr
    clear kr c_kr f_kr; have kr := q_kr; clear q_kr
    obtain ⟨c_kr, f_kr, l_kr_W7⟩ := f3 kr
    replace o_ks := hf_W7.not_own (lt_of ks) o_ks
    clear ks c_ks f_ks; have ks := q_ks; clear q_ks
    obtain ⟨c_ks, f_ks, l_ks_W7⟩ := f3 ks
    replace o_kp := hf_W7.not_own (lt_of kp) o_kp
    clear kp c_kp f_kp; have kp := q_kp; clear q_kp
    obtain ⟨c_kp, f_kp, l_kp_W7⟩ := f3 kp
    replace o_kt := hf_W7.not_own (lt_of kt) o_kt
    clear kt c_kt f_kt; have kt := q_kt; clear q_kt
    obtain ⟨c_kt, f_kt, l_kt_W7⟩ := f3 kt
    replace hF := hF.trans hf_W7.widen
    have z_W7 := hf_W7.size
    clear hA hf_W7; have hA := hA_W7; clear hA_W7
    go_wp2_with fail
    refine calls_gen fun V7 hV_V7 => ?_
    replace ka := kK hV_V7 ka
    replace kr := kK hV_V7 kr
    replace ks := kK hV_V7 ks
    replace kp := kK hV_V7 kp
    replace kt := kK hV_V7 kt
    replace hF : Fr ((twoX W2.heap.size (W2.heap.size + 1))) O1 O4 wr V7 := nF hV_V7
    replace hA : AP V7 (.pointer q) r2.2.2 O4 := nA hV_V7
    have z_V7 := zS hV_V7
    clear hV_V7 c_ka f_ka c_kr f_kr c_ks f_ks c_kp f_kp c_kt f_kt
    obtain ⟨c_ka, f_ka, l_ka_V7⟩ := f3 ka
    obtain ⟨c_kr, f_kr, l_kr_V7⟩ := f3 kr
    obtain ⟨c_ks, f_ks, l_ks_V7⟩ := f3 ks
    obtain ⟨c_kp, f_kp, l_kp_V7⟩ := f3 kp
    obtain ⟨c_kt, f_kt, l_kt_V7⟩ := f3 kt
    refine (next_t (W2.heap.size + 1) w.heap.size t1.2.1 st.p.marks r2 t2 Ht2.out _ hA kt ka o_kt o_ka ne6).mono ?_
    rintro e_W8 W8 ⟨rfl, O5, hT_W8, hf_W8⟩
    have q_ka := hf_W8.keep ka o_ka (by unfold oneX; omega)
    have q_kr := hf_W8.keep kr o_kr (by unfold oneX; omega)
    have q_ks := hf_W8.keep ks o_ks (by unfold oneX; omega)
    have q_kp := hf_W8.keep kp o_kp (by unfold oneX; omega)
    replace o_ka := hf_W8.not_own (lt_of ka) o_ka
    clear ka; have ka := q_ka; clear q_ka
    obtain ⟨c_ka, f_ka, l_ka_W8⟩ := f3 ka
    replace o_kr := hf_W8.not_own (lt_of kr) o_kr
    clear kr; have kr := q_kr; clear q_kr
    obtain ⟨c_kr, f_kr, l_kr_W8⟩ := f3 kr
    replace o_ks := hf_W8.not_own (lt_of ks) o_ks
    clear ks; have ks := q_ks; clear q_ks
    obtain ⟨c_ks, f_ks, l_ks_W8⟩ := f3 ks
    replace o_kp := hf_W8.not_own (lt_of kp) o_kp
    clear kp; have kp := q_kp; clear q_kp
    obtain ⟨c_kp, f_kp, l_kp_W8⟩ := f3 kp
    clear kt c_kt f_kt o_kt; have kt := hT_W8.blk; have o_kt := hT_W8.no
    obtain ⟨c_kt, f_kt, l_kt_W8⟩ := f3 kt
    replace hF := hF.trans (hf_W8.mono (fun x h => Or.inr h))
    have z_W8 := hf_W8.size
    clear hA hf_W8; have hA := hT_W8.hA; clear hT_W8
    go_wp2_with fail
    refine calls_gen fun V8 hV_V8 => ?_
    replace ka := kK hV_V8 ka
    replace kr := kK hV_V8 kr
    replace ks := kK hV_V8 ks
    replace kp := kK hV_V8 kp
    replace kt := kK hV_V8 kt
    replace hF : Fr ((twoX W2.heap.size (W2.heap.size + 1))) O1 O5 wr V8 := nF hV_V8
    replace hA : AP V8 (.pointer q) ((⟨t2.2.2, 0⟩ : Tb)).s O5 := nA hV_V8
    have z_V8 := zS hV_V8
    clear hV_V8 c_ka f_ka c_kr f_kr c_ks f_ks c_kp f_kp c_kt f_kt
    obtain ⟨c_ka, f_ka, l_ka_V8⟩ := f3 ka
    obtain ⟨c_kr, f_kr, l_kr_V8⟩ := f3 kr
    obtain ⟨c_ks, f_ks, l_ks_V8⟩ := f3 ks
    obtain ⟨c_kp, f_kp, l_kp_V8⟩ := f3 kp
    obtain ⟨c_kt, f_kt, l_kt_V8⟩ := f3 kt
    refine (work_calls (s := t2.2.2) 1073741824 u Hu.out _ hA).mono ?_
    rintro e_W11 W11 ⟨rfl, O8, hA_W11, hf_W11⟩
    have q_ka := hf_W11.keep ka o_ka (fun h => h)
    have q_kr := hf_W11.keep kr o_kr (fun h => h)
    have q_ks := hf_W11.keep ks o_ks (fun h => h)
    have q_kp := hf_W11.keep kp o_kp (fun h => h)
    have q_kt := hf_W11.keep kt o_kt (fun h => h)
    replace o_ka := hf_W11.not_own (lt_of ka) o_ka
    clear ka c_ka f_ka; have ka := q_ka; clear q_ka
    obtain ⟨c_ka, f_ka, l_ka_W11⟩ := f3 ka
    replace o_kr := hf_W11.not_own (lt_of kr) o_kr
    clear kr c_kr f_kr; have kr := q_kr; clear q_kr
    obtain ⟨c_kr, f_kr, l_kr_W11⟩ := f3 kr
    replace o_ks := hf_W11.not_own (lt_of ks) o_ks
    clear ks c_ks f_ks; have ks := q_ks; clear q_ks
    obtain ⟨c_ks, f_ks, l_ks_W11⟩ := f3 ks
    replace o_kp := hf_W11.not_own (lt_of kp) o_kp
    clear kp c_kp f_kp; have kp := q_kp; clear q_kp
    obtain ⟨c_kp, f_kp, l_kp_W11⟩ := f3 kp
    replace o_kt := hf_W11.not_own (lt_of kt) o_kt
    clear kt c_kt f_kt; have kt := q_kt; clear q_kt
    obtain ⟨c_kt, f_kt, l_kt_W11⟩ := f3 kt
    replace hF := hF.trans hf_W11.widen
    have z_W11 := hf_W11.size
    clear hA hf_W11; have hA := hA_W11; clear hA_W11
    obtain rfl := Hst.out
    have HF2 := Lib.hid (HF.out.trans_own hF hY)
    have hdoc2 := Lib.hid (hdoc.out.fr hF oD hX)
    have oD2 := hF.not_own (by have := HF.out.size; omega) oD
    have HA2 := Lib.hid hA
    clear hF hdoc oD hA
    go_wp2_with fail
    go_roundg k
    case measure => omega
    case rel => exact ⟨i + 1, (⟨u.2, t2.2.1, ⟨t1.1, t2.1, st.p.spots, st.p.table⟩, st.n⟩ : Bst), O8, rfl, by first | rfl | (rw [E3.out]; rfl), by omega, HA2.out, HF2, kp, kt, ka, kr, ks, o_kp, o_kt, o_ka, o_kr, o_ks, oD2, hdoc2, Lib.hid (by exact Hb2.out)⟩
  ·
   obtain rfl : i = R.length := by omega
   have hb := Hb.out
   rw [List.drop_of_length_le (by omega)] at hb
   unfold bRows at hb
   obtain rfl := Option.some.inj hb
   have n1 : decide ((R.length : Int) < (R.length : Int)) = false := by simp
   clear hb Hb hlt hk
   go_wp2_with fail
   go_loopg [126] ds.length (fun k p1 wr => ∃ (i : Nat) (st : Bst) (O' : Nat → Prop), p1 = .int .i64 (i : Int) ∧ i + k = ds.length ∧ AP wr (.pointer q) st.s O' ∧ Hid (Fr noX O O' w wr)
    ∧ wr.heap[W2.heap.size]? = some (.cells #[.int .i64 st.p.wave, .int .i64 st.p.marks, .int .i64 st.p.spots, .int .i64 st.p.table] 59 (0, 0)) ∧ wr.heap[W2.heap.size + 1]? = some (.cells #[.bool st.ok] 4 (0, 0)) ∧ wr.heap[w.heap.size]? = some (.cells #[.pointer q] 25 (0, 0))
    ∧ ¬ O' (W2.heap.size) ∧ ¬ O' (W2.heap.size + 1) ∧ ¬ O' w.heap.size ∧ ¬ O' ad.block ∧ Hid (Rd2 wr (.slice (some ad) ds.length cap) ds) ∧ Hid (bTable ((docsM ds).drop i) st = some B2))
   case atStart => exact ⟨0, _, O1, rfl, by omega, hA, HF, kp, kt, ka, o_kp, o_kt, o_ka, oD, hdoc, H2⟩
   case round =>
    clear hA HF kp kt ka kr ks o_kp o_kt o_ka o_kr o_ks oD hdoc
    obtain ⟨i, st, O1, rfl, hk, hA, HF, kp, kt, ka, o_kp, o_kt, o_ka, oD, hdoc, Hb⟩ := hrel
    have hadlt : ad.block < w.heap.size := by
     obtain ⟨A, c, hv, hc⟩ := HD.out
     obtain ⟨rfl, -, rfl⟩ := Value.slice.inj hv
     obtain ⟨ad', ha, hlt, -⟩ := hc hlen
     obtain rfl := Option.some.inj ha
     exact hlt
    have hX : ¬ twoX W2.heap.size (W2.heap.size + 1) ad.block := by unfold twoX; omega
    by_cases hlt : i < ds.length
    ·
     obtain ⟨k, rfl⟩ : ∃ k, gk = k + 1 := ⟨gk - 1, by omega⟩
     obtain ⟨d, hd⟩ := at_some hlt
     have hx : (docsM ds)[i]? = some (d.1, (d.2.length : Int)) := by unfold docsM; rw [List.getElem?_map, hd]; rfl
     have hb := Hb.out
     rw [drop_at hx] at hb
     unfold bTable at hb
     obtain ⟨a, ha, hb⟩ := Option.bind_eq_some_iff.1 hb
     have hla : a.length ≤ 50000 := by
      by_cases h : a.length ≤ 50000
      ·
       exact h
      ·
       rw [if_neg h] at hb; cases hb
     rw [if_pos hla] at hb
     obtain ⟨r, hr, hb⟩ := Option.bind_eq_some_iff.1 hb
     obtain ⟨t, ht⟩ : ∃ t, nextA st.ok st.p.table r = t := ⟨_, rfl⟩
     rw [ht] at hb
     dsimp only at hr
     have Ha := Lib.hid ha; have Hr := Lib.hid hr; have Hb2 := Lib.hid hb; have Ht := Lib.hid ht
     have m1 : decide ((i : Int) < (ds.length : Int)) = true := by simpa using hlt
     have m2 : (i : Int) < (ds.length : Int) := by omega
     have E3 := Lib.hid (step_wrap i 500 (by omega) (by omega))
     obtain ⟨cd1, cd2⟩ : wr.cell? (ad.add (i * 2)) = some (.int .i64 d.1) ∧ wr.cell? ⟨(ad.add (i * 2)).block, (ad.add (i * 2)).off + 1, none⟩ = some (.string ⟨d.2.toArray⟩) := by
      obtain ⟨A, c, hv, hc⟩ := hdoc.out
      obtain ⟨rfl, -, rfl⟩ := Value.slice.inj hv
      obtain ⟨ad', ha, hlt, hc⟩ := hc hlen
      obtain rfl := Option.some.inj ha
      obtain ⟨-, q1, q2⟩ := hc i d hd
      exact ⟨q1, q2⟩
     clear hb ha hr ht hd hx hlt Hb
     have hF := Fr.refl ((twoX W2.heap.size (W2.heap.size + 1))) O1 wr
     obtain ⟨c_ka, f_ka, l_ka_wr⟩ := f3 ka
     obtain ⟨c_kp, f_kp, l_kp_wr⟩ := f3 kp
     obtain ⟨c_kt, f_kt, l_kt_wr⟩ := f3 kt
     go_wp2_with fail
     refine calls_gen fun V4 hV_V4 => ?_
     replace ka := kK hV_V4 ka
     replace kp := kK hV_V4 kp
     replace kt := kK hV_V4 kt
     replace hF : Fr ((twoX W2.heap.size (W2.heap.size + 1))) O1 O1 wr V4 := nF hV_V4
     replace hA : AP V4 (.pointer q) st.s O1 := nA hV_V4
     have z_V4 := zS hV_V4
     clear hV_V4 c_ka f_ka c_kp f_kp c_kt f_kt
     obtain ⟨c_ka, f_ka, l_ka_V4⟩ := f3 ka
     obtain ⟨c_kp, f_kp, l_kp_V4⟩ := f3 kp
     obtain ⟨c_kt, f_kt, l_kt_V4⟩ := f3 kt
     refine (tAdd_calls _ _ _ a Ha.out hla r Hr.out _ hA).mono ?_
     rintro e_W5 W5 ⟨rfl, O2, hA_W5, hf_W5⟩
     have q_ka := hf_W5.keep ka o_ka (fun h => h)
     have q_kp := hf_W5.keep kp o_kp (fun h => h)
     have q_kt := hf_W5.keep kt o_kt (fun h => h)
     replace o_ka := hf_W5.not_own (lt_of ka) o_ka
     clear ka c_ka f_ka; have ka := q_ka; clear q_ka
     obtain ⟨c_ka, f_ka, l_ka_W5⟩ := f3 ka
     replace o_kp := hf_W5.not_own (lt_of kp) o_kp
     clear kp c_kp f_kp; have kp := q_kp; clear q_kp
     obtain ⟨c_kp, f_kp, l_kp_W5⟩ := f3 kp
     replace o_kt := hf_W5.not_own (lt_of kt) o_kt
     clear kt c_kt f_kt; have kt := q_kt; clear q_kt
     obtain ⟨c_kt, f_kt, l_kt_W5⟩ := f3 kt
     replace hF := hF.trans hf_W5.widen
     have z_W5 := hf_W5.size
     clear hA hf_W5; have hA := hA_W5; clear hA_W5
     go_wp2_with fail
     refine calls_gen fun V5 hV_V5 => ?_
     replace ka := kK hV_V5 ka
     replace kp := kK hV_V5 kp
     replace kt := kK hV_V5 kt
     replace hF : Fr ((twoX W2.heap.size (W2.heap.size + 1))) O1 O2 wr V5 := nF hV_V5
     replace hA : AP V5 (.pointer q) r.2.2 O2 := nA hV_V5
     have z_V5 := zS hV_V5
     clear hV_V5 c_ka f_ka c_kp f_kp c_kt f_kt
     obtain ⟨c_ka, f_ka, l_ka_V5⟩ := f3 ka
     obtain ⟨c_kp, f_kp, l_kp_V5⟩ := f3 kp
     obtain ⟨c_kt, f_kt, l_kt_V5⟩ := f3 kt
     refine (next_t (W2.heap.size + 1) w.heap.size st.ok st.p.table r t Ht.out _ hA kt ka o_kt o_ka ne6).mono ?_
     rintro e_W6 W6 ⟨rfl, O3, hT_W6, hf_W6⟩
     have q_ka := hf_W6.keep ka o_ka (by unfold oneX; omega)
     have q_kp := hf_W6.keep kp o_kp (by unfold oneX; omega)
     replace o_ka := hf_W6.not_own (lt_of ka) o_ka
     clear ka; have ka := q_ka; clear q_ka
     obtain ⟨c_ka, f_ka, l_ka_W6⟩ := f3 ka
     replace o_kp := hf_W6.not_own (lt_of kp) o_kp
     clear kp; have kp := q_kp; clear q_kp
     obtain ⟨c_kp, f_kp, l_kp_W6⟩ := f3 kp
     clear kt c_kt f_kt o_kt; have kt := hT_W6.blk; have o_kt := hT_W6.no
     obtain ⟨c_kt, f_kt, l_kt_W6⟩ := f3 kt
     replace hF := hF.trans (hf_W6.mono (fun x h => Or.inr h))
     have z_W6 := hf_W6.size
     clear hA hf_W6; have hA := hT_W6.hA; clear hT_W6
     clear cd1 cd2
     go_wp2_with fail
     refine handed_gen fun V6 hV_V6 => ?_
     replace ka := kK hV_V6 ka
     replace kp := kK hV_V6 kp
     replace kt := kK hV_V6 kt
     replace hF : Fr ((twoX W2.heap.size (W2.heap.size + 1))) O1 O3 wr V6 := nF hV_V6
     replace hA : AP V6 (.pointer q) ((⟨t.2.2, 0⟩ : Tb)).s O3 := nA hV_V6
     have z_V6 := zS hV_V6
     clear hV_V6 c_ka f_ka c_kp f_kp c_kt f_kt
     obtain ⟨c_ka, f_ka, l_ka_V6⟩ := f3 ka
     obtain ⟨c_kp, f_kp, l_kp_V6⟩ := f3 kp
     obtain ⟨c_kt, f_kt, l_kt_V6⟩ := f3 kt
     have HF2 := Lib.hid (HF.out.trans_own hF hY)
     have hdoc2 := Lib.hid (hdoc.out.fr hF oD hX)
     have oD2 := hF.not_own (by have := HF.out.size; omega) oD
     go_roundg k
     case measure => omega
     case rel => exact ⟨i + 1, (⟨t.2.2, t.2.1, ⟨st.p.wave, st.p.marks, st.p.spots, t.1⟩, st.n⟩ : Bst), O3, by first | rfl | (rw [E3.out]; rfl), by omega, hA, HF2, kp, kt, ka, o_kp, o_kt, o_ka, oD2, hdoc2, Lib.hid (by exact Hb2.out)⟩
    ·
     obtain rfl : i = ds.length := by omega
     have hDlen : (docsM ds).length = ds.length := by unfold docsM; rw [List.length_map]
     have hb := Hb.out
     rw [List.drop_of_length_le (by omega)] at hb
     unfold bTable at hb
     obtain rfl := Option.some.inj hb
     have m1 : decide ((ds.length : Int) < (ds.length : Int)) = false := by simp
     have h3 := H3.out
     unfold bEnd at h3
     rw [ho2, if_pos rfl] at h3
     obtain ⟨t4, ht4⟩ : ∃ t, nextA true 0 (vMake st.s st.p) = t := ⟨_, rfl⟩
     rw [ht4] at h3
     dsimp only at h3
     obtain ⟨u, hu, h3⟩ := Option.map_eq_some_iff.1 h3
     rw [ho2] at kt
     have Hu := Lib.hid hu; have H3' := Lib.hid h3; have Ht4 := Lib.hid ht4
     have hok4 : t4.2.1 = true := congrArg (fun x => x.2.1) h3
     clear hb Hb hlt hk h3 hu ht4
     have hF := Fr.refl ((twoX W2.heap.size (W2.heap.size + 1))) O1 wr
     obtain ⟨c_ka, f_ka, l_ka_wr⟩ := f3 ka
     obtain ⟨c_kp, f_kp, l_kp_wr⟩ := f3 kp
     obtain ⟨c_kt, f_kt, l_kt_wr⟩ := f3 kt
     go_wp2_with fail
     refine calls_gen fun V4 hV_V4 => ?_
     replace ka := kK hV_V4 ka
     replace kp := kK hV_V4 kp
     replace kt := kK hV_V4 kt
     replace hF : Fr ((twoX W2.heap.size (W2.heap.size + 1))) O1 O1 wr V4 := nF hV_V4
     replace hA : AP V4 (.pointer q) st.s O1 := nA hV_V4
     have z_V4 := zS hV_V4
     clear hV_V4 c_ka f_ka c_kp f_kp c_kt f_kt
     obtain ⟨c_ka, f_ka, l_ka_V4⟩ := f3 ka
     obtain ⟨c_kp, f_kp, l_kp_V4⟩ := f3 kp
     obtain ⟨c_kt, f_kt, l_kt_V4⟩ := f3 kt
     refine (vMake_calls st.p _ hA).mono ?_
     rintro e_W5 W5 ⟨rfl, O2, hA_W5, hf_W5⟩
     have q_ka := hf_W5.keep ka o_ka (fun h => h)
     have q_kp := hf_W5.keep kp o_kp (fun h => h)
     have q_kt := hf_W5.keep kt o_kt (fun h => h)
     replace o_ka := hf_W5.not_own (lt_of ka) o_ka
     clear ka c_ka f_ka; have ka := q_ka; clear q_ka
     obtain ⟨c_ka, f_ka, l_ka_W5⟩ := f3 ka
     replace o_kp := hf_W5.not_own (lt_of kp) o_kp
     clear kp c_kp f_kp; have kp := q_kp; clear q_kp
     obtain ⟨c_kp, f_kp, l_kp_W5⟩ := f3 kp
     replace o_kt := hf_W5.not_own (lt_of kt) o_kt
     clear kt c_kt f_kt; have kt := q_kt; clear q_kt
     obtain ⟨c_kt, f_kt, l_kt_W5⟩ := f3 kt
     replace hF := hF.trans hf_W5.widen
     have z_W5 := hf_W5.size
     clear hA hf_W5; have hA := hA_W5; clear hA_W5
     go_wp2_with fail
     refine calls_gen fun V5 hV_V5 => ?_
     replace ka := kK hV_V5 ka
     replace kp := kK hV_V5 kp
     replace kt := kK hV_V5 kt
     replace hF : Fr ((twoX W2.heap.size (W2.heap.size + 1))) O1 O2 wr V5 := nF hV_V5
     replace hA : AP V5 (.pointer q) ((vMake st.s st.p).2.2) O2 := nA hV_V5
     have z_V5 := zS hV_V5
     clear hV_V5 c_ka f_ka c_kp f_kp c_kt f_kt
     obtain ⟨c_ka, f_ka, l_ka_V5⟩ := f3 ka
     obtain ⟨c_kp, f_kp, l_kp_V5⟩ := f3 kp
     obtain ⟨c_kt, f_kt, l_kt_V5⟩ := f3 kt
     refine (next_t (W2.heap.size + 1) w.heap.size true 0 (vMake st.s st.p) t4 Ht4.out _ hA kt ka o_kt o_ka ne6).mono ?_
     rintro e_W6 W6 ⟨rfl, O3, hT_W6, hf_W6⟩
     have q_ka := hf_W6.keep ka o_ka (by unfold oneX; omega)
     have q_kp := hf_W6.keep kp o_kp (by unfold oneX; omega)
     replace o_ka := hf_W6.not_own (lt_of ka) o_ka
     clear ka; have ka := q_ka; clear q_ka
     obtain ⟨c_ka, f_ka, l_ka_W6⟩ := f3 ka
     replace o_kp := hf_W6.not_own (lt_of kp) o_kp
     clear kp; have kp := q_kp; clear q_kp
     obtain ⟨c_kp, f_kp, l_kp_W6⟩ := f3 kp
     clear kt c_kt f_kt o_kt; have kt := hT_W6.blk; have o_kt := hT_W6.no
     obtain ⟨c_kt, f_kt, l_kt_W6⟩ := f3 kt
     replace hF := hF.trans (hf_W6.mono (fun x h => Or.inr h))
     have z_W6 := hf_W6.size
     clear hA hf_W6; have hA := hT_W6.hA; clear hT_W6
     rw [hok4] at kt
     go_wp2_with fail
     refine wp_gen fun V6 hV_V6 => ?_
     have n_kl := hbk hV_V6 (W6.heap.size)
     simp (maxDischargeDepth := 9) only [BK, not_false_eq_true, reduceCtorEq, ka, kp, kt, l_ka_wr, l_kp_wr, l_kt_wr, ne5, ne6, l_ka_V4, l_kp_V4, l_kt_V4, l_ka_W5, l_kp_W5, l_kt_W5, l_ka_V5, l_kp_V5, l_kt_V5, l_ka_W6, l_kp_W6, l_kt_W6] at n_kl
     have o_kl : ¬ O3 (W6.heap.size) := by first | exact hA.new (Nat.le_refl _) | exact hA.new (by omega)
     replace ka := kK hV_V6 ka
     replace kp := kK hV_V6 kp
     replace kt := kK hV_V6 kt
     replace hF : Fr ((twoX W2.heap.size (W2.heap.size + 1))) O1 O3 wr V6 := nF hV_V6
     replace hA : AP V6 (.pointer q) ((⟨t4.2.2, 0⟩ : Tb)).s O3 := nA hV_V6
     have z_V6 := zS hV_V6
     clear hV_V6 c_ka f_ka c_kp f_kp c_kt f_kt
     obtain ⟨c_ka, f_ka, l_ka_V6⟩ := f3 ka
     obtain ⟨c_kp, f_kp, l_kp_V6⟩ := f3 kp
     obtain ⟨c_kt, f_kt, l_kt_V6⟩ := f3 kt
     have kl := n_kl; clear n_kl
     obtain ⟨c_kl, f_kl, l_kl_V6⟩ := f3 kl
     have HF6 := Lib.hid (HF.out.trans_own hF hY)
     have HA6 := Lib.hid hA
     have ka2 := ka; have kt2 := kt; have o_ka2 := o_ka; have o_kt2 := o_kt
     clear hA hF HF kp c_kp f_kp o_kp ka c_ka f_ka kt c_kt f_kt o_ka o_kt c_kl f_kl
     go_loopw [171] (fun y w3 => ∃ i : Nat, i ≤ 4 ∧ y = .int .i64 i ∧ ∃ O', AP w3 (.pointer q) ([st.p.wave, st.p.marks, st.p.spots, st.p.table].take i |>.foldl dropP t4.2.2) O' ∧ Fr noX O O' w w3 ∧ w3.heap[W6.heap.size]? = some (.cells #[.int .i64 st.p.wave, .int .i64 st.p.marks, .int .i64 st.p.spots, .int .i64 st.p.table] 3 (0, 0)) ∧ w3.heap[w.heap.size]? = some (.cells #[.pointer q] 25 (0, 0)) ∧ w3.heap[W2.heap.size + 1]? = some (.cells #[.bool true] 4 (0, 0)) ∧ ¬ O' W6.heap.size ∧ ¬ O' w.heap.size ∧ ¬ O' (W2.heap.size + 1)) (fun y _ => 4 - (intOf y).toNat)
     case atStart => exact ⟨0, by omega, rfl, _, HA6.out, HF6.out, kl, ka2, kt2, o_kl, o_ka2, o_kt2⟩
     case round =>
      clear HA6 HF6 kl ka2 kt2 o_kl o_ka2 o_kt2
      obtain ⟨i, hi, rfl, O', hA', hF', kl, ka2, kt2, o_kl, o_ka2, o_kt2⟩ := hrel
      have c_kl := cells_of kl
      rcases (show i = 0 ∨ i = 1 ∨ i = 2 ∨ i = 3 ∨ i = 4 by omega) with rfl | rfl | rfl | rfl | rfl
      ·
       have HA := Lib.hid hA'; have HF5 := Lib.hid hF'; clear hA' hF'
       by_cases hz : st.p.wave = 0
       ·
        have z1 : (st.p.wave != 0) = false := by simp [hz]
        have hd : Hid ((dropP t4.2.2 st.p.wave) = t4.2.2) := Lib.hid (by show dropP _ _ = _; unfold dropP; rw [if_pos hz])
        clear hz
        go_wp2_with fail
        go_roundw
        case rel => exact ⟨1, by omega, rfl, O', by show AP wr (.pointer q) (dropP t4.2.2 st.p.wave) O'; rw [hd.out]; exact HA.out, HF5.out, kl, ka2, kt2, o_kl, o_ka2, o_kt2⟩
        case measure => simp [intOf]
       ·
        have z1 : (st.p.wave != 0) = true := by simp [hz]
        have hd : Hid ((dropP t4.2.2 st.p.wave) = (t4.2.2).drop st.p.wave) := Lib.hid (by show dropP _ _ = _; unfold dropP; rw [if_neg hz])
        clear hz
        have c_ka2 := cells_of ka2
        go_wp2_with fail
        refine (drop_calls _ _ HA.out).mono ?_
        rintro e1 w1 ⟨rfl, O3, hA1, hf1⟩
        go_wp2_with fail
        go_roundw
        case rel => exact ⟨1, by omega, rfl, O3, by show AP w1 (.pointer q) (dropP t4.2.2 st.p.wave) O3; rw [hd.out]; exact hA1, HF5.out.trans hf1.widen, hf1.keep kl o_kl (fun h => h), hf1.keep ka2 o_ka2 (fun h => h), hf1.keep kt2 o_kt2 (fun h => h), hf1.not_own (lt_of kl) o_kl, hf1.not_own (lt_of ka2) o_ka2, hf1.not_own (lt_of kt2) o_kt2⟩
        case measure => simp [intOf]
      ·
       have HA := Lib.hid hA'; have HF5 := Lib.hid hF'; clear hA' hF'
       by_cases hz : st.p.marks = 0
       ·
        have z1 : (st.p.marks != 0) = false := by simp [hz]
        have hd : Hid ((dropP (dropP t4.2.2 st.p.wave) st.p.marks) = (dropP t4.2.2 st.p.wave)) := Lib.hid (by show dropP _ _ = _; unfold dropP; rw [if_pos hz])
        clear hz
        go_wp2_with fail
        go_roundw
        case rel => exact ⟨2, by omega, rfl, O', by show AP wr (.pointer q) (dropP (dropP t4.2.2 st.p.wave) st.p.marks) O'; rw [hd.out]; exact HA.out, HF5.out, kl, ka2, kt2, o_kl, o_ka2, o_kt2⟩
        case measure => simp [intOf]
       ·
        have z1 : (st.p.marks != 0) = true := by simp [hz]
        have hd : Hid ((dropP (dropP t4.2.2 st.p.wave) st.p.marks) = ((dropP t4.2.2 st.p.wave)).drop st.p.marks) := Lib.hid (by show dropP _ _ = _; unfold dropP; rw [if_neg hz])
        clear hz
        have c_ka2 := cells_of ka2
        go_wp2_with fail
        refine (drop_calls _ _ HA.out).mono ?_
        rintro e1 w1 ⟨rfl, O3, hA1, hf1⟩
        go_wp2_with fail
        go_roundw
        case rel => exact ⟨2, by omega, rfl, O3, by show AP w1 (.pointer q) (dropP (dropP t4.2.2 st.p.wave) st.p.marks) O3; rw [hd.out]; exact hA1, HF5.out.trans hf1.widen, hf1.keep kl o_kl (fun h => h), hf1.keep ka2 o_ka2 (fun h => h), hf1.keep kt2 o_kt2 (fun h => h), hf1.not_own (lt_of kl) o_kl, hf1.not_own (lt_of ka2) o_ka2, hf1.not_own (lt_of kt2) o_kt2⟩
        case measure => simp [intOf]
      ·
       have HA := Lib.hid hA'; have HF5 := Lib.hid hF'; clear hA' hF'
       by_cases hz : st.p.spots = 0
       ·
        have z1 : (st.p.spots != 0) = false := by simp [hz]
        have hd : Hid ((dropP (dropP (dropP t4.2.2 st.p.wave) st.p.marks) st.p.spots) = (dropP (dropP t4.2.2 st.p.wave) st.p.marks)) := Lib.hid (by show dropP _ _ = _; unfold dropP; rw [if_pos hz])
        clear hz
        go_wp2_with fail
        go_roundw
        case rel => exact ⟨3, by omega, rfl, O', by show AP wr (.pointer q) (dropP (dropP (dropP t4.2.2 st.p.wave) st.p.marks) st.p.spots) O'; rw [hd.out]; exact HA.out, HF5.out, kl, ka2, kt2, o_kl, o_ka2, o_kt2⟩
        case measure => simp [intOf]
       ·
        have z1 : (st.p.spots != 0) = true := by simp [hz]
        have hd : Hid ((dropP (dropP (dropP t4.2.2 st.p.wave) st.p.marks) st.p.spots) = ((dropP (dropP t4.2.2 st.p.wave) st.p.marks)).drop st.p.spots) := Lib.hid (by show dropP _ _ = _; unfold dropP; rw [if_neg hz])
        clear hz
        have c_ka2 := cells_of ka2
        go_wp2_with fail
        refine (drop_calls _ _ HA.out).mono ?_
        rintro e1 w1 ⟨rfl, O3, hA1, hf1⟩
        go_wp2_with fail
        go_roundw
        case rel => exact ⟨3, by omega, rfl, O3, by show AP w1 (.pointer q) (dropP (dropP (dropP t4.2.2 st.p.wave) st.p.marks) st.p.spots) O3; rw [hd.out]; exact hA1, HF5.out.trans hf1.widen, hf1.keep kl o_kl (fun h => h), hf1.keep ka2 o_ka2 (fun h => h), hf1.keep kt2 o_kt2 (fun h => h), hf1.not_own (lt_of kl) o_kl, hf1.not_own (lt_of ka2) o_ka2, hf1.not_own (lt_of kt2) o_kt2⟩
        case measure => simp [intOf]
      ·
       have HA := Lib.hid hA'; have HF5 := Lib.hid hF'; clear hA' hF'
       by_cases hz : st.p.table = 0
       ·
        have z1 : (st.p.table != 0) = false := by simp [hz]
        have hd : Hid ((dropP (dropP (dropP (dropP t4.2.2 st.p.wave) st.p.marks) st.p.spots) st.p.table) = (dropP (dropP (dropP t4.2.2 st.p.wave) st.p.marks) st.p.spots)) := Lib.hid (by show dropP _ _ = _; unfold dropP; rw [if_pos hz])
        clear hz
        go_wp2_with fail
        go_roundw
        case rel => exact ⟨4, by omega, rfl, O', by show AP wr (.pointer q) (dropP (dropP (dropP (dropP t4.2.2 st.p.wave) st.p.marks) st.p.spots) st.p.table) O'; rw [hd.out]; exact HA.out, HF5.out, kl, ka2, kt2, o_kl, o_ka2, o_kt2⟩
        case measure => simp [intOf]
       ·
        have z1 : (st.p.table != 0) = true := by simp [hz]
        have hd : Hid ((dropP (dropP (dropP (dropP t4.2.2 st.p.wave) st.p.marks) st.p.spots) st.p.table) = ((dropP (dropP (dropP t4.2.2 st.p.wave) st.p.marks) st.p.spots)).drop st.p.table) := Lib.hid (by show dropP _ _ = _; unfold dropP; rw [if_neg hz])
        clear hz
        have c_ka2 := cells_of ka2
        go_wp2_with fail
        refine (drop_calls _ _ HA.out).mono ?_
        rintro e1 w1 ⟨rfl, O3, hA1, hf1⟩
        go_wp2_with fail
        go_roundw
        case rel => exact ⟨4, by omega, rfl, O3, by show AP w1 (.pointer q) (dropP (dropP (dropP (dropP t4.2.2 st.p.wave) st.p.marks) st.p.spots) st.p.table) O3; rw [hd.out]; exact hA1, HF5.out.trans hf1.widen, hf1.keep kl o_kl (fun h => h), hf1.keep ka2 o_ka2 (fun h => h), hf1.keep kt2 o_kt2 (fun h => h), hf1.not_own (lt_of kl) o_kl, hf1.not_own (lt_of ka2) o_ka2, hf1.not_own (lt_of kt2) o_kt2⟩
        case measure => simp [intOf]
      ·
       have HA := Lib.hid hA'; have HF5 := Lib.hid hF'; clear hA' hF' c_kl
       have hA7 : AP wr (.pointer q) (dropP (dropP (dropP (dropP t4.2.2 st.p.wave) st.p.marks) st.p.spots) st.p.table) O' := HA.out
       have HA7 := Lib.hid hA7; clear hA7 HA
       have c_ka2 := cells_of ka2
       have hlast : root = t4.1 ∧ s' = u.2 := by
        have h3 := H3'.out
        rw [hok4] at h3
        simp only [Bool.true_eq_false, false_and, if_false, Prod.mk.injEq] at h3
        exact ⟨h3.1.symm, h3.2.2.symm⟩
       obtain ⟨rfl, rfl⟩ := hlast
       go_wp2_with fail
       refine (work_calls 1073741824 u Hu.out _ HA7.out).mono ?_
       rintro e8 W8 ⟨rfl, O8, hA8, hf8⟩
       have kt8 := hf8.keep kt2 o_kt2 (fun h => h)
       have c_kt8 := cells_of kt8
       have HA8 := Lib.hid hA8
       have HF8 := Lib.hid (HF5.out.trans hf8)
       clear hA8 hf8
       have hA := HA8.out
       clear c_kt8 c_ka2
       have hF := Fr.refl (noX) O8 W8
       obtain ⟨c_kt8, f_kt8, l_kt8_W8⟩ := f3 kt8
       go_wp2_with fail
       refine wp_gen fun V9 hV_V9 => ?_
       replace kt8 := kK hV_V9 kt8
       replace hF : Fr (noX) O8 O8 W8 V9 := nF hV_V9
       replace hA : AP V9 (.pointer q) u.2 O8 := nA hV_V9
       have z_V9 := zS hV_V9
       clear hV_V9 c_kt8 f_kt8
       obtain ⟨c_kt8, f_kt8, l_kt8_V9⟩ := f3 kt8
       refine wp_region_noPanic ?_
       refine wp_region_held_drew (S := fun v => (∀ o, v.cell? ⟨W2.heap.size + 1, o, none⟩ = V9.cell? ⟨W2.heap.size + 1, o, none⟩) ∧ (V9.heap.size ≤ v.heap.size) ∧ AP v (.pointer q) u.2 O8) (by kernel_rfl) ⟨(fun _ => rfl), (Nat.le_refl _), hA.drew⟩ (fun hHeld => ?_)
       generalize hV_V9d : V9.drew = V9d at hHeld ⊢
       have d_kt8 := dK hV_V9d kt8
       clear c_kt8 f_kt8
       replace hA := hA.drew; rw [hV_V9d] at hA
       replace hF := hF.drew; rw [hV_V9d] at hF
       have z_V9d := dZ hV_V9d
       have v_kt8 := cells_of kt8
       clear kt8; have kt8 := d_kt8; clear d_kt8
       obtain ⟨c_kt8, f_kt8, l_kt8_V9d⟩ := f3 kt8
       clear hV_V9d
       refine tz 0 rfl hHeld ?_
       try simp only [PT]
       refine tz 1 rfl hHeld ?_
       try simp only [PT]
       refine rd 2 rfl fun K hK => ?_
       go_simp
       refine hK.out _ _ hHeld (fun hHeld => ?_)
       clear hK K
       try simp only [PT]
       refine rd 3 rfl fun K hK => ?_
       go_simp
       refine hK.out _ _ hHeld (fun hHeld => ?_)
       clear hK K
       try simp only [PT]
       refine wpAnyH_done (by kernel_rfl) ?_ _
       refine NoPanic.normal ?_
       have HFF := Lib.hid (HF8.out.trans hF)
       have HAA := Lib.hid hA
       clear hF hA
       go_wp2_with fail
       go_ret2
       exact ⟨rfl, O8, HAA.out, HFF.out⟩
end Go.Proofs.Ytpdpcgmkpgfblaa
/- The version of documents that may be, built in a great arena; what is told of it; no program here but Build. -/
namespace Go.Proofs.Ytpdpcgmkpgfblaa
set_option linter.unusedSimpArgs false
set_option linter.unusedVariables false
set_option linter.unnecessarySimpa false
open Go.RowKit
attribute [local go_sem ↓] Go.wp_at_zero Go.wp_at_succ
attribute [local go_sem] str_len
/-- What is told of the version of documents. -/
structure Told (s : Ar) (root : Int) (ds : Docs) : Prop where
  text : ∀ id, pText s root id = some (match placeD ds id with | none => ([], false) | some k => ((ds.getD k (0, [])).2, true))
  all : lAll s (vOf s root).table = some (docsM ds)
  len : lLen s (vOf s root).table ≤ 50000
  rows : vRows s root = tot ds + ds.length
  docs : vDocs s root = ds.length
theorem VR.told {s : Ar} {H : List Int} (hI : Inv s H) {h : Int} {ds : Docs} {rate : Int} (hv : VR s h ds rate) (hR : Right ds) : Told s h ds := by
  have hl := hR.len
  refine ⟨hv.text hI hR, hv.all hI (by omega), ?_, by rw [hv.rows hI (by omega), rows_tot hR]; omega, hv.docs hI (by omega)⟩
  rw [(hv.parts hI (by omega)).2.2.2.1.len hI]; unfold docsM; simp; omega
theorem placeD_at {ds : Docs} (h : Right ds) {j : Nat} {d : Int × List UInt8} (hd : ds[j]? = some d) : placeD ds d.1 = some j := by
  obtain ⟨hj, rfl⟩ := List.getElem?_eq_some_iff.1 hd
  refine List.findIdx?_eq_some_iff_getElem.2 ⟨hj, by simp, fun i hi => ?_⟩
  have := List.pairwise_iff_getElem.1 h.nodup i j (by simp; omega) (by simp; omega) hi
  simpa using this
theorem Told.at {s : Ar} {root : Int} {ds : Docs} (t : Told s root ds) (h : Right ds) {j : Nat} {d : Int × List UInt8} (hd : ds[j]? = some d) : pText s root d.1 = some (d.2, true) := by
  rw [t.text, placeD_at h hd]
  simp [List.getD, hd]
variable {ap : Value} {O : Nat → Prop}
set_option maxHeartbeats 1000000 in
theorem bld_calls (rate : Int) (hr1 : 1 ≤ rate) (hr2 : rate ≤ 1000) (ds : Docs) (hR : Right ds) (htot : tot ds ≤ 60) (hne : ds ≠ []) (ad : Addr) (cap : Nat) (w : World) (hD : Rd2 w (.slice (some ad) ds.length cap) ds) (hO : ¬ O ad.block) (hA : AP w ap (Ar.new 6000) O) :
    Calls Try.prog 9 #[ap, .int .i64 rate, .slice (some ad) ds.length cap] w fun e w' => ∃ root s' O', e = .returned (.tuple #[.int .i64 root, .bool true]) ∧ AP w' ap s' O' ∧ Fr noX O O' w w' ∧ Told s' root ds := by
  have hl := hR.len
  obtain ⟨B1, B2, root, s', h1, o1, h2, o2, h3, hI, -, -, hv⟩ := build_parts (Inv.new 6000 (by omega)) rfl hR hne rate (by show 10000 + 160 * (tot ds + ds.length) ≤ 8 * 6000; omega)
  refine (build_calls rate hr1 hr2 ds ad cap hne hR.right w hD hO hA B1 B2 h1 o1 h2 o2 root s' h3).mono ?_
  rintro e w' ⟨he, O', a, b⟩
  exact ⟨root, s', O', he, a, b, hv.told hI hR⟩
set_option maxRecDepth 100000 in
set_option maxHeartbeats 2000000 in
/-- Build of no documents. -/
theorem bldnil_calls (q : Option Addr) (rate : Int) (A : Option Addr) (n cap : Nat) (hn : ((n : Int) == 0) = true) (w : World) :
    Calls Try.prog 9 #[.pointer q, .int .i64 rate, .slice A n cap] w fun e w' => e = .returned (.tuple #[.int .i64 0, .bool true]) ∧ Below w.heap.size w w' := by
  go_enter Try.func9, Try.ntmps9
  go_wp2_with fail
  go_ret2
  exact ⟨rfl, (Below.refl w.heap.size w).alloc (Nat.le_refl _) _⟩
/-- The number of one of n, whatever is asked for. -/
theorem pick_at (i : Int) (n : Nat) (hn : 0 < n) : -(n : Int) ≤ i.tmod (n : Int) ∧ i.tmod (n : Int) < n ∧ ∃ K : Nat, (i.tmod (n : Int) + n) % (n : Int) = (K : Int) ∧ K < n := by
  have h := Int.tmod_lt_of_pos i (show (0:Int) < (n : Int) by omega)
  have h2 := Int.tmod_lt_of_pos (-i) (show (0:Int) < (n : Int) by omega)
  rw [Int.neg_tmod] at h2
  have h3 := Int.emod_nonneg (i.tmod (n : Int) + n) (show (n : Int) ≠ 0 by omega)
  have h4 := Int.emod_lt_of_pos (i.tmod (n : Int) + n) (show (0:Int) < (n : Int) by omega)
  exact ⟨by omega, h, ((i.tmod (n : Int) + n) % (n : Int)).toNat, by omega, by omega⟩
end Go.Proofs.Ytpdpcgmkpgfblaa
/- An argument of documents, opened. -/
namespace Go.Proofs.Ytpdpcgmkpgfblaa
set_option linter.unusedSimpArgs false
set_option linter.unusedVariables false
set_option linter.unnecessarySimpa false
open Go.RowKit Go.ChangeShapes Go.WideShapes Go.Deep
section
variable {H : Type} {enc : TypeId × Value → H} {P : Program} {w : World} {base : Nat} {spare : Nat → Bool} {held : Bool}
theorem open_slice_fields {t e : TypeId} {fs : Array Field} {fuel : Nat} {cs : List Value} {x : DataW H × List MemPlace} (ht : P.underlying t = some (.slice e)) (he : P.underlying e = some (.struct fs))
    (hone : oneCellFields P fs = true) (hC : P.cellsOf e = fs.size) (h : DataW.trod enc P w base spare held fuel t cs = some x) :
    (cs = [.slice none 0 0] ∧ x = (.nil, [])) ∨
    ∃ (a : Addr) (len cap m : Nat) (D : Nat → DataW H) (Pl : Nat → List MemPlace), cs = [.slice (some a) len cap] ∧ base ≤ a.block ∧ len ≤ cap ∧ cap ≤ maxLen ∧ m = (if spare a.block then cap else len) ∧
      x = (.slice ((List.range len).map D) ((List.range (m - len)).map fun j => D (len + j)), MemPlace.row a (m * fs.size) ++ (List.range m).flatMap Pl) ∧
      ∀ i, i < m → ∃ (ys : List (DataW H × List MemPlace)) (n : Nat), D i = .agg (ys.map (·.1)) ∧ Pl i = ys.flatMap (·.2) ∧ ys.length = fs.size ∧
        ∀ (j : Nat) (f : Field), fs[j]? = some f → ∃ (v : Value) (y : DataW H × List MemPlace), w.cell? (a.add (i * fs.size + j)) = some v ∧ ys[j]? = some y ∧ DataW.trod enc P w base spare held n f.type [v] = some y := by
  rcases open_slice ht h with h0 | ⟨a, len, cap, m, n, D, Pl, hcs, hb, hl, hm, hmm, hx, hi⟩
  · exact .inl h0
  · refine .inr ⟨a, len, cap, m, D, Pl, hcs, hb, hl, hm, hmm, by rw [hC] at hx; exact hx, fun i him => ?_⟩
    obtain ⟨cs', hc, ht'⟩ := hi i him
    rw [hC] at hc
    obtain ⟨ys, n', hn', hy, hlen, hyl, hf⟩ := DataW.trod_struct he ht'
    obtain ⟨_, hcl, hat⟩ := World.cells?_some hc
    simp only [Prod.mk.injEq] at hy
    refine ⟨ys, n', hy.1, hy.2, hyl, fun j f hj => ?_⟩
    obtain ⟨ho, hk⟩ := hone_of hone j f hj
    have hjl : j < fs.size := (Array.getElem?_eq_some_iff.1 hj).1
    have hcell := hat j hjl
    have hv : cs'[j]? = some (cs'[j]'(by omega)) := List.getElem?_eq_getElem (by omega)
    have h1 := hf j f hj
    rw [ho, hk] at h1
    have hone' : (cs'.drop j).take 1 = [cs'[j]'(by omega)] := by
      rw [List.drop_eq_getElem_cons (by omega)]
      rfl
    rw [hone'] at h1
    have hys : ys[j]? = some (ys[j]'(by omega)) := List.getElem?_eq_getElem (by omega)
    refine ⟨_, _, ?_, hys, h1.trans hys⟩
    rw [← Go.Deep.add_add, hcell, hv]
end
/-- Numbers that a 64-bit int holds. -/
def IdOk (ds : List (Int × List UInt8)) : Prop := ∀ d ∈ ds, (Lit.int .i64 d.1).wf = true
theorem str_of (s : ByteArray) : Value.string s = strOf s.data.toList := by unfold strOf; cases s; rfl
theorem add_one (a : Addr) (n : Nat) : (⟨(a.add n).block, (a.add n).off + 1, none⟩ : Addr) = a.add (n + 1) := by
  unfold Addr.add
  rw [if_neg (by omega : ¬ n + 1 = 0)]
  split
  · rename_i h; subst h; rfl
  · rfl
theorem read_docs {H : Type} {enc : TypeId × Value → H} {P : Program} {w : World} {held : Bool} {t e : TypeId} {f0 f1 : Field} {A : Option Addr} {len cap : Nat} {d : DataW H} {p : List MemPlace}
    (ht : P.underlying t = some (.slice e)) (he : P.underlying e = some (.struct #[f0, f1])) (hone : oneCellFields P #[f0, f1] = true) (hC : P.cellsOf e = 2) (h0 : P.underlying f0.type = some (.int .i64)) (h1 : P.underlying f1.type = some .string)
    (h : DataW.Trod enc P w 0 (fun _ => true) held t (.slice A len cap) d p) : ∃ ds : List (Int × List UInt8), ds.length = len ∧ ds.length ≤ maxLen ∧ Rd2 w (.slice A len cap) ds ∧ IdOk ds := by
  obtain ⟨m, hm⟩ := h
  have hlt := DataW.trod_lt m _ _ _ hm
  simp only [Value.cells] at hm
  rcases open_slice_fields ht he hone hC hm with ⟨hc, -⟩ | ⟨a, l', c', m', D, Pl, hc, -, hl, hcm, hmm, hx, hi⟩
  · simp only [List.cons.injEq, Value.slice.injEq, and_true] at hc
    obtain ⟨rfl, rfl, rfl⟩ := hc
    exact ⟨[], rfl, by simp, ⟨none, 0, rfl, fun h => absurd h (by simp)⟩, fun d hd => by cases hd⟩
  · simp only [List.cons.injEq, Value.slice.injEq, and_true] at hc
    obtain ⟨rfl, rfl, rfl⟩ := hc
    have hmc : len ≤ m' := by rw [hmm]; split <;> omega
    have key : ∀ i, i < len → ∃ x : Int × List UInt8, (a.add (i * 2)).block < w.heap.size ∧ w.cell? (a.add (i * 2)) = some (.int .i64 x.1) ∧ w.cell? ⟨(a.add (i * 2)).block, (a.add (i * 2)).off + 1, none⟩ = some (strOf x.2) ∧ (Lit.int .i64 x.1).wf = true := by
      intro i hil
      obtain ⟨ys, n, -, -, -, hf⟩ := hi i (by omega)
      obtain ⟨v0, y0, c0, -, t0⟩ := hf 0 f0 rfl
      obtain ⟨v1, y1, c1, -, t1⟩ := hf 1 f1 rfl
      obtain ⟨x0, e0, -, w0⟩ := DataW.trod_int h0 t0
      obtain ⟨x1, e1, -, -⟩ := DataW.trod_string h1 t1
      simp only [List.cons.injEq, and_true] at e0 e1
      subst e0 e1
      refine ⟨(x0, x1.data.toList), ?_, c0, ?_, w0⟩
      · exact World.block_lt_of_cell? w _ c0
      · rw [← str_of, add_one]; exact c1
    have hget : ∀ i, (h : i < len) → ((List.range len).map fun i => if h : i < len then (key i h).choose else ((0 : Int), ([] : List UInt8)))[i]? = some (key i h).choose := fun i h => by
      rw [List.getElem?_map, List.getElem?_range h, Option.map_some, dif_pos h]
    have hlen : ((List.range len).map fun i => if h : i < len then (key i h).choose else ((0 : Int), ([] : List UInt8))).length = len := by simp
    refine ⟨_, hlen, by rw [hlen]; omega, ⟨some a, cap, by rw [hlen], fun hn => ⟨a, rfl, ?_, fun i d hd => ?_⟩⟩, fun d hd => ?_⟩
    · rw [hlen] at hn
      have := (key 0 hn).choose_spec.1
      simpa [Addr.add] using this
    · have hil : i < len := by rw [← hlen]; exact (List.getElem?_eq_some_iff.1 hd).1
      rw [hget i hil] at hd
      obtain rfl := Option.some.inj hd
      obtain ⟨a1, a2, a3, -⟩ := (key i hil).choose_spec
      exact ⟨a1, a2, a3⟩
    · obtain ⟨i, hi⟩ := List.getElem?_of_mem hd
      have hil : i < len := by rw [← hlen]; exact (List.getElem?_eq_some_iff.1 hi).1
      rw [hget i hil] at hi
      obtain rfl := Option.some.inj hi
      exact (key i hil).choose_spec.2.2.2
end Go.Proofs.Ytpdpcgmkpgfblaa
/- Walks: small whole numbers as floats; a step; where a walk goes. -/
namespace Go.Proofs.Ytpdpcgmkpgfblaa
set_option linter.unusedSimpArgs false
set_option linter.unusedVariables false
set_option linter.unnecessarySimpa false
open Go.RowKit
attribute [local go_sem ↓] Go.wp_at_zero Go.wp_at_succ
/-- A whole number as a float. -/
def zb (i : Int) : Nat := FloatKind.f64.nearest i
theorem zb_all (P : Int → Bool) (h : (List.range 100).all (fun i => P ((i : Int) - 50)) = true) (i : Int) (h1 : -50 ≤ i) (h2 : i < 50) : P i = true := by
  rw [List.all_eq_true] at h
  have := h (i + 50).toNat (List.mem_range.2 (by omega))
  rw [show (((i + 50).toNat : Nat) : Int) - 50 = i by omega] at this
  exact this
theorem zb_add1 (i : Int) (h1 : -50 ≤ i) (h2 : i < 50) : FloatKind.f64.format.add (zb i) (zb 1) = some (zb (i + 1)) := by
  have := zb_all (fun i => FloatKind.f64.format.add (zb i) (zb 1) == some (zb (i + 1))) (by decide +kernel) i h1 h2
  simpa using this
theorem zb_addm (i : Int) (h1 : -50 ≤ i) (h2 : i < 50) : FloatKind.f64.format.add (zb i) (zb (-1)) = some (zb (i - 1)) := by
  have := zb_all (fun i => FloatKind.f64.format.add (zb i) (zb (-1)) == some (zb (i - 1))) (by decide +kernel) i h1 h2
  simpa using this
theorem zb_add0 (i : Int) (h1 : -50 ≤ i) (h2 : i < 50) : FloatKind.f64.format.add (zb i) (zb 0) = some (zb i) := by
  have := zb_all (fun i => FloatKind.f64.format.add (zb i) (zb 0) == some (zb i)) (by decide +kernel) i h1 h2
  simpa using this
theorem zb_eq0 (i : Int) (h1 : -50 ≤ i) (h2 : i < 50) : (FloatKind.f64.format.order (zb i) 0 == some .eq) = decide (i = 0) := by
  have := zb_all (fun i => (FloatKind.f64.format.order (zb i) 0 == some .eq) == decide (i = 0)) (by decide +kernel) i h1 h2
  simpa using this
theorem zb_zero : zb 0 = 0 := by decide +kernel
theorem run_real (a b : Nat) (w : World) : (Builtin.real_ #[34] 74 #[.complex .f64 a b]).run Try.prog w = .ok (.float .f64 a) w := by kernel_rfl
theorem run_imag (a b : Nat) (w : World) : (Builtin.imag_ #[34] 74 #[.complex .f64 a b]).run Try.prog w = .ok (.float .f64 b) w := by kernel_rfl
theorem run_cplx (a b : Nat) (w : World) : (Builtin.complex_ #[74, 74] 34 #[.float .f64 a, .float .f64 b]).run Try.prog w = .ok (.complex .f64 a b) w := by kernel_rfl
theorem run_feq (a b : Nat) (w : World) : (binOp BinOp.eql 74 (.float .f64 a) (.float .f64 b)).run Try.prog w = .ok (.bool (FloatKind.f64.format.order a b == some .eq)) w := by kernel_rfl
theorem run_neg1 (w : World) : (Op.unary UnOp.neg (.float .f64 4607182418800017408)).run Try.prog w = .ok (.float .f64 13830554455654793216) w := by kernel_rfl
theorem run_neg0 (w : World) : (Op.unary UnOp.neg (.float .f64 0)).run Try.prog w = .ok (.float .f64 9223372036854775808) w := by kernel_rfl
attribute [local go_sem] run_real run_imag run_cplx run_feq run_neg1 run_neg0
theorem and_three (b : UInt8) : bits BinOp.and IntKind.i64 (b.toNat : Int) 3 = ((b.toNat % 4 : Nat) : Int) := by
  have h : (List.range 256).all (fun n => bits BinOp.and IntKind.i64 (n : Int) 3 == ((n % 4 : Nat) : Int)) = true := by decide +kernel
  rw [List.all_eq_true] at h
  have := h b.toNat (List.mem_range.2 b.toNat_lt)
  simpa using this
set_option maxHeartbeats 400000 in
theorem plain_calls (f : Nat) (w : World) : Calls Try.prog 102 #[.float .f64 f] w fun e w' => e = .returned (.float .f64 (if FloatKind.f64.format.order f 0 = some .eq then 0 else f)) ∧ w = w' := by
  by_cases h : FloatKind.f64.format.order f 0 = some .eq
  · rw [if_pos h]
    go_enter Try.func102, Try.ntmps102
    go_wp2_with fail
    go_ret
    exact ⟨rfl, rfl⟩
  · rw [if_neg h]
    have hf : (FloatKind.f64.format.order f 0 == some .eq) = false := by simpa using h
    clear h
    go_enter Try.func102, Try.ntmps102
    go_wp2_with fail
    go_ret
    exact ⟨rfl, rfl⟩
theorem plain_z (i : Int) (h1 : -50 ≤ i) (h2 : i < 50) (w : World) : Calls Try.prog 102 #[.float .f64 (zb i)] w fun e w' => e = .returned (.float .f64 (zb i)) ∧ w = w' := by
  refine (plain_calls (zb i) w).mono ?_
  rintro e w' ⟨rfl, rfl⟩
  have h3 := zb_eq0 i h1 h2
  by_cases h : i = 0
  · subst h; exact ⟨by simp [zb_zero], rfl⟩
  · rw [if_neg (by intro h4; rw [h4] at h3; simp [h] at h3)]; exact ⟨rfl, rfl⟩
set_option maxRecDepth 100000 in
set_option maxHeartbeats 800000 in
theorem turn_z (x y : Int) (hx : -50 ≤ x ∧ x < 50) (hy : -50 ≤ y ∧ y < 50) (w : World) : Calls Try.prog 90 #[.complex .f64 (zb x) (zb y), .int .i64 0] w fun e w' => e = .returned (.complex .f64 (zb x) (zb y)) ∧ w = w' := by
  go_enter Try.func90, Try.ntmps90
  go_wp2_with fail
  refine (plain_z x hx.1 hx.2 _).mono ?_
  rintro e1 w1 ⟨rfl, rfl⟩
  go_wp2_with fail
  refine (plain_z y hy.1 hy.2 _).mono ?_
  rintro e1 w1 ⟨rfl, rfl⟩
  go_wp2_with fail
  go_ret
  exact ⟨rfl, rfl⟩
theorem plain_c (f g : Nat) (h : (if FloatKind.f64.format.order f 0 = some .eq then 0 else f) = g) (w : World) : Calls Try.prog 102 #[.float .f64 f] w fun e w' => e = .returned (.float .f64 g) ∧ w = w' := by
  subst h; exact plain_calls f w
set_option maxRecDepth 100000 in
set_option maxHeartbeats 1600000 in
theorem turn_b (b : UInt8) (w : World) : Calls Try.prog 90 #[.complex .f64 4607182418800017408 0, .int .i64 (b.toNat : Int)] w fun e w' => e = .returned (.complex .f64 (zb (stepOf b (0, 0)).1) (zb (stepOf b (0, 0)).2)) ∧ w = w' := by
  have ha := and_three b
  rcases (show b.toNat % 4 = 0 ∨ b.toNat % 4 = 1 ∨ b.toNat % 4 = 2 ∨ b.toNat % 4 = 3 by omega) with h | h | h | h
  · have e : Hid (stepOf b (0, 0) = (1, 0)) := by show _ = _; unfold stepOf; simp [h]
    rw [h] at ha
    clear h
    go_enter Try.func90, Try.ntmps90
    go_wp2_with fail
    refine (plain_c 4607182418800017408 4607182418800017408 (by decide +kernel) _).mono ?_
    rintro e1 w1 ⟨rfl, rfl⟩
    go_wp2_with fail
    refine (plain_c 0 0 (by decide +kernel) _).mono ?_
    rintro e1 w1 ⟨rfl, rfl⟩
    go_wp2_with fail
    go_ret
    exact ⟨by rw [e.out, show zb 1 = 4607182418800017408 by decide +kernel, zb_zero]; rfl, rfl⟩
  · have e : Hid (stepOf b (0, 0) = (0, 1)) := by show _ = _; unfold stepOf; simp [h]
    rw [h] at ha
    clear h
    go_enter Try.func90, Try.ntmps90
    go_wp2_with fail
    refine (plain_c 9223372036854775808 0 (by decide +kernel) _).mono ?_
    rintro e1 w1 ⟨rfl, rfl⟩
    go_wp2_with fail
    refine (plain_c 4607182418800017408 4607182418800017408 (by decide +kernel) _).mono ?_
    rintro e1 w1 ⟨rfl, rfl⟩
    go_wp2_with fail
    go_ret
    exact ⟨by rw [e.out, show zb 1 = 4607182418800017408 by decide +kernel, zb_zero]; rfl, rfl⟩
  · have e : Hid (stepOf b (0, 0) = (-1, 0)) := by show _ = _; unfold stepOf; simp [h]
    rw [h] at ha
    clear h
    go_enter Try.func90, Try.ntmps90
    go_wp2_with fail
    refine (plain_c 13830554455654793216 13830554455654793216 (by decide +kernel) _).mono ?_
    rintro e1 w1 ⟨rfl, rfl⟩
    go_wp2_with fail
    refine (plain_c 9223372036854775808 0 (by decide +kernel) _).mono ?_
    rintro e1 w1 ⟨rfl, rfl⟩
    go_wp2_with fail
    go_ret
    exact ⟨by rw [e.out, show zb (-1) = 13830554455654793216 by decide +kernel, zb_zero]; rfl, rfl⟩
  · have e : Hid (stepOf b (0, 0) = (0, -1)) := by show _ = _; unfold stepOf; simp [h]
    rw [h] at ha
    clear h
    go_enter Try.func90, Try.ntmps90
    go_wp2_with fail
    refine (plain_c 0 0 (by decide +kernel) _).mono ?_
    rintro e1 w1 ⟨rfl, rfl⟩
    go_wp2_with fail
    refine (plain_c 13830554455654793216 13830554455654793216 (by decide +kernel) _).mono ?_
    rintro e1 w1 ⟨rfl, rfl⟩
    go_wp2_with fail
    go_ret
    exact ⟨by rw [e.out, show zb (-1) = 13830554455654793216 by decide +kernel, zb_zero]; rfl, rfl⟩
theorem wstep_calls (b : UInt8) (w : World) : Calls Try.prog 89 #[.int .u8 (b.toNat : Int)] w fun e w' => e = .returned (.complex .f64 (zb (stepOf b (0, 0)).1) (zb (stepOf b (0, 0)).2)) ∧ w = w' := by
  have hb := b.toNat_lt
  have e : IntKind.i64.wrap (b.toNat : Int) = (b.toNat : Int) := by rw [IntWalk.i64_left]; exact IntWalk.wrap64_in _ (by omega)
  have e' : wrap64 (b.toNat : Int) = (b.toNat : Int) := IntWalk.wrap64_in _ (by omega)
  go_enter Try.func89, Try.ntmps89
  go_wp2_with fail
  refine (turn_b b _).mono ?_
  rintro e1 w1 ⟨rfl, rfl⟩
  go_wp2_with fail
  go_ret
  exact ⟨rfl, rfl⟩
/-- The places of a walk. -/
def pathOf : Int × Int → List UInt8 → List (Int × Int)
  | z, [] => [z]
  | z, b :: l => z :: pathOf (stepOf b z) l
theorem pathOf_length (z : Int × Int) (l : List UInt8) : (pathOf z l).length = l.length + 1 := by
  induction l generalizing z with
  | nil => rfl
  | cons b l ih => simp [pathOf, ih]
theorem pathOf_snoc (z : Int × Int) (l : List UInt8) (b : UInt8) : pathOf z (l ++ [b]) = pathOf z l ++ [stepOf b (l.foldl (fun z b => stepOf b z) z)] := by
  induction l generalizing z with
  | nil => rfl
  | cons a l ih => simp [pathOf, ih]
theorem pathOf_last (z : Int × Int) (l : List UInt8) : (pathOf z l)[l.length]? = some (l.foldl (fun z b => stepOf b z) z) := by
  induction l generalizing z with
  | nil => rfl
  | cons a l ih => simp [pathOf, ih]
theorem stepOf_add (b : UInt8) (z : Int × Int) : stepOf b z = (z.1 + (stepOf b (0, 0)).1, z.2 + (stepOf b (0, 0)).2) := by
  unfold stepOf
  split
  · simp
  · split
    · simp
    · split <;> simp <;> omega
theorem stepOf_small (b : UInt8) : stepOf b (0, 0) = (1, 0) ∨ stepOf b (0, 0) = (0, 1) ∨ stepOf b (0, 0) = (-1, 0) ∨ stepOf b (0, 0) = (0, -1) := by
  unfold stepOf
  split
  · exact .inl rfl
  · split
    · exact .inr (.inl rfl)
    · split
      · exact .inr (.inr (.inl rfl))
      · exact .inr (.inr (.inr rfl))
theorem fold_near (l : List UInt8) (z : Int × Int) (n : Nat) (h : -(n : Int) ≤ z.1 ∧ z.1 ≤ n ∧ -(n : Int) ≤ z.2 ∧ z.2 ≤ n) :
    -((n + l.length : Nat) : Int) ≤ (l.foldl (fun z b => stepOf b z) z).1 ∧ (l.foldl (fun z b => stepOf b z) z).1 ≤ (n + l.length : Nat) ∧ -((n + l.length : Nat) : Int) ≤ (l.foldl (fun z b => stepOf b z) z).2 ∧ (l.foldl (fun z b => stepOf b z) z).2 ≤ (n + l.length : Nat) := by
  induction l generalizing z n with
  | nil => simpa using h
  | cons b l ih =>
    have := ih (stepOf b z) (n + 1) (by
      rw [stepOf_add]
      rcases stepOf_small b with e | e | e | e <;> rw [e] <;> simp <;> omega)
    simp only [List.foldl_cons, List.length_cons]
    rw [show n + (l.length + 1) = n + 1 + l.length by omega]
    exact this
theorem walk_near (l : List UInt8) (h : l.length ≤ 48) : -48 ≤ (walkOf l).1 ∧ (walkOf l).1 ≤ 48 ∧ -48 ≤ (walkOf l).2 ∧ (walkOf l).2 ≤ 48 := by
  have := fold_near l (0, 0) 0 (by simp)
  unfold walkOf
  omega
end Go.Proofs.Ytpdpcgmkpgfblaa
/- A symbol's byte; slices.Reverse of bytes. -/
namespace Go.Proofs.Ytpdpcgmkpgfblaa
set_option linter.unusedSimpArgs false
set_option linter.unusedVariables false
set_option linter.unnecessarySimpa false
open Go.RowKit
attribute [local go_sem ↓] Go.wp_at_zero Go.wp_at_succ
theorem symByte_calls (x : Int) (w : World) : Calls Try.prog 40 #[.int .i64 x] w fun e w' => e = .returned (.tuple #[.int .u8 ((if symOk x then symU x else 0).toNat : Int), .bool (symOk x)]) ∧ w = w' := by
  by_cases h1 : x < 1
  · have d1 : decide (x < 1) = true := by simpa using h1
    have e : symOk x = false := by unfold symOk; simp; omega
    rw [e]
    go_enter Try.func40, Try.ntmps40
    go_wp2_with fail
    go_ret2
    exact ⟨rfl, rfl⟩
  · have d1 : decide (x < 1) = false := by simpa using h1
    by_cases h2 : 257 ≤ x
    · have d2 : decide (257 ≤ x) = true := by simpa using h2
      have e : symOk x = false := by unfold symOk; simp; omega
      rw [e]
      go_enter Try.func40, Try.ntmps40
      go_wp2_with fail
      go_ret2
      exact ⟨rfl, rfl⟩
    · have d2 : decide (257 ≤ x) = false := by simpa using h2
      have e : symOk x = true := by unfold symOk; simp; omega
      have e2 : wrap64 (x - 1) = x - 1 := IntWalk.wrap64_in _ (by omega)
      have e3 : (IntKind.u8).wrap (x - 1) = ((symU x).toNat : Int) := by
        unfold symU
        rw [show IntKind.u8.wrap (x - 1) = (x - 1) % 256 by simp [IntKind.wrap, IntKind.bits, IntKind.signed]]
        rw [UInt8.toNat_ofNat']
        omega
      have e4 : x - 1 = ((symU x).toNat : Int) := by unfold symU; rw [UInt8.toNat_ofNat']; omega
      rw [e, if_pos rfl, ← e4]
      clear e3 e4 e
      go_enter Try.func40, Try.ntmps40
      go_wp2_with fail
      go_ret2
      exact ⟨rfl, rfl⟩
/-- The cells of a row of bytes. -/
def byteCells (l : List UInt8) : List Value := l.map fun b => .int .u8 (b.toNat : Int)
theorem byteCells_at {l : List UInt8} {i : Nat} {b : UInt8} (h : l[i]? = some b) : (byteCells l)[i]? = some (.int .u8 (b.toNat : Int)) := by simp [byteCells, h]
theorem byteCells_set (l : List UInt8) (i : Nat) (b : UInt8) : (byteCells l).set i (.int .u8 (b.toNat : Int)) = byteCells (l.set i b) := by simp [byteCells, List.map_set]
/-- A row whose first and last i are exchanged. -/
def RevTo (l m : List UInt8) (i : Nat) : Prop := m.length = l.length ∧ ∀ p, p < l.length → m[p]? = if p < i ∨ l.length ≤ p + i then l[l.length - 1 - p]? else l[p]?
theorem RevTo.step {l m : List UInt8} {i : Nat} (h : RevTo l m i) (hi : 2 * i + 1 < l.length) {a b : UInt8} (ha : l[i]? = some a) (hb : l[l.length - 1 - i]? = some b) :
    RevTo l ((m.set i b).set (l.length - 1 - i) a) (i + 1) := by
  refine ⟨by simp [h.1], fun p hp => ?_⟩
  rw [List.getElem?_set, List.getElem?_set]
  by_cases h1 : l.length - 1 - i = p
  · rw [if_pos h1, if_pos (by simp [h.1]; omega), if_pos (by omega), show l.length - 1 - p = i by omega, ha]
  · rw [if_neg h1]
    by_cases h2 : i = p
    · rw [if_pos h2, if_pos (by rw [h.1]; omega), if_pos (by omega), ← h2, hb]
    · rw [if_neg h2, h.2 p hp]
      by_cases h3 : p < i ∨ l.length ≤ p + i
      · rw [if_pos h3, if_pos (by omega)]
      · rw [if_neg h3, if_neg (by omega)]
theorem RevTo.fin {l m : List UInt8} {i : Nat} (h : RevTo l m i) (hi : l.length ≤ 2 * i + 1) (h0 : i ≤ l.length) : m = l.reverse := by
  apply List.ext_getElem?
  intro p
  by_cases hp : p < l.length
  · rw [h.2 p hp, List.getElem?_reverse hp]
    by_cases h3 : p < i ∨ l.length ≤ p + i
    · rw [if_pos h3]
    · rw [if_neg h3, show l.length - 1 - p = p by omega]
  · rw [List.getElem?_eq_none (by rw [h.1]; omega), List.getElem?_eq_none (by simp; omega)]
theorem rev_down (n i j : Nat) (h : j = n - 1 - i) (h2 : 2 * i + 1 < n) (h3 : n ≤ 50000) : wrap64 ((j : Int) - 1) = (n : Int) - 1 - ((i + 1 : Nat) : Int) := by
  subst h
  rw [IntWalk.wrap64_in _ (by omega)]
  omega
set_option maxRecDepth 100000 in
set_option maxHeartbeats 2000000 in
theorem reverse_calls (base : Nat) (v : Value) (l : List UInt8) (hl : l.length ≤ 50000) (w : World) (hb : base ≤ w.heap.size) (hown : w.ownsRow base 5 1 v l.length (byteCells l)) :
    Calls Try.prog 42 #[v] w fun e w' => e = .returned (.tuple #[]) ∧ w'.ownsRow base 5 1 v l.length (byteCells l.reverse) ∧ Below base w w' ∧ w.heap.size ≤ w'.heap.size := by
  obtain ⟨hx1, A, cap, rfl, hx2⟩ := Rx.of_own hown
  have Hown := Lib.hid hown; clear hown hx1
  have e0 : wrap64 ((l.length : Int) - 1) = (l.length : Int) - 1 := IntWalk.wrap64_in _ (by omega)
  go_enter Try.func42, Try.ntmps42
  go_wp2_with fail
  go_loopg [2, 3] l.length (fun k p q wr => ∃ (i : Nat) (m : List UInt8), p = .int .i64 (i : Int) ∧ q = .int .i64 ((l.length : Int) - 1 - i) ∧ k = l.length - i ∧ i ≤ l.length ∧ Hid (RevTo l m i) ∧ Hid (wr.ownsRow base 5 1 (.slice A l.length cap) l.length (byteCells m)) ∧ Hid (Below base w wr) ∧ w.heap.size ≤ wr.heap.size)
  case atStart => exact ⟨0, l, rfl, by simp, by omega, by omega, Lib.hid ⟨rfl, fun p hp => by rw [if_neg (by omega)]⟩, Hown, Lib.hid (Below.refl _ _), Nat.le_refl _⟩
  case round =>
    obtain ⟨i, m, rfl, rfl, hk, hi, Hm, Hown2, HB, hsz⟩ := hrel
    by_cases hlt : 2 * i + 1 < l.length
    · have d1 : decide ((i : Int) < (l.length : Int) - 1 - (i : Int)) = true := by simp; omega
      obtain ⟨g, rfl, hg, -⟩ := hx2 (by omega)
      obtain ⟨j, hj⟩ : ∃ j : Nat, j = l.length - 1 - i := ⟨_, rfl⟩
      have ej : (l.length : Int) - 1 - (i : Int) = (j : Int) := by omega
      obtain ⟨a, ha⟩ : ∃ a, l[i]? = some a := ⟨l[i]'(by omega), by rw [List.getElem?_eq_getElem]⟩
      obtain ⟨b, hb2⟩ : ∃ b, l[j]? = some b := ⟨l[j]'(by omega), by rw [List.getElem?_eq_getElem]⟩
      have hma : m[i]? = some a := by rw [Hm.out.2 i (by omega), if_neg (by omega), ha]
      have hmb : m[j]? = some b := by rw [Hm.out.2 j (by omega), if_neg (by omega), hb2]
      have hge : base ≤ g := (Hown2.out.lt g rfl).1
      have c1 : wr.cell? ⟨g, i, none⟩ = some (.int .u8 (a.toNat : Int)) := (Hown2.out.cellAt i (by omega)).trans (byteCells_at hma)
      have c2 : wr.cell? ⟨g, j, none⟩ = some (.int .u8 (b.toNat : Int)) := (Hown2.out.cellAt j (by omega)).trans (byteCells_at hmb)
      have f1 := Hown2.out.frozenAt i
      have f2 := Hown2.out.frozenAt j
      have n1 : (i : Int) < (l.length : Int) := by omega
      have n2 : (j : Int) < (l.length : Int) := by omega
      have n3 : i ≠ j := by omega
      have s0 : wr.drew.ownsRow base 5 1 (.slice (some ⟨g, 0, none⟩) l.length cap) l.length (byteCells m) := Hown2.out.drew
      have s1 := (s0.stored i (.int .u8 (b.toNat : Int))).1
      have s2 := (s1.stored j (.int .u8 (a.toNat : Int))).1
      rw [byteCells_set, byteCells_set] at s2
      have S2 := Lib.hid s2; clear s0 s1 s2
      have hm2 := Hm.out.step hlt ha (by rw [← hj]; exact hb2)
      rw [← hj] at hm2
      have HM := Lib.hid hm2
      have e1 : wrap64 ((i : Int) + 1) = ((i + 1 : Nat) : Int) := by rw [IntWalk.wrap64_in _ (by omega)]; rfl
      have e2 := rev_down l.length i j hj hlt hl
      have HJ := Lib.hid hj
      rw [ej] at d1 ⊢
      have HE1 := Lib.hid e1; have HE2 := Lib.hid e2; have Hlt := Lib.hid hlt; have Hk := Lib.hid hk; have Hi := Lib.hid hi
      clear hma hmb ha hb2 Hm Hown2 hj hm2 e1 e2 ej e0 hlt hk hi hx2
      go_wp2_with fail
      rotate_left
      · exfalso; have h1 := HJ.out; have h2 := Hlt.out; omega
      refine wp_region_noPanic ?_
      refine wp_region_held_drew (S := fun _ => True) (by kernel_rfl) trivial (fun hHeld => ?_)
      generalize hD : wr.drew = D at hHeld ⊢
      replace c1 : D.cell? ⟨g, i, none⟩ = some (.int .u8 (a.toNat : Int)) := by rw [← hD]; exact c1
      replace c2 : D.cell? ⟨g, j, none⟩ = some (.int .u8 (b.toNat : Int)) := by rw [← hD]; exact c2
      replace f1 : D.frozen? ⟨g, i, none⟩ = false := by rw [← hD]; exact f1
      replace f2 : D.frozen? ⟨g, j, none⟩ = false := by rw [← hD]; exact f2
      have HBD : Hid (Below base w D) := Lib.hid (by rw [← hD]; exact HB.out.drew)
      have hszD : w.heap.size ≤ D.heap.size := by rw [← hD]; exact hsz
      rw [hD] at S2
      clear hD
      refine tz 0 rfl hHeld ?_
      try simp only [PT]
      refine tz 1 rfl hHeld ?_
      try simp only [PT]
      refine tz 2 rfl hHeld ?_
      try simp only [PT]
      refine tz 3 rfl hHeld ?_
      try simp only [PT]
      refine tz 4 rfl hHeld ?_
      try simp only [PT]
      refine tz 5 rfl hHeld ?_
      try simp only [PT]
      refine tz 6 rfl hHeld ?_
      try simp only [PT]
      refine tz 8 rfl hHeld ?_
      try simp only [PT]
      refine tz 9 rfl hHeld ?_
      try simp only [PT]
      refine tz 10 rfl hHeld ?_
      try simp only [PT]
      refine wpAnyH_ready (rs := [7, 11]) (by kernel_rfl) (by simp) ?_
      refine ready_at rfl (fun K hK => ?_) (ready_at rfl (fun K hK => ?_) AllReadyH.nil)
      · go_simp
        refine hK.out _ _ trivial (fun hHeld => ?_)
        clear hK K
        try simp only [PT]
        refine wpAnyH_ready (rs := [11]) (by kernel_rfl) (by simp) ?_
        refine ready_at rfl (fun K hK => ?_) AllReadyH.nil
        go_simp
        refine hK.out _ _ trivial (fun hHeld => ?_)
        clear hK K
        try simp only [PT]
        refine tz 12 rfl hHeld ?_
        try simp only [PT]
        refine wpAnyH_ready (rs := [13]) (by kernel_rfl) (by simp) ?_
        refine ready_at rfl (fun K hK => ?_) AllReadyH.nil
        go_simp
        refine hK.out _ _ trivial (fun hHeld => ?_)
        clear hK K
        try simp only [PT]
        refine tz 14 rfl hHeld ?_
        try simp only [PT]
        refine wpAnyH_ready (rs := [15]) (by kernel_rfl) (by simp) ?_
        refine ready_at rfl (fun K hK => ?_) AllReadyH.nil
        go_simp
        refine hK.out _ _ trivial (fun hHeld => ?_)
        clear hK K
        try simp only [PT]
        refine wpAnyH_done (by kernel_rfl) ?_ _
        refine NoPanic.normal ?_
        have Hfin : Hid (Below base w ((D.setCell ⟨g, i, none⟩ (.int .u8 (b.toNat : Int))).setCell ⟨g, j, none⟩ (.int .u8 (a.toNat : Int)))) := Lib.hid ((HBD.out.setCell hge _).setCell hge _)
        clear c1 c2 f1 f2
        go_wp2_with fail
        go_roundg (l.length - (i + 1))
        case measure => have h1 := Hk.out; have h2 := Hlt.out; omega
        case rel => exact ⟨i + 1, _, by rfl, by have h1 := HJ.out; have h2 := Hlt.out; congr 1; omega, by rfl, by have := Hlt.out; omega, HM, S2, Hfin, by simp only [siz_set]; omega⟩
      · go_simp
        refine hK.out _ _ trivial (fun hHeld => ?_)
        clear hK K
        try simp only [PT]
        refine wpAnyH_ready (rs := [7]) (by kernel_rfl) (by simp) ?_
        refine ready_at rfl (fun K hK => ?_) AllReadyH.nil
        go_simp
        refine hK.out _ _ trivial (fun hHeld => ?_)
        clear hK K
        try simp only [PT]
        refine tz 12 rfl hHeld ?_
        try simp only [PT]
        refine wpAnyH_ready (rs := [13]) (by kernel_rfl) (by simp) ?_
        refine ready_at rfl (fun K hK => ?_) AllReadyH.nil
        go_simp
        refine hK.out _ _ trivial (fun hHeld => ?_)
        clear hK K
        try simp only [PT]
        refine tz 14 rfl hHeld ?_
        try simp only [PT]
        refine wpAnyH_ready (rs := [15]) (by kernel_rfl) (by simp) ?_
        refine ready_at rfl (fun K hK => ?_) AllReadyH.nil
        go_simp
        refine hK.out _ _ trivial (fun hHeld => ?_)
        clear hK K
        try simp only [PT]
        refine wpAnyH_done (by kernel_rfl) ?_ _
        refine NoPanic.normal ?_
        have Hfin : Hid (Below base w ((D.setCell ⟨g, i, none⟩ (.int .u8 (b.toNat : Int))).setCell ⟨g, j, none⟩ (.int .u8 (a.toNat : Int)))) := Lib.hid ((HBD.out.setCell hge _).setCell hge _)
        clear c1 c2 f1 f2
        go_wp2_with fail
        go_roundg (l.length - (i + 1))
        case measure => have h1 := Hk.out; have h2 := Hlt.out; omega
        case rel => exact ⟨i + 1, _, by rfl, by have h1 := HJ.out; have h2 := Hlt.out; congr 1; omega, by rfl, by have := Hlt.out; omega, HM, S2, Hfin, by simp only [siz_set]; omega⟩
    · have d1 : decide ((i : Int) < (l.length : Int) - 1 - (i : Int)) = false := by simp; omega
      have hm := Hm.out.fin (by omega) hi
      go_wp2_with fail
      go_end0
      exact ⟨rfl, by rw [← hm]; exact Hown2.out, HB.out, hsz⟩
end Go.Proofs.Ytpdpcgmkpgfblaa
/- A document's text; a part of it. -/
namespace Go.Proofs.Ytpdpcgmkpgfblaa
set_option linter.unusedSimpArgs false
set_option linter.unusedVariables false
set_option linter.unnecessarySimpa false
open Go.RowKit
attribute [local go_sem ↓] Go.wp_at_zero Go.wp_at_succ
attribute [local go_sem] lt_s2 lt_s3 lt_s4
attribute [local go_sem] idx0 idx1 idx2 idx3
variable {ap : Value} {s : Ar} {O : Nat → Prop}
theorem conv_bytes {w : World} {base cap : Nat} {A : Option Addr} {l : List UInt8} (h : w.ownsRow base 5 1 (.slice A l.length cap) l.length (byteCells l)) :
    (convert 81 9 (.slice A l.length cap)).run Try.prog w = .ok (strOf l) w := by
  obtain ⟨-, A', cap', hv, h2⟩ := Rx.of_own h
  obtain ⟨rfl, -, rfl⟩ := Value.slice.inj hv
  cases A with
  | none =>
    have h0 : l.length = 0 := by
      rcases Nat.eq_zero_or_pos l.length with h0 | h0
      · exact h0
      · obtain ⟨g, hg, -⟩ := h2 h0; cases hg
    obtain rfl : l = [] := List.eq_nil_of_length_eq_zero h0
    rw [run_convert_bytes_string w 81 9 5 none _ _ Try.underlying81 (by kernel_rfl) (by kernel_rfl)]
    rfl
  | some a =>
    exact run_convert_bytes_back w 81 9 5 a cap l Try.underlying81 (by kernel_rfl) (by kernel_rfl) (fun j hj => by
      obtain ⟨g, hg, -, hc⟩ := h2 (by omega)
      obtain rfl := Option.some.inj hg
      rw [show (⟨g, 0, none⟩ : Addr).add j = ⟨g, j, none⟩ by unfold Addr.add; split <;> simp_all]
      exact (hc j (by omega)).trans (byteCells_at (List.getElem?_eq_getElem hj)))
theorem textL_le : ∀ (k : Nat) (s : Ar) (root row : Int) (b r : List UInt8), textL k s root row b = some r → b.length ≤ 40 → r.length ≤ 41
  | 0, s, root, row, b, r, h, hb => by cases h
  | k + 1, s, root, row, b, r, h, hb => by
    unfold textL at h
    obtain ⟨x, hx, h⟩ := Option.bind_eq_some_iff.1 h
    obtain ⟨y, hy, h⟩ := Option.bind_eq_some_iff.1 h
    have h1 : (if symOk x.1 then b ++ [symU x.1] else b).length ≤ 41 := by
      split
      · rw [List.length_append]; simp; omega
      · omega
    generalize (if symOk x.1 then b ++ [symU x.1] else b) = c at h h1
    by_cases hc : (y.2 && decide (c.length ≤ 40)) = true
    · rw [if_pos hc] at h
      simp only [Bool.and_eq_true, decide_eq_true_eq] at hc
      exact textL_le k s root y.1 c r h hc.2
    · rw [if_neg hc] at h; cases h; exact h1
set_option maxRecDepth 100000 in
set_option maxHeartbeats 4000000 in
theorem text_there (root id : Int) (p : Int) (b : List UInt8) (l : List (Int × Int)) (hl : lAll s (vOf s root).table = some l) (hll : l.length ≤ 50000) (hp : placeIn id l 0 = (p, true)) (hb : textL rounds s root p [] = some b) (w : World) (hA : AP w ap s O) :
    Calls Try.prog 19 #[ap, .int .i64 root, .int .i64 id] w fun e w' => e = .returned (.tuple #[strOf b.reverse, .bool true]) ∧ Below w.heap.size w w' := by
  have Hl := Lib.hid hl; have Hp := Lib.hid hp; have Hb := Lib.hid hb; clear hl hp hb
  have hA0 := Lib.hid hA
  go_enter Try.func19, Try.ntmps19
  go_wp2_with fail
  refine calls_gen fun V hV_V => ?_
  have hB : Below w.heap.size w V := nB hV_V
  replace hA : AP V ap s O := nA hV_V
  have z_V := zS hV_V
  clear hV_V
  refine (vOf_calls _ _ hA).mono ?_
  rintro e_W1 W1 ⟨rfl, hb_W1⟩
  replace hA := hA.below hb_W1
  replace hB := below_step hB hb_W1
  have z_W1 := hb_W1.size
  clear hb_W1
  unfold Parts.val
  go_wp2_with fail
  refine calls_gen fun V1 hV_V1 => ?_
  have n_kp := hbk hV_V1 (W1.heap.size)
  simp (maxDischargeDepth := 9) only [BK, not_false_eq_true, reduceCtorEq] at n_kp
  have o_kp : ¬ O (W1.heap.size) := by first | exact hA.new (Nat.le_refl _) | exact hA.new (by omega)
  replace hB : Below w.heap.size w V1 := nB hV_V1
  replace hA : AP V1 ap s O := nA hV_V1
  have z_V1 := zS hV_V1
  clear hV_V1
  have kp := n_kp; clear n_kp
  obtain ⟨c_kp, f_kp, l_kp_V1⟩ := f3 kp
  refine (tPlace_calls _ _ l Hl.out hll _ hA).mono ?_
  rintro e_W2 W2 ⟨rfl, hb_W2⟩
  replace hA := hA.below hb_W2
  replace hB := below_step hB hb_W2
  replace kp := keep_blk hb_W2 kp
  have z_W2 := hb_W2.size
  clear hb_W2 c_kp f_kp
  obtain ⟨c_kp, f_kp, l_kp_W2⟩ := f3 kp
  rw [Hp.out]
  go_wp2_with fail
  refine wp_gen fun V2 hV_V2 => ?_
  replace kp := kK hV_V2 kp
  replace hB : Below w.heap.size w V2 := nB hV_V2
  replace hA : AP V2 ap s O := nA hV_V2
  have z_V2 := zS hV_V2
  clear hV_V2 c_kp f_kp
  obtain ⟨c_kp, f_kp, l_kp_V2⟩ := f3 kp
  have HA2 := Lib.hid hA; have KP2 := Lib.hid kp; have HB2 := Lib.hid hB
  have hb2 := hB.size
  go_loopg [10, 12, 13] rounds (fun k q v m wr => ∃ (row : Int) (b1 : List UInt8), q = .int .i64 row ∧ b1.length ≤ 41 ∧ Hid (wr.ownsRow V2.heap.size 5 1 v b1.length (byteCells b1)) ∧ Hid (Below V2.heap.size V2 wr) ∧ ((m = .bool true ∧ b1.length ≤ 40 ∧ Hid (textL k s root row b1 = some b)) ∨ (m = .bool false ∧ b1 = b)))
  case atStart => exact ⟨p, [], rfl, by simp, Lib.hid (own_nil _ _ _ _), Lib.hid (Below.refl _ _), .inl ⟨rfl, by simp, Hb⟩⟩
  case round =>
    clear kp c_kp f_kp hA hB
    obtain ⟨row, b1, rfl, hb1, Hown, HB0, ⟨rfl, hb2', Ht⟩ | ⟨rfl, rfl⟩⟩ := hrel
    · have hA := HA2.out.below HB0.out
      have ht := Ht.out
      clear Ht
      cases gk with
      | zero => exact absurd ht (by simp [textL])
      | succ k =>
        unfold textL at ht
        obtain ⟨x, hx, ht⟩ := Option.bind_eq_some_iff.1 ht
        obtain ⟨y, hy, ht⟩ := Option.bind_eq_some_iff.1 ht
        have Hx := Lib.hid hx; have Hy := Lib.hid hy; clear hx hy
        have hw0 := HB0.out.size
        have kp := keep_blk HB0.out KP2.out
        have hB := Below.refl wr.heap.size wr
        obtain ⟨c_kp, f_kp, l_kp_wr⟩ := f3 kp
        go_wp2_with fail
        refine calls_gen fun V3 hV_V3 => ?_
        replace kp := kK hV_V3 kp
        replace hB : Below wr.heap.size wr V3 := nB hV_V3
        replace hA : AP V3 ap s O := nA hV_V3
        have z_V3 := zS hV_V3
        clear hV_V3 c_kp f_kp
        obtain ⟨c_kp, f_kp, l_kp_V3⟩ := f3 kp
        refine (wGet_calls _ _ _ Hx.out _ hA).mono ?_
        rintro e_W3 W3 ⟨rfl, hb_W3⟩
        replace hA := hA.below hb_W3
        replace hB := below_step hB hb_W3
        replace kp := keep_blk hb_W3 kp
        have z_W3 := hb_W3.size
        clear hb_W3 c_kp f_kp
        obtain ⟨c_kp, f_kp, l_kp_W3⟩ := f3 kp
        cases hs : symOk x.1 with
        | true =>
          rw [hs, if_pos rfl] at ht
          go_wp2_with fail
          refine calls_gen fun V4 hV_V4 => ?_
          replace kp := kK hV_V4 kp
          replace hB : Below wr.heap.size wr V4 := nB hV_V4
          replace hA : AP V4 ap s O := nA hV_V4
          have z_V4 := zS hV_V4
          clear hV_V4 c_kp f_kp
          obtain ⟨c_kp, f_kp, l_kp_V4⟩ := f3 kp
          refine (symByte_calls _ _).mono ?_
          rintro e_q w_q ⟨rfl, rfl⟩
          rw [hs, if_pos rfl]
          have hown := own_below Hown.out hB
          have HB4 := Lib.hid (below_step HB0.out hB)
          clear Hown hB
          go_wp2_with (at_builtin; refine wpList_push _ (by rfl) _ _ 81 (by rfl) (V2.heap.size) 5 (.int .u8 0) 1 1 Try.underlying81 (by kernel_rfl) (by rfl) (by omega) _ _ _ (by rfl) hown _ (by rfl) (by rfl) (by simp [Value.oneCell']) (by unfold maxLen; omega) (by omega) (by omega) ?_; intro g_W c_W W5 hown_W hlow_W hlt_W)
          have HB5 := Lib.hid (low_step HB4.out (Nat.le_refl _) hlow_W)
          have Hown5 : Hid (W5.ownsRow V2.heap.size 5 1 (.slice (some ⟨g_W, 0, none⟩) (b1.length + 1) c_W) (b1.length + 1) (byteCells (b1 ++ [symU x.1]))) := Lib.hid (by unfold byteCells; rw [List.map_append]; exact hown_W)
          clear hown_W hlow_W HB4 kp c_kp f_kp hA hown
          have hA := HA2.out.below HB5.out
          have kp := keep_blk HB5.out KP2.out
          have hB := Below.refl W5.heap.size W5
          obtain ⟨c_kp, f_kp, l_kp_W5⟩ := f3 kp
          go_wp2_with fail
          refine calls_gen fun V6 hV_V6 => ?_
          replace kp := kK hV_V6 kp
          replace hB : Below W5.heap.size W5 V6 := nB hV_V6
          replace hA : AP V6 ap s O := nA hV_V6
          have z_V6 := zS hV_V6
          clear hV_V6 c_kp f_kp
          obtain ⟨c_kp, f_kp, l_kp_V6⟩ := f3 kp
          refine (vNext_calls _ _ _ Hy.out _ hA).mono ?_
          rintro e_W6 W6 ⟨rfl, hb_W6⟩
          replace hA := hA.below hb_W6
          replace hB := below_step hB hb_W6
          replace kp := keep_blk hb_W6 kp
          have z_W6 := hb_W6.size
          clear hb_W6 c_kp f_kp
          obtain ⟨c_kp, f_kp, l_kp_W6⟩ := f3 kp
          have HB6 := Lib.hid (below_step HB5.out hB)
          have Hown6 := Lib.hid (own_below Hown5.out hB)
          cases hy2 : y.2 with
          | false =>
            rw [hy2] at ht
            rw [Bool.false_and, if_neg (by decide)] at ht
            obtain rfl := Option.some.inj ht
            clear ht
            go_wp2_with fail
            go_roundg k
            case measure => omega
            case rel => exact ⟨y.1, _, rfl, by simp; omega, by simpa using Hown6, HB6, .inr ⟨rfl, rfl⟩⟩
          | true =>
            rw [hy2, Bool.true_and] at ht
            by_cases hc : (b1 ++ [symU x.1]).length ≤ 40
            · rw [if_pos (by simpa using hc)] at ht
              have Ht := Lib.hid ht; clear ht
              have d5 : decide (((b1.length : Int) + 1 : Int) ≤ 40) = true := by simp at hc ⊢; omega
              have Hc := Lib.hid hc; clear hc
              go_wp2_with fail
              go_roundg k
              case measure => omega
              case rel => exact ⟨y.1, _, rfl, by simp; omega, by simpa using Hown6, HB6, .inl ⟨rfl, Hc.out, Ht⟩⟩
            · rw [if_neg (by simpa using hc)] at ht
              have d5 : decide (((b1.length : Int) + 1 : Int) ≤ 40) = false := by simp at hc ⊢; omega
              obtain rfl := Option.some.inj ht
              clear ht hc
              go_wp2_with fail
              go_roundg k
              case measure => omega
              case rel => exact ⟨y.1, _, rfl, by simp; omega, by simpa using Hown6, HB6, .inr ⟨rfl, rfl⟩⟩
        | false =>
          rw [hs] at ht
          simp only [Bool.false_eq_true, ↓reduceIte] at ht
          go_wp2_with fail
          refine calls_gen fun V4 hV_V4 => ?_
          replace kp := kK hV_V4 kp
          replace hB : Below wr.heap.size wr V4 := nB hV_V4
          replace hA : AP V4 ap s O := nA hV_V4
          have z_V4 := zS hV_V4
          clear hV_V4 c_kp f_kp
          obtain ⟨c_kp, f_kp, l_kp_V4⟩ := f3 kp
          refine (symByte_calls _ _).mono ?_
          rintro e_q w_q ⟨rfl, rfl⟩
          rw [hs]
          go_wp2_with fail
          refine calls_gen fun V6 hV_V6 => ?_
          replace kp := kK hV_V6 kp
          replace hB : Below wr.heap.size wr V6 := nB hV_V6
          replace hA : AP V6 ap s O := nA hV_V6
          have z_V6 := zS hV_V6
          clear hV_V6 c_kp f_kp
          obtain ⟨c_kp, f_kp, l_kp_V6⟩ := f3 kp
          refine (vNext_calls _ _ _ Hy.out _ hA).mono ?_
          rintro e_W6 W6 ⟨rfl, hb_W6⟩
          replace hA := hA.below hb_W6
          replace hB := below_step hB hb_W6
          replace kp := keep_blk hb_W6 kp
          have z_W6 := hb_W6.size
          clear hb_W6 c_kp f_kp
          obtain ⟨c_kp, f_kp, l_kp_W6⟩ := f3 kp
          have HB6 := Lib.hid (below_step HB0.out hB)
          have Hown6 := Lib.hid (own_below Hown.out hB)
          obtain ⟨-, A1, c1, rfl, -⟩ := Rx.of_own Hown6.out
          cases hy2 : y.2 with
          | false =>
            rw [hy2] at ht
            rw [Bool.false_and, if_neg (by decide)] at ht
            obtain rfl := Option.some.inj ht
            clear ht
            go_wp2_with fail
            go_roundg k
            case measure => omega
            case rel => exact ⟨y.1, _, rfl, by omega, Hown6, HB6, .inr ⟨rfl, rfl⟩⟩
          | true =>
            rw [hy2, Bool.true_and] at ht
            by_cases hc : (b1).length ≤ 40
            · rw [if_pos (by simpa using hc)] at ht
              have Ht := Lib.hid ht; clear ht
              have d5 : decide (((b1.length : Int) : Int) ≤ 40) = true := by simp at hc ⊢; omega
              have Hc := Lib.hid hc; clear hc
              go_wp2_with fail
              go_roundg k
              case measure => omega
              case rel => exact ⟨y.1, _, rfl, by omega, Hown6, HB6, .inl ⟨rfl, Hc.out, Ht⟩⟩
            · rw [if_neg (by simpa using hc)] at ht
              have d5 : decide (((b1.length : Int) : Int) ≤ 40) = false := by simp at hc ⊢; omega
              obtain rfl := Option.some.inj ht
              clear ht hc
              go_wp2_with fail
              go_roundg k
              case measure => omega
              case rel => exact ⟨y.1, _, rfl, by omega, Hown6, HB6, .inr ⟨rfl, rfl⟩⟩
    · obtain ⟨hx1, A1, c1, rfl, hx2⟩ := Rx.of_own Hown.out
      have hwr := HB0.out.size
      have hA := HA2.out.below HB0.out
      have hB := Below.refl wr.heap.size wr
      go_wp2_with fail
      refine calls_gen fun V7 hV_V7 => ?_
      replace hB : Below wr.heap.size wr V7 := nB hV_V7
      replace hA : AP V7 ap s O := nA hV_V7
      have z_V7 := zS hV_V7
      clear hV_V7
      have hown := own_below Hown.out hB
      have HB7 := Lib.hid (below_step HB0.out hB)
      have hsz7 := HB7.out.size
      clear hB
      refine (reverse_calls V2.heap.size _ b1 (by omega) _ hsz7 hown).mono ?_
      rintro e8 W8 ⟨rfl, hown8, hlow8, hsz8⟩
      have hown9 : W8.ownsRow V2.heap.size 5 1 (.slice A1 b1.reverse.length c1) b1.reverse.length (byteCells b1.reverse) := by rw [List.length_reverse]; exact hown8
      have hcv := conv_bytes hown9
      rw [List.length_reverse] at hcv
      have Hfin : Hid (Below w.heap.size w W8) := Lib.hid (below_step HB2.out (low_step HB7.out (Nat.le_refl _) hlow8))
      clear hown9 hown8 hlow8 hsz8 hown
      go_wp2_with fail
      go_ret2
      exact ⟨rfl, Hfin.out⟩
set_option maxRecDepth 100000 in
set_option maxHeartbeats 2000000 in
theorem text_none (root id : Int) (p : Int) (l : List (Int × Int)) (hl : lAll s (vOf s root).table = some l) (hll : l.length ≤ 50000) (hp : placeIn id l 0 = (p, false)) (w : World) (hA : AP w ap s O) :
    Calls Try.prog 19 #[ap, .int .i64 root, .int .i64 id] w fun e w' => e = .returned (.tuple #[strOf [], .bool false]) ∧ Below w.heap.size w w' := by
  have Hl := Lib.hid hl; have Hp := Lib.hid hp; clear hl hp
  go_enter Try.func19, Try.ntmps19
  go_wp2_with fail
  refine calls_gen fun V hV_V => ?_
  have hB : Below w.heap.size w V := nB hV_V
  replace hA : AP V ap s O := nA hV_V
  have z_V := zS hV_V
  clear hV_V
  refine (vOf_calls _ _ hA).mono ?_
  rintro e_W1 W1 ⟨rfl, hb_W1⟩
  replace hA := hA.below hb_W1
  replace hB := below_step hB hb_W1
  have z_W1 := hb_W1.size
  clear hb_W1
  unfold Parts.val
  go_wp2_with fail
  refine calls_gen fun V1 hV_V1 => ?_
  have n_kp := hbk hV_V1 (W1.heap.size)
  simp (maxDischargeDepth := 9) only [BK, not_false_eq_true, reduceCtorEq] at n_kp
  have o_kp : ¬ O (W1.heap.size) := by first | exact hA.new (Nat.le_refl _) | exact hA.new (by omega)
  replace hB : Below w.heap.size w V1 := nB hV_V1
  replace hA : AP V1 ap s O := nA hV_V1
  have z_V1 := zS hV_V1
  clear hV_V1
  have kp := n_kp; clear n_kp
  obtain ⟨c_kp, f_kp, l_kp_V1⟩ := f3 kp
  refine (tPlace_calls _ _ l Hl.out hll _ hA).mono ?_
  rintro e_W2 W2 ⟨rfl, hb_W2⟩
  replace hA := hA.below hb_W2
  replace hB := below_step hB hb_W2
  replace kp := keep_blk hb_W2 kp
  have z_W2 := hb_W2.size
  clear hb_W2 c_kp f_kp
  obtain ⟨c_kp, f_kp, l_kp_W2⟩ := f3 kp
  rw [Hp.out]
  go_wp2_with fail
  go_ret2
  exact ⟨rfl, hB⟩
theorem text_calls (root id : Int) (t : List UInt8 × Bool) (ht : pText s root id = some t) (hll : (lLen s (vOf s root).table) ≤ 50000) (w : World) (hA : AP w ap s O) :
    Calls Try.prog 19 #[ap, .int .i64 root, .int .i64 id] w fun e w' => e = .returned (.tuple #[strOf t.1, .bool t.2]) ∧ Below w.heap.size w w' := by
  unfold pText at ht
  obtain ⟨p, hp, ht⟩ := Option.bind_eq_some_iff.1 ht
  unfold tPlace at hp
  obtain ⟨l, hl, hp⟩ := Option.map_eq_some_iff.1 hp
  have hlen : l.length ≤ 50000 := by
    have := eachO_len _ _ _ hl
    omega
  obtain ⟨i, is⟩ := p
  cases is with
  | false =>
    rw [if_neg (by simp)] at ht
    obtain rfl := Option.some.inj ht
    exact text_none root id i l hl hlen hp w hA
  | true =>
    rw [if_pos rfl] at ht
    obtain ⟨b, hb, rfl⟩ := Option.map_eq_some_iff.1 ht
    exact text_there root id i b l hl hlen hp hb w hA
theorem pText_le {root id : Int} {t : List UInt8 × Bool} (ht : pText s root id = some t) : t.1.length ≤ 41 := by
  unfold pText at ht
  obtain ⟨p, hp, ht⟩ := Option.bind_eq_some_iff.1 ht
  split at ht
  · obtain ⟨b, hb, rfl⟩ := Option.map_eq_some_iff.1 ht
    have := textL_le _ _ _ _ _ _ hb (by simp)
    simpa using this
  · cases ht; simp
end Go.Proofs.Ytpdpcgmkpgfblaa
/- walk.Path, walk.End. -/
namespace Go.Proofs.Ytpdpcgmkpgfblaa
set_option linter.unusedSimpArgs false
set_option linter.unusedVariables false
set_option linter.unnecessarySimpa false
open Go.RowKit
attribute [local go_sem ↓] Go.wp_at_zero Go.wp_at_succ
def pathCells (l : List (Int × Int)) : List Value := l.map fun z => .complex .f64 (zb z.1) (zb z.2)
attribute [local go_sem] str_len
theorem cadd_step (z : Int × Int) (b : UInt8) (hz : -49 ≤ z.1 ∧ z.1 ≤ 49 ∧ -49 ≤ z.2 ∧ z.2 ≤ 49) (w : World) :
    (binOp BinOp.add 34 (.complex .f64 (zb z.1) (zb z.2)) (.complex .f64 (zb (stepOf b (0, 0)).1) (zb (stepOf b (0, 0)).2))).run Try.prog w = .ok (.complex .f64 (zb (stepOf b z).1) (zb (stepOf b z).2)) w := by
  refine run_complex_sum w .add (.inl rfl) _ _ _ _ _ _ _ _ ?_
  have a1 := zb_add1 z.1 (by omega) (by omega); have a2 := zb_add1 z.2 (by omega) (by omega)
  have b1 := zb_addm z.1 (by omega) (by omega); have b2 := zb_addm z.2 (by omega) (by omega)
  have c1 := zb_add0 z.1 (by omega) (by omega); have c2 := zb_add0 z.2 (by omega) (by omega)
  rw [stepOf_add b z]
  rcases stepOf_small b with e | e | e | e
  · rw [e]; simp [cSumBits, floatBits, a1, a2, c1, c2]
  · rw [e]; simp [cSumBits, floatBits, a1, a2, c1, c2]
  · rw [e]; rw [Int.sub_eq_add_neg] at b1; simp [cSumBits, floatBits, b1, c2]
  · rw [e]; rw [Int.sub_eq_add_neg] at b2; simp [cSumBits, floatBits, b2, c1]
theorem nearTake (l : List UInt8) (hl : l.length ≤ 48) (i : Nat) : -48 ≤ ((l.take i).foldl (fun z b => stepOf b z) (0, 0)).1 ∧ ((l.take i).foldl (fun z b => stepOf b z) (0, 0)).1 ≤ 48 ∧ -48 ≤ ((l.take i).foldl (fun z b => stepOf b z) (0, 0)).2 ∧ ((l.take i).foldl (fun z b => stepOf b z) (0, 0)).2 ≤ 48 :=
  walk_near (l.take i) (by rw [List.length_take]; omega)
set_option maxRecDepth 100000 in
set_option maxHeartbeats 2000000 in
theorem wpath_calls (l : List UInt8) (hl : l.length ≤ 48) (w : World) : Calls Try.prog 61 #[strOf l] w fun e w' => ∃ v, e = .returned v ∧ w'.ownsRow w.heap.size 34 1 v (l.length + 1) (pathCells (pathOf (0, 0) l)) ∧ Below w.heap.size w w' := by
  go_enter Try.func61, Try.ntmps61
  have h0 := World.ownsRow_lit (base := w.heap.size) (e := 34) (size := 1) w #[.complex .f64 0 0] 1 (Nat.le_refl _) (by unfold maxLen; omega) rfl
  have h1 : pathCells (pathOf (0, 0) (l.take 0)) = [.complex .f64 0 0] := by simp [pathCells, pathOf, zb_zero]
  have hB := below_box w (.cells #[.complex .f64 0 0] 34 (0, 0))
  have H0 := Lib.hid h0; have HB := Lib.hid hB; have H1 := Lib.hid h1; clear h0 hB h1
  go_wp2_with fail
  go_loopg [3, 9] l.length (fun k v q wr => ∃ i : Nat, q = .int .i64 (i : Int) ∧ i + k = l.length ∧ Hid (wr.ownsRow w.heap.size 34 1 v (i + 1) (pathCells (pathOf (0, 0) (l.take i)))) ∧ Hid (Below w.heap.size w wr))
  case atStart => exact ⟨0, rfl, by omega, Lib.hid (by rw [H1.out]; exact H0.out), HB⟩
  case round =>
    clear H0 HB H1
    obtain ⟨i, rfl, hk, Hown, HB0⟩ := hrel
    by_cases hlt : i < l.length
    · have d1 : decide ((i : Int) < (l.length : Int)) = true := by simpa using hlt
      obtain ⟨k, rfl⟩ : ∃ k, gk = k + 1 := ⟨gk - 1, by omega⟩
      obtain ⟨b, hb⟩ : ∃ b, l[i]? = some b := ⟨l[i], by simp [hlt]⟩
      have hlen : (l.take i).length = i := by rw [List.length_take]; omega
      have hix := str_index l i b hb
      have hstep : l.take (i + 1) = l.take i ++ [b] := by
        rw [List.take_succ_eq_append_getElem hlt]; congr 2
        exact Option.some.inj ((List.getElem?_eq_getElem hlt).symm.trans hb)
      have hpath : Hid (pathOf (0, 0) (l.take (i + 1)) = pathOf (0, 0) (l.take i) ++ [stepOf b ((l.take i).foldl (fun z b => stepOf b z) (0, 0))]) := Lib.hid (by rw [hstep, pathOf_snoc])
      have hlast := pathOf_last (0, 0) (l.take i)
      rw [hlen] at hlast
      have hnear := nearTake l hl i
      have hnear2 := nearTake l hl (i + 1)
      rw [hstep, List.foldl_append] at hnear2
      simp only [List.foldl_cons, List.foldl_nil] at hnear2
      generalize hz : (l.take i).foldl (fun z b => stepOf b z) (0, 0) = z at hpath hlast hnear hnear2
      clear hz hstep hb
      have hadd := cadd_step z b (by omega)
      rcases Hown.out.2 with ⟨-, h0⟩ | ⟨g, cap, cur, rfl, hg, hc, -, -, -, -⟩
      · omega
      have hci : cur[i]? = some (.complex .f64 (zb z.1) (zb z.2)) := by
        have h1 := Hown.out.cellAt i (by omega)
        rw [cells_of hc] at h1
        rw [h1]
        unfold pathCells
        rw [List.getElem?_map, hlast]; rfl
      have kg := hc; clear hc
      have n1 : (i : Int) < (i : Int) + 1 := by omega
      have n2 : ¬ (i : Int) < 0 := by omega
      have hw0 := HB0.out.size
      have hB := Below.refl wr.heap.size wr
      obtain ⟨c_kg, f_kg, l_kg_wr⟩ := f3 kg
      go_wp2_with fail
      refine wp_gen fun V2 hV_V2 => ?_
      replace kg := kK hV_V2 kg
      replace hB : Below wr.heap.size wr V2 := nB hV_V2
      have z_V2 := zS hV_V2
      clear hV_V2 c_kg f_kg
      obtain ⟨c_kg, f_kg, l_kg_V2⟩ := f3 kg
      refine wp_region_noPanic ?_
      refine wp_region_held_drew (S := fun v => (∀ o, v.cell? ⟨g, o, none⟩ = V2.cell? ⟨g, o, none⟩) ∧ (V2.heap.size ≤ v.heap.size) ∧ True) (by kernel_rfl) ⟨(fun _ => rfl), (Nat.le_refl _), trivial⟩ (fun hHeld => ?_)
      generalize hV_V2d : V2.drew = V2d at hHeld ⊢
      have d_kg := dK hV_V2d kg
      clear c_kg f_kg
      replace hB := hB.drew; rw [hV_V2d] at hB
      have z_V2d := dZ hV_V2d
      have v_kg := cells_of kg
      clear kg; have kg := d_kg; clear d_kg
      obtain ⟨c_kg, f_kg, l_kg_V2d⟩ := f3 kg
      clear hV_V2d
      refine tz 0 rfl hHeld ?_
      try simp only [PT]
      refine tz 1 rfl hHeld ?_
      try simp only [PT]
      refine tz 2 rfl hHeld ?_
      try simp only [PT]
      refine tz 3 rfl hHeld ?_
      try simp only [PT]
      refine tz 4 rfl hHeld ?_
      try simp only [PT]
      refine tz 5 rfl hHeld ?_
      try simp only [PT]
      refine tz 6 rfl hHeld ?_
      try simp only [PT]
      refine take_call (i := 7) (f := ?_) (args := ?_) (v := ?_) rfl (by kernel_rfl) (by kernel_rfl) (by kernel_rfl) (fun _ _ _ h => h) (by rfl) hHeld ?_ (fun v hSv => ?_) ?_
      rotate_left 3
      focus (intro v hSv; go_simp; constructor <;> with_reducible rfl)
      focus (obtain ⟨c0, zs, hAv⟩ := hSv; exact wstep_calls b v)
      try simp only [PT]
      refine tz 8 rfl hHeld ?_
      try simp only [PT]
      refine rd 9 rfl fun K hK => ?_
      go_simp
      refine hK.out _ _ hHeld (fun hHeld => ?_)
      clear hK K
      try simp only [PT]
      refine wpAnyH_done (by kernel_rfl) ?_ _
      refine NoPanic.normal ?_
      go_wp2_with fail
      refine calls_gen fun V3 hV_V3 => ?_
      replace kg := kK hV_V3 kg
      replace hB : Below wr.heap.size wr V3 := nB hV_V3
      have z_V3 := zS hV_V3
      clear hV_V3 c_kg f_kg
      obtain ⟨c_kg, f_kg, l_kg_V3⟩ := f3 kg
      refine (turn_z (stepOf b z).1 (stepOf b z).2 (by omega) (by omega) _).mono ?_
      rintro e_q w_q ⟨rfl, rfl⟩
      have hown := own_below Hown.out hB
      have HB3 := Lib.hid (below_step HB0.out hB)
      have hsz3 := HB3.out.size
      clear Hown hB
      go_wp2_with (at_builtin; refine wpList_push _ (by rfl) _ _ 40 (by rfl) (w.heap.size) 34 (.complex .f64 0 0) 1 16 Try.underlying40 (by kernel_rfl) (by rfl) (by omega) _ _ _ (by rfl) hown _ (by rfl) (by rfl) (by simp [Value.oneCell']) (by unfold maxLen; omega) (by omega) (by omega) ?_; intro g_W c_W W5 hown_W hlow_W hlt_W)
      go_wp2_with fail
      go_roundg k
      case measure => omega
      case rel => exact ⟨i + 1, by simp, by omega, Lib.hid (by rw [hpath.out]; unfold pathCells at hown_W ⊢; rw [List.map_append]; exact hown_W), Lib.hid (low_step HB3.out (Nat.le_refl _) hlow_W)⟩
    · have d1 : decide ((i : Int) < (l.length : Int)) = false := by simpa using hlt
      obtain rfl : i = l.length := by omega
      have Hown' := Hown.out
      rw [List.take_length] at Hown'
      have HO := Lib.hid Hown'; clear Hown' Hown
      go_wp2_with fail
      go_ret
      exact ⟨u3, rfl, HO.out, HB0.out⟩
set_option maxRecDepth 100000 in
set_option maxHeartbeats 2000000 in
theorem wend_calls (l : List UInt8) (hl : l.length ≤ 48) (w : World) : Calls Try.prog 31 #[strOf l] w fun e w' => e = .returned (.complex .f64 (zb (walkOf l).1) (zb (walkOf l).2)) ∧ Below w.heap.size w w' := by
  go_enter Try.func31, Try.ntmps31
  go_wp2_with fail
  refine calls_gen fun V hV_V => ?_
  have hB : Below w.heap.size w V := nB hV_V
  have z_V := zS hV_V
  clear hV_V
  refine (wpath_calls l hl _).mono ?_
  rintro e1 W1 ⟨v, rfl, hown, hb1⟩
  have hB1 := Lib.hid (below_step hB hb1)
  rcases hown.2 with ⟨-, h0⟩ | ⟨g, cap, cur, rfl, hg, hc, -, -, -, -⟩
  · omega
  have hci : W1.cell? ⟨g, l.length, none⟩ = some (.complex .f64 (zb (walkOf l).1) (zb (walkOf l).2)) := by
    have h1 := hown.cellAt l.length (by omega)
    rw [h1]
    unfold pathCells walkOf
    rw [List.getElem?_map, pathOf_last]; rfl
  have n1 : (l.length : Int) < (l.length : Int) + 1 := by omega
  clear hown hc hb1 hB
  go_wp2_with fail
  go_ret
  exact ⟨rfl, hB1.out⟩
end Go.Proofs.Ytpdpcgmkpgfblaa
/- The document's own: the path of a text, its end. -/
namespace Go.Proofs.Ytpdpcgmkpgfblaa
set_option linter.unusedSimpArgs false
set_option linter.unusedVariables false
set_option linter.unnecessarySimpa false
open Go.RowKit
attribute [local go_sem ↓] Go.wp_at_zero Go.wp_at_succ
section
attribute [local go_sem] str_len run_cplx
set_option maxRecDepth 100000 in
set_option maxHeartbeats 4000000 in
theorem rpath_calls (l : List UInt8) (hl : l.length ≤ 48) (w : World) : Calls Try.prog 14 #[strOf l] w fun e w' => ∃ v, e = .returned v ∧ w'.ownsRow w.heap.size 34 1 v (l.length + 1) (pathCells (pathOf (0, 0) l)) ∧ Below w.heap.size w w' := by
  go_enter Try.func14, Try.ntmps14
  have h0 := World.ownsRow_lit (base := w.heap.size) (e := 34) (size := 1) w #[.complex .f64 0 0] 1 (Nat.le_refl _) (by unfold maxLen; omega) rfl
  have h1 : pathCells (pathOf (0, 0) (l.take 0)) = [.complex .f64 0 0] := by simp [pathCells, pathOf, zb_zero]
  have hB := below_box w (.cells #[.complex .f64 0 0] 34 (0, 0))
  have H0 := Lib.hid h0; have HB := Lib.hid hB; have H1 := Lib.hid h1; clear h0 hB h1
  go_wp2_with fail
  go_loopg [3, 4, 5, 6] l.length (fun k p1 p2 v q wr => ∃ (i : Nat) (z : Int × Int), q = .int .i64 (i : Int) ∧ p1 = .int .i64 z.1 ∧ p2 = .int .i64 z.2 ∧ i + k = l.length ∧ Hid (z = (l.take i).foldl (fun z b => stepOf b z) (0, 0)) ∧ Hid (wr.ownsRow w.heap.size 34 1 v (i + 1) (pathCells (pathOf (0, 0) (l.take i)))) ∧ Hid (Below w.heap.size w wr))
  case atStart => exact ⟨0, (0, 0), rfl, rfl, rfl, by omega, Lib.hid rfl, Lib.hid (by rw [H1.out]; exact H0.out), HB⟩
  case round =>
    clear H0 HB H1
    obtain ⟨i, ⟨x, y⟩, rfl, rfl, rfl, hk, Hz, Hown, HB0⟩ := hrel
    by_cases hlt : i < l.length
    · have d1 : decide ((i : Int) < (l.length : Int)) = true := by simpa using hlt
      obtain ⟨k, rfl⟩ : ∃ k, gk = k + 1 := ⟨gk - 1, by omega⟩
      obtain ⟨b, hb⟩ := at_some hlt
      have hix := str_index l i b hb
      have hz := Hz.out
      have hnear := nearTake l hl i
      have hstep : l.take (i + 1) = l.take i ++ [b] := by
        rw [List.take_succ_eq_append_getElem hlt, (List.getElem_eq_iff hlt).2 hb]
      rw [← hz] at hnear
      have hz2 : Hid (stepOf b (x, y) = (l.take (i + 1)).foldl (fun z b => stepOf b z) (0, 0)) := Lib.hid (by rw [hstep, List.foldl_append, ← hz]; rfl)
      have hpath : Hid (pathCells (pathOf (0, 0) (l.take (i + 1))) = pathCells (pathOf (0, 0) (l.take i)) ++ [.complex .f64 (zb (stepOf b (x, y)).1) (zb (stepOf b (x, y)).2)]) := Lib.hid (by
        rw [hstep, pathOf_snoc, ← hz]; unfold pathCells; rw [List.map_append]; rfl)
      have hw0 := HB0.out.size
      dsimp only at hnear
      have E3 := Lib.hid (step_wrap i 50 (by omega) (by omega))
      clear hz hstep hb
      rcases (show b.toNat % 4 = 0 ∨ b.toNat % 4 = 1 ∨ b.toNat % 4 = 2 ∨ b.toNat % 4 = 3 by omega) with h | h | h | h
      · have hs : Hid (stepOf b (x, y) = (x + 1, y)) := Lib.hid (by unfold stepOf; simp [h])
        have hm : (b.toNat : Int) % 4 = 0 := by omega
        clear h
        go_wp2_with (at_builtin; refine wpList_push _ (by rfl) _ _ 40 (by rfl) (w.heap.size) 34 (.complex .f64 0 0) 1 16 Try.underlying40 (by kernel_rfl) (by rfl) (by omega) _ _ _ (by rfl) Hown.out _ (by rfl) (by rfl) (by simp [Value.oneCell']) (by unfold maxLen; omega) (by omega) (by omega) ?_; intro g_W c_W W5 hown_W hlow_W hlt_W)
        go_wp2_with fail
        go_roundg k
        case measure => omega
        case rel => exact ⟨i + 1, (x + 1, y), by first | rfl | (rw [E3.out]; rfl), by rfl, by rfl, by omega, Lib.hid (by rw [← hs.out]; exact hz2.out), Lib.hid (by rw [hpath.out, hs.out]; exact hown_W), Lib.hid (low_step HB0.out (Nat.le_refl _) hlow_W)⟩
      · have hs : Hid (stepOf b (x, y) = (x, y + 1)) := Lib.hid (by unfold stepOf; simp [h])
        have hm : (b.toNat : Int) % 4 = 1 := by omega
        clear h
        go_wp2_with (at_builtin; refine wpList_push _ (by rfl) _ _ 40 (by rfl) (w.heap.size) 34 (.complex .f64 0 0) 1 16 Try.underlying40 (by kernel_rfl) (by rfl) (by omega) _ _ _ (by rfl) Hown.out _ (by rfl) (by rfl) (by simp [Value.oneCell']) (by unfold maxLen; omega) (by omega) (by omega) ?_; intro g_W c_W W5 hown_W hlow_W hlt_W)
        go_wp2_with fail
        go_roundg k
        case measure => omega
        case rel => exact ⟨i + 1, (x, y + 1), by first | rfl | (rw [E3.out]; rfl), by rfl, by rfl, by omega, Lib.hid (by rw [← hs.out]; exact hz2.out), Lib.hid (by rw [hpath.out, hs.out]; exact hown_W), Lib.hid (low_step HB0.out (Nat.le_refl _) hlow_W)⟩
      · have hs : Hid (stepOf b (x, y) = (x - 1, y)) := Lib.hid (by unfold stepOf; simp [h])
        have hm : (b.toNat : Int) % 4 = 2 := by omega
        clear h
        go_wp2_with (at_builtin; refine wpList_push _ (by rfl) _ _ 40 (by rfl) (w.heap.size) 34 (.complex .f64 0 0) 1 16 Try.underlying40 (by kernel_rfl) (by rfl) (by omega) _ _ _ (by rfl) Hown.out _ (by rfl) (by rfl) (by simp [Value.oneCell']) (by unfold maxLen; omega) (by omega) (by omega) ?_; intro g_W c_W W5 hown_W hlow_W hlt_W)
        go_wp2_with fail
        go_roundg k
        case measure => omega
        case rel => exact ⟨i + 1, (x - 1, y), by first | rfl | (rw [E3.out]; rfl), by rfl, by rfl, by omega, Lib.hid (by rw [← hs.out]; exact hz2.out), Lib.hid (by rw [hpath.out, hs.out]; exact hown_W), Lib.hid (low_step HB0.out (Nat.le_refl _) hlow_W)⟩
      · have hs : Hid (stepOf b (x, y) = (x, y - 1)) := Lib.hid (by unfold stepOf; simp [h])
        have hm : (b.toNat : Int) % 4 = 3 := by omega
        clear h
        go_wp2_with (at_builtin; refine wpList_push _ (by rfl) _ _ 40 (by rfl) (w.heap.size) 34 (.complex .f64 0 0) 1 16 Try.underlying40 (by kernel_rfl) (by rfl) (by omega) _ _ _ (by rfl) Hown.out _ (by rfl) (by rfl) (by simp [Value.oneCell']) (by unfold maxLen; omega) (by omega) (by omega) ?_; intro g_W c_W W5 hown_W hlow_W hlt_W)
        go_wp2_with fail
        go_roundg k
        case measure => omega
        case rel => exact ⟨i + 1, (x, y - 1), by first | rfl | (rw [E3.out]; rfl), by rfl, by rfl, by omega, Lib.hid (by rw [← hs.out]; exact hz2.out), Lib.hid (by rw [hpath.out, hs.out]; exact hown_W), Lib.hid (low_step HB0.out (Nat.le_refl _) hlow_W)⟩
    · have d1 : decide ((i : Int) < (l.length : Int)) = false := by simpa using hlt
      obtain rfl : i = l.length := by omega
      have Hown' := Hown.out
      rw [List.take_length] at Hown'
      have HO := Lib.hid Hown'; clear Hown' Hown
      go_wp2_with fail
      go_ret
      exact ⟨u5, rfl, HO.out, HB0.out⟩
set_option maxRecDepth 100000 in
set_option maxHeartbeats 2000000 in
theorem rend_calls (l : List UInt8) (hl : l.length ≤ 48) (w : World) : Calls Try.prog 13 #[strOf l] w fun e w' => e = .returned (.complex .f64 (zb (walkOf l).1) (zb (walkOf l).2)) ∧ Below w.heap.size w w' := by
  go_enter Try.func13, Try.ntmps13
  go_wp2_with fail
  refine calls_gen fun V hV_V => ?_
  have hB : Below w.heap.size w V := nB hV_V
  have z_V := zS hV_V
  clear hV_V
  refine (rpath_calls l hl _).mono ?_
  rintro e1 W1 ⟨v, rfl, hown, hb1⟩
  have hB1 := Lib.hid (below_step hB hb1)
  rcases hown.2 with ⟨-, h0⟩ | ⟨g, cap, cur, rfl, hg, hc, -, -, -, -⟩
  · omega
  have hci : W1.cell? ⟨g, l.length, none⟩ = some (.complex .f64 (zb (walkOf l).1) (zb (walkOf l).2)) := by
    have h1 := hown.cellAt l.length (by omega)
    rw [h1]
    unfold pathCells walkOf
    rw [List.getElem?_map, pathOf_last]; rfl
  have n1 : (l.length : Int) < (l.length : Int) + 1 := by omega
  have e1 : wrap64 ((l.length : Int) + 1 - 1) = (l.length : Int) := by rw [show (l.length : Int) + 1 - 1 = (l.length : Int) by omega]; exact step_id l.length 48 hl (by omega)
  clear hown hc hb1 hB
  go_wp2_with fail
  go_ret
  exact ⟨rfl, hB1.out⟩
end
end Go.Proofs.Ytpdpcgmkpgfblaa
/- exact: two that are one are alike. -/
namespace Go.Proofs.Ytpdpcgmkpgfblaa
set_option linter.unusedSimpArgs false
set_option linter.unusedVariables false
set_option linter.unnecessarySimpa false
open Go.RowKit
attribute [local go_sem ↓] Go.wp_at_zero Go.wp_at_succ
theorem run_f64bits (b : Nat) (w : World) : (callFunc 32 #[.float .f64 b]).run Try.prog w = .ok (.value (.int .u64 b)) w := by
  rw [run_callFunc_extern (e := Go.Extern.MathFloatBits.float64bits) Try.func32 (by kernel_rfl) (by kernel_rfl) (by kernel_rfl) (by kernel_rfl)]; rfl
attribute [local go_sem] run_real run_imag run_f64bits
set_option maxHeartbeats 400000 in
theorem exact_calls (x y : Nat) (w : World) : Calls Try.prog 12 #[.complex .f64 x y, .complex .f64 x y] w fun e w' => e = .returned (.bool true) ∧ w = w' := by
  have hx := run_f64bits x
  have hy := run_f64bits y
  go_enter Try.func12, Try.ntmps12
  go_wp2_with fail
  go_ret
  exact ⟨rfl, rfl⟩
end Go.Proofs.Ytpdpcgmkpgfblaa
