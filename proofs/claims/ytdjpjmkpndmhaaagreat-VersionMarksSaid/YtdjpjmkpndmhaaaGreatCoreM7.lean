/- Part 7 of what these laws needs: the walks of the program's functions, and plain facts. -/
import Derived.Test.YtdjpjmkpndmhaaaGreatCoreM6
import Derived.Deep.Slices
import Derived.Deep.Fields
import Derived.ChangeSame
import Derived.WideShapes
import Derived.Test.YtdjpjmkpndmhaaaGreatProg
import Derived.Sort.Grow
import Derived.Shelf.SlSortCmp.NoneTotal
import Derived.Shelf.SlicesQ.Equal
import Derived.Shelf.SlicesE.Equal
import Derived.Shelf.SlicesE.IndexFunc
import Derived.Shelf.SlicesE.DeleteFunc
import Derived.Shelf.Sort.Plain
/- The document's own: the rows in their order (written by gen_sorted.py). -/
namespace Go.Proofs.YtdjpjmkpndmhaaaGreat
set_option linter.unusedSimpArgs false
set_option linter.unusedVariables false
set_option linter.unnecessarySimpa false
open Go.RowKit
attribute [local go_sem ↓] Go.wp_at_zero Go.wp_at_succ
attribute [local go_sem] str_len
theorem rowCells_length (l : List (Nat × Nat)) : (rowCells l).length = l.length * 2 := by unfold rowCells rowInts; rw [itemCells_length, List.length_map]
theorem rowCells_append (a b : List (Nat × Nat)) : rowCells (a ++ b) = rowCells a ++ rowCells b := by unfold rowCells rowInts; rw [List.map_append, itemCells_append]
theorem rowCells_take : ∀ (l : List (Nat × Nat)) (k : Nat), (rowCells l).take (k * 2) = rowCells (l.take k)
  | [], k => by simp [rowCells, rowInts, itemCells]
  | x :: l, 0 => rfl
  | x :: l, k + 1 => by
    have := rowCells_take l k
    rw [show (k + 1) * 2 = k * 2 + 1 + 1 by omega]
    unfold rowCells rowInts at this ⊢
    simp [itemCells, this]
theorem rowCells_drop : ∀ (l : List (Nat × Nat)) (k : Nat), (rowCells l).drop (k * 2) = rowCells (l.drop k)
  | [], k => by simp [rowCells, rowInts, itemCells]
  | x :: l, 0 => rfl
  | x :: l, k + 1 => by
    have := rowCells_drop l k
    rw [show (k + 1) * 2 = k * 2 + 1 + 1 by omega]
    unfold rowCells rowInts at this ⊢
    simp [itemCells, this]
theorem rowCells_one (l : List (Nat × Nat)) : ∀ u ∈ rowCells l, u.oneCell' = true := by
  unfold rowCells rowInts
  induction l with
  | nil => simp [itemCells]
  | cons x l ih =>
    intro u hu
    simp only [List.map_cons, itemCells, List.mem_cons] at hu
    rcases hu with rfl | rfl | hu
    · rfl
    · rfl
    · exact ih u hu
theorem rowCells_at {l : List (Nat × Nat)} {i : Nat} {r : Nat × Nat} (h : l[i]? = some r) : (rowCells l)[i * 2]? = some (.int .i64 (r.1 : Int)) ∧ (rowCells l)[i * 2 + 1]? = some (.int .i64 (r.2 : Int)) := by
  unfold rowCells rowInts
  exact itemCells_at _ i ((r.1 : Int), (r.2 : Int)) (by simp [h])
theorem step_wrap (j n : Nat) (h : j ≤ n) (hn : n ≤ 50000) : wrap64 ((j : Int) + 1) = (j : Int) + 1 := IntWalk.wrap64_in _ (by omega)
set_option maxRecDepth 100000 in
set_option maxHeartbeats 8000000 in
theorem sorted_walk (v : Value) (ts : List (List UInt8)) (hrt : refRight ts = true) (w : World) (h : Rk w 1 v ts.length (ts.map strOf)) :
    Calls Tryz.prog 25 #[v] w fun e w' => ∃ v', e = .returned v' ∧ w'.ownsRow w.heap.size 47 2 v' (refFold ts (upto ts ts.length 0)).length (rowCells (refFold ts (upto ts ts.length 0))) ∧ Below w.heap.size w w' := by
  obtain ⟨hn10, h40⟩ := right_len hrt
  have H40 := Lib.hid h40; clear h40
  have HK := Lib.hid h
  obtain ⟨h1, A, cap, rfl, h2⟩ := h
  clear h1 h2
  go_enter Tryz.func25, Tryz.ntmps25
  go_wp2_with fail
  refine calls_gen fun V0 hV_V0 => ?_
  have hB : Below w.heap.size w V0 := nB hV_V0
  have z_V0 := zS hV_V0
  clear hV_V0
  refine (rright_calls _ ts (by omega) _ (HK.out.below hB)).mono ?_
  rintro e_W0 W0 ⟨rfl, hb_W0⟩
  replace hB := below_step hB hb_W0
  have z_W0 := hb_W0.size
  clear hb_W0
  rw [hrt]
  have HB0 := Lib.hid hB; clear hB
  go_wp2_with fail
  go_loopg [3, 4] ts.length (fun k p q wr => ∃ d : Nat, q = .int .i64 (d : Int) ∧ d + k = ts.length ∧ Hid (wr.ownsRow w.heap.size 47 2 p (refFold ts (upto ts d 0)).length (rowCells (refFold ts (upto ts d 0)))) ∧ Hid (Below w.heap.size w wr))
  case atStart => exact ⟨0, rfl, by omega, Lib.hid (own_nil _ _ _ _), HB0⟩
  case round =>
    clear HB0
    obtain ⟨d, rfl, hk, Hown, HB⟩ := hrel
    by_cases hlt : d < ts.length
    · obtain ⟨k, rfl⟩ : ∃ k, gk = k + 1 := ⟨gk - 1, by omega⟩
      obtain ⟨t, ht⟩ := at_some hlt
      have n1 : decide ((d : Int) < (ts.length : Int)) = true := by simpa using hlt
      have n2 : (d : Int) < (ts.length : Int) := by omega
      have E3 := Lib.hid (step_wrap d 10 (by omega) (by omega))
      have hgd := getD_at ht
      have hlen := H40.out d
      rw [hgd] at hlen
      go_wp2_with fail
      go_loopg [3, 5] (t.length + 1) (fun k2 p q wr => ∃ a : Nat, q = .int .i64 (a : Int) ∧ a + k2 = t.length + 1 ∧ Hid (wr.ownsRow w.heap.size 47 2 p (refFold ts (upto ts d a)).length (rowCells (refFold ts (upto ts d a)))) ∧ Hid (Below w.heap.size w wr))
      case atStart => exact ⟨0, rfl, by omega, Hown, HB⟩
      case round =>
        clear Hown HB
        obtain ⟨a, rfl, hk2, Hown, HB⟩ := hrel
        obtain ⟨-, A', cap', hv, h2⟩ := HK.out.below HB.out
        obtain ⟨g, cs, T, rfl, kg, hcs⟩ := h2 (by omega)
        obtain ⟨rfl, -, rfl⟩ := Value.slice.inj hv
        have hci : cs[d]? = some (strOf t) := by rw [hcs d (by omega), List.getElem?_map, ht]; rfl
        clear h2 hv hcs
        obtain ⟨c_kg, f_kg, l_kg_wr⟩ := f3 kg
        by_cases hla : a ≤ t.length
        · obtain ⟨k2, rfl⟩ : ∃ k, gk = k + 1 := ⟨gk - 1, by omega⟩
          have m1 : decide ((a : Int) ≤ (t.length : Int)) = true := by simp; omega
          have E4 := Lib.hid (step_wrap a 40 (by omega) (by omega))
          have hw0 := HB.out.size
          have hd10 : d ≤ 10 := by omega
          have ha41 : a ≤ 41 := by omega
          have hB := Below.refl wr.heap.size wr
          obtain ⟨c_kg, f_kg, l_kg_wr⟩ := f3 kg
          go_wp2_with fail
          refine wp_gen fun V hV_V => ?_
          have n_kr := hbk hV_V (wr.heap.size)
          simp (maxDischargeDepth := 9) only [BK, not_false_eq_true, reduceCtorEq, kg, l_kg_wr] at n_kr
          replace kg := kK hV_V kg
          replace hB : Below wr.heap.size wr V := nB hV_V
          have z_V := zS hV_V
          clear hV_V c_kg f_kg
          obtain ⟨c_kg, f_kg, l_kg_V⟩ := f3 kg
          have kr := n_kr; clear n_kr
          obtain ⟨c_kr, f_kr, l_kr_V⟩ := f3 kr
          have hownV := own_below Hown.out hB
          have hBV := below_step HB.out hB
          have hszV := hBV.size
          obtain ⟨out, hout⟩ : ∃ out, out = refFold ts (upto ts d a) := ⟨_, rfl⟩
          rw [← hout] at hownV
          have hol : out.length ≤ 500 := by rw [hout]; exact fold_small hrt d a hd10 ha41
          have hval : ∀ x, x ∈ out → ∃ t', ts[x.1]? = some t' ∧ x.2 ≤ t'.length := fun x hx => fold_valid d a t ht hla x (hout ▸ hx)
          obtain ⟨-, A3, c3, rfl, hx3⟩ := Rx.of_own hownV
          have HownV := Lib.hid hownV; have HBV := Lib.hid hBV; have Hval := Lib.hid hval; have Hout := Lib.hid hout; have HX3 := Lib.hid hx3; have KG := Lib.hid kg; have KR := Lib.hid kr
          clear hownV hBV hval hout hx3 Hown kg kr c_kg c_kr f_kg f_kr hB
          generalize hkrb : wr.heap.size = krb at *
          go_loopg [7] out.length (fun k3 p wr => ∃ j : Nat, p = .int .i64 (j : Int) ∧ j + k3 = out.length ∧ Hid (∀ i x, i < j → out[i]? = some x → refLess ts x (d, a) = true) ∧ Below V.heap.size V wr)
          case atStart => exact ⟨0, rfl, by omega, Lib.hid (fun i x hi => absurd hi (by omega)), Below.refl _ _⟩
          case round =>
            obtain ⟨j, rfl, hk3, Hpre, hB2⟩ := hrel
            have hsz2 := hB2.size
            by_cases hj : j < out.length
            · obtain ⟨k3, rfl⟩ : ∃ k, gk = k + 1 := ⟨gk - 1, by omega⟩
              obtain ⟨x, hx⟩ := at_some hj
              obtain ⟨t1, ht1, hx2⟩ := Hval.out x (List.mem_of_getElem? hx)
              obtain ⟨g3, rfl, hg3, hc3⟩ := HX3.out (by omega)
              have c1 : wr.cell? ⟨g3, j * 2, none⟩ = some (.int .i64 (x.1 : Int)) := ((hB2.cell (by exact hg3)).trans (hc3 _ (by omega))).trans (rowCells_at hx).1
              have c2 : wr.cell? ⟨g3, j * 2 + 1, none⟩ = some (.int .i64 (x.2 : Int)) := ((hB2.cell (by exact hg3)).trans (hc3 _ (by omega))).trans (rowCells_at hx).2
              have ck := cells_of (keep_blk hB2 KR.out)
              have l1 : g3 < wr.heap.size := by omega
              have l2 := lt_of (keep_blk hB2 KR.out)
              have j1 : decide ((j : Int) < (out.length : Int)) = true := by simpa using hj
              have j2 : (j : Int) < (out.length : Int) := by omega
              have E5 := Lib.hid (step_wrap j 500 (by omega) (by omega))
              have hlen1 := H40.out x.1
              rw [getD_at ht1] at hlen1
              have hless : Hid (lessL (decide (x.1 < d)) (t1.drop x.2) (t.drop a) = refLess ts x (d, a)) := Lib.hid (by unfold refLess; rw [getD_at ht1, getD_at ht])
              clear hc3
              go_wp2_with fail
              refine wp_region_noPanic ?_
              refine wp_region_held_drew (S := fun v => Below wr.heap.size wr v ∧ (wr.heap.size ≤ v.heap.size) ∧ ∀ b o, b < wr.heap.size → v.cell? ⟨b, o, none⟩ = wr.cell? ⟨b, o, none⟩) (by kernel_rfl) (HeldB.start wr) (fun hHeld => ?_)
              have hB_d : Below wr.heap.size wr wr.drew := (Below.refl _ _).drew
              generalize wr.drew = wrd at hHeld hB_d ⊢
              refine tz 0 rfl hHeld ?_
              try simp only [PT]
              refine tz 1 rfl hHeld ?_
              try simp only [PT]
              refine tz 2 rfl hHeld ?_
              try simp only [PT]
              refine tz 3 rfl hHeld ?_
              try simp only [PT]
              refine tz 4 rfl hHeld ?_
              try simp only [PT]
              refine tz 5 rfl hHeld ?_
              try simp only [PT]
              refine tz 6 rfl hHeld ?_
              try simp only [PT]
              refine tz 7 rfl hHeld ?_
              try simp only [PT]
              refine tz 8 rfl hHeld ?_
              try simp only [PT]
              refine tz 9 rfl hHeld ?_
              try simp only [PT]
              refine tz 10 rfl hHeld ?_
              try simp only [PT]
              refine rd 11 rfl fun K hK => ?_
              go_simp
              refine (less_calls _ ts x.1 x.2 d a t1 t ht1 hx2 ht hla (by omega) _ hless.out _ (HK.out.below (below_step (below_step HBV.out hB2) hB_d))).mono ?_
              rintro e6 W6 ⟨rfl, hb6⟩
              refine hK.out _ _ (HeldB.call hHeld hb6) (fun hHeld => ?_)
              clear hK K
              try simp only [PT]
              have hBX : Below V.heap.size V W6 := below_step hB2 (below_step hB_d hb6)
              cases hR : refLess ts x (d, a) with
              | true =>
                have Hpre2 : Hid (∀ i y, i < j + 1 → out[i]? = some y → refLess ts y (d, a) = true) := Lib.hid (fun i y hi hy => by
                  rcases Nat.lt_or_ge i j with h | h
                  · exact Hpre.out i y h hy
                  · obtain rfl : i = j := by omega
                    rw [hx] at hy; cases hy; exact hR)
                refine tz 12 rfl hHeld ?_
                try simp only [PT]
                refine wpAnyH_done (by kernel_rfl) ?_ _
                refine NoPanic.normal ?_
                clear c1 c2 ck hHeld Hpre
                go_wp2_with fail
                go_roundg k3
                case measure => omega
                case rel => exact ⟨j + 1, by first | rfl | (rw [E5.out]; rfl), by omega, Hpre2, hBX⟩
              | false =>
                have Hat : Hid (refAt ts out (d, a) = j) := Lib.hid (refAt_of (by omega) Hpre.out (fun y hy => by rw [hx] at hy; cases hy; exact hR))
                refine tz 12 rfl hHeld ?_
                try simp only [PT]
                refine wpAnyH_done (by kernel_rfl) ?_ _
                refine NoPanic.normal ?_
                clear c1 c2 ck hHeld Hpre hB_d hb6
                go_wp2_with fail
                have ownX := own_below HownV.out hBX
                have krX := keep_blk hBX KR.out
                have ckX := cells_of krX
                have lkX := lt_of krX
                have q0 : out.length ≤ c3 := own_cap HownV.out
                have q1 : j ≤ c3 := by omega
                have q2 : j ≤ out.length := by omega
                refine wp_region_noPanic ?_
                refine wp_region_held_drew (S := fun v => Below W6.heap.size W6 v ∧ (W6.heap.size ≤ v.heap.size) ∧ ∀ b o, b < W6.heap.size → v.cell? ⟨b, o, none⟩ = W6.cell? ⟨b, o, none⟩) (by kernel_rfl) (HeldB.start W6) (fun hHeld => ?_)
                have hB_d : Below W6.heap.size W6 W6.drew := (Below.refl _ _).drew
                generalize W6.drew = W6d at hHeld hB_d ⊢
                refine tz 0 rfl hHeld ?_
                try simp only [PT]
                refine tz 1 rfl hHeld ?_
                try simp only [PT]
                refine tz 2 rfl hHeld ?_
                try simp only [PT]
                refine tz 4 rfl hHeld ?_
                try simp only [PT]
                refine tz 7 rfl hHeld ?_
                try simp only [PT]
                refine tz 8 rfl hHeld ?_
                try simp only [PT]
                refine tz 9 rfl hHeld ?_
                try simp only [PT]
                have ownD := own_below ownX hB_d
                have hszX := hBX.size
                have hszD := hB_d.size
                skip
                refine wpAnyH_ready (rs := [3, 5]) (by kernel_rfl) (by simp) ?_
                refine ready_at rfl (fun K hK => ?_) (ready_at rfl (fun K hK => ?_) AllReadyH.nil)
                · refine step_moreN (by rfl) _ _ 40 (by rfl) (base := W6.heap.size) (e := 47) (.agg #[.int .i64 0, .int .i64 0]) 2 16 (by omega) Tryz.underlying40 (by kernel_rfl) (by rfl) (v := .slice none 0 0) (by rfl) (own_nil _ _ _ _) (by rfl) (by have := (Rds.of_own (ownD)).part j q2; rw [rowCells_take] at this; exact this) (rowCells_one _) (nm := j) (by omega) (by omega) (by omega) (hHeld.2.1) ?_
                  intro A4 c4 W7 hown7 hlow7 hkeep7
                  refine hK.out _ _ (HeldB.low hHeld hlow7) (fun hHeld => ?_)
                  clear hK K
                  try simp only [PT]
                  refine rd 5 rfl fun K hK => ?_
                  go_simp
                  refine hK.out _ _ (HeldB.alloc hHeld _) (fun hHeld => ?_)
                  clear hK K
                  try simp only [PT]
                  refine rd 6 rfl fun K hK => ?_
                  refine step_moreN (by rfl) _ _ 40 (by rfl) (base := W6.heap.size) (e := 47) (.agg #[.int .i64 0, .int .i64 0]) 2 16 (by omega) Tryz.underlying40 (by kernel_rfl) (by rfl) (v := .slice A4 j c4) (by rfl) (hown7.alloc _) (by rfl) (rds_one W7 #[.int .i64 (d : Int), .int .i64 (a : Int)] 47 2 rfl) (rowCells_one [(d, a)]) (nm := j + 1) (by omega) (by omega) (by omega) (hHeld.2.1) ?_
                  intro A5 c5 W8 hown8 hlow8 hkeep8
                  refine hK.out _ _ (HeldB.low hHeld hlow8) (fun hHeld => ?_)
                  clear hK K
                  try simp only [PT]
                  refine rd 10 rfl fun K hK => ?_
                  refine step_moreN (by rfl) _ _ 40 (by rfl) (base := W6.heap.size) (e := 47) (.agg #[.int .i64 0, .int .i64 0]) 2 16 (by omega) Tryz.underlying40 (by kernel_rfl) (by rfl) (v := .slice A5 (j + 1) c5) (by rfl) (hown8) (by rfl) (by have := (Rds.of_own (own_below ownX hHeld.1)).behind (A' := if c3 = j then some ⟨g3, 0, none⟩ else some ⟨g3, j * 2, none⟩) j (out.length - j) q2 (by omega) (fun h => by first | (exfalso; omega) | (rw [if_neg (by omega)]; simp [add_zero_off])); rw [rowCells_drop] at this; exact this) (rowCells_one _) (nm := out.length + 1) (by omega) (by omega) (by omega) (hHeld.2.1) ?_
                  intro A6 c6 W9 hown9 hlow9 hkeep9
                  refine hK.out _ _ (HeldB.low hHeld hlow9) (fun hHeld => ?_)
                  clear hK K
                  try simp only [PT]
                  have hfin := hHeld.1
                  refine rd 11 rfl fun K hK => ?_
                  go_simp
                  refine hK.out _ _ hHeld (fun hHeld => ?_)
                  clear hK K
                  try simp only [PT]
                  refine wpAnyH_done (by kernel_rfl) ?_ _
                  refine NoPanic.normal ?_
                  have HF : Hid (W9.ownsRow w.heap.size 47 2 (.slice A6 (out.length + 1) c6) (refFold ts (upto ts d (a + 1))).length (rowCells (refFold ts (upto ts d (a + 1))))) := Lib.hid (by
                    rw [upto_snoc, refFold_snoc, ← Hout.out, refIns_length]
                    unfold refIns
                    rw [Hat.out, rowCells_append, show (d, a) :: out.drop j = [(d, a)] ++ out.drop j from rfl, rowCells_append, ← List.append_assoc]
                    exact own_mono hown9 (by omega))
                  have HBF := Lib.hid (below_step (below_step HBV.out hBX) hfin)
                  clear hown9 hlow9 hkeep9 hfin ownX ownD ckX
                  go_wp2_with fail
                  all_goals
                    go_roundg k2
                    case measure => omega
                    case rel => exact ⟨a + 1, by first | rfl | (rw [E4.out]; rfl), by omega, HF, HBF⟩
                · go_simp
                  refine hK.out _ _ (HeldB.alloc hHeld _) (fun hHeld => ?_)
                  clear hK K
                  try simp only [PT]
                  refine rd 3 rfl fun K hK => ?_
                  refine step_moreN (by rfl) _ _ 40 (by rfl) (base := W6.heap.size) (e := 47) (.agg #[.int .i64 0, .int .i64 0]) 2 16 (by omega) Tryz.underlying40 (by kernel_rfl) (by rfl) (v := .slice none 0 0) (by rfl) (own_nil _ _ _ _) (by rfl) (by have := (Rds.of_own (ownD.alloc (.cells #[.int .i64 (d : Int), .int .i64 (a : Int)] 47))).part j q2; rw [rowCells_take] at this; exact this) (rowCells_one _) (nm := j) (by omega) (by omega) (by omega) (hHeld.2.1) ?_
                  intro A4 c4 W7 hown7 hlow7 hkeep7
                  refine hK.out _ _ (HeldB.low hHeld hlow7) (fun hHeld => ?_)
                  clear hK K
                  try simp only [PT]
                  refine rd 6 rfl fun K hK => ?_
                  refine step_moreN (by rfl) _ _ 40 (by rfl) (base := W6.heap.size) (e := 47) (.agg #[.int .i64 0, .int .i64 0]) 2 16 (by omega) Tryz.underlying40 (by kernel_rfl) (by rfl) (v := .slice A4 j c4) (by rfl) (hown7) (by rfl) ((rds_one W6d #[.int .i64 (d : Int), .int .i64 (a : Int)] 47 2 rfl).below (hkeep7 _ (Nat.le_refl _) (by simp [Value.ownBlock]))) (rowCells_one [(d, a)]) (nm := j + 1) (by omega) (by omega) (by omega) (hHeld.2.1) ?_
                  intro A5 c5 W8 hown8 hlow8 hkeep8
                  refine hK.out _ _ (HeldB.low hHeld hlow8) (fun hHeld => ?_)
                  clear hK K
                  try simp only [PT]
                  refine rd 10 rfl fun K hK => ?_
                  refine step_moreN (by rfl) _ _ 40 (by rfl) (base := W6.heap.size) (e := 47) (.agg #[.int .i64 0, .int .i64 0]) 2 16 (by omega) Tryz.underlying40 (by kernel_rfl) (by rfl) (v := .slice A5 (j + 1) c5) (by rfl) (hown8) (by rfl) (by have := (Rds.of_own (own_below ownX hHeld.1)).behind (A' := if c3 = j then some ⟨g3, 0, none⟩ else some ⟨g3, j * 2, none⟩) j (out.length - j) q2 (by omega) (fun h => by first | (exfalso; omega) | (rw [if_neg (by omega)]; simp [add_zero_off])); rw [rowCells_drop] at this; exact this) (rowCells_one _) (nm := out.length + 1) (by omega) (by omega) (by omega) (hHeld.2.1) ?_
                  intro A6 c6 W9 hown9 hlow9 hkeep9
                  refine hK.out _ _ (HeldB.low hHeld hlow9) (fun hHeld => ?_)
                  clear hK K
                  try simp only [PT]
                  have hfin := hHeld.1
                  refine rd 11 rfl fun K hK => ?_
                  go_simp
                  refine hK.out _ _ hHeld (fun hHeld => ?_)
                  clear hK K
                  try simp only [PT]
                  refine wpAnyH_done (by kernel_rfl) ?_ _
                  refine NoPanic.normal ?_
                  have HF : Hid (W9.ownsRow w.heap.size 47 2 (.slice A6 (out.length + 1) c6) (refFold ts (upto ts d (a + 1))).length (rowCells (refFold ts (upto ts d (a + 1))))) := Lib.hid (by
                    rw [upto_snoc, refFold_snoc, ← Hout.out, refIns_length]
                    unfold refIns
                    rw [Hat.out, rowCells_append, show (d, a) :: out.drop j = [(d, a)] ++ out.drop j from rfl, rowCells_append, ← List.append_assoc]
                    exact own_mono hown9 (by omega))
                  have HBF := Lib.hid (below_step (below_step HBV.out hBX) hfin)
                  clear hown9 hlow9 hkeep9 hfin ownX ownD ckX
                  go_wp2_with fail
                  all_goals
                    go_roundg k2
                    case measure => omega
                    case rel => exact ⟨a + 1, by first | rfl | (rw [E4.out]; rfl), by omega, HF, HBF⟩
            · obtain rfl : j = out.length := by omega
              have j1 : decide ((out.length : Int) < (out.length : Int)) = false := by simp
              have Hat : Hid (refAt ts out (d, a) = out.length) := Lib.hid (refAt_of (Nat.le_refl _) Hpre.out (fun y hy => by simp at hy))
              clear Hpre
              go_wp2_with fail
              refine wp_region_noPanic ?_
              refine wp_region_held_drew (S := fun v => Below wr.heap.size wr v ∧ (wr.heap.size ≤ v.heap.size) ∧ ∀ b o, b < wr.heap.size → v.cell? ⟨b, o, none⟩ = wr.cell? ⟨b, o, none⟩) (by kernel_rfl) (HeldB.start wr) (fun hHeld => ?_)
              have hB_d : Below wr.heap.size wr wr.drew := (Below.refl _ _).drew
              generalize wr.drew = wrd at hHeld hB_d ⊢
              refine tz 0 rfl hHeld ?_
              try simp only [PT]
              refine tz 1 rfl hHeld ?_
              try simp only [PT]
              refine tz 2 rfl hHeld ?_
              try simp only [PT]
              refine tz 3 rfl hHeld ?_
              try simp only [PT]
              refine tz 4 rfl hHeld ?_
              try simp only [PT]
              refine take_no (i := 5) rfl (by kernel_rfl) (by kernel_rfl) (by kernel_rfl) (fun _ _ _ h => h) (by rfl) hHeld ?_
              try simp only [PT]
              refine take_no (i := 6) rfl (by kernel_rfl) (by kernel_rfl) (by kernel_rfl) (fun _ _ _ h => h) (by rfl) hHeld ?_
              try simp only [PT]
              refine take_no (i := 7) rfl (by kernel_rfl) (by kernel_rfl) (by kernel_rfl) (fun _ _ _ h => h) (by rfl) hHeld ?_
              try simp only [PT]
              refine take_no (i := 8) rfl (by kernel_rfl) (by kernel_rfl) (by kernel_rfl) (fun _ _ _ h => h) (by rfl) hHeld ?_
              try simp only [PT]
              refine take_no (i := 9) rfl (by kernel_rfl) (by kernel_rfl) (by kernel_rfl) (fun _ _ _ h => h) (by rfl) hHeld ?_
              try simp only [PT]
              refine take_no (i := 10) rfl (by kernel_rfl) (by kernel_rfl) (by kernel_rfl) (fun _ _ _ h => h) (by rfl) hHeld ?_
              try simp only [PT]
              refine take_no (i := 11) rfl (by kernel_rfl) (by kernel_rfl) (by kernel_rfl) (fun _ _ _ h => h) (by rfl) hHeld ?_
              try simp only [PT]
              refine tz 12 rfl hHeld ?_
              try simp only [PT]
              refine wpAnyH_done (by kernel_rfl) ?_ _
              refine NoPanic.normal ?_
              have hBX : Below V.heap.size V wrd := below_step hB2 hB_d
              clear hHeld hB_d
              go_wp2_with fail
              have ownX := own_below HownV.out hBX
              have krX := keep_blk hBX KR.out
              have ckX := cells_of krX
              have lkX := lt_of krX
              have q0 : out.length ≤ c3 := own_cap HownV.out
              have q1 : out.length ≤ c3 := by omega
              have q2 : out.length ≤ out.length := by omega
              refine wp_region_noPanic ?_
              refine wp_region_held_drew (S := fun v => Below wrd.heap.size wrd v ∧ (wrd.heap.size ≤ v.heap.size) ∧ ∀ b o, b < wrd.heap.size → v.cell? ⟨b, o, none⟩ = wrd.cell? ⟨b, o, none⟩) (by kernel_rfl) (HeldB.start wrd) (fun hHeld => ?_)
              have hB_d : Below wrd.heap.size wrd wrd.drew := (Below.refl _ _).drew
              generalize wrd.drew = wrdd at hHeld hB_d ⊢
              refine tz 0 rfl hHeld ?_
              try simp only [PT]
              refine tz 1 rfl hHeld ?_
              try simp only [PT]
              refine tz 2 rfl hHeld ?_
              try simp only [PT]
              refine tz 4 rfl hHeld ?_
              try simp only [PT]
              refine tz 7 rfl hHeld ?_
              try simp only [PT]
              refine tz 8 rfl hHeld ?_
              try simp only [PT]
              refine tz 9 rfl hHeld ?_
              try simp only [PT]
              have ownD := own_below ownX hB_d
              have hszX := hBX.size
              have hszD := hB_d.size
              skip
              refine wpAnyH_ready (rs := [3, 5]) (by kernel_rfl) (by simp) ?_
              refine ready_at rfl (fun K hK => ?_) (ready_at rfl (fun K hK => ?_) AllReadyH.nil)
              · refine step_moreN (by rfl) _ _ 40 (by rfl) (base := wrd.heap.size) (e := 47) (.agg #[.int .i64 0, .int .i64 0]) 2 16 (by omega) Tryz.underlying40 (by kernel_rfl) (by rfl) (v := .slice none 0 0) (by rfl) (own_nil _ _ _ _) (by rfl) (by have := (Rds.of_own (ownD)).part out.length q2; rw [rowCells_take] at this; exact this) (rowCells_one _) (nm := out.length) (by omega) (by omega) (by omega) (hHeld.2.1) ?_
                intro A4 c4 W7 hown7 hlow7 hkeep7
                refine hK.out _ _ (HeldB.low hHeld hlow7) (fun hHeld => ?_)
                clear hK K
                try simp only [PT]
                refine rd 5 rfl fun K hK => ?_
                go_simp
                refine hK.out _ _ (HeldB.alloc hHeld _) (fun hHeld => ?_)
                clear hK K
                try simp only [PT]
                refine rd 6 rfl fun K hK => ?_
                refine step_moreN (by rfl) _ _ 40 (by rfl) (base := wrd.heap.size) (e := 47) (.agg #[.int .i64 0, .int .i64 0]) 2 16 (by omega) Tryz.underlying40 (by kernel_rfl) (by rfl) (v := .slice A4 out.length c4) (by rfl) (hown7.alloc _) (by rfl) (rds_one W7 #[.int .i64 (d : Int), .int .i64 (a : Int)] 47 2 rfl) (rowCells_one [(d, a)]) (nm := out.length + 1) (by omega) (by omega) (by omega) (hHeld.2.1) ?_
                intro A5 c5 W8 hown8 hlow8 hkeep8
                refine hK.out _ _ (HeldB.low hHeld hlow8) (fun hHeld => ?_)
                clear hK K
                try simp only [PT]
                refine rd 10 rfl fun K hK => ?_
                refine step_moreN (by rfl) _ _ 40 (by rfl) (base := wrd.heap.size) (e := 47) (.agg #[.int .i64 0, .int .i64 0]) 2 16 (by omega) Tryz.underlying40 (by kernel_rfl) (by rfl) (v := .slice A5 (out.length + 1) c5) (by rfl) (hown8) (by rfl) (by have := (Rds.of_own (own_below ownX hHeld.1)).behind (A' := if c3 = out.length then A3 else A3.map (·.add (out.length * 2))) out.length 0 q2 (by omega) (fun h => by first | (exfalso; omega) | (rw [if_neg (by omega)]; simp [add_zero_off])); rw [rowCells_drop] at this; exact this) (rowCells_one _) (nm := out.length + 1) (by omega) (by omega) (by omega) (hHeld.2.1) ?_
                intro A6 c6 W9 hown9 hlow9 hkeep9
                refine hK.out _ _ (HeldB.low hHeld hlow9) (fun hHeld => ?_)
                clear hK K
                try simp only [PT]
                have hfin := hHeld.1
                refine rd 11 rfl fun K hK => ?_
                go_simp
                refine hK.out _ _ hHeld (fun hHeld => ?_)
                clear hK K
                try simp only [PT]
                refine wpAnyH_done (by kernel_rfl) ?_ _
                refine NoPanic.normal ?_
                have HF : Hid (W9.ownsRow w.heap.size 47 2 (.slice A6 (out.length + 1) c6) (refFold ts (upto ts d (a + 1))).length (rowCells (refFold ts (upto ts d (a + 1))))) := Lib.hid (by
                  rw [upto_snoc, refFold_snoc, ← Hout.out, refIns_length]
                  unfold refIns
                  rw [Hat.out, rowCells_append, show (d, a) :: out.drop out.length = [(d, a)] ++ out.drop out.length from rfl, rowCells_append, ← List.append_assoc]
                  exact own_mono hown9 (by omega))
                have HBF := Lib.hid (below_step (below_step HBV.out hBX) hfin)
                clear hown9 hlow9 hkeep9 hfin ownX ownD ckX
                go_wp2_with fail
                all_goals
                  go_roundg k2
                  case measure => omega
                  case rel => exact ⟨a + 1, by first | rfl | (rw [E4.out]; rfl), by omega, HF, HBF⟩
              · go_simp
                refine hK.out _ _ (HeldB.alloc hHeld _) (fun hHeld => ?_)
                clear hK K
                try simp only [PT]
                refine rd 3 rfl fun K hK => ?_
                refine step_moreN (by rfl) _ _ 40 (by rfl) (base := wrd.heap.size) (e := 47) (.agg #[.int .i64 0, .int .i64 0]) 2 16 (by omega) Tryz.underlying40 (by kernel_rfl) (by rfl) (v := .slice none 0 0) (by rfl) (own_nil _ _ _ _) (by rfl) (by have := (Rds.of_own (ownD.alloc (.cells #[.int .i64 (d : Int), .int .i64 (a : Int)] 47))).part out.length q2; rw [rowCells_take] at this; exact this) (rowCells_one _) (nm := out.length) (by omega) (by omega) (by omega) (hHeld.2.1) ?_
                intro A4 c4 W7 hown7 hlow7 hkeep7
                refine hK.out _ _ (HeldB.low hHeld hlow7) (fun hHeld => ?_)
                clear hK K
                try simp only [PT]
                refine rd 6 rfl fun K hK => ?_
                refine step_moreN (by rfl) _ _ 40 (by rfl) (base := wrd.heap.size) (e := 47) (.agg #[.int .i64 0, .int .i64 0]) 2 16 (by omega) Tryz.underlying40 (by kernel_rfl) (by rfl) (v := .slice A4 out.length c4) (by rfl) (hown7) (by rfl) ((rds_one wrdd #[.int .i64 (d : Int), .int .i64 (a : Int)] 47 2 rfl).below (hkeep7 _ (Nat.le_refl _) (by simp [Value.ownBlock]))) (rowCells_one [(d, a)]) (nm := out.length + 1) (by omega) (by omega) (by omega) (hHeld.2.1) ?_
                intro A5 c5 W8 hown8 hlow8 hkeep8
                refine hK.out _ _ (HeldB.low hHeld hlow8) (fun hHeld => ?_)
                clear hK K
                try simp only [PT]
                refine rd 10 rfl fun K hK => ?_
                refine step_moreN (by rfl) _ _ 40 (by rfl) (base := wrd.heap.size) (e := 47) (.agg #[.int .i64 0, .int .i64 0]) 2 16 (by omega) Tryz.underlying40 (by kernel_rfl) (by rfl) (v := .slice A5 (out.length + 1) c5) (by rfl) (hown8) (by rfl) (by have := (Rds.of_own (own_below ownX hHeld.1)).behind (A' := if c3 = out.length then A3 else A3.map (·.add (out.length * 2))) out.length 0 q2 (by omega) (fun h => by first | (exfalso; omega) | (rw [if_neg (by omega)]; simp [add_zero_off])); rw [rowCells_drop] at this; exact this) (rowCells_one _) (nm := out.length + 1) (by omega) (by omega) (by omega) (hHeld.2.1) ?_
                intro A6 c6 W9 hown9 hlow9 hkeep9
                refine hK.out _ _ (HeldB.low hHeld hlow9) (fun hHeld => ?_)
                clear hK K
                try simp only [PT]
                have hfin := hHeld.1
                refine rd 11 rfl fun K hK => ?_
                go_simp
                refine hK.out _ _ hHeld (fun hHeld => ?_)
                clear hK K
                try simp only [PT]
                refine wpAnyH_done (by kernel_rfl) ?_ _
                refine NoPanic.normal ?_
                have HF : Hid (W9.ownsRow w.heap.size 47 2 (.slice A6 (out.length + 1) c6) (refFold ts (upto ts d (a + 1))).length (rowCells (refFold ts (upto ts d (a + 1))))) := Lib.hid (by
                  rw [upto_snoc, refFold_snoc, ← Hout.out, refIns_length]
                  unfold refIns
                  rw [Hat.out, rowCells_append, show (d, a) :: out.drop out.length = [(d, a)] ++ out.drop out.length from rfl, rowCells_append, ← List.append_assoc]
                  exact own_mono hown9 (by omega))
                have HBF := Lib.hid (below_step (below_step HBV.out hBX) hfin)
                clear hown9 hlow9 hkeep9 hfin ownX ownD ckX
                go_wp2_with fail
                all_goals
                  go_roundg k2
                  case measure => omega
                  case rel => exact ⟨a + 1, by first | rfl | (rw [E4.out]; rfl), by omega, HF, HBF⟩
        · obtain rfl : a = t.length + 1 := by omega
          have m1 : decide (((t.length + 1 : Nat) : Int) ≤ (t.length : Int)) = false := by simp; omega
          have hown := Hown.out
          rw [← hgd, upto_next] at hown
          have HO := Lib.hid hown; clear hown Hown
          go_wp2_with fail
          go_roundg k
          case measure => omega
          case rel => exact ⟨d + 1, by first | rfl | (rw [E3.out]; rfl), by omega, HO, HB⟩
    · have hi : d = ts.length := by omega
      have n1 : decide ((d : Int) < (ts.length : Int)) = false := by simpa using hlt
      have hown := Hown.out
      rw [hi] at hown
      have HO := Lib.hid hown; clear hown Hown
      go_wp2_with fail
      go_ret
      exact ⟨u3, rfl, HO.out, HB.out⟩
end Go.Proofs.YtdjpjmkpndmhaaaGreat
/- The document's own: the symbols of the rows. -/
namespace Go.Proofs.YtdjpjmkpndmhaaaGreat
set_option linter.unusedSimpArgs false
set_option linter.unusedVariables false
set_option linter.unnecessarySimpa false
open Go.RowKit
attribute [local go_sem ↓] Go.wp_at_zero Go.wp_at_succ
attribute [local go_sem] str_len
theorem sorted_calls (v : Value) (ts : List (List UInt8)) (hn : ts.length ≤ 50000) (w : World) (h : Rk w 1 v ts.length (ts.map strOf)) :
    Calls Tryz.prog 25 #[v] w fun e w' => ∃ v', e = .returned v' ∧ w'.ownsRow w.heap.size 47 2 v' (refSorted ts).length (rowCells (refSorted ts)) ∧ Below w.heap.size w w' := by
  unfold refSorted
  cases hrt : refRight ts with
  | true => rw [if_pos rfl]; exact sorted_walk v ts hrt w h
  | false =>
    rw [if_neg (by decide)]
    have HK := Lib.hid h
    obtain ⟨h1, A, cap, rfl, h2⟩ := h
    clear h1 h2
    go_enter Tryz.func25, Tryz.ntmps25
    go_wp2_with fail
    refine calls_gen fun V0 hV_V0 => ?_
    have hB : Below w.heap.size w V0 := nB hV_V0
    have z_V0 := zS hV_V0
    clear hV_V0
    refine (rright_calls _ ts hn _ (HK.out.below hB)).mono ?_
    rintro e_W0 W0 ⟨rfl, hb_W0⟩
    replace hB := below_step hB hb_W0
    have z_W0 := hb_W0.size
    clear hb_W0
    rw [hrt]
    go_wp2_with fail
    go_ret
    exact ⟨_, rfl, own_nil _ _ _ _, hB⟩
def intCells (l : List Int) : List Value := l.map fun x => .int .i64 x
theorem step_id (j n : Nat) (h : j ≤ n) (hn : n ≤ 50000) : wrap64 (j : Int) = (j : Int) := IntWalk.wrap64_in _ (by omega)
set_option maxRecDepth 100000 in
set_option maxHeartbeats 4000000 in
theorem symbols_calls (v : Value) (ts : List (List UInt8)) (hn : ts.length ≤ 50000) (hn2 : ∀ t, t ∈ ts → t.length ≤ 50000) (w : World) (h : Rk w 1 v ts.length (ts.map strOf)) :
    Calls Tryz.prog 39 #[v] w fun e w' => ∃ v', e = .returned v' ∧ w'.ownsRow w.heap.size 3 1 v' (refSorted ts).length (intCells ((refSorted ts).map (symOf ts))) ∧ Below w.heap.size w w' := by
  obtain ⟨R, hR⟩ : ∃ R, R = refSorted ts := ⟨_, rfl⟩
  rw [← hR]
  have HK := Lib.hid h
  obtain ⟨h1, A, cap, rfl, h2⟩ := h
  have hval : ∀ x, x ∈ R → ∃ t, ts[x.1]? = some t ∧ x.2 ≤ t.length := fun x hx => sorted_valid (hR ▸ hx)
  have hsm : R.length ≤ 500 := by rw [hR]; exact sorted_small ts
  have Hval := Lib.hid hval; have HR := Lib.hid hR
  clear h1 h2 hval hR
  go_enter Tryz.func39, Tryz.ntmps39
  go_wp2_with fail
  refine calls_gen fun V0 hV_V0 => ?_
  have hB : Below w.heap.size w V0 := nB hV_V0
  have z_V0 := zS hV_V0
  clear hV_V0
  refine (sorted_calls _ ts hn _ (HK.out.below hB)).mono ?_
  rintro e1 W1 ⟨v1, rfl, hown1, hb1⟩
  have hB1 := below_step hB hb1
  rw [← HR.out] at hown1
  obtain ⟨-, A1, c1, rfl, hx1⟩ := Rx.of_own hown1
  have HX := Lib.hid (Rk.of_own hown1); have HB1 := Lib.hid hB1
  have hsz1 := hB1.size
  clear hown1 hb1 hB hB1 hx1
  go_wp2_with fail
  go_loopg [4, 5] R.length (fun k p q wr => ∃ i : Nat, q = .int .i64 (i : Int) ∧ i + k = R.length ∧ Hid (wr.ownsRow W1.heap.size 3 1 p i (intCells ((R.take i).map (symOf ts)))) ∧ Hid (Below W1.heap.size W1 wr))
  case atStart => exact ⟨0, rfl, by omega, Lib.hid (own_nil _ _ _ _), Lib.hid (Below.refl _ _)⟩
  case round =>
    obtain ⟨i, rfl, hk, Hown, HB⟩ := hrel
    by_cases hlt : i < R.length
    · obtain ⟨k, rfl⟩ : ∃ k, gk = k + 1 := ⟨gk - 1, by omega⟩
      obtain ⟨x, hx⟩ := at_some hlt
      obtain ⟨t, ht, hxt⟩ := Hval.out x (List.mem_of_getElem? hx)
      obtain ⟨-, A', cap', hv, h2⟩ := HX.out
      obtain ⟨g1, cs1, T1, rfl, kg1', hcs1⟩ := h2 (by omega)
      have kg1 := keep_blk HB.out kg1'
      have w1a := cells_of kg1'
      have w1l := lt_of kg1'
      obtain ⟨rfl, -, rfl⟩ := Value.slice.inj hv
      have c1a : cs1[i * 2]? = some (.int .i64 (x.1 : Int)) := (hcs1 _ (by omega)).trans (rowCells_at hx).1
      have c1b : cs1[i * 2 + 1]? = some (.int .i64 (x.2 : Int)) := (hcs1 _ (by omega)).trans (rowCells_at hx).2
      clear h2 hv hcs1
      have htake : Hid (intCells ((R.take (i + 1)).map (symOf ts)) = intCells ((R.take i).map (symOf ts)) ++ [.int .i64 (symOf ts x)]) := Lib.hid (by
        unfold intCells
        rw [List.take_succ_eq_append_getElem hlt, List.map_append, List.map_append, (List.getElem_eq_iff hlt).2 hx]; rfl)
      have n1 : decide ((i : Int) < (R.length : Int)) = true := by simpa using hlt
      have n2 : (i : Int) < (R.length : Int) := by omega
      have E3 := Lib.hid (step_wrap i 500 (by omega) (by omega))
      have hw1 := HB.out.size
      by_cases h0 : x.2 = 0
      · have hs : Hid (symOf ts x = 0) := Lib.hid (by unfold symOf; rw [if_pos h0])
        have d0 : ((x.2 : Int) == 0) = true := by rw [h0]; rfl
        clear h0 hxt
        obtain ⟨c_kg1, f_kg1, l_kg1_wr⟩ := f3 kg1
        go_wp2_with (at_builtin; refine wpList_push _ (by rfl) _ _ 62 (by rfl) (W1.heap.size) 3 (.int .i64 0) 1 8 Tryz.underlying62 (by kernel_rfl) (by rfl) (by omega) _ _ _ (by rfl) Hown.out _ (by rfl) (by rfl) (by simp [Value.oneCell']) (by unfold maxLen; omega) (by omega) (by omega) ?_; intro g_W c_W W5 hown_W hlow_W hlt_W)
        go_wp2_with fail
        go_roundg k
        case measure => omega
        case rel => exact ⟨i + 1, by first | rfl | (rw [E3.out]; rfl), by omega, Lib.hid (by rw [htake.out, hs.out]; exact hown_W), Lib.hid (low_step HB.out (Nat.le_refl _) hlow_W)⟩
      · obtain ⟨j, hj⟩ : ∃ j : Nat, x.2 = j + 1 := ⟨x.2 - 1, by omega⟩
        obtain ⟨b, hb⟩ := at_some (show j < t.length by omega)
        have htl := hn2 t (List.mem_of_getElem? ht)
        have hs : Hid (symOf ts x = (b.toNat : Int) + 1) := Lib.hid (by unfold symOf; rw [if_neg h0, getD_at ht, hj]; simp [List.getD, hb])
        have d0 : ((x.2 : Int) == 0) = false := by rw [beq_eq_false_iff_ne]; omega
        obtain ⟨hd, -⟩ := List.getElem?_eq_some_iff.1 ht
        obtain ⟨-, A2, cap2, hv2, h3⟩ := HK.out.below HB1.out
        obtain ⟨g2, cs2, T2, rfl, kg2', hcs2⟩ := h3 (by omega)
        have kg2 := keep_blk HB.out kg2'
        have w2a := cells_of kg2'
        have w2l := lt_of kg2'
        obtain ⟨rfl, -, rfl⟩ := Value.slice.inj hv2
        have c2a : cs2[x.1]? = some (strOf t) := by rw [hcs2 _ (by omega), List.getElem?_map, ht]; rfl
        have n3 : (x.1 : Int) < (ts.length : Int) := by omega
        have hix := str_index t j b hb
        have e6 : Hid (wrap64 ((x.2 : Int) - 1) = (j : Int)) := Lib.hid (by rw [hj, IntWalk.wrap64_in _ (by omega)]; omega)
        have hb8 := b.toNat_lt
        have e7 : wrap64 ((b.toNat : Int) + 1) = (b.toNat : Int) + 1 := IntWalk.wrap64_in _ (by omega)
        have E7 := Lib.hid e7; clear e7
        have hxj : (x.2 : Int) = (j : Int) + 1 := by omega
        rw [hxj] at c1b d0
        have e9 : wrap64 (j : Int) = (j : Int) := step_id j t.length (by omega) (by omega)
        have E9 := Lib.hid e9; clear e9
        have E10 := Lib.hid (step_id b.toNat 256 (by omega) (by omega))
        have e8 : wrap64 ((j : Int) + 1 - 1) = (j : Int) := by rw [show (j : Int) + 1 - 1 = (j : Int) by omega]; exact step_id j t.length (by omega) (by omega)
        clear h0 hxt h3 hv2 hcs2 hb e6 hxj
        obtain ⟨c_kg1, f_kg1, l_kg1_wr⟩ := f3 kg1
        obtain ⟨c_kg2, f_kg2, l_kg2_wr⟩ := f3 kg2
        go_wp2_with fail
        refine wp_region_noPanic ?_
        refine wp_region_held_drew (S := fun v => Below W1.heap.size W1 v ∧ (W1.heap.size ≤ v.heap.size) ∧ ∀ b o, b < W1.heap.size → v.cell? ⟨b, o, none⟩ = W1.cell? ⟨b, o, none⟩) (by kernel_rfl) (HeldB.of HB.out.drew) (fun hHeld => ?_)
        have hB_d : Below wr.heap.size wr wr.drew := (Below.refl _ _).drew
        generalize wr.drew = wrd at hHeld hB_d ⊢
        have e9 := E9.out
        have e7 := E7.out
        have e10 : wrap64 (b.toNat : Int) = (b.toNat : Int) := E10.out
        refine tz 0 rfl hHeld ?_
        try simp only [PT]
        refine tz 1 rfl hHeld ?_
        try simp only [PT]
        refine tz 2 rfl hHeld ?_
        try simp only [PT]
        refine tz 3 rfl hHeld ?_
        try simp only [PT]
        refine tz 4 rfl hHeld ?_
        try simp only [PT]
        refine tz 5 rfl hHeld ?_
        try simp only [PT]
        refine tz 6 rfl hHeld ?_
        try simp only [PT]
        refine tz 7 rfl hHeld ?_
        try simp only [PT]
        refine tz 8 rfl hHeld ?_
        try simp only [PT]
        refine tz 9 rfl hHeld ?_
        try simp only [PT]
        refine tz 10 rfl hHeld ?_
        try simp only [PT]
        refine tz 11 rfl hHeld ?_
        try simp only [PT]
        refine tz 12 rfl hHeld ?_
        try simp only [PT]
        refine tz 13 rfl hHeld ?_
        try simp only [PT]
        refine tz 14 rfl hHeld ?_
        try simp only [PT]
        refine tz 15 rfl hHeld ?_
        try simp only [PT]
        refine tz 16 rfl hHeld ?_
        try simp only [PT]
        refine tz 17 rfl hHeld ?_
        try simp only [PT]
        simp only [e7]
        clear e7 e8 e9 e10
        refine rd 18 rfl fun K hK => ?_
        go_simp
        refine hK.out _ _ (HeldB.alloc hHeld _) (fun hHeld => ?_)
        clear hK K
        try simp only [PT]
        refine rd 19 rfl fun K hK => ?_
        refine step_moreN (by rfl) _ _ 62 (by rfl) (base := W1.heap.size) (e := 3) (.int .i64 0) 1 8 (by omega) Tryz.underlying62 (by kernel_rfl) (by rfl) (v := u4) (by rfl) ((own_below Hown.out hB_d).alloc _) (by rfl) (rds_one wrd #[.int .i64 ((b.toNat : Int) + 1)] 3 1 rfl) (by simp [Value.oneCell']) (nm := i + 1) rfl (by omega) (by omega) (by rw [siz_alloc]; have := hB_d.size; omega) ?_
        intro A5 c5 W8 hown8 hlow8 hkeep8
        have HB8 := Lib.hid (low_step (hHeld.1) (Nat.le_refl _) hlow8)
        refine hK.out _ _ (HeldB.of HB8.out) (fun hHeld => ?_)
        clear hK K
        try simp only [PT]
        refine rd 20 rfl fun K hK => ?_
        go_simp
        refine hK.out _ _ hHeld (fun hHeld => ?_)
        clear hK K
        try simp only [PT]
        refine wpAnyH_done (by kernel_rfl) ?_ _
        refine NoPanic.normal ?_
        have HO8 : Hid (W8.ownsRow W1.heap.size 3 1 (.slice A5 (i + 1) c5) (i + 1) (intCells ((R.take (i + 1)).map (symOf ts)))) := Lib.hid (by rw [htake.out, hs.out]; exact hown8)
        clear hown8 hlow8 hkeep8 w1a w2a hHeld
        go_wp2_with fail
        go_roundg k
        case measure => omega
        case rel => exact ⟨i + 1, by first | rfl | (rw [E3.out]; rfl), by omega, HO8, HB8⟩
    · have hi : i = R.length := by omega
      have n1 : decide ((i : Int) < (R.length : Int)) = false := by simpa using hlt
      have hown := Hown.out
      rw [hi, List.take_length] at hown
      have HO := Lib.hid (own_mono hown hsz1); clear hown Hown
      have HBF := Lib.hid (below_step HB1.out HB.out)
      go_wp2_with fail
      go_ret
      exact ⟨u4, rfl, HO.out, HBF.out⟩
end Go.Proofs.YtdjpjmkpndmhaaaGreat
/- The laws' helper Build. -/
namespace Go.Proofs.YtdjpjmkpndmhaaaGreat
set_option linter.unusedSimpArgs false
set_option linter.unusedVariables false
set_option linter.unnecessarySimpa false
open Go.RowKit
attribute [local go_sem ↓] Go.wp_at_zero Go.wp_at_succ
attribute [local go_sem] str_len
variable {ap : Value} {s : Ar} {O : Nat → Prop}
theorem cell_same {w w' : World} {a : Addr} (h : w'.heap[a.block]? = w.heap[a.block]?) : w'.cell? a = w.cell? a := by
 unfold World.cell?
 rw [h]
/-- A row of documents behind what leaves its block alone. -/
theorem Rd2.fr {w w' : World} {X O O' : Nat → Prop} {ad : Addr} {cap : Nat} {ds : List (Int × List UInt8)} (h : Rd2 w (.slice (some ad) ds.length cap) ds) (hF : Fr X O O' w w') (h1 : ¬ O ad.block) (h2 : ¬ X ad.block) : Rd2 w' (.slice (some ad) ds.length cap) ds := by
 obtain ⟨A, c, hv, hc⟩ := h
 obtain ⟨rfl, -, rfl⟩ := Value.slice.inj hv
 refine ⟨_, _, rfl, fun hn => ?_⟩
 obtain ⟨ad', ha, hlt, hc⟩ := hc hn
 obtain rfl := Option.some.inj ha
 have hb := hF.block _ hlt h1 h2
 refine ⟨ad, rfl, Nat.lt_of_lt_of_le hlt hF.size, fun i d hd => ?_⟩
 obtain ⟨c0, c1, c2⟩ := hc i d hd
 have hb' : w'.heap[(ad.add (i * 2)).block]? = w.heap[(ad.add (i * 2)).block]? := by rw [block_of_add]; exact hb
 exact ⟨Nat.lt_of_lt_of_le c0 hF.size, (cell_same hb').trans c1, (cell_same (by exact hb')).trans c2⟩
theorem below_fr {w W1 W2 : World} {O O' : Nat → Prop} (hb : Below w.heap.size w W1) (hF : Fr noX O O' W1 W2) (hO : ∀ b, O b → w.heap.size ≤ b) : Below w.heap.size w W2 :=
 ⟨hF.os.trans hb.os, hF.tape.trans hb.tape, hF.output.trans hb.output, Nat.le_trans hb.size hF.size, fun k hk => (hF.block k (Nat.lt_of_lt_of_le hk hb.size) (fun h => by have := hO k h; omega) (fun h => h)).trans (hb.block k hk)⟩
theorem bRows_ok {rate : Int} : ∀ {l : List (Int × Int × Int)} {i : Int} {b b' : Bst}, bRows rate l i b = some b' → b'.ok = true → b.ok = true
 | [], i, b, b', h, ho => by cases h; exact ho
 | x :: l, i, b, b', h, ho => by
  unfold bRows at h
  cases hb : b.ok with
  | true => rfl
  | false => rw [hb, if_neg (by decide)] at h; cases h; rw [hb] at ho; cases ho
set_option maxRecDepth 100000 in
set_option maxHeartbeats 8000000 in
theorem build_calls (rate : Int) (hr1 : 1 ≤ rate) (hr2 : rate ≤ 1000) (ds : List (Int × List UInt8)) (ad : Addr) (cap : Nat) (hne : ds ≠ []) (hrt : refRight (ds.map (·.2)) = true) (w : World) (hD : Rd2 w (.slice (some ad) ds.length cap) ds) (hO : ¬ O ad.block) (hA : AP w ap s O)
  (B1 B2 : Bst) (h1 : bRows rate (rowsM ds) 0 ⟨s, true, Parts.zero, 0⟩ = some B1) (ho1 : B1.ok = true) (h2 : bTable (docsM ds) B1 = some B2) (ho2 : B2.ok = true) (root : Int) (s' : Ar) (h3 : bEnd B2 = some (root, true, s')) :
  Calls Tryz.prog 18 #[ap, .int .i64 rate, .slice (some ad) ds.length cap] w fun e w' => e = .returned (.tuple #[.int .i64 root, .bool true]) ∧ Did noX ap s' O w w' := by
 have hlen : 0 < ds.length := List.length_pos_iff.2 hne
 obtain ⟨hn10, h40⟩ := right_len hrt
 rw [List.length_map] at hn10
 have d0 : ((ds.length : Int) == 0) = false := by rw [beq_eq_false_iff_ne]; omega
 have HD := Lib.hid hD; have H1 := Lib.hid h1; have H2 := Lib.hid h2; have H3 := Lib.hid h3; have H40 := Lib.hid h40; have HO := Lib.hid hO
 clear hD h1 h2 h3 h40 hne
 obtain ⟨ts, hts⟩ : ∃ ts, ts = ds.map (·.2) := ⟨_, rfl⟩
 have htl : ts.length = ds.length := by rw [hts, List.length_map]
 rw [← hts] at hrt
 have H40' : Hid (∀ t, t ∈ ts → t.length ≤ 50000) := Lib.hid (fun t ht => by
  obtain ⟨i, hi, rfl⟩ := List.getElem_of_mem ht
  have := (right_len hrt).2 i
  rw [getD_at (List.getElem?_eq_getElem hi)] at this
  omega)
 have Hts := Lib.hid hts; clear hts
 obtain ⟨q, rfl⟩ := hA.ptr
 go_enter Tryz.func18, Tryz.ntmps18
 go_wp2_with fail
 refine calls_gen fun V0 hV_V0 => ?_
 have n_ka := hbk hV_V0 (w.heap.size)
 simp (maxDischargeDepth := 9) only [BK, not_false_eq_true, reduceCtorEq] at n_ka
 have o_ka : ¬ O (w.heap.size) := by first | exact hA.new (Nat.le_refl _) | exact hA.new (by omega)
 have hF : Fr (noX) O O w V0 := nF hV_V0
 replace hA : AP V0 (.pointer q) s O := nA hV_V0
 have z_V0 := zS hV_V0
 clear hV_V0
 have ka := n_ka; clear n_ka
 obtain ⟨c_ka, f_ka, l_ka_V0⟩ := f3 ka
 have hAV0 := hA
 refine (texts_calls _ ds (by omega) _ (HD.out.fr hF HO.out (fun h => h))).mono ?_
 rintro e_W0 W0 ⟨v0, rfl, hown0, hb_W0⟩
 replace hA := hA.below hb_W0
 replace hF := hF.below hb_W0
 replace ka := keep_blk hb_W0 ka
 have z_W0 := hb_W0.size
 clear hb_W0 c_ka f_ka
 obtain ⟨c_ka, f_ka, l_ka_W0⟩ := f3 ka
 have hge0 : ∀ g, v0.ownBlock = some g → V0.heap.size ≤ g := fun g hg => (hown0.lt g hg).1
 obtain ⟨hl0, A0, c0, rfl, hx0⟩ := Rk.of_own hown0
 obtain ⟨g0, cs0, T0, rfl, kx, hcs0⟩ := hx0 (by omega)
 have o_kx : ¬ O g0 := fun h => by have := hAV0.lt h; have := hge0 g0 rfl; omega
 have HX0 : Hid (∀ V : World, V.heap[g0]? = some (.cells cs0 T0 (0, 0)) → Rk V 1 (.slice (some ⟨g0, 0, none⟩) ds.length c0) ts.length (ts.map strOf)) := Lib.hid (fun V hV => by
  rw [Hts.out, List.length_map]
  exact ⟨hl0, _, _, rfl, fun _ => ⟨g0, cs0, T0, rfl, hV, hcs0⟩⟩)
 clear hAV0 hown0 hge0 hl0 hx0 hcs0
 obtain ⟨c_kx, f_kx, l_kx_W0⟩ := f3 kx
 go_wp2_with fail
 refine calls_gen fun V1 hV_V1 => ?_
 replace ka := kK hV_V1 ka
 replace kx := kK hV_V1 kx
 replace hF : Fr (noX) O O w V1 := nF hV_V1
 replace hA : AP V1 (.pointer q) s O := nA hV_V1
 have z_V1 := zS hV_V1
 clear hV_V1 c_ka f_ka c_kx f_kx
 obtain ⟨c_ka, f_ka, l_ka_V1⟩ := f3 ka
 obtain ⟨c_kx, f_kx, l_kx_V1⟩ := f3 kx
 have hAV1 := hA
 refine (sorted_calls _ ts (by omega) _ (HX0.out _ kx)).mono ?_
 rintro e_W1 W1 ⟨v1, rfl, hown1, hb_W1⟩
 replace hA := hA.below hb_W1
 replace hF := hF.below hb_W1
 replace ka := keep_blk hb_W1 ka
 replace kx := keep_blk hb_W1 kx
 have z_W1 := hb_W1.size
 clear hb_W1 c_ka f_ka c_kx f_kx
 obtain ⟨c_ka, f_ka, l_ka_W1⟩ := f3 ka
 obtain ⟨c_kx, f_kx, l_kx_W1⟩ := f3 kx
 have hge1 : ∀ g, v1.ownBlock = some g → V1.heap.size ≤ g := fun g hg => (hown1.lt g hg).1
 have hRpos : 0 < (refSorted ts).length := by
  unfold refSorted; rw [if_pos hrt, refFold_length]
  obtain ⟨n, hn⟩ : ∃ n, ts.length = n + 1 := ⟨ts.length - 1, by omega⟩
  rw [hn, ← upto_next, upto_snoc]; simp
 obtain ⟨hl1, A1, c1, rfl, hx1⟩ := Rk.of_own hown1
 obtain ⟨g1, cs1, T1, rfl, kr, hcs1⟩ := hx1 hRpos
 have o_kr : ¬ O g1 := fun h => by have := hAV1.lt h; have := hge1 g1 rfl; omega
 have hrows : Hid (∀ (i : Nat) (r : Nat × Nat), (refSorted ts)[i]? = some r → cs1[i * 2]? = some (Value.int .i64 (r.1 : Int)) ∧ cs1[i * 2 + 1]? = some (Value.int .i64 (r.2 : Int))) := Lib.hid (fun (i : Nat) (r : Nat × Nat) hr => by
  have hi := (List.getElem?_eq_some_iff.1 hr).1
  exact ⟨(hcs1 _ (by omega)).trans (rowCells_at hr).1, (hcs1 _ (by omega)).trans (rowCells_at hr).2⟩)
 clear hAV1 hown1 hge1 hl1 hx1 hcs1
 obtain ⟨c_kr, f_kr, l_kr_W1⟩ := f3 kr
 go_wp2_with fail
 refine calls_gen fun V2 hV_V2 => ?_
 replace ka := kK hV_V2 ka
 replace kx := kK hV_V2 kx
 replace kr := kK hV_V2 kr
 replace hF : Fr (noX) O O w V2 := nF hV_V2
 replace hA : AP V2 (.pointer q) s O := nA hV_V2
 have z_V2 := zS hV_V2
 clear hV_V2 c_ka f_ka c_kx f_kx c_kr f_kr
 obtain ⟨c_ka, f_ka, l_ka_V2⟩ := f3 ka
 obtain ⟨c_kx, f_kx, l_kx_V2⟩ := f3 kx
 obtain ⟨c_kr, f_kr, l_kr_V2⟩ := f3 kr
 have hAV2 := hA
 refine (symbols_calls _ ts (by omega) H40'.out _ (HX0.out _ kx)).mono ?_
 rintro e_W2 W2 ⟨v2, rfl, hown2, hb_W2⟩
 replace hA := hA.below hb_W2
 replace hF := hF.below hb_W2
 replace ka := keep_blk hb_W2 ka
 replace kx := keep_blk hb_W2 kx
 replace kr := keep_blk hb_W2 kr
 have z_W2 := hb_W2.size
 clear hb_W2 c_ka f_ka c_kx f_kx c_kr f_kr
 obtain ⟨c_ka, f_ka, l_ka_W2⟩ := f3 ka
 obtain ⟨c_kx, f_kx, l_kx_W2⟩ := f3 kx
 obtain ⟨c_kr, f_kr, l_kr_W2⟩ := f3 kr
 have hge2 : ∀ g, v2.ownBlock = some g → V2.heap.size ≤ g := fun g hg => (hown2.lt g hg).1
 obtain ⟨hl2, A2, c2, rfl, hx2⟩ := Rk.of_own hown2
 obtain ⟨g2, cs2, T2, rfl, ks, hcs2⟩ := hx2 hRpos
 have o_ks : ¬ O g2 := fun h => by have := hAV2.lt h; have := hge2 g2 rfl; omega
 have hsyms : Hid (∀ (i : Nat) (r : Nat × Nat), (refSorted ts)[i]? = some r → cs2[i]? = some (Value.int .i64 (symOf ts r))) := Lib.hid (fun (i : Nat) (r : Nat × Nat) hr => by
  have hi := (List.getElem?_eq_some_iff.1 hr).1
  refine (hcs2 _ (by omega)).trans ?_
  unfold intCells; rw [List.getElem?_map, List.getElem?_map, hr]; rfl)
 clear hAV2 hown2 hge2 hl2 hx2 hcs2
 obtain ⟨c_ks, f_ks, l_ks_W2⟩ := f3 ks
 have hl2 := lt_of ks
 have hl1 := lt_of kr
 go_wp2_with fail
 refine wp_gen fun V3 hV_V3 => ?_
 have n_kp := hbk hV_V3 (W2.heap.size)
 simp (maxDischargeDepth := 9) only [BK, not_false_eq_true, reduceCtorEq, ka, kx, kr, ks, l_ka_V0, l_ka_W0, l_kx_W0, l_ka_V1, l_kx_V1, l_ka_W1, l_kx_W1, l_kr_W1, l_ka_V2, l_kx_V2, l_kr_V2, l_ka_W2, l_kx_W2, l_kr_W2, l_ks_W2] at n_kp
 have n_kt := hbk hV_V3 (W2.heap.size + 1)
 simp (maxDischargeDepth := 9) only [BK, not_false_eq_true, reduceCtorEq, ka, kx, kr, ks, l_ka_V0, l_ka_W0, l_kx_W0, l_ka_V1, l_kx_V1, l_ka_W1, l_kx_W1, l_kr_W1, l_ka_V2, l_kx_V2, l_kr_V2, l_ka_W2, l_kx_W2, l_kr_W2, l_ks_W2] at n_kt
 have o_kp : ¬ O (W2.heap.size) := by first | exact hA.new (Nat.le_refl _) | exact hA.new (by omega)
 have o_kt : ¬ O (W2.heap.size + 1) := by first | exact hA.new (Nat.le_refl _) | exact hA.new (by omega)
 replace ka := kK hV_V3 ka
 replace kr := kK hV_V3 kr
 replace ks := kK hV_V3 ks
 replace hF : Fr (noX) O O w V3 := nF hV_V3
 replace hA : AP V3 (.pointer q) s O := nA hV_V3
 have z_V3 := zS hV_V3
 clear hV_V3 c_ka f_ka kx c_kx f_kx c_kr f_kr c_ks f_ks
 obtain ⟨c_ka, f_ka, l_ka_V3⟩ := f3 ka
 obtain ⟨c_kr, f_kr, l_kr_V3⟩ := f3 kr
 obtain ⟨c_ks, f_ks, l_ks_V3⟩ := f3 ks
 have kp := n_kp; clear n_kp
 obtain ⟨c_kp, f_kp, l_kp_V3⟩ := f3 kp
 have kt := n_kt; clear n_kt
 obtain ⟨c_kt, f_kt, l_kt_V3⟩ := f3 kt
 obtain ⟨R, hR⟩ : ∃ R, R = refSorted ts := ⟨_, rfl⟩
 rw [← hR] at hrows hsyms hRpos
 have hsm : R.length ≤ 500 := by rw [hR]; exact sorted_small ts
 have hlt1 : ∀ (i : Nat) (r : Nat × Nat), R[i]? = some r → ∃ d, ds[r.1]? = some d ∧ (rowsM ds)[i]? = some (d.1, (r.2 : Int), symOf ts r) := by
  intro i r hr
  obtain ⟨t, ht, -⟩ := sorted_valid (hR ▸ List.mem_of_getElem? hr)
  have h1 := (List.getElem?_eq_some_iff.1 ht).1
  obtain ⟨d, hd⟩ := at_some (show r.1 < ds.length by omega)
  refine ⟨d, hd, ?_⟩
  unfold rowsM
  rw [← Hts.out, ← hR, List.getElem?_map, hr]
  simp [List.getD, hd]
 have hLlen : (rowsM ds).length = R.length := by unfold rowsM; rw [← Hts.out, ← hR, List.length_map]
 have Hlt1 := Lib.hid hlt1; have HR := Lib.hid hR
 simp only [← hR]
 clear hlt1 hR
 have hneq : g1 ≠ W2.heap.size ∧ g1 ≠ W2.heap.size + 1 ∧ g2 ≠ W2.heap.size ∧ g2 ≠ W2.heap.size + 1 ∧ w.heap.size ≠ W2.heap.size ∧ w.heap.size ≠ W2.heap.size + 1 ∧ w.heap.size < W2.heap.size := by
  have := lt_of ka
  omega
 obtain ⟨ne1, ne2, ne3, ne4, ne5, ne6, hww⟩ := hneq
 have hY : ∀ x, twoX W2.heap.size (W2.heap.size + 1) x → w.heap.size ≤ x := by
  intro x hx
  rcases hx with rfl | rfl <;> omega
 have hdoc : Hid (Rd2 V3 (.slice (some ad) ds.length cap) ds) := Lib.hid (HD.out.fr hF HO.out (fun h => h))
 have HF3 := Lib.hid hF
 go_loopg [14, 40] R.length (fun k p1 p2 wr => ∃ (i : Nat) (st : Bst) (O' : Nat → Prop), p1 = .int .i64 st.n ∧ p2 = .int .i64 (i : Int) ∧ i + k = R.length ∧ AP wr (.pointer q) st.s O' ∧ Hid (Fr noX O O' w wr)
  ∧ wr.heap[W2.heap.size]? = some (.cells #[.int .i64 st.p.wave, .int .i64 st.p.marks, .int .i64 st.p.spots, .int .i64 st.p.table] 30 (0, 0)) ∧ wr.heap[W2.heap.size + 1]? = some (.cells #[.bool st.ok] 4 (0, 0)) ∧ wr.heap[w.heap.size]? = some (.cells #[.pointer q] 25 (0, 0))
  ∧ wr.heap[g1]? = some (.cells cs1 T1 (0, 0)) ∧ wr.heap[g2]? = some (.cells cs2 T2 (0, 0)) ∧ ¬ O' (W2.heap.size) ∧ ¬ O' (W2.heap.size + 1) ∧ ¬ O' w.heap.size ∧ ¬ O' g1 ∧ ¬ O' g2 ∧ ¬ O' ad.block ∧ Hid (Rd2 wr (.slice (some ad) ds.length cap) ds) ∧ Hid (bRows rate ((rowsM ds).drop i) i st = some B1))
 case atStart => exact ⟨0, _, O, rfl, rfl, by omega, hA, HF3, kp, kt, ka, kr, ks, o_kp, o_kt, o_ka, o_kr, o_ks, HO.out, hdoc, H1⟩
 case round =>
  clear ka kr ks kp kt c_ka c_kr c_ks c_kp c_kt f_ka f_kr f_ks f_kp f_kt hA hF hdoc HF3 o_kp o_kt o_ka o_kr o_ks
  obtain ⟨i, st, O1, rfl, rfl, hk, hA, HF, kp, kt, ka, kr, ks, o_kp, o_kt, o_ka, o_kr, o_ks, oD, hdoc, Hb⟩ := hrel
  have hok := bRows_ok Hb.out ho1
  by_cases hlt : i < R.length
  ·
   obtain ⟨k, rfl⟩ : ∃ k, gk = k + 1 := ⟨gk - 1, by omega⟩
   obtain ⟨r, hr⟩ := at_some hlt
   obtain ⟨d, hd, hx⟩ := Hlt1.out i r hr
   have hb := Hb.out
   rw [drop_at hx] at hb
   unfold bRows at hb
   rw [hok, if_pos rfl] at hb
   obtain ⟨st2, hst2, hb2⟩ := Option.bind_eq_some_iff.1 hb
   unfold bStep at hst2
   obtain ⟨r1, hr1', hst2⟩ := Option.bind_eq_some_iff.1 hst2
   dsimp only at hr1' hst2
   obtain ⟨r2, hr2', hst2⟩ := Option.bind_eq_some_iff.1 hst2
   obtain ⟨t1, ht1⟩ : ∃ t, nextA st.ok st.p.wave r1 = t := ⟨_, rfl⟩
   rw [ht1] at hr2' hst2
   obtain ⟨t2, ht2⟩ : ∃ t, nextA t1.2.1 st.p.marks r2 = t := ⟨_, rfl⟩
   rw [ht2] at hst2
   have Hr1 := Lib.hid hr1'; have Hr2 := Lib.hid hr2'; have Hst2 := Lib.hid hst2; have Hb2 := Lib.hid hb2; have Ht1 := Lib.hid ht1; have Ht2 := Lib.hid ht2
   obtain ⟨rc1, rc2⟩ := hrows.out i r hr
   have rc3 := hsyms.out i r hr
   have n1 : decide ((i : Int) < (R.length : Int)) = true := by simpa using hlt
   have n2 : (i : Int) < (R.length : Int) := by omega
   have E3 := Lib.hid (step_wrap i 500 (by omega) (by omega))
   have hd1 := (List.getElem?_eq_some_iff.1 hd).1
   have n3 : (r.1 : Int) < (ds.length : Int) := by omega
   have Hd := Lib.hid hd; have Hlt := Lib.hid hlt
   clear hb hr1' hr2' hst2 hb2 ht1 ht2 hr hx hd hlt Hb hd1
   have hF := Fr.refl ((twoX W2.heap.size (W2.heap.size + 1))) O1 wr
   obtain ⟨c_ka, f_ka, l_ka_wr⟩ := f3 ka
   obtain ⟨c_kr, f_kr, l_kr_wr⟩ := f3 kr
   obtain ⟨c_ks, f_ks, l_ks_wr⟩ := f3 ks
   obtain ⟨c_kp, f_kp, l_kp_wr⟩ := f3 kp
   obtain ⟨c_kt, f_kt, l_kt_wr⟩ := f3 kt
   go_wp2_with fail
   refine wp_gen fun V4 hV_V4 => ?_
   replace ka := kK hV_V4 ka
   replace kr := kK hV_V4 kr
   replace ks := kK hV_V4 ks
   replace kp := kK hV_V4 kp
   replace kt := kK hV_V4 kt
   replace hF : Fr ((twoX W2.heap.size (W2.heap.size + 1))) O1 O1 wr V4 := nF hV_V4
   replace hA : AP V4 (.pointer q) st.s O1 := nA hV_V4
   have z_V4 := zS hV_V4
   clear hV_V4 c_ka f_ka c_kr f_kr c_ks f_ks c_kp f_kp c_kt f_kt
   obtain ⟨c_ka, f_ka, l_ka_V4⟩ := f3 ka
   obtain ⟨c_kr, f_kr, l_kr_V4⟩ := f3 kr
   obtain ⟨c_ks, f_ks, l_ks_V4⟩ := f3 ks
   obtain ⟨c_kp, f_kp, l_kp_V4⟩ := f3 kp
   obtain ⟨c_kt, f_kt, l_kt_V4⟩ := f3 kt
   refine wp_region_noPanic ?_
   refine wp_region_held_drew (S := fun v => (∀ o, v.cell? ⟨w.heap.size, o, none⟩ = V4.cell? ⟨w.heap.size, o, none⟩) ∧ (∀ o, v.cell? ⟨g1, o, none⟩ = V4.cell? ⟨g1, o, none⟩) ∧ (∀ o, v.cell? ⟨g2, o, none⟩ = V4.cell? ⟨g2, o, none⟩) ∧ (∀ o, v.cell? ⟨W2.heap.size, o, none⟩ = V4.cell? ⟨W2.heap.size, o, none⟩) ∧ (∀ o, v.cell? ⟨W2.heap.size + 1, o, none⟩ = V4.cell? ⟨W2.heap.size + 1, o, none⟩) ∧ (V4.heap.size ≤ v.heap.size) ∧ True) (by kernel_rfl) ⟨(fun _ => rfl), (fun _ => rfl), (fun _ => rfl), (fun _ => rfl), (fun _ => rfl), (Nat.le_refl _), trivial⟩ (fun hHeld => ?_)
   generalize hV_V4d : V4.drew = V4d at hHeld ⊢
   have d_ka := dK hV_V4d ka
   have d_kr := dK hV_V4d kr
   have d_ks := dK hV_V4d ks
   have d_kp := dK hV_V4d kp
   have d_kt := dK hV_V4d kt
   clear c_ka f_ka c_kr f_kr c_ks f_ks c_kp f_kp c_kt f_kt
   replace hA := hA.drew; rw [hV_V4d] at hA
   replace hF := hF.drew; rw [hV_V4d] at hF
   have z_V4d := dZ hV_V4d
   have v_ka := cells_of ka
   have v_kr := cells_of kr
   have v_ks := cells_of ks
   have v_kp := cells_of kp
   have v_kt := cells_of kt
   clear ka; have ka := d_ka; clear d_ka
   clear kr; have kr := d_kr; clear d_kr
   clear ks; have ks := d_ks; clear d_ks
   clear kp; have kp := d_kp; clear d_kp
   clear kt; have kt := d_kt; clear d_kt
   obtain ⟨c_ka, f_ka, l_ka_V4d⟩ := f3 ka
   obtain ⟨c_kr, f_kr, l_kr_V4d⟩ := f3 kr
   obtain ⟨c_ks, f_ks, l_ks_V4d⟩ := f3 ks
   obtain ⟨c_kp, f_kp, l_kp_V4d⟩ := f3 kp
   obtain ⟨c_kt, f_kt, l_kt_V4d⟩ := f3 kt
   clear hV_V4d
   refine tz 0 rfl hHeld ?_
   try simp only [PT]
   refine tz 1 rfl hHeld ?_
   try simp only [PT]
   refine tz 2 rfl hHeld ?_
   try simp only [PT]
   refine tz 3 rfl hHeld ?_
   try simp only [PT]
   refine tz 4 rfl hHeld ?_
   try simp only [PT]
   refine tz 5 rfl hHeld ?_
   try simp only [PT]
   refine tz 6 rfl hHeld ?_
   try simp only [PT]
   refine tz 7 rfl hHeld ?_
   try simp only [PT]
   refine rd 8 rfl fun K hK => ?_
   go_simp
   try simp only [IntWalk.i64_left]
   refine (wInsert_calls st.s O1 _ _ _ r1 Hr1.out _ hA).mono ?_
   rintro e_W5 W5 ⟨rfl, O2, hA_W5, hf_W5⟩
   have q_ka := hf_W5.keep ka o_ka (fun h => h)
   have q_kr := hf_W5.keep kr o_kr (fun h => h)
   have q_ks := hf_W5.keep ks o_ks (fun h => h)
   have q_kp := hf_W5.keep kp o_kp (fun h => h)
   have q_kt := hf_W5.keep kt o_kt (fun h => h)
   replace o_ka := hf_W5.not_own (lt_of ka) o_ka
   clear ka c_ka f_ka; have ka := q_ka; clear q_ka
   obtain ⟨c_ka, f_ka, l_ka_W5⟩ := f3 ka
   replace o_kr := hf_W5.not_own (lt_of kr) o_kr
   clear kr c_kr f_kr; have kr := q_kr; clear q_kr
   obtain ⟨c_kr, f_kr, l_kr_W5⟩ := f3 kr
   replace o_ks := hf_W5.not_own (lt_of ks) o_ks
   clear ks c_ks f_ks; have ks := q_ks; clear q_ks
   obtain ⟨c_ks, f_ks, l_ks_W5⟩ := f3 ks
   replace o_kp := hf_W5.not_own (lt_of kp) o_kp
   clear kp c_kp f_kp; have kp := q_kp; clear q_kp
   obtain ⟨c_kp, f_kp, l_kp_W5⟩ := f3 kp
   replace o_kt := hf_W5.not_own (lt_of kt) o_kt
   clear kt c_kt f_kt; have kt := q_kt; clear q_kt
   obtain ⟨c_kt, f_kt, l_kt_W5⟩ := f3 kt
   replace hF := hF.trans hf_W5.widen
   have z_W5 := hf_W5.size
   clear hA hf_W5; have hA := hA_W5; clear hA_W5
   refine hK.out _ _ ⟨(fun o => (c_ka o).trans (v_ka o).symm), (fun o => (c_kr o).trans (v_kr o).symm), (fun o => (c_ks o).trans (v_ks o).symm), (fun o => (c_kp o).trans (v_kp o).symm), (fun o => (c_kt o).trans (v_kt o).symm), (by omega), trivial⟩ (fun hHeld => ?_)
   clear hK K
   try simp only [PT]
   refine tz 9 rfl hHeld ?_
   try simp only [PT]
   refine tz 10 rfl hHeld ?_
   try simp only [PT]
   refine tz 11 rfl hHeld ?_
   try simp only [PT]
   refine rd 12 rfl fun K hK => ?_
   go_simp
   refine hK.out _ _ hHeld (fun hHeld => ?_)
   clear hK K
   try simp only [PT]
   refine rd 13 rfl fun K hK => ?_
   go_simp
   refine hK.out _ _ hHeld (fun hHeld => ?_)
   clear hK K
   try simp only [PT]
   refine wpAnyH_done (by kernel_rfl) ?_ _
   refine NoPanic.normal ?_
   go_wp2_with fail
   refine calls_gen fun V5 hV_V5 => ?_
   replace ka := kK hV_V5 ka
   replace kr := kK hV_V5 kr
   replace ks := kK hV_V5 ks
   replace kp := kK hV_V5 kp
   replace kt := kK hV_V5 kt
   replace hF : Fr ((twoX W2.heap.size (W2.heap.size + 1))) O1 O2 wr V5 := nF hV_V5
   replace hA : AP V5 (.pointer q) r1.2.2 O2 := nA hV_V5
   have z_V5 := zS hV_V5
   clear hV_V5 c_ka f_ka c_kr f_kr c_ks f_ks c_kp f_kp c_kt f_kt
   obtain ⟨c_ka, f_ka, l_ka_V5⟩ := f3 ka
   obtain ⟨c_kr, f_kr, l_kr_V5⟩ := f3 kr
   obtain ⟨c_ks, f_ks, l_ks_V5⟩ := f3 ks
   obtain ⟨c_kp, f_kp, l_kp_V5⟩ := f3 kp
   obtain ⟨c_kt, f_kt, l_kt_V5⟩ := f3 kt
   refine (next_t (W2.heap.size + 1) w.heap.size st.ok st.p.wave r1 t1 Ht1.out _ hA kt ka o_kt o_ka ne6).mono ?_
   rintro e_W6 W6 ⟨rfl, O3, hT_W6, hf_W6⟩
   have q_ka := hf_W6.keep ka o_ka (by unfold oneX; omega)
   have q_kr := hf_W6.keep kr o_kr (by unfold oneX; omega)
   have q_ks := hf_W6.keep ks o_ks (by unfold oneX; omega)
   have q_kp := hf_W6.keep kp o_kp (by unfold oneX; omega)
   replace o_ka := hf_W6.not_own (lt_of ka) o_ka
   clear ka; have ka := q_ka; clear q_ka
   obtain ⟨c_ka, f_ka, l_ka_W6⟩ := f3 ka
   replace o_kr := hf_W6.not_own (lt_of kr) o_kr
   clear kr; have kr := q_kr; clear q_kr
   obtain ⟨c_kr, f_kr, l_kr_W6⟩ := f3 kr
   replace o_ks := hf_W6.not_own (lt_of ks) o_ks
   clear ks; have ks := q_ks; clear q_ks
   obtain ⟨c_ks, f_ks, l_ks_W6⟩ := f3 ks
   replace o_kp := hf_W6.not_own (lt_of kp) o_kp
   clear kp; have kp := q_kp; clear q_kp
   obtain ⟨c_kp, f_kp, l_kp_W6⟩ := f3 kp
   clear kt c_kt f_kt o_kt; have kt := hT_W6.blk; have o_kt := hT_W6.no
   obtain ⟨c_kt, f_kt, l_kt_W6⟩ := f3 kt
   replace hF := hF.trans (hf_W6.mono (fun x h => Or.inr h))
   have z_W6 := hf_W6.size
   clear hA hf_W6; have hA := hT_W6.hA; clear hT_W6
   go_wp2_with fail
   refine calls_gen fun V6 hV_V6 => ?_
   replace ka := kK hV_V6 ka
   replace kr := kK hV_V6 kr
   replace ks := kK hV_V6 ks
   replace kp := kK hV_V6 kp
   replace kt := kK hV_V6 kt
   replace hF : Fr ((twoX W2.heap.size (W2.heap.size + 1))) O1 O3 wr V6 := nF hV_V6
   replace hA : AP V6 (.pointer q) ((⟨t1.2.2, 0⟩ : Tb)).s O3 := nA hV_V6
   have z_V6 := zS hV_V6
   clear hV_V6 c_ka f_ka c_kr f_kr c_ks f_ks c_kp f_kp c_kt f_kt
   obtain ⟨c_ka, f_ka, l_ka_V6⟩ := f3 ka
   obtain ⟨c_kr, f_kr, l_kr_V6⟩ := f3 kr
   obtain ⟨c_ks, f_ks, l_ks_V6⟩ := f3 ks
   obtain ⟨c_kp, f_kp, l_kp_V6⟩ := f3 kp
   obtain ⟨c_kt, f_kt, l_kt_V6⟩ := f3 kt
   have hadlt : ad.block < w.heap.size := by
    obtain ⟨A, c, hv, hc⟩ := HD.out
    obtain ⟨rfl, -, rfl⟩ := Value.slice.inj hv
    obtain ⟨ad', ha, hlt, -⟩ := hc hlen
    obtain rfl := Option.some.inj ha
    exact hlt
   have hX : ¬ twoX W2.heap.size (W2.heap.size + 1) ad.block := by unfold twoX; omega
   by_cases hm : (r.2 : Int) % rate = 0
   ·
    have m1 : ((r.2 : Int) % rate == 0) = true := by rw [hm]; rfl
    have hst := Hst2.out
    rw [if_pos hm] at hst
    obtain ⟨r3, hr3', hst⟩ := Option.bind_eq_some_iff.1 hst
    obtain ⟨u, hu, hst⟩ := Option.map_eq_some_iff.1 hst
    obtain ⟨t3, ht3⟩ : ∃ t, nextA t2.2.1 st.p.spots r3 = t := ⟨_, rfl⟩
    rw [ht3] at hu hst
    have Hr3 := Lib.hid hr3'; have Hu := Lib.hid hu; have Hst := Lib.hid hst; have Ht3 := Lib.hid ht3; have Hm := Lib.hid hm
    have e2 : decide ((r.2 : Int) % rate = 0) = ((r.2 : Int) % rate == 0) := rfl
    have Hr2' : Hid (bInsert t1.2.2 st.p.marks (i : Int) ((r.2 : Int) % rate == 0) = some r2) := Lib.hid Hr2.out
    rw [m1] at Hr2' ⊢
    clear hst hr3' hu ht3 hm e2
    refine (bInsert_calls (s := t1.2.2) _ _ _ r2 Hr2'.out _ hA).mono ?_
    rintro e_W7 W7 ⟨rfl, O4, hA_W7, hf_W7⟩
    have q_ka := hf_W7.keep ka o_ka (fun h => h)
    have q_kr := hf_W7.keep kr o_kr (fun h => h)
    have q_ks := hf_W7.keep ks o_ks (fun h => h)
    have q_kp := hf_W7.keep kp o_kp (fun h => h)
    have q_kt := hf_W7.keep kt o_kt (fun h => h)
    replace o_ka := hf_W7.not_own (lt_of ka) o_ka
    clear ka c_ka f_ka; have ka := q_ka; clear q_ka
    obtain ⟨c_ka, f_ka, l_ka_W7⟩ := f3 ka
    replace o_kr := hf_W7.not_own (lt_of kr) o_kr
    clear kr c_kr f_kr; have kr := q_kr; clear q_kr
    obtain ⟨c_kr, f_kr, l_kr_W7⟩ := f3 kr
    replace o_ks := hf_W7.not_own (lt_of ks) o_ks
    clear ks c_ks f_ks; have ks := q_ks; clear q_ks
    obtain ⟨c_ks, f_ks, l_ks_W7⟩ := f3 ks
    replace o_kp := hf_W7.not_own (lt_of kp) o_kp
    clear kp c_kp f_kp; have kp := q_kp; clear q_kp
    obtain ⟨c_kp, f_kp, l_kp_W7⟩ := f3 kp
    replace o_kt := hf_W7.not_own (lt_of kt) o_kt
    clear kt c_kt f_kt; have kt := q_kt; clear q_kt
    obtain ⟨c_kt, f_kt, l_kt_W7⟩ := f3 kt
    replace hF := hF.trans hf_W7.widen
    have z_W7 := hf_W7.size
    clear hA hf_W7; have hA := hA_W7; clear hA_W7
    go_wp2_with fail
    refine calls_gen fun V7 hV_V7 => ?_
    replace ka := kK hV_V7 ka
    replace kr := kK hV_V7 kr
    replace ks := kK hV_V7 ks
    replace kp := kK hV_V7 kp
    replace kt := kK hV_V7 kt
    replace hF : Fr ((twoX W2.heap.size (W2.heap.size + 1))) O1 O4 wr V7 := nF hV_V7
    replace hA : AP V7 (.pointer q) r2.2.2 O4 := nA hV_V7
    have z_V7 := zS hV_V7
    clear hV_V7 c_ka f_ka c_kr f_kr c_ks f_ks c_kp f_kp c_kt f_kt
    obtain ⟨c_ka, f_ka, l_ka_V7⟩ := f3 ka
    obtain ⟨c_kr, f_kr, l_kr_V7⟩ := f3 kr
    obtain ⟨c_ks, f_ks, l_ks_V7⟩ := f3 ks
    obtain ⟨c_kp, f_kp, l_kp_V7⟩ := f3 kp
    obtain ⟨c_kt, f_kt, l_kt_V7⟩ := f3 kt
    refine (next_t (W2.heap.size + 1) w.heap.size t1.2.1 st.p.marks r2 t2 Ht2.out _ hA kt ka o_kt o_ka ne6).mono ?_
    rintro e_W8 W8 ⟨rfl, O5, hT_W8, hf_W8⟩
    have q_ka := hf_W8.keep ka o_ka (by unfold oneX; omega)
    have q_kr := hf_W8.keep kr o_kr (by unfold oneX; omega)
    have q_ks := hf_W8.keep ks o_ks (by unfold oneX; omega)
    have q_kp := hf_W8.keep kp o_kp (by unfold oneX; omega)
    replace o_ka := hf_W8.not_own (lt_of ka) o_ka
    clear ka; have ka := q_ka; clear q_ka
    obtain ⟨c_ka, f_ka, l_ka_W8⟩ := f3 ka
    replace o_kr := hf_W8.not_own (lt_of kr) o_kr
    clear kr; have kr := q_kr; clear q_kr
    obtain ⟨c_kr, f_kr, l_kr_W8⟩ := f3 kr
    replace o_ks := hf_W8.not_own (lt_of ks) o_ks
    clear ks; have ks := q_ks; clear q_ks
    obtain ⟨c_ks, f_ks, l_ks_W8⟩ := f3 ks
    replace o_kp := hf_W8.not_own (lt_of kp) o_kp
    clear kp; have kp := q_kp; clear q_kp
    obtain ⟨c_kp, f_kp, l_kp_W8⟩ := f3 kp
    clear kt c_kt f_kt o_kt; have kt := hT_W8.blk; have o_kt := hT_W8.no
    obtain ⟨c_kt, f_kt, l_kt_W8⟩ := f3 kt
    replace hF := hF.trans (hf_W8.mono (fun x h => Or.inr h))
    have z_W8 := hf_W8.size
    clear hA hf_W8; have hA := hT_W8.hA; clear hT_W8
    go_wp2_with fail
    refine wp_gen fun V8 hV_V8 => ?_
    replace ka := kK hV_V8 ka
    replace kr := kK hV_V8 kr
    replace ks := kK hV_V8 ks
    replace kp := kK hV_V8 kp
    replace kt := kK hV_V8 kt
    replace hF : Fr ((twoX W2.heap.size (W2.heap.size + 1))) O1 O5 wr V8 := nF hV_V8
    replace hA : AP V8 (.pointer q) ((⟨t2.2.2, 0⟩ : Tb)).s O5 := nA hV_V8
    have z_V8 := zS hV_V8
    clear hV_V8 c_ka f_ka c_kr f_kr c_ks f_ks c_kp f_kp c_kt f_kt
    obtain ⟨c_ka, f_ka, l_ka_V8⟩ := f3 ka
    obtain ⟨c_kr, f_kr, l_kr_V8⟩ := f3 kr
    obtain ⟨c_ks, f_ks, l_ks_V8⟩ := f3 ks
    obtain ⟨c_kp, f_kp, l_kp_V8⟩ := f3 kp
    obtain ⟨c_kt, f_kt, l_kt_V8⟩ := f3 kt
    obtain ⟨c_d_lt, c_d, -⟩ : (ad.add (r.1 * 2)).block < V8.heap.size ∧ V8.cell? (ad.add (r.1 * 2)) = some (.int .i64 d.1) ∧ True := by
     obtain ⟨A, c, hv, hc⟩ := hdoc.out.fr hF oD hX
     obtain ⟨rfl, -, rfl⟩ := Value.slice.inj hv
     obtain ⟨ad', ha, hlt, hc⟩ := hc hlen
     obtain rfl := Option.some.inj ha
     obtain ⟨q1, q2, -⟩ := hc r.1 d Hd.out
     exact ⟨q1, q2, trivial⟩
    have c_d_no : ¬ O5 (ad.add (r.1 * 2)).block := by
     rw [block_of_add]
     exact hF.not_own (by have := hF.size; omega) oD
    refine wp_region_noPanic ?_
    refine wp_region_held_drew (S := fun v => (v.cell? (ad.add (r.1 * 2)) = some (.int .i64 d.1)) ∧ (∀ o, v.cell? ⟨w.heap.size, o, none⟩ = V8.cell? ⟨w.heap.size, o, none⟩) ∧ (∀ o, v.cell? ⟨g1, o, none⟩ = V8.cell? ⟨g1, o, none⟩) ∧ (∀ o, v.cell? ⟨g2, o, none⟩ = V8.cell? ⟨g2, o, none⟩) ∧ (∀ o, v.cell? ⟨W2.heap.size, o, none⟩ = V8.cell? ⟨W2.heap.size, o, none⟩) ∧ (∀ o, v.cell? ⟨W2.heap.size + 1, o, none⟩ = V8.cell? ⟨W2.heap.size + 1, o, none⟩) ∧ (V8.heap.size ≤ v.heap.size) ∧ True) (by kernel_rfl) ⟨c_d, (fun _ => rfl), (fun _ => rfl), (fun _ => rfl), (fun _ => rfl), (fun _ => rfl), (Nat.le_refl _), trivial⟩ (fun hHeld => ?_)
    generalize hV_V8d : V8.drew = V8d at hHeld ⊢
    have d_ka := dK hV_V8d ka
    have d_kr := dK hV_V8d kr
    have d_ks := dK hV_V8d ks
    have d_kp := dK hV_V8d kp
    have d_kt := dK hV_V8d kt
    clear c_ka f_ka c_kr f_kr c_ks f_ks c_kp f_kp c_kt f_kt
    replace c_d : V8d.cell? (ad.add (r.1 * 2)) = some (.int .i64 d.1) := by rw [← hV_V8d]; exact c_d
    replace c_d_lt : ((ad.add (r.1 * 2))).block < V8d.heap.size := by rw [← hV_V8d]; exact c_d_lt
    replace hA := hA.drew; rw [hV_V8d] at hA
    replace hF := hF.drew; rw [hV_V8d] at hF
    have z_V8d := dZ hV_V8d
    have v_ka := cells_of ka
    have v_kr := cells_of kr
    have v_ks := cells_of ks
    have v_kp := cells_of kp
    have v_kt := cells_of kt
    clear ka; have ka := d_ka; clear d_ka
    clear kr; have kr := d_kr; clear d_kr
    clear ks; have ks := d_ks; clear d_ks
    clear kp; have kp := d_kp; clear d_kp
    clear kt; have kt := d_kt; clear d_kt
    obtain ⟨c_ka, f_ka, l_ka_V8d⟩ := f3 ka
    obtain ⟨c_kr, f_kr, l_kr_V8d⟩ := f3 kr
    obtain ⟨c_ks, f_ks, l_ks_V8d⟩ := f3 ks
    obtain ⟨c_kp, f_kp, l_kp_V8d⟩ := f3 kp
    obtain ⟨c_kt, f_kt, l_kt_V8d⟩ := f3 kt
    clear hV_V8d
    refine tz 0 rfl hHeld ?_
    try simp only [PT]
    refine tz 1 rfl hHeld ?_
    try simp only [PT]
    refine tz 2 rfl hHeld ?_
    try simp only [PT]
    refine tz 3 rfl hHeld ?_
    try simp only [PT]
    refine tz 4 rfl hHeld ?_
    try simp only [PT]
    refine tz 5 rfl hHeld ?_
    try simp only [PT]
    refine tz 6 rfl hHeld ?_
    try simp only [PT]
    refine tz 7 rfl hHeld ?_
    try simp only [PT]
    refine tz 8 rfl hHeld ?_
    try simp only [PT]
    refine tz 9 rfl hHeld ?_
    try simp only [PT]
    refine tz 10 rfl hHeld ?_
    try simp only [PT]
    refine tz 11 rfl hHeld ?_
    try simp only [PT]
    refine tz 12 rfl hHeld ?_
    try simp only [PT]
    refine tz 13 rfl hHeld ?_
    try simp only [PT]
    refine tz 14 rfl hHeld ?_
    try simp only [PT]
    refine tz 15 rfl hHeld ?_
    try simp only [PT]
    refine tz 16 rfl hHeld ?_
    try simp only [PT]
    refine tz 17 rfl hHeld ?_
    try simp only [PT]
    refine tz 18 rfl hHeld ?_
    try simp only [PT]
    refine rd 19 rfl fun K hK => ?_
    go_simp
    try simp only [IntWalk.i64_left]
    refine (lInsert_calls (s := t2.2.2) _ _ (d.1, (r.2 : Int)) r3 Hr3.out _ hA).mono ?_
    rintro e_W9 W9 ⟨rfl, O6, hA_W9, hf_W9⟩
    have q_ka := hf_W9.keep ka o_ka (fun h => h)
    have q_kr := hf_W9.keep kr o_kr (fun h => h)
    have q_ks := hf_W9.keep ks o_ks (fun h => h)
    have q_kp := hf_W9.keep kp o_kp (fun h => h)
    have q_kt := hf_W9.keep kt o_kt (fun h => h)
    replace o_ka := hf_W9.not_own (lt_of ka) o_ka
    clear ka c_ka f_ka; have ka := q_ka; clear q_ka
    obtain ⟨c_ka, f_ka, l_ka_W9⟩ := f3 ka
    replace o_kr := hf_W9.not_own (lt_of kr) o_kr
    clear kr c_kr f_kr; have kr := q_kr; clear q_kr
    obtain ⟨c_kr, f_kr, l_kr_W9⟩ := f3 kr
    replace o_ks := hf_W9.not_own (lt_of ks) o_ks
    clear ks c_ks f_ks; have ks := q_ks; clear q_ks
    obtain ⟨c_ks, f_ks, l_ks_W9⟩ := f3 ks
    replace o_kp := hf_W9.not_own (lt_of kp) o_kp
    clear kp c_kp f_kp; have kp := q_kp; clear q_kp
    obtain ⟨c_kp, f_kp, l_kp_W9⟩ := f3 kp
    replace o_kt := hf_W9.not_own (lt_of kt) o_kt
    clear kt c_kt f_kt; have kt := q_kt; clear q_kt
    obtain ⟨c_kt, f_kt, l_kt_W9⟩ := f3 kt
    replace c_d := (cell_same (hf_W9.block _ c_d_lt c_d_no (fun h => h))).trans c_d
    clear c_d_lt c_d_no
    replace hF := hF.trans hf_W9.widen
    have z_W9 := hf_W9.size
    clear hA hf_W9; have hA := hA_W9; clear hA_W9
    refine hK.out _ _ ⟨c_d, (fun o => (c_ka o).trans (v_ka o).symm), (fun o => (c_kr o).trans (v_kr o).symm), (fun o => (c_ks o).trans (v_ks o).symm), (fun o => (c_kp o).trans (v_kp o).symm), (fun o => (c_kt o).trans (v_kt o).symm), (by omega), trivial⟩ (fun hHeld => ?_)
    clear hK K
    try simp only [PT]
    refine tz 20 rfl hHeld ?_
    try simp only [PT]
    refine tz 21 rfl hHeld ?_
    try simp only [PT]
    refine tz 22 rfl hHeld ?_
    try simp only [PT]
    refine rd 23 rfl fun K hK => ?_
    go_simp
    refine hK.out _ _ hHeld (fun hHeld => ?_)
    clear hK K
    try simp only [PT]
    refine rd 24 rfl fun K hK => ?_
    go_simp
    refine hK.out _ _ hHeld (fun hHeld => ?_)
    clear hK K
    try simp only [PT]
    refine wpAnyH_done (by kernel_rfl) ?_ _
    refine NoPanic.normal ?_
    go_wp2_with fail
    refine calls_gen fun V9 hV_V9 => ?_
    replace ka := kK hV_V9 ka
    replace kr := kK hV_V9 kr
    replace ks := kK hV_V9 ks
    replace kp := kK hV_V9 kp
    replace kt := kK hV_V9 kt
    replace hF : Fr ((twoX W2.heap.size (W2.heap.size + 1))) O1 O6 wr V9 := nF hV_V9
    replace hA : AP V9 (.pointer q) r3.2.2 O6 := nA hV_V9
    have z_V9 := zS hV_V9
    clear hV_V9 c_ka f_ka c_kr f_kr c_ks f_ks c_kp f_kp c_kt f_kt
    obtain ⟨c_ka, f_ka, l_ka_V9⟩ := f3 ka
    obtain ⟨c_kr, f_kr, l_kr_V9⟩ := f3 kr
    obtain ⟨c_ks, f_ks, l_ks_V9⟩ := f3 ks
    obtain ⟨c_kp, f_kp, l_kp_V9⟩ := f3 kp
    obtain ⟨c_kt, f_kt, l_kt_V9⟩ := f3 kt
    refine (next_t (W2.heap.size + 1) w.heap.size t2.2.1 st.p.spots r3 t3 Ht3.out _ hA kt ka o_kt o_ka ne6).mono ?_
    rintro e_W10 W10 ⟨rfl, O7, hT_W10, hf_W10⟩
    have q_ka := hf_W10.keep ka o_ka (by unfold oneX; omega)
    have q_kr := hf_W10.keep kr o_kr (by unfold oneX; omega)
    have q_ks := hf_W10.keep ks o_ks (by unfold oneX; omega)
    have q_kp := hf_W10.keep kp o_kp (by unfold oneX; omega)
    replace o_ka := hf_W10.not_own (lt_of ka) o_ka
    clear ka; have ka := q_ka; clear q_ka
    obtain ⟨c_ka, f_ka, l_ka_W10⟩ := f3 ka
    replace o_kr := hf_W10.not_own (lt_of kr) o_kr
    clear kr; have kr := q_kr; clear q_kr
    obtain ⟨c_kr, f_kr, l_kr_W10⟩ := f3 kr
    replace o_ks := hf_W10.not_own (lt_of ks) o_ks
    clear ks; have ks := q_ks; clear q_ks
    obtain ⟨c_ks, f_ks, l_ks_W10⟩ := f3 ks
    replace o_kp := hf_W10.not_own (lt_of kp) o_kp
    clear kp; have kp := q_kp; clear q_kp
    obtain ⟨c_kp, f_kp, l_kp_W10⟩ := f3 kp
    clear kt c_kt f_kt o_kt; have kt := hT_W10.blk; have o_kt := hT_W10.no
    obtain ⟨c_kt, f_kt, l_kt_W10⟩ := f3 kt
    replace hF := hF.trans (hf_W10.mono (fun x h => Or.inr h))
    have z_W10 := hf_W10.size
    clear hA hf_W10; have hA := hT_W10.hA; clear hT_W10
    go_wp2_with fail
    refine calls_gen fun V10 hV_V10 => ?_
    replace ka := kK hV_V10 ka
    replace kr := kK hV_V10 kr
    replace ks := kK hV_V10 ks
    replace kp := kK hV_V10 kp
    replace kt := kK hV_V10 kt
    replace hF : Fr ((twoX W2.heap.size (W2.heap.size + 1))) O1 O7 wr V10 := nF hV_V10
    replace hA : AP V10 (.pointer q) ((⟨t3.2.2, 0⟩ : Tb)).s O7 := nA hV_V10
    have z_V10 := zS hV_V10
    clear hV_V10 c_ka f_ka c_kr f_kr c_ks f_ks c_kp f_kp c_kt f_kt
    obtain ⟨c_ka, f_ka, l_ka_V10⟩ := f3 ka
    obtain ⟨c_kr, f_kr, l_kr_V10⟩ := f3 kr
    obtain ⟨c_ks, f_ks, l_ks_V10⟩ := f3 ks
    obtain ⟨c_kp, f_kp, l_kp_V10⟩ := f3 kp
    obtain ⟨c_kt, f_kt, l_kt_V10⟩ := f3 kt
    refine (work_calls (s := t3.2.2) 1073741824 u Hu.out _ hA).mono ?_
    rintro e_W11 W11 ⟨rfl, O8, hA_W11, hf_W11⟩
    have q_ka := hf_W11.keep ka o_ka (fun h => h)
    have q_kr := hf_W11.keep kr o_kr (fun h => h)
    have q_ks := hf_W11.keep ks o_ks (fun h => h)
    have q_kp := hf_W11.keep kp o_kp (fun h => h)
    have q_kt := hf_W11.keep kt o_kt (fun h => h)
    replace o_ka := hf_W11.not_own (lt_of ka) o_ka
    clear ka c_ka f_ka; have ka := q_ka; clear q_ka
    obtain ⟨c_ka, f_ka, l_ka_W11⟩ := f3 ka
    replace o_kr := hf_W11.not_own (lt_of kr) o_kr
    clear kr c_kr f_kr; have kr := q_kr; clear q_kr
    obtain ⟨c_kr, f_kr, l_kr_W11⟩ := f3 kr
    replace o_ks := hf_W11.not_own (lt_of ks) o_ks
    clear ks c_ks f_ks; have ks := q_ks; clear q_ks
    obtain ⟨c_ks, f_ks, l_ks_W11⟩ := f3 ks
    replace o_kp := hf_W11.not_own (lt_of kp) o_kp
    clear kp c_kp f_kp; have kp := q_kp; clear q_kp
    obtain ⟨c_kp, f_kp, l_kp_W11⟩ := f3 kp
    replace o_kt := hf_W11.not_own (lt_of kt) o_kt
    clear kt c_kt f_kt; have kt := q_kt; clear q_kt
    obtain ⟨c_kt, f_kt, l_kt_W11⟩ := f3 kt
    replace hF := hF.trans hf_W11.widen
    have z_W11 := hf_W11.size
    clear hA hf_W11; have hA := hA_W11; clear hA_W11
    obtain rfl := Hst.out
    have HF2 := Lib.hid (HF.out.trans_own hF hY)
    have hdoc2 := Lib.hid (hdoc.out.fr hF oD hX)
    have oD2 := hF.not_own (by have := HF.out.size; omega) oD
    have HA2 := Lib.hid hA
    clear hF hdoc oD hA
    go_wp2_with fail
    go_roundg k
    case measure => omega
    case rel => exact ⟨i + 1, _, O8, rfl, by first | rfl | (rw [E3.out]; rfl), by omega, HA2.out, HF2, kp, kt, ka, kr, ks, o_kp, o_kt, o_ka, o_kr, o_ks, oD2, hdoc2, Lib.hid (by exact Hb2.out)⟩
   ·
    have m1 : ((r.2 : Int) % rate == 0) = false := by rw [beq_eq_false_iff_ne]; exact hm
    have hst := Hst2.out
    rw [if_neg hm] at hst
    obtain ⟨u, hu, hst⟩ := Option.map_eq_some_iff.1 hst
    have Hu := Lib.hid hu; have Hst := Lib.hid hst; have Hm := Lib.hid hm
    have Hr2' : Hid (bInsert t1.2.2 st.p.marks (i : Int) ((r.2 : Int) % rate == 0) = some r2) := Lib.hid Hr2.out
    rw [m1] at Hr2' ⊢
    clear hst hu hm
    refine (bInsert_calls (s := t1.2.2) _ _ _ r2 Hr2'.out _ hA).mono ?_
    rintro e_W7 W7 ⟨rfl, O4, hA_W7, hf_W7⟩
    have q_ka := hf_W7.keep ka o_ka (fun h => h)
    have q_kr := hf_W7.keep kr o_kr (fun h => h)
    have q_ks := hf_W7.keep ks o_ks (fun h => h)
    have q_kp := hf_W7.keep kp o_kp (fun h => h)
    have q_kt := hf_W7.keep kt o_kt (fun h => h)
    replace o_ka := hf_W7.not_own (lt_of ka) o_ka
    clear ka c_ka f_ka; have ka := q_ka; clear q_ka
    obtain ⟨c_ka, f_ka, l_ka_W7⟩ := f3 ka
    replace o_kr := hf_W7.not_own (lt_of kr) o_kr
    clear kr c_kr f_kr; have kr := q_kr; clear q_kr
    obtain ⟨c_kr, f_kr, l_kr_W7⟩ := f3 kr
    replace o_ks := hf_W7.not_own (lt_of ks) o_ks
    clear ks c_ks f_ks; have ks := q_ks; clear q_ks
    obtain ⟨c_ks, f_ks, l_ks_W7⟩ := f3 ks
    replace o_kp := hf_W7.not_own (lt_of kp) o_kp
    clear kp c_kp f_kp; have kp := q_kp; clear q_kp
    obtain ⟨c_kp, f_kp, l_kp_W7⟩ := f3 kp
    replace o_kt := hf_W7.not_own (lt_of kt) o_kt
    clear kt c_kt f_kt; have kt := q_kt; clear q_kt
    obtain ⟨c_kt, f_kt, l_kt_W7⟩ := f3 kt
    replace hF := hF.trans hf_W7.widen
    have z_W7 := hf_W7.size
    clear hA hf_W7; have hA := hA_W7; clear hA_W7
    go_wp2_with fail
    refine calls_gen fun V7 hV_V7 => ?_
    replace ka := kK hV_V7 ka
    replace kr := kK hV_V7 kr
    replace ks := kK hV_V7 ks
    replace kp := kK hV_V7 kp
    replace kt := kK hV_V7 kt
    replace hF : Fr ((twoX W2.heap.size (W2.heap.size + 1))) O1 O4 wr V7 := nF hV_V7
    replace hA : AP V7 (.pointer q) r2.2.2 O4 := nA hV_V7
    have z_V7 := zS hV_V7
    clear hV_V7 c_ka f_ka c_kr f_kr c_ks f_ks c_kp f_kp c_kt f_kt
    obtain ⟨c_ka, f_ka, l_ka_V7⟩ := f3 ka
    obtain ⟨c_kr, f_kr, l_kr_V7⟩ := f3 kr
    obtain ⟨c_ks, f_ks, l_ks_V7⟩ := f3 ks
    obtain ⟨c_kp, f_kp, l_kp_V7⟩ := f3 kp
    obtain ⟨c_kt, f_kt, l_kt_V7⟩ := f3 kt
    refine (next_t (W2.heap.size + 1) w.heap.size t1.2.1 st.p.marks r2 t2 Ht2.out _ hA kt ka o_kt o_ka ne6).mono ?_
    rintro e_W8 W8 ⟨rfl, O5, hT_W8, hf_W8⟩
    have q_ka := hf_W8.keep ka o_ka (by unfold oneX; omega)
    have q_kr := hf_W8.keep kr o_kr (by unfold oneX; omega)
    have q_ks := hf_W8.keep ks o_ks (by unfold oneX; omega)
    have q_kp := hf_W8.keep kp o_kp (by unfold oneX; omega)
    replace o_ka := hf_W8.not_own (lt_of ka) o_ka
    clear ka; have ka := q_ka; clear q_ka
    obtain ⟨c_ka, f_ka, l_ka_W8⟩ := f3 ka
    replace o_kr := hf_W8.not_own (lt_of kr) o_kr
    clear kr; have kr := q_kr; clear q_kr
    obtain ⟨c_kr, f_kr, l_kr_W8⟩ := f3 kr
    replace o_ks := hf_W8.not_own (lt_of ks) o_ks
    clear ks; have ks := q_ks; clear q_ks
    obtain ⟨c_ks, f_ks, l_ks_W8⟩ := f3 ks
    replace o_kp := hf_W8.not_own (lt_of kp) o_kp
    clear kp; have kp := q_kp; clear q_kp
    obtain ⟨c_kp, f_kp, l_kp_W8⟩ := f3 kp
    clear kt c_kt f_kt o_kt; have kt := hT_W8.blk; have o_kt := hT_W8.no
    obtain ⟨c_kt, f_kt, l_kt_W8⟩ := f3 kt
    replace hF := hF.trans (hf_W8.mono (fun x h => Or.inr h))
    have z_W8 := hf_W8.size
    clear hA hf_W8; have hA := hT_W8.hA; clear hT_W8
    go_wp2_with fail
    refine calls_gen fun V8 hV_V8 => ?_
    replace ka := kK hV_V8 ka
    replace kr := kK hV_V8 kr
    replace ks := kK hV_V8 ks
    replace kp := kK hV_V8 kp
    replace kt := kK hV_V8 kt
    replace hF : Fr ((twoX W2.heap.size (W2.heap.size + 1))) O1 O5 wr V8 := nF hV_V8
    replace hA : AP V8 (.pointer q) ((⟨t2.2.2, 0⟩ : Tb)).s O5 := nA hV_V8
    have z_V8 := zS hV_V8
    clear hV_V8 c_ka f_ka c_kr f_kr c_ks f_ks c_kp f_kp c_kt f_kt
    obtain ⟨c_ka, f_ka, l_ka_V8⟩ := f3 ka
    obtain ⟨c_kr, f_kr, l_kr_V8⟩ := f3 kr
    obtain ⟨c_ks, f_ks, l_ks_V8⟩ := f3 ks
    obtain ⟨c_kp, f_kp, l_kp_V8⟩ := f3 kp
    obtain ⟨c_kt, f_kt, l_kt_V8⟩ := f3 kt
    refine (work_calls (s := t2.2.2) 1073741824 u Hu.out _ hA).mono ?_
    rintro e_W11 W11 ⟨rfl, O8, hA_W11, hf_W11⟩
    have q_ka := hf_W11.keep ka o_ka (fun h => h)
    have q_kr := hf_W11.keep kr o_kr (fun h => h)
    have q_ks := hf_W11.keep ks o_ks (fun h => h)
    have q_kp := hf_W11.keep kp o_kp (fun h => h)
    have q_kt := hf_W11.keep kt o_kt (fun h => h)
    replace o_ka := hf_W11.not_own (lt_of ka) o_ka
    clear ka c_ka f_ka; have ka := q_ka; clear q_ka
    obtain ⟨c_ka, f_ka, l_ka_W11⟩ := f3 ka
    replace o_kr := hf_W11.not_own (lt_of kr) o_kr
    clear kr c_kr f_kr; have kr := q_kr; clear q_kr
    obtain ⟨c_kr, f_kr, l_kr_W11⟩ := f3 kr
    replace o_ks := hf_W11.not_own (lt_of ks) o_ks
    clear ks c_ks f_ks; have ks := q_ks; clear q_ks
    obtain ⟨c_ks, f_ks, l_ks_W11⟩ := f3 ks
    replace o_kp := hf_W11.not_own (lt_of kp) o_kp
    clear kp c_kp f_kp; have kp := q_kp; clear q_kp
    obtain ⟨c_kp, f_kp, l_kp_W11⟩ := f3 kp
    replace o_kt := hf_W11.not_own (lt_of kt) o_kt
    clear kt c_kt f_kt; have kt := q_kt; clear q_kt
    obtain ⟨c_kt, f_kt, l_kt_W11⟩ := f3 kt
    replace hF := hF.trans hf_W11.widen
    have z_W11 := hf_W11.size
    clear hA hf_W11; have hA := hA_W11; clear hA_W11
    obtain rfl := Hst.out
    have HF2 := Lib.hid (HF.out.trans_own hF hY)
    have hdoc2 := Lib.hid (hdoc.out.fr hF oD hX)
    have oD2 := hF.not_own (by have := HF.out.size; omega) oD
    have HA2 := Lib.hid hA
    clear hF hdoc oD hA
    go_wp2_with fail
    go_roundg k
    case measure => omega
    case rel => exact ⟨i + 1, (⟨u.2, t2.2.1, ⟨t1.1, t2.1, st.p.spots, st.p.table⟩, st.n⟩ : Bst), O8, rfl, by first | rfl | (rw [E3.out]; rfl), by omega, HA2.out, HF2, kp, kt, ka, kr, ks, o_kp, o_kt, o_ka, o_kr, o_ks, oD2, hdoc2, Lib.hid (by exact Hb2.out)⟩
  ·
   obtain rfl : i = R.length := by omega
   have hb := Hb.out
   rw [List.drop_of_length_le (by omega)] at hb
   unfold bRows at hb
   obtain rfl := Option.some.inj hb
   have n1 : decide ((R.length : Int) < (R.length : Int)) = false := by simp
   clear hb Hb hlt hk
   go_wp2_with fail
   go_loopg [126] ds.length (fun k p1 wr => ∃ (i : Nat) (st : Bst) (O' : Nat → Prop), p1 = .int .i64 (i : Int) ∧ i + k = ds.length ∧ AP wr (.pointer q) st.s O' ∧ Hid (Fr noX O O' w wr)
    ∧ wr.heap[W2.heap.size]? = some (.cells #[.int .i64 st.p.wave, .int .i64 st.p.marks, .int .i64 st.p.spots, .int .i64 st.p.table] 30 (0, 0)) ∧ wr.heap[W2.heap.size + 1]? = some (.cells #[.bool st.ok] 4 (0, 0)) ∧ wr.heap[w.heap.size]? = some (.cells #[.pointer q] 25 (0, 0))
    ∧ ¬ O' (W2.heap.size) ∧ ¬ O' (W2.heap.size + 1) ∧ ¬ O' w.heap.size ∧ ¬ O' ad.block ∧ Hid (Rd2 wr (.slice (some ad) ds.length cap) ds) ∧ Hid (bTable ((docsM ds).drop i) st = some B2))
   case atStart => exact ⟨0, _, O1, rfl, by omega, hA, HF, kp, kt, ka, o_kp, o_kt, o_ka, oD, hdoc, H2⟩
   case round =>
    clear hA HF kp kt ka kr ks o_kp o_kt o_ka o_kr o_ks oD hdoc
    obtain ⟨i, st, O1, rfl, hk, hA, HF, kp, kt, ka, o_kp, o_kt, o_ka, oD, hdoc, Hb⟩ := hrel
    have hadlt : ad.block < w.heap.size := by
     obtain ⟨A, c, hv, hc⟩ := HD.out
     obtain ⟨rfl, -, rfl⟩ := Value.slice.inj hv
     obtain ⟨ad', ha, hlt, -⟩ := hc hlen
     obtain rfl := Option.some.inj ha
     exact hlt
    have hX : ¬ twoX W2.heap.size (W2.heap.size + 1) ad.block := by unfold twoX; omega
    by_cases hlt : i < ds.length
    ·
     obtain ⟨k, rfl⟩ : ∃ k, gk = k + 1 := ⟨gk - 1, by omega⟩
     obtain ⟨d, hd⟩ := at_some hlt
     have hx : (docsM ds)[i]? = some (d.1, (d.2.length : Int)) := by unfold docsM; rw [List.getElem?_map, hd]; rfl
     have hb := Hb.out
     rw [drop_at hx] at hb
     unfold bTable at hb
     obtain ⟨a, ha, hb⟩ := Option.bind_eq_some_iff.1 hb
     have hla : a.length ≤ 50000 := by
      by_cases h : a.length ≤ 50000
      ·
       exact h
      ·
       rw [if_neg h] at hb; cases hb
     rw [if_pos hla] at hb
     obtain ⟨r, hr, hb⟩ := Option.bind_eq_some_iff.1 hb
     obtain ⟨t, ht⟩ : ∃ t, nextA st.ok st.p.table r = t := ⟨_, rfl⟩
     rw [ht] at hb
     dsimp only at hr
     have Ha := Lib.hid ha; have Hr := Lib.hid hr; have Hb2 := Lib.hid hb; have Ht := Lib.hid ht
     have m1 : decide ((i : Int) < (ds.length : Int)) = true := by simpa using hlt
     have m2 : (i : Int) < (ds.length : Int) := by omega
     have E3 := Lib.hid (step_wrap i 500 (by omega) (by omega))
     obtain ⟨cd1, cd2⟩ : wr.cell? (ad.add (i * 2)) = some (.int .i64 d.1) ∧ wr.cell? ⟨(ad.add (i * 2)).block, (ad.add (i * 2)).off + 1, none⟩ = some (.string ⟨d.2.toArray⟩) := by
      obtain ⟨A, c, hv, hc⟩ := hdoc.out
      obtain ⟨rfl, -, rfl⟩ := Value.slice.inj hv
      obtain ⟨ad', ha, hlt, hc⟩ := hc hlen
      obtain rfl := Option.some.inj ha
      obtain ⟨-, q1, q2⟩ := hc i d hd
      exact ⟨q1, q2⟩
     clear hb ha hr ht hd hx hlt Hb
     have hF := Fr.refl ((twoX W2.heap.size (W2.heap.size + 1))) O1 wr
     obtain ⟨c_ka, f_ka, l_ka_wr⟩ := f3 ka
     obtain ⟨c_kp, f_kp, l_kp_wr⟩ := f3 kp
     obtain ⟨c_kt, f_kt, l_kt_wr⟩ := f3 kt
     go_wp2_with fail
     refine calls_gen fun V4 hV_V4 => ?_
     replace ka := kK hV_V4 ka
     replace kp := kK hV_V4 kp
     replace kt := kK hV_V4 kt
     replace hF : Fr ((twoX W2.heap.size (W2.heap.size + 1))) O1 O1 wr V4 := nF hV_V4
     replace hA : AP V4 (.pointer q) st.s O1 := nA hV_V4
     have z_V4 := zS hV_V4
     clear hV_V4 c_ka f_ka c_kp f_kp c_kt f_kt
     obtain ⟨c_ka, f_ka, l_ka_V4⟩ := f3 ka
     obtain ⟨c_kp, f_kp, l_kp_V4⟩ := f3 kp
     obtain ⟨c_kt, f_kt, l_kt_V4⟩ := f3 kt
     refine (tAdd_calls _ _ _ a Ha.out hla r Hr.out _ hA).mono ?_
     rintro e_W5 W5 ⟨rfl, O2, hA_W5, hf_W5⟩
     have q_ka := hf_W5.keep ka o_ka (fun h => h)
     have q_kp := hf_W5.keep kp o_kp (fun h => h)
     have q_kt := hf_W5.keep kt o_kt (fun h => h)
     replace o_ka := hf_W5.not_own (lt_of ka) o_ka
     clear ka c_ka f_ka; have ka := q_ka; clear q_ka
     obtain ⟨c_ka, f_ka, l_ka_W5⟩ := f3 ka
     replace o_kp := hf_W5.not_own (lt_of kp) o_kp
     clear kp c_kp f_kp; have kp := q_kp; clear q_kp
     obtain ⟨c_kp, f_kp, l_kp_W5⟩ := f3 kp
     replace o_kt := hf_W5.not_own (lt_of kt) o_kt
     clear kt c_kt f_kt; have kt := q_kt; clear q_kt
     obtain ⟨c_kt, f_kt, l_kt_W5⟩ := f3 kt
     replace hF := hF.trans hf_W5.widen
     have z_W5 := hf_W5.size
     clear hA hf_W5; have hA := hA_W5; clear hA_W5
     go_wp2_with fail
     refine calls_gen fun V5 hV_V5 => ?_
     replace ka := kK hV_V5 ka
     replace kp := kK hV_V5 kp
     replace kt := kK hV_V5 kt
     replace hF : Fr ((twoX W2.heap.size (W2.heap.size + 1))) O1 O2 wr V5 := nF hV_V5
     replace hA : AP V5 (.pointer q) r.2.2 O2 := nA hV_V5
     have z_V5 := zS hV_V5
     clear hV_V5 c_ka f_ka c_kp f_kp c_kt f_kt
     obtain ⟨c_ka, f_ka, l_ka_V5⟩ := f3 ka
     obtain ⟨c_kp, f_kp, l_kp_V5⟩ := f3 kp
     obtain ⟨c_kt, f_kt, l_kt_V5⟩ := f3 kt
     refine (next_t (W2.heap.size + 1) w.heap.size st.ok st.p.table r t Ht.out _ hA kt ka o_kt o_ka ne6).mono ?_
     rintro e_W6 W6 ⟨rfl, O3, hT_W6, hf_W6⟩
     have q_ka := hf_W6.keep ka o_ka (by unfold oneX; omega)
     have q_kp := hf_W6.keep kp o_kp (by unfold oneX; omega)
     replace o_ka := hf_W6.not_own (lt_of ka) o_ka
     clear ka; have ka := q_ka; clear q_ka
     obtain ⟨c_ka, f_ka, l_ka_W6⟩ := f3 ka
     replace o_kp := hf_W6.not_own (lt_of kp) o_kp
     clear kp; have kp := q_kp; clear q_kp
     obtain ⟨c_kp, f_kp, l_kp_W6⟩ := f3 kp
     clear kt c_kt f_kt o_kt; have kt := hT_W6.blk; have o_kt := hT_W6.no
     obtain ⟨c_kt, f_kt, l_kt_W6⟩ := f3 kt
     replace hF := hF.trans (hf_W6.mono (fun x h => Or.inr h))
     have z_W6 := hf_W6.size
     clear hA hf_W6; have hA := hT_W6.hA; clear hT_W6
     clear cd1 cd2
     go_wp2_with fail
     refine handed_gen fun V6 hV_V6 => ?_
     replace ka := kK hV_V6 ka
     replace kp := kK hV_V6 kp
     replace kt := kK hV_V6 kt
     replace hF : Fr ((twoX W2.heap.size (W2.heap.size + 1))) O1 O3 wr V6 := nF hV_V6
     replace hA : AP V6 (.pointer q) ((⟨t.2.2, 0⟩ : Tb)).s O3 := nA hV_V6
     have z_V6 := zS hV_V6
     clear hV_V6 c_ka f_ka c_kp f_kp c_kt f_kt
     obtain ⟨c_ka, f_ka, l_ka_V6⟩ := f3 ka
     obtain ⟨c_kp, f_kp, l_kp_V6⟩ := f3 kp
     obtain ⟨c_kt, f_kt, l_kt_V6⟩ := f3 kt
     have HF2 := Lib.hid (HF.out.trans_own hF hY)
     have hdoc2 := Lib.hid (hdoc.out.fr hF oD hX)
     have oD2 := hF.not_own (by have := HF.out.size; omega) oD
     go_roundg k
     case measure => omega
     case rel => exact ⟨i + 1, (⟨t.2.2, t.2.1, ⟨st.p.wave, st.p.marks, st.p.spots, t.1⟩, st.n⟩ : Bst), O3, by first | rfl | (rw [E3.out]; rfl), by omega, hA, HF2, kp, kt, ka, o_kp, o_kt, o_ka, oD2, hdoc2, Lib.hid (by exact Hb2.out)⟩
    ·
     obtain rfl : i = ds.length := by omega
     have hDlen : (docsM ds).length = ds.length := by unfold docsM; rw [List.length_map]
     have hb := Hb.out
     rw [List.drop_of_length_le (by omega)] at hb
     unfold bTable at hb
     obtain rfl := Option.some.inj hb
     have m1 : decide ((ds.length : Int) < (ds.length : Int)) = false := by simp
     have h3 := H3.out
     unfold bEnd at h3
     rw [ho2, if_pos rfl] at h3
     obtain ⟨t4, ht4⟩ : ∃ t, nextA true 0 (vMake st.s st.p) = t := ⟨_, rfl⟩
     rw [ht4] at h3
     dsimp only at h3
     obtain ⟨u, hu, h3⟩ := Option.map_eq_some_iff.1 h3
     rw [ho2] at kt
     have Hu := Lib.hid hu; have H3' := Lib.hid h3; have Ht4 := Lib.hid ht4
     have hok4 : t4.2.1 = true := congrArg (fun x => x.2.1) h3
     clear hb Hb hlt hk h3 hu ht4
     have hF := Fr.refl ((twoX W2.heap.size (W2.heap.size + 1))) O1 wr
     obtain ⟨c_ka, f_ka, l_ka_wr⟩ := f3 ka
     obtain ⟨c_kp, f_kp, l_kp_wr⟩ := f3 kp
     obtain ⟨c_kt, f_kt, l_kt_wr⟩ := f3 kt
     go_wp2_with fail
     refine calls_gen fun V4 hV_V4 => ?_
     replace ka := kK hV_V4 ka
     replace kp := kK hV_V4 kp
     replace kt := kK hV_V4 kt
     replace hF : Fr ((twoX W2.heap.size (W2.heap.size + 1))) O1 O1 wr V4 := nF hV_V4
     replace hA : AP V4 (.pointer q) st.s O1 := nA hV_V4
     have z_V4 := zS hV_V4
     clear hV_V4 c_ka f_ka c_kp f_kp c_kt f_kt
     obtain ⟨c_ka, f_ka, l_ka_V4⟩ := f3 ka
     obtain ⟨c_kp, f_kp, l_kp_V4⟩ := f3 kp
     obtain ⟨c_kt, f_kt, l_kt_V4⟩ := f3 kt
     refine (vMake_calls st.p _ hA).mono ?_
     rintro e_W5 W5 ⟨rfl, O2, hA_W5, hf_W5⟩
     have q_ka := hf_W5.keep ka o_ka (fun h => h)
     have q_kp := hf_W5.keep kp o_kp (fun h => h)
     have q_kt := hf_W5.keep kt o_kt (fun h => h)
     replace o_ka := hf_W5.not_own (lt_of ka) o_ka
     clear ka c_ka f_ka; have ka := q_ka; clear q_ka
     obtain ⟨c_ka, f_ka, l_ka_W5⟩ := f3 ka
     replace o_kp := hf_W5.not_own (lt_of kp) o_kp
     clear kp c_kp f_kp; have kp := q_kp; clear q_kp
     obtain ⟨c_kp, f_kp, l_kp_W5⟩ := f3 kp
     replace o_kt := hf_W5.not_own (lt_of kt) o_kt
     clear kt c_kt f_kt; have kt := q_kt; clear q_kt
     obtain ⟨c_kt, f_kt, l_kt_W5⟩ := f3 kt
     replace hF := hF.trans hf_W5.widen
     have z_W5 := hf_W5.size
     clear hA hf_W5; have hA := hA_W5; clear hA_W5
     go_wp2_with fail
     refine calls_gen fun V5 hV_V5 => ?_
     replace ka := kK hV_V5 ka
     replace kp := kK hV_V5 kp
     replace kt := kK hV_V5 kt
     replace hF : Fr ((twoX W2.heap.size (W2.heap.size + 1))) O1 O2 wr V5 := nF hV_V5
     replace hA : AP V5 (.pointer q) ((vMake st.s st.p).2.2) O2 := nA hV_V5
     have z_V5 := zS hV_V5
     clear hV_V5 c_ka f_ka c_kp f_kp c_kt f_kt
     obtain ⟨c_ka, f_ka, l_ka_V5⟩ := f3 ka
     obtain ⟨c_kp, f_kp, l_kp_V5⟩ := f3 kp
     obtain ⟨c_kt, f_kt, l_kt_V5⟩ := f3 kt
     refine (next_t (W2.heap.size + 1) w.heap.size true 0 (vMake st.s st.p) t4 Ht4.out _ hA kt ka o_kt o_ka ne6).mono ?_
     rintro e_W6 W6 ⟨rfl, O3, hT_W6, hf_W6⟩
     have q_ka := hf_W6.keep ka o_ka (by unfold oneX; omega)
     have q_kp := hf_W6.keep kp o_kp (by unfold oneX; omega)
     replace o_ka := hf_W6.not_own (lt_of ka) o_ka
     clear ka; have ka := q_ka; clear q_ka
     obtain ⟨c_ka, f_ka, l_ka_W6⟩ := f3 ka
     replace o_kp := hf_W6.not_own (lt_of kp) o_kp
     clear kp; have kp := q_kp; clear q_kp
     obtain ⟨c_kp, f_kp, l_kp_W6⟩ := f3 kp
     clear kt c_kt f_kt o_kt; have kt := hT_W6.blk; have o_kt := hT_W6.no
     obtain ⟨c_kt, f_kt, l_kt_W6⟩ := f3 kt
     replace hF := hF.trans (hf_W6.mono (fun x h => Or.inr h))
     have z_W6 := hf_W6.size
     clear hA hf_W6; have hA := hT_W6.hA; clear hT_W6
     rw [hok4] at kt
     go_wp2_with fail
     refine wp_gen fun V6 hV_V6 => ?_
     have n_kl := hbk hV_V6 (W6.heap.size)
     simp (maxDischargeDepth := 9) only [BK, not_false_eq_true, reduceCtorEq, ka, kp, kt, l_ka_wr, l_kp_wr, l_kt_wr, ne5, ne6, l_ka_V4, l_kp_V4, l_kt_V4, l_ka_W5, l_kp_W5, l_kt_W5, l_ka_V5, l_kp_V5, l_kt_V5, l_ka_W6, l_kp_W6, l_kt_W6] at n_kl
     have o_kl : ¬ O3 (W6.heap.size) := by first | exact hA.new (Nat.le_refl _) | exact hA.new (by omega)
     replace ka := kK hV_V6 ka
     replace kp := kK hV_V6 kp
     replace kt := kK hV_V6 kt
     replace hF : Fr ((twoX W2.heap.size (W2.heap.size + 1))) O1 O3 wr V6 := nF hV_V6
     replace hA : AP V6 (.pointer q) ((⟨t4.2.2, 0⟩ : Tb)).s O3 := nA hV_V6
     have z_V6 := zS hV_V6
     clear hV_V6 c_ka f_ka c_kp f_kp c_kt f_kt
     obtain ⟨c_ka, f_ka, l_ka_V6⟩ := f3 ka
     obtain ⟨c_kp, f_kp, l_kp_V6⟩ := f3 kp
     obtain ⟨c_kt, f_kt, l_kt_V6⟩ := f3 kt
     have kl := n_kl; clear n_kl
     obtain ⟨c_kl, f_kl, l_kl_V6⟩ := f3 kl
     have HF6 := Lib.hid (HF.out.trans_own hF hY)
     have HA6 := Lib.hid hA
     have ka2 := ka; have kt2 := kt; have o_ka2 := o_ka; have o_kt2 := o_kt
     clear hA hF HF kp c_kp f_kp o_kp ka c_ka f_ka kt c_kt f_kt o_ka o_kt c_kl f_kl
     go_loopw [171] (fun y w3 => ∃ i : Nat, i ≤ 4 ∧ y = .int .i64 i ∧ ∃ O', AP w3 (.pointer q) ([st.p.wave, st.p.marks, st.p.spots, st.p.table].take i |>.foldl dropP t4.2.2) O' ∧ Fr noX O O' w w3 ∧ w3.heap[W6.heap.size]? = some (.cells #[.int .i64 st.p.wave, .int .i64 st.p.marks, .int .i64 st.p.spots, .int .i64 st.p.table] 3 (0, 0)) ∧ w3.heap[w.heap.size]? = some (.cells #[.pointer q] 25 (0, 0)) ∧ w3.heap[W2.heap.size + 1]? = some (.cells #[.bool true] 4 (0, 0)) ∧ ¬ O' W6.heap.size ∧ ¬ O' w.heap.size ∧ ¬ O' (W2.heap.size + 1)) (fun y _ => 4 - (intOf y).toNat)
     case atStart => exact ⟨0, by omega, rfl, _, HA6.out, HF6.out, kl, ka2, kt2, o_kl, o_ka2, o_kt2⟩
     case round =>
      clear HA6 HF6 kl ka2 kt2 o_kl o_ka2 o_kt2
      obtain ⟨i, hi, rfl, O', hA', hF', kl, ka2, kt2, o_kl, o_ka2, o_kt2⟩ := hrel
      have c_kl := cells_of kl
      rcases (show i = 0 ∨ i = 1 ∨ i = 2 ∨ i = 3 ∨ i = 4 by omega) with rfl | rfl | rfl | rfl | rfl
      ·
       have HA := Lib.hid hA'; have HF5 := Lib.hid hF'; clear hA' hF'
       by_cases hz : st.p.wave = 0
       ·
        have z1 : (st.p.wave != 0) = false := by simp [hz]
        have hd : Hid ((dropP t4.2.2 st.p.wave) = t4.2.2) := Lib.hid (by show dropP _ _ = _; unfold dropP; rw [if_pos hz])
        clear hz
        go_wp2_with fail
        go_roundw
        case rel => exact ⟨1, by omega, rfl, O', by show AP wr (.pointer q) (dropP t4.2.2 st.p.wave) O'; rw [hd.out]; exact HA.out, HF5.out, kl, ka2, kt2, o_kl, o_ka2, o_kt2⟩
        case measure => simp [intOf]
       ·
        have z1 : (st.p.wave != 0) = true := by simp [hz]
        have hd : Hid ((dropP t4.2.2 st.p.wave) = (t4.2.2).drop st.p.wave) := Lib.hid (by show dropP _ _ = _; unfold dropP; rw [if_neg hz])
        clear hz
        have c_ka2 := cells_of ka2
        go_wp2_with fail
        refine (drop_calls _ _ HA.out).mono ?_
        rintro e1 w1 ⟨rfl, O3, hA1, hf1⟩
        go_wp2_with fail
        go_roundw
        case rel => exact ⟨1, by omega, rfl, O3, by show AP w1 (.pointer q) (dropP t4.2.2 st.p.wave) O3; rw [hd.out]; exact hA1, HF5.out.trans hf1.widen, hf1.keep kl o_kl (fun h => h), hf1.keep ka2 o_ka2 (fun h => h), hf1.keep kt2 o_kt2 (fun h => h), hf1.not_own (lt_of kl) o_kl, hf1.not_own (lt_of ka2) o_ka2, hf1.not_own (lt_of kt2) o_kt2⟩
        case measure => simp [intOf]
      ·
       have HA := Lib.hid hA'; have HF5 := Lib.hid hF'; clear hA' hF'
       by_cases hz : st.p.marks = 0
       ·
        have z1 : (st.p.marks != 0) = false := by simp [hz]
        have hd : Hid ((dropP (dropP t4.2.2 st.p.wave) st.p.marks) = (dropP t4.2.2 st.p.wave)) := Lib.hid (by show dropP _ _ = _; unfold dropP; rw [if_pos hz])
        clear hz
        go_wp2_with fail
        go_roundw
        case rel => exact ⟨2, by omega, rfl, O', by show AP wr (.pointer q) (dropP (dropP t4.2.2 st.p.wave) st.p.marks) O'; rw [hd.out]; exact HA.out, HF5.out, kl, ka2, kt2, o_kl, o_ka2, o_kt2⟩
        case measure => simp [intOf]
       ·
        have z1 : (st.p.marks != 0) = true := by simp [hz]
        have hd : Hid ((dropP (dropP t4.2.2 st.p.wave) st.p.marks) = ((dropP t4.2.2 st.p.wave)).drop st.p.marks) := Lib.hid (by show dropP _ _ = _; unfold dropP; rw [if_neg hz])
        clear hz
        have c_ka2 := cells_of ka2
        go_wp2_with fail
        refine (drop_calls _ _ HA.out).mono ?_
        rintro e1 w1 ⟨rfl, O3, hA1, hf1⟩
        go_wp2_with fail
        go_roundw
        case rel => exact ⟨2, by omega, rfl, O3, by show AP w1 (.pointer q) (dropP (dropP t4.2.2 st.p.wave) st.p.marks) O3; rw [hd.out]; exact hA1, HF5.out.trans hf1.widen, hf1.keep kl o_kl (fun h => h), hf1.keep ka2 o_ka2 (fun h => h), hf1.keep kt2 o_kt2 (fun h => h), hf1.not_own (lt_of kl) o_kl, hf1.not_own (lt_of ka2) o_ka2, hf1.not_own (lt_of kt2) o_kt2⟩
        case measure => simp [intOf]
      ·
       have HA := Lib.hid hA'; have HF5 := Lib.hid hF'; clear hA' hF'
       by_cases hz : st.p.spots = 0
       ·
        have z1 : (st.p.spots != 0) = false := by simp [hz]
        have hd : Hid ((dropP (dropP (dropP t4.2.2 st.p.wave) st.p.marks) st.p.spots) = (dropP (dropP t4.2.2 st.p.wave) st.p.marks)) := Lib.hid (by show dropP _ _ = _; unfold dropP; rw [if_pos hz])
        clear hz
        go_wp2_with fail
        go_roundw
        case rel => exact ⟨3, by omega, rfl, O', by show AP wr (.pointer q) (dropP (dropP (dropP t4.2.2 st.p.wave) st.p.marks) st.p.spots) O'; rw [hd.out]; exact HA.out, HF5.out, kl, ka2, kt2, o_kl, o_ka2, o_kt2⟩
        case measure => simp [intOf]
       ·
        have z1 : (st.p.spots != 0) = true := by simp [hz]
        have hd : Hid ((dropP (dropP (dropP t4.2.2 st.p.wave) st.p.marks) st.p.spots) = ((dropP (dropP t4.2.2 st.p.wave) st.p.marks)).drop st.p.spots) := Lib.hid (by show dropP _ _ = _; unfold dropP; rw [if_neg hz])
        clear hz
        have c_ka2 := cells_of ka2
        go_wp2_with fail
        refine (drop_calls _ _ HA.out).mono ?_
        rintro e1 w1 ⟨rfl, O3, hA1, hf1⟩
        go_wp2_with fail
        go_roundw
        case rel => exact ⟨3, by omega, rfl, O3, by show AP w1 (.pointer q) (dropP (dropP (dropP t4.2.2 st.p.wave) st.p.marks) st.p.spots) O3; rw [hd.out]; exact hA1, HF5.out.trans hf1.widen, hf1.keep kl o_kl (fun h => h), hf1.keep ka2 o_ka2 (fun h => h), hf1.keep kt2 o_kt2 (fun h => h), hf1.not_own (lt_of kl) o_kl, hf1.not_own (lt_of ka2) o_ka2, hf1.not_own (lt_of kt2) o_kt2⟩
        case measure => simp [intOf]
      ·
       have HA := Lib.hid hA'; have HF5 := Lib.hid hF'; clear hA' hF'
       by_cases hz : st.p.table = 0
       ·
        have z1 : (st.p.table != 0) = false := by simp [hz]
        have hd : Hid ((dropP (dropP (dropP (dropP t4.2.2 st.p.wave) st.p.marks) st.p.spots) st.p.table) = (dropP (dropP (dropP t4.2.2 st.p.wave) st.p.marks) st.p.spots)) := Lib.hid (by show dropP _ _ = _; unfold dropP; rw [if_pos hz])
        clear hz
        go_wp2_with fail
        go_roundw
        case rel => exact ⟨4, by omega, rfl, O', by show AP wr (.pointer q) (dropP (dropP (dropP (dropP t4.2.2 st.p.wave) st.p.marks) st.p.spots) st.p.table) O'; rw [hd.out]; exact HA.out, HF5.out, kl, ka2, kt2, o_kl, o_ka2, o_kt2⟩
        case measure => simp [intOf]
       ·
        have z1 : (st.p.table != 0) = true := by simp [hz]
        have hd : Hid ((dropP (dropP (dropP (dropP t4.2.2 st.p.wave) st.p.marks) st.p.spots) st.p.table) = ((dropP (dropP (dropP t4.2.2 st.p.wave) st.p.marks) st.p.spots)).drop st.p.table) := Lib.hid (by show dropP _ _ = _; unfold dropP; rw [if_neg hz])
        clear hz
        have c_ka2 := cells_of ka2
        go_wp2_with fail
        refine (drop_calls _ _ HA.out).mono ?_
        rintro e1 w1 ⟨rfl, O3, hA1, hf1⟩
        go_wp2_with fail
        go_roundw
        case rel => exact ⟨4, by omega, rfl, O3, by show AP w1 (.pointer q) (dropP (dropP (dropP (dropP t4.2.2 st.p.wave) st.p.marks) st.p.spots) st.p.table) O3; rw [hd.out]; exact hA1, HF5.out.trans hf1.widen, hf1.keep kl o_kl (fun h => h), hf1.keep ka2 o_ka2 (fun h => h), hf1.keep kt2 o_kt2 (fun h => h), hf1.not_own (lt_of kl) o_kl, hf1.not_own (lt_of ka2) o_ka2, hf1.not_own (lt_of kt2) o_kt2⟩
        case measure => simp [intOf]
      ·
       have HA := Lib.hid hA'; have HF5 := Lib.hid hF'; clear hA' hF' c_kl
       have hA7 : AP wr (.pointer q) (dropP (dropP (dropP (dropP t4.2.2 st.p.wave) st.p.marks) st.p.spots) st.p.table) O' := HA.out
       have HA7 := Lib.hid hA7; clear hA7 HA
       have c_ka2 := cells_of ka2
       have hlast : root = t4.1 ∧ s' = u.2 := by
        have h3 := H3'.out
        rw [hok4] at h3
        simp only [Bool.true_eq_false, false_and, if_false, Prod.mk.injEq] at h3
        exact ⟨h3.1.symm, h3.2.2.symm⟩
       obtain ⟨rfl, rfl⟩ := hlast
       go_wp2_with fail
       refine (work_calls 1073741824 u Hu.out _ HA7.out).mono ?_
       rintro e8 W8 ⟨rfl, O8, hA8, hf8⟩
       have kt8 := hf8.keep kt2 o_kt2 (fun h => h)
       have c_kt8 := cells_of kt8
       have HA8 := Lib.hid hA8
       have HF8 := Lib.hid (HF5.out.trans hf8)
       clear hA8 hf8
       have hA := HA8.out
       clear c_kt8 c_ka2
       have hF := Fr.refl (noX) O8 W8
       obtain ⟨c_kt8, f_kt8, l_kt8_W8⟩ := f3 kt8
       go_wp2_with fail
       refine wp_gen fun V9 hV_V9 => ?_
       replace kt8 := kK hV_V9 kt8
       replace hF : Fr (noX) O8 O8 W8 V9 := nF hV_V9
       replace hA : AP V9 (.pointer q) u.2 O8 := nA hV_V9
       have z_V9 := zS hV_V9
       clear hV_V9 c_kt8 f_kt8
       obtain ⟨c_kt8, f_kt8, l_kt8_V9⟩ := f3 kt8
       refine wp_region_noPanic ?_
       refine wp_region_held_drew (S := fun v => (∀ o, v.cell? ⟨W2.heap.size + 1, o, none⟩ = V9.cell? ⟨W2.heap.size + 1, o, none⟩) ∧ (V9.heap.size ≤ v.heap.size) ∧ AP v (.pointer q) u.2 O8) (by kernel_rfl) ⟨(fun _ => rfl), (Nat.le_refl _), hA.drew⟩ (fun hHeld => ?_)
       generalize hV_V9d : V9.drew = V9d at hHeld ⊢
       have d_kt8 := dK hV_V9d kt8
       clear c_kt8 f_kt8
       replace hA := hA.drew; rw [hV_V9d] at hA
       replace hF := hF.drew; rw [hV_V9d] at hF
       have z_V9d := dZ hV_V9d
       have v_kt8 := cells_of kt8
       clear kt8; have kt8 := d_kt8; clear d_kt8
       obtain ⟨c_kt8, f_kt8, l_kt8_V9d⟩ := f3 kt8
       clear hV_V9d
       refine tz 0 rfl hHeld ?_
       try simp only [PT]
       refine tz 1 rfl hHeld ?_
       try simp only [PT]
       refine rd 2 rfl fun K hK => ?_
       go_simp
       refine hK.out _ _ hHeld (fun hHeld => ?_)
       clear hK K
       try simp only [PT]
       refine rd 3 rfl fun K hK => ?_
       go_simp
       refine hK.out _ _ hHeld (fun hHeld => ?_)
       clear hK K
       try simp only [PT]
       refine wpAnyH_done (by kernel_rfl) ?_ _
       refine NoPanic.normal ?_
       have HFF := Lib.hid (HF8.out.trans hF)
       have HAA := Lib.hid hA
       clear hF hA
       go_wp2_with fail
       go_ret2
       exact ⟨rfl, O8, HAA.out, HFF.out⟩
end Go.Proofs.YtdjpjmkpndmhaaaGreat
/- The version of documents that may be, built in a great arena; what is told of it; no program here but Build. -/
namespace Go.Proofs.YtdjpjmkpndmhaaaGreat
set_option linter.unusedSimpArgs false
set_option linter.unusedVariables false
set_option linter.unnecessarySimpa false
open Go.RowKit
attribute [local go_sem ↓] Go.wp_at_zero Go.wp_at_succ
attribute [local go_sem] str_len
/-- What is told of the version of documents. -/
structure Told (s : Ar) (root : Int) (ds : Docs) : Prop where
  text : ∀ id, pText s root id = some (match placeD ds id with | none => ([], false) | some k => ((ds.getD k (0, [])).2, true))
  all : lAll s (vOf s root).table = some (docsM ds)
  len : lLen s (vOf s root).table ≤ 50000
  rows : vRows s root = tot ds + ds.length
  docs : vDocs s root = ds.length
theorem VR.told {s : Ar} {H : List Int} (hI : Inv s H) {h : Int} {ds : Docs} {rate : Int} (hv : VR s h ds rate) (hR : Right ds) : Told s h ds := by
  have hl := hR.len
  refine ⟨hv.text hI hR, hv.all hI (by omega), ?_, by rw [hv.rows hI (by omega), rows_tot hR]; omega, hv.docs hI (by omega)⟩
  rw [(hv.parts hI (by omega)).2.2.2.1.len hI]; unfold docsM; simp; omega
theorem placeD_at {ds : Docs} (h : Right ds) {j : Nat} {d : Int × List UInt8} (hd : ds[j]? = some d) : placeD ds d.1 = some j := by
  obtain ⟨hj, rfl⟩ := List.getElem?_eq_some_iff.1 hd
  refine List.findIdx?_eq_some_iff_getElem.2 ⟨hj, by simp, fun i hi => ?_⟩
  have := List.pairwise_iff_getElem.1 h.nodup i j (by simp; omega) (by simp; omega) hi
  simpa using this
theorem Told.at {s : Ar} {root : Int} {ds : Docs} (t : Told s root ds) (h : Right ds) {j : Nat} {d : Int × List UInt8} (hd : ds[j]? = some d) : pText s root d.1 = some (d.2, true) := by
  rw [t.text, placeD_at h hd]
  simp [List.getD, hd]
variable {ap : Value} {O : Nat → Prop}
set_option maxHeartbeats 1000000 in
theorem bld_calls (rate : Int) (hr1 : 1 ≤ rate) (hr2 : rate ≤ 1000) (ds : Docs) (hR : Right ds) (htot : tot ds ≤ 60) (hne : ds ≠ []) (ad : Addr) (cap : Nat) (w : World) (hD : Rd2 w (.slice (some ad) ds.length cap) ds) (hO : ¬ O ad.block) (hA : AP w ap (Ar.new 6000) O) :
    Calls Tryz.prog 18 #[ap, .int .i64 rate, .slice (some ad) ds.length cap] w fun e w' => ∃ root s' O', e = .returned (.tuple #[.int .i64 root, .bool true]) ∧ AP w' ap s' O' ∧ Fr noX O O' w w' ∧ Told s' root ds := by
  have hl := hR.len
  obtain ⟨B1, B2, root, s', h1, o1, h2, o2, h3, hI, -, -, hv⟩ := build_parts (Inv.new 6000 (by omega)) rfl hR hne rate (by show 10000 + 160 * (tot ds + ds.length) ≤ 8 * 6000; omega)
  refine (build_calls rate hr1 hr2 ds ad cap hne hR.right w hD hO hA B1 B2 h1 o1 h2 o2 root s' h3).mono ?_
  rintro e w' ⟨he, O', a, b⟩
  exact ⟨root, s', O', he, a, b, hv.told hI hR⟩
set_option maxRecDepth 100000 in
set_option maxHeartbeats 2000000 in
/-- Build of no documents. -/
theorem bldnil_calls (q : Option Addr) (rate : Int) (A : Option Addr) (n cap : Nat) (hn : ((n : Int) == 0) = true) (w : World) :
    Calls Tryz.prog 18 #[.pointer q, .int .i64 rate, .slice A n cap] w fun e w' => e = .returned (.tuple #[.int .i64 0, .bool true]) ∧ Below w.heap.size w w' := by
  go_enter Tryz.func18, Tryz.ntmps18
  go_wp2_with fail
  go_ret2
  exact ⟨rfl, (Below.refl w.heap.size w).alloc (Nat.le_refl _) _⟩
/-- The number of one of n, whatever is asked for. -/
theorem pick_at (i : Int) (n : Nat) (hn : 0 < n) : -(n : Int) ≤ i.tmod (n : Int) ∧ i.tmod (n : Int) < n ∧ ∃ K : Nat, (i.tmod (n : Int) + n) % (n : Int) = (K : Int) ∧ K < n := by
  have h := Int.tmod_lt_of_pos i (show (0:Int) < (n : Int) by omega)
  have h2 := Int.tmod_lt_of_pos (-i) (show (0:Int) < (n : Int) by omega)
  rw [Int.neg_tmod] at h2
  have h3 := Int.emod_nonneg (i.tmod (n : Int) + n) (show (n : Int) ≠ 0 by omega)
  have h4 := Int.emod_lt_of_pos (i.tmod (n : Int) + n) (show (0:Int) < (n : Int) by omega)
  exact ⟨by omega, h, ((i.tmod (n : Int) + n) % (n : Int)).toNat, by omega, by omega⟩
end Go.Proofs.YtdjpjmkpndmhaaaGreat
/- An argument of documents, opened. -/
namespace Go.Proofs.YtdjpjmkpndmhaaaGreat
set_option linter.unusedSimpArgs false
set_option linter.unusedVariables false
set_option linter.unnecessarySimpa false
open Go.RowKit Go.ChangeShapes Go.WideShapes Go.Deep
section
variable {H : Type} {enc : TypeId × Value → H} {P : Program} {w : World} {base : Nat} {spare : Nat → Bool} {held : Bool}
theorem open_slice_fields {t e : TypeId} {fs : Array Field} {fuel : Nat} {cs : List Value} {x : DataW H × List MemPlace} (ht : P.underlying t = some (.slice e)) (he : P.underlying e = some (.struct fs))
    (hone : oneCellFields P fs = true) (hC : P.cellsOf e = fs.size) (h : DataW.trod enc P w base spare held fuel t cs = some x) :
    (cs = [.slice none 0 0] ∧ x = (.nil, [])) ∨
    ∃ (a : Addr) (len cap m : Nat) (D : Nat → DataW H) (Pl : Nat → List MemPlace), cs = [.slice (some a) len cap] ∧ base ≤ a.block ∧ len ≤ cap ∧ cap ≤ maxLen ∧ m = (if spare a.block then cap else len) ∧
      x = (.slice ((List.range len).map D) ((List.range (m - len)).map fun j => D (len + j)), MemPlace.row a (m * fs.size) ++ (List.range m).flatMap Pl) ∧
      ∀ i, i < m → ∃ (ys : List (DataW H × List MemPlace)) (n : Nat), D i = .agg (ys.map (·.1)) ∧ Pl i = ys.flatMap (·.2) ∧ ys.length = fs.size ∧
        ∀ (j : Nat) (f : Field), fs[j]? = some f → ∃ (v : Value) (y : DataW H × List MemPlace), w.cell? (a.add (i * fs.size + j)) = some v ∧ ys[j]? = some y ∧ DataW.trod enc P w base spare held n f.type [v] = some y := by
  rcases open_slice ht h with h0 | ⟨a, len, cap, m, n, D, Pl, hcs, hb, hl, hm, hmm, hx, hi⟩
  · exact .inl h0
  · refine .inr ⟨a, len, cap, m, D, Pl, hcs, hb, hl, hm, hmm, by rw [hC] at hx; exact hx, fun i him => ?_⟩
    obtain ⟨cs', hc, ht'⟩ := hi i him
    rw [hC] at hc
    obtain ⟨ys, n', hn', hy, hlen, hyl, hf⟩ := DataW.trod_struct he ht'
    obtain ⟨_, hcl, hat⟩ := World.cells?_some hc
    simp only [Prod.mk.injEq] at hy
    refine ⟨ys, n', hy.1, hy.2, hyl, fun j f hj => ?_⟩
    obtain ⟨ho, hk⟩ := hone_of hone j f hj
    have hjl : j < fs.size := (Array.getElem?_eq_some_iff.1 hj).1
    have hcell := hat j hjl
    have hv : cs'[j]? = some (cs'[j]'(by omega)) := List.getElem?_eq_getElem (by omega)
    have h1 := hf j f hj
    rw [ho, hk] at h1
    have hone' : (cs'.drop j).take 1 = [cs'[j]'(by omega)] := by
      rw [List.drop_eq_getElem_cons (by omega)]
      rfl
    rw [hone'] at h1
    have hys : ys[j]? = some (ys[j]'(by omega)) := List.getElem?_eq_getElem (by omega)
    refine ⟨_, _, ?_, hys, h1.trans hys⟩
    rw [← Go.Deep.add_add, hcell, hv]
end
/-- Numbers that a 64-bit int holds. -/
def IdOk (ds : List (Int × List UInt8)) : Prop := ∀ d ∈ ds, (Lit.int .i64 d.1).wf = true
theorem str_of (s : ByteArray) : Value.string s = strOf s.data.toList := by unfold strOf; cases s; rfl
theorem add_one (a : Addr) (n : Nat) : (⟨(a.add n).block, (a.add n).off + 1, none⟩ : Addr) = a.add (n + 1) := by
  unfold Addr.add
  rw [if_neg (by omega : ¬ n + 1 = 0)]
  split
  · rename_i h; subst h; rfl
  · rfl
theorem read_docs {H : Type} {enc : TypeId × Value → H} {P : Program} {w : World} {held : Bool} {t e : TypeId} {f0 f1 : Field} {A : Option Addr} {len cap : Nat} {d : DataW H} {p : List MemPlace}
    (ht : P.underlying t = some (.slice e)) (he : P.underlying e = some (.struct #[f0, f1])) (hone : oneCellFields P #[f0, f1] = true) (hC : P.cellsOf e = 2) (h0 : P.underlying f0.type = some (.int .i64)) (h1 : P.underlying f1.type = some .string)
    (h : DataW.Trod enc P w 0 (fun _ => true) held t (.slice A len cap) d p) : ∃ ds : List (Int × List UInt8), ds.length = len ∧ ds.length ≤ maxLen ∧ Rd2 w (.slice A len cap) ds ∧ IdOk ds := by
  obtain ⟨m, hm⟩ := h
  have hlt := DataW.trod_lt m _ _ _ hm
  simp only [Value.cells] at hm
  rcases open_slice_fields ht he hone hC hm with ⟨hc, -⟩ | ⟨a, l', c', m', D, Pl, hc, -, hl, hcm, hmm, hx, hi⟩
  · simp only [List.cons.injEq, Value.slice.injEq, and_true] at hc
    obtain ⟨rfl, rfl, rfl⟩ := hc
    exact ⟨[], rfl, by simp, ⟨none, 0, rfl, fun h => absurd h (by simp)⟩, fun d hd => by cases hd⟩
  · simp only [List.cons.injEq, Value.slice.injEq, and_true] at hc
    obtain ⟨rfl, rfl, rfl⟩ := hc
    have hmc : len ≤ m' := by rw [hmm]; split <;> omega
    have key : ∀ i, i < len → ∃ x : Int × List UInt8, (a.add (i * 2)).block < w.heap.size ∧ w.cell? (a.add (i * 2)) = some (.int .i64 x.1) ∧ w.cell? ⟨(a.add (i * 2)).block, (a.add (i * 2)).off + 1, none⟩ = some (strOf x.2) ∧ (Lit.int .i64 x.1).wf = true := by
      intro i hil
      obtain ⟨ys, n, -, -, -, hf⟩ := hi i (by omega)
      obtain ⟨v0, y0, c0, -, t0⟩ := hf 0 f0 rfl
      obtain ⟨v1, y1, c1, -, t1⟩ := hf 1 f1 rfl
      obtain ⟨x0, e0, -, w0⟩ := DataW.trod_int h0 t0
      obtain ⟨x1, e1, -, -⟩ := DataW.trod_string h1 t1
      simp only [List.cons.injEq, and_true] at e0 e1
      subst e0 e1
      refine ⟨(x0, x1.data.toList), ?_, c0, ?_, w0⟩
      · exact World.block_lt_of_cell? w _ c0
      · rw [← str_of, add_one]; exact c1
    have hget : ∀ i, (h : i < len) → ((List.range len).map fun i => if h : i < len then (key i h).choose else ((0 : Int), ([] : List UInt8)))[i]? = some (key i h).choose := fun i h => by
      rw [List.getElem?_map, List.getElem?_range h, Option.map_some, dif_pos h]
    have hlen : ((List.range len).map fun i => if h : i < len then (key i h).choose else ((0 : Int), ([] : List UInt8))).length = len := by simp
    refine ⟨_, hlen, by rw [hlen]; omega, ⟨some a, cap, by rw [hlen], fun hn => ⟨a, rfl, ?_, fun i d hd => ?_⟩⟩, fun d hd => ?_⟩
    · rw [hlen] at hn
      have := (key 0 hn).choose_spec.1
      simpa [Addr.add] using this
    · have hil : i < len := by rw [← hlen]; exact (List.getElem?_eq_some_iff.1 hd).1
      rw [hget i hil] at hd
      obtain rfl := Option.some.inj hd
      obtain ⟨a1, a2, a3, -⟩ := (key i hil).choose_spec
      exact ⟨a1, a2, a3⟩
    · obtain ⟨i, hi⟩ := List.getElem?_of_mem hd
      have hil : i < len := by rw [← hlen]; exact (List.getElem?_eq_some_iff.1 hi).1
      rw [hget i hil] at hi
      obtain rfl := Option.some.inj hi
      exact (key i hil).choose_spec.2.2.2
end Go.Proofs.YtdjpjmkpndmhaaaGreat
/- How an arena stands in a call that made it: told in one word, for the walks of statements. -/
namespace Go.Proofs.YtdjpjmkpndmhaaaGreat
set_option linter.unusedSimpArgs false
set_option linter.unusedVariables false
set_option linter.unnecessarySimpa false
open Go.RowKit
/-- The call began at w0; now the arena holds s; the blocks of L are the call's own. -/
structure St (w0 W : World) (ap : Value) (s : Ar) (L : List (Nat × Obj)) : Prop where
  ex : ∃ O, AP W ap s O ∧ (∀ b, O b → w0.heap.size ≤ b) ∧ ∀ x ∈ L, W.heap[x.1]? = some x.2 ∧ ¬ O x.1
  bel : Below w0.heap.size w0 W
section
variable {w0 W W' : World} {ap : Value} {s s' : Ar} {L : List (Nat × Obj)}
theorem St.below (h : St w0 W ap s L) (hb : Below W.heap.size W W') : St w0 W' ap s L := by
  obtain ⟨O, hA, hO, hL⟩ := h.ex
  exact ⟨⟨O, hA.below hb, hO, fun x hx => ⟨keep_blk hb (hL x hx).1, (hL x hx).2⟩⟩, below_step h.bel hb⟩
theorem St.did (h : St w0 W ap s L) {O' : Nat → Prop} (hex : ∃ O, AP W ap s O ∧ (∀ b, O b → w0.heap.size ≤ b) ∧ (∀ x ∈ L, W.heap[x.1]? = some x.2 ∧ ¬ O x.1) ∧ AP W' ap s' O' ∧ Fr noX O O' W W') : St w0 W' ap s' L := by
  obtain ⟨O, hA, hO, hL, hA', hF⟩ := hex
  refine ⟨⟨O', hA', fun b hb => ?_, fun x hx => ⟨hF.keep (hL x hx).1 (hL x hx).2 (fun h => h), fun hb => ?_⟩⟩, below_fr h.bel hF hO⟩
  · rcases hF.own b hb with h1 | h1
    · exact hO b h1
    · have := h.bel.size; omega
  · rcases hF.own _ hb with h1 | h1
    · exact (hL x hx).2 h1
    · have := lt_of (hL x hx).1; omega
theorem St.new {O : Nat → Prop} (hb : Below w0.heap.size w0 W) (hA : AP W ap s O) (hO : ∀ b, O b → w0.heap.size ≤ b) : St w0 W ap s [] := ⟨⟨O, hA, hO, fun _ h => by cases h⟩, hb⟩
theorem St.box (h : St w0 W ap s L) (o : Obj) (hv : W' = W.alloc o) : St w0 W' ap s ((W.heap.size, o) :: L) := by
  subst hv
  have hb := below_box W o
  obtain ⟨O, hA, hO, hL⟩ := h.ex
  refine ⟨⟨O, hA.below hb, hO, fun x hx => ?_⟩, below_step h.bel hb⟩
  rcases List.mem_cons.1 hx with rfl | hx
  · exact ⟨blk_new _ _ _ rfl, hA.new (Nat.le_refl _)⟩
  · exact ⟨keep_blk hb (hL x hx).1, (hL x hx).2⟩
theorem St.less (h : St w0 W ap s L) {L' : List (Nat × Obj)} (hs : ∀ x ∈ L', x ∈ L) : St w0 W ap s L' := by
  obtain ⟨O, hA, hO, hL⟩ := h.ex
  exact ⟨⟨O, hA, hO, fun x hx => hL x (hs x hx)⟩, h.bel⟩
theorem St.at (h : St w0 W ap s L) {b : Nat} {o : Obj} (hx : (b, o) ∈ L) : W.heap[b]? = some o := by
  obtain ⟨O, -, -, hL⟩ := h.ex
  exact (hL _ hx).1
theorem St.at0 {b : Nat} {o : Obj} (h : St w0 W ap s ((b, o) :: L)) : W.heap[b]? = some o := h.at (List.mem_cons_self ..)
variable {f : FuncId} {args : Array Value} {r : Ending}
/-- A call that only reads. -/
theorem St.read {P : Program} (h : St w0 W ap s L) (hc : ∀ O, AP W ap s O → Calls P f args W fun e w' => e = r ∧ Below W.heap.size W w') : Calls P f args W fun e w' => e = r ∧ St w0 w' ap s L := by
  obtain ⟨O, hA, -⟩ := h.ex
  exact (hc O hA).mono fun e w' ⟨he, hb⟩ => ⟨he, h.below hb⟩
/-- A call that leaves the world. -/
theorem St.same {P : Program} (h : St w0 W ap s L) (hc : ∀ O, AP W ap s O → Calls P f args W fun e w' => e = r ∧ W = w') : Calls P f args W fun e w' => e = r ∧ St w0 w' ap s L := by
  obtain ⟨O, hA, -⟩ := h.ex
  exact (hc O hA).mono fun e w' ⟨he, hb⟩ => ⟨he, hb ▸ h⟩
/-- A call that writes into the arena. -/
theorem St.write {P : Program} (h : St w0 W ap s L) (hc : ∀ O, AP W ap s O → Calls P f args W fun e w' => e = r ∧ Did noX ap s' O W w') : Calls P f args W fun e w' => e = r ∧ St w0 w' ap s' L := by
  obtain ⟨O, hA, hO, hL⟩ := h.ex
  exact (hc O hA).mono fun e w' ⟨he, O', h1, h2⟩ => ⟨he, h.did (O' := O') ⟨O, hA, hO, hL, h1, h2⟩⟩
end
/-- Build of documents, however few, where there is room. -/
theorem bldS_calls {w0 W : World} {p : Addr} {L : List (Nat × Obj)} (n : Nat) (hn1 : 2700 ≤ n) (hn2 : n ≤ 6000) (h : St w0 W (.pointer (some p)) (Ar.new n) L) (rate : Int) (hr1 : 1 ≤ rate) (hr2 : rate ≤ 1000) (ds : Docs) (hR : Right ds) (htot : tot ds ≤ 60) (A : Option Addr) (cap : Nat) (hD : Rd2 w0 (.slice A ds.length cap) ds) :
    Calls Tryz.prog 18 #[.pointer (some p), .int .i64 rate, .slice A ds.length cap] W fun e w' => ∃ root s', e = .returned (.tuple #[.int .i64 root, .bool true]) ∧ St w0 w' (.pointer (some p)) s' L ∧ Inv s' [root] ∧ s'.wait = [] ∧ s'.size = n ∧ VR s' root ds rate ∧ (root = 0 ↔ ds = []) := by
  by_cases hne : ds = []
  · subst hne
    refine (bldnil_calls (some p) rate A 0 cap rfl W).mono ?_
    rintro e w' ⟨he, hb⟩
    exact ⟨0, _, he, h.below hb, (Inv.new n hn2).zero_cons (by simp), rfl, rfl, ⟨.inl ⟨rfl, rfl⟩, fun h => absurd rfl h⟩, ⟨fun _ => rfl, fun _ => rfl⟩⟩
  · obtain ⟨A', c', hv, h2⟩ := id hD
    obtain ⟨rfl, -, rfl⟩ := Value.slice.inj hv
    obtain ⟨ad, rfl, hlt, -⟩ := h2 (List.length_pos_iff.2 hne)
    have hl := hR.len
    obtain ⟨O, hA, hO, hL⟩ := h.ex
    obtain ⟨B1, B2, root, s', h1, o1, h2', o2, h3, hI, hz, h0, hv, hwt⟩ := build_partsW (Inv.new n hn2) rfl hR hne rate (by show 10000 + 160 * (tot ds + ds.length) ≤ 8 * n; omega)
    refine (build_calls rate hr1 hr2 ds ad cap hne hR.right W (hD.below h.bel) (fun hq => by have := hO _ hq; omega) hA B1 B2 h1 o1 h2' o2 root s' h3).mono ?_
    rintro e w' ⟨he, O', a, b⟩
    exact ⟨root, s', he, h.did (O' := O') ⟨O, hA, hO, hL, a, b⟩, hI, hwt, hz, hv, ⟨fun e => absurd e h0, fun e => absurd e hne⟩⟩
/-- Where a statement over few documents is refused, and where not. -/
theorem law_guard (ds : Docs) (rate : Int) (hid : IdOk ds) :
    (few ds = false ∨ (few ds = true ∧ ((ds.length : Int) == 0) = true) ∨ (few ds = true ∧ ((ds.length : Int) == 0) = false ∧ decide (rate < 1) = true) ∨ (few ds = true ∧ ((ds.length : Int) == 0) = false ∧ decide (rate < 1) = false ∧ decide (16 < rate) = true)) ∨
    (few ds = true ∧ ((ds.length : Int) == 0) = false ∧ decide (rate < 1) = false ∧ decide (16 < rate) = false ∧ Right ds ∧ tot ds ≤ 60 ∧ 1 ≤ rate ∧ rate ≤ 16 ∧ ds ≠ []) := by
  cases hf : few ds with
  | false => exact .inl (.inl rfl)
  | true =>
    obtain ⟨hR, htot, hl10⟩ := few_right hf hid
    by_cases hz : ds.length = 0
    · exact .inl (.inr (.inl ⟨rfl, by rw [hz]; rfl⟩))
    have d0 : ((ds.length : Int) == 0) = false := by rw [beq_eq_false_iff_ne]; omega
    by_cases h1 : rate < 1
    · exact .inl (.inr (.inr (.inl ⟨rfl, d0, by simpa using h1⟩)))
    by_cases h2 : 16 < rate
    · exact .inl (.inr (.inr (.inr ⟨rfl, d0, by simpa using h1, by simpa using h2⟩)))
    exact .inr ⟨rfl, d0, by simpa using h1, by simpa using h2, hR, htot, by omega, by omega, fun e => hz (by rw [e]; rfl)⟩
end Go.Proofs.YtdjpjmkpndmhaaaGreat
/- From row to row in the version of documents: what Next tells; no program here. -/
namespace Go.Proofs.YtdjpjmkpndmhaaaGreat
set_option linter.unusedSimpArgs false
set_option linter.unusedVariables false
set_option linter.unnecessarySimpa false
open Go.RowKit
variable {s : Ar} {H : List Int} {h : Int} {ds : Docs} {rate : Int}
/-- The place of the row of (d, a). -/
def rowAt (ds : Docs) (d a : Nat) : Nat := below (txt ds) (d, a) (all (txt ds))
theorem row_place {i : Nat} {r : Nat × Nat} (hR : Right ds) (hi : (refSorted (txt ds))[i]? = some r) : rowAt ds r.1 r.2 = i := by
  rw [right_all hR] at hi
  exact srt_idx (all_srt _) hi
theorem row_there {d a : Nat} {t : List UInt8} (hR : Right ds) (ht : (txt ds)[d]? = some t) (ha : a ≤ t.length) : (refSorted (txt ds))[rowAt ds d a]? = some (d, a) := by
  rw [right_all hR]
  exact srt_at (all_srt _) (all_mem ht ha)
theorem row_lt {d a : Nat} {t : List UInt8} (hR : Right ds) (ht : (txt ds)[d]? = some t) (ha : a ≤ t.length) : rowAt ds d a < (refSorted (txt ds)).length :=
  (List.getElem?_eq_some_iff.1 (row_there hR ht ha)).1
theorem vnext_step (hI : Inv s H) (hv : VR s h ds rate) (hR : Right ds) {d a : Nat} {t : List UInt8} (ht : (txt ds)[d]? = some t) (ha : a < t.length) : vNext s h ((rowAt ds d (a + 1) : Nat) : Int) = some (((rowAt ds d a : Nat) : Int), true) := by
  rw [hv.next hI (by have := hR.len; omega)]
  exact congrArg some (next_at hR ht ha)
theorem vnext_stop (hI : Inv s H) (hv : VR s h ds rate) (hR : Right ds) {d : Nat} {t : List UInt8} (ht : (txt ds)[d]? = some t) : vNext s h ((rowAt ds d 0 : Nat) : Int) = some (0, false) := by
  rw [hv.next hI (by have := hR.len; omega)]
  exact congrArg some (next_end hR ht)
theorem vnext_over (hI : Inv s H) (hv : VR s h ds rate) (hR : Right ds) : vNext s h (((refSorted (txt ds)).length : Nat) : Int) = some (0, false) := by
  rw [hv.next hI (by have := hR.len; omega)]
  unfold nextL
  rw [if_pos]
  right
  rw [rowW, List.length_map, rowsM_length]
  omega
end Go.Proofs.YtdjpjmkpndmhaaaGreat
/- The version of documents that may be, built in an arena of n nodes: what the theory knows of it. -/
namespace Go.Proofs.YtdjpjmkpndmhaaaGreat
set_option linter.unusedSimpArgs false
set_option linter.unusedVariables false
set_option linter.unnecessarySimpa false
open Go.RowKit
/-- Build of documents, however few, where there is room. -/
theorem bldN_calls (q : Option Addr) {O : Nat → Prop} (n : Nat) (hn1 : 2700 ≤ n) (hn2 : n ≤ 6000) (rate : Int) (hr1 : 1 ≤ rate) (hr2 : rate ≤ 1000) (ds : Docs) (hR : Right ds) (htot : tot ds ≤ 60) (A : Option Addr) (cap : Nat) (w0 w : World) (hb : Below w0.heap.size w0 w) (hD : Rd2 w0 (.slice A ds.length cap) ds) (hO : ∀ b, O b → w0.heap.size ≤ b) (hA : AP w (.pointer q) (Ar.new n) O) :
    Calls Tryz.prog 18 #[.pointer q, .int .i64 rate, .slice A ds.length cap] w fun e w' => ∃ root s' O' H, e = .returned (.tuple #[.int .i64 root, .bool true]) ∧ AP w' (.pointer q) s' O' ∧ Below w0.heap.size w0 w' ∧ Inv s' H ∧ VR s' root ds rate := by
  by_cases hne : ds = []
  · subst hne
    refine (bldnil_calls q rate A 0 cap rfl w).mono ?_
    rintro e w' ⟨he, h⟩
    exact ⟨0, _, O, [], he, hA.below h, below_step hb h, Inv.new n hn2, ⟨.inl ⟨rfl, rfl⟩, fun h => absurd rfl h⟩⟩
  · obtain ⟨A', c', hv, h2⟩ := id hD
    obtain ⟨rfl, -, rfl⟩ := Value.slice.inj hv
    obtain ⟨ad, rfl, hlt, -⟩ := h2 (List.length_pos_iff.2 hne)
    have hl := hR.len
    obtain ⟨B1, B2, root, s', h1, o1, h2', o2, h3, hI, -, -, hv⟩ := build_parts (Inv.new n hn2) rfl hR hne rate (by show 10000 + 160 * (tot ds + ds.length) ≤ 8 * n; omega)
    refine (build_calls rate hr1 hr2 ds ad cap hne hR.right w (hD.below hb) (fun h => absurd (hO _ h) (by omega)) hA B1 B2 h1 o1 h2' o2 root s' h3).mono ?_
    rintro e w' ⟨he, O', a, b⟩
    exact ⟨root, s', O', [root], he, a, below_fr hb b hO, hI, hv⟩
end Go.Proofs.YtdjpjmkpndmhaaaGreat
/- The arena's New. -/
namespace Go.Proofs.YtdjpjmkpndmhaaaGreat
set_option linter.unusedSimpArgs false
set_option linter.unusedVariables false
set_option linter.unnecessarySimpa false
open Go.RowKit
attribute [local go_sem ↓] Go.wp_at_zero Go.wp_at_succ
attribute [local go_sem] lt_s2 lt_s3 lt_s4
theorem made_ofF (c : Array Value) (N : Nat) (f : Nat → Value) (h : ∀ i, i < N → c[i % c.size]! = f i) : madeCells c N = ofF N f := by
  apply Array.ext
  · rw [size_madeCells, ofF_size]
  · intro i h1 h2
    rw [size_madeCells] at h1
    simp only [madeCells, ofF, Array.getElem_map, Array.getElem_range, Array.getElem_ofFn]
    exact h i h1
theorem make_nodes (n : Nat) (h2 : n ≤ 6000) (w : World) : (Instr.makeSlice 82 (.int .i64 ((n : Int) + 1)) (.int .i64 ((n : Int) + 1))).run Tryz.prog w = .ok (.slice (some ⟨w.heap.size, 0, none⟩) (n + 1) (n + 1)) (w.alloc (.cells (ofF ((n + 1) * 7) (nodeF (Ar.new n))) 93 (0, 0))) := by
  obtain ⟨i0, hi0, hz0, hz1, hz2⟩ := info_parts (P := Tryz.prog) (e := 93) (z := .agg #[.int .i64 0, .int .i64 0, .int .i64 0, .int .i64 0, .int .i64 0, .int .u64 0, .int .u64 0]) (size := 7) (bytes := 56) (by kernel_rfl)
  have h := run_makeSlice (P := Tryz.prog) w 82 93 i0 _ Tryz.underlying82 hi0 hz0 .i64 .i64 ((n : Int) + 1) ((n : Int) + 1) (by omega) (by omega) (by rw [hz1]; omega) (by rw [hz2]; omega) (by omega)
  rw [h, hz1, show ((n : Int) + 1).toNat = n + 1 by omega, made_ofF _ _ (nodeF (Ar.new n))]
  intro i _
  show (#[Value.int .i64 0, .int .i64 0, .int .i64 0, .int .i64 0, .int .i64 0, .int .u64 0, .int .u64 0] : Array Value)[i % 7]! = Nd.zero.cell (i % 7)
  rcases (show i % 7 = 0 ∨ i % 7 = 1 ∨ i % 7 = 2 ∨ i % 7 = 3 ∨ i % 7 = 4 ∨ i % 7 = 5 ∨ i % 7 = 6 by omega) with h | h | h | h | h | h | h <;> rw [h] <;> rfl
theorem make_counts (n : Nat) (h2 : n ≤ 6000) (w : World) : (Instr.makeSlice 62 (.int .i64 ((n : Int) + 1)) (.int .i64 ((n : Int) + 1))).run Tryz.prog w = .ok (.slice (some ⟨w.heap.size, 0, none⟩) (n + 1) (n + 1)) (w.alloc (.cells (ofF (n + 1) (countF (Ar.new n))) 3 (0, 0))) := by
  obtain ⟨i0, hi0, hz0, hz1, hz2⟩ := info_parts (P := Tryz.prog) (e := 3) (z := .int .i64 0) (size := 1) (bytes := 8) (by kernel_rfl)
  have h := run_makeSlice (P := Tryz.prog) w 62 3 i0 _ Tryz.underlying62 hi0 hz0 .i64 .i64 ((n : Int) + 1) ((n : Int) + 1) (by omega) (by omega) (by rw [hz1]; omega) (by rw [hz2]; omega) (by omega)
  rw [h, hz1, show ((n : Int) + 1).toNat = n + 1 by omega, Nat.mul_one, made_ofF _ _ (countF (Ar.new n))]
  intro i _
  show (#[Value.int .i64 0] : Array Value)[i % 1]! = .int .i64 0
  rw [Nat.mod_one]; rfl
theorem make_useds (n : Nat) (h2 : n ≤ 6000) (w : World) : (Instr.makeSlice 83 (.int .i64 ((n : Int) + 1)) (.int .i64 ((n : Int) + 1))).run Tryz.prog w = .ok (.slice (some ⟨w.heap.size, 0, none⟩) (n + 1) (n + 1)) (w.alloc (.cells (ofF (n + 1) (usedF (Ar.new n))) 4 (0, 0))) := by
  obtain ⟨i0, hi0, hz0, hz1, hz2⟩ := info_parts (P := Tryz.prog) (e := 4) (z := .bool false) (size := 1) (bytes := 1) (by kernel_rfl)
  have h := run_makeSlice (P := Tryz.prog) w 83 4 i0 _ Tryz.underlying83 hi0 hz0 .i64 .i64 ((n : Int) + 1) ((n : Int) + 1) (by omega) (by omega) (by rw [hz1]; omega) (by rw [hz2]; omega) (by omega)
  rw [h, hz1, show ((n : Int) + 1).toNat = n + 1 by omega, Nat.mul_one, made_ofF _ _ (usedF (Ar.new n))]
  intro i _
  show (#[Value.bool false] : Array Value)[i % 1]! = .bool false
  rw [Nat.mod_one]; rfl
theorem ap_new {W w : World} {n p nb cb ub : Nat} (h2 : n ≤ 6000) (hp : W.heap[p]? = some (.cells (ArC n nb cb ub (.slice none 0 0) 0 0) 85 (0, 0))) (hn : W.heap[nb]? = some (.cells (ofF ((n + 1) * 7) (nodeF (Ar.new n))) 93 (0, 0)))
    (hc : W.heap[cb]? = some (.cells (ofF (n + 1) (countF (Ar.new n))) 3 (0, 0))) (hu : W.heap[ub]? = some (.cells (ofF (n + 1) (usedF (Ar.new n))) 4 (0, 0))) (b1 : w.heap.size ≤ p) (b2 : w.heap.size ≤ nb) (b3 : w.heap.size ≤ cb) (b4 : w.heap.size ≤ ub) :
    ∃ O, AP W (.pointer (some ⟨p, 0, none⟩)) (Ar.new n) O ∧ (∀ b, O b → w.heap.size ≤ b) := by
  refine ⟨fun b => b = p ∨ b = nb ∨ b = cb ∨ b = ub, ⟨Ar.Wq.new n h2, .inr ⟨p, nb, cb, ub, .slice none 0 0, rfl, ⟨hp, hn, hc, hu, .inl ⟨rfl, rfl⟩, by simp [Value.ownBlock], .inl rfl, .inr (.inl rfl), .inr (.inr (.inl rfl)), .inr (.inr (.inr rfl)), by simp [Value.ownBlock], ?_⟩⟩⟩, ?_⟩
  · rintro b (rfl | rfl | rfl | rfl)
    · exact lt_of hp
    · exact lt_of hn
    · exact lt_of hc
    · exact lt_of hu
  · rintro b (rfl | rfl | rfl | rfl) <;> assumption
set_option maxRecDepth 100000 in
set_option maxHeartbeats 2000000 in
theorem new_calls (n : Nat) (h1 : 1 ≤ n) (h2 : n ≤ 6000) (w : World) :
    Calls Tryz.prog 17 #[.int .i64 (n : Int)] w fun e w' => ∃ p O, e = .returned (.pointer (some ⟨p, 0, none⟩)) ∧ AP w' (.pointer (some ⟨p, 0, none⟩)) (Ar.new n) O ∧ (∀ b, O b → w.heap.size ≤ b) ∧ Below w.heap.size w w' := by
  have d1 : decide ((n : Int) < 1) = false := by simp; omega
  have d2 : decide ((6000 : Int) < n) = false := by simp; omega
  have m2 := fun w => make_nodes n h2 w
  have m5 := fun w => make_counts n h2 w
  have m8 := fun w => make_useds n h2 w
  have H2 := Lib.hid h2
  go_enter Tryz.func17, Tryz.ntmps17
  go_wp2_with fail
  refine wp_gen fun V hV_V => ?_
  have hB : Below w.heap.size w V := nB hV_V
  have z_V := zS hV_V
  clear hV_V
  refine wp_region_noPanic ?_
  refine wp_region_held_drew (S := fun v => (V.heap.size ≤ v.heap.size) ∧ True) (by kernel_rfl) ⟨(Nat.le_refl _), trivial⟩ (fun hHeld => ?_)
  generalize hV_Vd : V.drew = Vd at hHeld ⊢
  replace hB := hB.drew; rw [hV_Vd] at hB
  have z_Vd := dZ hV_Vd
  clear hV_Vd
  refine tz 0 rfl hHeld ?_
  try simp only [PT]
  refine tz 1 rfl hHeld ?_
  try simp only [PT]
  refine tz 3 rfl hHeld ?_
  try simp only [PT]
  refine tz 4 rfl hHeld ?_
  try simp only [PT]
  refine tz 6 rfl hHeld ?_
  try simp only [PT]
  refine tz 7 rfl hHeld ?_
  try simp only [PT]
  have ew : wrap64 ((n : Int) + 1) = (n : Int) + 1 := IntWalk.wrap64_in _ (by omega)
  simp only [ew]
  clear ew
  have hB1 := hB
  clear hB
  refine wpAnyH_ready (rs := [2, 5, 8]) (by kernel_rfl) (by simp) ?_
  refine ready_at rfl (fun K hK => ?_) ?_
  · go_simp
    refine gen_app (K := K) (fun D1 e1 => ?_)
    have k1 := (congrArg (fun v : World => v.heap[Vd.heap.size]?) e1).trans (blk_new _ _ _ rfl)
    try dsimp only at k1
    have b1 : Below w.heap.size w D1 := by rw [e1]; exact hB1.alloc hB1.size _
    have s1 : D1.heap.size = Vd.heap.size + 1 := by rw [e1, siz_alloc]
    clear e1
    refine hK.out _ _ ⟨by omega, trivial⟩ (fun hHeld => ?_)
    clear hK K
    try simp only [PT]
    refine wpAnyH_ready (rs := [5, 8]) (by kernel_rfl) (by simp) ?_
    refine ready_at rfl (fun K hK => ?_) ?_
    · go_simp
      refine gen_app (K := K) (fun D2 e2 => ?_)
      have k2 := (congrArg (fun v : World => v.heap[D1.heap.size]?) e2).trans (blk_new _ _ _ rfl)
      try dsimp only at k2
      have k1' := (congrArg (fun v : World => v.heap[Vd.heap.size]?) e2).trans ((blk_old _ _ _ (by omega)).trans k1)
      try dsimp only at k1'
      clear k1; have k1 := k1'; clear k1'
      have b2 : Below w.heap.size w D2 := by rw [e2]; exact b1.alloc b1.size _
      have s2 : D2.heap.size = D1.heap.size + 1 := by rw [e2, siz_alloc]
      clear e2
      refine hK.out _ _ ⟨by omega, trivial⟩ (fun hHeld => ?_)
      clear hK K
      try simp only [PT]
      refine wpAnyH_ready (rs := [8]) (by kernel_rfl) (by simp) ?_
      refine ready_at rfl (fun K hK => ?_) AllReadyH.nil
      go_simp
      refine gen_app (K := K) (fun D3 e3 => ?_)
      have k3 := (congrArg (fun v : World => v.heap[D2.heap.size]?) e3).trans (blk_new _ _ _ rfl)
      try dsimp only at k3
      have k1' := (congrArg (fun v : World => v.heap[Vd.heap.size]?) e3).trans ((blk_old _ _ _ (by omega)).trans k1)
      try dsimp only at k1'
      clear k1; have k1 := k1'; clear k1'
      have k2' := (congrArg (fun v : World => v.heap[D1.heap.size]?) e3).trans ((blk_old _ _ _ (by omega)).trans k2)
      try dsimp only at k2'
      clear k2; have k2 := k2'; clear k2'
      have b3 : Below w.heap.size w D3 := by rw [e3]; exact b2.alloc b2.size _
      have s3 : D3.heap.size = D2.heap.size + 1 := by rw [e3, siz_alloc]
      clear e3
      refine hK.out _ _ ⟨by omega, trivial⟩ (fun hHeld => ?_)
      clear hK K
      try simp only [PT]
      clear m2 m5 m8
      refine tz 9 rfl hHeld ?_
      try simp only [PT]
      refine wpAnyH_ready (rs := [10]) (by kernel_rfl) (by simp) ?_
      refine ready_at rfl (fun K hK => ?_) AllReadyH.nil
      go_simp
      refine gen_app (K := K) (fun D4 e4 => ?_)
      have q4 := (congrArg (fun v : World => v.heap[D3.heap.size]?) e4).trans (blk_new _ _ _ rfl)
      try dsimp only at q4
      have q1 := (congrArg (fun v : World => v.heap[Vd.heap.size]?) e4).trans ((blk_old _ _ _ (by omega)).trans k1)
      try dsimp only at q1
      have q2 := (congrArg (fun v : World => v.heap[D1.heap.size]?) e4).trans ((blk_old _ _ _ (by omega)).trans k2)
      try dsimp only at q2
      have q3 := (congrArg (fun v : World => v.heap[D2.heap.size]?) e4).trans ((blk_old _ _ _ (by omega)).trans k3)
      try dsimp only at q3
      have b4 : Below w.heap.size w D4 := by rw [e4]; exact b3.alloc b3.size _
      have s4 : D3.heap.size ≤ D4.heap.size := by rw [e4, siz_alloc]; omega
      clear e4 k1 k2 k3
      refine hK.out _ _ ⟨by omega, trivial⟩ (fun hHeld => ?_)
      clear hK K
      try simp only [PT]
      refine rd 11 rfl fun K hK => ?_
      go_simp
      refine hK.out _ _ hHeld (fun hHeld => ?_)
      clear hK K
      try simp only [PT]
      refine wpAnyH_done (by kernel_rfl) ?_ _
      refine NoPanic.normal ?_
      go_wp2_with fail
      go_ret
      simp only [s1] at q2
      simp only [s2, s1] at q3
      simp only [s3, s2, s1] at q4
      obtain ⟨O, h3, h4⟩ := ap_new (w := w) H2.out q4 q1 q2 q3 (by omega) (by omega) (by omega) (by omega)
      exact ⟨_, O, rfl, h3, h4, b4⟩
    refine ready_at rfl (fun K hK => ?_) AllReadyH.nil
    go_simp
    refine gen_app (K := K) (fun D2 e2 => ?_)
    have k2 := (congrArg (fun v : World => v.heap[D1.heap.size]?) e2).trans (blk_new _ _ _ rfl)
    try dsimp only at k2
    have k1' := (congrArg (fun v : World => v.heap[Vd.heap.size]?) e2).trans ((blk_old _ _ _ (by omega)).trans k1)
    try dsimp only at k1'
    clear k1; have k1 := k1'; clear k1'
    have b2 : Below w.heap.size w D2 := by rw [e2]; exact b1.alloc b1.size _
    have s2 : D2.heap.size = D1.heap.size + 1 := by rw [e2, siz_alloc]
    clear e2
    refine hK.out _ _ ⟨by omega, trivial⟩ (fun hHeld => ?_)
    clear hK K
    try simp only [PT]
    refine wpAnyH_ready (rs := [5]) (by kernel_rfl) (by simp) ?_
    refine ready_at rfl (fun K hK => ?_) AllReadyH.nil
    go_simp
    refine gen_app (K := K) (fun D3 e3 => ?_)
    have k3 := (congrArg (fun v : World => v.heap[D2.heap.size]?) e3).trans (blk_new _ _ _ rfl)
    try dsimp only at k3
    have k1' := (congrArg (fun v : World => v.heap[Vd.heap.size]?) e3).trans ((blk_old _ _ _ (by omega)).trans k1)
    try dsimp only at k1'
    clear k1; have k1 := k1'; clear k1'
    have k2' := (congrArg (fun v : World => v.heap[D1.heap.size]?) e3).trans ((blk_old _ _ _ (by omega)).trans k2)
    try dsimp only at k2'
    clear k2; have k2 := k2'; clear k2'
    have b3 : Below w.heap.size w D3 := by rw [e3]; exact b2.alloc b2.size _
    have s3 : D3.heap.size = D2.heap.size + 1 := by rw [e3, siz_alloc]
    clear e3
    refine hK.out _ _ ⟨by omega, trivial⟩ (fun hHeld => ?_)
    clear hK K
    try simp only [PT]
    clear m2 m5 m8
    refine tz 9 rfl hHeld ?_
    try simp only [PT]
    refine wpAnyH_ready (rs := [10]) (by kernel_rfl) (by simp) ?_
    refine ready_at rfl (fun K hK => ?_) AllReadyH.nil
    go_simp
    refine gen_app (K := K) (fun D4 e4 => ?_)
    have q4 := (congrArg (fun v : World => v.heap[D3.heap.size]?) e4).trans (blk_new _ _ _ rfl)
    try dsimp only at q4
    have q1 := (congrArg (fun v : World => v.heap[Vd.heap.size]?) e4).trans ((blk_old _ _ _ (by omega)).trans k1)
    try dsimp only at q1
    have q2 := (congrArg (fun v : World => v.heap[D1.heap.size]?) e4).trans ((blk_old _ _ _ (by omega)).trans k2)
    try dsimp only at q2
    have q3 := (congrArg (fun v : World => v.heap[D2.heap.size]?) e4).trans ((blk_old _ _ _ (by omega)).trans k3)
    try dsimp only at q3
    have b4 : Below w.heap.size w D4 := by rw [e4]; exact b3.alloc b3.size _
    have s4 : D3.heap.size ≤ D4.heap.size := by rw [e4, siz_alloc]; omega
    clear e4 k1 k2 k3
    refine hK.out _ _ ⟨by omega, trivial⟩ (fun hHeld => ?_)
    clear hK K
    try simp only [PT]
    refine rd 11 rfl fun K hK => ?_
    go_simp
    refine hK.out _ _ hHeld (fun hHeld => ?_)
    clear hK K
    try simp only [PT]
    refine wpAnyH_done (by kernel_rfl) ?_ _
    refine NoPanic.normal ?_
    go_wp2_with fail
    go_ret
    simp only [s1] at q2
    simp only [s2, s1] at q3
    simp only [s3, s2, s1] at q4
    obtain ⟨O, h3, h4⟩ := ap_new (w := w) H2.out q4 q1 q3 q2 (by omega) (by omega) (by omega) (by omega)
    exact ⟨_, O, rfl, h3, h4, b4⟩
  refine ready_at rfl (fun K hK => ?_) ?_
  · go_simp
    refine gen_app (K := K) (fun D1 e1 => ?_)
    have k1 := (congrArg (fun v : World => v.heap[Vd.heap.size]?) e1).trans (blk_new _ _ _ rfl)
    try dsimp only at k1
    have b1 : Below w.heap.size w D1 := by rw [e1]; exact hB1.alloc hB1.size _
    have s1 : D1.heap.size = Vd.heap.size + 1 := by rw [e1, siz_alloc]
    clear e1
    refine hK.out _ _ ⟨by omega, trivial⟩ (fun hHeld => ?_)
    clear hK K
    try simp only [PT]
    refine wpAnyH_ready (rs := [2, 8]) (by kernel_rfl) (by simp) ?_
    refine ready_at rfl (fun K hK => ?_) ?_
    · go_simp
      refine gen_app (K := K) (fun D2 e2 => ?_)
      have k2 := (congrArg (fun v : World => v.heap[D1.heap.size]?) e2).trans (blk_new _ _ _ rfl)
      try dsimp only at k2
      have k1' := (congrArg (fun v : World => v.heap[Vd.heap.size]?) e2).trans ((blk_old _ _ _ (by omega)).trans k1)
      try dsimp only at k1'
      clear k1; have k1 := k1'; clear k1'
      have b2 : Below w.heap.size w D2 := by rw [e2]; exact b1.alloc b1.size _
      have s2 : D2.heap.size = D1.heap.size + 1 := by rw [e2, siz_alloc]
      clear e2
      refine hK.out _ _ ⟨by omega, trivial⟩ (fun hHeld => ?_)
      clear hK K
      try simp only [PT]
      refine wpAnyH_ready (rs := [8]) (by kernel_rfl) (by simp) ?_
      refine ready_at rfl (fun K hK => ?_) AllReadyH.nil
      go_simp
      refine gen_app (K := K) (fun D3 e3 => ?_)
      have k3 := (congrArg (fun v : World => v.heap[D2.heap.size]?) e3).trans (blk_new _ _ _ rfl)
      try dsimp only at k3
      have k1' := (congrArg (fun v : World => v.heap[Vd.heap.size]?) e3).trans ((blk_old _ _ _ (by omega)).trans k1)
      try dsimp only at k1'
      clear k1; have k1 := k1'; clear k1'
      have k2' := (congrArg (fun v : World => v.heap[D1.heap.size]?) e3).trans ((blk_old _ _ _ (by omega)).trans k2)
      try dsimp only at k2'
      clear k2; have k2 := k2'; clear k2'
      have b3 : Below w.heap.size w D3 := by rw [e3]; exact b2.alloc b2.size _
      have s3 : D3.heap.size = D2.heap.size + 1 := by rw [e3, siz_alloc]
      clear e3
      refine hK.out _ _ ⟨by omega, trivial⟩ (fun hHeld => ?_)
      clear hK K
      try simp only [PT]
      clear m2 m5 m8
      refine tz 9 rfl hHeld ?_
      try simp only [PT]
      refine wpAnyH_ready (rs := [10]) (by kernel_rfl) (by simp) ?_
      refine ready_at rfl (fun K hK => ?_) AllReadyH.nil
      go_simp
      refine gen_app (K := K) (fun D4 e4 => ?_)
      have q4 := (congrArg (fun v : World => v.heap[D3.heap.size]?) e4).trans (blk_new _ _ _ rfl)
      try dsimp only at q4
      have q1 := (congrArg (fun v : World => v.heap[Vd.heap.size]?) e4).trans ((blk_old _ _ _ (by omega)).trans k1)
      try dsimp only at q1
      have q2 := (congrArg (fun v : World => v.heap[D1.heap.size]?) e4).trans ((blk_old _ _ _ (by omega)).trans k2)
      try dsimp only at q2
      have q3 := (congrArg (fun v : World => v.heap[D2.heap.size]?) e4).trans ((blk_old _ _ _ (by omega)).trans k3)
      try dsimp only at q3
      have b4 : Below w.heap.size w D4 := by rw [e4]; exact b3.alloc b3.size _
      have s4 : D3.heap.size ≤ D4.heap.size := by rw [e4, siz_alloc]; omega
      clear e4 k1 k2 k3
      refine hK.out _ _ ⟨by omega, trivial⟩ (fun hHeld => ?_)
      clear hK K
      try simp only [PT]
      refine rd 11 rfl fun K hK => ?_
      go_simp
      refine hK.out _ _ hHeld (fun hHeld => ?_)
      clear hK K
      try simp only [PT]
      refine wpAnyH_done (by kernel_rfl) ?_ _
      refine NoPanic.normal ?_
      go_wp2_with fail
      go_ret
      simp only [s1] at q2
      simp only [s2, s1] at q3
      simp only [s3, s2, s1] at q4
      obtain ⟨O, h3, h4⟩ := ap_new (w := w) H2.out q4 q2 q1 q3 (by omega) (by omega) (by omega) (by omega)
      exact ⟨_, O, rfl, h3, h4, b4⟩
    refine ready_at rfl (fun K hK => ?_) AllReadyH.nil
    go_simp
    refine gen_app (K := K) (fun D2 e2 => ?_)
    have k2 := (congrArg (fun v : World => v.heap[D1.heap.size]?) e2).trans (blk_new _ _ _ rfl)
    try dsimp only at k2
    have k1' := (congrArg (fun v : World => v.heap[Vd.heap.size]?) e2).trans ((blk_old _ _ _ (by omega)).trans k1)
    try dsimp only at k1'
    clear k1; have k1 := k1'; clear k1'
    have b2 : Below w.heap.size w D2 := by rw [e2]; exact b1.alloc b1.size _
    have s2 : D2.heap.size = D1.heap.size + 1 := by rw [e2, siz_alloc]
    clear e2
    refine hK.out _ _ ⟨by omega, trivial⟩ (fun hHeld => ?_)
    clear hK K
    try simp only [PT]
    refine wpAnyH_ready (rs := [2]) (by kernel_rfl) (by simp) ?_
    refine ready_at rfl (fun K hK => ?_) AllReadyH.nil
    go_simp
    refine gen_app (K := K) (fun D3 e3 => ?_)
    have k3 := (congrArg (fun v : World => v.heap[D2.heap.size]?) e3).trans (blk_new _ _ _ rfl)
    try dsimp only at k3
    have k1' := (congrArg (fun v : World => v.heap[Vd.heap.size]?) e3).trans ((blk_old _ _ _ (by omega)).trans k1)
    try dsimp only at k1'
    clear k1; have k1 := k1'; clear k1'
    have k2' := (congrArg (fun v : World => v.heap[D1.heap.size]?) e3).trans ((blk_old _ _ _ (by omega)).trans k2)
    try dsimp only at k2'
    clear k2; have k2 := k2'; clear k2'
    have b3 : Below w.heap.size w D3 := by rw [e3]; exact b2.alloc b2.size _
    have s3 : D3.heap.size = D2.heap.size + 1 := by rw [e3, siz_alloc]
    clear e3
    refine hK.out _ _ ⟨by omega, trivial⟩ (fun hHeld => ?_)
    clear hK K
    try simp only [PT]
    clear m2 m5 m8
    refine tz 9 rfl hHeld ?_
    try simp only [PT]
    refine wpAnyH_ready (rs := [10]) (by kernel_rfl) (by simp) ?_
    refine ready_at rfl (fun K hK => ?_) AllReadyH.nil
    go_simp
    refine gen_app (K := K) (fun D4 e4 => ?_)
    have q4 := (congrArg (fun v : World => v.heap[D3.heap.size]?) e4).trans (blk_new _ _ _ rfl)
    try dsimp only at q4
    have q1 := (congrArg (fun v : World => v.heap[Vd.heap.size]?) e4).trans ((blk_old _ _ _ (by omega)).trans k1)
    try dsimp only at q1
    have q2 := (congrArg (fun v : World => v.heap[D1.heap.size]?) e4).trans ((blk_old _ _ _ (by omega)).trans k2)
    try dsimp only at q2
    have q3 := (congrArg (fun v : World => v.heap[D2.heap.size]?) e4).trans ((blk_old _ _ _ (by omega)).trans k3)
    try dsimp only at q3
    have b4 : Below w.heap.size w D4 := by rw [e4]; exact b3.alloc b3.size _
    have s4 : D3.heap.size ≤ D4.heap.size := by rw [e4, siz_alloc]; omega
    clear e4 k1 k2 k3
    refine hK.out _ _ ⟨by omega, trivial⟩ (fun hHeld => ?_)
    clear hK K
    try simp only [PT]
    refine rd 11 rfl fun K hK => ?_
    go_simp
    refine hK.out _ _ hHeld (fun hHeld => ?_)
    clear hK K
    try simp only [PT]
    refine wpAnyH_done (by kernel_rfl) ?_ _
    refine NoPanic.normal ?_
    go_wp2_with fail
    go_ret
    simp only [s1] at q2
    simp only [s2, s1] at q3
    simp only [s3, s2, s1] at q4
    obtain ⟨O, h3, h4⟩ := ap_new (w := w) H2.out q4 q3 q1 q2 (by omega) (by omega) (by omega) (by omega)
    exact ⟨_, O, rfl, h3, h4, b4⟩
  refine ready_at rfl (fun K hK => ?_) AllReadyH.nil
  go_simp
  refine gen_app (K := K) (fun D1 e1 => ?_)
  have k1 := (congrArg (fun v : World => v.heap[Vd.heap.size]?) e1).trans (blk_new _ _ _ rfl)
  try dsimp only at k1
  have b1 : Below w.heap.size w D1 := by rw [e1]; exact hB1.alloc hB1.size _
  have s1 : D1.heap.size = Vd.heap.size + 1 := by rw [e1, siz_alloc]
  clear e1
  refine hK.out _ _ ⟨by omega, trivial⟩ (fun hHeld => ?_)
  clear hK K
  try simp only [PT]
  refine wpAnyH_ready (rs := [2, 5]) (by kernel_rfl) (by simp) ?_
  refine ready_at rfl (fun K hK => ?_) ?_
  · go_simp
    refine gen_app (K := K) (fun D2 e2 => ?_)
    have k2 := (congrArg (fun v : World => v.heap[D1.heap.size]?) e2).trans (blk_new _ _ _ rfl)
    try dsimp only at k2
    have k1' := (congrArg (fun v : World => v.heap[Vd.heap.size]?) e2).trans ((blk_old _ _ _ (by omega)).trans k1)
    try dsimp only at k1'
    clear k1; have k1 := k1'; clear k1'
    have b2 : Below w.heap.size w D2 := by rw [e2]; exact b1.alloc b1.size _
    have s2 : D2.heap.size = D1.heap.size + 1 := by rw [e2, siz_alloc]
    clear e2
    refine hK.out _ _ ⟨by omega, trivial⟩ (fun hHeld => ?_)
    clear hK K
    try simp only [PT]
    refine wpAnyH_ready (rs := [5]) (by kernel_rfl) (by simp) ?_
    refine ready_at rfl (fun K hK => ?_) AllReadyH.nil
    go_simp
    refine gen_app (K := K) (fun D3 e3 => ?_)
    have k3 := (congrArg (fun v : World => v.heap[D2.heap.size]?) e3).trans (blk_new _ _ _ rfl)
    try dsimp only at k3
    have k1' := (congrArg (fun v : World => v.heap[Vd.heap.size]?) e3).trans ((blk_old _ _ _ (by omega)).trans k1)
    try dsimp only at k1'
    clear k1; have k1 := k1'; clear k1'
    have k2' := (congrArg (fun v : World => v.heap[D1.heap.size]?) e3).trans ((blk_old _ _ _ (by omega)).trans k2)
    try dsimp only at k2'
    clear k2; have k2 := k2'; clear k2'
    have b3 : Below w.heap.size w D3 := by rw [e3]; exact b2.alloc b2.size _
    have s3 : D3.heap.size = D2.heap.size + 1 := by rw [e3, siz_alloc]
    clear e3
    refine hK.out _ _ ⟨by omega, trivial⟩ (fun hHeld => ?_)
    clear hK K
    try simp only [PT]
    clear m2 m5 m8
    refine tz 9 rfl hHeld ?_
    try simp only [PT]
    refine wpAnyH_ready (rs := [10]) (by kernel_rfl) (by simp) ?_
    refine ready_at rfl (fun K hK => ?_) AllReadyH.nil
    go_simp
    refine gen_app (K := K) (fun D4 e4 => ?_)
    have q4 := (congrArg (fun v : World => v.heap[D3.heap.size]?) e4).trans (blk_new _ _ _ rfl)
    try dsimp only at q4
    have q1 := (congrArg (fun v : World => v.heap[Vd.heap.size]?) e4).trans ((blk_old _ _ _ (by omega)).trans k1)
    try dsimp only at q1
    have q2 := (congrArg (fun v : World => v.heap[D1.heap.size]?) e4).trans ((blk_old _ _ _ (by omega)).trans k2)
    try dsimp only at q2
    have q3 := (congrArg (fun v : World => v.heap[D2.heap.size]?) e4).trans ((blk_old _ _ _ (by omega)).trans k3)
    try dsimp only at q3
    have b4 : Below w.heap.size w D4 := by rw [e4]; exact b3.alloc b3.size _
    have s4 : D3.heap.size ≤ D4.heap.size := by rw [e4, siz_alloc]; omega
    clear e4 k1 k2 k3
    refine hK.out _ _ ⟨by omega, trivial⟩ (fun hHeld => ?_)
    clear hK K
    try simp only [PT]
    refine rd 11 rfl fun K hK => ?_
    go_simp
    refine hK.out _ _ hHeld (fun hHeld => ?_)
    clear hK K
    try simp only [PT]
    refine wpAnyH_done (by kernel_rfl) ?_ _
    refine NoPanic.normal ?_
    go_wp2_with fail
    go_ret
    simp only [s1] at q2
    simp only [s2, s1] at q3
    simp only [s3, s2, s1] at q4
    obtain ⟨O, h3, h4⟩ := ap_new (w := w) H2.out q4 q2 q3 q1 (by omega) (by omega) (by omega) (by omega)
    exact ⟨_, O, rfl, h3, h4, b4⟩
  refine ready_at rfl (fun K hK => ?_) AllReadyH.nil
  go_simp
  refine gen_app (K := K) (fun D2 e2 => ?_)
  have k2 := (congrArg (fun v : World => v.heap[D1.heap.size]?) e2).trans (blk_new _ _ _ rfl)
  try dsimp only at k2
  have k1' := (congrArg (fun v : World => v.heap[Vd.heap.size]?) e2).trans ((blk_old _ _ _ (by omega)).trans k1)
  try dsimp only at k1'
  clear k1; have k1 := k1'; clear k1'
  have b2 : Below w.heap.size w D2 := by rw [e2]; exact b1.alloc b1.size _
  have s2 : D2.heap.size = D1.heap.size + 1 := by rw [e2, siz_alloc]
  clear e2
  refine hK.out _ _ ⟨by omega, trivial⟩ (fun hHeld => ?_)
  clear hK K
  try simp only [PT]
  refine wpAnyH_ready (rs := [2]) (by kernel_rfl) (by simp) ?_
  refine ready_at rfl (fun K hK => ?_) AllReadyH.nil
  go_simp
  refine gen_app (K := K) (fun D3 e3 => ?_)
  have k3 := (congrArg (fun v : World => v.heap[D2.heap.size]?) e3).trans (blk_new _ _ _ rfl)
  try dsimp only at k3
  have k1' := (congrArg (fun v : World => v.heap[Vd.heap.size]?) e3).trans ((blk_old _ _ _ (by omega)).trans k1)
  try dsimp only at k1'
  clear k1; have k1 := k1'; clear k1'
  have k2' := (congrArg (fun v : World => v.heap[D1.heap.size]?) e3).trans ((blk_old _ _ _ (by omega)).trans k2)
  try dsimp only at k2'
  clear k2; have k2 := k2'; clear k2'
  have b3 : Below w.heap.size w D3 := by rw [e3]; exact b2.alloc b2.size _
  have s3 : D3.heap.size = D2.heap.size + 1 := by rw [e3, siz_alloc]
  clear e3
  refine hK.out _ _ ⟨by omega, trivial⟩ (fun hHeld => ?_)
  clear hK K
  try simp only [PT]
  clear m2 m5 m8
  refine tz 9 rfl hHeld ?_
  try simp only [PT]
  refine wpAnyH_ready (rs := [10]) (by kernel_rfl) (by simp) ?_
  refine ready_at rfl (fun K hK => ?_) AllReadyH.nil
  go_simp
  refine gen_app (K := K) (fun D4 e4 => ?_)
  have q4 := (congrArg (fun v : World => v.heap[D3.heap.size]?) e4).trans (blk_new _ _ _ rfl)
  try dsimp only at q4
  have q1 := (congrArg (fun v : World => v.heap[Vd.heap.size]?) e4).trans ((blk_old _ _ _ (by omega)).trans k1)
  try dsimp only at q1
  have q2 := (congrArg (fun v : World => v.heap[D1.heap.size]?) e4).trans ((blk_old _ _ _ (by omega)).trans k2)
  try dsimp only at q2
  have q3 := (congrArg (fun v : World => v.heap[D2.heap.size]?) e4).trans ((blk_old _ _ _ (by omega)).trans k3)
  try dsimp only at q3
  have b4 : Below w.heap.size w D4 := by rw [e4]; exact b3.alloc b3.size _
  have s4 : D3.heap.size ≤ D4.heap.size := by rw [e4, siz_alloc]; omega
  clear e4 k1 k2 k3
  refine hK.out _ _ ⟨by omega, trivial⟩ (fun hHeld => ?_)
  clear hK K
  try simp only [PT]
  refine rd 11 rfl fun K hK => ?_
  go_simp
  refine hK.out _ _ hHeld (fun hHeld => ?_)
  clear hK K
  try simp only [PT]
  refine wpAnyH_done (by kernel_rfl) ?_ _
  refine NoPanic.normal ?_
  go_wp2_with fail
  go_ret
  simp only [s1] at q2
  simp only [s2, s1] at q3
  simp only [s3, s2, s1] at q4
  obtain ⟨O, h3, h4⟩ := ap_new (w := w) H2.out q4 q3 q2 q1 (by omega) (by omega) (by omega) (by omega)
  exact ⟨_, O, rfl, h3, h4, b4⟩
end Go.Proofs.YtdjpjmkpndmhaaaGreat
/- Package rows: which rows there are, which is less; how far the world goes on. -/
namespace Go.Proofs.YtdjpjmkpndmhaaaGreat
set_option linter.unusedSimpArgs false
set_option linter.unusedVariables false
set_option linter.unnecessarySimpa false
open Go.RowKit Go.Sort
attribute [local go_sem ↓] Go.wp_at_zero Go.wp_at_succ
attribute [local go_sem] str_len
/-- The world has gone on: it has drawn, and laid blocks. -/
def Gr (w w' : World) : Prop := ∃ q os, w' = grow (w.drewN q) os
theorem Gr.refl (w : World) : Gr w w := ⟨0, #[], (grow_empty _).symm⟩
theorem Gr.trans {a b c : World} (h1 : Gr a b) (h2 : Gr b c) : Gr a c := by
  obtain ⟨q, os, rfl⟩ := h1
  obtain ⟨q', os', rfl⟩ := h2
  exact ⟨q + q', os ++ os', by show grow (grow ((a.drewN q).drewN q') os) os' = _; rw [grow_grow, World.drewN_drewN]⟩
theorem Gr.alloc (w : World) (o : Obj) : Gr w (w.alloc o) := ⟨0, #[o], alloc_eq_grow w o⟩
theorem Gr.drewN (w : World) (q : Nat) : Gr w (w.drewN q) := ⟨q, #[], (grow_empty _).symm⟩
theorem Gr.below {w w' : World} (h : Gr w w') : Below w.heap.size w w' := by
  obtain ⟨q, os, rfl⟩ := h
  exact ⟨rfl, rfl, rfl, by simp [grow, World.drewN], fun k hk => by simp [grow, World.drewN, Array.getElem?_append, hk]⟩
set_option maxRecDepth 100000 in
set_option maxHeartbeats 2000000 in
theorem is_calls (v : Value) (ts : List (List UInt8)) (d a : Nat) (t : List UInt8) (ht : ts[d]? = some t) (ha : a ≤ t.length) (w : World) (h : Rk w 1 v ts.length (ts.map strOf)) :
    Calls Tryz.prog 152 #[v, .agg #[.int .i64 (d : Int), .int .i64 (a : Int)]] w fun e w' => e = .returned (.bool true) ∧ Gr w w' := by
  obtain ⟨hd, -⟩ := List.getElem?_eq_some_iff.1 ht
  obtain ⟨h1, A, cap, rfl, h2⟩ := h
  obtain ⟨g, cs, T, rfl, kg, hcs⟩ := h2 (by omega)
  have hci : cs[d]? = some (strOf t) := by rw [hcs d (by omega), List.getElem?_map, ht]; rfl
  have n1 : (d : Int) < (ts.length : Int) := by omega
  have n2 : (a : Int) ≤ (t.length : Int) := by omega
  clear h1 h2 hcs ht
  go_enter Tryz.func152, Tryz.ntmps152
  obtain ⟨c_kg, f_kg, l_kg_w⟩ := f3 kg
  go_wp2_with fail
  refine wp_gen fun V hV => ?_
  have hG : Gr w V := by rw [hV]; exact Gr.alloc w _
  have kr : V.heap[w.heap.size]? = some (.cells #[.int .i64 (d : Int), .int .i64 (a : Int)] 47 (0, 0)) := by rw [hV]; exact blk_new _ _ _ rfl
  replace kg := keep_blk hG.below kg
  clear hV c_kg f_kg
  obtain ⟨c_kg, f_kg, l_kg_V⟩ := f3 kg
  obtain ⟨c_kr, f_kr, l_kr_V⟩ := f3 kr
  go_quiet (fail)
  go_wp2_with fail
  go_ret
  exact ⟨rfl, hG.trans (Gr.drewN _ _)⟩
set_option maxRecDepth 100000 in
set_option maxHeartbeats 4000000 in
theorem rless_calls (v : Value) (ts : List (List UInt8)) (d1 a1 d2 a2 : Nat) (t1 t2 : List UInt8) (ht1 : ts[d1]? = some t1) (ha1 : a1 ≤ t1.length) (ht2 : ts[d2]? = some t2) (ha2 : a2 ≤ t2.length) (hl1 : t1.length ≤ 50000) (r : Bool) (hr : lessL (decide (d1 < d2)) (t1.drop a1) (t2.drop a2) = r) (w : World) (h : Rk w 1 v ts.length (ts.map strOf)) :
    Calls Tryz.prog 121 #[v, .agg #[.int .i64 (d1 : Int), .int .i64 (a1 : Int)], .agg #[.int .i64 (d2 : Int), .int .i64 (a2 : Int)]] w fun e w' => e = .returned (.bool r) ∧ Gr w w' := by
  obtain ⟨hd1, -⟩ := List.getElem?_eq_some_iff.1 ht1
  obtain ⟨hd2, -⟩ := List.getElem?_eq_some_iff.1 ht2
  obtain ⟨h1, A, cap, rfl, h2⟩ := h
  obtain ⟨g, cs, T, rfl, kg, hcs⟩ := h2 (by omega)
  have hc1 : cs[d1]? = some (strOf t1) := by rw [hcs d1 (by omega), List.getElem?_map, ht1]; rfl
  have hc2 : cs[d2]? = some (strOf t2) := by rw [hcs d2 (by omega), List.getElem?_map, ht2]; rfl
  have n1 : (d1 : Int) < (ts.length : Int) := by omega
  have n2 : (d2 : Int) < (ts.length : Int) := by omega
  have f1 := str_from t1 a1 ha1
  have f2 := str_from t2 a2 ha2
  have HR := Lib.hid hr; clear hr
  have Hcs := Lib.hid hcs; have H1 := Lib.hid h1; have HT1 := Lib.hid ht1; have HT2 := Lib.hid ht2; have HA1 := Lib.hid ha1; have HA2 := Lib.hid ha2
  clear h1 h2 hcs ht1 ht2 hd1 hd2 ha1 ha2
  obtain ⟨s, hs⟩ : ∃ s, t1.drop a1 = s := ⟨_, rfl⟩
  obtain ⟨t, ht⟩ : ∃ t, t2.drop a2 = t := ⟨_, rfl⟩
  have hs0 : s.length ≤ 50000 := by rw [← hs, List.length_drop]; omega
  rw [hs] at f1 HR
  rw [ht] at f2 HR
  clear hs ht
  go_enter Tryz.func121, Tryz.ntmps121
  obtain ⟨c_kg, f_kg, l_kg_w⟩ := f3 kg
  go_wp2_with fail
  refine wp_scope_ghost 0 (fun n a' wr => ∃ (i : Nat), (i + n = s.length + 1 ∧ i ≤ s.length ∧ i ≤ t.length ∧ Hid (lessL (decide (d1 < d2)) (s.drop i) (t.drop i) = r) ∧ wr.heap[w.heap.size]? = some (.cells #[.int .i64 (d1 : Int), .int .i64 (a1 : Int)] 47 (0, 0)) ∧ wr.heap[w.heap.size + 1]? = some (.cells #[.int .i64 (d2 : Int), .int .i64 (a2 : Int)] 47 (0, 0)) ∧ Gr w wr) ∧ ∃ u0 u1 u2 u3 u6 u10 u11 u12 u13 u14 u15 u16 u17 u18 u19 u20 u21 u22 u23 u24 u25 u26 u27 u28 u29 u30 u31 u32 u33 u34 u35 u36 u37 u38 u39 u40 u41 u42 u43 u44 u45 u46 u47 u48 u49 u50 u51 u52 u53 u54 u55 u56 u57 u58 u59 u60 u61 u62 u63 u64 u65 u66 u67 u68 u69 u70 u71 u72 u73 u74 u75 u76 u77 u78 : Value, a' = { tmps := #[u0, u1, u2, u3, (.pointer (some ⟨w.heap.size, 0, none⟩) : Value), (.pointer (some ⟨w.heap.size + 1, 0, none⟩) : Value), u6, (strOf s : Value), (strOf t : Value), (.int .i64 (i : Int) : Value), u10, u11, u12, u13, u14, u15, u16, u17, u18, u19, u20, u21, u22, u23, u24, u25, u26, u27, u28, u29, u30, u31, u32, u33, u34, u35, u36, u37, u38, u39, u40, u41, u42, u43, u44, u45, u46, u47, u48, u49, u50, u51, u52, u53, u54, u55, u56, u57, u58, u59, u60, u61, u62, u63, u64, u65, u66, u67, u68, u69, u70, u71, u72, u73, u74, u75, u76, u77, u78], defers := [] }) (by rfl) ?first ?pass
  case first =>
    intro hrest
    go_wp2_with fail
    refine calls_gen fun V hV => ?_
    have hG : Gr w V := by rw [hV]; exact (Gr.alloc _ _).trans (Gr.alloc _ _)
    have ka : V.heap[w.heap.size]? = some (.cells #[.int .i64 (d1 : Int), .int .i64 (a1 : Int)] 47 (0, 0)) := by rw [hV]; exact keep_blk (Gr.alloc _ _).below (blk_new _ _ _ rfl)
    have kb : V.heap[w.heap.size + 1]? = some (.cells #[.int .i64 (d2 : Int), .int .i64 (a2 : Int)] 47 (0, 0)) := by rw [hV]; exact blk_new _ _ _ (siz_alloc _ _).symm
    replace kg := keep_blk hG.below kg
    clear hV c_kg f_kg
    obtain ⟨c_kg, f_kg, l_kg_V⟩ := f3 kg
    obtain ⟨c_ka, f_ka, l_ka_V⟩ := f3 ka
    obtain ⟨c_kb, f_kb, l_kb_V⟩ := f3 kb
    refine (is_calls _ ts d1 a1 t1 HT1.out HA1.out _ ⟨H1.out, _, _, rfl, fun _ => ⟨g, cs, T, rfl, kg, Hcs.out⟩⟩).mono ?_
    rintro e1 W1 ⟨rfl, hG1⟩
    replace kg := keep_blk hG1.below kg; replace ka := keep_blk hG1.below ka; replace kb := keep_blk hG1.below kb
    replace hG := hG.trans hG1
    clear hG1 c_kg f_kg c_ka f_ka c_kb f_kb
    obtain ⟨c_kg, f_kg, l_kg_W1⟩ := f3 kg
    obtain ⟨c_ka, f_ka, l_ka_W1⟩ := f3 ka
    obtain ⟨c_kb, f_kb, l_kb_W1⟩ := f3 kb
    go_wp2_with fail
    refine (is_calls _ ts d2 a2 t2 HT2.out HA2.out _ ⟨H1.out, _, _, rfl, fun _ => ⟨g, cs, T, rfl, kg, Hcs.out⟩⟩).mono ?_
    rintro e2 W2 ⟨rfl, hG2⟩
    replace kg := keep_blk hG2.below kg; replace ka := keep_blk hG2.below ka; replace kb := keep_blk hG2.below kb
    replace hG := hG.trans hG2
    clear hG2 c_kg f_kg c_ka f_ka c_kb f_kb
    obtain ⟨c_kg, f_kg, l_kg_W2⟩ := f3 kg
    obtain ⟨c_ka, f_ka, l_ka_W2⟩ := f3 ka
    obtain ⟨c_kb, f_kb, l_kb_W2⟩ := f3 kb
    go_wp2_with fail
    go_quiet (fail)
    clear f1 f2 hc1 hc2 n1 n2 Hcs H1 HT1 HT2 HA1 HA2
    go_wp2_with fail
    go_step3
    go_step
    go_step
    refine hrest (s.length + 1) _ _ ⟨0, ⟨by omega, by omega, by omega, HR, ka, kb, hG.trans (Gr.drewN _ _)⟩, ?_⟩
    exact ⟨_, _, _, _, _, _, _, _, _, _, _, _, _, _, _, _, _, _, _, _, _, _, _, _, _, _, _, _, _, _, _, _, _, _, _, _, _, _, _, _, _, _, _, _, _, _, _, _, _, _, _, _, _, _, _, _, _, _, _, _, _, _, _, _, _, _, _, _, _, _, _, _, _, _, rfl⟩
  case pass =>
    rintro n a' wr ⟨i, ⟨hk, hi1, hi2, Hl, ka, kb, hG⟩, u0, u1, u2, u3, u6, u10, u11, u12, u13, u14, u15, u16, u17, u18, u19, u20, u21, u22, u23, u24, u25, u26, u27, u28, u29, u30, u31, u32, u33, u34, u35, u36, u37, u38, u39, u40, u41, u42, u43, u44, u45, u46, u47, u48, u49, u50, u51, u52, u53, u54, u55, u56, u57, u58, u59, u60, u61, u62, u63, u64, u65, u66, u67, u68, u69, u70, u71, u72, u73, u74, u75, u76, u77, u78, rfl⟩ J hJ
    clear f1 f2 hc1 hc2 n1 n2 Hcs H1 HT1 HT2 HA1 HA2 HR kg c_kg f_kg
    obtain ⟨c_ka, f_ka, l_ka_wr⟩ := f3 ka
    obtain ⟨c_kb, f_kb, l_kb_wr⟩ := f3 kb
    by_cases c1 : i = s.length
    · have e1 : s.drop i = [] := by rw [c1]; simp
      by_cases c2 : i = t.length
      · have e2 : t.drop i = [] := by rw [c2]; simp
        have hl := Hl.out
        rw [e1, e2] at hl
        unfold lessL at hl
        have hL := Lib.hid hl
        have q1 : ((i : Int) == (s.length : Int)) = true := by rw [c1]; exact beq_self_eq_true _
        have q2 : ((i : Int) == (t.length : Int)) = true := by rw [c2]; exact beq_self_eq_true _
        clear hl Hl e1 e2 hk hi1 hi2 c1 c2
        go_wp2_with fail
        simp only [Exit.jump]
        go_ret
        exact ⟨by rw [← hL.out]; first | rfl | simp, hG⟩
      · obtain ⟨y, hy⟩ := at_some (show i < t.length by omega)
        have e2 := drop_at hy
        clear hy
        have hl := Hl.out
        rw [e1, e2] at hl
        unfold lessL at hl
        have hL := Lib.hid hl
        have q1 : ((i : Int) == (s.length : Int)) = true := by rw [c1]; exact beq_self_eq_true _
        have q2 : ((i : Int) == (t.length : Int)) = false := by rw [beq_eq_false_iff_ne]; omega
        clear hl Hl e1 e2 hk hi1 hi2 c1 c2
        go_wp2_with fail
        simp only [Exit.jump]
        go_ret
        exact ⟨by rw [← hL.out]; rfl, hG⟩
    · have q1 : ((i : Int) == (s.length : Int)) = false := by rw [beq_eq_false_iff_ne]; omega
      obtain ⟨x, hx⟩ := at_some (show i < s.length by omega)
      have e1 := drop_at hx
      by_cases c2 : i = t.length
      · have e2 : t.drop i = [] := by rw [c2]; simp
        have hl := Hl.out
        rw [e1, e2] at hl
        unfold lessL at hl
        have hL := Lib.hid hl
        have q2 : ((i : Int) == (t.length : Int)) = true := by rw [c2]; exact beq_self_eq_true _
        clear hl Hl e1 e2 hk hi1 hi2 c1 c2 hx
        go_wp2_with fail
        simp only [Exit.jump]
        go_ret
        exact ⟨by rw [← hL.out]; rfl, hG⟩
      · have q2 : ((i : Int) == (t.length : Int)) = false := by rw [beq_eq_false_iff_ne]; omega
        obtain ⟨y, hy⟩ := at_some (show i < t.length by omega)
        have e2 := drop_at hy
        have g1 := str_index s i x hx
        have g2 := str_index t i y hy
        have hl := Hl.out
        rw [e1, e2] at hl
        unfold lessL at hl
        have hi1' : i < s.length := by omega
        have hi2' : i < t.length := by omega
        clear Hl e1 e2 hx hy c1 c2
        by_cases c3 : x = y
        · rw [if_pos c3] at hl
          subst c3
          have hL := Lib.hid hl
          have Hk := Lib.hid hk; have Hi := Lib.hid (And.intro hi1' hi2')
          have e3 : wrap64 ((i : Int) + 1) = ((i + 1 : Nat) : Int) := (IntWalk.wrap64_in _ (by omega)).trans (by omega)
          clear hl hk hi1 hi2 hi1' hi2'
          go_wp2_with fail
          go_quiet (fail)
          go_wp2_with fail
          rw [e3]
          go_step3
          refine ⟨rfl, hJ _ _ ⟨n - 1, by have := Hk.out; have := Hi.out; omega, i + 1, ⟨by have := Hk.out; have := Hi.out; omega, by have := Hi.out; omega, by have := Hi.out; omega, hL, ka, kb, hG.trans (Gr.drewN _ _)⟩, ?_⟩⟩
          exact ⟨_, _, _, _, _, _, _, _, _, _, _, _, _, _, _, _, _, _, _, _, _, _, _, _, _, _, _, _, _, _, _, _, _, _, _, _, _, _, _, _, _, _, _, _, _, _, _, _, _, _, _, _, _, _, _, _, _, _, _, _, _, _, _, _, _, _, _, _, _, _, _, _, _, _, rfl⟩
        · rw [if_neg c3] at hl
          have hL := Lib.hid hl
          have q3 : ((x.toNat : Int) == (y.toNat : Int)) = false := by
            rw [beq_eq_false_iff_ne]; intro h; exact c3 (UInt8.toNat_inj.1 (by omega))
          clear hl hk hi1 hi2 hi1' hi2' c3
          go_wp2_with fail
          go_quiet (fail)
          go_wp2_with fail
          refine wp_gen fun V6 hV6 => ?_
          have hG6 : Gr w V6 := by rw [hV6]; exact hG.trans (Gr.drewN _ _)
          have ka6 := (congrArg (fun v : World => v.heap[w.heap.size]?) hV6).trans ka
          have kb6 := (congrArg (fun v : World => v.heap[w.heap.size + 1]?) hV6).trans kb
          clear hV6 c_ka f_ka c_kb f_kb
          obtain ⟨c_ka6, f_ka6, l_ka6_V6⟩ := f3 ka6
          obtain ⟨c_kb6, f_kb6, l_kb6_V6⟩ := f3 kb6
          go_quiet (fail)
          go_wp2_with fail
          simp only [Exit.jump]
          go_ret
          exact ⟨by rw [← hL.out]; first | rfl | simp, hG6.trans (Gr.drewN _ _)⟩
set_option maxRecDepth 100000 in
set_option maxHeartbeats 2000000 in
theorem cmpR_calls (v : Value) (ts : List (List UInt8)) (h5 : ∀ t, t ∈ ts → t.length ≤ 50000) (x y : RowT ts) (bl : Nat) (w : World) (kl : w.heap[bl]? = some (.cells #[v] 42 (0, 0))) (h : Rk w 1 v ts.length (ts.map strOf)) :
    Calls Tryz.prog 120 #[.agg #[.int .i64 (x.1.1 : Int), .int .i64 (x.1.2 : Int)], .agg #[.int .i64 (y.1.1 : Int), .int .i64 (y.1.2 : Int)], .pointer (some ⟨bl, 0, none⟩)] w fun e w' => e = .returned (.int .i64 (cmpR ts x y)) ∧ Gr w w' := by
  obtain ⟨x, t1, ht1, ha1⟩ := x
  obtain ⟨y, t2, ht2, ha2⟩ := y
  dsimp only
  have hr : lessL (decide (x.1 < y.1)) (t1.drop x.2) (t2.drop y.2) = refLess ts x y := by unfold refLess; rw [getD_at ht1, getD_at ht2]
  have h5' := h5 _ (List.mem_of_getElem? ht1)
  unfold cmpR
  dsimp only
  generalize refLess ts x y = r at hr ⊢
  have HK := Lib.hid h; have Hr := Lib.hid hr; have HT1 := Lib.hid ht1; have HT2 := Lib.hid ht2; have HA1 := Lib.hid ha1; have HA2 := Lib.hid ha2
  clear h hr ht1 ht2 ha1 ha2 h5
  obtain ⟨d1, a1⟩ := x
  obtain ⟨d2, a2⟩ := y
  dsimp only at HT1 HT2 HA1 HA2 Hr ⊢
  go_enter Tryz.func120, Tryz.ntmps120
  obtain ⟨c_kl, f_kl, l_kl_w⟩ := f3 kl
  go_wp2_with fail
  refine calls_gen fun V hV => ?_
  have hG : Gr w V := by rw [hV]; exact (Gr.alloc _ _).trans (Gr.alloc _ _)
  clear hV
  refine (rless_calls v ts d1 a1 d2 a2 t1 t2 HT1.out HA1.out HT2.out HA2.out h5' r Hr.out _ (HK.out.below hG.below)).mono ?_
  rintro e1 W1 ⟨rfl, hG1⟩
  cases r with
  | true =>
    go_wp2_with fail
    go_ret
    exact ⟨rfl, hG.trans hG1⟩
  | false =>
    go_wp2_with fail
    go_ret
    exact ⟨rfl, hG.trans hG1⟩
end Go.Proofs.YtdjpjmkpndmhaaaGreat
/- The library's contracts that are used, laid at this program (out of the shelf's own tool). -/
namespace Go.Proofs
open Go.Shelf
def Tryz.laySort_ren : Go.Shelf.Ren := ⟨fun | 6 => 119 | 15 => 134 | 14 => 151 | 28 => 163 | 29 => 164 | 20 => 174 | 21 => 175 | 22 => 176 | 23 => 177 | 24 => 178 | 25 => 179 | 26 => 180 | 27 => 181 | 46 => 190 | 47 => 183 | 48 => 184 | 49 => 191 | 50 => 192 | 57 => 196 | n => n, fun | 22 => 40 | 24 => 47 | 25 => 150 | 3 => 3 | 39 => 161 | 0 => 0 | 53 => 182 | 55 => 91 | 4 => 4 | 46 => 176 | 45 => 175 | 50 => 27 | 5 => 5 | 9 => 9 | 66 => 190 | 70 => 135 | 76 => 198 | 77 => 170 | n => n, fun | n => n⟩
theorem Tryz.laySort : Go.Proofs.SlLaysF0.n6 Tryz.prog Tryz.laySort_ren := {
  mixed := by kernel_rfl
  f6 := ⟨Tryz.f119.name, by decide, Tryz.func119.trans (congrArg some (by kernel_rfl))⟩
  f14 := ⟨Tryz.f151.name, by decide, Tryz.func151.trans (congrArg some (by kernel_rfl))⟩
  f15 := Tryz.func134.trans (congrArg some (by kernel_rfl))
  f20 := ⟨Tryz.f174.name, by decide, Tryz.func174.trans (congrArg some (by kernel_rfl))⟩
  f21 := ⟨Tryz.f175.name, by decide, Tryz.func175.trans (congrArg some (by kernel_rfl))⟩
  f22 := ⟨Tryz.f176.name, by decide, Tryz.func176.trans (congrArg some (by kernel_rfl))⟩
  f23 := ⟨Tryz.f177.name, by decide, Tryz.func177.trans (congrArg some (by kernel_rfl))⟩
  f24 := ⟨Tryz.f178.name, by decide, Tryz.func178.trans (congrArg some (by kernel_rfl))⟩
  f25 := ⟨Tryz.f179.name, by decide, Tryz.func179.trans (congrArg some (by kernel_rfl))⟩
  f26 := ⟨Tryz.f180.name, by decide, Tryz.func180.trans (congrArg some (by kernel_rfl))⟩
  f27 := ⟨Tryz.f181.name, by decide, Tryz.func181.trans (congrArg some (by kernel_rfl))⟩
  f28 := Tryz.func163.trans (congrArg some (by kernel_rfl))
  f29 := Tryz.func164.trans (congrArg some (by kernel_rfl))
  f46 := ⟨Tryz.f190.name, by decide, Tryz.func190.trans (congrArg some (by kernel_rfl))⟩
  f47 := Tryz.func183.trans (congrArg some (by kernel_rfl))
  f48 := Tryz.func184.trans (congrArg some (by kernel_rfl))
  f49 := ⟨Tryz.f191.name, by decide, Tryz.func191.trans (congrArg some (by kernel_rfl))⟩
  f50 := ⟨Tryz.f192.name, by decide, Tryz.func192.trans (congrArg some (by kernel_rfl))⟩
  f57 := ⟨Tryz.f196.name, by decide, Tryz.func196.trans (congrArg some (by kernel_rfl))⟩
  t0 := Tryz.underlying0
  a0 := Tryz.isAgg0
  z0 := Tryz.sizeOf0
  v0 := Tryz.zeroValue0
  t3 := Tryz.underlying3
  a3 := Tryz.isAgg3
  z3 := Tryz.sizeOf3
  v3 := Tryz.zeroValue3
  t4 := Tryz.underlying4
  a4 := Tryz.isAgg4
  z4 := Tryz.sizeOf4
  v4 := Tryz.zeroValue4
  t5 := Tryz.underlying5
  a5 := Tryz.isAgg5
  z5 := Tryz.sizeOf5
  v5 := Tryz.zeroValue5
  t9 := Tryz.underlying9
  a9 := Tryz.isAgg9
  z9 := Tryz.sizeOf9
  v9 := Tryz.zeroValue9
  t22 := Tryz.underlying40
  a22 := Tryz.isAgg40
  z22 := Tryz.sizeOf40
  v22 := Tryz.zeroValue40
  t25 := Tryz.underlying150
  a25 := Tryz.isAgg150
  z25 := Tryz.sizeOf150
  v25 := Tryz.zeroValue150
  t39 := Tryz.underlying161
  a39 := Tryz.isAgg161
  z39 := Tryz.sizeOf161
  v39 := Tryz.zeroValue161
  t45 := Tryz.underlying175
  a45 := Tryz.isAgg175
  z45 := Tryz.sizeOf175
  v45 := Tryz.zeroValue175
  t46 := Tryz.underlying176
  a46 := Tryz.isAgg176
  z46 := Tryz.sizeOf176
  v46 := Tryz.zeroValue176
  t50 := Tryz.underlying27
  a50 := Tryz.isAgg27
  z50 := Tryz.sizeOf27
  v50 := Tryz.zeroValue27
  t53 := Tryz.underlying182
  a53 := Tryz.isAgg182
  z53 := Tryz.sizeOf182
  v53 := Tryz.zeroValue182
  t55 := Tryz.underlying91
  a55 := Tryz.isAgg91
  z55 := Tryz.sizeOf91
  v55 := Tryz.zeroValue91
  t66 := Tryz.underlying190
  a66 := Tryz.isAgg190
  z66 := Tryz.sizeOf190
  v66 := Tryz.zeroValue190
  t70 := Tryz.underlying135
  a70 := Tryz.isAgg135
  z70 := Tryz.sizeOf135
  v70 := Tryz.zeroValue135
  t76 := Tryz.underlying198
  a76 := Tryz.isAgg198
  z76 := Tryz.sizeOf198
  v76 := Tryz.zeroValue198
  t77 := Tryz.underlying170
  a77 := Tryz.isAgg170
  z77 := Tryz.sizeOf170
  v77 := Tryz.zeroValue170 }
def Tryz.layEqItem_ren : Go.Shelf.Ren := ⟨fun | 8 => 69 | n => n, fun | 22 => 97 | 24 => 56 | 4 => 4 | 3 => 3 | 0 => 0 | n => n, fun | n => n⟩
theorem Tryz.layEqItem : Go.Proofs.SlLaysQ.n8 Tryz.prog Tryz.layEqItem_ren := {
  mixed := by kernel_rfl
  f8 := ⟨Tryz.f69.name, by decide, Tryz.func69.trans (congrArg some (by kernel_rfl))⟩
  t0 := Tryz.underlying0
  a0 := Tryz.isAgg0
  z0 := Tryz.sizeOf0
  v0 := Tryz.zeroValue0
  t3 := Tryz.underlying3
  a3 := Tryz.isAgg3
  z3 := Tryz.sizeOf3
  v3 := Tryz.zeroValue3
  t4 := Tryz.underlying4
  a4 := Tryz.isAgg4
  z4 := Tryz.sizeOf4
  v4 := Tryz.zeroValue4
  t22 := Tryz.underlying97
  a22 := Tryz.isAgg97
  z22 := Tryz.sizeOf97
  v22 := Tryz.zeroValue97 }
def Tryz.layEqInt_ren : Go.Shelf.Ren := ⟨fun | 33 => 71 | n => n, fun | 22 => 62 | 23 => 3 | 4 => 4 | 3 => 3 | 0 => 0 | n => n, fun | n => n⟩
theorem Tryz.layEqInt : Go.Proofs.SlLaysE.n33 Tryz.prog Tryz.layEqInt_ren := {
  mixed := by kernel_rfl
  f33 := ⟨Tryz.f71.name, by decide, Tryz.func71.trans (congrArg some (by kernel_rfl))⟩
  t0 := Tryz.underlying0
  a0 := Tryz.isAgg0
  z0 := Tryz.sizeOf0
  v0 := Tryz.zeroValue0
  t3 := Tryz.underlying3
  a3 := Tryz.isAgg3
  z3 := Tryz.sizeOf3
  v3 := Tryz.zeroValue3
  t4 := Tryz.underlying4
  a4 := Tryz.isAgg4
  z4 := Tryz.sizeOf4
  v4 := Tryz.zeroValue4
  t22 := Tryz.underlying62
  a22 := Tryz.isAgg62
  z22 := Tryz.sizeOf62
  v22 := Tryz.zeroValue62
  a23 := Tryz.isAgg3
  z23 := Tryz.sizeOf3 }
def Tryz.layEqBool_ren : Go.Shelf.Ren := ⟨fun | 33 => 74 | n => n, fun | 22 => 83 | 23 => 4 | 4 => 4 | 3 => 3 | 0 => 0 | n => n, fun | n => n⟩
theorem Tryz.layEqBool : Go.Proofs.SlLaysE.n33 Tryz.prog Tryz.layEqBool_ren := {
  mixed := by kernel_rfl
  f33 := ⟨Tryz.f74.name, by decide, Tryz.func74.trans (congrArg some (by kernel_rfl))⟩
  t0 := Tryz.underlying0
  a0 := Tryz.isAgg0
  z0 := Tryz.sizeOf0
  v0 := Tryz.zeroValue0
  t3 := Tryz.underlying3
  a3 := Tryz.isAgg3
  z3 := Tryz.sizeOf3
  v3 := Tryz.zeroValue3
  t4 := Tryz.underlying4
  a4 := Tryz.isAgg4
  z4 := Tryz.sizeOf4
  v4 := Tryz.zeroValue4
  t22 := Tryz.underlying83
  a22 := Tryz.isAgg83
  z22 := Tryz.sizeOf83
  v22 := Tryz.zeroValue83
  a23 := Tryz.isAgg4
  z23 := Tryz.sizeOf4 }
def Tryz.layHasStr_ren : Go.Shelf.Ren := ⟨fun | 8 => 122 | 6 => 153 | n => n, fun | 22 => 42 | 23 => 9 | 25 => 123 | 4 => 4 | 3 => 3 | 0 => 0 | n => n, fun | n => n⟩
theorem Tryz.layHasStr : Go.Proofs.SlLaysH.n8 Tryz.prog Tryz.layHasStr_ren := {
  mixed := by kernel_rfl
  f6 := ⟨Tryz.f153.name, by decide, Tryz.func153.trans (congrArg some (by kernel_rfl))⟩
  f8 := ⟨Tryz.f122.name, by decide, Tryz.func122.trans (congrArg some (by kernel_rfl))⟩
  t0 := Tryz.underlying0
  a0 := Tryz.isAgg0
  z0 := Tryz.sizeOf0
  v0 := Tryz.zeroValue0
  t3 := Tryz.underlying3
  a3 := Tryz.isAgg3
  z3 := Tryz.sizeOf3
  v3 := Tryz.zeroValue3
  t4 := Tryz.underlying4
  a4 := Tryz.isAgg4
  z4 := Tryz.sizeOf4
  v4 := Tryz.zeroValue4
  t22 := Tryz.underlying42
  a22 := Tryz.isAgg42
  z22 := Tryz.sizeOf42
  v22 := Tryz.zeroValue42
  a23 := Tryz.isAgg9
  z23 := Tryz.sizeOf9
  t25 := Tryz.underlying123
  a25 := Tryz.isAgg123
  z25 := Tryz.sizeOf123
  v25 := Tryz.zeroValue123 }
def Tryz.layDelInt_ren : Go.Shelf.Ren := ⟨fun | 10 => 99 | 6 => 136 | n => n, fun | 22 => 62 | 23 => 3 | 25 => 128 | 3 => 3 | 4 => 4 | 0 => 0 | n => n, fun | n => n⟩
theorem Tryz.layDelInt : Go.Proofs.SlLaysH.n10 Tryz.prog Tryz.layDelInt_ren := {
  mixed := by kernel_rfl
  f6 := ⟨Tryz.f136.name, by decide, Tryz.func136.trans (congrArg some (by kernel_rfl))⟩
  f10 := ⟨Tryz.f99.name, by decide, Tryz.func99.trans (congrArg some (by kernel_rfl))⟩
  t0 := Tryz.underlying0
  a0 := Tryz.isAgg0
  z0 := Tryz.sizeOf0
  v0 := Tryz.zeroValue0
  t3 := Tryz.underlying3
  a3 := Tryz.isAgg3
  z3 := Tryz.sizeOf3
  v3 := Tryz.zeroValue3
  t4 := Tryz.underlying4
  a4 := Tryz.isAgg4
  z4 := Tryz.sizeOf4
  v4 := Tryz.zeroValue4
  t22 := Tryz.underlying62
  a22 := Tryz.isAgg62
  z22 := Tryz.sizeOf62
  v22 := Tryz.zeroValue62
  a23 := Tryz.isAgg3
  z23 := Tryz.sizeOf3
  t25 := Tryz.underlying128
  a25 := Tryz.isAgg128
  z25 := Tryz.sizeOf128
  v25 := Tryz.zeroValue128 }
def Tryz.laySortInt_ren : Go.Shelf.Ren := ⟨fun | 189 => 90 | 125 => 134 | 257 => 133 | 128 => 163 | 129 => 164 | 294 => 154 | 295 => 155 | 296 => 156 | 297 => 157 | 298 => 158 | 299 => 159 | 216 => 160 | 300 => 161 | 301 => 162 | 328 => 182 | 329 => 183 | 330 => 184 | 331 => 185 | 332 => 186 | 215 => 187 | 343 => 193 | n => n, fun | 28 => 62 | 3 => 3 | 46 => 161 | 0 => 0 | 51 => 182 | 53 => 91 | 4 => 4 | 183 => 176 | 182 => 175 | 131 => 27 | 5 => 5 | 9 => 9 | 218 => 190 | 222 => 135 | 228 => 198 | 229 => 170 | n => n, fun | n => n⟩
theorem Tryz.laySortInt : Go.Proofs.Lays.n189 Tryz.prog Tryz.laySortInt_ren := {
  mixed := by kernel_rfl
  f125 := Tryz.func134.trans (congrArg some (by kernel_rfl))
  f128 := Tryz.func163.trans (congrArg some (by kernel_rfl))
  f129 := Tryz.func164.trans (congrArg some (by kernel_rfl))
  f189 := Tryz.func90.trans (congrArg some (by kernel_rfl))
  f215 := Tryz.func187.trans (congrArg some (by kernel_rfl))
  f216 := Tryz.func160.trans (congrArg some (by kernel_rfl))
  f257 := Tryz.func133.trans (congrArg some (by kernel_rfl))
  f294 := Tryz.func154.trans (congrArg some (by kernel_rfl))
  f295 := Tryz.func155.trans (congrArg some (by kernel_rfl))
  f296 := Tryz.func156.trans (congrArg some (by kernel_rfl))
  f297 := Tryz.func157.trans (congrArg some (by kernel_rfl))
  f298 := Tryz.func158.trans (congrArg some (by kernel_rfl))
  f299 := Tryz.func159.trans (congrArg some (by kernel_rfl))
  f300 := Tryz.func161.trans (congrArg some (by kernel_rfl))
  f301 := Tryz.func162.trans (congrArg some (by kernel_rfl))
  f328 := Tryz.func182.trans (congrArg some (by kernel_rfl))
  f329 := Tryz.func183.trans (congrArg some (by kernel_rfl))
  f330 := Tryz.func184.trans (congrArg some (by kernel_rfl))
  f331 := Tryz.func185.trans (congrArg some (by kernel_rfl))
  f332 := Tryz.func186.trans (congrArg some (by kernel_rfl))
  f343 := Tryz.func193.trans (congrArg some (by kernel_rfl))
  t0 := Tryz.underlying0
  a0 := Tryz.isAgg0
  z0 := Tryz.sizeOf0
  v0 := Tryz.zeroValue0
  t3 := Tryz.underlying3
  a3 := Tryz.isAgg3
  z3 := Tryz.sizeOf3
  v3 := Tryz.zeroValue3
  t4 := Tryz.underlying4
  a4 := Tryz.isAgg4
  z4 := Tryz.sizeOf4
  v4 := Tryz.zeroValue4
  t5 := Tryz.underlying5
  a5 := Tryz.isAgg5
  z5 := Tryz.sizeOf5
  v5 := Tryz.zeroValue5
  t9 := Tryz.underlying9
  a9 := Tryz.isAgg9
  z9 := Tryz.sizeOf9
  v9 := Tryz.zeroValue9
  t28 := Tryz.underlying62
  a28 := Tryz.isAgg62
  z28 := Tryz.sizeOf62
  v28 := Tryz.zeroValue62
  t46 := Tryz.underlying161
  a46 := Tryz.isAgg161
  z46 := Tryz.sizeOf161
  v46 := Tryz.zeroValue161
  t51 := Tryz.underlying182
  a51 := Tryz.isAgg182
  z51 := Tryz.sizeOf182
  v51 := Tryz.zeroValue182
  t53 := Tryz.underlying91
  a53 := Tryz.isAgg91
  z53 := Tryz.sizeOf91
  v53 := Tryz.zeroValue91
  t131 := Tryz.underlying27
  a131 := Tryz.isAgg27
  z131 := Tryz.sizeOf27
  v131 := Tryz.zeroValue27
  t182 := Tryz.underlying175
  a182 := Tryz.isAgg175
  z182 := Tryz.sizeOf175
  v182 := Tryz.zeroValue175
  t183 := Tryz.underlying176
  a183 := Tryz.isAgg176
  z183 := Tryz.sizeOf176
  v183 := Tryz.zeroValue176
  t218 := Tryz.underlying190
  a218 := Tryz.isAgg190
  z218 := Tryz.sizeOf190
  v218 := Tryz.zeroValue190
  t222 := Tryz.underlying135
  a222 := Tryz.isAgg135
  z222 := Tryz.sizeOf135
  v222 := Tryz.zeroValue135
  t228 := Tryz.underlying198
  a228 := Tryz.isAgg198
  z228 := Tryz.sizeOf198
  v228 := Tryz.zeroValue198
  t229 := Tryz.underlying170
  a229 := Tryz.isAgg170
  z229 := Tryz.sizeOf170
  v229 := Tryz.zeroValue170 }
end Go.Proofs
