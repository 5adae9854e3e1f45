/- Part 8 of what these laws needs: the walks of the program's functions, and plain facts. -/
import Derived.Test.YtpdpcgmkpgfblaaGreatCoreM7
import Derived.Laws.StructEq
/- Package rows: all rows, rising. -/
namespace Go.Proofs.YtpdpcgmkpgfblaaGreat
set_option linter.unusedSimpArgs false
set_option linter.unusedVariables false
set_option linter.unnecessarySimpa false
open Go.RowKit Go.Sort Go.Shelf
attribute [local go_sem ↓] Go.wp_at_zero Go.wp_at_succ
attribute [local go_sem] str_len
theorem upto_row (ts : List (List UInt8)) (d a : Nat) (hd : d < ts.length) (ha : a ≤ (ts.getD d []).length) : (upto ts d a).length ≤ 500 → (upto ts d (a + 1)).length = (upto ts d a).length + 1 := by
  intro _; rw [upto_snoc]; simp
/-- The sort of all rows. -/
theorem sort_calls {ts : List (List UInt8)} (hts : ∀ t, t ∈ ts → t.length ≤ 50000) {v : Value} {b0 bl g cap : Nat} {cur : Array Value} {W0 W : World} {T : TypeId} (hb : W0.heap.size ≤ g) (hB : Below W0.heap.size W0 W)
    (kl : W0.heap[bl]? = some (.cells #[v] T (0, 0))) (hT : T = 31) (hK : Rk W0 1 v ts.length (ts.map strOf)) (hg : W.heap[g]? = some (.cells cur 36 (0, 0))) (hl : 0 < (upto ts ts.length 0).length) (hl5 : (upto ts ts.length 0).length ≤ 500)
    (hc : ∀ j, j < (upto ts ts.length 0).length * 2 → W.cell? ⟨g, j, none⟩ = (rowCells (upto ts ts.length 0))[j]?) :
    Calls Tryz.prog 98 #[.slice (some ⟨g, 0, none⟩) (upto ts ts.length 0).length cap, .func (.func 99) #[] #[.pointer (some ⟨bl, 0, none⟩)]] W fun e w' =>
      e = .returned (.tuple #[]) ∧ Below W0.heap.size W w' ∧ ∃ cs, w'.heap[g]? = some (.cells cs 36 (0, 0)) ∧ ∀ j, j < (upto ts ts.length 0).length * 2 → cs[j]? = (rowCells (refFold ts (upto ts ts.length 0)))[j]? := by
  subst hT
  have hin : ∀ x, x ∈ upto ts ts.length 0 → RowIn ts x := fun x h => upto_in h
  obtain ⟨x0, hx0⟩ : ∃ x, (upto ts ts.length 0)[0]? = some x := ⟨_, List.getElem?_eq_getElem hl⟩
  haveI : Inhabited (RowT ts) := ⟨⟨x0, hin x0 (List.mem_of_getElem? hx0)⟩⟩
  have eg : ∀ args w, (callFunc 99 args).run Tryz.prog w = .ok (.enter 99 args) w := enters_of Tryz.func99 (by kernel_rfl) rfl
  have hlt := lt_of hg
  have hW : W0.heap.size ≤ W.heap.size := hB.size
  have hlen : (rowsT ts (upto ts ts.length 0) hin).length = (upto ts ts.length 0).length := by unfold rowsT; simp
  have hH : HoldsK (encR (ts := ts)) 2 W g 0 (rowsT ts (upto ts ts.length 0) hin).toArray := fun j hj => by
    rw [size_flatK, List.size_toArray, hlen] at hj
    rw [Nat.zero_add]
    refine ⟨?_, free_of hg _⟩
    have := flat_rows (rowsT ts (upto ts ts.length 0) hin) j (by rw [hlen]; exact hj)
    rw [rowsT_val] at this
    rw [hc j hj, ← this]; rfl
  have hcmp : CmpLays Tryz.prog 99 #[.pointer (some ⟨bl, 0, none⟩)] (encR (ts := ts)) 2 (cmpR ts) g 0 (rowsT ts (upto ts ts.length 0) hin).toArray.size W := fun m os dk _ x y => by
    have hBs : Below W0.heap.size W0 (sortWorldK encR 2 W g 0 m dk os) := hB.trans (sortK_below encR 2 dk os hb hW)
    exact (cmpR_calls v ts hts x y bl _ (keep_blk hBs kl) (hK.below hBs)).mono fun e w' h => ⟨h.1, h.2⟩
  have hcon := AnyQ.slices_SortFunc_total Tryz.laySort 2 Tryz.isAgg36 Tryz.sizeOf36 (encR (ts := ts)) (fun _ => rfl) (fun x u hu => by simp [encR] at hu; rcases hu with rfl | rfl <;> rfl) (cmpR ts) (swoR ts) 99 #[.pointer (some ⟨bl, 0, none⟩)] g 0 cap (rowsT ts (upto ts ts.length 0) hin).toArray W eg hcmp hH hlt (by rw [List.size_toArray, hlen]; omega) (totR ts)
  rw [List.size_toArray, hlen] at hcon
  refine Calls.mono hcon ?_
  rintro e w' ⟨rfl, n, os, rfl⟩
  refine ⟨rfl, sortK_below _ _ _ _ hb hW, ?_⟩
  obtain ⟨cs, h1, h2⟩ := sortK_cells (encR (ts := ts)) 2 (m := n) hg (rowsT ts (upto ts ts.length 0) hin).toArray ((rowsT ts (upto ts ts.length 0) hin).toArray.toList.mergeSort fun x y => !ltOf (cmpR ts) y x).toArray os hH (by simp)
  refine ⟨cs, h1, fun j hj => ?_⟩
  have hml : ((rowsT ts (upto ts ts.length 0) hin).mergeSort fun x y => !ltOf (cmpR ts) y x).length = (upto ts ts.length 0).length := by rw [List.length_mergeSort, hlen]
  have h3 := flat_rows ((rowsT ts (upto ts ts.length 0) hin).mergeSort fun x y => !ltOf (cmpR ts) y x) j (by rw [hml]; exact hj)
  rw [merge_all] at h3
  rw [← h3]
  exact h2 j (by simp only [List.size_toArray]; rw [hml]; exact hj)
theorem sort_none (A : Option Addr) (cap : Nat) (fv : Value) (w : World) : Calls Tryz.prog 98 #[.slice A 0 cap, fv] w fun e w' => e = .returned (.tuple #[]) ∧ w' = w :=
  AnyF.slices_SortFunc_none Tryz.laySort A cap fv w
set_option maxRecDepth 100000 in
set_option maxHeartbeats 8000000 in
theorem rowsSorted_walk (v : Value) (ts : List (List UInt8)) (hrt : refRight ts = true) (w : World) (h : Rk w 1 v ts.length (ts.map strOf)) :
    Calls Tryz.prog 53 #[v] w fun e w' => ∃ v', e = .returned v' ∧ Rk w' 2 v' (refFold ts (upto ts ts.length 0)).length (rowCells (refFold ts (upto ts ts.length 0))) ∧ Below w.heap.size w w' := by
  obtain ⟨hn10, h40⟩ := right_len hrt
  have H40 := Lib.hid h40; clear h40
  have HK := Lib.hid h
  obtain ⟨h1, A, cap, rfl, h2⟩ := h
  clear h1 h2
  go_enter Tryz.func53, Tryz.ntmps53
  go_wp2_with fail
  refine calls_gen fun V0 hV_V0 => ?_
  have n_kl := hbk hV_V0 (w.heap.size)
  simp (maxDischargeDepth := 9) only [BK, not_false_eq_true, reduceCtorEq] at n_kl
  have hB : Below w.heap.size w V0 := nB hV_V0
  have z_V0 := zS hV_V0
  clear hV_V0
  have kl := n_kl; clear n_kl
  obtain ⟨c_kl, f_kl, l_kl_V0⟩ := f3 kl
  refine (rowsRight_calls _ ts (by omega) _ (HK.out.below hB)).mono ?_
  rintro e_W0 W0 ⟨rfl, hb_W0⟩
  replace hB := below_step hB hb_W0
  replace kl := keep_blk hb_W0 kl
  have z_W0 := hb_W0.size
  clear hb_W0 c_kl f_kl
  obtain ⟨c_kl, f_kl, l_kl_W0⟩ := f3 kl
  rw [hrt]
  have HB0 := Lib.hid hB; have KL := Lib.hid kl; have HK0 := Lib.hid (HK.out.below hB)
  have hz0 := hB.size
  clear hB
  generalize hkb : w.heap.size = kb at *
  go_wp2_with fail
  go_loopg [3, 12] ts.length (fun k p q wr => ∃ d : Nat, q = .int .i64 (d : Int) ∧ d + k = ts.length ∧ Hid (wr.ownsRow W0.heap.size 36 2 p (upto ts d 0).length (rowCells (upto ts d 0))) ∧ Hid (Below W0.heap.size W0 wr))
  case atStart => exact ⟨0, rfl, by omega, Lib.hid (own_nil _ _ _ _), Lib.hid (Below.refl _ _)⟩
  case round =>
    obtain ⟨d, rfl, hk, Hown, HB⟩ := hrel
    by_cases hlt : d < ts.length
    · obtain ⟨k, rfl⟩ : ∃ k, gk = k + 1 := ⟨gk - 1, by omega⟩
      obtain ⟨t, ht⟩ := at_some hlt
      have n1 : decide ((d : Int) < (ts.length : Int)) = true := by simpa using hlt
      have n2 : (d : Int) < (ts.length : Int) := by omega
      have E3 := Lib.hid (step_wrap d 10 (by omega) (by omega))
      have hgd := getD_at ht
      have hlen := H40.out d
      rw [hgd] at hlen
      obtain ⟨-, A', cap', hv, h2⟩ := HK0.out.below HB.out
      obtain ⟨g, cs, T, rfl, kg, hcs⟩ := h2 (by omega)
      obtain ⟨rfl, -, rfl⟩ := Value.slice.inj hv
      have hci : cs[d]? = some (strOf t) := by rw [hcs d (by omega), List.getElem?_map, ht]; rfl
      clear h2 hv hcs
      have e4 : wrap64 ((t.length : Int) + 1) = (t.length : Int) + 1 := step_wrap t.length 40 (by omega) (by omega)
      obtain ⟨c_kg, f_kg, l_kg_wr⟩ := f3 kg
      go_wp2_with fail
      go_loopg [3, 20] (t.length + 1) (fun k2 p q wr => ∃ a : Nat, q = .int .i64 (a : Int) ∧ a + k2 = t.length + 1 ∧ Hid (wr.ownsRow W0.heap.size 36 2 p (upto ts d a).length (rowCells (upto ts d a))) ∧ Hid (Below W0.heap.size W0 wr))
      case atStart => exact ⟨0, rfl, by omega, Hown, HB⟩
      case round =>
        clear Hown HB kg c_kg f_kg l_kg_wr hci
        obtain ⟨a, rfl, hk2, Hown, HB⟩ := hrel
        by_cases hla : a ≤ t.length
        · obtain ⟨k2, rfl⟩ : ∃ k, gk = k + 1 := ⟨gk - 1, by omega⟩
          have m1 : decide ((a : Int) < (t.length : Int) + 1) = true := by simp; omega
          have E4 := Lib.hid (step_wrap a 40 (by omega) (by omega))
          have hw0 := HB.out.size
          have hol : (upto ts d a).length ≤ 500 := by have := upto_length H40.out d a; omega
          have hown := Hown.out
          go_wp2_with (at_builtin; refine wpList_push _ (by rfl) _ _ 29 (by rfl) (W0.heap.size) 36 (.agg #[.int .i64 0, .int .i64 0]) 2 16 Tryz.underlying29 (by kernel_rfl) (by rfl) (by omega) _ _ _ (by rfl) hown _ (by rfl) (by rfl) (by simp [Value.oneCell']) (by unfold maxLen; omega) (by omega) (by omega) ?_; intro g_W c_W W3 hown_W hlow_W hlt_W)
          go_wp2_with fail
          go_roundg k2
          case measure => omega
          case rel =>
            refine ⟨a + 1, by first | rfl | (rw [E4.out]; rfl), by omega, Lib.hid ?_, Lib.hid (low_step HB.out (by omega) hlow_W)⟩
            rw [upto_snoc, rowCells_append, List.length_append]
            exact hown_W
        · have m1 : decide ((a : Int) < (t.length : Int) + 1) = false := by simp; omega
          obtain rfl : a = t.length + 1 := by omega
          have Hown' := Hown
          rw [show t.length = (ts.getD d []).length by rw [hgd], upto_next] at Hown'
          go_wp2_with fail
          go_roundg k
          case measure => omega
          case rel => exact ⟨d + 1, by first | rfl | (rw [E3.out]; rfl), by omega, Hown', HB⟩
    · have n1 : decide ((d : Int) < (ts.length : Int)) = false := by simpa using hlt
      obtain rfl : d = ts.length := by omega
      have hol : (upto ts ts.length 0).length ≤ 500 := by have := upto_length H40.out ts.length 0; omega
      have hw0 := HB.out.size
      have hfl := refFold_length ts (upto ts ts.length 0)
      have hts : ∀ t, t ∈ ts → t.length ≤ 50000 := fun t ht => by
        obtain ⟨i, hi⟩ := List.getElem?_of_mem ht
        have := H40.out i
        rw [getD_at hi] at this; omega
      have HT := Lib.hid hts; clear hts
      obtain ⟨-, A3, c3, rfl, hx3⟩ := Rx.of_own Hown.out
      by_cases h0 : 0 < (upto ts ts.length 0).length
      · obtain ⟨g3, hv3, hg3, hc3⟩ := hx3 h0
        rcases Hown.out.2 with ⟨-, hz⟩ | ⟨g4, cap4, cur4, hv4, hg4, hc4, -, -, -, -⟩
        · omega
        · have e43 : g4 = g3 := by
            have := (Value.slice.inj hv4).1
            rw [hv3] at this
            simp at this
            exact this.symm
          subst e43
          have hsort := Lib.hid (sort_calls (cap := c3) (b0 := 0) HT.out hg4 HB.out KL.out rfl HK0.out hc4 h0 hol hc3)
          subst hv3
          go_wp2_with (go_at_call 98; refine hsort.out.mono ?_; rintro e w' ⟨rfl, hbs, cs, hcs, hrow⟩)
          go_ret
          refine ⟨_, rfl, ⟨?_, _, _, by rw [hfl]; rfl, fun _ => ⟨_, _, _, rfl, hcs, fun j hj => ?_⟩⟩, ?_⟩
          · rw [rowCells_length]
          · exact hrow j (by rw [hfl] at hj; exact hj)
          · have := HB.out.trans hbs
            have hb0 : Below w.heap.size w W0 := by rw [hkb]; exact HB0.out
            exact below_step hb0 this
      · have hz : (upto ts ts.length 0).length = 0 := by omega
        have hsort : Calls Tryz.prog 98 #[.slice A3 (upto ts ts.length 0).length c3, .func (.func 99) #[] #[.pointer (some ⟨kb, 0, none⟩)]] wr fun e w' => e = .returned (.tuple #[]) ∧ w' = wr := by
          rw [hz]; exact sort_none A3 c3 _ wr
        have hb0 : Below w.heap.size w wr := below_step (by rw [hkb]; exact HB0.out) HB.out
        have HS := Lib.hid hsort
        have HZ := Lib.hid hz
        clear hsort hz h0
        go_wp2_with (go_at_call 98; refine HS.out.mono ?_; rintro e w' ⟨rfl, rfl⟩)
        go_ret
        refine ⟨_, rfl, ⟨by rw [rowCells_length], _, _, by rw [hfl]; rfl, fun h => absurd h (by rw [hfl, HZ.out]; omega)⟩, hb0⟩
set_option maxRecDepth 100000 in
set_option maxHeartbeats 2000000 in
theorem rowsSorted_calls (v : Value) (ts : List (List UInt8)) (hn : ts.length ≤ 50000) (w : World) (h : Rk w 1 v ts.length (ts.map strOf)) :
    Calls Tryz.prog 53 #[v] w fun e w' => ∃ v', e = .returned v' ∧ Rk w' 2 v' (refSorted ts).length (rowCells (refSorted ts)) ∧ Below w.heap.size w w' := by
  by_cases hrt : refRight ts = true
  · have := rowsSorted_walk v ts hrt w h
    unfold refSorted
    rw [if_pos hrt]; exact this
  · have hr0 : refRight ts = false := by simpa using hrt
    have hs : refSorted ts = [] := by unfold refSorted; rw [if_neg hrt]
    rw [hs]
    have HK := Lib.hid h
    obtain ⟨h1, A, cap, rfl, h2⟩ := h
    clear h1 h2
    go_enter Tryz.func53, Tryz.ntmps53
    go_wp2_with fail
    refine calls_gen fun V0 hV_V0 => ?_
    have n_kl := hbk hV_V0 (w.heap.size)
    simp (maxDischargeDepth := 9) only [BK, not_false_eq_true, reduceCtorEq] at n_kl
    have hB : Below w.heap.size w V0 := nB hV_V0
    have z_V0 := zS hV_V0
    clear hV_V0
    have kl := n_kl; clear n_kl
    obtain ⟨c_kl, f_kl, l_kl_V0⟩ := f3 kl
    refine (rowsRight_calls _ ts hn _ (HK.out.below hB)).mono ?_
    rintro e_W0 W0 ⟨rfl, hb_W0⟩
    replace hB := below_step hB hb_W0
    replace kl := keep_blk hb_W0 kl
    have z_W0 := hb_W0.size
    clear hb_W0 c_kl f_kl
    obtain ⟨c_kl, f_kl, l_kl_W0⟩ := f3 kl
    rw [hr0]
    go_wp2_with fail
    go_ret
    exact ⟨_, rfl, ⟨rfl, none, 0, rfl, fun h => absurd h (by simp)⟩, hB⟩
end Go.Proofs.YtpdpcgmkpgfblaaGreat
/- Package rows: the symbols ahead of all rows. -/
namespace Go.Proofs.YtpdpcgmkpgfblaaGreat
set_option linter.unusedSimpArgs false
set_option linter.unusedVariables false
set_option linter.unnecessarySimpa false
open Go.RowKit
attribute [local go_sem ↓] Go.wp_at_zero Go.wp_at_succ
theorem symof_calls (b : UInt8) (w : World) : Calls Tryz.prog 103 #[.int .u8 (b.toNat : Int)] w fun e w' => e = .returned (.int .i64 ((b.toNat : Int) + 1)) ∧ Below w.heap.size w w' := by
  have hb := b.toNat_lt
  have e1 : wrap64 ((b.toNat : Int) + 1) = (b.toNat : Int) + 1 := IntWalk.wrap64_in _ (by omega)
  have e2 : wrap64 (b.toNat : Int) = (b.toNat : Int) := IntWalk.wrap64_in _ (by omega)
  go_enter Tryz.func103, Tryz.ntmps103
  go_wp2_with fail
  go_ret
  exact ⟨rfl, Below.refl _ _⟩
section
attribute [local go_sem] str_len
set_option maxRecDepth 100000 in
set_option maxHeartbeats 4000000 in
theorem rowsSymbols_calls (v : Value) (ts : List (List UInt8)) (hn : ts.length ≤ 50000) (hn2 : ∀ t, t ∈ ts → t.length ≤ 50000) (w : World) (h : Rk w 1 v ts.length (ts.map strOf)) :
    Calls Tryz.prog 59 #[v] w fun e w' => ∃ v', e = .returned v' ∧ w'.ownsRow w.heap.size 3 1 v' (refSorted ts).length (intCells ((refSorted ts).map (symOf ts))) ∧ Below w.heap.size w w' := by
  obtain ⟨R, hR⟩ : ∃ R, R = refSorted ts := ⟨_, rfl⟩
  rw [← hR]
  have HK := Lib.hid h
  obtain ⟨h1, A, cap, rfl, h2⟩ := h
  have hval : ∀ x, x ∈ R → ∃ t, ts[x.1]? = some t ∧ x.2 ≤ t.length := fun x hx => sorted_valid (hR ▸ hx)
  have hsm : R.length ≤ 500 := by rw [hR]; exact sorted_small ts
  have Hval := Lib.hid hval; have HR := Lib.hid hR
  clear h1 h2 hval hR
  go_enter Tryz.func59, Tryz.ntmps59
  go_wp2_with fail
  refine calls_gen fun V0 hV_V0 => ?_
  have hB : Below w.heap.size w V0 := nB hV_V0
  have z_V0 := zS hV_V0
  clear hV_V0
  refine (rowsSorted_calls _ ts hn _ (HK.out.below hB)).mono ?_
  rintro e1 W1 ⟨v1, rfl, hown1, hb1⟩
  have hB1 := below_step hB hb1
  rw [← HR.out] at hown1
  have HX := Lib.hid hown1; have HB1 := Lib.hid hB1
  obtain ⟨-, A1, c1, rfl, -⟩ := hown1
  have hsz1 := hB1.size
  clear hb1 hB hB1
  go_wp2_with fail
  go_loopg [3, 10] R.length (fun k p q wr => ∃ i : Nat, q = .int .i64 (i : Int) ∧ i + k = R.length ∧ Hid (wr.ownsRow W1.heap.size 3 1 p i (intCells ((R.take i).map (symOf ts)))) ∧ Hid (Below W1.heap.size W1 wr))
  case atStart => exact ⟨0, rfl, by omega, Lib.hid (own_nil _ _ _ _), Lib.hid (Below.refl _ _)⟩
  case round =>
    obtain ⟨i, rfl, hk, Hown, HB⟩ := hrel
    by_cases hlt : i < R.length
    · obtain ⟨k, rfl⟩ : ∃ k, gk = k + 1 := ⟨gk - 1, by omega⟩
      obtain ⟨x, hx⟩ := at_some hlt
      obtain ⟨t, ht, hxt⟩ := Hval.out x (List.mem_of_getElem? hx)
      obtain ⟨-, A', cap', hv, h2⟩ := HX.out.below HB.out
      obtain ⟨g1, cs1, T1, rfl, kg1, hcs1⟩ := h2 (by omega)
      obtain ⟨rfl, -, rfl⟩ := Value.slice.inj hv
      have c1a : cs1[i * 2]? = some (.int .i64 (x.1 : Int)) := (hcs1 _ (by omega)).trans (rowCells_at hx).1
      have c1b : cs1[i * 2 + 1]? = some (.int .i64 (x.2 : Int)) := (hcs1 _ (by omega)).trans (rowCells_at hx).2
      clear h2 hv hcs1
      have htake : Hid (intCells ((R.take (i + 1)).map (symOf ts)) = intCells ((R.take i).map (symOf ts)) ++ [.int .i64 (symOf ts x)]) := Lib.hid (by
        unfold intCells
        rw [List.take_succ_eq_append_getElem hlt, List.map_append, List.map_append, (List.getElem_eq_iff hlt).2 hx]; rfl)
      have n1 : decide ((i : Int) < (R.length : Int)) = true := by simpa using hlt
      have n2 : (i : Int) < (R.length : Int) := by omega
      have E3 := Lib.hid (step_wrap i 500 (by omega) (by omega))
      have hw1 := HB.out.size
      by_cases h0 : x.2 = 0
      · have hs : Hid (symOf ts x = 0) := Lib.hid (by unfold symOf; rw [if_pos h0])
        have d0 : decide (0 < x.2) = false := by rw [h0]; rfl
        have d1 : decide ((0 : Int) < (x.2 : Int)) = false := by rw [h0]; rfl
        clear h0 hxt
        have hHB := HB.out
        obtain ⟨c_kg1, f_kg1, l_kg1_wr⟩ := f3 kg1
        go_wp2_with (at_builtin; refine wpList_push _ (by rfl) _ _ 72 (by rfl) (W1.heap.size) 3 (.int .i64 0) 1 8 Tryz.underlying72 (by kernel_rfl) (by rfl) (by omega) _ _ _ (by rfl) (own_below Hown.out (by (repeat' first | with_reducible assumption | with_reducible exact Below.refl _ _ | with_reducible refine Below.alloc ?_ ?_ _ | with_reducible refine Below.setCell ?_ ?_ _ | with_reducible refine below_drewN ?_ _ | with_reducible refine Below.drew ?_ | exact Nat.le_refl _ | ((try dsimp only); omega) | (simp only [siz_alloc, siz_set]; omega)))) _ (by rfl) (by rw [siz_alloc]; rfl) (by simp [Value.oneCell']) (by unfold maxLen; omega) (by omega) (by simp only [siz_alloc, siz_set]; omega) ?_; intro g_W c_W W5 hown_W hlow_W hlt_W)
        go_wp2_with fail
        go_roundg k
        case measure => omega
        case rel => exact ⟨i + 1, by first | rfl | (rw [E3.out]; rfl), by omega, Lib.hid (by rw [htake.out, hs.out]; exact hown_W), Lib.hid (low_step (by (repeat' first | with_reducible assumption | with_reducible exact Below.refl _ _ | with_reducible refine Below.alloc ?_ ?_ _ | with_reducible refine Below.setCell ?_ ?_ _ | with_reducible refine below_drewN ?_ _ | with_reducible refine Below.drew ?_ | exact Nat.le_refl _ | ((try dsimp only); omega) | (simp only [siz_alloc, siz_set]; omega))) (Nat.le_refl _) hlow_W)⟩
      · obtain ⟨j, hj⟩ : ∃ j : Nat, x.2 = j + 1 := ⟨x.2 - 1, by omega⟩
        obtain ⟨b, hb⟩ := at_some (show j < t.length by omega)
        have htl := hn2 t (List.mem_of_getElem? ht)
        have hs : Hid (symOf ts x = (b.toNat : Int) + 1) := Lib.hid (by unfold symOf; rw [if_neg h0, getD_at ht, hj]; simp [List.getD, hb])
        have d0 : decide ((0 : Int) < (x.2 : Int)) = true := by simp; omega
        obtain ⟨hd, -⟩ := List.getElem?_eq_some_iff.1 ht
        obtain ⟨-, A2, cap2, hv2, h3⟩ := (HK.out.below HB1.out).below HB.out
        obtain ⟨g2, cs2, T2, rfl, kg2, hcs2⟩ := h3 (by omega)
        obtain ⟨rfl, -, rfl⟩ := Value.slice.inj hv2
        have c2a : cs2[x.1]? = some (strOf t) := by rw [hcs2 _ (by omega), List.getElem?_map, ht]; rfl
        have n3 : (x.1 : Int) < (ts.length : Int) := by omega
        have hix := str_index t j b hb
        have hxj : (x.2 : Int) = (j : Int) + 1 := by omega
        rw [hxj] at c1b d0
        have e8 : wrap64 ((j : Int) + 1 - 1) = (j : Int) := by rw [show (j : Int) + 1 - 1 = (j : Int) by omega]; exact step_id j t.length (by omega) (by omega)
        have e9 : wrap64 (j : Int) = (j : Int) := step_id j t.length (by omega) (by omega)
        have E9 := Lib.hid e9
        clear h0 hxt h3 hv2 hcs2 hb hxj e9
        have hB := Below.refl wr.heap.size wr
        obtain ⟨c_kg1, f_kg1, l_kg1_wr⟩ := f3 kg1
        obtain ⟨c_kg2, f_kg2, l_kg2_wr⟩ := f3 kg2
        go_wp2_with fail
        refine wp_gen fun V hV_V => ?_
        have n_kr := hbk hV_V (wr.heap.size)
        simp (maxDischargeDepth := 9) only [BK, not_false_eq_true, reduceCtorEq, kg1, kg2, l_kg1_wr, l_kg2_wr] at n_kr
        replace kg1 := kK hV_V kg1
        replace kg2 := kK hV_V kg2
        replace hB : Below wr.heap.size wr V := nB hV_V
        have z_V := zS hV_V
        clear hV_V c_kg1 f_kg1 c_kg2 f_kg2
        obtain ⟨c_kg1, f_kg1, l_kg1_V⟩ := f3 kg1
        obtain ⟨c_kg2, f_kg2, l_kg2_V⟩ := f3 kg2
        have kr := n_kr; clear n_kr
        obtain ⟨c_kr, f_kr, l_kr_V⟩ := f3 kr
        have HBV := Lib.hid (below_step HB.out hB)
        have HO := Lib.hid (own_below Hown.out hB)
        have hzV := hB.size
        clear hB
        have e9 := E9.out
        refine wp_region_noPanic ?_
        refine wp_region_held_drew (S := fun v => Below V.heap.size V v ∧ (V.heap.size ≤ v.heap.size) ∧ ∀ b o, b < V.heap.size → v.cell? ⟨b, o, none⟩ = V.cell? ⟨b, o, none⟩) (by kernel_rfl) (HeldB.start V) (fun hHeld => ?_)
        have hB_d : Below V.heap.size V V.drew := (Below.refl _ _).drew
        generalize V.drew = Vd at hHeld hB_d ⊢
        refine tz 0 rfl hHeld ?_
        try simp only [PT]
        refine tz 1 rfl hHeld ?_
        try simp only [PT]
        refine tz 2 rfl hHeld ?_
        try simp only [PT]
        refine tz 3 rfl hHeld ?_
        try simp only [PT]
        refine tz 4 rfl hHeld ?_
        try simp only [PT]
        refine tz 5 rfl hHeld ?_
        try simp only [PT]
        refine tz 6 rfl hHeld ?_
        try simp only [PT]
        refine tz 7 rfl hHeld ?_
        try simp only [PT]
        refine tz 8 rfl hHeld ?_
        try simp only [PT]
        clear e8 e9
        refine rd 9 rfl fun K hK => ?_
        go_simp
        refine (symof_calls b _).mono ?_
        rintro e6 W6 ⟨rfl, hb6⟩
        refine hK.out _ _ (HeldB.call hHeld hb6) (fun hHeld => ?_)
        clear hK K
        try simp only [PT]
        refine rd 10 rfl fun K hK => ?_
        go_simp
        refine hK.out _ _ hHeld (fun hHeld => ?_)
        clear hK K
        try simp only [PT]
        refine wpAnyH_done (by kernel_rfl) ?_ _
        refine NoPanic.normal ?_
        have HB6 := Lib.hid (hHeld.1)
        have HO6 := Lib.hid (own_below HO.out hHeld.1)
        have hz6 := hHeld.1.size
        clear hHeld hb6 kg1 kg2 kr c_kg1 f_kg1 c_kg2 f_kg2 c_kr f_kr hB_d
        go_wp2_with (at_builtin; refine wpList_push _ (by rfl) _ _ 72 (by rfl) (W1.heap.size) 3 (.int .i64 0) 1 8 Tryz.underlying72 (by kernel_rfl) (by rfl) (by omega) _ _ _ (by rfl) HO6.out _ (by rfl) (by rfl) (by simp [Value.oneCell']) (by unfold maxLen; omega) (by omega) (by omega) ?_; intro g_W c_W W7 hown_W hlow_W hlt_W)
        go_wp2_with fail
        go_roundg k
        case measure => omega
        case rel => exact ⟨i + 1, by first | rfl | (rw [E3.out]; rfl), by omega, Lib.hid (by rw [htake.out, hs.out]; exact hown_W), Lib.hid (low_step (below_step HBV.out HB6.out) (Nat.le_refl _) hlow_W)⟩
    · have hi : i = R.length := by omega
      have n1 : decide ((i : Int) < (R.length : Int)) = false := by simpa using hlt
      have hown := Hown.out
      rw [hi, List.take_length] at hown
      have HO := Lib.hid (own_mono hown hsz1); clear hown Hown
      have HBF := Lib.hid (below_step HB1.out HB.out)
      go_wp2_with fail
      go_ret
      exact ⟨u3, rfl, HO.out, HBF.out⟩
end
end Go.Proofs.YtpdpcgmkpgfblaaGreat
/- The library's slices.Equal at items, numbers and bits, at every length. -/
namespace Go.Proofs.YtpdpcgmkpgfblaaGreat
set_option linter.unusedSimpArgs false
set_option linter.unusedVariables false
set_option linter.unnecessarySimpa false
open Go.RowKit Go.Shelf
attribute [local go_sem ↓] Go.wp_at_zero Go.wp_at_succ
def encI (x : Int × Int) : List Value := [.int .i64 x.1, .int .i64 x.2]
theorem neqItem : NeqAt Tryz.prog 56 (fun x : Int × Int => .agg (encI x).toArray) (fun x y => x == y) := by
  refine ⟨fun x y w => ?_, GuardAt.agg _ (by kernel_rfl)⟩
  have u3 := Tryz.underlying3
  have a3 := Tryz.isAgg3
  have z3 := Tryz.sizeOf3
  have hS : Tryz.prog.underlying 56 = some (.struct (Tryz.prog.fieldsOf 56)) := by kernel_rfl
  have hp : Tryz.prog.stoodInHeld 56 = false := by kernel_rfl
  obtain ⟨x1, x2⟩ := x
  obtain ⟨y1, y2⟩ := y
  simp only [encI]
  rw [run_neq_struct, show (10000 : Nat) = 9999 + 1 from rfl, run_equalIn_agg w 9999 56 _ _ hS hp]
  simp only [Program.fieldsOf, Tryz.underlying56]
  go_simp
  by_cases h1 : x1 = y1 <;> by_cases h2 : x2 = y2 <;> simp [h1, h2]
theorem allEq_items {α : Type} [BEq α] [LawfulBEq α] : ∀ (a b : List α), Lib.allEq (fun x y => x == y) a b = (a == b)
  | [], [] => rfl
  | [], _ :: _ => rfl
  | _ :: _, [] => rfl
  | x :: a, y :: b => by
    unfold Lib.allEq
    rw [allEq_items a b]; rfl
/-- At rows of which one is empty. -/
theorem equal_short {F : Nat} (hwalk : ∀ (A B : Option Addr) (n m c d : Nat) (w : World), n ≠ m ∨ n = 0 → n ≤ 50000 → m ≤ 50000 → Calls Tryz.prog F #[.slice A n c, .slice B m d] w fun e w' => e = .returned (.bool (decide (n = m))) ∧ Below w.heap.size w w')
    {α : Type} [BEq α] [LawfulBEq α] (a b : List α) (ha : a.length ≤ 50000) (hb : b.length ≤ 50000) (h : a.length ≠ b.length ∨ a.length = 0) (A B : Option Addr) (c d : Nat) (w : World) :
    Calls Tryz.prog F #[.slice A a.length c, .slice B b.length d] w fun e w' => e = .returned (.bool (a == b)) ∧ Below w.heap.size w w' := by
  have hx := hwalk A B a.length b.length c d w h ha hb
  have : decide (a.length = b.length) = (a == b) := by
    by_cases e : a.length = b.length
    · rcases h with h | h
      · exact absurd e h
      · have h1 : a = [] := List.length_eq_zero_iff.1 h
        have h2 : b = [] := List.length_eq_zero_iff.1 (by omega)
        rw [h1, h2]; rfl
    · have : a ≠ b := fun q => e (congrArg List.length q)
      rw [decide_eq_false e]
      simp [this]
  rw [this] at hx; exact hx
theorem itemCells_enc (l : List (Int × Int)) (j : Nat) (hj : j < l.length) (i : Nat) (v : Value) (hv : (encI l[j]!)[i]? = some v) : (itemCells l)[j * 2 + i]? = some v := by
  obtain ⟨h1, h2⟩ := itemCells_at l j l[j] (List.getElem?_eq_getElem hj)
  rw [getElem!_pos l j hj] at hv
  unfold encI at hv
  match i with
  | 0 => simp at hv; rw [← hv]; exact h1
  | 1 => simp at hv; rw [← hv]; exact h2
  | i + 2 => simp at hv
set_option maxRecDepth 100000 in
set_option maxHeartbeats 2000000 in
theorem eqItem_short (A B : Option Addr) (n m c d : Nat) (w : World) (h : n ≠ m ∨ n = 0) (hn : n ≤ 50000) (hm : m ≤ 50000) : Calls Tryz.prog 55 #[.slice A n c, .slice B m d] w fun e w' => e = .returned (.bool (decide (n = m))) ∧ Below w.heap.size w w' := by
  by_cases e : n = m
  · subst e
    obtain rfl : n = 0 := by omega
    rw [decide_eq_true rfl]
    go_enter Tryz.func55, Tryz.ntmps55
    go_wp2_with fail
    go_loopg [13] 0 (fun k p wr => p = .int .i64 0 ∧ Hid (Below w.heap.size w wr))
    case atStart => exact ⟨rfl, Lib.hid (Below.refl _ _)⟩
    case round =>
      obtain ⟨rfl, HB⟩ := hrel
      go_wp2_with fail
      go_ret
      exact ⟨rfl, HB.out⟩
  · have e1 : ¬ (n : Int) = (m : Int) := by omega
    rw [decide_eq_false e]
    clear h e
    go_enter Tryz.func55, Tryz.ntmps55
    go_wp2_with fail
    go_ret
    exact ⟨rfl, Below.refl _ _⟩
theorem eqItem_calls (v1 v2 : Value) (a b : List (Int × Int)) (ha : a.length ≤ 50000) (hb : b.length ≤ 50000) (w : World) (h1 : Rx w 2 v1 a.length (itemCells a)) (h2 : Rx w 2 v2 b.length (itemCells b)) :
    Calls Tryz.prog 55 #[v1, v2] w fun e w' => e = .returned (.bool (a == b)) ∧ Below w.heap.size w w' := by
  obtain ⟨-, A, c, rfl, h1⟩ := h1
  obtain ⟨-, B, d, rfl, h2⟩ := h2
  by_cases h : a.length ≠ b.length ∨ a.length = 0
  · exact equal_short eqItem_short a b ha hb h A B c d w
  · obtain ⟨g1, rfl, -, c1⟩ := h1 (by omega)
    obtain ⟨g2, rfl, -, c2⟩ := h2 (by omega)
    have hcon := AnyQ.slices_Equal Tryz.layEqItem 2 Tryz.isAgg56 Tryz.sizeOf56 encI (fun _ => rfl) (fun x y => x == y) neqItem g1 0 a.length c g2 0 b.length d a b w (Nat.le_refl _) (Nat.le_refl _) (by omega) (by omega) (fun j hj i v hv => by
      have h2 : i < 2 := by
        rcases Nat.lt_or_ge i 2 with h | h
        · exact h
        · rw [List.getElem?_eq_none (by simp [encI]; omega)] at hv; cases hv
      rw [Nat.zero_add, c1 _ (by omega)]; exact itemCells_enc a j hj i v hv) (fun j hj i v hv => by
      have h2 : i < 2 := by
        rcases Nat.lt_or_ge i 2 with h | h
        · exact h
        · rw [List.getElem?_eq_none (by simp [encI]; omega)] at hv; cases hv
      rw [Nat.zero_add, c2 _ (by omega)]; exact itemCells_enc b j hj i v hv)
    rw [List.take_length, List.take_length, allEq_items] at hcon
    refine Calls.mono hcon ?_
    rintro e w' ⟨rfl, q, rfl⟩
    exact ⟨rfl, below_drewN (Below.refl _ _) q⟩
set_option maxRecDepth 100000 in
set_option maxHeartbeats 2000000 in
theorem eqInt_short (A B : Option Addr) (n m c d : Nat) (w : World) (h : n ≠ m ∨ n = 0) (hn : n ≤ 50000) (hm : m ≤ 50000) : Calls Tryz.prog 57 #[.slice A n c, .slice B m d] w fun e w' => e = .returned (.bool (decide (n = m))) ∧ Below w.heap.size w w' := by
  by_cases e : n = m
  · subst e
    obtain rfl : n = 0 := by omega
    rw [decide_eq_true rfl]
    go_enter Tryz.func57, Tryz.ntmps57
    go_wp2_with fail
    go_loopg [13] 0 (fun k p wr => p = .int .i64 0 ∧ Hid (Below w.heap.size w wr))
    case atStart => exact ⟨rfl, Lib.hid (Below.refl _ _)⟩
    case round =>
      obtain ⟨rfl, HB⟩ := hrel
      go_wp2_with fail
      go_ret
      exact ⟨rfl, HB.out⟩
  · have e1 : ¬ (n : Int) = (m : Int) := by omega
    rw [decide_eq_false e]
    clear h e
    go_enter Tryz.func57, Tryz.ntmps57
    go_wp2_with fail
    go_ret
    exact ⟨rfl, Below.refl _ _⟩
theorem eqInt_calls (v1 v2 : Value) (a b : List Int) (ha : a.length ≤ 50000) (hb : b.length ≤ 50000) (w : World) (h1 : Rx w 1 v1 a.length (a.map fun x => .int .i64 x)) (h2 : Rx w 1 v2 b.length (b.map fun x => .int .i64 x)) :
    Calls Tryz.prog 57 #[v1, v2] w fun e w' => e = .returned (.bool (a == b)) ∧ Below w.heap.size w w' := by
  obtain ⟨-, A, c, rfl, h1⟩ := h1
  obtain ⟨-, B, d, rfl, h2⟩ := h2
  by_cases h : a.length ≠ b.length ∨ a.length = 0
  · exact equal_short eqInt_short a b ha hb h A B c d w
  · obtain ⟨g1, rfl, -, c1⟩ := h1 (by omega)
    obtain ⟨g2, rfl, -, c2⟩ := h2 (by omega)
    have hcon := AnyE.slices_Equal Tryz.layEqInt (fun x => .int .i64 x) (fun x y => x == y) (NeqAt.int Tryz.prog 3 .i64) g1 0 a.length c g2 0 b.length d a b w (Nat.le_refl _) (Nat.le_refl _) (by omega) (by omega) (fun j hj => by
      rw [Nat.zero_add, c1 _ (by omega), List.getElem?_map, List.getElem?_eq_getElem hj, getElem!_pos a j hj]; rfl) (fun j hj => by
      rw [Nat.zero_add, c2 _ (by omega), List.getElem?_map, List.getElem?_eq_getElem hj, getElem!_pos b j hj]; rfl)
    rw [List.take_length, List.take_length, allEq_items] at hcon
    refine Calls.mono hcon ?_
    rintro e w' ⟨rfl, q, rfl⟩
    exact ⟨rfl, below_drewN (Below.refl _ _) q⟩
set_option maxRecDepth 100000 in
set_option maxHeartbeats 2000000 in
theorem eqBool_short (A B : Option Addr) (n m c d : Nat) (w : World) (h : n ≠ m ∨ n = 0) (hn : n ≤ 50000) (hm : m ≤ 50000) : Calls Tryz.prog 60 #[.slice A n c, .slice B m d] w fun e w' => e = .returned (.bool (decide (n = m))) ∧ Below w.heap.size w w' := by
  by_cases e : n = m
  · subst e
    obtain rfl : n = 0 := by omega
    rw [decide_eq_true rfl]
    go_enter Tryz.func60, Tryz.ntmps60
    go_wp2_with fail
    go_loopg [13] 0 (fun k p wr => p = .int .i64 0 ∧ Hid (Below w.heap.size w wr))
    case atStart => exact ⟨rfl, Lib.hid (Below.refl _ _)⟩
    case round =>
      obtain ⟨rfl, HB⟩ := hrel
      go_wp2_with fail
      go_ret
      exact ⟨rfl, HB.out⟩
  · have e1 : ¬ (n : Int) = (m : Int) := by omega
    rw [decide_eq_false e]
    clear h e
    go_enter Tryz.func60, Tryz.ntmps60
    go_wp2_with fail
    go_ret
    exact ⟨rfl, Below.refl _ _⟩
theorem eqBool_calls (v1 v2 : Value) (a b : List Bool) (ha : a.length ≤ 50000) (hb : b.length ≤ 50000) (w : World) (h1 : Rx w 1 v1 a.length (a.map fun x => .bool x)) (h2 : Rx w 1 v2 b.length (b.map fun x => .bool x)) :
    Calls Tryz.prog 60 #[v1, v2] w fun e w' => e = .returned (.bool (a == b)) ∧ Below w.heap.size w w' := by
  obtain ⟨-, A, c, rfl, h1⟩ := h1
  obtain ⟨-, B, d, rfl, h2⟩ := h2
  by_cases h : a.length ≠ b.length ∨ a.length = 0
  · exact equal_short eqBool_short a b ha hb h A B c d w
  · obtain ⟨g1, rfl, -, c1⟩ := h1 (by omega)
    obtain ⟨g2, rfl, -, c2⟩ := h2 (by omega)
    have hcon := AnyE.slices_Equal Tryz.layEqBool (fun x => .bool x) (fun x y => x == y) (NeqAt.bool 4 Tryz.underlying4) g1 0 a.length c g2 0 b.length d a b w (Nat.le_refl _) (Nat.le_refl _) (by omega) (by omega) (fun j hj => by
      rw [Nat.zero_add, c1 _ (by omega), List.getElem?_map, List.getElem?_eq_getElem hj, getElem!_pos a j hj]; rfl) (fun j hj => by
      rw [Nat.zero_add, c2 _ (by omega), List.getElem?_map, List.getElem?_eq_getElem hj, getElem!_pos b j hj]; rfl)
    rw [List.take_length, List.take_length, allEq_items] at hcon
    refine Calls.mono hcon ?_
    rintro e w' ⟨rfl, q, rfl⟩
    exact ⟨rfl, below_drewN (Below.refl _ _) q⟩
end Go.Proofs.YtpdpcgmkpgfblaaGreat
/- All bits of a row of bits; all symbols of a row of symbols. -/
namespace Go.Proofs.YtpdpcgmkpgfblaaGreat
set_option linter.unusedSimpArgs false
set_option linter.unusedVariables false
set_option linter.unnecessarySimpa false
open Go.RowKit
attribute [local go_sem ↓] Go.wp_at_zero Go.wp_at_succ
variable {ap : Value} {s : Ar} {O : Nat → Prop}
set_option maxRecDepth 100000 in
set_option maxHeartbeats 2000000 in
theorem bAll_calls (h : Int) (l : List Bool) (hr : bAll s h = some l) (hl : l.length ≤ 50000) (w : World) (hA : AP w ap s O) :
    Calls Tryz.prog 61 #[ap, .int .i64 h] w fun e w' => ∃ v, e = .returned v ∧ w'.ownsRow w.heap.size 4 1 v l.length (l.map fun x => .bool x) ∧ Below w.heap.size w w' := by
  have hA0 := Lib.hid hA
  have hr' := Lib.hid hr
  have hlen : l.length = (bLen s h).toNat := eachO_len _ _ _ hr
  clear hr
  go_enter Tryz.func61, Tryz.ntmps61
  go_wp2_with fail
  refine calls_gen fun V hV_V => ?_
  have hB : Below w.heap.size w V := nB hV_V
  replace hA : AP V ap s O := nA hV_V
  have z_V := zS hV_V
  clear hV_V
  refine (bLen_calls _ _ hA).mono ?_
  rintro e_W1 W1 ⟨rfl, hb_W1⟩
  replace hA := hA.below hb_W1
  replace hB := below_step hB hb_W1
  have z_W1 := hb_W1.size
  clear hb_W1
  go_wp2_with fail
  refine wp_gen fun V1 hV_V1 => ?_
  replace hB : Below w.heap.size w V1 := nB hV_V1
  replace hA : AP V1 ap s O := nA hV_V1
  have z_V1 := zS hV_V1
  clear hV_V1
  go_loopg [5, 12] (bLen s h).toNat (fun k p q wr => ∃ (i : Int) (d0 rest : List Bool), q = .int .i64 i ∧ 0 ≤ i ∧ i ≤ 50000 ∧ (d0.length : Int) = i ∧ k = (bLen s h - i).toNat ∧ Hid (eachO (fun i => (bGet s h i).map (·.1)) k i = some rest) ∧ Hid (l = d0 ++ rest) ∧ Hid (wr.ownsRow w.heap.size 4 1 p d0.length (d0.map fun x => .bool x)) ∧ Below w.heap.size w wr)
  case atStart => exact ⟨0, [], l, rfl, by omega, by omega, rfl, by simp, hr', Lib.hid rfl, Lib.hid (own_nil _ _ _ _), hB⟩
  case round =>
    clear hA hB hr'
    obtain ⟨i, d0, rest, rfl, hi0, hi1, hdl, hk, He, Hl, Hown, hB0⟩ := hrel
    have hA := hA0.out.below hB0
    by_cases hlt : i < bLen s h
    · have d1 : decide (i < bLen s h) = true := by simpa using hlt
      obtain ⟨k, rfl⟩ : ∃ k, gk = k + 1 := ⟨gk - 1, by omega⟩
      have he := He.out
      unfold eachO at he
      obtain ⟨x, hx, he⟩ := Option.bind_eq_some_iff.1 he
      obtain ⟨rest', he', hrest⟩ := Option.bind_eq_some_iff.1 he
      obtain ⟨g, hg, hgx⟩ := Option.map_eq_some_iff.1 hx
      have hrest := Option.some.inj hrest
      have hlx : l.length = d0.length + (1 + rest'.length) := by rw [Hl.out, ← hrest]; simp; omega
      have Hg := Lib.hid hg
      have Hx := Lib.hid hgx
      have He' := Lib.hid he'
      have Hl' : Hid (l = (d0 ++ [x]) ++ rest') := Lib.hid (by rw [Hl.out, ← hrest]; simp)
      clear He Hl he hx he' hrest hg hgx
      have hw0 := hB0.size
      have HB0 := Lib.hid hB0; clear hB0
      have hB := Below.refl wr.heap.size wr
      go_wp2_with fail
      refine calls_gen fun V2 hV_V2 => ?_
      replace hB : Below wr.heap.size wr V2 := nB hV_V2
      replace hA : AP V2 ap s O := nA hV_V2
      have z_V2 := zS hV_V2
      clear hV_V2
      refine (bGet_calls _ _ g Hg.out _ hA).mono ?_
      rintro e_W2 W2 ⟨rfl, hb_W2⟩
      replace hA := hA.below hb_W2
      replace hB := below_step hB hb_W2
      have z_W2 := hb_W2.size
      clear hb_W2
      have Hbl := Lib.hid (below_step HB0.out hB)
      have hown := own_below Hown.out hB
      clear Hown
      go_wp2_with (at_builtin; refine wpList_push _ (by rfl) _ _ 73 (by rfl) (w.heap.size) 4 (.bool false) 1 1 Tryz.underlying73 (by kernel_rfl) (by rfl) (by omega) _ _ _ (by rfl) hown _ (by rfl) (by rfl) (by simp [Value.oneCell']) (by unfold maxLen; omega) (by omega) (by omega) ?_; intro g_W c_W W3 hown_W hlow_W hlt_W)
      have h1 : wrap64 (i + 1) = i + 1 := IntWalk.wrap64_in _ (by omega)
      go_wp2_with fail
      go_roundg k
      case measure => omega
      case rel =>
        refine ⟨i + 1, d0 ++ [x], rest', by rw [← h1], by omega, by omega, by simp; omega, by omega, He', Hl', ?_, low_step Hbl.out (by omega) hlow_W⟩
        rw [List.map_append, List.length_append, ← Hx.out]
        exact Lib.hid hown_W
    · have d1 : decide (i < bLen s h) = false := by simpa using hlt
      obtain rfl : gk = 0 := by omega
      have he := He.out
      unfold eachO at he
      obtain rfl := Option.some.inj he
      have hl2 := Hl.out
      simp only [List.append_nil] at hl2
      have hn : d0.length = l.length := by rw [hl2]
      clear He Hl he
      go_wp2_with fail
      go_ret
      refine ⟨u5, rfl, ?_, hB0⟩
      rw [hl2]; exact Hown.out
set_option maxRecDepth 100000 in
set_option maxHeartbeats 2000000 in
theorem wAll_calls (h : Int) (l : List Int) (hr : wAll s h = some l) (hl : l.length ≤ 50000) (w : World) (hA : AP w ap s O) :
    Calls Tryz.prog 58 #[ap, .int .i64 h] w fun e w' => ∃ v, e = .returned v ∧ w'.ownsRow w.heap.size 3 1 v l.length (l.map fun x => .int .i64 x) ∧ Below w.heap.size w w' := by
  have hA0 := Lib.hid hA
  have hr' := Lib.hid hr
  have hlen : l.length = (wLen s h).toNat := eachO_len _ _ _ hr
  clear hr
  go_enter Tryz.func58, Tryz.ntmps58
  go_wp2_with fail
  refine calls_gen fun V hV_V => ?_
  have hB : Below w.heap.size w V := nB hV_V
  replace hA : AP V ap s O := nA hV_V
  have z_V := zS hV_V
  clear hV_V
  refine (wLen_calls _ _ hA).mono ?_
  rintro e_W1 W1 ⟨rfl, hb_W1⟩
  replace hA := hA.below hb_W1
  replace hB := below_step hB hb_W1
  have z_W1 := hb_W1.size
  clear hb_W1
  go_wp2_with fail
  refine wp_gen fun V1 hV_V1 => ?_
  replace hB : Below w.heap.size w V1 := nB hV_V1
  replace hA : AP V1 ap s O := nA hV_V1
  have z_V1 := zS hV_V1
  clear hV_V1
  go_loopg [5, 12] (wLen s h).toNat (fun k p q wr => ∃ (i : Int) (d0 rest : List Int), q = .int .i64 i ∧ 0 ≤ i ∧ i ≤ 50000 ∧ (d0.length : Int) = i ∧ k = (wLen s h - i).toNat ∧ Hid (eachO (fun i => (wGet s h i).map (·.1)) k i = some rest) ∧ Hid (l = d0 ++ rest) ∧ Hid (wr.ownsRow w.heap.size 3 1 p d0.length (d0.map fun x => .int .i64 x)) ∧ Below w.heap.size w wr)
  case atStart => exact ⟨0, [], l, rfl, by omega, by omega, rfl, by simp, hr', Lib.hid rfl, Lib.hid (own_nil _ _ _ _), hB⟩
  case round =>
    clear hA hB hr'
    obtain ⟨i, d0, rest, rfl, hi0, hi1, hdl, hk, He, Hl, Hown, hB0⟩ := hrel
    have hA := hA0.out.below hB0
    by_cases hlt : i < wLen s h
    · have d1 : decide (i < wLen s h) = true := by simpa using hlt
      obtain ⟨k, rfl⟩ : ∃ k, gk = k + 1 := ⟨gk - 1, by omega⟩
      have he := He.out
      unfold eachO at he
      obtain ⟨x, hx, he⟩ := Option.bind_eq_some_iff.1 he
      obtain ⟨rest', he', hrest⟩ := Option.bind_eq_some_iff.1 he
      obtain ⟨g, hg, hgx⟩ := Option.map_eq_some_iff.1 hx
      have hrest := Option.some.inj hrest
      have hlx : l.length = d0.length + (1 + rest'.length) := by rw [Hl.out, ← hrest]; simp; omega
      have Hg := Lib.hid hg
      have Hx := Lib.hid hgx
      have He' := Lib.hid he'
      have Hl' : Hid (l = (d0 ++ [x]) ++ rest') := Lib.hid (by rw [Hl.out, ← hrest]; simp)
      clear He Hl he hx he' hrest hg hgx
      have hw0 := hB0.size
      have HB0 := Lib.hid hB0; clear hB0
      have hB := Below.refl wr.heap.size wr
      go_wp2_with fail
      refine calls_gen fun V2 hV_V2 => ?_
      replace hB : Below wr.heap.size wr V2 := nB hV_V2
      replace hA : AP V2 ap s O := nA hV_V2
      have z_V2 := zS hV_V2
      clear hV_V2
      refine (wGet_calls _ _ g Hg.out _ hA).mono ?_
      rintro e_W2 W2 ⟨rfl, hb_W2⟩
      replace hA := hA.below hb_W2
      replace hB := below_step hB hb_W2
      have z_W2 := hb_W2.size
      clear hb_W2
      have Hbl := Lib.hid (below_step HB0.out hB)
      have hown := own_below Hown.out hB
      clear Hown
      go_wp2_with (at_builtin; refine wpList_push _ (by rfl) _ _ 72 (by rfl) (w.heap.size) 3 (.int .i64 0) 1 8 Tryz.underlying72 (by kernel_rfl) (by rfl) (by omega) _ _ _ (by rfl) hown _ (by rfl) (by rfl) (by simp [Value.oneCell']) (by unfold maxLen; omega) (by omega) (by omega) ?_; intro g_W c_W W3 hown_W hlow_W hlt_W)
      have h1 : wrap64 (i + 1) = i + 1 := IntWalk.wrap64_in _ (by omega)
      go_wp2_with fail
      go_roundg k
      case measure => omega
      case rel =>
        refine ⟨i + 1, d0 ++ [x], rest', by rw [← h1], by omega, by omega, by simp; omega, by omega, He', Hl', ?_, low_step Hbl.out (by omega) hlow_W⟩
        rw [List.map_append, List.length_append, ← Hx.out]
        exact Lib.hid hown_W
    · have d1 : decide (i < wLen s h) = false := by simpa using hlt
      obtain rfl : gk = 0 := by omega
      have he := He.out
      unfold eachO at he
      obtain rfl := Option.some.inj he
      have hl2 := Hl.out
      simp only [List.append_nil] at hl2
      have hn : d0.length = l.length := by rw [hl2]
      clear He Hl he
      go_wp2_with fail
      go_ret
      refine ⟨u5, rfl, ?_, hB0⟩
      rw [hl2]; exact Hown.out
end Go.Proofs.YtpdpcgmkpgfblaaGreat
/- Two rows of a call's own; an append to one of them. -/
namespace Go.Proofs.YtpdpcgmkpgfblaaGreat
set_option linter.unusedSimpArgs false
set_option linter.unusedVariables false
set_option linter.unnecessarySimpa false
open Go.RowKit
theorem wpList_push2 {P : Program} {ops : Array Oper} {rest : List Oper} {o : Oper} {a : Act} {Q : Exit → Act → World → Prop} (w : World) (hgd : o.guard = none) (s x : Operand) (t : TypeId)
    (ho : o.op = .call { callee := .builtin .append, args := #[s, x], argTypes := #[t, t] })
    (base : Nat) (e : TypeId) (z : Value) (size bytes : Nat) (ht : P.underlying t = some (.slice e)) (hi : (P.info? e).map (fun i => (i.zero, i.size, i.bytes)) = some (some z, size, bytes))
    (hzs : z.cells.size = size) (hsz : 0 < size) (v : Value) (n : Nat) (xs : List Value) (hs : a.eval s = v) (hown : w.ownsRow base e size v n xs)
    (news : Array Value) (hl : news.size = size) (hx : a.eval x = .slice (some ⟨w.heap.size, 0, none⟩) 1 1) (h1 : ∀ u ∈ news.toList, u.oneCell' = true) (h63 : n + 1 ≤ maxLen) (hbytes : (n + 1) * bytes ≤ 140737488355328) (hbase : base ≤ w.heap.size)
    (h : ∀ g cap w', w'.ownsRow base e size (.slice (some ⟨g, 0, none⟩) (n + 1) cap) (n + 1) (xs ++ news.toList) → Below base w w' → g < w'.heap.size → w.grownBy w' v.ownBlock → (v.ownBlock = some g ∨ w.heap.size ≤ g) → wpList P ops Q rest (a.put o.dst (.slice (some ⟨g, 0, none⟩) (n + 1) cap)) w') :
    wpList P ops Q (o :: rest) a (w.alloc (.cells news e)) := by
  obtain ⟨i0, hi0, hz0, hz1, hz2⟩ := info_parts hi
  refine wpList_append_lies _ hgd s x t ho base e i0 z size bytes ht hi0 hz0 hz1 hz2 hzs hsz v n xs hs (hown.alloc _) ⟨w.heap.size, 0, none⟩ 1 1 news.toList hx (by simpa using hl) ?_ h1 (by omega) h63 hbytes (by simp; omega) (w.heap.size + 1) (by simp) ?_
  · intro j u hu
    have hk := cells_of (blk_new w (.cells news e) w.heap.size rfl) j
    rw [show (⟨w.heap.size, 0, none⟩ : Addr).add j = ⟨w.heap.size, j, none⟩ by unfold Addr.add; split <;> simp_all]
    rw [hk]; simpa using hu
  · intro g cap w' h2 hg hat hlt
    have h0 := World.grownBy_alloc w (.cells news e) v.ownBlock
    refine h g cap w' h2 ?_ hlt ⟨hg.os.trans h0.os, hg.tape.trans h0.tape, hg.output.trans h0.output, Nat.le_trans h0.size hg.size, fun k hk hne => (hg.block k (Nat.lt_of_lt_of_le hk h0.size) hne).trans (h0.block k hk hne)⟩ (hat.imp id fun q => by omega)
    refine ((Below.refl base w).alloc hbase _).grown hg (by simp; omega) ?_
    intro k hk
    rcases hown.2 with ⟨rfl, _⟩ | ⟨g', cap', cur, rfl, hge, _⟩
    · simp [Value.ownBlock] at hk
    · simp [Value.ownBlock] at hk; omega
theorem step_push2 {P : Program} {ops : Array Oper} {o : Oper} {a : Act} {K : Act → World → Prop} {Q : Exit → Act → World → Prop} {E : Prop} (w : World) (hwant : Region.wanted o (yielded ops a.tmps) = true) (s x : Operand) (t : TypeId)
    (ho : o.op = .call { callee := .builtin .append, args := #[s, x], argTypes := #[t, t] })
    (base : Nat) (e : TypeId) (z : Value) (size bytes : Nat) (ht : P.underlying t = some (.slice e)) (hi : (P.info? e).map (fun i => (i.zero, i.size, i.bytes)) = some (some z, size, bytes))
    (hzs : z.cells.size = size) (hsz : 0 < size) (v : Value) (n : Nat) (xs : List Value) (hs : a.eval s = v) (hown : w.ownsRow base e size v n xs)
    (news : Array Value) (hl : news.size = size) (hx : a.eval x = .slice (some ⟨w.heap.size, 0, none⟩) 1 1) (h1 : ∀ u ∈ news.toList, u.oneCell' = true) (h63 : n + 1 ≤ maxLen) (hbytes : (n + 1) * bytes ≤ 140737488355328) (hbase : base ≤ w.heap.size)
    (h : ∀ g cap w', w'.ownsRow base e size (.slice (some ⟨g, 0, none⟩) (n + 1) cap) (n + 1) (xs ++ news.toList) → Below base w w' → g < w'.heap.size → w.grownBy w' v.ownBlock → (v.ownBlock = some g ∨ w.heap.size ≤ g) → K (a.put o.dst (.slice (some ⟨g, 0, none⟩) (n + 1) cap)) w') :
    if Region.wanted o (yielded ops a.tmps) = true then Oper.wp P o a (w.alloc (.cells news e)) K Q else E := by
  rw [if_pos hwant]
  obtain ⟨i0, hi0, hz0, hz1, hz2⟩ := info_parts hi
  refine wp_append_lies _ s x t ho base e i0 z size bytes ht hi0 hz0 hz1 hz2 hzs hsz v n xs hs (hown.alloc _) ⟨w.heap.size, 0, none⟩ 1 1 news.toList hx (by simpa using hl) ?_ h1 (by omega) h63 hbytes (by simp; omega) (w.heap.size + 1) (by simp) ?_
  · intro j u hu
    have hk := cells_of (blk_new w (.cells news e) w.heap.size rfl) j
    rw [show (⟨w.heap.size, 0, none⟩ : Addr).add j = ⟨w.heap.size, j, none⟩ by unfold Addr.add; split <;> simp_all]
    rw [hk]; simpa using hu
  · intro g cap w' h2 hg hat hlt
    have h0 := World.grownBy_alloc w (.cells news e) v.ownBlock
    refine h g cap w' h2 ?_ hlt ⟨hg.os.trans h0.os, hg.tape.trans h0.tape, hg.output.trans h0.output, Nat.le_trans h0.size hg.size, fun k hk hne => (hg.block k (Nat.lt_of_lt_of_le hk h0.size) hne).trans (h0.block k hk hne)⟩ (hat.imp id fun q => by omega)
    refine ((Below.refl base w).alloc hbase _).grown hg (by simp; omega) ?_
    intro k hk
    rcases hown.2 with ⟨rfl, _⟩ | ⟨g', cap', cur, rfl, hge, _⟩
    · simp [Value.ownBlock] at hk
    · simp [Value.ownBlock] at hk; omega
/-- Two rows apart. -/
structure Ow2 (w : World) (base : Nat) (e1 : TypeId) (s1 : Nat) (v1 : Value) (n1 : Nat) (x1 : List Value) (e2 : TypeId) (s2 : Nat) (v2 : Value) (n2 : Nat) (x2 : List Value) : Prop where
  a : w.ownsRow base e1 s1 v1 n1 x1
  b : w.ownsRow base e2 s2 v2 n2 x2
  ne : ∀ k, v1.ownBlock = some k → v2.ownBlock ≠ some k
section
variable {w w' : World} {base : Nat} {e1 e2 : TypeId} {s1 s2 n1 n2 : Nat} {v1 v2 : Value} {x1 x2 : List Value}
theorem Ow2.nil (w : World) (base : Nat) (e1 : TypeId) (s1 : Nat) (e2 : TypeId) (s2 : Nat) : Ow2 w base e1 s1 (.slice none 0 0) 0 [] e2 s2 (.slice none 0 0) 0 [] := ⟨own_nil _ _ _ _, own_nil _ _ _ _, fun k h => by simp [Value.ownBlock] at h⟩
theorem Ow2.below (h : Ow2 w base e1 s1 v1 n1 x1 e2 s2 v2 n2 x2) (hb : Below w.heap.size w w') : Ow2 w' base e1 s1 v1 n1 x1 e2 s2 v2 n2 x2 := ⟨own_below h.a hb, own_below h.b hb, h.ne⟩
theorem Ow2.swap (h : Ow2 w base e1 s1 v1 n1 x1 e2 s2 v2 n2 x2) : Ow2 w base e2 s2 v2 n2 x2 e1 s1 v1 n1 x1 := ⟨h.b, h.a, fun k h2 h1 => h.ne k h1 h2⟩
/-- The first one has more. -/
theorem Ow2.push (h : Ow2 w base e1 s1 v1 n1 x1 e2 s2 v2 n2 x2) {g c m : Nat} {x : List Value} (ho : w'.ownsRow base e1 s1 (.slice (some ⟨g, 0, none⟩) m c) m x) (hg : w.grownBy w' v1.ownBlock) (hat : v1.ownBlock = some g ∨ w.heap.size ≤ g) : Ow2 w' base e1 s1 (.slice (some ⟨g, 0, none⟩) m c) m x e2 s2 v2 n2 x2 := by
  refine ⟨ho, h.b.kept hg ?_, fun k hk h2 => ?_⟩
  · cases h2 : v2.ownBlock with
    | none => exact .inl rfl
    | some k => exact .inr fun e => h.ne k e.symm h2
  · simp [Value.ownBlock] at hk
    subst hk
    rcases hat with hat | hat
    · exact h.ne g hat h2
    · have := (h.b.lt g h2).2; omega
end
end Go.Proofs.YtpdpcgmkpgfblaaGreat
/- Package version: Check. -/
namespace Go.Proofs.YtpdpcgmkpgfblaaGreat
set_option linter.unusedSimpArgs false
set_option linter.unusedVariables false
set_option linter.unnecessarySimpa false
open Go.RowKit
attribute [local go_sem ↓] Go.wp_at_zero Go.wp_at_succ
variable {ap : Value} {s : Ar} {O : Nat → Prop}
theorem str_lenU (l : List UInt8) (w : World) : (Builtin.len_ #[9] 3 #[.string ⟨l.toArray⟩]).run Tryz.prog w = .ok (.int .i64 (l.length : Int)) w := str_len l w
/-- What Check has read of documents: texts, and items. -/
def DRows (w : World) (base : Nat) (p1 p2 : Value) (ds : Docs) : Prop := Ow2 w base 9 1 p1 ds.length ((ds.map (·.2)).map strOf) 56 2 p2 ds.length (itemCells (docsM ds))
def RRows (w : World) (base : Nat) (p1 p2 : Value) (rate : Int) (ds : Docs) (R : List (Nat × Nat)) : Prop := Ow2 w base 4 1 p1 R.length ((R.map (mkR rate)).map fun x => .bool x) 56 2 p2 (R.filter (mkR rate)).length (itemCells ((R.filter (mkR rate)).map (spR ds)))
theorem own_kept2 {w w' w3 : World} {base n : Nat} {e : TypeId} {size : Nat} {v v1 : Value} {xs : List Value} (h : w.ownsRow base e size v n xs) (hb : Below w.heap.size w w') (hg : w'.grownBy w3 v1.ownBlock) (hne : ∀ k, v1.ownBlock = some k → v.ownBlock ≠ some k) : w3.ownsRow base e size v n xs := by
  refine (own_below h hb).kept hg ?_
  cases h2 : v.ownBlock with
  | none => exact .inl rfl
  | some k => exact .inr fun e => hne k e.symm h2
theorem docsM_snoc (ds : Docs) (d : Int × List UInt8) : docsM (ds ++ [d]) = docsM ds ++ [(d.1, (d.2.length : Int))] := by unfold docsM; simp
section
attribute [local go_sem] str_lenU
/-- Where Check may not be: what it tells at once. -/
theorem check_no (root rate : Int) (vl : Value) (h : ¬ (vIs s root = true ∧ 1 ≤ rate ∧ rate ≤ 16)) (w : World) (hA : AP w ap s O) :
    Calls Tryz.prog 20 #[ap, .int .i64 root, .int .i64 rate, vl] w fun e w' => e = .returned (.bool false) ∧ Below w.heap.size w w' := by
  cases hv : vIs s root with
  | false =>
    go_enter Tryz.func20, Tryz.ntmps20
    go_wp2_with fail
    refine calls_gen fun V hV_V => ?_
    have hB : Below w.heap.size w V := nB hV_V
    replace hA : AP V ap s O := nA hV_V
    have z_V := zS hV_V
    clear hV_V
    refine (vOf_calls _ _ hA).mono ?_
    rintro e_W1 W1 ⟨rfl, hb_W1⟩
    replace hA := hA.below hb_W1
    replace hB := below_step hB hb_W1
    have z_W1 := hb_W1.size
    clear hb_W1
    unfold Parts.val
    rw [hv]
    go_wp2_with fail
    go_ret
    exact ⟨rfl, by (repeat' first | with_reducible assumption | with_reducible exact Below.refl _ _ | with_reducible refine Below.alloc ?_ ?_ _ | with_reducible refine Below.setCell ?_ ?_ _ | with_reducible refine below_drewN ?_ _ | with_reducible refine Below.drew ?_ | exact Nat.le_refl _ | ((try dsimp only); omega) | (simp only [siz_alloc, siz_set]; omega))⟩
  | true =>
    by_cases h1 : rate < 1
    ·
      go_enter Tryz.func20, Tryz.ntmps20
      go_wp2_with fail
      refine calls_gen fun V hV_V => ?_
      have hB : Below w.heap.size w V := nB hV_V
      replace hA : AP V ap s O := nA hV_V
      have z_V := zS hV_V
      clear hV_V
      refine (vOf_calls _ _ hA).mono ?_
      rintro e_W1 W1 ⟨rfl, hb_W1⟩
      replace hA := hA.below hb_W1
      replace hB := below_step hB hb_W1
      have z_W1 := hb_W1.size
      clear hb_W1
      unfold Parts.val
      rw [hv]
      go_wp2_with fail
      go_ret
      exact ⟨rfl, by (repeat' first | with_reducible assumption | with_reducible exact Below.refl _ _ | with_reducible refine Below.alloc ?_ ?_ _ | with_reducible refine Below.setCell ?_ ?_ _ | with_reducible refine below_drewN ?_ _ | with_reducible refine Below.drew ?_ | exact Nat.le_refl _ | ((try dsimp only); omega) | (simp only [siz_alloc, siz_set]; omega))⟩
    ·
      have h2 : 16 < rate := by
        rcases Int.lt_or_le 16 rate with h2 | h2
        ·
          exact h2
        ·
          exact absurd ⟨hv, by omega, h2⟩ h
      go_enter Tryz.func20, Tryz.ntmps20
      go_wp2_with fail
      refine calls_gen fun V hV_V => ?_
      have hB : Below w.heap.size w V := nB hV_V
      replace hA : AP V ap s O := nA hV_V
      have z_V := zS hV_V
      clear hV_V
      refine (vOf_calls _ _ hA).mono ?_
      rintro e_W1 W1 ⟨rfl, hb_W1⟩
      replace hA := hA.below hb_W1
      replace hB := below_step hB hb_W1
      have z_W1 := hb_W1.size
      clear hb_W1
      unfold Parts.val
      rw [hv]
      go_wp2_with fail
      go_ret
      exact ⟨rfl, by (repeat' first | with_reducible assumption | with_reducible exact Below.refl _ _ | with_reducible refine Below.alloc ?_ ?_ _ | with_reducible refine Below.setCell ?_ ?_ _ | with_reducible refine below_drewN ?_ _ | with_reducible refine Below.drew ?_ | exact Nat.le_refl _ | ((try dsimp only); omega) | (simp only [siz_alloc, siz_set]; omega))⟩
theorem check_end (root rate : Int) (ds : Docs) (r : Bool) (hr : vCheck s root rate ds = some r) (h1 : vIs s root = true ∧ 1 ≤ rate ∧ rate ≤ 16) (h2 : refRight (txt ds) = true) :
    ∃ a, lAll s (vOf s root).table = some a ∧ a.length ≤ 50000 ∧ ((a == docsM ds) = false ∧ r = false ∨ (a == docsM ds) = true ∧
      ∃ b, wAll s (vOf s root).wave = some b ∧ b.length ≤ 50000 ∧ ((b == symsM (txt ds)) = false ∧ r = false ∨ (b == symsM (txt ds)) = true ∧
      ∃ c, bAll s (vOf s root).marks = some c ∧ c.length ≤ 50000 ∧ ((c == marksM rate (txt ds)) = false ∧ r = false ∨ (c == marksM rate (txt ds)) = true ∧
      ∃ d, lAll s (vOf s root).spots = some d ∧ d.length ≤ 50000 ∧ r = (d == spotsM rate ds)))) := by
  unfold vCheck at hr
  rw [if_pos h1, if_pos h2] at hr
  obtain ⟨a, ha, hr⟩ := Option.bind_eq_some_iff.1 hr
  by_cases la : a.length ≤ 50000
  ·
    rw [if_pos la] at hr
    refine ⟨a, ha, la, ?_⟩
    cases ea : (a == docsM ds) with
    | false => rw [ea, if_neg (by decide)] at hr; exact .inl ⟨rfl, (Option.some.inj hr).symm⟩
    | true =>
      rw [ea, if_pos rfl] at hr
      obtain ⟨b, hb, hr⟩ := Option.bind_eq_some_iff.1 hr
      by_cases lb : b.length ≤ 50000
      ·
        rw [if_pos lb] at hr
        refine .inr ⟨rfl, b, hb, lb, ?_⟩
        cases eb : (b == symsM (txt ds)) with
        | false => rw [eb, if_neg (by decide)] at hr; exact .inl ⟨rfl, (Option.some.inj hr).symm⟩
        | true =>
          rw [eb, if_pos rfl] at hr
          obtain ⟨c, hc, hr⟩ := Option.bind_eq_some_iff.1 hr
          by_cases lc : c.length ≤ 50000
          ·
            rw [if_pos lc] at hr
            refine .inr ⟨rfl, c, hc, lc, ?_⟩
            cases ec : (c == marksM rate (txt ds)) with
            | false => rw [ec, if_neg (by decide)] at hr; exact .inl ⟨rfl, (Option.some.inj hr).symm⟩
            | true =>
              rw [ec, if_pos rfl] at hr
              obtain ⟨d, hd, hr⟩ := Option.bind_eq_some_iff.1 hr
              by_cases ld : d.length ≤ 50000
              ·
                rw [if_pos ld] at hr
                exact .inr ⟨rfl, d, hd, ld, (Option.some.inj hr).symm⟩
              ·
                rw [if_neg ld] at hr; cases hr
          ·
            rw [if_neg lc] at hr; cases hr
      ·
        rw [if_neg lb] at hr; cases hr
  ·
    rw [if_neg la] at hr; cases hr
set_option maxRecDepth 100000 in
set_option maxHeartbeats 8000000 in
theorem check_yes (root rate : Int) (ds : Docs) (vl : Value) (r : Bool) (hr : vCheck s root rate ds = some r) (hc : vIs s root = true ∧ 1 ≤ rate ∧ rate ≤ 16) (hn : ds.length ≤ 50000) (h40 : ∀ t, t ∈ txt ds → t.length ≤ 50000) (w : World) (hA : AP w ap s O) (hd : Rd2 w vl ds) :
    Calls Tryz.prog 20 #[ap, .int .i64 root, .int .i64 rate, vl] w fun e w' => e = .returned (.bool r) ∧ Below w.heap.size w w' := by
  obtain ⟨hv, hr1, hr2⟩ := hc
  have HR := Lib.hid hr; have HN := Lib.hid hn; have H40 := Lib.hid h40; have HV := Lib.hid hv
  have HD := Lib.hid hd
  have htl : (txt ds).length = ds.length := by simp
  have HTL := Lib.hid htl
  obtain ⟨A, cap, rfl, -⟩ := hd
  have r1 : decide (rate < 1) = false := by simp; omega
  have r2 : decide (16 < rate) = false := by simp; omega
  have r0 : rate ≠ 0 := by omega
  have HRT := Lib.hid (And.intro hr1 hr2)
  clear hr hn h40 hr1 hr2 htl
  go_enter Tryz.func20, Tryz.ntmps20
  go_wp2_with fail
  refine calls_gen fun V hV_V => ?_
  have hB : Below w.heap.size w V := nB hV_V
  replace hA : AP V ap s O := nA hV_V
  have z_V := zS hV_V
  clear hV_V
  refine (vOf_calls _ _ hA).mono ?_
  rintro e_W1 W1 ⟨rfl, hb_W1⟩
  replace hA := hA.below hb_W1
  replace hB := below_step hB hb_W1
  have z_W1 := hb_W1.size
  clear hb_W1
  unfold Parts.val
  rw [hv]
  have HW1 := hB.size
  go_wp2_with fail
  refine wp_gen fun V1 hV_V1 => ?_
  have n_kp := hbk hV_V1 (W1.heap.size)
  simp (maxDischargeDepth := 9) only [BK, not_false_eq_true, reduceCtorEq] at n_kp
  have o_kp : ¬ O (W1.heap.size) := by first | exact hA.new (Nat.le_refl _) | exact hA.new (by omega)
  replace hB : Below w.heap.size w V1 := nB hV_V1
  replace hA : AP V1 ap s O := nA hV_V1
  have z_V1 := zS hV_V1
  clear hV_V1
  have kp := n_kp; clear n_kp
  obtain ⟨c_kp, f_kp, l_kp_V1⟩ := f3 kp
  have HA1 := Lib.hid hA; have HB1 := Lib.hid hB; have KP := Lib.hid kp; have HD1 := Lib.hid (HD.out.below hB)
  have hz1 := hB.size
  clear hA hB kp c_kp f_kp hv
  generalize hkb : W1.heap.size = kb at *
  go_loopg [11, 12, 38] ds.length (fun k p1 p2 q wr => ∃ i : Nat, q = .int .i64 (i : Int) ∧ i + k = ds.length ∧ Hid (DRows wr V1.heap.size p1 p2 (ds.take i)) ∧ Hid (Below V1.heap.size V1 wr))
  case atStart => exact ⟨0, rfl, by omega, Lib.hid (Ow2.nil _ _ _ _ _ _), Lib.hid (Below.refl _ _)⟩
  case round =>
    obtain ⟨i, rfl, hk, Hrow, HB⟩ := hrel
    have hw1 := HB.out.size
    by_cases hlt : i < ds.length
    ·
      obtain ⟨k, rfl⟩ : ∃ k, gk = k + 1 := ⟨gk - 1, by omega⟩
      obtain ⟨d, hdi⟩ := at_some hlt
      obtain ⟨A', cap', hv, h2⟩ := HD1.out.below HB.out
      obtain ⟨ad, rfl, hg, hc⟩ := h2 (by omega)
      obtain ⟨rfl, -, rfl⟩ := Value.slice.inj hv
      obtain ⟨hlb, c1, c2⟩ := hc i d hdi
      have n1 : decide ((i : Int) < (ds.length : Int)) = true := by simpa using hlt
      have n2 : (i : Int) < (ds.length : Int) := by omega
      have hN := HN.out
      have E3 := Lib.hid (step_wrap i 50000 (by omega) (by omega))
      have hi5 : i ≤ 50000 := by omega
      have htake : Hid (ds.take (i + 1) = ds.take i ++ [d]) := Lib.hid (by rw [List.take_succ_eq_append_getElem hlt, (List.getElem_eq_iff hlt).2 hdi])
      have hil : (ds.take i).length = i := by rw [List.length_take]; omega
      have hR := Hrow.out
      unfold DRows at hR
      rw [hil] at hR
      have HRow := Lib.hid hR
      have HL1 := Lib.hid hR.a.lt; have HL2 := Lib.hid hR.b.lt
      have HNE := Lib.hid hR.ne
      replace c2 : wr.cell? ⟨(ad.add (i * 2)).block, (ad.add (i * 2)).off + 1, none⟩ = some (.string ⟨d.2.toArray⟩) := c2
      clear h2 hc hv hdi hR Hrow hil hN
      go_wp2_with (
        at_builtin
        first
        | (refine wpList_push2 _ (by rfl) _ _ 31 (by rfl) (V1.heap.size) 9 (.string ⟨#[]⟩) 1 16 Tryz.underlying31 (by kernel_rfl) (by rfl) (by omega) _ _ _ (by rfl) (own_below HRow.out.a (by (repeat' first | with_reducible assumption | with_reducible exact Below.refl _ _ | with_reducible refine Below.alloc ?_ ?_ _ | with_reducible refine Below.setCell ?_ ?_ _ | with_reducible refine below_drewN ?_ _ | with_reducible refine Below.drew ?_ | exact Nat.le_refl _ | ((try dsimp only); omega) | (simp only [siz_alloc, siz_set]; omega)))) _ (by rfl) (by rw [siz_alloc]; rfl) (by simp [Value.oneCell']) (by unfold maxLen; omega) (by omega) (by simp only [siz_alloc, siz_set]; omega) ?_
           intro g_W c_W W3 hown_W hlow_W hlt_W hgr_W hat_W
           have kd := (hgr_W.block wr.heap.size (by rw [siz_alloc]; omega) (fun e => by have := HL1.out _ e.symm; omega)).trans (blk_new wr _ _ rfl)
           have HHob := Lib.hid (own_kept2 HRow.out.b (show Below wr.heap.size wr _ by (repeat' first | with_reducible assumption | with_reducible exact Below.refl _ _ | with_reducible refine Below.alloc ?_ ?_ _ | with_reducible refine Below.setCell ?_ ?_ _ | with_reducible refine below_drewN ?_ _ | with_reducible refine Below.drew ?_ | exact Nat.le_refl _ | ((try dsimp only); omega) | (simp only [siz_alloc, siz_set]; omega))) hgr_W HNE.out)
           have c_kd := cells_of kd
           have f_kd := free_of kd
           have l_kd := lt_of kd
           have hz3 := hgr_W.size
           rw [siz_alloc] at hz3
           have HLow3 := Lib.hid (low_step HB.out (Nat.le_refl _) (Below.trans (by (repeat' first | with_reducible assumption | with_reducible exact Below.refl _ _ | with_reducible refine Below.alloc ?_ ?_ _ | with_reducible refine Below.setCell ?_ ?_ _ | with_reducible refine below_drewN ?_ _ | with_reducible refine Below.drew ?_ | exact Nat.le_refl _ | ((try dsimp only); omega) | (simp only [siz_alloc, siz_set]; omega))) hlow_W))
           have Hown := Lib.hid hown_W
           have Hgr := Lib.hid hgr_W
           have Hat := Lib.hid hat_W
           clear hown_W hgr_W hat_W hlow_W)
        | (refine wpList_push2 _ (by rfl) _ _ 88 (by rfl) (V1.heap.size) 56 (.agg #[.int .i64 0, .int .i64 0]) 2 16 Tryz.underlying88 (by kernel_rfl) (by rfl) (by omega) _ _ _ (by rfl) HHob.out _ (by rfl) (by rfl) (by simp [Value.oneCell']) (by unfold maxLen; omega) (by omega) (by omega) ?_
           intro g_X c_X W5 hown_X hlow_X hlt_X hgr_X hat_X
           have Hown2 := Lib.hid hown_X
           have Hgr2 := Lib.hid hgr_X
           have Hat2 := Lib.hid hat_X
           have HLow5 := Lib.hid hlow_X
           clear hown_X hgr_X hat_X hlow_X))
      go_wp2_with fail
      go_roundg k
      case measure => omega
      case rel =>
        refine ⟨i + 1, by first | rfl | (rw [E3.out]; rfl), by omega, Lib.hid ?_, Lib.hid (low_step HLow3.out (Nat.le_refl _) HLow5.out)⟩
        have h3 := (HRow.out.below (show Below wr.heap.size wr _ by (repeat' first | with_reducible assumption | with_reducible exact Below.refl _ _ | with_reducible refine Below.alloc ?_ ?_ _ | with_reducible refine Below.setCell ?_ ?_ _ | with_reducible refine below_drewN ?_ _ | with_reducible refine Below.drew ?_ | exact Nat.le_refl _ | ((try dsimp only); omega) | (simp only [siz_alloc, siz_set]; omega)))).push Hown.out Hgr.out Hat.out
        have h5 := (h3.swap.push Hown2.out Hgr2.out Hat2.out).swap
        unfold DRows
        rw [htake.out, docsM_snoc, itemCells_append, List.map_append, List.map_append, List.length_append, List.length_take, Nat.min_eq_left (by omega)]
        exact h5
    ·
      have hi : i = ds.length := by omega
      have n1 : decide ((i : Int) < (ds.length : Int)) = false := by simpa using hlt
      have hrow := Hrow.out
      rw [hi, List.take_length] at hrow
      have HRW := Lib.hid hrow
      clear hrow Hrow hk
      go_wp2_with fail
      refine (rowsSorted_calls _ (txt ds) (by rw [HTL.out]; exact HN.out) _ (by rw [HTL.out]; exact Rk.of_own HRW.out.a)).mono ?_
      rintro e2 W2 ⟨v2, rfl, hrk, hb2⟩
      have HX2 := Lib.hid (below_step HB.out hb2)
      have HRW2 := Lib.hid (Ow2.below HRW.out hb2)
      have hw2 := HX2.out.size
      obtain ⟨R, hR⟩ : ∃ R, R = refSorted (txt ds) := ⟨_, rfl⟩
      rw [← hR] at hrk
      have hsm : R.length ≤ 500 := by rw [hR]; exact sorted_small _
      have Hval : Hid (∀ x, x ∈ R → ∃ t, (txt ds)[x.1]? = some t ∧ x.2 ≤ t.length) := Lib.hid (fun x hx => sorted_valid (hR ▸ hx))
      have HRR := Lib.hid hR
      have HRK := Lib.hid hrk
      obtain ⟨-, A2, c2, rfl, -⟩ := hrk
      clear hR hb2 HB HRW n1 hi hlt
      go_wp2_with fail
      go_loopg [13, 14, 60] R.length (fun k p13 p14 q wr => ∃ i : Nat, q = .int .i64 (i : Int) ∧ i + k = R.length ∧ Hid (RRows wr W2.heap.size p14 p13 rate ds (R.take i)) ∧ Hid (Below W2.heap.size W2 wr))
      case atStart => exact ⟨0, rfl, by omega, Lib.hid (Ow2.nil _ _ _ _ _ _), Lib.hid (Below.refl _ _)⟩
      case round =>
        obtain ⟨i, rfl, hk, Hrow, HB⟩ := hrel
        have hwr := HB.out.size
        by_cases hlt : i < R.length
        ·
          obtain ⟨k, rfl⟩ : ∃ k, gk = k + 1 := ⟨gk - 1, by omega⟩
          obtain ⟨x, hx⟩ := at_some hlt
          obtain ⟨t, ht, hxt⟩ := Hval.out x (List.mem_of_getElem? hx)
          obtain ⟨-, A', cap', hv, h2⟩ := HRK.out.below HB.out
          obtain ⟨g1, cs1, T1, rfl, kg1, hcs1⟩ := h2 (by omega)
          obtain ⟨rfl, -, rfl⟩ := Value.slice.inj hv
          have c1a : cs1[i * 2]? = some (.int .i64 (x.1 : Int)) := (hcs1 _ (by omega)).trans (rowCells_at hx).1
          have c1b : cs1[i * 2 + 1]? = some (.int .i64 (x.2 : Int)) := (hcs1 _ (by omega)).trans (rowCells_at hx).2
          clear h2 hv hcs1
          have n1 : decide ((i : Int) < (R.length : Int)) = true := by simpa using hlt
          have n2 : (i : Int) < (R.length : Int) := by omega
          have E3 := Lib.hid (step_wrap i 500 (by omega) (by omega))
          have htake : Hid (R.take (i + 1) = R.take i ++ [x]) := Lib.hid (by rw [List.take_succ_eq_append_getElem hlt, (List.getElem_eq_iff hlt).2 hx])
          have hil : (R.take i).length = i := by rw [List.length_take]; omega
          have hfl : ((R.take i).filter (mkR rate)).length ≤ 500 := by have := List.length_filter_le (mkR rate) (R.take i); omega
          have hR := Hrow.out
          unfold RRows at hR
          rw [hil] at hR
          have HRow := Lib.hid hR
          have HL1 := Lib.hid hR.a.lt; have HL2 := Lib.hid hR.b.lt
          have HNE := Lib.hid hR.ne
          clear hR Hrow hil
          by_cases hm : (x.2 : Int) % rate = 0
          ·
            have m1 : ((x.2 : Int) % rate == 0) = true := by rw [hm]; rfl
            have hmk : Hid (mkR rate x = true) := Lib.hid (decide_eq_true hm)
            have hdx : x.1 < ds.length := by have := (List.getElem?_eq_some_iff.1 ht).1; rw [HTL.out] at this; exact this
            obtain ⟨d, hdi⟩ := at_some hdx
            have Hsp : Hid (spR ds x = (d.1, (x.2 : Int))) := Lib.hid (by unfold spR; simp [List.getD, hdi])
            have Hdi := Lib.hid hdi
            have n3 : (x.1 : Int) < (ds.length : Int) := by omega
            clear hm hdi ht hxt
            obtain ⟨c_kg1, f_kg1, l_kg1_wr⟩ := f3 kg1
            go_wp2_with (
              at_builtin
              (refine wpList_push2 _ (by rfl) _ _ 73 (by rfl) (W2.heap.size) 4 (.bool false) 1 1 Tryz.underlying73 (by kernel_rfl) (by rfl) (by omega) _ _ _ (by rfl) (own_below HRow.out.a (by (repeat' first | with_reducible assumption | with_reducible exact Below.refl _ _ | with_reducible refine Below.alloc ?_ ?_ _ | with_reducible refine Below.setCell ?_ ?_ _ | with_reducible refine below_drewN ?_ _ | with_reducible refine Below.drew ?_ | exact Nat.le_refl _ | ((try dsimp only); omega) | (simp only [siz_alloc, siz_set]; omega)))) _ (by rfl) (by rw [siz_alloc]; rfl) (by simp [Value.oneCell']) (by unfold maxLen; omega) (by omega) (by simp only [siz_alloc, siz_set]; omega) ?_
               intro g_W c_W W3 hown_W hlow_W hlt_W hgr_W hat_W
               have kr := (hgr_W.block wr.heap.size (by rw [siz_alloc]; omega) (fun e => by have := HL1.out _ e.symm; omega)).trans (blk_new wr _ _ rfl)
               have h3 := Lib.hid ((HRow.out.below (show Below wr.heap.size wr _ by (repeat' first | with_reducible assumption | with_reducible exact Below.refl _ _ | with_reducible refine Below.alloc ?_ ?_ _ | with_reducible refine Below.setCell ?_ ?_ _ | with_reducible refine below_drewN ?_ _ | with_reducible refine Below.drew ?_ | exact Nat.le_refl _ | ((try dsimp only); omega) | (simp only [siz_alloc, siz_set]; omega)))).push hown_W hgr_W hat_W)
               have HLow3 := Lib.hid (low_step HB.out (Nat.le_refl _) (Below.trans (by (repeat' first | with_reducible assumption | with_reducible exact Below.refl _ _ | with_reducible refine Below.alloc ?_ ?_ _ | with_reducible refine Below.setCell ?_ ?_ _ | with_reducible refine below_drewN ?_ _ | with_reducible refine Below.drew ?_ | exact Nat.le_refl _ | ((try dsimp only); omega) | (simp only [siz_alloc, siz_set]; omega))) hlow_W))
               have hz3 := hgr_W.size
               rw [siz_alloc] at hz3
               clear hown_W hgr_W hat_W hlow_W))
            go_wp2_with fail
            refine wp_gen fun V3 hV3 => ?_
            have hb3 : Below W3.heap.size W3 V3 := by rw [hV3]; (repeat' first | with_reducible assumption | with_reducible exact Below.refl _ _ | with_reducible refine Below.alloc ?_ ?_ _ | with_reducible refine Below.setCell ?_ ?_ _ | with_reducible refine below_drewN ?_ _ | with_reducible refine Below.drew ?_ | exact Nat.le_refl _ | ((try dsimp only); omega) | (simp only [siz_alloc, siz_set]; omega))
            clear hV3
            have hzv := hb3.size
            have HX3 := Lib.hid (below_step HX2.out HLow3.out)
            have HX4 := Lib.hid (below_step HX3.out hb3)
            obtain ⟨ad, hvl, hlb, c1d⟩ : ∃ ad, A = some ad ∧ (ad.add (x.1 * 2)).block < W2.heap.size ∧ V3.cell? (ad.add (x.1 * 2)) = some (.int .i64 d.1) := by
              obtain ⟨A', cap', hv, h2⟩ := HD1.out
              obtain ⟨ad, rfl, hg, hc⟩ := h2 (by omega)
              obtain ⟨rfl, -, -⟩ := Value.slice.inj hv
              obtain ⟨q1, q2, -⟩ := hc x.1 d Hdi.out
              exact ⟨ad, rfl, by omega, (HX4.out.cell (by exact q1)).trans q2⟩
            subst hvl
            replace kr := keep_blk hb3 kr
            have H3 := Lib.hid (h3.out.below hb3)
            have HLow4 := Lib.hid (low_step HLow3.out (Nat.le_refl _) (hb3.mono (by have := HLow3.out.size; omega)))
            have hL3 := H3.out.b.lt
            have HLb := Lib.hid hlb
            clear hb3 c_kg1 f_kg1 kg1
            obtain ⟨c_kr, f_kr, l_kr_V3⟩ := f3 kr
            have hadb : V3.heap.size ≥ W2.heap.size := by have := HLow4.out.size; omega
            refine wp_region_noPanic ?_
            refine wp_region_held_drew (S := fun v => (v.cell? (ad.add (x.1 * 2)) = some (.int .i64 d.1)) ∧ (∀ o, v.cell? ⟨wr.heap.size, o, none⟩ = V3.cell? ⟨wr.heap.size, o, none⟩) ∧ Below W2.heap.size V3 v) (by kernel_rfl) ⟨c1d, fun _ => rfl, (Below.refl _ _).drew⟩ (fun hHeld => ?_)
            have hB_d : Below V3.heap.size V3 V3.drew := (Below.refl _ _).drew
            generalize V3.drew = V3d at hHeld hB_d ⊢
            refine tz 0 rfl hHeld ?_
            try simp only [PT]
            refine tz 1 rfl hHeld ?_
            try simp only [PT]
            refine tz 2 rfl hHeld ?_
            try simp only [PT]
            refine tz 3 rfl hHeld ?_
            try simp only [PT]
            refine tz 4 rfl hHeld ?_
            try simp only [PT]
            refine tz 5 rfl hHeld ?_
            try simp only [PT]
            refine tz 6 rfl hHeld ?_
            try simp only [PT]
            refine tz 7 rfl hHeld ?_
            try simp only [PT]
            refine tz 8 rfl hHeld ?_
            try simp only [PT]
            refine tz 9 rfl hHeld ?_
            try simp only [PT]
            have hown3 := Lib.hid (own_below H3.out.b hB_d)
            have hH3d := Lib.hid (Ow2.below H3.out hB_d)
            have hlow3d := Lib.hid hHeld.2.2
            have heq3 := Lib.hid hHeld.2.1
            have hz3d := hB_d.size
            have hS : ∀ v, (∀ o, v.cell? ⟨wr.heap.size, o, none⟩ = V3.cell? ⟨wr.heap.size, o, none⟩) → Below W2.heap.size V3 v → ((v.cell? (ad.add (x.1 * 2)) = some (.int .i64 d.1)) ∧ (∀ o, v.cell? ⟨wr.heap.size, o, none⟩ = V3.cell? ⟨wr.heap.size, o, none⟩) ∧ Below W2.heap.size V3 v) := fun v h1 h2 => ⟨(h2.cell (by exact hlb)).trans c1d, h1, h2⟩
            have HS := Lib.hid hS
            clear c1d hS
            refine rd 10 rfl fun K hK => ?_
            go_simp
            refine hK.out _ _ (HS.out _ (fun o => (((Below.refl V3d.heap.size V3d).alloc (Nat.le_refl _) _).cell (by show wr.heap.size < V3d.heap.size; omega)).trans (heq3.out o)) (hlow3d.out.alloc (by omega) _)) (fun hHeld => ?_)
            clear hK K
            try simp only [PT]
            refine rd 11 rfl fun K hK => ?_
            refine step_push2 _ (by rfl) _ _ 88 (by rfl) (W2.heap.size) 56 (.agg #[.int .i64 0, .int .i64 0]) 2 16 Tryz.underlying88 (by kernel_rfl) (by rfl) (by omega) _ _ _ (by rfl) hown3.out _ (by rfl) (by rfl) (by simp [Value.oneCell']) (by unfold maxLen; omega) (by omega) (by omega) ?_
            intro g_X c_X W5 hown_X hlow_X hlt_X hgr_X hat_X
            refine hK.out _ _ (HS.out _ (fun o => (World.cell?_of_block (hgr_X.block wr.heap.size (by omega) (fun e => by have := HL2.out _ e.symm; omega))).trans (heq3.out o)) (hlow3d.out.trans hlow_X)) (fun hHeld => ?_)
            clear hK K
            try simp only [PT]
            refine rd 12 rfl fun K hK => ?_
            go_simp
            refine hK.out _ _ hHeld (fun hHeld => ?_)
            clear hK K
            try simp only [PT]
            refine wpAnyH_done (by kernel_rfl) ?_ _
            refine NoPanic.normal ?_
            have H5 := Lib.hid (hH3d.out.swap.push hown_X hgr_X hat_X).swap
            have HLow5 := Lib.hid (low_step (low_step HLow4.out (Nat.le_refl _) hlow3d.out) (Nat.le_refl _) hlow_X)
            clear hHeld hown_X hlow_X hgr_X hat_X
            go_wp2_with fail
            go_roundg k
            case measure => omega
            case rel =>
              refine ⟨i + 1, by first | rfl | (rw [E3.out]; rfl), by omega, Lib.hid ?_, HLow5⟩
              have h5 := H5.out
              unfold RRows
              have e1 : [x].map (spR ds) = [(d.1, (x.2 : Int))] := by rw [List.map_cons, List.map_nil, Hsp.out]
              have e2 : [x].map (mkR rate) = [true] := by rw [List.map_cons, List.map_nil, hmk.out]
              rw [htake.out, List.map_append, e2, List.map_append, List.filter_append, List.filter_cons_of_pos (by rw [hmk.out]), List.filter_nil, List.map_append, e1, itemCells_append, List.length_append, List.length_append, List.length_take, Nat.min_eq_left (by omega)]
              exact h5
          ·
            have m1 : ((x.2 : Int) % rate == 0) = false := by rw [beq_eq_false_iff_ne]; exact hm
            have hmk : Hid (mkR rate x = false) := Lib.hid (decide_eq_false hm)
            clear hm
            obtain ⟨c_kg1, f_kg1, l_kg1_wr⟩ := f3 kg1
            go_wp2_with (
              at_builtin
              (refine wpList_push2 _ (by rfl) _ _ 73 (by rfl) (W2.heap.size) 4 (.bool false) 1 1 Tryz.underlying73 (by kernel_rfl) (by rfl) (by omega) _ _ _ (by rfl) (own_below HRow.out.a (by (repeat' first | with_reducible assumption | with_reducible exact Below.refl _ _ | with_reducible refine Below.alloc ?_ ?_ _ | with_reducible refine Below.setCell ?_ ?_ _ | with_reducible refine below_drewN ?_ _ | with_reducible refine Below.drew ?_ | exact Nat.le_refl _ | ((try dsimp only); omega) | (simp only [siz_alloc, siz_set]; omega)))) _ (by rfl) (by rw [siz_alloc]; rfl) (by simp [Value.oneCell']) (by unfold maxLen; omega) (by omega) (by simp only [siz_alloc, siz_set]; omega) ?_
               intro g_W c_W W3 hown_W hlow_W hlt_W hgr_W hat_W))
            go_wp2_with fail
            go_roundg k
            case measure => omega
            case rel =>
              refine ⟨i + 1, by first | rfl | (rw [E3.out]; rfl), by omega, Lib.hid ?_, Lib.hid (low_step HB.out (Nat.le_refl _) (Below.trans (by (repeat' first | with_reducible assumption | with_reducible exact Below.refl _ _ | with_reducible refine Below.alloc ?_ ?_ _ | with_reducible refine Below.setCell ?_ ?_ _ | with_reducible refine below_drewN ?_ _ | with_reducible refine Below.drew ?_ | exact Nat.le_refl _ | ((try dsimp only); omega) | (simp only [siz_alloc, siz_set]; omega))) hlow_W))⟩
              have h3 := (HRow.out.below (show Below wr.heap.size wr _ by (repeat' first | with_reducible assumption | with_reducible exact Below.refl _ _ | with_reducible refine Below.alloc ?_ ?_ _ | with_reducible refine Below.setCell ?_ ?_ _ | with_reducible refine below_drewN ?_ _ | with_reducible refine Below.drew ?_ | exact Nat.le_refl _ | ((try dsimp only); omega) | (simp only [siz_alloc, siz_set]; omega)))).push hown_W hgr_W hat_W
              unfold RRows
              rw [htake.out, List.map_append, List.map_append, List.filter_append, List.filter_cons_of_neg (by rw [hmk.out]; decide), List.filter_nil, List.append_nil, List.length_append, List.length_take, Nat.min_eq_left (by omega), List.map_cons, hmk.out]
              exact h3
        ·
          have hi : i = R.length := by omega
          have n1 : decide ((i : Int) < (R.length : Int)) = false := by simpa using hlt
          have hrow := Hrow.out
          rw [hi, List.take_length] at hrow
          have HRM := Lib.hid hrow
          have hBw := below_step HX2.out HB.out
          have hA := HA1.out.below hBw
          have kp := keep_blk hBw KP.out
          have HBW := Lib.hid (below_step HB1.out hBw)
          have HDW := Lib.hid (Ow2.below HRW2.out HB.out)
          have hdl : (docsM ds).length = ds.length := by unfold docsM; simp
          have hHN := HN.out
          have Rt : Hid (Rk wr 1 u11 (txt ds).length ((txt ds).map strOf)) := Lib.hid (by rw [HTL.out]; exact Rk.of_own HDW.out.a)
          clear hrow Hrow hBw HB
          have hB := Below.refl wr.heap.size wr
          obtain ⟨c_kp, f_kp, l_kp_wr⟩ := f3 kp
          go_wp2_with fail
          refine (rowsRight_calls _ (txt ds) (by rw [HTL.out]; exact HN.out) _ Rt.out).mono ?_
          rintro e_W5 W5 ⟨rfl, hb_W5⟩
          replace hA := hA.below hb_W5
          replace hB := below_step hB hb_W5
          replace kp := keep_blk hb_W5 kp
          have z_W5 := hb_W5.size
          clear hb_W5 c_kp f_kp
          obtain ⟨c_kp, f_kp, l_kp_W5⟩ := f3 kp
          have hr := HR.out
          cases hrt : refRight (txt ds) with
          | false =>
            have hrf : r = false := by
              unfold vCheck at hr
              rw [if_pos ⟨HV.out, HRT.out.1, HRT.out.2⟩, hrt, if_neg (by decide)] at hr
              exact (Option.some.inj hr).symm
            subst hrf
            go_wp2_with fail
            go_ret
            exact ⟨rfl, below_step HBW.out hB⟩
          | true =>
            obtain ⟨a, ha, la, hcase⟩ := check_end root rate ds r hr ⟨HV.out, HRT.out.1, HRT.out.2⟩ hrt
            have HC := Lib.hid hcase
            clear hr hcase hrt
            go_wp2_with fail
            refine (lAll_calls _ a ha la _ hA).mono ?_
            rintro e_W6 W6 ⟨v6, rfl, hown6, hb_W6⟩
            replace hA := hA.below hb_W6
            replace hB := below_step hB hb_W6
            replace kp := keep_blk hb_W6 kp
            have z_W6 := hb_W6.size
            clear hb_W6 c_kp f_kp
            obtain ⟨c_kp, f_kp, l_kp_W6⟩ := f3 kp
            have HX6 := Lib.hid (Rx.of_own hown6)
            have HDB := Lib.hid ((Rx.of_own HDW.out.b).below hB)
            clear hown6
            go_wp2_with fail
            refine (eqItem_calls _ _ a (docsM ds) la (by omega) _ HX6.out (by rw [hdl]; exact HDB.out)).mono ?_
            rintro e_W7 W7 ⟨rfl, hb_W7⟩
            replace hA := hA.below hb_W7
            replace hB := below_step hB hb_W7
            replace kp := keep_blk hb_W7 kp
            have z_W7 := hb_W7.size
            clear hb_W7 c_kp f_kp
            obtain ⟨c_kp, f_kp, l_kp_W7⟩ := f3 kp
            rcases HC.out with ⟨e, rfl⟩ | ⟨e, b, hb, lb, hcase⟩
            ·
              rw [e]
              clear e HC
              go_wp2_with fail
              go_ret
              exact ⟨rfl, below_step HBW.out hB⟩
            rw [e]
            have HC2 := Lib.hid hcase
            clear e HC hcase
            go_wp2_with fail
            refine (wAll_calls _ b hb lb _ hA).mono ?_
            rintro e_W8 W8 ⟨v8, rfl, hown8, hb_W8⟩
            replace hA := hA.below hb_W8
            replace hB := below_step hB hb_W8
            replace kp := keep_blk hb_W8 kp
            have z_W8 := hb_W8.size
            clear hb_W8 c_kp f_kp
            obtain ⟨c_kp, f_kp, l_kp_W8⟩ := f3 kp
            have HX8 := Lib.hid (Rx.of_own hown8)
            clear hown8
            go_wp2_with fail
            refine (rowsSymbols_calls _ (txt ds) (by rw [HTL.out]; exact HN.out) H40.out _ (Rt.out.below hB)).mono ?_
            rintro e9 W9 ⟨v9, rfl, hown9, hb9⟩
            have HX9 := Lib.hid (HX8.out.below hb9)
            have HY9 := Lib.hid (Rx.of_own hown9)
            replace hA := hA.below hb9
            replace hB := below_step hB hb9
            replace kp := keep_blk hb9 kp
            clear hb9 hown9 c_kp f_kp
            obtain ⟨c_kp, f_kp, l_kp_W9⟩ := f3 kp
            have hsy : ((refSorted (txt ds)).map (symOf (txt ds))).length ≤ 50000 := by rw [List.length_map]; have := sorted_small (txt ds); omega
            have HY9' : Hid (Rx W9 1 v9 ((refSorted (txt ds)).map (symOf (txt ds))).length (((refSorted (txt ds)).map (symOf (txt ds))).map fun x => .int .i64 x)) := Lib.hid (by rw [List.length_map]; exact HY9.out)
            go_wp2_with fail
            refine (eqInt_calls _ _ b ((refSorted (txt ds)).map (symOf (txt ds))) lb hsy _ HX9.out HY9'.out).mono ?_
            rintro e_W10 W10 ⟨rfl, hb_W10⟩
            replace hA := hA.below hb_W10
            replace hB := below_step hB hb_W10
            replace kp := keep_blk hb_W10 kp
            have z_W10 := hb_W10.size
            clear hb_W10 c_kp f_kp
            obtain ⟨c_kp, f_kp, l_kp_W10⟩ := f3 kp
            rcases HC2.out with ⟨e, rfl⟩ | ⟨e, c, hcc, lc, hcase⟩
            ·
              unfold symsM at e
              rw [e]
              clear e HC2
              go_wp2_with fail
              go_ret
              exact ⟨rfl, below_step HBW.out hB⟩
            unfold symsM at e
            rw [e]
            have HC3 := Lib.hid hcase
            clear e HC2 hcase
            go_wp2_with fail
            refine (bAll_calls _ c hcc lc _ hA).mono ?_
            rintro e_W11 W11 ⟨v11, rfl, hown11, hb_W11⟩
            replace hA := hA.below hb_W11
            replace hB := below_step hB hb_W11
            replace kp := keep_blk hb_W11 kp
            have z_W11 := hb_W11.size
            clear hb_W11 c_kp f_kp
            obtain ⟨c_kp, f_kp, l_kp_W11⟩ := f3 kp
            have HX11 := Lib.hid (Rx.of_own hown11)
            have HRA : Hid (Rx W11 1 u14 (marksM rate (txt ds)).length ((marksM rate (txt ds)).map fun x => .bool x)) := Lib.hid (by
              unfold marksM; rw [← HRR.out, List.length_map]; exact (Rx.of_own HRM.out.a).below hB)
            have hml : (marksM rate (txt ds)).length ≤ 50000 := by unfold marksM; rw [List.length_map]; have := sorted_small (txt ds); omega
            clear hown11
            go_wp2_with fail
            refine (eqBool_calls _ _ c (marksM rate (txt ds)) lc hml _ HX11.out HRA.out).mono ?_
            rintro e_W12 W12 ⟨rfl, hb_W12⟩
            replace hA := hA.below hb_W12
            replace hB := below_step hB hb_W12
            replace kp := keep_blk hb_W12 kp
            have z_W12 := hb_W12.size
            clear hb_W12 c_kp f_kp
            obtain ⟨c_kp, f_kp, l_kp_W12⟩ := f3 kp
            rcases HC3.out with ⟨e, rfl⟩ | ⟨e, d, hdd, ld, hrr⟩
            ·
              rw [e]
              clear e HC3
              go_wp2_with fail
              go_ret
              exact ⟨rfl, below_step HBW.out hB⟩
            rw [e]
            have HC4 := Lib.hid hrr
            clear e HC3 hrr
            go_wp2_with fail
            refine (lAll_calls _ d hdd ld _ hA).mono ?_
            rintro e_W13 W13 ⟨v13, rfl, hown13, hb_W13⟩
            replace hA := hA.below hb_W13
            replace hB := below_step hB hb_W13
            replace kp := keep_blk hb_W13 kp
            have z_W13 := hb_W13.size
            clear hb_W13 c_kp f_kp
            obtain ⟨c_kp, f_kp, l_kp_W13⟩ := f3 kp
            have HX13 := Lib.hid (Rx.of_own hown13)
            have HRB : Hid (Rx W13 2 u13 (spotsM rate ds).length (itemCells (spotsM rate ds))) := Lib.hid (by
              unfold spotsM; rw [← HRR.out, List.length_map]; exact (Rx.of_own HRM.out.b).below hB)
            have hsl : (spotsM rate ds).length ≤ 50000 := by unfold spotsM; rw [List.length_map]; have h1 := sorted_small (txt ds); have h2 := List.length_filter_le (mkR rate) (refSorted (txt ds)); omega
            clear hown13
            go_wp2_with fail
            refine (eqItem_calls _ _ d (spotsM rate ds) ld hsl _ HX13.out HRB.out).mono ?_
            rintro e_W14 W14 ⟨rfl, hb_W14⟩
            replace hA := hA.below hb_W14
            replace hB := below_step hB hb_W14
            replace kp := keep_blk hb_W14 kp
            have z_W14 := hb_W14.size
            clear hb_W14 c_kp f_kp
            obtain ⟨c_kp, f_kp, l_kp_W14⟩ := f3 kp
            go_wp2_with fail
            go_ret
            exact ⟨congrArg (fun b => Ending.returned (.bool b)) HC4.out.symm, below_step HBW.out hB⟩
theorem check_calls (root rate : Int) (ds : Docs) (vl : Value) (r : Bool) (hr : vCheck s root rate ds = some r) (hn : ds.length ≤ 50000) (h40 : ∀ t, t ∈ txt ds → t.length ≤ 50000) (w : World) (hA : AP w ap s O) (hd : Rd2 w vl ds) :
    Calls Tryz.prog 20 #[ap, .int .i64 root, .int .i64 rate, vl] w fun e w' => e = .returned (.bool r) ∧ Below w.heap.size w w' := by
  by_cases hc : vIs s root = true ∧ 1 ≤ rate ∧ rate ≤ 16
  ·
    exact check_yes root rate ds vl r hr hc hn h40 w hA hd
  ·
    have : r = false := by
      unfold vCheck at hr
      rw [if_neg hc] at hr
      exact (Option.some.inj hr).symm
    rw [this]
    exact check_no root rate vl hc w hA
end
end Go.Proofs.YtpdpcgmkpgfblaaGreat
/- The first call of chapter 12's laws: its answer is yes. -/
namespace Go.Proofs.YtpdpcgmkpgfblaaGreat
set_option linter.unusedSimpArgs false
set_option linter.unusedVariables false
set_option linter.unnecessarySimpa false
open Go.RowKit
attribute [local go_sem ↓] Go.wp_at_zero Go.wp_at_succ
attribute [local go_sem] str_len
/-- What the model tells of the document ab. -/
def aliveV : Option (Bool × Int × Int × Int × Int) :=
  (bRows 2 (rowsM [(1, [97, 98])]) 0 ⟨Ar.new 2000, true, Parts.zero, 0⟩).bind fun b1 => (bTable (docsM [(1, [97, 98])]) b1).bind fun b2 => (bEnd b2).bind fun e =>
  (vNext e.2.2 e.1 0).bind fun n => (vCheck e.2.2 e.1 2 [(1, [97, 98])]).map fun c => (b1.ok && (b2.ok && (e.2.1 && (!decide (e.1 = 0) && (n.2 && c)))), vRows e.2.2 e.1, vDocs e.2.2 e.1, n.1, vRows e.2.2 0)
set_option maxRecDepth 1000000 in
theorem aliveV_eq : aliveV = some (true, 3, 1, 2, 0) := by decide +kernel
/-- One document in a block of its own. -/
theorem rd2_one {V : World} {g : Nat} {id : Int} {t : List UInt8} {T : TypeId} (hk : V.heap[g]? = some (.cells #[.int .i64 id, strOf t] T (0, 0))) : Rd2 V (.slice (some ⟨g, 0, none⟩) ([(id, t)] : List (Int × List UInt8)).length 1) [(id, t)] := by
  refine ⟨_, _, rfl, fun _ => ⟨_, rfl, lt_of hk, fun i d hd => ?_⟩⟩
  obtain rfl : i = 0 := by have := (List.getElem?_eq_some_iff.1 hd).1; simp at this; omega
  obtain rfl : (id, t) = d := by simpa using hd
  refine ⟨by rw [block_of_add]; exact lt_of hk, ?_, ?_⟩
  · rw [show (0 * 2 : Nat) = 0 from rfl, add_zero_off, cells_of hk]; rfl
  · rw [show (0 * 2 : Nat) = 0 from rfl, add_zero_off, cells_of hk]; rfl
set_option maxRecDepth 100000 in
set_option maxHeartbeats 2000000 in
theorem alive12_calls (w : World) : Calls Tryz.prog 10 #[] w fun e w' => e = .returned (.bool true) ∧ Below w.heap.size w w' := by
  have hm := aliveV_eq
  unfold aliveV at hm
  obtain ⟨b1, h1, hm⟩ := Option.bind_eq_some_iff.1 hm
  obtain ⟨b2, h2, hm⟩ := Option.bind_eq_some_iff.1 hm
  obtain ⟨⟨root, ok, s'⟩, h3, hm⟩ := Option.bind_eq_some_iff.1 hm
  obtain ⟨⟨n1, n2⟩, hn, hm⟩ := Option.bind_eq_some_iff.1 hm
  obtain ⟨c, hc, hm⟩ := Option.map_eq_some_iff.1 hm
  simp only [Prod.mk.injEq, Bool.and_eq_true, Bool.not_eq_true', decide_eq_false_iff_not] at hm
  obtain ⟨⟨o1, o2, rfl, hr0, rfl, rfl⟩, hrows, hdocs, rfl, hz⟩ := hm
  have hr : root ≠ 0 := hr0
  have H1 := Lib.hid h1; have H2 := Lib.hid h2; have H3 := Lib.hid h3; have Hn := Lib.hid hn; have Hc := Lib.hid hc; have O1 := Lib.hid o1; have O2 := Lib.hid o2; have Hr := Lib.hid hrows; have Hd := Lib.hid hdocs; have Hz := Lib.hid hz
  have d0 : (root != 0) = true := by simpa using hr
  clear h1 h2 h3 hn hc o1 o2 hrows hdocs hz hr0
  go_enter Tryz.func10, Tryz.ntmps10
  go_wp2_with fail
  refine calls_gen fun V hV_V => ?_
  have hB : Below w.heap.size w V := nB hV_V
  have z_V := zS hV_V
  clear hV_V
  refine (new_calls 2000 (by omega) (by omega) _).mono ?_
  rintro e1 W1 ⟨p, O, rfl, hA, hO, hb1⟩
  have hB1 := below_step hB hb1
  have hO2 : ∀ b, O b → w.heap.size ≤ b := fun b hb => Nat.le_trans hB.size (hO b hb)
  have HA := Lib.hid hA; have HB1 := Lib.hid hB1; have HO := Lib.hid hO2
  clear hA hO hb1 hB hB1 hO2
  go_wp2_with fail
  refine calls_gen fun V2 hV2 => ?_
  have hA2 : AP V2 (.pointer (some ⟨p, 0, none⟩)) (Ar.new 2000) O := by rw [hV2]; exact HA.out.alloc _
  have hk2 : V2.heap[W1.heap.size]? = some (.cells #[.int .i64 1, strOf [97, 98]] 51 (0, 0)) := by rw [hV2]; exact blk_new _ _ _ rfl
  have hB2 : Below w.heap.size w V2 := by rw [hV2]; exact HB1.out.alloc HB1.out.size _
  clear hV2
  have hnO : ¬ O W1.heap.size := HA.out.new (Nat.le_refl _)
  refine (build_calls 2 (by omega) (by omega) [(1, [97, 98])] ⟨W1.heap.size, 0, none⟩ 1 (by simp) (by decide) V2 (rd2_one hk2) hnO hA2 b1 b2 H1.out O1.out H2.out O2.out root s' H3.out).mono ?_
  rintro e3 W3 ⟨rfl, O3, hA3, hf3⟩
  have HA3 := Lib.hid hA3; have HB3 := Lib.hid (below_fr hB2 hf3 HO.out)
  clear hA3 hf3 hk2 hA2 hB2 hnO
  go_wp2_with fail
  refine (vNext_calls root 0 _ Hn.out _ HA3.out).mono ?_
  rintro e4 W4 ⟨rfl, hb4⟩
  have HA4 := Lib.hid (HA3.out.below hb4); have HB4 := Lib.hid (below_step HB3.out hb4)
  clear hb4
  go_wp2_with fail
  refine (vRows_calls root _ HA4.out).mono ?_
  rintro e5 W5 ⟨rfl, hb5⟩
  have HA5 := Lib.hid (HA4.out.below hb5); have HB5 := Lib.hid (below_step HB4.out hb5)
  clear hb5
  rw [Hr.out]
  go_wp2_with fail
  refine (vDocs_calls root _ HA5.out).mono ?_
  rintro e6 W6 ⟨rfl, hb6⟩
  have HA6 := Lib.hid (HA5.out.below hb6); have HB6 := Lib.hid (below_step HB5.out hb6)
  clear hb6
  rw [Hd.out]
  go_wp2_with fail
  refine calls_gen fun V7 hV7 => ?_
  have hA7 : AP V7 (.pointer (some ⟨p, 0, none⟩)) s' O3 := by rw [hV7]; exact HA6.out.alloc _
  have hk7 : V7.heap[W6.heap.size]? = some (.cells #[.int .i64 1, strOf [97, 98]] 51 (0, 0)) := by rw [hV7]; exact blk_new _ _ _ rfl
  have hB7 : Below w.heap.size w V7 := by rw [hV7]; exact HB6.out.alloc HB6.out.size _
  clear hV7
  refine (check_calls root 2 [(1, [97, 98])] _ true Hc.out (by simp) (by simp) _ hA7 (rd2_one hk7)).mono ?_
  rintro e8 W8 ⟨rfl, hb8⟩
  have HA8 := Lib.hid (hA7.below hb8); have HB8 := Lib.hid (below_step hB7 hb8)
  clear hb8 hA7 hk7 hB7
  go_wp2_with fail
  refine (vRows_calls 0 _ HA8.out).mono ?_
  rintro e9 W9 ⟨rfl, hb9⟩
  have HB9 := Lib.hid (below_step HB8.out hb9)
  rw [Hz.out]
  clear hb9
  go_wp2_with fail
  go_ret
  exact ⟨rfl, HB9.out⟩
end Go.Proofs.YtpdpcgmkpgfblaaGreat
