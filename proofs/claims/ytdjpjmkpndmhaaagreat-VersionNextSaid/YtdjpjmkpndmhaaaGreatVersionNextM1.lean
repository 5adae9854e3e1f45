/- Part 1 of what VersionNext needs: the walks of the program's functions, and plain facts. -/
import Derived.Test.YtdjpjmkpndmhaaaGreatCoreM8
/- VersionNext: from each row on one comes, byte by byte, to its document's beginning. -/
namespace Go.Proofs.YtdjpjmkpndmhaaaGreat
set_option linter.unusedSimpArgs false
set_option linter.unusedVariables false
set_option linter.unnecessarySimpa false
open Go.RowKit
attribute [local go_sem ↓] Go.wp_at_zero Go.wp_at_succ
attribute [local go_sem] str_len
theorem neqRow (a b : Int) (w : World) : (binOp BinOp.neq 47 (.agg #[.int .i64 a, .int .i64 b]) (.agg #[.int .i64 a, .int .i64 b])).run Tryz.prog w = .ok (.bool false) w := by
  have u3 := Tryz.underlying3
  have a3 := Tryz.isAgg3
  have z3 := Tryz.sizeOf3
  have hS : Tryz.prog.underlying 47 = some (.struct (Tryz.prog.fieldsOf 47)) := by kernel_rfl
  have hp : Tryz.prog.stoodInHeld 47 = false := by kernel_rfl
  rw [run_neq_struct, show (10000 : Nat) = 9999 + 1 from rfl, run_equalIn_agg w 9999 47 _ _ hS hp]
  simp only [Program.fieldsOf, Tryz.underlying47]
  go_simp
theorem rowGuard (xs ys : Array Value) (o1 o2 : Operand) (w : World) : (eqGuard BinOp.neq 47 o1 o2 (.agg xs) (.agg ys)).run Tryz.prog w = .ok () w := by
  have h : Tryz.prog.eqGuardType Tryz.prog.depth 47 = false := by kernel_rfl
  exact run_eqGuard_agg w _ _ _ _ _ _ h
set_option maxRecDepth 100000 in
set_option maxHeartbeats 8000000 in
theorem versionNext_walk (A : Option Addr) (cap : Nat) (ds : Docs) (rate : Int) (hl : ds.length ≤ maxLen) (hid : IdOk ds) (w : World) (h : Rd2 w (.slice A ds.length cap) ds) :
    Calls Tryz.prog 4 #[.slice A ds.length cap, .int .i64 rate] w fun e w' => e = .returned (.bool true) ∧ Below w.heap.size w w' := by
  have HK := Lib.hid h; clear h
  cases hf : few ds with
  | false =>
    have Hf := Lib.hid hf; clear hf
    go_enter Tryz.func4, Tryz.ntmps4
    go_wp2_with fail
    refine (few_calls _ ds hl _ HK.out).mono ?_
    rintro e0 W0 ⟨rfl, hb0⟩
    rw [Hf.out]
    have HB0 := Lib.hid hb0; clear hb0
    go_wp2_with fail
    refine (alive12_calls _).mono ?_
    rintro e1 W1 ⟨rfl, hb1⟩
    have HB1 := Lib.hid (below_step HB0.out hb1); clear hb1
    go_wp2_with fail
    go_ret
    exact ⟨rfl, HB1.out⟩
  | true =>
    obtain ⟨hR, htot, hl10⟩ := few_right hf hid
    have Hf := Lib.hid hf; clear hf
    by_cases hr1 : rate < 1
    · have d1 : decide (rate < 1) = true := by simpa using hr1
      clear htot hl10 hr1
      go_enter Tryz.func4, Tryz.ntmps4
      go_wp2_with fail
      refine (few_calls _ ds hl _ HK.out).mono ?_
      rintro e0 W0 ⟨rfl, hb0⟩
      rw [Hf.out]
      have HB0 := Lib.hid hb0; clear hb0
      go_wp2_with fail
      refine (alive12_calls _).mono ?_
      rintro e1 W1 ⟨rfl, hb1⟩
      have HB1 := Lib.hid (below_step HB0.out hb1); clear hb1
      go_wp2_with fail
      go_ret
      exact ⟨rfl, HB1.out⟩
    have d1 : decide (rate < 1) = false := by simpa using hr1
    by_cases hr2 : 16 < rate
    · have d2 : decide (16 < rate) = true := by simpa using hr2
      clear htot hl10 hr1 hr2
      go_enter Tryz.func4, Tryz.ntmps4
      go_wp2_with fail
      refine (few_calls _ ds hl _ HK.out).mono ?_
      rintro e0 W0 ⟨rfl, hb0⟩
      rw [Hf.out]
      have HB0 := Lib.hid hb0; clear hb0
      go_wp2_with fail
      refine (alive12_calls _).mono ?_
      rintro e1 W1 ⟨rfl, hb1⟩
      have HB1 := Lib.hid (below_step HB0.out hb1); clear hb1
      go_wp2_with fail
      go_ret
      exact ⟨rfl, HB1.out⟩
    have d2 : decide (16 < rate) = false := by simpa using hr2
    have HR := Lib.hid hR; have Htot := Lib.hid htot; have Hl10 := Lib.hid hl10; have Hr1 := Lib.hid hr1; have Hr2 := Lib.hid hr2
    clear hR htot hl10 hr1 hr2
    go_enter Tryz.func4, Tryz.ntmps4
    go_wp2_with fail
    refine (few_calls _ ds hl _ HK.out).mono ?_
    rintro e0 W0 ⟨rfl, hb0⟩
    rw [Hf.out]
    have HB0 := Lib.hid hb0; clear hb0
    go_wp2_with fail
    refine (alive12_calls _).mono ?_
    rintro e1 W1 ⟨rfl, hb1⟩
    have HB1 := Lib.hid (below_step HB0.out hb1); clear hb1
    go_wp2_with fail
    refine (new_calls 5000 (by omega) (by omega) _).mono ?_
    rintro e2 W2 ⟨p, O, rfl, hA, hO, hb2⟩
    have HA2 := Lib.hid hA; have HB2 := Lib.hid (below_step HB1.out hb2)
    have HO := Lib.hid (fun b hb => Nat.le_trans HB1.out.size (hO b hb) : ∀ b, O b → w.heap.size ≤ b)
    clear hA hO hb2
    go_wp2_with fail
    refine (bldN_calls _ 5000 (by omega) (by omega) rate (by have := Hr1.out; omega) (by have := Hr2.out; omega) ds HR.out Htot.out A cap w _ HB2.out HK.out HO.out HA2.out).mono ?_
    rintro e3 W3 ⟨root, s', O', H, rfl, hA3, hB3, hI, hv⟩
    have HA3 := Lib.hid hA3; have HB3 := Lib.hid hB3; have HI := Lib.hid hI; have HV := Lib.hid hv
    have HT := Lib.hid (hv.told hI HR.out)
    clear hA3 hB3 hI hv
    go_wp2_with fail
    refine (texts_calls _ ds (by have := Hl10.out; omega) _ (HK.out.below HB3.out)).mono ?_
    rintro e4 W4 ⟨v4, rfl, hown4, hb4⟩
    have HR4 : Hid (Rk W4 1 v4 (txt ds).length ((txt ds).map strOf)) := Lib.hid (by rw [List.length_map]; exact Rk.of_own hown4)
    have HA4 := Lib.hid (HA3.out.below hb4); have HB4 := Lib.hid (below_step HB3.out hb4)
    obtain ⟨-, A4, c4, rfl, -⟩ := Rk.of_own hown4
    clear hown4 hb4
    go_wp2_with fail
    refine (sorted_calls _ (txt ds) (by rw [List.length_map]; have := Hl10.out; omega) _ HR4.out).mono ?_
    rintro e5 W5 ⟨v5, rfl, hown5, hb5⟩
    have HA5 := Lib.hid (HA4.out.below hb5); have HB5 := Lib.hid (below_step HB4.out hb5)
    obtain ⟨R, hRR⟩ : ∃ R, refSorted (txt ds) = R := ⟨_, rfl⟩
    rw [hRR] at hown5
    obtain ⟨-, A5, c5, rfl, hx5⟩ := Rk.of_own hown5
    have HX := Lib.hid hx5; have HRR := Lib.hid hRR
    have hRl : (R.length : Int) = (tot ds : Int) + (ds.length : Int) := by
      rw [← hRR]
      have := rows_tot HR.out
      rw [rowsM_length] at this
      omega
    have HRl := Lib.hid hRl
    clear hown5 hb5 hx5 hRR hRl
    go_wp2_with fail
    refine (vRows_calls root _ HA5.out).mono ?_
    rintro e6 W6 ⟨rfl, hb6⟩
    rw [HT.out.rows, ← HRl.out]
    have HB6 := Lib.hid hb6; clear hb6
    go_wp2_with fail
    go_loopg [53] R.length (fun k p wr => ∃ i : Nat, p = .int .i64 (i : Int) ∧ i + k = R.length ∧ Hid (Below W5.heap.size W5 wr))
    case atStart => exact ⟨0, rfl, by omega, HB6⟩
    case round =>
      obtain ⟨i, rfl, hk, HB⟩ := hrel
      by_cases hlt : i < R.length
      · obtain ⟨k, rfl⟩ : ∃ k, gk = k + 1 := ⟨gk - 1, by omega⟩
        have n1 : decide ((i : Int) < (R.length : Int)) = true := by simpa using hlt
        have n2 : (i : Int) < (R.length : Int) := by omega
        obtain ⟨r, hr⟩ := at_some hlt
        obtain ⟨t, ht, hrt⟩ := sorted_valid (HRR.out ▸ List.mem_of_getElem? hr)
        have h40 : t.length ≤ 40 := by have := (right_len HR.out.right).2 r.1; rwa [show (txt ds).getD r.1 [] = t by rw [List.getD, ht]; rfl] at this
        have hat : rowAt ds r.1 r.2 = i := row_place HR.out (by rw [HRR.out]; exact hr)
        have e3 : wrap64 ((i : Int) + 1) = (i : Int) + 1 := IntWalk.wrap64_in _ (by have := HRl.out; have := Htot.out; have := Hl10.out; omega)
        have Ht := Lib.hid ht; have Hrt := Lib.hid hrt; have H40 := Lib.hid h40; have Hr := Lib.hid hr; have Hat := Lib.hid hat; have HE3 := Lib.hid e3; have Hlt := Lib.hid hlt
        clear ht hrt h40 hr hat e3 hlt
        go_wp2_with fail
        go_loopg [10, 11] r.2 (fun k a n wi => ∃ m : Nat, n = .int .i64 (m : Int) ∧ a = .int .i64 ((rowAt ds r.1 (r.2 - m) : Nat) : Int) ∧ m + k = r.2 ∧ Hid (Below W5.heap.size W5 wi))
        case atStart => exact ⟨0, rfl, by rw [Nat.sub_zero, Hat.out], by omega, HB⟩
        case round =>
          obtain ⟨m, rfl, rfl, hm, HBi⟩ := hrel
          have hrl := row_lt HR.out Ht.out (show r.2 - m ≤ t.length by have := Hrt.out; omega)
          rw [HRR.out] at hrl
          by_cases hz : gk = 0
          · obtain rfl : m = r.2 := by omega
            have hs := vnext_stop HI.out HV.out HR.out Ht.out
            have ha := row_there HR.out Ht.out (Nat.zero_le _)
            rw [HRR.out] at ha
            rw [Nat.sub_self] at hrl ⊢
            obtain ⟨b, hb⟩ : ∃ b, rowAt ds r.1 0 = b := ⟨_, rfl⟩
            rw [hb] at hs ha hrl ⊢
            obtain ⟨g5, cs5, T5, rfl, kg, hc5⟩ := HX.out (by omega)
            have q1 : cs5[i * 2]? = some (.int .i64 (r.1 : Int)) := (hc5 _ (by have := Hlt.out; omega)).trans (rowCells_at Hr.out).1
            have q2 : cs5[i * 2 + 1]? = some (.int .i64 (r.2 : Int)) := (hc5 _ (by have := Hlt.out; omega)).trans (rowCells_at Hr.out).2
            have q3 : cs5[b * 2]? = some (.int .i64 (r.1 : Int)) := (hc5 _ (by omega)).trans (rowCells_at ha).1
            have q4 : cs5[b * 2 + 1]? = some (.int .i64 (0 : Int)) := (hc5 _ (by omega)).trans (rowCells_at ha).2
            have n3 : (b : Int) < (R.length : Int) := by omega
            have Hs := Lib.hid hs
            clear hs ha hb hc5 hrl hm hz
            go_wp2_with fail
            refine (vNext_calls root (b : Int) _ Hs.out _ (HA5.out.below HBi.out)).mono ?_
            rintro e7 W7 ⟨rfl, hb7⟩
            have HB7 := Lib.hid (below_step HBi.out hb7)
            clear hb7
            replace kg := keep_blk HB7.out kg
            obtain ⟨c_kg, f_kg, l_kg_W7⟩ := f3 kg
            go_wp2_with fail
            have s1 := neqRow (r.1 : Int) 0
            have s2 := rowGuard
            refine wp_region_noPanic ?_
            refine wp_region_held_drew (S := fun v => Below W7.heap.size W7 v ∧ (W7.heap.size ≤ v.heap.size) ∧ ∀ b o, b < W7.heap.size → v.cell? ⟨b, o, none⟩ = W7.cell? ⟨b, o, none⟩) (by kernel_rfl) (HeldB.start W7) (fun hHeld => ?_)
            have hB_d : Below W7.heap.size W7 W7.drew := (Below.refl _ _).drew
            generalize W7.drew = W7d at hHeld hB_d ⊢
            refine tz 0 rfl hHeld ?_
            try simp only [PT]
            refine tz 1 rfl hHeld ?_
            try simp only [PT]
            refine tz 2 rfl hHeld ?_
            try simp only [PT]
            refine tz 3 rfl hHeld ?_
            try simp only [PT]
            refine tz 4 rfl hHeld ?_
            try simp only [PT]
            refine tz 5 rfl hHeld ?_
            try simp only [PT]
            refine tz 6 rfl hHeld ?_
            try simp only [PT]
            refine tz 7 rfl hHeld ?_
            try simp only [PT]
            refine tz 8 rfl hHeld ?_
            try simp only [PT]
            refine tz 9 rfl hHeld ?_
            try simp only [PT]
            refine tz 10 rfl hHeld ?_
            try simp only [PT]
            refine tz 11 rfl hHeld ?_
            try simp only [PT]
            refine tz 12 rfl hHeld ?_
            try simp only [PT]
            refine tz 13 rfl hHeld ?_
            try simp only [PT]
            refine tz 14 rfl hHeld ?_
            try simp only [PT]
            refine tz 15 rfl hHeld ?_
            try simp only [PT]
            refine tz 16 rfl hHeld ?_
            try simp only [PT]
            refine tz 17 rfl hHeld ?_
            try simp only [PT]
            refine tz 18 rfl hHeld ?_
            try simp only [PT]
            refine tz 19 rfl hHeld ?_
            try simp only [PT]
            refine wpAnyH_done (by kernel_rfl) ?_ _
            refine NoPanic.normal ?_
            have HBF := Lib.hid (below_step HB7.out hHeld.1)
            have e3 := HE3.out
            have hi2 : i + 1 + k = R.length := by omega
            clear hHeld hB_d c_kg f_kg kg s1 s2 q1 q2 q3 q4
            go_wp2_with fail
            go_roundg k
            case measure => omega
            case rel => exact ⟨i + 1, by first | rfl | (rw [e3]; rfl), hi2, HBF⟩
          · obtain ⟨k2, rfl⟩ : ∃ k2, gk = k2 + 1 := ⟨gk - 1, by omega⟩
            obtain ⟨b, hb⟩ : ∃ b, r.2 - m = b + 1 := ⟨r.2 - m - 1, by omega⟩
            have hs := vnext_step HI.out HV.out HR.out Ht.out (show b < t.length by have := Hrt.out; omega)
            have hl2 := row_lt HR.out Ht.out (show b ≤ t.length by have := Hrt.out; omega)
            rw [HRR.out] at hl2
            rw [hb]
            have hb2 : r.2 - (m + 1) = b := by omega
            have Hb2 := Lib.hid hb2
            have m40 : m < 40 := by have := Hrt.out; have := H40.out; omega
            have c1 : decide (((rowAt ds r.1 b : Nat) : Int) < 0) = false := by simp
            have c2 : decide ((R.length : Int) ≤ ((rowAt ds r.1 b : Nat) : Int)) = false := by simp; omega
            have c3 : decide ((40 : Int) < (m : Int)) = false := by simp; omega
            have e4 : wrap64 ((m : Int) + 1) = (m : Int) + 1 := IntWalk.wrap64_in _ (by omega)
            have Hs := Lib.hid hs; have hm2 : m + 1 + k2 = r.2 := by omega
            clear hs hb hb2 hz hm hrl
            go_wp2_with fail
            refine (vNext_calls root _ _ Hs.out _ (HA5.out.below HBi.out)).mono ?_
            rintro e7 W7 ⟨rfl, hb7⟩
            have HB7 := Lib.hid (below_step HBi.out hb7)
            clear hb7
            go_wp2_with fail
            go_roundg k2
            case measure => omega
            case rel => exact ⟨m + 1, by first | rfl | (rw [e4]; rfl), by rw [Hb2.out], hm2, HB7⟩
      · have n1 : decide ((i : Int) < (R.length : Int)) = false := by simpa using hlt
        have hstop := vnext_over HI.out HV.out HR.out
        rw [HRR.out] at hstop
        have Hs := Lib.hid hstop; clear hstop
        go_wp2_with fail
        refine (vNext_calls root (R.length : Int) _ Hs.out _ (HA5.out.below HB.out)).mono ?_
        rintro e7 W7 ⟨rfl, hb7⟩
        have HB7 := Lib.hid (below_step HB5.out (below_step HB.out hb7))
        clear hb7
        go_wp2_with fail
        go_ret
        exact ⟨rfl, HB7.out⟩
end Go.Proofs.YtdjpjmkpndmhaaaGreat
