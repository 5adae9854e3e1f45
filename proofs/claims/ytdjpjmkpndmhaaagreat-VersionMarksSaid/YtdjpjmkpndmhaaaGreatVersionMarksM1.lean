/- Part 1 of what VersionMarks needs: the walks of the program's functions, and plain facts. -/
import Derived.Test.YtdjpjmkpndmhaaaGreatCoreM8
/- VersionMarks: the marked rows of a version are those whose place the rate divides. -/
namespace Go.Proofs.YtdjpjmkpndmhaaaGreat
set_option linter.unusedSimpArgs false
set_option linter.unusedVariables false
set_option linter.unnecessarySimpa false
open Go.RowKit
attribute [local go_sem ↓] Go.wp_at_zero Go.wp_at_succ
attribute [local go_sem] str_len
set_option maxRecDepth 100000 in
set_option maxHeartbeats 8000000 in
theorem versionMarks_walk (A : Option Addr) (cap : Nat) (ds : Docs) (rate : Int) (hl : ds.length ≤ maxLen) (hid : IdOk ds) (w : World) (h : Rd2 w (.slice A ds.length cap) ds) :
    Calls Tryz.prog 6 #[.slice A ds.length cap, .int .i64 rate] w fun e w' => e = .returned (.bool true) ∧ Below w.heap.size w w' := by
  have HK := Lib.hid h; clear h
  cases hf : few ds with
  | false =>
    have Hf := Lib.hid hf; clear hf
    go_enter Tryz.func6, Tryz.ntmps6
    go_wp2_with fail
    refine (few_calls _ ds hl _ HK.out).mono ?_
    rintro e0 W0 ⟨rfl, hb0⟩
    rw [Hf.out]
    have HB0 := Lib.hid hb0; clear hb0
    go_wp2_with fail
    refine (alive12_calls _).mono ?_
    rintro e1 W1 ⟨rfl, hb1⟩
    have HB1 := Lib.hid (below_step HB0.out hb1); clear hb1
    go_wp2_with fail
    go_ret
    exact ⟨rfl, HB1.out⟩
  | true =>
    obtain ⟨hR, htot, hl10⟩ := few_right hf hid
    have Hf := Lib.hid hf; clear hf
    by_cases hz : ds.length = 0
    · have d0 : ((ds.length : Int) == 0) = true := by rw [hz]; rfl
      clear hz htot hl10
      go_enter Tryz.func6, Tryz.ntmps6
      go_wp2_with fail
      refine (few_calls _ ds hl _ HK.out).mono ?_
      rintro e0 W0 ⟨rfl, hb0⟩
      rw [Hf.out]
      have HB0 := Lib.hid hb0; clear hb0
      go_wp2_with fail
      refine (alive12_calls _).mono ?_
      rintro e1 W1 ⟨rfl, hb1⟩
      have HB1 := Lib.hid (below_step HB0.out hb1); clear hb1
      go_wp2_with fail
      go_ret
      exact ⟨rfl, HB1.out⟩
    have d0 : ((ds.length : Int) == 0) = false := by rw [beq_eq_false_iff_ne]; omega
    by_cases hr1 : rate < 1
    · have d1 : decide (rate < 1) = true := by simpa using hr1
      clear htot hl10 hr1 hz
      go_enter Tryz.func6, Tryz.ntmps6
      go_wp2_with fail
      refine (few_calls _ ds hl _ HK.out).mono ?_
      rintro e0 W0 ⟨rfl, hb0⟩
      rw [Hf.out]
      have HB0 := Lib.hid hb0; clear hb0
      go_wp2_with fail
      refine (alive12_calls _).mono ?_
      rintro e1 W1 ⟨rfl, hb1⟩
      have HB1 := Lib.hid (below_step HB0.out hb1); clear hb1
      go_wp2_with fail
      go_ret
      exact ⟨rfl, HB1.out⟩
    have d1 : decide (rate < 1) = false := by simpa using hr1
    by_cases hr2 : 16 < rate
    · have d2 : decide (16 < rate) = true := by simpa using hr2
      clear htot hl10 hr1 hr2 hz
      go_enter Tryz.func6, Tryz.ntmps6
      go_wp2_with fail
      refine (few_calls _ ds hl _ HK.out).mono ?_
      rintro e0 W0 ⟨rfl, hb0⟩
      rw [Hf.out]
      have HB0 := Lib.hid hb0; clear hb0
      go_wp2_with fail
      refine (alive12_calls _).mono ?_
      rintro e1 W1 ⟨rfl, hb1⟩
      have HB1 := Lib.hid (below_step HB0.out hb1); clear hb1
      go_wp2_with fail
      go_ret
      exact ⟨rfl, HB1.out⟩
    have d2 : decide (16 < rate) = false := by simpa using hr2
    have HR := Lib.hid hR; have Htot := Lib.hid htot; have Hl10 := Lib.hid hl10; have Hr1 := Lib.hid hr1; have Hr2 := Lib.hid hr2
    clear hR htot hl10 hr1 hr2 hz
    go_enter Tryz.func6, Tryz.ntmps6
    go_wp2_with fail
    refine (few_calls _ ds hl _ HK.out).mono ?_
    rintro e0 W0 ⟨rfl, hb0⟩
    rw [Hf.out]
    have HB0 := Lib.hid hb0; clear hb0
    go_wp2_with fail
    refine (alive12_calls _).mono ?_
    rintro e1 W1 ⟨rfl, hb1⟩
    have HB1 := Lib.hid (below_step HB0.out hb1); clear hb1
    go_wp2_with fail
    refine (new_calls 5000 (by omega) (by omega) _).mono ?_
    rintro e2 W2 ⟨p, O, rfl, hA, hO, hb2⟩
    have HA2 := Lib.hid hA; have HB2 := Lib.hid (below_step HB1.out hb2)
    have HO := Lib.hid (fun b hb => Nat.le_trans HB1.out.size (hO b hb) : ∀ b, O b → w.heap.size ≤ b)
    clear hA hO hb2
    go_wp2_with fail
    refine (bldN_calls _ 5000 (by omega) (by omega) rate (by have := Hr1.out; omega) (by have := Hr2.out; omega) ds HR.out Htot.out A cap w _ HB2.out HK.out HO.out HA2.out).mono ?_
    rintro e3 W3 ⟨root, s', O', H, rfl, hA3, hB3, hI, hv⟩
    have HA3 := Lib.hid hA3; have HB3 := Lib.hid hB3; have HI := Lib.hid hI; have HV := Lib.hid hv
    have HT := Lib.hid (hv.told hI HR.out)
    clear hA3 hB3 hI hv
    go_wp2_with fail
    refine (vOf_calls root _ HA3.out).mono ?_
    rintro e4 W4 ⟨rfl, hb4⟩
    rw [vr_is HI.out HV.out HR.out]
    have HA4 := Lib.hid (HA3.out.below hb4); have HB4 := Lib.hid (below_step HB3.out hb4)
    clear hb4
    unfold Parts.val
    go_wp2_with fail
    refine calls_gen fun V4 hV4 => ?_
    have hbv : Below W4.heap.size W4 V4 := by rw [hV4]; exact below_box _ _
    have kp : V4.heap[W4.heap.size]? = some (.cells #[.int .i64 (vOf s' root).wave, .int .i64 (vOf s' root).marks, .int .i64 (vOf s' root).spots, .int .i64 (vOf s' root).table] 30 (0, 0)) := by rw [hV4]; exact blk_new _ _ _ rfl
    have HAV := Lib.hid (HA4.out.below hbv); have HBV := Lib.hid (below_step HB4.out hbv); have KP := Lib.hid kp
    clear hV4 hbv kp
    refine (texts_calls _ ds (by have := Hl10.out; omega) _ (HK.out.below HBV.out)).mono ?_
    rintro e5 W5 ⟨v5, rfl, hown5, hb5⟩
    have HR5 : Hid (Rk W5 1 v5 (txt ds).length ((txt ds).map strOf)) := Lib.hid (by rw [List.length_map]; exact Rk.of_own hown5)
    obtain ⟨-, A5, c5, rfl, -⟩ := Rk.of_own hown5
    have HB5 := Lib.hid hb5
    clear hown5 hb5
    go_wp2_with fail
    refine (sorted_calls _ (txt ds) (by rw [List.length_map]; have := Hl10.out; omega) _ HR5.out).mono ?_
    rintro e6 W6 ⟨v6, rfl, hown6, hb6⟩
    have hb56 := below_step HB5.out hb6
    have HA6 := Lib.hid (HAV.out.below hb56); have HB6 := Lib.hid (below_step HBV.out hb56)
    have KP6 := Lib.hid (keep_blk hb56 KP.out)
    obtain ⟨R, hRR⟩ : ∃ R, refSorted (txt ds) = R := ⟨_, rfl⟩
    rw [hRR] at hown6
    obtain ⟨-, A6, c6, rfl, hx6⟩ := Rk.of_own hown6
    have HX := Lib.hid hx6; have HRR := Lib.hid hRR
    have HRl : Hid (R.length ≤ 500) := Lib.hid (by rw [← hRR]; exact sorted_small _)
    clear hown6 hb6 hx6 hRR hb56
    go_wp2_with fail
    go_loopg [10, 62] R.length (fun k c p wr => ∃ i N : Nat, c = .int .i64 (N : Int) ∧ p = .int .i64 (i : Int) ∧ i + k = R.length ∧ Hid (N = (R.take i).countP (mkR rate)) ∧ Hid (Below W6.heap.size W6 wr))
    case atStart => exact ⟨0, 0, rfl, rfl, by omega, Lib.hid rfl, Lib.hid (Below.refl _ _)⟩
    case round =>
      obtain ⟨i, N, rfl, rfl, hk, HN, HB⟩ := hrel
      have kp := keep_blk HB.out KP6.out
      by_cases hlt : i < R.length
      · obtain ⟨k, rfl⟩ : ∃ k, gk = k + 1 := ⟨gk - 1, by omega⟩
        have n1 : decide ((i : Int) < (R.length : Int)) = true := by simpa using hlt
        have n2 : (i : Int) < (R.length : Int) := by omega
        obtain ⟨r, hr⟩ := at_some hlt
        have hr' := hr
        rw [← HRR.out] at hr'
        obtain ⟨g6, cs6, T6, rfl, kg, hc6⟩ := HX.out (by omega)
        replace kg := keep_blk HB.out kg
        have q1 : cs6[i * 2]? = some (.int .i64 (r.1 : Int)) := (hc6 _ (by omega)).trans (rowCells_at hr).1
        have q2 : cs6[i * 2 + 1]? = some (.int .i64 (r.2 : Int)) := (hc6 _ (by omega)).trans (rowCells_at hr).2
        have HG := Lib.hid (marks_get HI.out HV.out HR.out hr')
        have e3 : wrap64 ((i : Int) + 1) = (i : Int) + 1 := IntWalk.wrap64_in _ (by have := HRl.out; omega)
        have HE3 := Lib.hid e3; have Hr := Lib.hid hr; have Hlt := Lib.hid hlt
        clear hr hr' hc6 e3
        obtain ⟨c_kp, f_kp, l_kp_wr⟩ := f3 kp
        obtain ⟨c_kg, f_kg, l_kg_wr⟩ := f3 kg
        go_wp2_with fail
        refine calls_gen fun V7 hV7 => ?_
        have hb7 : Below wr.heap.size wr V7 := by rw [hV7]; exact below_box _ _
        have kr : V7.heap[wr.heap.size]? = some (.cells #[.int .i64 (r.1 : Int), .int .i64 (r.2 : Int)] 47 (0, 0)) := by rw [hV7]; exact blk_new _ _ _ rfl
        have HB7 := Lib.hid (below_step HB.out hb7)
        have KR := Lib.hid kr
        clear hV7 hb7 c_kp f_kp c_kg f_kg kg q1 q2 kp kr
        refine (bGet_calls _ _ _ HG.out _ (HA6.out.below HB7.out)).mono ?_
        rintro e8 W8 ⟨rfl, hb8⟩
        have kr := keep_blk hb8 KR.out
        have HB8 := Lib.hid (below_step HB7.out hb8)
        have kp := keep_blk HB8.out KP6.out
        clear hb8
        have hrate := Hr1.out
        have hnx := marks_next (rate := rate) Hr.out
        rw [← HN.out] at hnx
        cases hm : mkR rate r with
        | false =>
          have hm0 : ¬ (r.2 : Int) % rate = 0 := by unfold mkR at hm; simpa using hm
          have m1 : ((r.2 : Int) % rate == 0) = false := by simpa using hm0
          rw [hm, if_neg (by decide), Nat.add_zero] at hnx
          have HN2 := Lib.hid hnx.symm
          clear hnx hm
          obtain ⟨c_kp, f_kp, l_kp_W8⟩ := f3 kp
          obtain ⟨c_kr, f_kr, l_kr_W8⟩ := f3 kr
          go_wp2_with fail
          have e3 := HE3.out
          go_wp2_with fail
          go_roundg k
          case measure => omega
          case rel => exact ⟨i + 1, N, rfl, by first | rfl | (rw [e3]; rfl), by omega, HN2, HB8⟩
        | true =>
          have hm0 : (r.2 : Int) % rate = 0 := by unfold mkR at hm; simpa using hm
          have m1 : ((r.2 : Int) % rate == 0) = true := by simpa using hm0
          rw [hm, if_pos rfl] at hnx
          have HN2 := Lib.hid hnx.symm
          have hr' := Hr.out
          rw [← HRR.out] at hr'
          have hsg := spots_get HI.out HV.out HR.out hr' hm
          rw [HRR.out, ← HN.out] at hsg
          have HS := Lib.hid hsg
          clear hnx hm hr' hsg
          obtain ⟨c_kp, f_kp, l_kp_W8⟩ := f3 kp
          obtain ⟨c_kr, f_kr, l_kr_W8⟩ := f3 kr
          go_wp2_with fail
          refine (lGet_calls _ _ _ HS.out _ (HA6.out.below HB8.out)).mono ?_
          rintro e9 W9 ⟨rfl, hb9⟩
          obtain ⟨tt, htt, -⟩ := sorted_valid (HRR.out ▸ List.mem_of_getElem? Hr.out)
          have hrl : r.1 < ds.length := by have := (List.getElem?_eq_some_iff.1 htt).1; simpa using this
          obtain ⟨d, hd⟩ := at_some hrl
          have n3 : (r.1 : Int) < (ds.length : Int) := by omega
          have hsp : spR ds r = (d.1, (r.2 : Int)) := by unfold spR; simp [List.getD, hd]
          have HB9 := Lib.hid (below_step HB8.out hb9)
          have KP9 := Lib.hid (keep_blk hb9 kp); have KR9 := Lib.hid (keep_blk hb9 kr)
          have HRK := Lib.hid (marks_rank HI.out HV.out HR.out (show i ≤ (refSorted (txt ds)).length by rw [HRR.out]; omega))
          rw [HRR.out, ← HN.out] at HRK
          have hN5 : N ≤ 500 := by have h1 := HN.out; have h2 : (R.take i).countP (mkR rate) ≤ (R.take i).length := List.countP_le_length; rw [List.length_take] at h2; have := HRl.out; omega
          have HE5 := Lib.hid (show wrap64 ((N : Int) + 1) = (N : Int) + 1 from IntWalk.wrap64_in _ (by omega))
          have Hd := Lib.hid hd
          rw [hsp]
          clear hb9 c_kp f_kp c_kr f_kr kp kr htt hd hsp hN5 hm0 m1
          go_wp2_with fail
          refine wp_gen fun V9 hV9 => ?_
          have hb9 : Below W9.heap.size W9 V9 := by rw [hV9]; exact below_box _ _
          have kx : V9.heap[W9.heap.size]? = some (.cells #[.int .i64 d.1, .int .i64 (r.2 : Int)] 56 (0, 0)) := by rw [hV9]; exact blk_new _ _ _ rfl
          have kp := keep_blk hb9 KP9.out
          have kr := keep_blk hb9 KR9.out
          have HBV9 := Lib.hid (below_step HB9.out hb9)
          clear hV9 hb9
          obtain ⟨ad, hAd, hlb, qd⟩ : ∃ ad, A = some ad ∧ (ad.add (r.1 * 2)).block < V9.heap.size ∧ V9.cell? (ad.add (r.1 * 2)) = some (.int .i64 d.1) := by
            obtain ⟨A', cap', hv, h2⟩ := (HK.out.below HB6.out).below HBV9.out
            obtain ⟨ad, rfl, hg, hc⟩ := h2 (by omega)
            obtain ⟨rfl, -, -⟩ := Value.slice.inj hv
            obtain ⟨w1, w2, -⟩ := hc r.1 d Hd.out
            exact ⟨ad, rfl, w1, w2⟩
          subst hAd
          have HLB := Lib.hid hlb
          clear hlb
          obtain ⟨c_kp, f_kp, l_kp_V9⟩ := f3 kp
          obtain ⟨c_kr, f_kr, l_kr_V9⟩ := f3 kr
          obtain ⟨c_kx, f_kx, l_kx_V9⟩ := f3 kx
          refine wp_region_noPanic ?_
          refine wp_region_held_drew (S := fun v => (v.cell? (ad.add (r.1 * 2)) = some (.int .i64 d.1)) ∧ Below V9.heap.size V9 v ∧ (V9.heap.size ≤ v.heap.size) ∧ ∀ b o, b < V9.heap.size → v.cell? ⟨b, o, none⟩ = V9.cell? ⟨b, o, none⟩) (by kernel_rfl) ⟨qd, HeldB.start V9⟩ (fun hHeld => ?_)
          generalize V9.drew = v0 at hHeld ⊢
          refine tz 0 rfl hHeld ?_
          try simp only [PT]
          refine tz 1 rfl hHeld ?_
          try simp only [PT]
          refine tz 2 rfl hHeld ?_
          try simp only [PT]
          refine tz 3 rfl hHeld ?_
          try simp only [PT]
          refine tz 4 rfl hHeld ?_
          try simp only [PT]
          refine tz 5 rfl hHeld ?_
          try simp only [PT]
          refine tz 6 rfl hHeld ?_
          try simp only [PT]
          refine tz 7 rfl hHeld ?_
          try simp only [PT]
          refine tz 8 rfl hHeld ?_
          try simp only [PT]
          refine tz 9 rfl hHeld ?_
          try simp only [PT]
          refine tz 10 rfl hHeld ?_
          try simp only [PT]
          refine tz 11 rfl hHeld ?_
          try simp only [PT]
          refine tz 12 rfl hHeld ?_
          try simp only [PT]
          refine tz 13 rfl hHeld ?_
          try simp only [PT]
          refine tz 14 rfl hHeld ?_
          try simp only [PT]
          refine tz 15 rfl hHeld ?_
          try simp only [PT]
          refine tz 16 rfl hHeld ?_
          try simp only [PT]
          refine tz 17 rfl hHeld ?_
          try simp only [PT]
          refine tz 18 rfl hHeld ?_
          try simp only [PT]
          refine tz 19 rfl hHeld ?_
          try simp only [PT]
          refine tz 20 rfl hHeld ?_
          try simp only [PT]
          refine tz 21 rfl hHeld ?_
          try simp only [PT]
          refine tz 22 rfl hHeld ?_
          try simp only [PT]
          refine tz 23 rfl hHeld ?_
          try simp only [PT]
          refine tz 24 rfl hHeld ?_
          try simp only [PT]
          refine tz 26 rfl hHeld ?_
          try simp only [PT]
          refine rd 25 rfl fun K hK => ?_
          go_simp
          refine (bRank_calls _ _ _ HRK.out v0 (HA6.out.below (below_step HBV9.out hHeld.2.1))).mono ?_
          rintro e10 W10 ⟨rfl, hb10⟩
          refine hK.out _ _ (⟨(hb10.cell (by exact Nat.lt_of_lt_of_le HLB.out hHeld.2.1.size)).trans hHeld.1, HeldB.call hHeld.2 hb10⟩) (fun hHeld => ?_)
          clear hK K
          try simp only [PT]
          refine tz 27 rfl hHeld ?_
          try simp only [PT]
          refine tz 28 rfl hHeld ?_
          try simp only [PT]
          refine wpAnyH_done (by kernel_rfl) ?_ _
          refine NoPanic.normal ?_
          have HBF := Lib.hid (below_step HBV9.out hHeld.2.1)
          have e3 := HE3.out
          have e5 := HE5.out
          clear hHeld c_kp f_kp c_kr f_kr c_kx f_kx kp kr kx qd hb10
          go_wp2_with fail
          go_roundg k
          case measure => omega
          case rel => exact ⟨i + 1, N + 1, by first | rfl | (rw [e5]; rfl), by first | rfl | (rw [e3]; rfl), by omega, HN2, HBF⟩
      · have n1 : decide ((i : Int) < (R.length : Int)) = false := by simpa using hlt
        have hi : i = R.length := by omega
        have hsl := spots_len HI.out HV.out HR.out
        rw [HRR.out] at hsl
        have hN := HN.out
        rw [hi, List.take_length] at hN
        rw [← hN] at hsl
        have HSL := Lib.hid hsl; have HTL := Lib.hid (table_len HI.out HV.out HR.out)
        clear hsl hN hi
        obtain ⟨c_kp, f_kp, l_kp_wr⟩ := f3 kp
        go_wp2_with fail
        refine (lLen_calls _ _ (HA6.out.below HB.out)).mono ?_
        rintro e8 W8 ⟨rfl, hb8⟩
        have HB8 := Lib.hid (below_step HB.out hb8)
        clear hb8 c_kp f_kp kp
        have kp := keep_blk HB8.out KP6.out
        rw [HSL.out]
        obtain ⟨c_kp, f_kp, l_kp_W8⟩ := f3 kp
        go_wp2_with fail
        refine (tLen_calls _ _ (HA6.out.below HB8.out)).mono ?_
        rintro e9 W9 ⟨rfl, hb9⟩
        have HB9 := Lib.hid (below_step HB6.out (below_step HB8.out hb9))
        clear hb9
        rw [HTL.out]
        go_wp2_with fail
        go_ret
        exact ⟨rfl, HB9.out⟩
end Go.Proofs.YtdjpjmkpndmhaaaGreat
