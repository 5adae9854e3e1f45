/- Part 1 of what VersionShares needs: the walks of the program's functions, and plain facts. -/
import Derived.Test.YtdjpjmkpndmhaaaGreatCoreM8
/- VersionShares: two versions of the same parts share all of them. -/
namespace Go.Proofs.YtdjpjmkpndmhaaaGreat
set_option linter.unusedSimpArgs false
set_option linter.unusedVariables false
set_option linter.unnecessarySimpa false
open Go.RowKit
attribute [local go_sem ↓] Go.wp_at_zero Go.wp_at_succ
attribute [local go_sem] str_len
set_option maxRecDepth 100000 in
set_option maxHeartbeats 8000000 in
theorem versionShares_walk (A : Option Addr) (cap : Nat) (ds : Docs) (rate : Int) (hl : ds.length ≤ maxLen) (hid : IdOk ds) (w : World) (h : Rd2 w (.slice A ds.length cap) ds) :
    Calls Tryz.prog 7 #[.slice A ds.length cap, .int .i64 rate] w fun e w' => e = .returned (.bool true) ∧ Below w.heap.size w w' := by
  have HK := Lib.hid h; clear h
  rcases law_guard ds rate hid with hg | ⟨hf, d0, d1, d2, hR, htot, hr1, hr2, hne⟩
  · rcases hg with hf | ⟨hf, d0⟩ | ⟨hf, d0, d1⟩ | ⟨hf, d0, d1, d2⟩ <;>
    (have Hf := Lib.hid hf; clear hf
     go_enter Tryz.func7, Tryz.ntmps7
     go_wp2_with fail
     refine (few_calls _ ds hl _ HK.out).mono ?_
     rintro e0 W0 ⟨rfl, hb0⟩
     rw [Hf.out]
     have HB0 := Lib.hid hb0; clear hb0
     go_wp2_with fail
     refine (alive12_calls _).mono ?_
     rintro e1 W1 ⟨rfl, hb1⟩
     have HB1 := Lib.hid (below_step HB0.out hb1); clear hb1
     go_wp2_with fail
     go_ret
     exact ⟨rfl, HB1.out⟩)
  have Hf := Lib.hid hf; have HR := Lib.hid hR; have Htot := Lib.hid htot; have Hr1 := Lib.hid hr1; have Hr2 := Lib.hid hr2; have Hne := Lib.hid hne
  have hl10 := hR.len
  have Hl10 := Lib.hid hl10
  have H40 : Hid (∀ t, t ∈ txt ds → t.length ≤ 50000) := Lib.hid fun t ht => by
    obtain ⟨i, hi, rfl⟩ := List.getElem_of_mem ht
    have := (right_len hR.right).2 i
    rw [getD_at (List.getElem?_eq_getElem hi)] at this
    omega
  clear hf hR htot hr1 hr2 hne hl10
  go_enter Tryz.func7, Tryz.ntmps7
  go_wp2_with fail
  refine (few_calls _ ds hl _ HK.out).mono ?_
  rintro e0 W0 ⟨rfl, hb0⟩
  rw [Hf.out]
  have HB0 := Lib.hid hb0; clear hb0
  go_wp2_with fail
  refine (alive12_calls _).mono ?_
  rintro e1 W1 ⟨rfl, hb1⟩
  have HB1 := Lib.hid (below_step HB0.out hb1); clear hb1
  go_wp2_with fail
  refine (new_calls 5000 (by omega) (by omega) _).mono ?_
  rintro e2 W2 ⟨p, O, rfl, hA, hO, hb2⟩
  have HS := Lib.hid (St.new (below_step HB1.out hb2) hA fun b hb => Nat.le_trans HB1.out.size (hO b hb))
  clear hA hO hb2
  go_wp2_with fail
  refine (bldS_calls 5000 (by omega) (by omega) HS.out rate Hr1.out (by have := Hr2.out; omega) ds HR.out Htot.out A cap HK.out).mono ?_
  rintro e3 W3 ⟨root, s, rfl, hS, hI, hwt, hsz, hv, hroot⟩
  have h0 : root ≠ 0 := fun e => Hne.out (hroot.1 e)
  have HS3 := Lib.hid hS
  obtain ⟨g, s1, hmk, hgr, hg0, hI1, hgrow, hbz, hwt1, hv1, hr1, hog, hor⟩ := share_T hI hwt Hne.out HR.out h0 hv (by have := hv.busy hI hwt; have := rows_tot HR.out; have := Htot.out; have := Hl10.out; omega)
  have hrf := root_refs hI1 hwt1 h0 (by rw [(hv1.root hg0).2, (hr1.root h0).2, hog, hor])
  obtain ⟨u, hu, hcr, hI2, hwt2, hbz2, hv2, -⟩ := unshare_T hI1 hwt1 hg0 h0 hgr hv1 hr1 (hog.trans hor.symm) hrf
  have HIS := Lib.hid (vr_is hI hv HR.out)
  have HMK := Lib.hid hmk; have HI1 := Lib.hid hI1; have HU := Lib.hid hu; have HI2 := Lib.hid hI2
  have HZ1 : Hid (s1.busy = wrap64 (s.busy + 1)) := Lib.hid (by
    rw [hbz, IntWalk.wrap64_in]
    have := hI.busy; have := usedTo_le s.used s.size; unfold Ar.busyN at *; omega)
  have HZ2 : Hid (u.2.busy = s.busy) := Lib.hid (by omega)
  have HC := Lib.hid (hv2.check_own hI2 HR.out Hr1.out Hr2.out)
  have HE : Hid (s1.cntE root = 0) := Lib.hid (by unfold Ar.cntE; rw [if_neg hcr])
  clear hS hI hwt hsz hv hroot h0 hmk hgr hg0 hI1 hgrow hbz hwt1 hv1 hr1 hog hor hrf hu hcr hI2 hwt2 hbz2 hv2
  go_wp2_with fail
  refine (HS3.out.read fun O hA => vOf_calls root _ hA).mono ?_
  rintro e4 W4 ⟨rfl, h4⟩
  have HS4 := Lib.hid h4; clear h4
  rw [HIS.out]
  unfold Parts.val
  go_wp2_with fail
  refine calls_gen fun V4 hV4 => ?_
  have HS5 := Lib.hid (HS4.out.box _ hV4)
  clear hV4
  refine (HS5.out.same fun O hA => used_calls _ hA).mono ?_
  rintro e5 W5 ⟨rfl, h5⟩
  have HS6 := Lib.hid h5
  have kp := h5.at0
  clear h5
  obtain ⟨c_kp, f_kp, l_kp_W5⟩ := f3 kp
  go_wp2_with fail
  refine (HS6.out.write (s' := s1) fun O hA => (vMake_calls (vOf s root) _ hA).mono fun e w' ⟨a, b⟩ => ⟨a, by rw [HMK.out] at b; exact b⟩).mono ?_
  rw [HMK.out]
  rintro e7 W7 ⟨rfl, h7⟩
  have HS7 := Lib.hid h7
  clear h7 c_kp f_kp kp
  go_wp2_with fail
  refine (HS7.out.same fun O hA => used_calls _ hA).mono ?_
  rintro e8 W8 ⟨rfl, h8⟩
  have HS8 := Lib.hid h8
  clear h8
  rw [HZ1.out]
  go_wp2_with fail
  refine calls_gen fun V9 hV9 => ?_
  have HS9 := Lib.hid (HS8.out.box _ hV9)
  clear hV9
  refine (HS9.out.read fun O hA => counted_calls HI1.out [g, root] (fun _ _ => rfl) (by simp) _ _ hA (Rx.cells HS9.out.at0 rfl)).mono ?_
  rintro e10 W10 ⟨rfl, h10⟩
  have HS10 := Lib.hid h10
  clear h10
  go_wp2_with fail
  refine (HS10.out.write fun O hA => drop_calls root _ hA).mono ?_
  rintro e11 W11 ⟨rfl, h11⟩
  have HS11 := Lib.hid h11
  clear h11
  rw [HE.out]
  go_wp2_with fail
  refine (HS11.out.write fun O hA => work_calls 1073741824 u HU.out _ hA).mono ?_
  rintro e12 W12 ⟨rfl, h12⟩
  have HS12 := Lib.hid h12
  clear h12
  go_wp2_with fail
  refine (HS12.out.same fun O hA => used_calls _ hA).mono ?_
  rintro e13 W13 ⟨rfl, h13⟩
  have HS13 := Lib.hid h13
  clear h13
  rw [HZ2.out]
  go_wp2_with fail
  refine (HS13.out.read fun O hA => check_calls g rate ds _ true HC.out (by have := Hl10.out; omega) H40.out _ hA (HK.out.below HS13.out.bel)).mono ?_
  rintro e14 W14 ⟨rfl, h14⟩
  have HS14 := Lib.hid h14
  clear h14
  go_wp2_with fail
  refine calls_gen fun V15 hV15 => ?_
  have HS15 := Lib.hid (HS14.out.box _ hV15)
  clear hV15
  refine (HS15.out.read fun O hA => counted_calls HI2.out [g] (fun _ _ => rfl) (by simp) _ _ hA (Rx.cells HS15.out.at0 rfl)).mono ?_
  rintro e16 W16 ⟨rfl, h16⟩
  have HS16 := Lib.hid h16
  clear h16
  go_wp2_with fail
  go_ret
  exact ⟨rfl, HS16.out.bel⟩
end Go.Proofs.YtdjpjmkpndmhaaaGreat
