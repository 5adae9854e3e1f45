/- PullNone: of what is no version, no arena, no document nothing is read. -/
import Derived.Test.YtkgabbenmoocgaaAlive16
namespace Go.Proofs.Ytkgabbenmoocgaa
set_option linter.unusedSimpArgs false
set_option linter.unusedVariables false
set_option linter.unnecessarySimpa false
open Go.RowKit
attribute [local go_sem ↓] Go.wp_at_zero Go.wp_at_succ
attribute [local go_sem] str_len
theorem pText_nil {s : Ar} {root : Int} (h : lAll s (vOf s root).table = some []) (id : Int) : pText s root id = some ([], false) := by
  unfold pText tPlace; rw [h]; rfl
theorem lLen_nil {s : Ar} {h : Int} (hl : lAll s h = some []) : lLen s h ≤ 50000 := by
  have := eachO_len _ _ _ hl
  simp at this; omega
theorem vOf_none (h : Int) : vOf Ar.none h = Parts.zero := by
  unfold vOf
  split
  · rename_i hc
    exfalso
    have h2 := hc.2
    unfold vIs at h2
    have hh : Ar.none.has h = false := by unfold Ar.has Ar.none Ar.new; simp
    rw [hh] at h2
    simp [hc.1] at h2
  · rfl
theorem none_nil (h : Int) : lAll Ar.none (vOf Ar.none h).table = some [] := by rw [vOf_none]; decide +kernel
theorem ap_none (w : World) : AP w (.pointer none) Ar.none (fun _ => False) := ⟨Ar.Wq.new 0 (by omega), .inl ⟨rfl, rfl, fun _ h => h.elim⟩⟩
/-- The arena of one item. -/
def oneItem : Ar := ((Ar.new 50).make ⟨4, 0, 0, 0, 0, 7, 3⟩).2.2
theorem one_made : ((Ar.new 50).make ⟨4, 0, 0, 0, 0, 7, 3⟩).1 = 1 ∧ ((Ar.new 50).make ⟨4, 0, 0, 0, 0, 7, 3⟩).2.1 = 0 := by decide +kernel
theorem one_nil1 : lAll oneItem (vOf oneItem 1).table = some [] := by decide +kernel
theorem one_nil0 : lAll oneItem (vOf oneItem 0).table = some [] := by decide +kernel
set_option maxRecDepth 100000 in
set_option maxHeartbeats 4000000 in
theorem pullNone_walk (id h : Int) (w : World) : Calls Try.prog 5 #[.int .i64 id, .int .i64 h] w fun e w' => e = .returned (.bool true) ∧ Below w.heap.size w w' := by
  go_enter Try.func5, Try.ntmps5
  go_wp2_with fail
  refine (alive16_calls _).mono ?_
  rintro e0 W0 ⟨rfl, hb0⟩
  have HB0 := Lib.hid hb0; clear hb0
  go_wp2_with fail
  refine (new_calls 50 (by omega) (by omega) _).mono ?_
  rintro e1 W1 ⟨p, O, rfl, hA, hO, hb1⟩
  have HA1 := Lib.hid hA; have HB1 := Lib.hid (below_step HB0.out hb1)
  have HO := Lib.hid (fun b hb => Nat.le_trans HB0.out.size (hO b hb) : ∀ b, O b → w.heap.size ≤ b)
  clear hA hO hb1
  go_wp2_with fail
  refine (make_calls (⟨4, 0, 0, 0, 0, 7, 3⟩ : Nd) ⟨by decide, by decide⟩ _ HA1.out).mono ?_
  rintro e2 W2 ⟨rfl, O2, hA2, hf2⟩
  rw [one_made.1, one_made.2]
  have HA2 : Hid (AP W2 (.pointer (some ⟨p, 0, none⟩)) oneItem O2) := Lib.hid hA2
  have HB2 := Lib.hid (below_fr HB1.out hf2 HO.out)
  clear hA2 hf2
  go_wp2_with fail
  refine (text_calls 1 id _ (pText_nil one_nil1 id) (lLen_nil one_nil1) _ HA2.out).mono ?_
  rintro e3 W3 ⟨rfl, hb3⟩
  have HA3 := Lib.hid (HA2.out.below hb3); have HB3 := Lib.hid (below_step HB2.out hb3)
  clear hb3
  go_wp2_with fail
  refine (text_calls 0 id _ (pText_nil one_nil0 id) (lLen_nil one_nil0) _ HA3.out).mono ?_
  rintro e4 W4 ⟨rfl, hb4⟩
  have HA4 := Lib.hid (HA3.out.below hb4); have HB4 := Lib.hid (below_step HB3.out hb4)
  clear hb4
  go_wp2_with fail
  refine (text_calls h id _ (pText_nil (none_nil h) id) (lLen_nil (none_nil h)) _ (ap_none W4)).mono ?_
  rintro e5 W5 ⟨rfl, hb5⟩
  have HA5 := Lib.hid (HA4.out.below hb5); have HB5 := Lib.hid (below_step HB4.out hb5)
  clear hb5
  go_wp2_with fail
  refine (part_calls 0 id 0 0 _ (pText_nil one_nil0 id) (lLen_nil one_nil0) _ HA5.out).mono ?_
  rintro e6 W6 ⟨rfl, hb6⟩
  have HA6 := Lib.hid (HA5.out.below hb6); have HB6 := Lib.hid (below_step HB5.out hb6)
  clear hb6
  rw [show partOf (([] : List UInt8), false) 0 0 = ([], 4) from rfl]
  go_wp2_with fail
  refine (plot_calls 1 id 0 _ (pText_nil one_nil1 id) (lLen_nil one_nil1) _ HA6.out).mono ?_
  rintro e7 W7 ⟨rfl, hb7⟩
  have HA7 := Lib.hid (HA6.out.below hb7); have HB7 := Lib.hid (below_step HB6.out hb7)
  clear hb7
  rw [show partOf (([] : List UInt8), false) 0 0 = ([], 4) from rfl, show plotOf (([] : List UInt8), (4 : Int)) = .complex .f64 0 0 from rfl]
  go_wp2_with fail
  refine (lens_nil 1 one_nil1 _ HA7.out).mono ?_
  rintro e8 W8 ⟨rfl, hb8⟩
  have HA8 := Lib.hid (HA7.out.below hb8); have HB8 := Lib.hid (below_step HB7.out hb8)
  clear hb8
  go_wp2_with fail
  refine (docs_nil 1 one_nil1 _ HA8.out).mono ?_
  rintro e9 W9 ⟨rfl, hb9⟩
  have HA9 := Lib.hid (HA8.out.below hb9); have HB9 := Lib.hid (below_step HB8.out hb9)
  clear hb9
  go_wp2_with fail
  refine (docs_nil h (none_nil h) _ (ap_none W9)).mono ?_
  rintro e10 W10 ⟨rfl, hb10⟩
  have HB10 := Lib.hid (below_step HB9.out hb10)
  clear hb10
  go_wp2_with fail
  go_ret
  exact ⟨rfl, HB10.out⟩
end Go.Proofs.Ytkgabbenmoocgaa
