/- Part 1 of what PullParts needs: the walks of the program's functions, and plain facts. -/
import Derived.Test.YtpdpcgmkpgfblaaCoreM8
import Derived.Laws.Concat
/- PullParts: parts one behind the other are the text. -/
namespace Go.Proofs.Ytpdpcgmkpgfblaa
set_option linter.unusedSimpArgs false
set_option linter.unusedVariables false
set_option linter.unnecessarySimpa false
open Go.RowKit
attribute [local go_sem ↓] Go.wp_at_zero Go.wp_at_succ
attribute [local go_sem] str_len
theorem str_add (a b : List UInt8) (ha : a.length ≤ 100) (hb : b.length ≤ 100) (w : World) : (binOp BinOp.add 9 (strOf a) (strOf b)).run Try.prog w = .ok (strOf (a ++ b)) w := by
  unfold strOf
  rw [binOp_string_add]
  exact run_string_add_lists w a b (by omega) (by omega)
theorem str_same (a : List UInt8) (w : World) : (binOp BinOp.eql 9 (strOf a) (strOf a)).run Try.prog w = .ok (.bool true) w := by
  unfold strOf
  rw [binOp_string_eql]
  simp [Sem.run_pure]
theorem str_guard (a b : List UInt8) (o1 o2 : Operand) (w : World) : (eqGuard BinOp.eql 9 o1 o2 (strOf a) (strOf b)).run Try.prog w = .ok () w := by
  unfold strOf
  simp [eqGuard, Sem.run_pure]
theorem zb_sum (i j : Int) (h : i.natAbs + j.natAbs ≤ 40) : FloatKind.f64.format.add (zb i) (zb j) = some (zb (i + j)) := by
  have h0 : (List.range 81).all (fun a => (List.range 81).all fun b => if ((a : Int) - 40).natAbs + ((b : Int) - 40).natAbs ≤ 40 then FloatKind.f64.format.add (zb ((a : Int) - 40)) (zb ((b : Int) - 40)) == some (zb ((a : Int) - 40 + ((b : Int) - 40))) else true) = true := by decide +kernel
  rw [List.all_eq_true] at h0
  have h1 := h0 (i + 40).toNat (List.mem_range.2 (by omega))
  rw [List.all_eq_true] at h1
  have h2 := h1 (j + 40).toNat (List.mem_range.2 (by omega))
  rw [show (((i + 40).toNat : Nat) : Int) - 40 = i by omega, show (((j + 40).toNat : Nat) : Int) - 40 = j by omega, if_pos h] at h2
  simpa using h2
theorem walk_from (l : List UInt8) : ∀ z : Int × Int, l.foldl (fun z b => stepOf b z) z = (z.1 + (walkOf l).1, z.2 + (walkOf l).2) := by
  unfold walkOf
  induction l with
  | nil => intro z; simp
  | cons b l ih =>
    intro z
    rw [List.foldl_cons, List.foldl_cons, ih (stepOf b z), ih (stepOf b (0, 0)), stepOf_add b z]
    ext <;> simp <;> omega
theorem walk_app (a b : List UInt8) : walkOf (a ++ b) = ((walkOf a).1 + (walkOf b).1, (walkOf a).2 + (walkOf b).2) := by
  unfold walkOf
  rw [List.foldl_append]
  exact walk_from b _
theorem walk_len (l : List UInt8) : (walkOf l).1.natAbs ≤ l.length ∧ (walkOf l).2.natAbs ≤ l.length := by
  induction l with
  | nil => exact ⟨by simp [walkOf], by simp [walkOf]⟩
  | cons b l ih =>
    have e : walkOf (b :: l) = ((stepOf b (0, 0)).1 + (walkOf l).1, (stepOf b (0, 0)).2 + (walkOf l).2) := walk_from l (stepOf b (0, 0))
    rw [e]
    dsimp only
    rw [List.length_cons]
    rcases stepOf_small b with s | s | s | s
    all_goals rw [s]; dsimp only; omega
theorem cadd_walk (a b : List UInt8) (h : (a ++ b).length ≤ 40) (w : World) :
    (binOp BinOp.add 34 (.complex .f64 (zb (walkOf a).1) (zb (walkOf a).2)) (.complex .f64 (zb (walkOf b).1) (zb (walkOf b).2))).run Try.prog w = .ok (.complex .f64 (zb (walkOf (a ++ b)).1) (zb (walkOf (a ++ b)).2)) w := by
  rw [List.length_append] at h
  have ha := walk_len a
  have hb := walk_len b
  refine run_complex_sum w .add (.inl rfl) _ _ _ _ _ _ _ _ ?_
  rw [walk_app]
  have s1 := zb_sum (walkOf a).1 (walkOf b).1 (by omega)
  have s2 := zb_sum (walkOf a).2 (walkOf b).2 (by omega)
  simp [cSumBits, floatBits, s1, s2]
/-- The place of a cut. -/
theorem cut_at (i : Int) (n : Nat) : -(n : Int) ≤ i.tmod ((n : Int) + 1) ∧ i.tmod ((n : Int) + 1) ≤ n ∧ ∃ K : Nat, (i.tmod ((n : Int) + 1) + n + 1) % ((n : Int) + 1) = (K : Int) ∧ K ≤ n := by
  have h := Int.tmod_lt_of_pos i (show (0:Int) < (n : Int) + 1 by omega)
  have h2 := Int.tmod_lt_of_pos (-i) (show (0:Int) < (n : Int) + 1 by omega)
  rw [Int.neg_tmod] at h2
  have h3 := Int.emod_nonneg (i.tmod ((n : Int) + 1) + n + 1) (show ((n : Int) + 1) ≠ 0 by omega)
  have h4 := Int.emod_lt_of_pos (i.tmod ((n : Int) + 1) + n + 1) (show (0:Int) < (n : Int) + 1 by omega)
  exact ⟨by omega, by omega, ((i.tmod ((n : Int) + 1) + n + 1) % ((n : Int) + 1)).toNat, by omega, by omega⟩
theorem cut_facts (i : Int) (n : Nat) (hn : n ≤ 40) : -(n : Int) ≤ i.tmod ((n : Int) + 1) ∧ i.tmod ((n : Int) + 1) ≤ n ∧ 0 ≤ i.tmod ((n : Int) + 1) + n + 1 ∧ wrap64 ((n : Int) + 1) = (n : Int) + 1 ∧ wrap64 (i.tmod ((n : Int) + 1) + (n : Int)) = i.tmod ((n : Int) + 1) + (n : Int) ∧ wrap64 (i.tmod ((n : Int) + 1) + (n : Int) + 1) = i.tmod ((n : Int) + 1) + (n : Int) + 1 ∧
    ∃ K : Nat, (i.tmod ((n : Int) + 1) + n + 1) % ((n : Int) + 1) = (K : Int) ∧ K ≤ n := by
  obtain ⟨h1, h2, h3⟩ := cut_at i n
  generalize i.tmod ((n : Int) + 1) = x at *
  exact ⟨h1, h2, by omega, IntWalk.wrap64_in _ (by omega), IntWalk.wrap64_in _ (by omega), IntWalk.wrap64_in _ (by omega), h3⟩
/-- What a part up to k is. -/
theorem partOf_up {t : List UInt8} {k : Nat} (h : k ≤ t.length) : partOf (t, true) 0 (k : Int) = (t.take k, 0) := by
  unfold partOf
  rw [if_neg (by simp), if_neg (by dsimp only; omega)]
  simp
theorem partOf_both {t : List UInt8} {k n : Nat} (h : k ≤ n) (hn : n ≤ t.length) : partOf (t, true) (k : Int) (n : Int) = ((t.take n).drop k, 0) := by
  unfold partOf
  rw [if_neg (by simp), if_neg (by dsimp only; omega)]
  simp
set_option maxRecDepth 100000 in
set_option maxHeartbeats 4000000 in
theorem pullParts_walk (A : Option Addr) (cap : Nat) (ds : Docs) (doc cut : Int) (hl : ds.length ≤ maxLen) (hid : IdOk ds) (w : World) (h : Rd2 w (.slice A ds.length cap) ds) :
    Calls Try.prog 3 #[.slice A ds.length cap, .int .i64 doc, .int .i64 cut] w fun e w' => e = .returned (.bool true) ∧ Below w.heap.size w w' := by
  have HK := Lib.hid h; clear h
  cases hf : few ds with
  | false =>
    have Hf := Lib.hid hf; clear hf
    go_enter Try.func3, Try.ntmps3
    go_wp2_with fail
    refine (few_calls _ ds hl _ HK.out).mono ?_
    rintro e0 W0 ⟨rfl, hb0⟩
    rw [Hf.out]
    have HB0 := Lib.hid hb0; clear hb0
    go_wp2_with fail
    refine (alive16_calls _).mono ?_
    rintro e1 W1 ⟨rfl, hb1⟩
    have HB1 := Lib.hid (below_step HB0.out hb1); clear hb1
    go_wp2_with fail
    go_ret
    exact ⟨rfl, HB1.out⟩
  | true =>
    obtain ⟨hR, htot, hl10⟩ := few_right hf hid
    have Hf := Lib.hid hf; clear hf
    by_cases hz : ds.length = 0
    · have d0 : ((ds.length : Int) == 0) = true := by rw [hz]; rfl
      clear hz htot hl10
      go_enter Try.func3, Try.ntmps3
      go_wp2_with fail
      refine (few_calls _ ds hl _ HK.out).mono ?_
      rintro e0 W0 ⟨rfl, hb0⟩
      rw [Hf.out]
      have HB0 := Lib.hid hb0; clear hb0
      go_wp2_with fail
      refine (alive16_calls _).mono ?_
      rintro e1 W1 ⟨rfl, hb1⟩
      have HB1 := Lib.hid (below_step HB0.out hb1); clear hb1
      go_wp2_with fail
      go_ret
      exact ⟨rfl, HB1.out⟩
    have d0 : ((ds.length : Int) == 0) = false := by rw [beq_eq_false_iff_ne]; omega
    obtain ⟨ad, rfl⟩ : ∃ ad, A = some ad := by
      obtain ⟨A', c', hv, h2⟩ := HK.out
      obtain ⟨rfl, -, rfl⟩ := Value.slice.inj hv
      obtain ⟨ad, rfl, -⟩ := h2 (by omega)
      exact ⟨ad, rfl⟩
    have hlt : ad.block < w.heap.size := by
      obtain ⟨A', c', hv, h2⟩ := HK.out
      obtain ⟨rfl, -, rfl⟩ := Value.slice.inj hv
      obtain ⟨ad', ha, hlt, -⟩ := h2 (by omega)
      obtain rfl := Option.some.inj ha
      exact hlt
    obtain ⟨t1, t2, j, hj, hjl⟩ := pick_at doc ds.length (by omega)
    obtain ⟨d, hd⟩ := at_some hjl
    have hne : ds ≠ [] := fun e => hz (by rw [e]; rfl)
    have h40 : d.2.length ≤ 40 := by have := (right_len hR.right).2 j; rwa [show (txt ds).getD j [] = d.2 by rw [List.getD, List.getElem?_map, hd]; rfl] at this
    have e1 : wrap64 (doc.tmod (ds.length : Int) + (ds.length : Int)) = doc.tmod (ds.length : Int) + (ds.length : Int) := IntWalk.wrap64_in _ (by omega)
    have e2 : (0 : Int) ≤ doc.tmod (ds.length : Int) + (ds.length : Int) := by omega
    have e3 : (j : Int) < (ds.length : Int) := by omega
    have HR := Lib.hid hR; have Htot := Lib.hid htot; have Hl10 := Lib.hid hl10; have Hne := Lib.hid hne; have Hd := Lib.hid hd; have H40 := Lib.hid h40; have Hlt := Lib.hid hlt
    clear hR htot hl10 hne hz hd h40 hlt hjl
    go_enter Try.func3, Try.ntmps3
    go_wp2_with fail
    refine (few_calls _ ds hl _ HK.out).mono ?_
    rintro e0 W0 ⟨rfl, hb0⟩
    rw [Hf.out]
    have HB0 := Lib.hid hb0; clear hb0
    go_wp2_with fail
    refine (alive16_calls _).mono ?_
    rintro e1 W1 ⟨rfl, hb1⟩
    have HB1 := Lib.hid (below_step HB0.out hb1); clear hb1
    go_wp2_with fail
    refine (new_calls 6000 (by omega) (by omega) _).mono ?_
    rintro e2 W2 ⟨p, O, rfl, hA, hO, hb2⟩
    have HA2 := Lib.hid hA; have HB2 := Lib.hid (below_step HB1.out hb2)
    have HO := Lib.hid (fun b hb => Nat.le_trans HB1.out.size (hO b hb) : ∀ b, O b → w.heap.size ≤ b)
    clear hA hO hb2
    go_wp2_with fail
    refine (bld_calls 3 (by omega) (by omega) ds HR.out Htot.out Hne.out ad cap _ (HK.out.below HB2.out) (fun h => absurd (HO.out _ h) (by have := Hlt.out; omega)) HA2.out).mono ?_
    rintro e3 W3 ⟨root, s', O', rfl, hA3, hf3, hT⟩
    have HA3 := Lib.hid hA3; have HB3 := Lib.hid (below_fr HB2.out hf3 HO.out); have HT := Lib.hid hT
    clear hA3 hf3 hT
    obtain ⟨c1, c2⟩ : W3.cell? (ad.add (j * 2)) = some (.int .i64 d.1) ∧ W3.cell? ⟨(ad.add (j * 2)).block, (ad.add (j * 2)).off + 1, none⟩ = some (strOf d.2) := by
      obtain ⟨A', c', hv, h2⟩ := HK.out.below HB3.out
      obtain ⟨rfl, -, rfl⟩ := Value.slice.inj hv
      obtain ⟨ad', ha, -, hc⟩ := h2 (by omega)
      obtain rfl := Option.some.inj ha
      exact (hc j d Hd.out).2
    obtain ⟨q1, q2, q3, e4, e5, e6, K, hK, hKn⟩ := cut_facts cut d.2.length H40.out
    replace c2 : W3.cell? ⟨(ad.add (j * 2)).block, (ad.add (j * 2)).off + 1, none⟩ = some (.string ⟨d.2.toArray⟩) := c2
    go_wp2_with fail
    rw [show Value.string ⟨d.2.toArray⟩ = strOf d.2 from rfl]
    refine calls_gen fun V3 hV3 => ?_
    have hA4 : AP V3 (.pointer (some ⟨p, 0, none⟩)) s' O' := by rw [hV3]; exact HA3.out.alloc _
    have kd : V3.heap[W3.heap.size]? = some (.cells #[.int .i64 d.1, strOf d.2] 30 (0, 0)) := by rw [hV3]; exact blk_new _ _ _ rfl
    have hB4 : Below w.heap.size w V3 := by rw [hV3]; exact HB3.out.alloc HB3.out.size _
    have HTx := Lib.hid (HT.out.at HR.out Hd.out)
    have HKn := Lib.hid hKn
    have hcat : d.2.take K ++ d.2.drop K = d.2 := List.take_append_drop K d.2
    have s1 : ∀ w, (binOp BinOp.add 9 (strOf (d.2.take K)) (strOf (d.2.drop K))).run Try.prog w = .ok (strOf d.2) w := fun w => by
      have := str_add (d.2.take K) (d.2.drop K) (by rw [List.length_take]; have := H40.out; omega) (by rw [List.length_drop]; have := H40.out; omega) w
      rwa [hcat] at this
    have s2 := str_same d.2
    have s4 := str_guard d.2 d.2
    have s3 : ∀ w, (binOp BinOp.add 34 (.complex .f64 (zb (walkOf (d.2.take K)).1) (zb (walkOf (d.2.take K)).2)) (.complex .f64 (zb (walkOf (d.2.drop K)).1) (zb (walkOf (d.2.drop K)).2))).run Try.prog w = .ok (.complex .f64 (zb (walkOf d.2).1) (zb (walkOf d.2).2)) w := fun w => by
      have := cadd_walk (d.2.take K) (d.2.drop K) (by rw [hcat]; have := H40.out; omega) w
      rwa [hcat] at this
    clear hV3 c1 c2 hKn hcat e4 e5 e6 q1 q2 q3
    refine (part_calls root d.1 0 (K : Int) (d.2, true) HTx.out HT.out.len _ hA4).mono ?_
    rintro e5 W5 ⟨rfl, hb5⟩
    have HA5 := Lib.hid (hA4.below hb5); have HB5 := Lib.hid (below_step hB4 hb5)
    have KD := Lib.hid (keep_blk hb5 kd)
    clear hA4 hb5 hB4 kd
    have kd := KD.out
    rw [partOf_up HKn.out]
    obtain ⟨c_kd, f_kd, l_kd_W5⟩ := f3 kd
    go_wp2_with fail
    clear c_kd f_kd kd
    refine (part_calls root d.1 (K : Int) (d.2.length : Int) (d.2, true) HTx.out HT.out.len _ HA5.out).mono ?_
    rintro e6 W6 ⟨rfl, hb6⟩
    have HB6 := Lib.hid hb6
    clear hb6
    have kd := keep_blk HB6.out KD.out
    rw [partOf_both HKn.out (Nat.le_refl _), List.take_length]
    obtain ⟨c_kd, f_kd, l_kd_W6⟩ := f3 kd
    go_wp2_with fail
    clear c_kd f_kd kd
    refine (plot_calls root d.1 (K : Int) (d.2, true) HTx.out HT.out.len _ (HA5.out.below HB6.out)).mono ?_
    rintro e7 W7 ⟨rfl, hb7⟩
    have HB7 := Lib.hid (below_step HB6.out hb7)
    clear hb7
    have kd := keep_blk HB7.out KD.out
    rw [partOf_up HKn.out]
    rw [show plotOf (d.2.take K, (0 : Int)) = .complex .f64 (zb (walkOf (d.2.take K)).1) (zb (walkOf (d.2.take K)).2) from rfl]
    obtain ⟨c_kd, f_kd, l_kd_W7⟩ := f3 kd
    go_wp2_with fail
    clear c_kd f_kd kd
    refine (plot_calls root d.1 (d.2.length : Int) (d.2, true) HTx.out HT.out.len _ (HA5.out.below HB7.out)).mono ?_
    rintro e8 W8 ⟨rfl, hb8⟩
    have HB8 := Lib.hid (below_step HB7.out hb8)
    clear hb8
    have kd := keep_blk HB8.out KD.out
    rw [partOf_up (Nat.le_refl _), List.take_length]
    rw [show plotOf (d.2, (0 : Int)) = .complex .f64 (zb (walkOf d.2).1) (zb (walkOf d.2).2) from rfl]
    obtain ⟨c_kd, f_kd, l_kd_W8⟩ := f3 kd
    go_wp2_with fail
    refine (rend_calls (d.2.drop K) (by rw [List.length_drop]; have := H40.out; omega) _).mono ?_
    rintro e9 W9 ⟨rfl, hb9⟩
    have HB9 := Lib.hid (below_step HB5.out (below_step HB8.out hb9))
    clear hb9
    go_wp2_with fail
    refine (exact_calls _ _ _).mono ?_
    rintro e10 W10 ⟨rfl, rfl⟩
    go_wp2_with fail
    go_ret
    exact ⟨rfl, HB9.out⟩
end Go.Proofs.Ytpdpcgmkpgfblaa
