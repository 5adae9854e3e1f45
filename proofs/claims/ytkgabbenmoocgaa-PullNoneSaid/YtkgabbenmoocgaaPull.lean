/- A part of a document, where its walk is; all documents. -/
import Derived.Test.YtkgabbenmoocgaaPath
namespace Go.Proofs.Ytkgabbenmoocgaa
set_option linter.unusedSimpArgs false
set_option linter.unusedVariables false
set_option linter.unnecessarySimpa false
open Go.RowKit
attribute [local go_sem ↓] Go.wp_at_zero Go.wp_at_succ
attribute [local go_sem] lt_s2 lt_s3 lt_s4
attribute [local go_sem] str_len
variable {ap : Value} {s : Ar} {O : Nat → Prop}
theorem str_slice (l : List UInt8) (a b : Int) (h0 : 0 ≤ a) (h1 : a ≤ b) (h2 : b ≤ l.length) (w : World) :
    (Instr.slice 9 (strOf l) (some (.int .i64 a)) (some (.int .i64 b)) none).run Try.prog w = .ok (strOf ((l.take b.toNat).drop a.toNat)) w := by
  unfold strOf
  have h3 : (⟨l.toArray⟩ : ByteArray).size = l.length := by simp [ByteArray.size]
  rw [run_slice_string w 9 ⟨l.toArray⟩ .i64 .i64 a b (by kernel_rfl) h0 h1 (by rw [h3]; exact h2)]
  rw [ByteArray.extract_mk, List.drop_take]
set_option maxRecDepth 100000 in
set_option maxHeartbeats 2000000 in
theorem part_calls (root id a b : Int) (t : List UInt8 × Bool) (ht : pText s root id = some t) (hll : (lLen s (vOf s root).table) ≤ 50000) (w : World) (hA : AP w ap s O) :
    Calls Try.prog 11 #[ap, .int .i64 root, .int .i64 id, .int .i64 a, .int .i64 b] w fun e w' => e = .returned (.tuple #[strOf (partOf t a b).1, .int .i64 (partOf t a b).2]) ∧ Below w.heap.size w w' := by
  have Ht := Lib.hid ht; clear ht
  unfold partOf
  cases h1 : t.2 with
  | false =>
    rw [if_pos rfl]
    go_enter Try.func11, Try.ntmps11
    go_wp2_with fail
    refine calls_gen fun V hV_V => ?_
    have n_B : Below w.heap.size w V := nB hV_V
    have n_A : AP V ap s O := nA hV_V
    have z_V := Nat.le_of_eq (congrArg (fun v : World => v.heap.size) hV_V).symm
    try simp only [SZ] at z_V
    clear hV_V
    clear hA
    have hA := n_A
    clear n_A
    skip
    have hB := n_B
    clear n_B
    refine (text_calls _ _ _ Ht.out hll _ hA).mono ?_
    rintro e_W1 W1 ⟨rfl, hb_W1⟩
    replace hA := hA.below hb_W1
    replace hB := below_step hB hb_W1
    have z_W1 := hb_W1.size
    clear hb_W1
    rw [h1]
    go_wp2_with fail
    go_ret2
    exact ⟨rfl, hB⟩
  | true =>
    rw [if_neg (by decide)]
    by_cases c1 : a < 0
    · rw [if_pos (.inl c1)]
      have d1 : decide (a < 0) = true := by simpa using c1
      clear c1
      go_enter Try.func11, Try.ntmps11
      go_wp2_with fail
      refine calls_gen fun V hV_V => ?_
      have n_B : Below w.heap.size w V := nB hV_V
      have n_A : AP V ap s O := nA hV_V
      have z_V := Nat.le_of_eq (congrArg (fun v : World => v.heap.size) hV_V).symm
      try simp only [SZ] at z_V
      clear hV_V
      clear hA
      have hA := n_A
      clear n_A
      skip
      have hB := n_B
      clear n_B
      refine (text_calls _ _ _ Ht.out hll _ hA).mono ?_
      rintro e_W1 W1 ⟨rfl, hb_W1⟩
      replace hA := hA.below hb_W1
      replace hB := below_step hB hb_W1
      have z_W1 := hb_W1.size
      clear hb_W1
      rw [h1]
      go_wp2_with fail
      go_ret2
      exact ⟨rfl, hB⟩
    · have d1 : decide (a < 0) = false := by simpa using c1
      by_cases c2 : b < a
      · rw [if_pos (.inr (.inl c2))]
        have d2 : decide (b < a) = true := by simpa using c2
        clear c1 c2
        go_enter Try.func11, Try.ntmps11
        go_wp2_with fail
        refine calls_gen fun V hV_V => ?_
        have n_B : Below w.heap.size w V := nB hV_V
        have n_A : AP V ap s O := nA hV_V
        have z_V := Nat.le_of_eq (congrArg (fun v : World => v.heap.size) hV_V).symm
        try simp only [SZ] at z_V
        clear hV_V
        clear hA
        have hA := n_A
        clear n_A
        skip
        have hB := n_B
        clear n_B
        refine (text_calls _ _ _ Ht.out hll _ hA).mono ?_
        rintro e_W1 W1 ⟨rfl, hb_W1⟩
        replace hA := hA.below hb_W1
        replace hB := below_step hB hb_W1
        have z_W1 := hb_W1.size
        clear hb_W1
        rw [h1]
        go_wp2_with fail
        go_ret2
        exact ⟨rfl, hB⟩
      · have d2 : decide (b < a) = false := by simpa using c2
        by_cases c3 : (t.1.length : Int) < b
        · rw [if_pos (.inr (.inr c3))]
          have d3 : decide ((t.1.length : Int) < b) = true := by simpa using c3
          clear c1 c2 c3
          go_enter Try.func11, Try.ntmps11
          go_wp2_with fail
          refine calls_gen fun V hV_V => ?_
          have n_B : Below w.heap.size w V := nB hV_V
          have n_A : AP V ap s O := nA hV_V
          have z_V := Nat.le_of_eq (congrArg (fun v : World => v.heap.size) hV_V).symm
          try simp only [SZ] at z_V
          clear hV_V
          clear hA
          have hA := n_A
          clear n_A
          skip
          have hB := n_B
          clear n_B
          refine (text_calls _ _ _ Ht.out hll _ hA).mono ?_
          rintro e_W1 W1 ⟨rfl, hb_W1⟩
          replace hA := hA.below hb_W1
          replace hB := below_step hB hb_W1
          have z_W1 := hb_W1.size
          clear hb_W1
          rw [h1]
          go_wp2_with fail
          go_ret2
          exact ⟨rfl, hB⟩
        · rw [if_neg (by omega)]
          have d3 : decide ((t.1.length : Int) < b) = false := by simpa using c3
          have hs := str_slice t.1 a b (by omega) (by omega) (by omega)
          clear c1 c2 c3
          go_enter Try.func11, Try.ntmps11
          go_wp2_with fail
          refine calls_gen fun V hV_V => ?_
          have n_B : Below w.heap.size w V := nB hV_V
          have n_A : AP V ap s O := nA hV_V
          have z_V := Nat.le_of_eq (congrArg (fun v : World => v.heap.size) hV_V).symm
          try simp only [SZ] at z_V
          clear hV_V
          clear hA
          have hA := n_A
          clear n_A
          skip
          have hB := n_B
          clear n_B
          refine (text_calls _ _ _ Ht.out hll _ hA).mono ?_
          rintro e_W1 W1 ⟨rfl, hb_W1⟩
          replace hA := hA.below hb_W1
          replace hB := below_step hB hb_W1
          have z_W1 := hb_W1.size
          clear hb_W1
          rw [h1]
          go_wp2_with fail
          go_ret2
          exact ⟨rfl, hB⟩
/-- What Plot tells. -/
def plotOf (p : List UInt8 × Int) : Value := if p.2 = 0 then .complex .f64 (zb (walkOf p.1).1) (zb (walkOf p.1).2) else .complex .f64 0 0
theorem partOf_le {t : List UInt8 × Bool} {a b : Int} (h : t.1.length ≤ 41) : (partOf t a b).1.length ≤ 41 := by
  unfold partOf
  split
  · simp
  · split
    · simp
    · simp; omega
set_option maxRecDepth 100000 in
set_option maxHeartbeats 2000000 in
theorem plot_calls (root id b : Int) (t : List UInt8 × Bool) (ht : pText s root id = some t) (hll : (lLen s (vOf s root).table) ≤ 50000) (w : World) (hA : AP w ap s O) :
    Calls Try.prog 12 #[ap, .int .i64 root, .int .i64 id, .int .i64 b] w fun e w' => e = .returned (.tuple #[plotOf (partOf t 0 b), .int .i64 (partOf t 0 b).2]) ∧ Below w.heap.size w w' := by
  have hle := partOf_le (a := 0) (b := b) (pText_le ht)
  have Ht := Lib.hid ht; clear ht
  unfold plotOf
  by_cases h1 : (partOf t 0 b).2 = 0
  · rw [if_pos h1]
    have d1 : ((partOf t 0 b).2 != 0) = false := by simp [h1]
    have H1 := Lib.hid h1; clear h1
    go_enter Try.func12, Try.ntmps12
    go_wp2_with fail
    refine calls_gen fun V hV_V => ?_
    have n_B : Below w.heap.size w V := nB hV_V
    have n_A : AP V ap s O := nA hV_V
    have z_V := Nat.le_of_eq (congrArg (fun v : World => v.heap.size) hV_V).symm
    try simp only [SZ] at z_V
    clear hV_V
    clear hA
    have hA := n_A
    clear n_A
    skip
    have hB := n_B
    clear n_B
    refine (part_calls _ _ _ _ _ Ht.out hll _ hA).mono ?_
    rintro e_W1 W1 ⟨rfl, hb_W1⟩
    replace hA := hA.below hb_W1
    replace hB := below_step hB hb_W1
    have z_W1 := hb_W1.size
    clear hb_W1
    go_wp2_with fail
    refine calls_gen fun V1 hV_V1 => ?_
    have n_B : Below w.heap.size w V1 := nB hV_V1
    have n_A : AP V1 ap s O := nA hV_V1
    have z_V1 := Nat.le_of_eq (congrArg (fun v : World => v.heap.size) hV_V1).symm
    try simp only [SZ] at z_V1
    clear hV_V1
    clear hA
    have hA := n_A
    clear n_A
    clear hB
    have hB := n_B
    clear n_B
    refine (wend_calls _ (by omega) _).mono ?_
    rintro e_W2 W2 ⟨rfl, hb_W2⟩
    replace hA := hA.below hb_W2
    replace hB := below_step hB hb_W2
    have z_W2 := hb_W2.size
    clear hb_W2
    go_wp2_with fail
    go_ret2
    exact ⟨by rw [H1.out]; rfl, hB⟩
  · rw [if_neg h1]
    have d1 : ((partOf t 0 b).2 != 0) = true := by simp [h1]
    clear h1
    go_enter Try.func12, Try.ntmps12
    go_wp2_with fail
    refine calls_gen fun V hV_V => ?_
    have n_B : Below w.heap.size w V := nB hV_V
    have n_A : AP V ap s O := nA hV_V
    have z_V := Nat.le_of_eq (congrArg (fun v : World => v.heap.size) hV_V).symm
    try simp only [SZ] at z_V
    clear hV_V
    clear hA
    have hA := n_A
    clear n_A
    skip
    have hB := n_B
    clear n_B
    refine (part_calls _ _ _ _ _ Ht.out hll _ hA).mono ?_
    rintro e_W1 W1 ⟨rfl, hb_W1⟩
    replace hA := hA.below hb_W1
    replace hB := below_step hB hb_W1
    have z_W1 := hb_W1.size
    clear hb_W1
    go_wp2_with fail
    go_ret2
    exact ⟨rfl, hB⟩
theorem own_mono {w : World} {base base' : Nat} {e : TypeId} {size n : Nat} {v : Value} {xs : List Value} (h : w.ownsRow base e size v n xs) (hb : base' ≤ base) : w.ownsRow base' e size v n xs := by
  refine ⟨h.1, ?_⟩
  rcases h.2 with h0 | ⟨g, cap, cur, hv, hg, hc⟩
  · exact .inl h0
  · exact .inr ⟨g, cap, cur, hv, Nat.le_trans hb hg, hc⟩
set_option maxRecDepth 100000 in
set_option maxHeartbeats 2000000 in
theorem pall_calls (root : Int) (l : List (Int × Int)) (hl : lAll s (vOf s root).table = some l) (hll : l.length ≤ 50000) (w : World) (hA : AP w ap s O) :
    Calls Try.prog 44 #[ap, .int .i64 root] w fun e w' => ∃ v, e = .returned v ∧ w'.ownsRow w.heap.size 76 2 v l.length (itemCells l) ∧ Below w.heap.size w w' := by
  have Hl := Lib.hid hl; clear hl
  go_enter Try.func44, Try.ntmps44
  go_wp2_with fail
  refine calls_gen fun V hV_V => ?_
  have n_B : Below w.heap.size w V := nB hV_V
  have n_A : AP V ap s O := nA hV_V
  have z_V := Nat.le_of_eq (congrArg (fun v : World => v.heap.size) hV_V).symm
  try simp only [SZ] at z_V
  clear hV_V
  clear hA
  have hA := n_A
  clear n_A
  skip
  have hB := n_B
  clear n_B
  refine (vOf_calls _ _ hA).mono ?_
  rintro e_W1 W1 ⟨rfl, hb_W1⟩
  replace hA := hA.below hb_W1
  replace hB := below_step hB hb_W1
  have z_W1 := hb_W1.size
  clear hb_W1
  unfold Parts.val
  go_wp2_with fail
  refine calls_gen fun V1 hV_V1 => ?_
  have n_kp := congrArg (fun v : World => v.heap[W1.heap.size]?) hV_V1
  simp (maxDischargeDepth := 9) only [BK, not_false_eq_true, reduceCtorEq] at n_kp
  have o_kp : ¬ O (W1.heap.size) := by first | exact hA.new (Nat.le_refl _) | exact hA.new (by omega)
  have n_B : Below w.heap.size w V1 := nB hV_V1
  have n_A : AP V1 ap s O := nA hV_V1
  have z_V1 := Nat.le_of_eq (congrArg (fun v : World => v.heap.size) hV_V1).symm
  try simp only [SZ] at z_V1
  clear hV_V1
  clear hA
  have hA := n_A
  clear n_A
  clear hB
  have hB := n_B
  clear n_B
  have kp := n_kp; clear n_kp
  have c_kp := cells_of kp
  have f_kp := free_of kp
  have l_kp_V1 := lt_of kp
  refine (lAll_calls _ l Hl.out hll _ hA).mono ?_
  rintro e2 W2 ⟨v, rfl, hown, hb2⟩
  have HB2 := Lib.hid (below_step hB hb2)
  have Hown := Lib.hid (own_mono (base' := w.heap.size) hown hB.size)
  obtain ⟨-, A, cap, rfl, -⟩ := Rx.of_own hown
  clear hown hb2 hB
  go_wp2_with fail
  go_ret
  exact ⟨_, rfl, Hown.out, HB2.out⟩
set_option maxRecDepth 100000 in
set_option maxHeartbeats 2000000 in
theorem lens_nil (root : Int) (hl : lAll s (vOf s root).table = some []) (w : World) (hA : AP w ap s O) :
    Calls Try.prog 18 #[ap, .int .i64 root] w fun e w' => e = .returned (.tuple #[.slice none 0 0, .slice none 0 0]) ∧ Below w.heap.size w w' := by
  go_enter Try.func18, Try.ntmps18
  go_wp2_with fail
  refine calls_gen fun V hV_V => ?_
  have n_B : Below w.heap.size w V := nB hV_V
  have n_A : AP V ap s O := nA hV_V
  have z_V := Nat.le_of_eq (congrArg (fun v : World => v.heap.size) hV_V).symm
  try simp only [SZ] at z_V
  clear hV_V
  clear hA
  have hA := n_A
  clear n_A
  skip
  have hB := n_B
  clear n_B
  refine (pall_calls _ [] hl (by simp) _ hA).mono ?_
  rintro e_W1 W1 ⟨v, rfl, hown, hb_W1⟩
  replace hA := hA.below hb_W1
  replace hB := below_step hB hb_W1
  have z_W1 := hb_W1.size
  clear hb_W1
  obtain ⟨-, A, cap, rfl, -⟩ := Rx.of_own hown
  clear hown
  have HB := Lib.hid hB; clear hB
  go_wp2_with fail
  go_loopg [6, 7, 14] 1 (fun k a b p wr => a = .slice none 0 0 ∧ b = .slice none 0 0 ∧ p = .int .i64 0 ∧ Hid (Below w.heap.size w wr) ∧ k = k)
  case atStart => exact ⟨rfl, rfl, rfl, HB, rfl⟩
  case round =>
    obtain ⟨rfl, rfl, rfl, HB2, -⟩ := hrel
    go_wp2_with fail
    go_ret2
    exact ⟨rfl, HB2.out⟩
set_option maxRecDepth 100000 in
set_option maxHeartbeats 2000000 in
theorem docs_nil (root : Int) (hl : lAll s (vOf s root).table = some []) (w : World) (hA : AP w ap s O) :
    Calls Try.prog 19 #[ap, .int .i64 root] w fun e w' => e = .returned (.slice none 0 0) ∧ Below w.heap.size w w' := by
  go_enter Try.func19, Try.ntmps19
  go_wp2_with fail
  refine calls_gen fun V hV_V => ?_
  have n_B : Below w.heap.size w V := nB hV_V
  have n_A : AP V ap s O := nA hV_V
  have z_V := Nat.le_of_eq (congrArg (fun v : World => v.heap.size) hV_V).symm
  try simp only [SZ] at z_V
  clear hV_V
  clear hA
  have hA := n_A
  clear n_A
  skip
  have hB := n_B
  clear n_B
  refine (pall_calls _ [] hl (by simp) _ hA).mono ?_
  rintro e_W1 W1 ⟨v, rfl, hown, hb_W1⟩
  replace hA := hA.below hb_W1
  replace hB := below_step hB hb_W1
  have z_W1 := hb_W1.size
  clear hb_W1
  obtain ⟨-, A, cap, rfl, -⟩ := Rx.of_own hown
  clear hown
  have HB := Lib.hid hB; clear hB
  go_wp2_with fail
  go_loopg [5, 14] 1 (fun k a p wr => a = .slice none 0 0 ∧ p = .int .i64 0 ∧ Hid (Below w.heap.size w wr) ∧ k = k)
  case atStart => exact ⟨rfl, rfl, HB, rfl⟩
  case round =>
    obtain ⟨rfl, rfl, HB2, -⟩ := hrel
    go_wp2_with fail
    go_ret
    exact ⟨rfl, HB2.out⟩
end Go.Proofs.Ytkgabbenmoocgaa
