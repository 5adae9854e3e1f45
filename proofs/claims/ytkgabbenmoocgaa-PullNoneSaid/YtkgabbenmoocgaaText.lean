/- A document's text; a part of it. -/
import Derived.Test.YtkgabbenmoocgaaVersion
import Derived.Test.YtkgabbenmoocgaaRev
import Derived.Laws.IdiomStrings
namespace Go.Proofs.Ytkgabbenmoocgaa
set_option linter.unusedSimpArgs false
set_option linter.unusedVariables false
set_option linter.unnecessarySimpa false
open Go.RowKit
attribute [local go_sem ↓] Go.wp_at_zero Go.wp_at_succ
attribute [local go_sem] lt_s2 lt_s3 lt_s4
attribute [local go_sem] idx0 idx1 idx2 idx3
variable {ap : Value} {s : Ar} {O : Nat → Prop}
/-- The string of bytes. -/
def strOf (l : List UInt8) : Value := .string ⟨l.toArray⟩
theorem conv_bytes {w : World} {base cap : Nat} {A : Option Addr} {l : List UInt8} (h : w.ownsRow base 5 1 (.slice A l.length cap) l.length (byteCells l)) :
    (convert 85 9 (.slice A l.length cap)).run Try.prog w = .ok (strOf l) w := by
  obtain ⟨-, A', cap', hv, h2⟩ := Rx.of_own h
  obtain ⟨rfl, -, rfl⟩ := Value.slice.inj hv
  cases A with
  | none =>
    have h0 : l.length = 0 := by
      rcases Nat.eq_zero_or_pos l.length with h0 | h0
      · exact h0
      · obtain ⟨g, hg, -⟩ := h2 h0; cases hg
    obtain rfl : l = [] := List.eq_nil_of_length_eq_zero h0
    rw [run_convert_bytes_string w 85 9 5 none _ _ Try.underlying85 (by kernel_rfl) (by kernel_rfl)]
    rfl
  | some a =>
    exact run_convert_bytes_back w 85 9 5 a cap l Try.underlying85 (by kernel_rfl) (by kernel_rfl) (fun j hj => by
      obtain ⟨g, hg, -, hc⟩ := h2 (by omega)
      obtain rfl := Option.some.inj hg
      rw [show (⟨g, 0, none⟩ : Addr).add j = ⟨g, j, none⟩ by unfold Addr.add; split <;> simp_all]
      exact (hc j (by omega)).trans (byteCells_at (List.getElem?_eq_getElem hj)))
theorem textL_le : ∀ (k : Nat) (s : Ar) (root row : Int) (b r : List UInt8), textL k s root row b = some r → b.length ≤ 40 → r.length ≤ 41
  | 0, s, root, row, b, r, h, hb => by cases h
  | k + 1, s, root, row, b, r, h, hb => by
    unfold textL at h
    obtain ⟨x, hx, h⟩ := Option.bind_eq_some_iff.1 h
    obtain ⟨y, hy, h⟩ := Option.bind_eq_some_iff.1 h
    have h1 : (if symOk x.1 then b ++ [symU x.1] else b).length ≤ 41 := by
      split
      · rw [List.length_append]; simp; omega
      · omega
    generalize (if symOk x.1 then b ++ [symU x.1] else b) = c at h h1
    by_cases hc : (y.2 && decide (c.length ≤ 40)) = true
    · rw [if_pos hc] at h
      simp only [Bool.and_eq_true, decide_eq_true_eq] at hc
      exact textL_le k s root y.1 c r h hc.2
    · rw [if_neg hc] at h; cases h; exact h1
set_option maxRecDepth 100000 in
set_option maxHeartbeats 4000000 in
theorem text_there (root id : Int) (p : Int) (b : List UInt8) (l : List (Int × Int)) (hl : lAll s (vOf s root).table = some l) (hll : l.length ≤ 50000) (hp : placeIn id l 0 = (p, true)) (hb : textL rounds s root p [] = some b) (w : World) (hA : AP w ap s O) :
    Calls Try.prog 17 #[ap, .int .i64 root, .int .i64 id] w fun e w' => e = .returned (.tuple #[strOf b.reverse, .bool true]) ∧ Below w.heap.size w w' := by
  have Hl := Lib.hid hl; have Hp := Lib.hid hp; have Hb := Lib.hid hb; clear hl hp hb
  have hA0 := Lib.hid hA
  go_enter Try.func17, Try.ntmps17
  go_wp2_with fail
  refine calls_gen fun V hV_V => ?_
  have n_B : Below w.heap.size w V := nB hV_V
  have n_A : AP V ap s O := nA hV_V
  have z_V := Nat.le_of_eq (congrArg (fun v : World => v.heap.size) hV_V).symm
  try simp only [SZ] at z_V
  clear hV_V
  clear hA
  have hA := n_A
  clear n_A
  skip
  have hB := n_B
  clear n_B
  refine (vOf_calls _ _ hA).mono ?_
  rintro e_W1 W1 ⟨rfl, hb_W1⟩
  replace hA := hA.below hb_W1
  replace hB := below_step hB hb_W1
  have z_W1 := hb_W1.size
  clear hb_W1
  unfold Parts.val
  go_wp2_with fail
  refine calls_gen fun V1 hV_V1 => ?_
  have n_kp := congrArg (fun v : World => v.heap[W1.heap.size]?) hV_V1
  simp (maxDischargeDepth := 9) only [BK, not_false_eq_true, reduceCtorEq] at n_kp
  have o_kp : ¬ O (W1.heap.size) := by first | exact hA.new (Nat.le_refl _) | exact hA.new (by omega)
  have n_B : Below w.heap.size w V1 := nB hV_V1
  have n_A : AP V1 ap s O := nA hV_V1
  have z_V1 := Nat.le_of_eq (congrArg (fun v : World => v.heap.size) hV_V1).symm
  try simp only [SZ] at z_V1
  clear hV_V1
  clear hA
  have hA := n_A
  clear n_A
  clear hB
  have hB := n_B
  clear n_B
  have kp := n_kp; clear n_kp
  have c_kp := cells_of kp
  have f_kp := free_of kp
  have l_kp_V1 := lt_of kp
  refine (tPlace_calls _ _ l Hl.out hll _ hA).mono ?_
  rintro e_W2 W2 ⟨rfl, hb_W2⟩
  replace hA := hA.below hb_W2
  replace hB := below_step hB hb_W2
  replace kp := keep_blk hb_W2 kp
  have c_kp := cells_of kp
  have f_kp := free_of kp
  have l_kp_W2 := lt_of kp
  have z_W2 := hb_W2.size
  clear hb_W2
  rw [Hp.out]
  go_wp2_with fail
  refine wp_gen fun V2 hV_V2 => ?_
  have n_kp := congrArg (fun v : World => v.heap[W1.heap.size]?) hV_V2
  simp (maxDischargeDepth := 9) only [BK, not_false_eq_true, reduceCtorEq, kp, l_kp_V1, l_kp_W2] at n_kp
  have n_B : Below w.heap.size w V2 := nB hV_V2
  have n_A : AP V2 ap s O := nA hV_V2
  have z_V2 := Nat.le_of_eq (congrArg (fun v : World => v.heap.size) hV_V2).symm
  try simp only [SZ] at z_V2
  clear kp c_kp f_kp
  clear hV_V2
  clear hA
  have hA := n_A
  clear n_A
  clear hB
  have hB := n_B
  clear n_B
  have kp := n_kp; clear n_kp
  have c_kp := cells_of kp
  have f_kp := free_of kp
  have l_kp_V2 := lt_of kp
  have HA2 := Lib.hid hA; have KP2 := Lib.hid kp; have HB2 := Lib.hid hB
  have hb2 := hB.size
  go_loopg [10, 12, 13] rounds (fun k q v m wr => ∃ (row : Int) (b1 : List UInt8), q = .int .i64 row ∧ b1.length ≤ 41 ∧ Hid (wr.ownsRow V2.heap.size 5 1 v b1.length (byteCells b1)) ∧ Hid (Below V2.heap.size V2 wr) ∧ ((m = .bool true ∧ b1.length ≤ 40 ∧ Hid (textL k s root row b1 = some b)) ∨ (m = .bool false ∧ b1 = b)))
  case atStart => exact ⟨p, [], rfl, by simp, Lib.hid (own_nil _ _ _ _), Lib.hid (Below.refl _ _), .inl ⟨rfl, by simp, Hb⟩⟩
  case round =>
    clear kp c_kp f_kp hA hB
    obtain ⟨row, b1, rfl, hb1, Hown, HB0, ⟨rfl, hb2', Ht⟩ | ⟨rfl, rfl⟩⟩ := hrel
    · have hA := HA2.out.below HB0.out
      have ht := Ht.out
      clear Ht
      cases gk with
      | zero => exact absurd ht (by simp [textL])
      | succ k =>
        unfold textL at ht
        obtain ⟨x, hx, ht⟩ := Option.bind_eq_some_iff.1 ht
        obtain ⟨y, hy, ht⟩ := Option.bind_eq_some_iff.1 ht
        have Hx := Lib.hid hx; have Hy := Lib.hid hy; clear hx hy
        have hw0 := HB0.out.size
        have kp := keep_blk HB0.out KP2.out
        have hB := Below.refl wr.heap.size wr
        have c_kp := cells_of kp
        have f_kp := free_of kp
        have l_kp_wr := lt_of kp
        go_wp2_with fail
        refine calls_gen fun V3 hV_V3 => ?_
        have n_kp := congrArg (fun v : World => v.heap[W1.heap.size]?) hV_V3
        simp (maxDischargeDepth := 9) only [BK, not_false_eq_true, reduceCtorEq, kp, l_kp_wr] at n_kp
        have n_B : Below wr.heap.size wr V3 := nB hV_V3
        have n_A : AP V3 ap s O := nA hV_V3
        have z_V3 := Nat.le_of_eq (congrArg (fun v : World => v.heap.size) hV_V3).symm
        try simp only [SZ] at z_V3
        clear kp c_kp f_kp
        clear hV_V3
        clear hA
        have hA := n_A
        clear n_A
        clear hB
        have hB := n_B
        clear n_B
        have kp := n_kp; clear n_kp
        have c_kp := cells_of kp
        have f_kp := free_of kp
        have l_kp_V3 := lt_of kp
        refine (wGet_calls _ _ _ Hx.out _ hA).mono ?_
        rintro e_W3 W3 ⟨rfl, hb_W3⟩
        replace hA := hA.below hb_W3
        replace hB := below_step hB hb_W3
        replace kp := keep_blk hb_W3 kp
        have c_kp := cells_of kp
        have f_kp := free_of kp
        have l_kp_W3 := lt_of kp
        have z_W3 := hb_W3.size
        clear hb_W3
        cases hs : symOk x.1 with
        | true =>
          rw [hs, if_pos rfl] at ht
          go_wp2_with fail
          refine calls_gen fun V4 hV_V4 => ?_
          have n_kp := congrArg (fun v : World => v.heap[W1.heap.size]?) hV_V4
          simp (maxDischargeDepth := 9) only [BK, not_false_eq_true, reduceCtorEq, kp, l_kp_wr, l_kp_V3, l_kp_W3] at n_kp
          have n_B : Below wr.heap.size wr V4 := nB hV_V4
          have n_A : AP V4 ap s O := nA hV_V4
          have z_V4 := Nat.le_of_eq (congrArg (fun v : World => v.heap.size) hV_V4).symm
          try simp only [SZ] at z_V4
          clear kp c_kp f_kp
          clear hV_V4
          clear hA
          have hA := n_A
          clear n_A
          clear hB
          have hB := n_B
          clear n_B
          have kp := n_kp; clear n_kp
          have c_kp := cells_of kp
          have f_kp := free_of kp
          have l_kp_V4 := lt_of kp
          refine (symByte_calls _ _).mono ?_
          rintro e_q w_q ⟨rfl, rfl⟩
          rw [hs, if_pos rfl]
          have hown := own_below Hown.out hB
          have HB4 := Lib.hid (below_step HB0.out hB)
          clear Hown hB
          go_wp2_with (at_builtin; refine wpList_push _ (by rfl) _ _ 85 (by rfl) (V2.heap.size) 5 (.int .u8 0) 1 1 Try.underlying85 (by kernel_rfl) (by rfl) (by omega) _ _ _ (by rfl) hown _ (by rfl) (by rfl) (by simp [Value.oneCell']) (by unfold maxLen; omega) (by omega) (by omega) ?_; intro g_W c_W W5 hown_W hlow_W hlt_W)
          have HB5 := Lib.hid (low_step HB4.out (Nat.le_refl _) hlow_W)
          have Hown5 : Hid (W5.ownsRow V2.heap.size 5 1 (.slice (some ⟨g_W, 0, none⟩) (b1.length + 1) c_W) (b1.length + 1) (byteCells (b1 ++ [symU x.1]))) := Lib.hid (by unfold byteCells; rw [List.map_append]; exact hown_W)
          clear hown_W hlow_W HB4 kp c_kp f_kp hA hown
          have hA := HA2.out.below HB5.out
          have kp := keep_blk HB5.out KP2.out
          have hB := Below.refl W5.heap.size W5
          have c_kp := cells_of kp
          have f_kp := free_of kp
          have l_kp_W5 := lt_of kp
          go_wp2_with fail
          refine calls_gen fun V6 hV_V6 => ?_
          have n_kp := congrArg (fun v : World => v.heap[W1.heap.size]?) hV_V6
          simp (maxDischargeDepth := 9) only [BK, not_false_eq_true, reduceCtorEq, kp, l_kp_W5] at n_kp
          have n_B : Below W5.heap.size W5 V6 := nB hV_V6
          have n_A : AP V6 ap s O := nA hV_V6
          have z_V6 := Nat.le_of_eq (congrArg (fun v : World => v.heap.size) hV_V6).symm
          try simp only [SZ] at z_V6
          clear kp c_kp f_kp
          clear hV_V6
          clear hA
          have hA := n_A
          clear n_A
          clear hB
          have hB := n_B
          clear n_B
          have kp := n_kp; clear n_kp
          have c_kp := cells_of kp
          have f_kp := free_of kp
          have l_kp_V6 := lt_of kp
          refine (vNext_calls _ _ _ Hy.out _ hA).mono ?_
          rintro e_W6 W6 ⟨rfl, hb_W6⟩
          replace hA := hA.below hb_W6
          replace hB := below_step hB hb_W6
          replace kp := keep_blk hb_W6 kp
          have c_kp := cells_of kp
          have f_kp := free_of kp
          have l_kp_W6 := lt_of kp
          have z_W6 := hb_W6.size
          clear hb_W6
          have HB6 := Lib.hid (below_step HB5.out hB)
          have Hown6 := Lib.hid (own_below Hown5.out hB)
          cases hy2 : y.2 with
          | false =>
            rw [hy2] at ht
            rw [Bool.false_and, if_neg (by decide)] at ht
            obtain rfl := Option.some.inj ht
            clear ht
            go_wp2_with fail
            go_roundg k
            case measure => omega
            case rel => exact ⟨y.1, _, rfl, by simp; omega, by simpa using Hown6, HB6, .inr ⟨rfl, rfl⟩⟩
          | true =>
            rw [hy2, Bool.true_and] at ht
            by_cases hc : (b1 ++ [symU x.1]).length ≤ 40
            · rw [if_pos (by simpa using hc)] at ht
              have Ht := Lib.hid ht; clear ht
              have d5 : decide (((b1.length : Int) + 1 : Int) ≤ 40) = true := by simp at hc ⊢; omega
              have Hc := Lib.hid hc; clear hc
              go_wp2_with fail
              go_roundg k
              case measure => omega
              case rel => exact ⟨y.1, _, rfl, by simp; omega, by simpa using Hown6, HB6, .inl ⟨rfl, Hc.out, Ht⟩⟩
            · rw [if_neg (by simpa using hc)] at ht
              have d5 : decide (((b1.length : Int) + 1 : Int) ≤ 40) = false := by simp at hc ⊢; omega
              obtain rfl := Option.some.inj ht
              clear ht hc
              go_wp2_with fail
              go_roundg k
              case measure => omega
              case rel => exact ⟨y.1, _, rfl, by simp; omega, by simpa using Hown6, HB6, .inr ⟨rfl, rfl⟩⟩
        | false =>
          rw [hs] at ht
          simp only [Bool.false_eq_true, ↓reduceIte] at ht
          go_wp2_with fail
          refine calls_gen fun V4 hV_V4 => ?_
          have n_kp := congrArg (fun v : World => v.heap[W1.heap.size]?) hV_V4
          simp (maxDischargeDepth := 9) only [BK, not_false_eq_true, reduceCtorEq, kp, l_kp_wr, l_kp_V3, l_kp_W3] at n_kp
          have n_B : Below wr.heap.size wr V4 := nB hV_V4
          have n_A : AP V4 ap s O := nA hV_V4
          have z_V4 := Nat.le_of_eq (congrArg (fun v : World => v.heap.size) hV_V4).symm
          try simp only [SZ] at z_V4
          clear kp c_kp f_kp
          clear hV_V4
          clear hA
          have hA := n_A
          clear n_A
          clear hB
          have hB := n_B
          clear n_B
          have kp := n_kp; clear n_kp
          have c_kp := cells_of kp
          have f_kp := free_of kp
          have l_kp_V4 := lt_of kp
          refine (symByte_calls _ _).mono ?_
          rintro e_q w_q ⟨rfl, rfl⟩
          rw [hs]
          go_wp2_with fail
          refine calls_gen fun V6 hV_V6 => ?_
          have n_kp := congrArg (fun v : World => v.heap[W1.heap.size]?) hV_V6
          simp (maxDischargeDepth := 9) only [BK, not_false_eq_true, reduceCtorEq, kp, l_kp_wr, l_kp_V3, l_kp_W3, l_kp_V4] at n_kp
          have n_B : Below wr.heap.size wr V6 := nB hV_V6
          have n_A : AP V6 ap s O := nA hV_V6
          have z_V6 := Nat.le_of_eq (congrArg (fun v : World => v.heap.size) hV_V6).symm
          try simp only [SZ] at z_V6
          clear kp c_kp f_kp
          clear hV_V6
          clear hA
          have hA := n_A
          clear n_A
          clear hB
          have hB := n_B
          clear n_B
          have kp := n_kp; clear n_kp
          have c_kp := cells_of kp
          have f_kp := free_of kp
          have l_kp_V6 := lt_of kp
          refine (vNext_calls _ _ _ Hy.out _ hA).mono ?_
          rintro e_W6 W6 ⟨rfl, hb_W6⟩
          replace hA := hA.below hb_W6
          replace hB := below_step hB hb_W6
          replace kp := keep_blk hb_W6 kp
          have c_kp := cells_of kp
          have f_kp := free_of kp
          have l_kp_W6 := lt_of kp
          have z_W6 := hb_W6.size
          clear hb_W6
          have HB6 := Lib.hid (below_step HB0.out hB)
          have Hown6 := Lib.hid (own_below Hown.out hB)
          obtain ⟨-, A1, c1, rfl, -⟩ := Rx.of_own Hown6.out
          cases hy2 : y.2 with
          | false =>
            rw [hy2] at ht
            rw [Bool.false_and, if_neg (by decide)] at ht
            obtain rfl := Option.some.inj ht
            clear ht
            go_wp2_with fail
            go_roundg k
            case measure => omega
            case rel => exact ⟨y.1, _, rfl, by omega, Hown6, HB6, .inr ⟨rfl, rfl⟩⟩
          | true =>
            rw [hy2, Bool.true_and] at ht
            by_cases hc : (b1).length ≤ 40
            · rw [if_pos (by simpa using hc)] at ht
              have Ht := Lib.hid ht; clear ht
              have d5 : decide (((b1.length : Int) : Int) ≤ 40) = true := by simp at hc ⊢; omega
              have Hc := Lib.hid hc; clear hc
              go_wp2_with fail
              go_roundg k
              case measure => omega
              case rel => exact ⟨y.1, _, rfl, by omega, Hown6, HB6, .inl ⟨rfl, Hc.out, Ht⟩⟩
            · rw [if_neg (by simpa using hc)] at ht
              have d5 : decide (((b1.length : Int) : Int) ≤ 40) = false := by simp at hc ⊢; omega
              obtain rfl := Option.some.inj ht
              clear ht hc
              go_wp2_with fail
              go_roundg k
              case measure => omega
              case rel => exact ⟨y.1, _, rfl, by omega, Hown6, HB6, .inr ⟨rfl, rfl⟩⟩
    · obtain ⟨hx1, A1, c1, rfl, hx2⟩ := Rx.of_own Hown.out
      have hwr := HB0.out.size
      have hA := HA2.out.below HB0.out
      have hB := Below.refl wr.heap.size wr
      go_wp2_with fail
      refine calls_gen fun V7 hV_V7 => ?_
      have n_B : Below wr.heap.size wr V7 := nB hV_V7
      have n_A : AP V7 ap s O := nA hV_V7
      have z_V7 := Nat.le_of_eq (congrArg (fun v : World => v.heap.size) hV_V7).symm
      try simp only [SZ] at z_V7
      clear hV_V7
      clear hA
      have hA := n_A
      clear n_A
      clear hB
      have hB := n_B
      clear n_B
      have hown := own_below Hown.out hB
      have HB7 := Lib.hid (below_step HB0.out hB)
      have hsz7 := HB7.out.size
      clear hB
      refine (reverse_calls V2.heap.size _ b1 (by omega) _ hsz7 hown).mono ?_
      rintro e8 W8 ⟨rfl, hown8, hlow8, hsz8⟩
      have hown9 : W8.ownsRow V2.heap.size 5 1 (.slice A1 b1.reverse.length c1) b1.reverse.length (byteCells b1.reverse) := by rw [List.length_reverse]; exact hown8
      have hcv := conv_bytes hown9
      rw [List.length_reverse] at hcv
      have Hfin : Hid (Below w.heap.size w W8) := Lib.hid (below_step HB2.out (low_step HB7.out (Nat.le_refl _) hlow8))
      clear hown9 hown8 hlow8 hsz8 hown
      go_wp2_with fail
      go_ret2
      exact ⟨rfl, Hfin.out⟩
set_option maxRecDepth 100000 in
set_option maxHeartbeats 2000000 in
theorem text_none (root id : Int) (p : Int) (l : List (Int × Int)) (hl : lAll s (vOf s root).table = some l) (hll : l.length ≤ 50000) (hp : placeIn id l 0 = (p, false)) (w : World) (hA : AP w ap s O) :
    Calls Try.prog 17 #[ap, .int .i64 root, .int .i64 id] w fun e w' => e = .returned (.tuple #[strOf [], .bool false]) ∧ Below w.heap.size w w' := by
  have Hl := Lib.hid hl; have Hp := Lib.hid hp; clear hl hp
  go_enter Try.func17, Try.ntmps17
  go_wp2_with fail
  refine calls_gen fun V hV_V => ?_
  have n_B : Below w.heap.size w V := nB hV_V
  have n_A : AP V ap s O := nA hV_V
  have z_V := Nat.le_of_eq (congrArg (fun v : World => v.heap.size) hV_V).symm
  try simp only [SZ] at z_V
  clear hV_V
  clear hA
  have hA := n_A
  clear n_A
  skip
  have hB := n_B
  clear n_B
  refine (vOf_calls _ _ hA).mono ?_
  rintro e_W1 W1 ⟨rfl, hb_W1⟩
  replace hA := hA.below hb_W1
  replace hB := below_step hB hb_W1
  have z_W1 := hb_W1.size
  clear hb_W1
  unfold Parts.val
  go_wp2_with fail
  refine calls_gen fun V1 hV_V1 => ?_
  have n_kp := congrArg (fun v : World => v.heap[W1.heap.size]?) hV_V1
  simp (maxDischargeDepth := 9) only [BK, not_false_eq_true, reduceCtorEq] at n_kp
  have o_kp : ¬ O (W1.heap.size) := by first | exact hA.new (Nat.le_refl _) | exact hA.new (by omega)
  have n_B : Below w.heap.size w V1 := nB hV_V1
  have n_A : AP V1 ap s O := nA hV_V1
  have z_V1 := Nat.le_of_eq (congrArg (fun v : World => v.heap.size) hV_V1).symm
  try simp only [SZ] at z_V1
  clear hV_V1
  clear hA
  have hA := n_A
  clear n_A
  clear hB
  have hB := n_B
  clear n_B
  have kp := n_kp; clear n_kp
  have c_kp := cells_of kp
  have f_kp := free_of kp
  have l_kp_V1 := lt_of kp
  refine (tPlace_calls _ _ l Hl.out hll _ hA).mono ?_
  rintro e_W2 W2 ⟨rfl, hb_W2⟩
  replace hA := hA.below hb_W2
  replace hB := below_step hB hb_W2
  replace kp := keep_blk hb_W2 kp
  have c_kp := cells_of kp
  have f_kp := free_of kp
  have l_kp_W2 := lt_of kp
  have z_W2 := hb_W2.size
  clear hb_W2
  rw [Hp.out]
  go_wp2_with fail
  go_ret2
  exact ⟨rfl, hB⟩
theorem text_calls (root id : Int) (t : List UInt8 × Bool) (ht : pText s root id = some t) (hll : (lLen s (vOf s root).table) ≤ 50000) (w : World) (hA : AP w ap s O) :
    Calls Try.prog 17 #[ap, .int .i64 root, .int .i64 id] w fun e w' => e = .returned (.tuple #[strOf t.1, .bool t.2]) ∧ Below w.heap.size w w' := by
  unfold pText at ht
  obtain ⟨p, hp, ht⟩ := Option.bind_eq_some_iff.1 ht
  unfold tPlace at hp
  obtain ⟨l, hl, hp⟩ := Option.map_eq_some_iff.1 hp
  have hlen : l.length ≤ 50000 := by
    have := eachO_len _ _ _ hl
    omega
  obtain ⟨i, is⟩ := p
  cases is with
  | false =>
    rw [if_neg (by simp)] at ht
    obtain rfl := Option.some.inj ht
    exact text_none root id i l hl hlen hp w hA
  | true =>
    rw [if_pos rfl] at ht
    obtain ⟨b, hb, rfl⟩ := Option.map_eq_some_iff.1 ht
    exact text_there root id i b l hl hlen hp hb w hA
theorem pText_le {root id : Int} {t : List UInt8 × Bool} (ht : pText s root id = some t) : t.1.length ≤ 41 := by
  unfold pText at ht
  obtain ⟨p, hp, ht⟩ := Option.bind_eq_some_iff.1 ht
  split at ht
  · obtain ⟨b, hb, rfl⟩ := Option.map_eq_some_iff.1 ht
    have := textL_le _ _ _ _ _ _ hb (by simp)
    simpa using this
  · cases ht; simp
end Go.Proofs.Ytkgabbenmoocgaa
