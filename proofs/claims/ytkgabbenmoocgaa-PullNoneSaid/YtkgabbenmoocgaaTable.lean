/- Tables: a document's place. -/
import Derived.Test.YtkgabbenmoocgaaLAll
import Derived.Test.YtkgabbenmoocgaaLInsert
namespace Go.Proofs.Ytkgabbenmoocgaa
set_option linter.unusedSimpArgs false
set_option linter.unusedVariables false
set_option linter.unnecessarySimpa false
open Go.RowKit
attribute [local go_sem ↓] Go.wp_at_zero Go.wp_at_succ
attribute [local go_sem] lt_s2 lt_s3 lt_s4
attribute [local go_sem] idx0 idx1 idx2 idx3
variable {ap : Value} {s : Ar} {O : Nat → Prop}
theorem itemCells_length (l : List (Int × Int)) : (itemCells l).length = l.length * 2 := by
  induction l with
  | nil => rfl
  | cons x l ih => simp [itemCells, ih]; omega
theorem itemCells_at (l : List (Int × Int)) (i : Nat) (x : Int × Int) (h : l[i]? = some x) : (itemCells l)[i * 2]? = some (.int .i64 x.1) ∧ (itemCells l)[i * 2 + 1]? = some (.int .i64 x.2) := by
  induction l generalizing i with
  | nil => simp at h
  | cons y l ih =>
    cases i with
    | zero => simp at h; subst h; exact ⟨rfl, rfl⟩
    | succ i =>
      have := ih i (by simpa using h)
      rw [show (i + 1) * 2 = i * 2 + 1 + 1 by omega]
      exact this
theorem tLen_calls (h : Int) (w : World) (hA : AP w ap s O) :
    Calls Try.prog 46 #[ap, .int .i64 h] w fun e w' => e = .returned (.int .i64 (lLen s h)) ∧ Below w.heap.size w w' := by
  go_enter Try.func46, Try.ntmps46
  go_wp2_with fail
  refine calls_gen fun V hV_V => ?_
  have n_B : Below w.heap.size w V := nB hV_V
  have n_A : AP V ap s O := nA hV_V
  have z_V := Nat.le_of_eq (congrArg (fun v : World => v.heap.size) hV_V).symm
  try simp only [SZ] at z_V
  clear hV_V
  clear hA
  have hA := n_A
  clear n_A
  skip
  have hB := n_B
  clear n_B
  refine (lLen_calls _ _ hA).mono ?_
  rintro e_W1 W1 ⟨rfl, hb_W1⟩
  replace hA := hA.below hb_W1
  replace hB := below_step hB hb_W1
  have z_W1 := hb_W1.size
  clear hb_W1
  go_wp2_with fail
  go_ret
  exact ⟨rfl, hB⟩
set_option maxRecDepth 100000 in
set_option maxHeartbeats 2000000 in
theorem tPlace_calls (h id : Int) (l : List (Int × Int)) (hr : lAll s h = some l) (hl : l.length ≤ 50000) (w : World) (hA : AP w ap s O) :
    Calls Try.prog 39 #[ap, .int .i64 h, .int .i64 id] w fun e w' => e = .returned (.tuple #[.int .i64 (placeIn id l 0).1, .bool (placeIn id l 0).2]) ∧ Below w.heap.size w w' := by
  have Hr := Lib.hid hr; clear hr
  obtain ⟨R, hR⟩ : ∃ R, R = placeIn id l 0 := ⟨_, rfl⟩
  rw [← hR]
  have HR := Lib.hid hR; clear hR
  go_enter Try.func39, Try.ntmps39
  go_wp2_with fail
  refine calls_gen fun V hV_V => ?_
  have n_B : Below w.heap.size w V := nB hV_V
  have n_A : AP V ap s O := nA hV_V
  have z_V := Nat.le_of_eq (congrArg (fun v : World => v.heap.size) hV_V).symm
  try simp only [SZ] at z_V
  clear hV_V
  clear hA
  have hA := n_A
  clear n_A
  skip
  have hB := n_B
  clear n_B
  refine (lAll_calls _ l Hr.out hl _ hA).mono ?_
  rintro e_W1 W1 ⟨v, rfl, hown, hb_W1⟩
  replace hA := hA.below hb_W1
  replace hB := below_step hB hb_W1
  have z_W1 := hb_W1.size
  clear hb_W1
  obtain ⟨hx1, A, cap, rfl, hx2⟩ := Rx.of_own hown
  clear hown hA
  have HB1 := Lib.hid hB; clear hB
  go_wp2_with fail
  go_loopg [14] l.length (fun k p wr => ∃ i : Nat, p = .int .i64 (i : Int) ∧ i + k = l.length ∧ Hid (placeIn id (l.drop i) i = R) ∧ Below W1.heap.size W1 wr)
  case atStart => exact ⟨0, rfl, by omega, Lib.hid HR.out.symm, Below.refl _ _⟩
  case round =>
    obtain ⟨i, rfl, hk, Hp, hB⟩ := hrel
    by_cases hlt : i < l.length
    · have d1 : decide ((i : Int) < (l.length : Int)) = true := by simpa using hlt
      obtain ⟨k, rfl⟩ : ∃ k, gk = k + 1 := ⟨gk - 1, by omega⟩
      obtain ⟨g, rfl, hg, hc⟩ := hx2 (by omega)
      obtain ⟨x, hx⟩ : ∃ x, l[i]? = some x := ⟨l[i], by simp [hlt]⟩
      have hp := Hp.out
      have hd : l.drop i = x :: l.drop (i + 1) := by rw [List.drop_eq_getElem_cons hlt]; congr 1; exact Option.some.inj ((List.getElem?_eq_getElem hlt).symm.trans hx)
      rw [hd] at hp
      unfold placeIn at hp
      have c1 : wr.cell? ⟨g, i * 2, none⟩ = some (.int .i64 x.1) := ((hB.cell (by exact hg)).trans (hc _ (by omega))).trans (itemCells_at l i x hx).1
      have c2 : wr.cell? ⟨g, i * 2 + 1, none⟩ = some (.int .i64 x.2) := ((hB.cell (by exact hg)).trans (hc _ (by omega))).trans (itemCells_at l i x hx).2
      clear hx2 hc Hp hd hx hx1
      by_cases he : x.1 = id
      · have d2 : (x.1 == id) = true := by simpa using he
        rw [if_pos he] at hp
        have Hp := Lib.hid hp; clear hp he
        go_wp2_with fail
        go_ret2
        have hb := below_step HB1.out hB
        exact ⟨by rw [← Hp.out]; rfl, hb.alloc hb.size _⟩
      · have d2 : (x.1 == id) = false := by simpa using he
        rw [if_neg he] at hp
        have Hp := Lib.hid hp; clear hp he
        go_wp2_with fail
        go_roundg k
        case measure => omega
        case rel => exact ⟨i + 1, by simp, by omega, Lib.hid (by rw [show ((i + 1 : Nat) : Int) = (i : Int) + 1 from rfl]; exact Hp.out), hB.alloc hB.size _⟩
    · have d1 : decide ((i : Int) < (l.length : Int)) = false := by simpa using hlt
      have hi : i = l.length := by omega
      have hp := Hp.out
      rw [hi, List.drop_length] at hp
      unfold placeIn at hp
      have Hp2 := Lib.hid hp; clear hp Hp
      go_wp2_with fail
      go_ret2
      exact ⟨by rw [← Hp2.out]; rfl, below_step HB1.out hB⟩
set_option maxRecDepth 100000 in
set_option maxHeartbeats 4000000 in
theorem tAdd_calls (h id len : Int) (l : List (Int × Int)) (hr : lAll s h = some l) (hl : l.length ≤ 50000) (r : Int × Int × Ar) (h2 : tAdd s h id len = some r) (w : World) (hA : AP w ap s O) :
    Calls Try.prog 32 #[ap, .int .i64 h, .int .i64 id, .int .i64 len] w fun e w' => e = .returned (.tuple #[.int .i64 r.1, .int .i64 r.2.1]) ∧ Did noX ap r.2.2 O w w' := by
  unfold tAdd tPlace at h2
  rw [hr] at h2
  simp only [Option.map_some, Option.bind_some] at h2
  have Hr := Lib.hid hr; clear hr
  by_cases c : id < 1 ∨ (placeIn id l 0).2 = true ∨ len < 0 ∨ 40 < len
  · rw [if_pos c] at h2
    obtain rfl := Option.some.inj h2
    clear h2
    by_cases c1 : id < 1
    · have d1 : decide (id < 1) = true := by simpa using c1
      clear c c1
      go_enter Try.func32, Try.ntmps32
      go_wp2_with fail
      refine calls_gen fun V hV_V => ?_
      have n_F : Fr (noX) O O w V := nF hV_V
      have n_A : AP V ap s O := nA hV_V
      have z_V := Nat.le_of_eq (congrArg (fun v : World => v.heap.size) hV_V).symm
      try simp only [SZ] at z_V
      clear hV_V
      clear hA
      have hA := n_A
      clear n_A
      skip
      have hF := n_F
      clear n_F
      refine (tLen_calls _ _ hA).mono ?_
      rintro e_W1 W1 ⟨rfl, hb_W1⟩
      replace hA := hA.below hb_W1
      replace hF := hF.below hb_W1
      have z_W1 := hb_W1.size
      clear hb_W1
      go_wp2_with fail
      refine calls_gen fun V1 hV_V1 => ?_
      have n_F : Fr (noX) O O w V1 := nF hV_V1
      have n_A : AP V1 ap s O := nA hV_V1
      have z_V1 := Nat.le_of_eq (congrArg (fun v : World => v.heap.size) hV_V1).symm
      try simp only [SZ] at z_V1
      clear hV_V1
      clear hA
      have hA := n_A
      clear n_A
      clear hF
      have hF := n_F
      clear n_F
      refine (tPlace_calls _ _ l Hr.out hl _ hA).mono ?_
      rintro e_W2 W2 ⟨rfl, hb_W2⟩
      replace hA := hA.below hb_W2
      replace hF := hF.below hb_W2
      have z_W2 := hb_W2.size
      clear hb_W2
      go_wp2_with fail
      go_ret2
      exact ⟨rfl, O, hA, hF⟩
    · have d1 : decide (id < 1) = false := by simpa using c1
      cases c2 : (placeIn id l 0).2 with
      | true =>
        clear c c1
        go_enter Try.func32, Try.ntmps32
        go_wp2_with fail
        refine calls_gen fun V hV_V => ?_
        have n_F : Fr (noX) O O w V := nF hV_V
        have n_A : AP V ap s O := nA hV_V
        have z_V := Nat.le_of_eq (congrArg (fun v : World => v.heap.size) hV_V).symm
        try simp only [SZ] at z_V
        clear hV_V
        clear hA
        have hA := n_A
        clear n_A
        skip
        have hF := n_F
        clear n_F
        refine (tLen_calls _ _ hA).mono ?_
        rintro e_W1 W1 ⟨rfl, hb_W1⟩
        replace hA := hA.below hb_W1
        replace hF := hF.below hb_W1
        have z_W1 := hb_W1.size
        clear hb_W1
        go_wp2_with fail
        refine calls_gen fun V1 hV_V1 => ?_
        have n_F : Fr (noX) O O w V1 := nF hV_V1
        have n_A : AP V1 ap s O := nA hV_V1
        have z_V1 := Nat.le_of_eq (congrArg (fun v : World => v.heap.size) hV_V1).symm
        try simp only [SZ] at z_V1
        clear hV_V1
        clear hA
        have hA := n_A
        clear n_A
        clear hF
        have hF := n_F
        clear n_F
        refine (tPlace_calls _ _ l Hr.out hl _ hA).mono ?_
        rintro e_W2 W2 ⟨rfl, hb_W2⟩
        replace hA := hA.below hb_W2
        replace hF := hF.below hb_W2
        have z_W2 := hb_W2.size
        clear hb_W2
        rw [c2]
        go_wp2_with fail
        go_ret2
        exact ⟨rfl, O, hA, hF⟩
      | false =>
        by_cases c3 : len < 0
        · have d3 : decide (len < 0) = true := by simpa using c3
          clear c c1 c3
          go_enter Try.func32, Try.ntmps32
          go_wp2_with fail
          refine calls_gen fun V hV_V => ?_
          have n_F : Fr (noX) O O w V := nF hV_V
          have n_A : AP V ap s O := nA hV_V
          have z_V := Nat.le_of_eq (congrArg (fun v : World => v.heap.size) hV_V).symm
          try simp only [SZ] at z_V
          clear hV_V
          clear hA
          have hA := n_A
          clear n_A
          skip
          have hF := n_F
          clear n_F
          refine (tLen_calls _ _ hA).mono ?_
          rintro e_W1 W1 ⟨rfl, hb_W1⟩
          replace hA := hA.below hb_W1
          replace hF := hF.below hb_W1
          have z_W1 := hb_W1.size
          clear hb_W1
          go_wp2_with fail
          refine calls_gen fun V1 hV_V1 => ?_
          have n_F : Fr (noX) O O w V1 := nF hV_V1
          have n_A : AP V1 ap s O := nA hV_V1
          have z_V1 := Nat.le_of_eq (congrArg (fun v : World => v.heap.size) hV_V1).symm
          try simp only [SZ] at z_V1
          clear hV_V1
          clear hA
          have hA := n_A
          clear n_A
          clear hF
          have hF := n_F
          clear n_F
          refine (tPlace_calls _ _ l Hr.out hl _ hA).mono ?_
          rintro e_W2 W2 ⟨rfl, hb_W2⟩
          replace hA := hA.below hb_W2
          replace hF := hF.below hb_W2
          have z_W2 := hb_W2.size
          clear hb_W2
          rw [c2]
          go_wp2_with fail
          go_ret2
          exact ⟨rfl, O, hA, hF⟩
        · have d3 : decide (len < 0) = false := by simpa using c3
          have d4 : decide (40 < len) = true := by
            rcases c with c | c | c | c
            · exact absurd c c1
            · rw [c2] at c; cases c
            · exact absurd c c3
            · simpa using c
          clear c c1 c3
          go_enter Try.func32, Try.ntmps32
          go_wp2_with fail
          refine calls_gen fun V hV_V => ?_
          have n_F : Fr (noX) O O w V := nF hV_V
          have n_A : AP V ap s O := nA hV_V
          have z_V := Nat.le_of_eq (congrArg (fun v : World => v.heap.size) hV_V).symm
          try simp only [SZ] at z_V
          clear hV_V
          clear hA
          have hA := n_A
          clear n_A
          skip
          have hF := n_F
          clear n_F
          refine (tLen_calls _ _ hA).mono ?_
          rintro e_W1 W1 ⟨rfl, hb_W1⟩
          replace hA := hA.below hb_W1
          replace hF := hF.below hb_W1
          have z_W1 := hb_W1.size
          clear hb_W1
          go_wp2_with fail
          refine calls_gen fun V1 hV_V1 => ?_
          have n_F : Fr (noX) O O w V1 := nF hV_V1
          have n_A : AP V1 ap s O := nA hV_V1
          have z_V1 := Nat.le_of_eq (congrArg (fun v : World => v.heap.size) hV_V1).symm
          try simp only [SZ] at z_V1
          clear hV_V1
          clear hA
          have hA := n_A
          clear n_A
          clear hF
          have hF := n_F
          clear n_F
          refine (tPlace_calls _ _ l Hr.out hl _ hA).mono ?_
          rintro e_W2 W2 ⟨rfl, hb_W2⟩
          replace hA := hA.below hb_W2
          replace hF := hF.below hb_W2
          have z_W2 := hb_W2.size
          clear hb_W2
          rw [c2]
          go_wp2_with fail
          go_ret2
          exact ⟨rfl, O, hA, hF⟩
  · rw [if_neg c] at h2
    have d1 : decide (id < 1) = false := by simp; omega
    have d3 : decide (len < 0) = false := by simp; omega
    have d4 : decide (40 < len) = false := by simp; omega
    have c2 : (placeIn id l 0).2 = false := by cases c5 : (placeIn id l 0).2 with | true => exact absurd (.inr (.inl c5)) c | false => rfl
    by_cases c6 : 10 ≤ lLen s h
    · rw [if_pos c6] at h2
      have d6 : decide (10 ≤ lLen s h) = true := by simpa using c6
      obtain rfl := Option.some.inj h2
      clear h2 c c6
      go_enter Try.func32, Try.ntmps32
      go_wp2_with fail
      refine calls_gen fun V hV_V => ?_
      have n_F : Fr (noX) O O w V := nF hV_V
      have n_A : AP V ap s O := nA hV_V
      have z_V := Nat.le_of_eq (congrArg (fun v : World => v.heap.size) hV_V).symm
      try simp only [SZ] at z_V
      clear hV_V
      clear hA
      have hA := n_A
      clear n_A
      skip
      have hF := n_F
      clear n_F
      refine (tLen_calls _ _ hA).mono ?_
      rintro e_W1 W1 ⟨rfl, hb_W1⟩
      replace hA := hA.below hb_W1
      replace hF := hF.below hb_W1
      have z_W1 := hb_W1.size
      clear hb_W1
      go_wp2_with fail
      refine calls_gen fun V1 hV_V1 => ?_
      have n_F : Fr (noX) O O w V1 := nF hV_V1
      have n_A : AP V1 ap s O := nA hV_V1
      have z_V1 := Nat.le_of_eq (congrArg (fun v : World => v.heap.size) hV_V1).symm
      try simp only [SZ] at z_V1
      clear hV_V1
      clear hA
      have hA := n_A
      clear n_A
      clear hF
      have hF := n_F
      clear n_F
      refine (tPlace_calls _ _ l Hr.out hl _ hA).mono ?_
      rintro e_W2 W2 ⟨rfl, hb_W2⟩
      replace hA := hA.below hb_W2
      replace hF := hF.below hb_W2
      have z_W2 := hb_W2.size
      clear hb_W2
      rw [c2]
      go_wp2_with fail
      go_ret2
      exact ⟨rfl, O, hA, hF⟩
    · rw [if_neg c6] at h2
      have d6 : decide (10 ≤ lLen s h) = false := by simpa using c6
      have H2 := Lib.hid h2
      clear h2 c c6
      go_enter Try.func32, Try.ntmps32
      go_wp2_with fail
      refine calls_gen fun V hV_V => ?_
      have n_F : Fr (noX) O O w V := nF hV_V
      have n_A : AP V ap s O := nA hV_V
      have z_V := Nat.le_of_eq (congrArg (fun v : World => v.heap.size) hV_V).symm
      try simp only [SZ] at z_V
      clear hV_V
      clear hA
      have hA := n_A
      clear n_A
      skip
      have hF := n_F
      clear n_F
      refine (tLen_calls _ _ hA).mono ?_
      rintro e_W1 W1 ⟨rfl, hb_W1⟩
      replace hA := hA.below hb_W1
      replace hF := hF.below hb_W1
      have z_W1 := hb_W1.size
      clear hb_W1
      go_wp2_with fail
      refine calls_gen fun V1 hV_V1 => ?_
      have n_F : Fr (noX) O O w V1 := nF hV_V1
      have n_A : AP V1 ap s O := nA hV_V1
      have z_V1 := Nat.le_of_eq (congrArg (fun v : World => v.heap.size) hV_V1).symm
      try simp only [SZ] at z_V1
      clear hV_V1
      clear hA
      have hA := n_A
      clear n_A
      clear hF
      have hF := n_F
      clear n_F
      refine (tPlace_calls _ _ l Hr.out hl _ hA).mono ?_
      rintro e_W2 W2 ⟨rfl, hb_W2⟩
      replace hA := hA.below hb_W2
      replace hF := hF.below hb_W2
      have z_W2 := hb_W2.size
      clear hb_W2
      rw [c2]
      go_wp2_with fail
      refine calls_gen fun V2 hV_V2 => ?_
      have n_F : Fr (noX) O O w V2 := nF hV_V2
      have n_A : AP V2 ap s O := nA hV_V2
      have z_V2 := Nat.le_of_eq (congrArg (fun v : World => v.heap.size) hV_V2).symm
      try simp only [SZ] at z_V2
      clear hV_V2
      clear hA
      have hA := n_A
      clear n_A
      clear hF
      have hF := n_F
      clear n_F
      refine (lInsert_calls _ _ (id, len) _ H2.out _ hA).mono ?_
      rintro e_W3 W3 ⟨rfl, O1, hA_W3, hf_W3⟩
      replace hF := hF.trans hf_W3.widen
      have z_W3 := hf_W3.size
      clear hA hf_W3; have hA := hA_W3; clear hA_W3
      go_wp2_with fail
      go_ret2
      exact ⟨rfl, O1, hA, hF⟩
end Go.Proofs.Ytkgabbenmoocgaa
