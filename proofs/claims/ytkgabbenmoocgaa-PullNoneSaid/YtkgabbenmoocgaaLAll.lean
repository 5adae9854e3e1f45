/- Lists in an arena: all items. -/
import Derived.Test.YtkgabbenmoocgaaLGet
namespace Go.Proofs.Ytkgabbenmoocgaa
set_option linter.unusedSimpArgs false
set_option linter.unusedVariables false
set_option linter.unnecessarySimpa false
open Go.RowKit
attribute [local go_sem ↓] Go.wp_at_zero Go.wp_at_succ
attribute [local go_sem] lt_s2 lt_s3 lt_s4
attribute [local go_sem] idx0 idx1 idx2 idx3
variable {ap : Value} {s : Ar} {O : Nat → Prop}
/-- The cells of a row of items. -/
def itemCells : List (Int × Int) → List Value
  | [] => []
  | x :: l => .int .i64 x.1 :: .int .i64 x.2 :: itemCells l
theorem itemCells_append (a b : List (Int × Int)) : itemCells (a ++ b) = itemCells a ++ itemCells b := by
  induction a with
  | nil => rfl
  | cons x a ih => simp [itemCells, ih]
theorem eachO_len {α : Type} {f : Int → Option α} : ∀ (d : Nat) (i : Int) (l : List α), eachO f d i = some l → l.length = d
  | 0, i, l, h => by cases h; rfl
  | d + 1, i, l, h => by
    unfold eachO at h
    obtain ⟨x, hx, h⟩ := Option.bind_eq_some_iff.1 h
    obtain ⟨m, hm, h⟩ := Option.bind_eq_some_iff.1 h
    cases h
    simp [eachO_len d (i + 1) m hm]
set_option maxRecDepth 100000 in
set_option maxHeartbeats 2000000 in
theorem lAll_calls (h : Int) (l : List (Int × Int)) (hr : lAll s h = some l) (hl : l.length ≤ 50000) (w : World) (hA : AP w ap s O) :
    Calls Try.prog 67 #[ap, .int .i64 h] w fun e w' => ∃ v, e = .returned v ∧ w'.ownsRow w.heap.size 76 2 v l.length (itemCells l) ∧ Below w.heap.size w w' := by
  have hA0 := Lib.hid hA
  have hr' := Lib.hid hr
  have hlen : l.length = (lLen s h).toNat := eachO_len _ _ _ hr
  clear hr
  go_enter Try.func67, Try.ntmps67
  go_wp2_with fail
  refine calls_gen fun V hV_V => ?_
  have n_B : Below w.heap.size w V := nB hV_V
  have n_A : AP V ap s O := nA hV_V
  have z_V := Nat.le_of_eq (congrArg (fun v : World => v.heap.size) hV_V).symm
  try simp only [SZ] at z_V
  clear hV_V
  clear hA
  have hA := n_A
  clear n_A
  skip
  have hB := n_B
  clear n_B
  refine (lLen_calls _ _ hA).mono ?_
  rintro e_W1 W1 ⟨rfl, hb_W1⟩
  replace hA := hA.below hb_W1
  replace hB := below_step hB hb_W1
  have z_W1 := hb_W1.size
  clear hb_W1
  go_wp2_with fail
  refine wp_gen fun V1 hV_V1 => ?_
  have n_B : Below w.heap.size w V1 := nB hV_V1
  have n_A : AP V1 ap s O := nA hV_V1
  have z_V1 := Nat.le_of_eq (congrArg (fun v : World => v.heap.size) hV_V1).symm
  try simp only [SZ] at z_V1
  clear hV_V1
  clear hA
  have hA := n_A
  clear n_A
  clear hB
  have hB := n_B
  clear n_B
  go_loopg [5, 12] (lLen s h).toNat (fun k p q wr => ∃ (i : Int) (d0 rest : List (Int × Int)), q = .int .i64 i ∧ 0 ≤ i ∧ i ≤ 50000 ∧ (d0.length : Int) = i ∧ k = (lLen s h - i).toNat ∧ Hid (eachO (fun i => (lGet s h i).map (·.1)) k i = some rest) ∧ Hid (l = d0 ++ rest) ∧ Hid (wr.ownsRow w.heap.size 76 2 p d0.length (itemCells d0)) ∧ Below w.heap.size w wr)
  case atStart => exact ⟨0, [], l, rfl, by omega, by omega, rfl, by simp, hr', Lib.hid rfl, Lib.hid (own_nil _ _ _ _), hB⟩
  case round =>
    clear hA hB hr'
    obtain ⟨i, d0, rest, rfl, hi0, hi1, hdl, hk, He, Hl, Hown, hB0⟩ := hrel
    have hA := hA0.out.below hB0
    by_cases hlt : i < lLen s h
    · have d1 : decide (i < lLen s h) = true := by simpa using hlt
      obtain ⟨k, rfl⟩ : ∃ k, gk = k + 1 := ⟨gk - 1, by omega⟩
      have he := He.out
      unfold eachO at he
      obtain ⟨x, hx, he⟩ := Option.bind_eq_some_iff.1 he
      obtain ⟨rest', he', hrest⟩ := Option.bind_eq_some_iff.1 he
      obtain ⟨g, hg, hgx⟩ := Option.map_eq_some_iff.1 hx
      have hrest := Option.some.inj hrest
      have hlx : l.length = d0.length + (1 + rest'.length) := by rw [Hl.out, ← hrest]; simp; omega
      have Hg := Lib.hid hg
      have Hx := Lib.hid hgx
      have He' := Lib.hid he'
      have Hl' : Hid (l = (d0 ++ [x]) ++ rest') := Lib.hid (by rw [Hl.out, ← hrest]; simp)
      clear He Hl he hx he' hrest hg hgx
      have hw0 := hB0.size
      have HB0 := Lib.hid hB0; clear hB0
      have hB := Below.refl wr.heap.size wr
      go_wp2_with fail
      refine calls_gen fun V2 hV_V2 => ?_
      have n_B : Below wr.heap.size wr V2 := nB hV_V2
      have n_A : AP V2 ap s O := nA hV_V2
      have z_V2 := Nat.le_of_eq (congrArg (fun v : World => v.heap.size) hV_V2).symm
      try simp only [SZ] at z_V2
      clear hV_V2
      clear hA
      have hA := n_A
      clear n_A
      clear hB
      have hB := n_B
      clear n_B
      refine (lGet_calls _ _ g Hg.out _ hA).mono ?_
      rintro e_W2 W2 ⟨rfl, hb_W2⟩
      replace hA := hA.below hb_W2
      replace hB := below_step hB hb_W2
      have z_W2 := hb_W2.size
      clear hb_W2
      have Hbl := Lib.hid (below_step HB0.out hB)
      have hown := own_below Hown.out hB
      clear Hown
      go_wp2_with (at_builtin; refine wpList_push _ (by rfl) _ _ 89 (by rfl) (w.heap.size) 76 (.agg #[.int .i64 0, .int .i64 0]) 2 16 Try.underlying89 (by kernel_rfl) (by rfl) (by omega) _ _ _ (by rfl) (hown.alloc _) _ (by rfl) (by rw [siz_alloc]; rfl) (by simp [Value.oneCell']) (by unfold maxLen; omega) (by omega) (by simp only [siz_alloc]; omega) ?_; intro g_W c_W W3 hown_W hlow_W hlt_W)
      have h1 : wrap64 (i + 1) = i + 1 := IntWalk.wrap64_in _ (by omega)
      go_wp2_with fail
      go_roundg k
      case measure => omega
      case rel =>
        refine ⟨i + 1, d0 ++ [x], rest', by rw [← h1], by omega, by omega, by simp; omega, by omega, He', Hl', ?_, low_step (Hbl.out.alloc (by omega) _) (by omega) hlow_W⟩
        rw [itemCells_append, List.length_append, ← Hx.out]
        exact Lib.hid hown_W
    · have d1 : decide (i < lLen s h) = false := by simpa using hlt
      obtain rfl : gk = 0 := by omega
      have he := He.out
      unfold eachO at he
      obtain rfl := Option.some.inj he
      have hl2 := Hl.out
      simp only [List.append_nil] at hl2
      have hn : d0.length = l.length := by rw [hl2]
      clear He Hl he
      go_wp2_with fail
      go_ret
      refine ⟨u5, rfl, ?_, hB0⟩
      rw [hl2]; exact Hown.out
end Go.Proofs.Ytkgabbenmoocgaa
