/- The leaf's functions at whatever leaf there may be: one contract for each. -/
import Derived.Test.YtkgabbenmoocgaaLeaf
import Derived.Test.YtkgabbenmoocgaaModelWq
namespace Go.Proofs.Ytkgabbenmoocgaa
set_option linter.unusedSimpArgs false
set_option linter.unusedVariables false
set_option linter.unnecessarySimpa false
open Go.RowKit
/-- A leaf's bits: of one that may be; none of another. -/
def Lf (b : Nat) (n : Int) (ok : Bool) (l : List Bool) : Prop := (ok = true ∧ l.length ≤ 64 ∧ b = pack l ∧ n = l.length) ∨ (ok = false ∧ l = [] ∧ b < 2 ^ 64 ∧ ¬ Rt b n)
theorem Lf.len {b : Nat} {n : Int} {ok : Bool} {l : List Bool} (h : Lf b n ok l) : l.length ≤ 64 := by
  rcases h with ⟨_, h, _⟩ | ⟨_, rfl, _⟩
  · exact h
  · simp
theorem Lf.of (b n : Int) (hb : (Lit.int .u64 b).wf = true) : ∃ (B : Nat) (ok : Bool) (l : List Bool), b = B ∧ Lf B n ok l := by
  obtain ⟨h1, h2⟩ := wf_u64 hb
  obtain ⟨b, rfl⟩ := Int.eq_ofNat_of_zero_le h1
  by_cases h : Rt b n
  · obtain ⟨n, rfl⟩ := Int.eq_ofNat_of_zero_le h.1
    exact ⟨b, true, unpack b n, rfl, .inl ⟨rfl, by rw [unpack_length]; have := h.2.1; omega, by rw [pack_unpack]; simpa using h.2.2, by rw [unpack_length]⟩⟩
  · exact ⟨b, false, [], rfl, .inr ⟨rfl, rfl, by omega, h⟩⟩
section
variable {b : Nat} {n : Int} {ok : Bool} {l : List Bool}
theorem right_lf (h : Lf b n ok l) (w : World) : Calls Try.prog 96 #[.agg #[.int .u64 (b : Int), .int .i64 n]] w fun e w' => e = .returned (.bool ok) ∧ Below w.heap.size w w' := by
  rcases h with ⟨rfl, h, rfl, rfl⟩ | ⟨rfl, rfl, hb, h⟩
  · exact right_yes l h w
  · exact right_no b n hb h w
theorem get_lf (h : Lf b n ok l) (i : Int) (r : Bool) (hr : r = getL l i) (w : World) : Calls Try.prog 94 #[.agg #[.int .u64 (b : Int), .int .i64 n], .int .i64 i] w fun e w' => e = .returned (.bool r) ∧ Below w.heap.size w w' := by
  subst hr
  rcases h with ⟨rfl, h, rfl, rfl⟩ | ⟨rfl, rfl, hb, h⟩
  · exact get_list l h i w
  · rw [getL_out [] i (by simp; omega)]; exact get_no b n i hb h w
theorem rank_lf (h : Lf b n ok l) (i r : Int) (hr : r = (l.take i.toNat).count true) (w : World) : Calls Try.prog 105 #[.agg #[.int .u64 (b : Int), .int .i64 n], .int .i64 i] w fun e w' => e = .returned (.int .i64 r) ∧ Below w.heap.size w w' := by
  subst hr
  rcases h with ⟨rfl, h, rfl, rfl⟩ | ⟨rfl, rfl, hb, h⟩
  · exact rank_list l h i w
  · have e : ((([] : List Bool).take i.toNat).count true : Int) = 0 := by simp
    rw [e]; exact rank_no b n i hb h w
theorem split_lf (h : Lf b n ok l) (i : Int) (x y : List Bool) (hx : x = l.take i.toNat) (hy : y = l.drop i.toNat) (w : World) : Calls Try.prog 82 #[.agg #[.int .u64 (b : Int), .int .i64 n], .int .i64 i] w fun e w' =>
    e = .returned (.tuple #[.agg #[.int .u64 (pack x : Int), .int .i64 (x.length : Int)], .agg #[.int .u64 (pack y : Int), .int .i64 (y.length : Int)]]) ∧ Below w.heap.size w w' := by
  rcases h with ⟨rfl, h, rfl, rfl⟩ | ⟨rfl, rfl, hb, h⟩
  · exact split_at l h x y i hx hy _ _ rfl rfl w
  · obtain rfl : x = [] := by simpa using hx
    obtain rfl : y = [] := by simpa using hy
    exact split_no b n i hb h w
theorem insert_lf (h : Lf b n ok l) (i : Int) (one may : Bool) (c : List Bool) (hm : may = (ok && (decide (0 ≤ i) && (decide (i ≤ l.length) && decide ((l.length : Int) < 64))))) (hc : c = if may then insL l i.toNat one else []) (w : World) : Calls Try.prog 79 #[.agg #[.int .u64 (b : Int), .int .i64 n], .int .i64 i, .bool one] w fun e w' =>
    e = .returned (.tuple #[.agg #[.int .u64 (pack c : Int), .int .i64 (c.length : Int)], .bool may]) ∧ Below w.heap.size w w' := by
  rcases h with ⟨rfl, h, rfl, rfl⟩ | ⟨rfl, rfl, hb, h⟩
  · by_cases g : 0 ≤ i ∧ i ≤ l.length ∧ (l.length : Int) < 64
    · obtain rfl : may = true := by simp [hm, g]
      simp at hc
      exact insert_at l c i one g.1 g.2.1 (by omega) _ _ rfl rfl hc w
    · obtain rfl : may = false := by rw [hm]; simp; omega
      obtain rfl : c = [] := by simpa using hc
      exact insert_out l h i one (by omega) w
  · obtain rfl : may = false := by simpa using hm
    obtain rfl : c = [] := by simpa using hc
    exact insert_no b n hb h i one w
theorem join_lf {b' : Nat} {n' : Int} {ok' : Bool} {l' : List Bool} (h : Lf b n ok l) (h' : Lf b' n' ok' l') (may : Bool) (c : List Bool) (hm : may = (ok && (ok' && decide ((l.length : Int) + (l'.length : Int) ≤ 64)))) (hc : c = if may then l ++ l' else []) (w : World) :
    Calls Try.prog 97 #[.agg #[.int .u64 (b : Int), .int .i64 n], .agg #[.int .u64 (b' : Int), .int .i64 n']] w fun e w' =>
    e = .returned (.tuple #[.agg #[.int .u64 (pack c : Int), .int .i64 (c.length : Int)], .bool may]) ∧ Below w.heap.size w w' := by
  rcases h with ⟨rfl, h, rfl, rfl⟩ | ⟨rfl, rfl, hb, h⟩
  · rcases h' with ⟨rfl, h', rfl, rfl⟩ | ⟨rfl, rfl, hb', h'⟩
    · by_cases g : (l.length : Int) + (l'.length : Int) ≤ 64
      · obtain rfl : may = true := by simp [hm, g]
        simp at hc
        exact join_at l l' c (by omega) _ _ _ _ rfl rfl rfl rfl hc w
      · obtain rfl : may = false := by rw [hm]; simp; omega
        obtain rfl : c = [] := by simpa using hc
        exact join_long l l' h h' (by omega) w
    · obtain rfl : may = false := by simpa using hm
      obtain rfl : c = [] := by simpa using hc
      exact join_no2 l h b' n' hb' h' w
  · obtain rfl : may = false := by simpa using hm
    obtain rfl : c = [] := by simpa using hc
    exact join_no1 b n hb h _ _ w
end
theorem lf_of (a n : Int) (h : U64 a) : ∃ B : Nat, a = B ∧ Lf B n (lfOk a n) (lfL a n) := by
  obtain ⟨b, rfl⟩ := Int.eq_ofNat_of_zero_le h.1
  refine ⟨b, rfl, ?_⟩
  unfold lfOk lfL
  rw [Int.toNat_natCast]
  by_cases hr : Rt b n
  · rw [if_pos hr]
    obtain ⟨n, rfl⟩ := Int.eq_ofNat_of_zero_le hr.1
    exact .inl ⟨by simpa using hr, by rw [Int.toNat_natCast, unpack_length]; have := hr.2.1; omega, by rw [Int.toNat_natCast, pack_unpack]; simpa using hr.2.2, by rw [Int.toNat_natCast, unpack_length]⟩
  · rw [if_neg hr]
    exact .inr ⟨by simpa using hr, rfl, by have := h.2; omega, hr⟩
theorem lf_self {l : List Bool} (h : l.length ≤ 64) : Lf (pack l) l.length true l := .inl ⟨rfl, h, rfl, rfl⟩
section
variable {a n : Int} (hU : U64 a)
include hU
theorem rank_i (i : Int) (w : World) : Calls Try.prog 105 #[.agg #[.int .u64 a, .int .i64 n], .int .i64 i] w fun e w' => e = .returned (.int .i64 (rankL (lfL a n) i)) ∧ Below w.heap.size w w' := by
  obtain ⟨B, hB, hL⟩ := lf_of a n hU
  generalize lfOk a n = ok at hL; generalize lfL a n = l at hL ⊢
  subst hB
  exact rank_lf hL i _ rfl w
theorem get_i (i : Int) (w : World) : Calls Try.prog 94 #[.agg #[.int .u64 a, .int .i64 n], .int .i64 i] w fun e w' => e = .returned (.bool (getL (lfL a n) i)) ∧ Below w.heap.size w w' := by
  obtain ⟨B, hB, hL⟩ := lf_of a n hU
  generalize lfOk a n = ok at hL; generalize lfL a n = l at hL ⊢
  subst hB
  exact get_lf hL i _ rfl w
theorem insert_i (i : Int) (one : Bool) (w : World) : Calls Try.prog 79 #[.agg #[.int .u64 a, .int .i64 n], .int .i64 i, .bool one] w fun e w' =>
    e = .returned (.tuple #[.agg #[.int .u64 (pack (insR (lfOk a n) (lfL a n) i one) : Int), .int .i64 ((insR (lfOk a n) (lfL a n) i one).length : Int)], .bool (insOk (lfOk a n) (lfL a n) i)]) ∧ Below w.heap.size w w' := by
  obtain ⟨B, hB, hL⟩ := lf_of a n hU
  generalize lfOk a n = ok at hL ⊢; generalize lfL a n = l at hL ⊢
  subst hB
  exact insert_lf hL i one _ _ rfl rfl w
theorem split_i (i : Int) (w : World) : Calls Try.prog 82 #[.agg #[.int .u64 a, .int .i64 n], .int .i64 i] w fun e w' =>
    e = .returned (.tuple #[.agg #[.int .u64 (pack ((lfL a n).take i.toNat) : Int), .int .i64 (((lfL a n).take i.toNat).length : Int)], .agg #[.int .u64 (pack ((lfL a n).drop i.toNat) : Int), .int .i64 (((lfL a n).drop i.toNat).length : Int)]]) ∧ Below w.heap.size w w' := by
  obtain ⟨B, hB, hL⟩ := lf_of a n hU
  generalize lfOk a n = ok at hL; generalize lfL a n = l at hL ⊢
  subst hB
  exact split_lf hL i _ _ rfl rfl w
end
end Go.Proofs.Ytkgabbenmoocgaa
