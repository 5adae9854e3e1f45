/- The document's own: which texts may be; the texts of documents. -/
import Derived.Test.YtkgabbenmoocgaaRef
namespace Go.Proofs.Ytkgabbenmoocgaa
set_option linter.unusedSimpArgs false
set_option linter.unusedVariables false
set_option linter.unnecessarySimpa false
open Go.RowKit
attribute [local go_sem ↓] Go.wp_at_zero Go.wp_at_succ
attribute [local go_sem] str_len
def refRight (ts : List (List UInt8)) : Bool := ts.all (fun t => decide (t.length ≤ 40)) && decide (ts.length ≤ 10)
set_option maxRecDepth 100000 in
set_option maxHeartbeats 2000000 in
theorem rright_calls (v : Value) (ts : List (List UInt8)) (hl : ts.length ≤ 50000) (w : World) (h : Rk w 1 v ts.length (ts.map strOf)) :
    Calls Try.prog 48 #[v] w fun e w' => e = .returned (.bool (refRight ts)) ∧ Below w.heap.size w w' := by
  obtain ⟨R, hR⟩ : ∃ R, refRight ts = R := ⟨_, rfl⟩
  rw [hR]
  have HR := Lib.hid hR; clear hR
  have HK := Lib.hid h
  obtain ⟨h1, A, cap, rfl, h2⟩ := h
  clear h1 h2
  go_enter Try.func48, Try.ntmps48
  go_wp2_with fail
  go_loopg [3] ts.length (fun k p wr => ∃ i : Nat, p = .int .i64 (i : Int) ∧ i + k = ts.length ∧ Hid (((ts.drop i).all (fun t => decide (t.length ≤ 40)) && decide (ts.length ≤ 10)) = R) ∧ Below w.heap.size w wr)
  case atStart => exact ⟨0, rfl, by omega, HR, Below.refl _ _⟩
  case round =>
    obtain ⟨i, rfl, hk, Hl, hB⟩ := hrel
    by_cases hlt : i < ts.length
    · obtain ⟨k, rfl⟩ : ∃ k, gk = k + 1 := ⟨gk - 1, by omega⟩
      have hrk := HK.out.below hB
      obtain ⟨t, ht⟩ := at_some hlt
      have hl2 := Hl.out
      rw [drop_at ht, List.all_cons] at hl2
      obtain ⟨h1, A', cap', hv, h2⟩ := hrk
      obtain ⟨g, cs, T, rfl, kg, hcs⟩ := h2 (by omega)
      obtain ⟨rfl, -, rfl⟩ := Value.slice.inj hv
      have hci : cs[i]? = some (strOf t) := by rw [hcs i (by omega), List.getElem?_map, ht]; rfl
      have n1 : decide ((i : Int) < (ts.length : Int)) = true := by simpa using hlt
      have n2 : (i : Int) < (ts.length : Int) := by omega
      have e3 : wrap64 ((i : Int) + 1) = (i : Int) + 1 := IntWalk.wrap64_in _ (by omega)

      have c_kg := cells_of kg
      have f_kg := free_of kg
      have l_kg_wr := lt_of kg
      by_cases h40 : t.length ≤ 40
      · have d1 : decide ((40 : Int) < (t.length : Int)) = false := by simp; omega
        rw [decide_eq_true h40, Bool.true_and] at hl2
        have HL := Lib.hid hl2
        clear hl2 h40 ht hv h1 h2 hcs Hl
        go_wp2_with fail
        go_roundg k
        case measure => omega
        case rel => exact ⟨i + 1, by first | rfl | (rw [e3]; rfl), by omega, HL, hB⟩
      · have d1 : decide ((40 : Int) < (t.length : Int)) = true := by simp; omega
        rw [decide_eq_false h40] at hl2
        simp only [Bool.false_and] at hl2
        have HL := Lib.hid hl2
        clear hl2 h40 ht hv h1 h2 hcs Hl
        go_wp2_with fail
        go_ret
        exact ⟨by rw [← HL.out]; rfl, hB⟩
    · have hi : i = ts.length := by omega
      have hl2 := Hl.out
      rw [hi, List.drop_length, List.all_nil, Bool.true_and] at hl2
      have HL := Lib.hid hl2
      have n1 : decide ((i : Int) < (ts.length : Int)) = false := by simpa using hlt
      clear hl2 Hl
      go_wp2_with fail
      go_ret
      exact ⟨by rw [← HL.out]; first | rfl | (show Ending.returned (Value.bool (decide ((ts.length : Int) ≤ 10))) = _; congr 2; exact decide_eq_decide.2 (by omega)), hB⟩
/-- A slice value that reads as a row of documents, wherever it lies. -/
def Rd2 (w : World) (v : Value) (ds : List (Int × List UInt8)) : Prop :=
  ∃ A cap, v = .slice A ds.length cap ∧ (0 < ds.length → ∃ ad, A = some ad ∧ ad.block < w.heap.size ∧ ∀ i d, ds[i]? = some d → (ad.add (i * 2)).block < w.heap.size ∧ w.cell? (ad.add (i * 2)) = some (.int .i64 d.1) ∧ w.cell? ⟨(ad.add (i * 2)).block, (ad.add (i * 2)).off + 1, none⟩ = some (strOf d.2))
theorem Rd2.below {w w' : World} {v : Value} {ds : List (Int × List UInt8)} (h : Rd2 w v ds) (hb : Below w.heap.size w w') : Rd2 w' v ds := by
  obtain ⟨A, cap, rfl, h2⟩ := h
  refine ⟨A, cap, rfl, fun hn => ?_⟩
  obtain ⟨ad, rfl, hg, hc⟩ := h2 hn
  refine ⟨ad, rfl, Nat.lt_of_lt_of_le hg hb.size, fun i d hd => ?_⟩
  obtain ⟨h0, h1, h2⟩ := hc i d hd
  exact ⟨Nat.lt_of_lt_of_le h0 hb.size, (hb.cell h0).trans h1, (hb.cell (by exact h0)).trans h2⟩
set_option maxRecDepth 100000 in
set_option maxHeartbeats 2000000 in
theorem texts_calls (v : Value) (ds : List (Int × List UInt8)) (hl : ds.length ≤ 50000) (w : World) (h : Rd2 w v ds) :
    Calls Try.prog 23 #[v] w fun e w' => ∃ v', e = .returned v' ∧ w'.ownsRow w.heap.size 9 1 v' ds.length ((ds.map (·.2)).map strOf) ∧ Below w.heap.size w w' := by
  have HK := Lib.hid h
  obtain ⟨A, cap, rfl, h2⟩ := h
  clear h2
  go_enter Try.func23, Try.ntmps23
  go_wp2_with fail
  go_loopg [3, 4] ds.length (fun k p q wr => ∃ i : Nat, q = .int .i64 (i : Int) ∧ i + k = ds.length ∧ Hid (wr.ownsRow w.heap.size 9 1 p i (((ds.take i).map (·.2)).map strOf)) ∧ Hid (Below w.heap.size w wr))
  case atStart => exact ⟨0, rfl, by omega, Lib.hid (own_nil _ _ _ _), Lib.hid (Below.refl _ _)⟩
  case round =>
    obtain ⟨i, rfl, hk, Hown, HB⟩ := hrel
    by_cases hlt : i < ds.length
    · obtain ⟨k, rfl⟩ : ∃ k, gk = k + 1 := ⟨gk - 1, by omega⟩
      obtain ⟨d, hd⟩ := at_some hlt
      obtain ⟨A', cap', hv, h2⟩ := HK.out.below HB.out
      obtain ⟨ad, rfl, hg, hc⟩ := h2 (by omega)
      obtain ⟨rfl, -, rfl⟩ := Value.slice.inj hv
      obtain ⟨-, c1, c2⟩ := hc i d hd
      have n1 : decide ((i : Int) < (ds.length : Int)) = true := by simpa using hlt
      have n2 : (i : Int) < (ds.length : Int) := by omega
      have e3 : wrap64 ((i : Int) + 1) = (i : Int) + 1 := IntWalk.wrap64_in _ (by omega)
      have htake : Hid (((ds.take (i + 1)).map (·.2)).map strOf = ((ds.take i).map (·.2)).map strOf ++ [strOf d.2]) := Lib.hid (by
        rw [List.take_succ_eq_append_getElem hlt, List.map_append, List.map_append, (List.getElem_eq_iff hlt).2 hd]; rfl)
      have hw0 := HB.out.size
      clear h2 hc hv hd
      replace c2 : wr.cell? ⟨(ad.add (i * 2)).block, (ad.add (i * 2)).off + 1, none⟩ = some (.string ⟨d.2.toArray⟩) := c2
      go_wp2_with (at_builtin; refine wpList_push _ (by rfl) _ _ 61 (by rfl) (w.heap.size) 9 (.string ⟨#[]⟩) 1 16 Try.underlying61 (by kernel_rfl) (by rfl) (by omega) _ _ _ (by rfl) Hown.out _ (by rfl) (by rfl) (by simp [Value.oneCell', strOf]) (by unfold maxLen; omega) (by omega) (by omega) ?_; intro g_W c_W W5 hown_W hlow_W hlt_W)
      go_wp2_with fail
      go_roundg k
      case measure => omega
      case rel => exact ⟨i + 1, by first | rfl | (rw [e3]; rfl), by omega, Lib.hid (by rw [htake.out]; exact hown_W), Lib.hid (low_step HB.out (Nat.le_refl _) hlow_W)⟩
    · have hi : i = ds.length := by omega
      have n1 : decide ((i : Int) < (ds.length : Int)) = false := by simpa using hlt
      have hown := Hown.out
      rw [hi, List.take_length] at hown
      have HO := Lib.hid hown
      clear hown Hown
      go_wp2_with fail
      go_ret
      exact ⟨u3, rfl, HO.out, HB.out⟩
end Go.Proofs.Ytkgabbenmoocgaa
