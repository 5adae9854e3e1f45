/- The first call of chapter 16's laws: its answer is yes. -/
import Derived.Test.YtkgabbenmoocgaaBuild
import Derived.Test.YtkgabbenmoocgaaArenaNew
import Derived.Test.YtkgabbenmoocgaaPull
namespace Go.Proofs.Ytkgabbenmoocgaa
set_option linter.unusedSimpArgs false
set_option linter.unusedVariables false
set_option linter.unnecessarySimpa false
open Go.RowKit
attribute [local go_sem ↓] Go.wp_at_zero Go.wp_at_succ
attribute [local go_sem] str_len
/-- What the model tells of the document abd. -/
def aliveM : Option (Bool × Bool × Bool × List UInt8 × Bool × Bool) :=
  (bRows 2 (rowsM [(7, [97, 98, 100])]) 0 ⟨Ar.new 2000, true, Parts.zero, 0⟩).bind fun b1 => (bTable (docsM [(7, [97, 98, 100])]) b1).bind fun b2 => (bEnd b2).bind fun e =>
  (pText e.2.2 e.1 7).map fun t => (b1.ok, b2.ok, e.2.1, t.1, t.2, decide (lLen e.2.2 (vOf e.2.2 e.1).table ≤ 50000))
set_option maxRecDepth 1000000 in
theorem aliveM_eq : aliveM = some (true, true, true, [97, 98, 100], true, true) := by decide +kernel
theorem below_fr {w W1 W2 : World} {O O' : Nat → Prop} (hb : Below w.heap.size w W1) (hF : Fr noX O O' W1 W2) (hO : ∀ b, O b → w.heap.size ≤ b) : Below w.heap.size w W2 :=
  ⟨hF.os.trans hb.os, hF.tape.trans hb.tape, hF.output.trans hb.output, Nat.le_trans hb.size hF.size, fun k hk => (hF.block k (Nat.lt_of_lt_of_le hk hb.size) (fun h => by have := hO k h; omega) (fun h => h)).trans (hb.block k hk)⟩
theorem ceq0 (w : World) : (binOp BinOp.eql 34 (.complex .f64 13830554455654793216 4607182418800017408) (.complex .f64 13830554455654793216 4607182418800017408)).run Try.prog w = .ok (.bool true) w := by kernel_rfl
theorem ceq1 (w : World) : (binOp BinOp.eql 34 (.complex .f64 (zb (walkOf [97, 98]).1) (zb (walkOf [97, 98]).2)) (.complex .f64 (zb (walkOf [97, 98]).1) (zb (walkOf [97, 98]).2))).run Try.prog w = .ok (.bool true) w := by
  have e1 : zb (walkOf [97, 98]).1 = 13830554455654793216 := by decide +kernel
  have e2 : zb (walkOf [97, 98]).2 = 4607182418800017408 := by decide +kernel
  rw [e1, e2]; exact ceq0 w
set_option maxRecDepth 100000 in
set_option maxHeartbeats 2000000 in
theorem alive16_calls (w : World) : Calls Try.prog 8 #[] w fun e w' => e = .returned (.bool true) ∧ Below w.heap.size w w' := by
  have hm := aliveM_eq
  unfold aliveM at hm
  obtain ⟨b1, h1, hm⟩ := Option.bind_eq_some_iff.1 hm
  obtain ⟨b2, h2, hm⟩ := Option.bind_eq_some_iff.1 hm
  obtain ⟨⟨root, ok, s'⟩, h3, hm⟩ := Option.bind_eq_some_iff.1 hm
  obtain ⟨t, ht, hm⟩ := Option.map_eq_some_iff.1 hm
  simp only [Prod.mk.injEq] at hm
  obtain ⟨o1, o2, rfl, ht1, ht2, hll⟩ := hm
  have hll' : lLen s' (vOf s' root).table ≤ 50000 := of_decide_eq_true hll
  obtain ⟨t1, t2⟩ := t
  dsimp only at ht1 ht2
  subst ht1 ht2
  have H1 := Lib.hid h1; have H2 := Lib.hid h2; have H3 := Lib.hid h3; have Ht := Lib.hid ht; have Hll := Lib.hid hll'; have O1 := Lib.hid o1; have O2 := Lib.hid o2
  clear h1 h2 h3 ht hll hll' o1 o2
  go_enter Try.func8, Try.ntmps8
  go_wp2_with fail
  refine calls_gen fun V hV_V => ?_
  have n_B : Below w.heap.size w V := nB hV_V
  have z_V := Nat.le_of_eq (congrArg (fun v : World => v.heap.size) hV_V).symm
  try simp only [SZ] at z_V
  clear hV_V
  skip
  have hB := n_B
  clear n_B
  refine (new_calls 2000 (by omega) (by omega) _).mono ?_
  rintro e1 W1 ⟨p, O, rfl, hA, hO, hb1⟩
  have hB1 := below_step hB hb1
  have hO2 : ∀ b, O b → w.heap.size ≤ b := fun b hb => Nat.le_trans hB.size (hO b hb)
  have HA := Lib.hid hA; have HB1 := Lib.hid hB1; have HO := Lib.hid hO2
  clear hA hO hb1 hB hB1 hO2
  go_wp2_with fail
  refine calls_gen fun V2 hV2 => ?_
  have hA2 : AP V2 (.pointer (some ⟨p, 0, none⟩)) (Ar.new 2000) O := by rw [hV2]; exact HA.out.alloc _
  have hk2 : V2.heap[W1.heap.size]? = some (.cells #[.int .i64 7, strOf [97, 98, 100]] 30 (0, 0)) := by rw [hV2]; exact blk_new _ _ _ rfl
  have hB2 : Below w.heap.size w V2 := by rw [hV2]; exact HB1.out.alloc HB1.out.size _
  clear hV2
  have hD : Rd2 V2 (.slice (some ⟨W1.heap.size, 0, none⟩) ([(7, [97, 98, 100])] : List (Int × List UInt8)).length 1) [(7, [97, 98, 100])] := by
    refine ⟨_, _, rfl, fun _ => ⟨_, rfl, lt_of hk2, fun i d hd => ?_⟩⟩
    obtain rfl : i = 0 := by have := (List.getElem?_eq_some_iff.1 hd).1; simp at this; omega
    obtain rfl : (7, [97, 98, 100]) = d := by simpa using hd
    refine ⟨by rw [block_of_add]; exact lt_of hk2, ?_, ?_⟩
    · rw [show (0 * 2 : Nat) = 0 from rfl, add_zero_off, cells_of hk2]; rfl
    · rw [show (0 * 2 : Nat) = 0 from rfl, add_zero_off, cells_of hk2]; rfl
  have hnO : ¬ O W1.heap.size := HA.out.new (Nat.le_refl _)
  refine (build_calls 2 (by omega) (by omega) [(7, [97, 98, 100])] ⟨W1.heap.size, 0, none⟩ 1 (by simp) (by decide) V2 hD hnO hA2 b1 b2 H1.out O1.out H2.out O2.out root s' H3.out).mono ?_
  rintro e3 W3 ⟨rfl, O3, hA3, hf3⟩
  have HA3 := Lib.hid hA3; have HB3 := Lib.hid (below_fr hB2 hf3 HO.out)
  clear hA3 hf3 hD hk2 hA2 hB2 hnO
  go_wp2_with fail
  refine (text_calls root 7 _ Ht.out Hll.out _ HA3.out).mono ?_
  rintro e4 W4 ⟨rfl, hb4⟩
  have HA4 := Lib.hid (HA3.out.below hb4); have HB4 := Lib.hid (below_step HB3.out hb4)
  clear hb4
  rw [show strOf [97, 98, 100] = Value.string ⟨#[97, 98, 100]⟩ from rfl]
  go_wp2_with fail
  refine (plot_calls root 7 2 _ Ht.out Hll.out _ HA4.out).mono ?_
  rintro e5 W5 ⟨rfl, hb5⟩
  have HB5 := Lib.hid (below_step HB4.out hb5)
  clear hb5
  have ep : partOf (([97, 98, 100] : List UInt8), true) 0 2 = ([97, 98], 0) := by decide
  rw [ep]
  have eq1 : plotOf (([97, 98] : List UInt8), (0 : Int)) = .complex .f64 (zb (walkOf [97, 98]).1) (zb (walkOf [97, 98]).2) := rfl
  rw [eq1]
  have ec := ceq1
  clear ep eq1
  go_wp2_with fail
  rw [show Value.string ⟨#[97, 98]⟩ = strOf [97, 98] from rfl]
  refine (rend_calls [97, 98] (by simp) _).mono ?_
  rintro e6 W6 ⟨rfl, hb6⟩
  have HB6 := Lib.hid (below_step HB5.out hb6)
  clear hb6
  go_wp2_with fail
  go_ret
  exact ⟨rfl, HB6.out⟩
end Go.Proofs.Ytkgabbenmoocgaa
