/- The arena's ways that count: Keep, Drop. -/
import Derived.Test.YtkgabbenmoocgaaArenaGet
import Derived.Test.YtkgabbenmoocgaaArenaWait
namespace Go.Proofs.Ytkgabbenmoocgaa
set_option linter.unusedSimpArgs false
set_option linter.unusedVariables false
set_option linter.unnecessarySimpa false
open Go.RowKit
attribute [local go_sem ↓] Go.wp_at_zero Go.wp_at_succ
attribute [local go_sem] lt_s2 lt_s3 lt_s4
variable {ap : Value} {s : Ar} {O : Nat → Prop}
/-- What a call leaves that writes into the arena alone. -/
def Did (X : Nat → Prop) (ap : Value) (s' : Ar) (O : Nat → Prop) (w w' : World) : Prop := ∃ O', AP w' ap s' O' ∧ Fr X O O' w w'
theorem Did.refl {X : Nat → Prop} {w : World} (h : AP w ap s O) : Did X ap s O w w := ⟨O, h, Fr.refl _ _ _⟩
theorem size_ne {s : Ar} {n : Nat} (h1 : 1 ≤ n) (h2 : n ≤ s.size) : s.size ≠ 0 := by omega
set_option maxHeartbeats 400000 in
theorem keep_yes (h : Nat) (h1 : 1 ≤ h) (h2 : h ≤ s.size) (hc : s.cnt h ≠ 0) (w : World) (hA : AP w ap s O) :
    Calls Try.prog 76 #[ap, .int .i64 (h : Int)] w fun e w' => e = .returned (.int .i64 0) ∧ Did noX ap (s.keep h) O w w' := by
  have d1 : (s.cnt (h : Int) == 0) = false := by simpa using hc
  have d3 : (h : Int) < (s.size : Int) + 1 := by omega
  have d4 : (0 : Int) ≤ (h : Int) := by omega
  obtain ⟨p, nb, cb, ub, wv, rfl, hR⟩ := hA.raw (by omega)
  have cp := hR.reads.cp
  have cc := hR.reads.cc h h2
  have hs := hA.1.small
  have fc := free_of hR.hc
  have hR' := hR.setC h (.int .i64 (wrap64 (s.count h + 1)))
  have hW := hA.1.keep (h : Int)
  have hk : Hid (s.keep (h : Int) = { s with count := upd s.count h (wrap64 (s.count h + 1)) }) := by
    show _ = _
    unfold Ar.keep; rw [if_neg hc, Ar.cnt_nat h1 h2]; rfl
  have HR := Lib.hid hR; clear hR
  have HR' := Lib.hid hR'; clear hR'
  clear hc
  go_enter Try.func76, Try.ntmps76
  go_wp2_with fail
  refine (count_calls _ _ hA).mono ?_
  rintro e w1 ⟨rfl, rfl⟩
  clear hA
  go_wp2_with fail
  go_ret
  refine ⟨rfl, O, ?_, ?_⟩
  · rw [hk.out] at hW ⊢
    refine AP.of_raw (HR'.out.congr (fun _ _ => rfl) (fun i _ => ?_) (fun _ _ => rfl)) hW
    unfold updF countF upd
    split <;> simp_all
  · exact Fr.own_step HR.out HR'.out rfl rfl rfl (by rw [siz_set]; exact Nat.le_refl _) (fun x _ hx => blk_far _ _ _ _ (fun e => hx (e ▸ HR.out.oc))) (fun x hx => .inl hx)
set_option maxHeartbeats 400000 in
theorem keep_no (h : Int) (hc : s.cnt h = 0) (w : World) (hA : AP w ap s O) :
    Calls Try.prog 76 #[ap, .int .i64 h] w fun e w' => e = .returned (.int .i64 9) ∧ w = w' := by
  have d1 : (s.cnt (h : Int) == 0) = true := by rw [hc]; rfl
  clear hc
  go_enter Try.func76, Try.ntmps76
  go_wp2_with fail
  refine (count_calls _ _ hA).mono ?_
  rintro e w1 ⟨rfl, rfl⟩
  go_wp2_with fail
  go_ret
  exact ⟨rfl, rfl⟩
theorem keep_calls (h : Int) (w : World) (hA : AP w ap s O) :
    Calls Try.prog 76 #[ap, .int .i64 h] w fun e w' => e = .returned (.int .i64 (s.cntE h)) ∧ Did noX ap (s.keep h) O w w' := by
  by_cases hc : s.cnt h = 0
  · refine (keep_no h hc w hA).mono ?_
    rintro e w1 ⟨rfl, rfl⟩
    unfold Ar.cntE Ar.keep; rw [if_pos hc, if_pos hc]; exact ⟨rfl, Did.refl hA⟩
  · unfold Ar.cntE; rw [if_neg hc]
    obtain ⟨n, rfl, h1, h2, -⟩ := Ar.cnt_pos hc
    exact keep_yes n h1 h2 hc w hA
set_option maxHeartbeats 400000 in
theorem drop_no (h : Int) (hc : s.cnt h = 0) (w : World) (hA : AP w ap s O) :
    Calls Try.prog 27 #[ap, .int .i64 h] w fun e w' => e = .returned (.int .i64 9) ∧ w = w' := by
  have d1 : (s.cnt (h : Int) == 0) = true := by rw [hc]; rfl
  clear hc
  go_enter Try.func27, Try.ntmps27
  go_wp2_with fail
  refine (count_calls _ _ hA).mono ?_
  rintro e w1 ⟨rfl, rfl⟩
  go_wp2_with fail
  go_ret
  exact ⟨rfl, rfl⟩
set_option maxHeartbeats 400000 in
theorem drop_more (h : Nat) (h1 : 1 ≤ h) (h2 : h ≤ s.size) (hc : s.cnt h ≠ 0) (hz : wrap64 (s.count h - 1) ≠ 0) (w : World) (hA : AP w ap s O) :
    Calls Try.prog 27 #[ap, .int .i64 (h : Int)] w fun e w' => e = .returned (.int .i64 0) ∧ Did noX ap (s.drop h) O w w' := by
  have d1 : (s.cnt (h : Int) == 0) = false := by simpa using hc
  have d2 : (wrap64 (s.count h - 1) == 0) = false := by simpa using hz
  have d3 : (h : Int) < (s.size : Int) + 1 := by omega
  have d4 : (0 : Int) ≤ (h : Int) := by omega
  obtain ⟨p, nb, cb, ub, wv, rfl, hR⟩ := hA.raw (by omega)
  have cp := hR.reads.cp
  have cc := hR.reads.cc h h2
  have hs := hA.1.small
  have fc := free_of hR.hc
  have hpc := hR.pc
  have hR' := hR.setC h (.int .i64 (wrap64 (s.count h - 1)))
  have hW := hA.1.drop (h : Int)
  have hk : Hid (s.drop (h : Int) = { s with count := upd s.count h (wrap64 (s.count h - 1)) }) := by
    show _ = _
    unfold Ar.drop; rw [if_neg hc, Ar.cnt_nat h1 h2, if_neg hz]; rfl
  have HR := Lib.hid hR; clear hR
  have HR' := Lib.hid hR'; clear hR'
  clear hc hz
  go_enter Try.func27, Try.ntmps27
  go_wp2_with fail
  refine (count_calls _ _ hA).mono ?_
  rintro e w1 ⟨rfl, rfl⟩
  clear hA
  go_wp2_with fail
  go_ret
  refine ⟨rfl, O, ?_, ?_⟩
  · rw [hk.out] at hW ⊢
    refine AP.of_raw (HR'.out.congr (fun _ _ => rfl) (fun i _ => ?_) (fun _ _ => rfl)) hW
    unfold updF countF upd
    dsimp only
    split <;> simp_all
  · exact Fr.own_step HR.out HR'.out rfl rfl rfl (by rw [siz_set]; exact Nat.le_refl _) (fun x _ hx => blk_far _ _ _ _ (fun e => hx (e ▸ HR.out.oc))) (fun x hx => .inl hx)
set_option maxRecDepth 100000 in
set_option maxHeartbeats 400000 in
theorem drop_last (h : Nat) (h1 : 1 ≤ h) (h2 : h ≤ s.size) (hc : s.cnt h ≠ 0) (hz : wrap64 (s.count h - 1) = 0) (w : World) (hA : AP w ap s O) :
    Calls Try.prog 27 #[ap, .int .i64 (h : Int)] w fun e w' => e = .returned (.int .i64 0) ∧ Did noX ap (s.drop h) O w w' := by
  have d1 : (s.cnt (h : Int) == 0) = false := by simpa using hc
  have d2 : (wrap64 (s.count h - 1) == 0) = true := by simpa using hz
  have d3 : (h : Int) < (s.size : Int) + 1 := by omega
  have d4 : (0 : Int) ≤ (h : Int) := by omega
  obtain ⟨p, nb, cb, ub, wv, rfl, hR⟩ := hA.raw (by omega)
  have cp := hR.reads.cp
  have cc := hR.reads.cc h h2
  have hs := hA.1.small
  have hl := hA.1.length
  have fc := free_of hR.hc
  have fp := free_of hR.hp
  have hpc := hR.pc
  have hR' := hR.setC h (.int .i64 (wrap64 (s.count h - 1)))
  have hW := hA.1.drop (h : Int)
  have hk : Hid (s.drop (h : Int) = { s with count := upd s.count h (wrap64 (s.count h - 1)), wait := s.wait ++ [h] }) := by
    show _ = _
    unfold Ar.drop; rw [if_neg hc, Ar.cnt_nat h1 h2, if_pos hz]; rfl
  have HR := Lib.hid hR; clear hR
  have HR' := Lib.hid hR'; clear hR'
  clear hc hz
  go_enter Try.func27, Try.ntmps27
  go_wp2_with fail
  refine (count_calls _ _ hA).mono ?_
  rintro e w1 ⟨rfl, rfl⟩
  clear hA
  go_wp2_with (at_builtin; refine wpList_wait _ (by rfl) _ _ 50 (by rfl) Try.underlying50 (by kernel_rfl) wv s.wait h (by rfl) HR'.out.hw w.heap.size (by rw [siz_set]) (by rfl) (by omega) ?_; intro A n c w2 hst; have hp2 := (hst.block p (by rw [siz_set]; exact lt_of HR.out.hp) HR.out.wp).trans HR'.out.hp; have cp2 := cells_of hp2; have fp2 := free_of hp2; unfold ArC at cp2)
  go_ret
  have hR := HR.out
  have hR1 := HR'.out
  have hncb : (Value.slice A n c).ownBlock ≠ some cb := fun e => by
    rcases hst.own _ e with g | g
    · exact hR.ncw g
    · have := lt_of hR.hc; rw [siz_set] at g; omega
  have hnp : (Value.slice A n c).ownBlock ≠ some p := fun e => by
    rcases hst.own _ e with g | g
    · exact hR.wp g
    · have := lt_of hR.hp; rw [siz_set] at g; omega
  have hb2 : ∀ x, O x → wv.ownBlock ≠ some x → w2.heap[x]? = (w.setCell ⟨cb, h, none⟩ (.int .i64 (wrap64 (s.count h - 1)))).heap[x]? := fun x hx hne => hst.block x (by rw [siz_set]; exact hR.lt x hx) hne
  have hR2 : Raw w2 p s.size nb cb ub wv (nodeF s) (updF (countF s) h (.int .i64 (wrap64 (s.count h - 1)))) (usedF s) s.busy s.made s.wait O → True := fun _ => trivial
  clear hR2
  have hsz := hst.size
  rw [siz_set] at hsz
  refine ⟨rfl, fun x => O x ∨ (Value.slice A n c).ownBlock = some x, ?_, ?_⟩
  · rw [hk.out] at hW ⊢
    refine AP.of_raw ⟨by rw [blk_set, hp2]; rfl, ?_, ?_, ?_, hst.wt.far hnp _, hncb, .inl hR.op, .inl hR.on, .inl hR.oc, .inl hR.ou, fun g hg => .inr hg, fun b hb => ?_⟩ hW
    · rw [blk_far _ _ _ _ (Ne.symm hR.pn), hb2 nb hR.on hR.wn]; exact hR1.hn
    · rw [blk_far _ _ _ _ (Ne.symm hR.pc), hb2 cb hR.oc hR.ncw]
      rw [hR1.hc]
      congr 2
      refine ofF_congr fun i _ => ?_
      unfold updF countF upd
      dsimp only
      split <;> simp_all
    · rw [blk_far _ _ _ _ (Ne.symm hR.pu), hb2 ub hR.ou hR.wu]; exact hR1.hu
    · rw [siz_set]
      rcases hb with hb | hb
      · exact Nat.lt_of_lt_of_le (hR.lt b hb) hsz
      · obtain ⟨c, hc⟩ := hst.wt.type hb
        exact lt_of hc
  · refine ⟨hst.os, hst.tape, hst.output, by rw [siz_set]; exact hsz, fun x hx ho _ => ?_, fun x hx => ?_⟩
    · have e1 : x ≠ p := fun e => ho (e ▸ hR.op)
      have e2 : x ≠ cb := fun e => ho (e ▸ hR.oc)
      rw [blk_far _ _ _ _ e1, hst.block x (by rw [siz_set]; exact hx) (fun e => ho (hR.ow x e)), blk_far _ _ _ _ e2]
    · rcases hx with hx | hx
      · exact .inl hx
      · rcases hst.own x hx with g | g
        · exact .inl (hR.ow x g)
        · rw [siz_set] at g; exact .inr g
theorem drop_calls (h : Int) (w : World) (hA : AP w ap s O) :
    Calls Try.prog 27 #[ap, .int .i64 h] w fun e w' => e = .returned (.int .i64 (s.cntE h)) ∧ Did noX ap (s.drop h) O w w' := by
  by_cases hc : s.cnt h = 0
  · refine (drop_no h hc w hA).mono ?_
    rintro e w1 ⟨rfl, rfl⟩
    unfold Ar.cntE Ar.drop; rw [if_pos hc, if_pos hc]; exact ⟨rfl, Did.refl hA⟩
  · unfold Ar.cntE; rw [if_neg hc]
    obtain ⟨n, rfl, h1, h2, -⟩ := Ar.cnt_pos hc
    by_cases hz : wrap64 (s.count n - 1) = 0
    · exact drop_last n h1 h2 hc hz w hA
    · exact drop_more n h1 h2 hc hz w hA
end Go.Proofs.Ytkgabbenmoocgaa
