/- The arena's New. -/
import Derived.Test.YtkgabbenmoocgaaArenaMake
import Derived.Test.YtkgabbenmoocgaaHeld
namespace Go.Proofs.Ytkgabbenmoocgaa
set_option linter.unusedSimpArgs false
set_option linter.unusedVariables false
set_option linter.unnecessarySimpa false
open Go.RowKit
attribute [local go_sem ↓] Go.wp_at_zero Go.wp_at_succ
attribute [local go_sem] lt_s2 lt_s3 lt_s4
theorem made_ofF (c : Array Value) (N : Nat) (f : Nat → Value) (h : ∀ i, i < N → c[i % c.size]! = f i) : madeCells c N = ofF N f := by
  apply Array.ext
  · rw [size_madeCells, ofF_size]
  · intro i h1 h2
    rw [size_madeCells] at h1
    simp only [madeCells, ofF, Array.getElem_map, Array.getElem_range, Array.getElem_ofFn]
    exact h i h1
theorem make_nodes (n : Nat) (h2 : n ≤ 6000) (w : World) : (Instr.makeSlice 57 (.int .i64 ((n : Int) + 1)) (.int .i64 ((n : Int) + 1))).run Try.prog w = .ok (.slice (some ⟨w.heap.size, 0, none⟩) (n + 1) (n + 1)) (w.alloc (.cells (ofF ((n + 1) * 7) (nodeF (Ar.new n))) 47 (0, 0))) := by
  obtain ⟨i0, hi0, hz0, hz1, hz2⟩ := info_parts (P := Try.prog) (e := 47) (z := .agg #[.int .i64 0, .int .i64 0, .int .i64 0, .int .i64 0, .int .i64 0, .int .u64 0, .int .u64 0]) (size := 7) (bytes := 56) (by kernel_rfl)
  have h := run_makeSlice (P := Try.prog) w 57 47 i0 _ Try.underlying57 hi0 hz0 .i64 .i64 ((n : Int) + 1) ((n : Int) + 1) (by omega) (by omega) (by rw [hz1]; omega) (by rw [hz2]; omega) (by omega)
  rw [h, hz1, show ((n : Int) + 1).toNat = n + 1 by omega, made_ofF _ _ (nodeF (Ar.new n))]
  intro i _
  show (#[Value.int .i64 0, .int .i64 0, .int .i64 0, .int .i64 0, .int .i64 0, .int .u64 0, .int .u64 0] : Array Value)[i % 7]! = Nd.zero.cell (i % 7)
  rcases (show i % 7 = 0 ∨ i % 7 = 1 ∨ i % 7 = 2 ∨ i % 7 = 3 ∨ i % 7 = 4 ∨ i % 7 = 5 ∨ i % 7 = 6 by omega) with h | h | h | h | h | h | h <;> rw [h] <;> rfl
theorem make_counts (n : Nat) (h2 : n ≤ 6000) (w : World) : (Instr.makeSlice 50 (.int .i64 ((n : Int) + 1)) (.int .i64 ((n : Int) + 1))).run Try.prog w = .ok (.slice (some ⟨w.heap.size, 0, none⟩) (n + 1) (n + 1)) (w.alloc (.cells (ofF (n + 1) (countF (Ar.new n))) 3 (0, 0))) := by
  obtain ⟨i0, hi0, hz0, hz1, hz2⟩ := info_parts (P := Try.prog) (e := 3) (z := .int .i64 0) (size := 1) (bytes := 8) (by kernel_rfl)
  have h := run_makeSlice (P := Try.prog) w 50 3 i0 _ Try.underlying50 hi0 hz0 .i64 .i64 ((n : Int) + 1) ((n : Int) + 1) (by omega) (by omega) (by rw [hz1]; omega) (by rw [hz2]; omega) (by omega)
  rw [h, hz1, show ((n : Int) + 1).toNat = n + 1 by omega, Nat.mul_one, made_ofF _ _ (countF (Ar.new n))]
  intro i _
  show (#[Value.int .i64 0] : Array Value)[i % 1]! = .int .i64 0
  rw [Nat.mod_one]; rfl
theorem make_useds (n : Nat) (h2 : n ≤ 6000) (w : World) : (Instr.makeSlice 58 (.int .i64 ((n : Int) + 1)) (.int .i64 ((n : Int) + 1))).run Try.prog w = .ok (.slice (some ⟨w.heap.size, 0, none⟩) (n + 1) (n + 1)) (w.alloc (.cells (ofF (n + 1) (usedF (Ar.new n))) 4 (0, 0))) := by
  obtain ⟨i0, hi0, hz0, hz1, hz2⟩ := info_parts (P := Try.prog) (e := 4) (z := .bool false) (size := 1) (bytes := 1) (by kernel_rfl)
  have h := run_makeSlice (P := Try.prog) w 58 4 i0 _ Try.underlying58 hi0 hz0 .i64 .i64 ((n : Int) + 1) ((n : Int) + 1) (by omega) (by omega) (by rw [hz1]; omega) (by rw [hz2]; omega) (by omega)
  rw [h, hz1, show ((n : Int) + 1).toNat = n + 1 by omega, Nat.mul_one, made_ofF _ _ (usedF (Ar.new n))]
  intro i _
  show (#[Value.bool false] : Array Value)[i % 1]! = .bool false
  rw [Nat.mod_one]; rfl
theorem ap_new {W w : World} {n p nb cb ub : Nat} (h2 : n ≤ 6000) (hp : W.heap[p]? = some (.cells (ArC n nb cb ub (.slice none 0 0) 0 0) 60 (0, 0))) (hn : W.heap[nb]? = some (.cells (ofF ((n + 1) * 7) (nodeF (Ar.new n))) 47 (0, 0)))
    (hc : W.heap[cb]? = some (.cells (ofF (n + 1) (countF (Ar.new n))) 3 (0, 0))) (hu : W.heap[ub]? = some (.cells (ofF (n + 1) (usedF (Ar.new n))) 4 (0, 0))) (b1 : w.heap.size ≤ p) (b2 : w.heap.size ≤ nb) (b3 : w.heap.size ≤ cb) (b4 : w.heap.size ≤ ub) :
    ∃ O, AP W (.pointer (some ⟨p, 0, none⟩)) (Ar.new n) O ∧ (∀ b, O b → w.heap.size ≤ b) := by
  refine ⟨fun b => b = p ∨ b = nb ∨ b = cb ∨ b = ub, ⟨Ar.Wq.new n h2, .inr ⟨p, nb, cb, ub, .slice none 0 0, rfl, ⟨hp, hn, hc, hu, .inl ⟨rfl, rfl⟩, by simp [Value.ownBlock], .inl rfl, .inr (.inl rfl), .inr (.inr (.inl rfl)), .inr (.inr (.inr rfl)), by simp [Value.ownBlock], ?_⟩⟩⟩, ?_⟩
  · rintro b (rfl | rfl | rfl | rfl)
    · exact lt_of hp
    · exact lt_of hn
    · exact lt_of hc
    · exact lt_of hu
  · rintro b (rfl | rfl | rfl | rfl) <;> assumption
set_option maxRecDepth 100000 in
set_option maxHeartbeats 2000000 in
theorem new_calls (n : Nat) (h1 : 1 ≤ n) (h2 : n ≤ 6000) (w : World) :
    Calls Try.prog 9 #[.int .i64 (n : Int)] w fun e w' => ∃ p O, e = .returned (.pointer (some ⟨p, 0, none⟩)) ∧ AP w' (.pointer (some ⟨p, 0, none⟩)) (Ar.new n) O ∧ (∀ b, O b → w.heap.size ≤ b) ∧ Below w.heap.size w w' := by
  have d1 : decide ((n : Int) < 1) = false := by simp; omega
  have d2 : decide ((6000 : Int) < n) = false := by simp; omega
  have m2 := fun w => make_nodes n h2 w
  have m5 := fun w => make_counts n h2 w
  have m8 := fun w => make_useds n h2 w
  have H2 := Lib.hid h2
  go_enter Try.func9, Try.ntmps9
  go_wp2_with fail
  refine wp_gen fun V hV_V => ?_
  have n_B : Below w.heap.size w V := nB hV_V
  have z_V := Nat.le_of_eq (congrArg (fun v : World => v.heap.size) hV_V).symm
  try simp only [SZ] at z_V
  clear hV_V
  skip
  have hB := n_B
  clear n_B
  refine wp_region_noPanic ?_
  refine wp_region_held_drew (S := fun v => (V.heap.size ≤ v.heap.size) ∧ True) (by kernel_rfl) ⟨(Nat.le_refl _), trivial⟩ (fun hHeld => ?_)
  generalize hV_Vd : V.drew = Vd at hHeld ⊢
  have n_B : Below w.heap.size w Vd := by rw [← hV_Vd]; exact hB.drew
  clear hB; have hB := n_B; clear n_B
  have z_Vd : V.heap.size ≤ Vd.heap.size := by rw [← hV_Vd]; exact Nat.le_refl _
  clear hV_Vd
  refine ty (i := 0) (v := ?_) rfl hHeld ?_ ?_
  rotate_left
  focus (intro w hSw; go_simp; (try simp only [IntWalk.i64_left]); try (with_reducible rfl))
  try simp only [PT]
  refine ty (i := 1) (v := ?_) rfl hHeld ?_ ?_
  rotate_left
  focus (intro w hSw; go_simp; (try simp only [IntWalk.i64_left]); try (with_reducible rfl))
  try simp only [PT]
  refine ty (i := 3) (v := ?_) rfl hHeld ?_ ?_
  rotate_left
  focus (intro w hSw; go_simp; (try simp only [IntWalk.i64_left]); try (with_reducible rfl))
  try simp only [PT]
  refine ty (i := 4) (v := ?_) rfl hHeld ?_ ?_
  rotate_left
  focus (intro w hSw; go_simp; (try simp only [IntWalk.i64_left]); try (with_reducible rfl))
  try simp only [PT]
  refine ty (i := 6) (v := ?_) rfl hHeld ?_ ?_
  rotate_left
  focus (intro w hSw; go_simp; (try simp only [IntWalk.i64_left]); try (with_reducible rfl))
  try simp only [PT]
  refine ty (i := 7) (v := ?_) rfl hHeld ?_ ?_
  rotate_left
  focus (intro w hSw; go_simp; (try simp only [IntWalk.i64_left]); try (with_reducible rfl))
  try simp only [PT]
  have ew : wrap64 ((n : Int) + 1) = (n : Int) + 1 := IntWalk.wrap64_in _ (by omega)
  simp only [ew]
  clear ew
  have hB1 := hB
  clear hB
  refine wpAnyH_ready (rs := [2, 5, 8]) (by kernel_rfl) (by simp) ?_
  refine ready_at rfl (fun K hK => ?_) ?_
  · go_simp
    refine gen_app (K := K) (fun D1 e1 => ?_)
    have k1 := (congrArg (fun v : World => v.heap[Vd.heap.size]?) e1).trans (blk_new _ _ _ rfl)
    try dsimp only at k1
    have b1 : Below w.heap.size w D1 := by rw [e1]; exact hB1.alloc hB1.size _
    have s1 : D1.heap.size = Vd.heap.size + 1 := by rw [e1, siz_alloc]
    clear e1
    refine hK.out _ _ ⟨by omega, trivial⟩ (fun hHeld => ?_)
    clear hK K
    try simp only [PT]
    refine wpAnyH_ready (rs := [5, 8]) (by kernel_rfl) (by simp) ?_
    refine ready_at rfl (fun K hK => ?_) ?_
    · go_simp
      refine gen_app (K := K) (fun D2 e2 => ?_)
      have k2 := (congrArg (fun v : World => v.heap[D1.heap.size]?) e2).trans (blk_new _ _ _ rfl)
      try dsimp only at k2
      have k1' := (congrArg (fun v : World => v.heap[Vd.heap.size]?) e2).trans ((blk_old _ _ _ (by omega)).trans k1)
      try dsimp only at k1'
      clear k1; have k1 := k1'; clear k1'
      have b2 : Below w.heap.size w D2 := by rw [e2]; exact b1.alloc b1.size _
      have s2 : D2.heap.size = D1.heap.size + 1 := by rw [e2, siz_alloc]
      clear e2
      refine hK.out _ _ ⟨by omega, trivial⟩ (fun hHeld => ?_)
      clear hK K
      try simp only [PT]
      refine wpAnyH_ready (rs := [8]) (by kernel_rfl) (by simp) ?_
      refine ready_at rfl (fun K hK => ?_) AllReadyH.nil
      go_simp
      refine gen_app (K := K) (fun D3 e3 => ?_)
      have k3 := (congrArg (fun v : World => v.heap[D2.heap.size]?) e3).trans (blk_new _ _ _ rfl)
      try dsimp only at k3
      have k1' := (congrArg (fun v : World => v.heap[Vd.heap.size]?) e3).trans ((blk_old _ _ _ (by omega)).trans k1)
      try dsimp only at k1'
      clear k1; have k1 := k1'; clear k1'
      have k2' := (congrArg (fun v : World => v.heap[D1.heap.size]?) e3).trans ((blk_old _ _ _ (by omega)).trans k2)
      try dsimp only at k2'
      clear k2; have k2 := k2'; clear k2'
      have b3 : Below w.heap.size w D3 := by rw [e3]; exact b2.alloc b2.size _
      have s3 : D3.heap.size = D2.heap.size + 1 := by rw [e3, siz_alloc]
      clear e3
      refine hK.out _ _ ⟨by omega, trivial⟩ (fun hHeld => ?_)
      clear hK K
      try simp only [PT]
      clear m2 m5 m8
      refine ty (i := 9) (v := ?_) rfl hHeld ?_ ?_
      rotate_left
      focus (intro w hSw; go_simp; (try simp only [IntWalk.i64_left]); try (with_reducible rfl))
      try simp only [PT]
      refine wpAnyH_ready (rs := [10]) (by kernel_rfl) (by simp) ?_
      refine ready_at rfl (fun K hK => ?_) AllReadyH.nil
      go_simp
      refine gen_app (K := K) (fun D4 e4 => ?_)
      have q4 := (congrArg (fun v : World => v.heap[D3.heap.size]?) e4).trans (blk_new _ _ _ rfl)
      try dsimp only at q4
      have q1 := (congrArg (fun v : World => v.heap[Vd.heap.size]?) e4).trans ((blk_old _ _ _ (by omega)).trans k1)
      try dsimp only at q1
      have q2 := (congrArg (fun v : World => v.heap[D1.heap.size]?) e4).trans ((blk_old _ _ _ (by omega)).trans k2)
      try dsimp only at q2
      have q3 := (congrArg (fun v : World => v.heap[D2.heap.size]?) e4).trans ((blk_old _ _ _ (by omega)).trans k3)
      try dsimp only at q3
      have b4 : Below w.heap.size w D4 := by rw [e4]; exact b3.alloc b3.size _
      have s4 : D3.heap.size ≤ D4.heap.size := by rw [e4, siz_alloc]; omega
      clear e4 k1 k2 k3
      refine hK.out _ _ ⟨by omega, trivial⟩ (fun hHeld => ?_)
      clear hK K
      try simp only [PT]
      refine wpAnyH_ready (rs := [11]) (by kernel_rfl) (by simp) ?_
      refine ready_at rfl (fun K hK => ?_) AllReadyH.nil
      go_simp
      refine hK.out _ _ hHeld (fun hHeld => ?_)
      clear hK K
      try simp only [PT]
      refine wpAnyH_done (by kernel_rfl) ?_ _
      refine NoPanic.normal ?_
      go_wp2_with fail
      go_ret
      simp only [s1] at q2
      simp only [s2, s1] at q3
      simp only [s3, s2, s1] at q4
      obtain ⟨O, h3, h4⟩ := ap_new (w := w) H2.out q4 q1 q2 q3 (by omega) (by omega) (by omega) (by omega)
      exact ⟨_, O, rfl, h3, h4, b4⟩
    refine ready_at rfl (fun K hK => ?_) AllReadyH.nil
    go_simp
    refine gen_app (K := K) (fun D2 e2 => ?_)
    have k2 := (congrArg (fun v : World => v.heap[D1.heap.size]?) e2).trans (blk_new _ _ _ rfl)
    try dsimp only at k2
    have k1' := (congrArg (fun v : World => v.heap[Vd.heap.size]?) e2).trans ((blk_old _ _ _ (by omega)).trans k1)
    try dsimp only at k1'
    clear k1; have k1 := k1'; clear k1'
    have b2 : Below w.heap.size w D2 := by rw [e2]; exact b1.alloc b1.size _
    have s2 : D2.heap.size = D1.heap.size + 1 := by rw [e2, siz_alloc]
    clear e2
    refine hK.out _ _ ⟨by omega, trivial⟩ (fun hHeld => ?_)
    clear hK K
    try simp only [PT]
    refine wpAnyH_ready (rs := [5]) (by kernel_rfl) (by simp) ?_
    refine ready_at rfl (fun K hK => ?_) AllReadyH.nil
    go_simp
    refine gen_app (K := K) (fun D3 e3 => ?_)
    have k3 := (congrArg (fun v : World => v.heap[D2.heap.size]?) e3).trans (blk_new _ _ _ rfl)
    try dsimp only at k3
    have k1' := (congrArg (fun v : World => v.heap[Vd.heap.size]?) e3).trans ((blk_old _ _ _ (by omega)).trans k1)
    try dsimp only at k1'
    clear k1; have k1 := k1'; clear k1'
    have k2' := (congrArg (fun v : World => v.heap[D1.heap.size]?) e3).trans ((blk_old _ _ _ (by omega)).trans k2)
    try dsimp only at k2'
    clear k2; have k2 := k2'; clear k2'
    have b3 : Below w.heap.size w D3 := by rw [e3]; exact b2.alloc b2.size _
    have s3 : D3.heap.size = D2.heap.size + 1 := by rw [e3, siz_alloc]
    clear e3
    refine hK.out _ _ ⟨by omega, trivial⟩ (fun hHeld => ?_)
    clear hK K
    try simp only [PT]
    clear m2 m5 m8
    refine ty (i := 9) (v := ?_) rfl hHeld ?_ ?_
    rotate_left
    focus (intro w hSw; go_simp; (try simp only [IntWalk.i64_left]); try (with_reducible rfl))
    try simp only [PT]
    refine wpAnyH_ready (rs := [10]) (by kernel_rfl) (by simp) ?_
    refine ready_at rfl (fun K hK => ?_) AllReadyH.nil
    go_simp
    refine gen_app (K := K) (fun D4 e4 => ?_)
    have q4 := (congrArg (fun v : World => v.heap[D3.heap.size]?) e4).trans (blk_new _ _ _ rfl)
    try dsimp only at q4
    have q1 := (congrArg (fun v : World => v.heap[Vd.heap.size]?) e4).trans ((blk_old _ _ _ (by omega)).trans k1)
    try dsimp only at q1
    have q2 := (congrArg (fun v : World => v.heap[D1.heap.size]?) e4).trans ((blk_old _ _ _ (by omega)).trans k2)
    try dsimp only at q2
    have q3 := (congrArg (fun v : World => v.heap[D2.heap.size]?) e4).trans ((blk_old _ _ _ (by omega)).trans k3)
    try dsimp only at q3
    have b4 : Below w.heap.size w D4 := by rw [e4]; exact b3.alloc b3.size _
    have s4 : D3.heap.size ≤ D4.heap.size := by rw [e4, siz_alloc]; omega
    clear e4 k1 k2 k3
    refine hK.out _ _ ⟨by omega, trivial⟩ (fun hHeld => ?_)
    clear hK K
    try simp only [PT]
    refine wpAnyH_ready (rs := [11]) (by kernel_rfl) (by simp) ?_
    refine ready_at rfl (fun K hK => ?_) AllReadyH.nil
    go_simp
    refine hK.out _ _ hHeld (fun hHeld => ?_)
    clear hK K
    try simp only [PT]
    refine wpAnyH_done (by kernel_rfl) ?_ _
    refine NoPanic.normal ?_
    go_wp2_with fail
    go_ret
    simp only [s1] at q2
    simp only [s2, s1] at q3
    simp only [s3, s2, s1] at q4
    obtain ⟨O, h3, h4⟩ := ap_new (w := w) H2.out q4 q1 q3 q2 (by omega) (by omega) (by omega) (by omega)
    exact ⟨_, O, rfl, h3, h4, b4⟩
  refine ready_at rfl (fun K hK => ?_) ?_
  · go_simp
    refine gen_app (K := K) (fun D1 e1 => ?_)
    have k1 := (congrArg (fun v : World => v.heap[Vd.heap.size]?) e1).trans (blk_new _ _ _ rfl)
    try dsimp only at k1
    have b1 : Below w.heap.size w D1 := by rw [e1]; exact hB1.alloc hB1.size _
    have s1 : D1.heap.size = Vd.heap.size + 1 := by rw [e1, siz_alloc]
    clear e1
    refine hK.out _ _ ⟨by omega, trivial⟩ (fun hHeld => ?_)
    clear hK K
    try simp only [PT]
    refine wpAnyH_ready (rs := [2, 8]) (by kernel_rfl) (by simp) ?_
    refine ready_at rfl (fun K hK => ?_) ?_
    · go_simp
      refine gen_app (K := K) (fun D2 e2 => ?_)
      have k2 := (congrArg (fun v : World => v.heap[D1.heap.size]?) e2).trans (blk_new _ _ _ rfl)
      try dsimp only at k2
      have k1' := (congrArg (fun v : World => v.heap[Vd.heap.size]?) e2).trans ((blk_old _ _ _ (by omega)).trans k1)
      try dsimp only at k1'
      clear k1; have k1 := k1'; clear k1'
      have b2 : Below w.heap.size w D2 := by rw [e2]; exact b1.alloc b1.size _
      have s2 : D2.heap.size = D1.heap.size + 1 := by rw [e2, siz_alloc]
      clear e2
      refine hK.out _ _ ⟨by omega, trivial⟩ (fun hHeld => ?_)
      clear hK K
      try simp only [PT]
      refine wpAnyH_ready (rs := [8]) (by kernel_rfl) (by simp) ?_
      refine ready_at rfl (fun K hK => ?_) AllReadyH.nil
      go_simp
      refine gen_app (K := K) (fun D3 e3 => ?_)
      have k3 := (congrArg (fun v : World => v.heap[D2.heap.size]?) e3).trans (blk_new _ _ _ rfl)
      try dsimp only at k3
      have k1' := (congrArg (fun v : World => v.heap[Vd.heap.size]?) e3).trans ((blk_old _ _ _ (by omega)).trans k1)
      try dsimp only at k1'
      clear k1; have k1 := k1'; clear k1'
      have k2' := (congrArg (fun v : World => v.heap[D1.heap.size]?) e3).trans ((blk_old _ _ _ (by omega)).trans k2)
      try dsimp only at k2'
      clear k2; have k2 := k2'; clear k2'
      have b3 : Below w.heap.size w D3 := by rw [e3]; exact b2.alloc b2.size _
      have s3 : D3.heap.size = D2.heap.size + 1 := by rw [e3, siz_alloc]
      clear e3
      refine hK.out _ _ ⟨by omega, trivial⟩ (fun hHeld => ?_)
      clear hK K
      try simp only [PT]
      clear m2 m5 m8
      refine ty (i := 9) (v := ?_) rfl hHeld ?_ ?_
      rotate_left
      focus (intro w hSw; go_simp; (try simp only [IntWalk.i64_left]); try (with_reducible rfl))
      try simp only [PT]
      refine wpAnyH_ready (rs := [10]) (by kernel_rfl) (by simp) ?_
      refine ready_at rfl (fun K hK => ?_) AllReadyH.nil
      go_simp
      refine gen_app (K := K) (fun D4 e4 => ?_)
      have q4 := (congrArg (fun v : World => v.heap[D3.heap.size]?) e4).trans (blk_new _ _ _ rfl)
      try dsimp only at q4
      have q1 := (congrArg (fun v : World => v.heap[Vd.heap.size]?) e4).trans ((blk_old _ _ _ (by omega)).trans k1)
      try dsimp only at q1
      have q2 := (congrArg (fun v : World => v.heap[D1.heap.size]?) e4).trans ((blk_old _ _ _ (by omega)).trans k2)
      try dsimp only at q2
      have q3 := (congrArg (fun v : World => v.heap[D2.heap.size]?) e4).trans ((blk_old _ _ _ (by omega)).trans k3)
      try dsimp only at q3
      have b4 : Below w.heap.size w D4 := by rw [e4]; exact b3.alloc b3.size _
      have s4 : D3.heap.size ≤ D4.heap.size := by rw [e4, siz_alloc]; omega
      clear e4 k1 k2 k3
      refine hK.out _ _ ⟨by omega, trivial⟩ (fun hHeld => ?_)
      clear hK K
      try simp only [PT]
      refine wpAnyH_ready (rs := [11]) (by kernel_rfl) (by simp) ?_
      refine ready_at rfl (fun K hK => ?_) AllReadyH.nil
      go_simp
      refine hK.out _ _ hHeld (fun hHeld => ?_)
      clear hK K
      try simp only [PT]
      refine wpAnyH_done (by kernel_rfl) ?_ _
      refine NoPanic.normal ?_
      go_wp2_with fail
      go_ret
      simp only [s1] at q2
      simp only [s2, s1] at q3
      simp only [s3, s2, s1] at q4
      obtain ⟨O, h3, h4⟩ := ap_new (w := w) H2.out q4 q2 q1 q3 (by omega) (by omega) (by omega) (by omega)
      exact ⟨_, O, rfl, h3, h4, b4⟩
    refine ready_at rfl (fun K hK => ?_) AllReadyH.nil
    go_simp
    refine gen_app (K := K) (fun D2 e2 => ?_)
    have k2 := (congrArg (fun v : World => v.heap[D1.heap.size]?) e2).trans (blk_new _ _ _ rfl)
    try dsimp only at k2
    have k1' := (congrArg (fun v : World => v.heap[Vd.heap.size]?) e2).trans ((blk_old _ _ _ (by omega)).trans k1)
    try dsimp only at k1'
    clear k1; have k1 := k1'; clear k1'
    have b2 : Below w.heap.size w D2 := by rw [e2]; exact b1.alloc b1.size _
    have s2 : D2.heap.size = D1.heap.size + 1 := by rw [e2, siz_alloc]
    clear e2
    refine hK.out _ _ ⟨by omega, trivial⟩ (fun hHeld => ?_)
    clear hK K
    try simp only [PT]
    refine wpAnyH_ready (rs := [2]) (by kernel_rfl) (by simp) ?_
    refine ready_at rfl (fun K hK => ?_) AllReadyH.nil
    go_simp
    refine gen_app (K := K) (fun D3 e3 => ?_)
    have k3 := (congrArg (fun v : World => v.heap[D2.heap.size]?) e3).trans (blk_new _ _ _ rfl)
    try dsimp only at k3
    have k1' := (congrArg (fun v : World => v.heap[Vd.heap.size]?) e3).trans ((blk_old _ _ _ (by omega)).trans k1)
    try dsimp only at k1'
    clear k1; have k1 := k1'; clear k1'
    have k2' := (congrArg (fun v : World => v.heap[D1.heap.size]?) e3).trans ((blk_old _ _ _ (by omega)).trans k2)
    try dsimp only at k2'
    clear k2; have k2 := k2'; clear k2'
    have b3 : Below w.heap.size w D3 := by rw [e3]; exact b2.alloc b2.size _
    have s3 : D3.heap.size = D2.heap.size + 1 := by rw [e3, siz_alloc]
    clear e3
    refine hK.out _ _ ⟨by omega, trivial⟩ (fun hHeld => ?_)
    clear hK K
    try simp only [PT]
    clear m2 m5 m8
    refine ty (i := 9) (v := ?_) rfl hHeld ?_ ?_
    rotate_left
    focus (intro w hSw; go_simp; (try simp only [IntWalk.i64_left]); try (with_reducible rfl))
    try simp only [PT]
    refine wpAnyH_ready (rs := [10]) (by kernel_rfl) (by simp) ?_
    refine ready_at rfl (fun K hK => ?_) AllReadyH.nil
    go_simp
    refine gen_app (K := K) (fun D4 e4 => ?_)
    have q4 := (congrArg (fun v : World => v.heap[D3.heap.size]?) e4).trans (blk_new _ _ _ rfl)
    try dsimp only at q4
    have q1 := (congrArg (fun v : World => v.heap[Vd.heap.size]?) e4).trans ((blk_old _ _ _ (by omega)).trans k1)
    try dsimp only at q1
    have q2 := (congrArg (fun v : World => v.heap[D1.heap.size]?) e4).trans ((blk_old _ _ _ (by omega)).trans k2)
    try dsimp only at q2
    have q3 := (congrArg (fun v : World => v.heap[D2.heap.size]?) e4).trans ((blk_old _ _ _ (by omega)).trans k3)
    try dsimp only at q3
    have b4 : Below w.heap.size w D4 := by rw [e4]; exact b3.alloc b3.size _
    have s4 : D3.heap.size ≤ D4.heap.size := by rw [e4, siz_alloc]; omega
    clear e4 k1 k2 k3
    refine hK.out _ _ ⟨by omega, trivial⟩ (fun hHeld => ?_)
    clear hK K
    try simp only [PT]
    refine wpAnyH_ready (rs := [11]) (by kernel_rfl) (by simp) ?_
    refine ready_at rfl (fun K hK => ?_) AllReadyH.nil
    go_simp
    refine hK.out _ _ hHeld (fun hHeld => ?_)
    clear hK K
    try simp only [PT]
    refine wpAnyH_done (by kernel_rfl) ?_ _
    refine NoPanic.normal ?_
    go_wp2_with fail
    go_ret
    simp only [s1] at q2
    simp only [s2, s1] at q3
    simp only [s3, s2, s1] at q4
    obtain ⟨O, h3, h4⟩ := ap_new (w := w) H2.out q4 q3 q1 q2 (by omega) (by omega) (by omega) (by omega)
    exact ⟨_, O, rfl, h3, h4, b4⟩
  refine ready_at rfl (fun K hK => ?_) AllReadyH.nil
  go_simp
  refine gen_app (K := K) (fun D1 e1 => ?_)
  have k1 := (congrArg (fun v : World => v.heap[Vd.heap.size]?) e1).trans (blk_new _ _ _ rfl)
  try dsimp only at k1
  have b1 : Below w.heap.size w D1 := by rw [e1]; exact hB1.alloc hB1.size _
  have s1 : D1.heap.size = Vd.heap.size + 1 := by rw [e1, siz_alloc]
  clear e1
  refine hK.out _ _ ⟨by omega, trivial⟩ (fun hHeld => ?_)
  clear hK K
  try simp only [PT]
  refine wpAnyH_ready (rs := [2, 5]) (by kernel_rfl) (by simp) ?_
  refine ready_at rfl (fun K hK => ?_) ?_
  · go_simp
    refine gen_app (K := K) (fun D2 e2 => ?_)
    have k2 := (congrArg (fun v : World => v.heap[D1.heap.size]?) e2).trans (blk_new _ _ _ rfl)
    try dsimp only at k2
    have k1' := (congrArg (fun v : World => v.heap[Vd.heap.size]?) e2).trans ((blk_old _ _ _ (by omega)).trans k1)
    try dsimp only at k1'
    clear k1; have k1 := k1'; clear k1'
    have b2 : Below w.heap.size w D2 := by rw [e2]; exact b1.alloc b1.size _
    have s2 : D2.heap.size = D1.heap.size + 1 := by rw [e2, siz_alloc]
    clear e2
    refine hK.out _ _ ⟨by omega, trivial⟩ (fun hHeld => ?_)
    clear hK K
    try simp only [PT]
    refine wpAnyH_ready (rs := [5]) (by kernel_rfl) (by simp) ?_
    refine ready_at rfl (fun K hK => ?_) AllReadyH.nil
    go_simp
    refine gen_app (K := K) (fun D3 e3 => ?_)
    have k3 := (congrArg (fun v : World => v.heap[D2.heap.size]?) e3).trans (blk_new _ _ _ rfl)
    try dsimp only at k3
    have k1' := (congrArg (fun v : World => v.heap[Vd.heap.size]?) e3).trans ((blk_old _ _ _ (by omega)).trans k1)
    try dsimp only at k1'
    clear k1; have k1 := k1'; clear k1'
    have k2' := (congrArg (fun v : World => v.heap[D1.heap.size]?) e3).trans ((blk_old _ _ _ (by omega)).trans k2)
    try dsimp only at k2'
    clear k2; have k2 := k2'; clear k2'
    have b3 : Below w.heap.size w D3 := by rw [e3]; exact b2.alloc b2.size _
    have s3 : D3.heap.size = D2.heap.size + 1 := by rw [e3, siz_alloc]
    clear e3
    refine hK.out _ _ ⟨by omega, trivial⟩ (fun hHeld => ?_)
    clear hK K
    try simp only [PT]
    clear m2 m5 m8
    refine ty (i := 9) (v := ?_) rfl hHeld ?_ ?_
    rotate_left
    focus (intro w hSw; go_simp; (try simp only [IntWalk.i64_left]); try (with_reducible rfl))
    try simp only [PT]
    refine wpAnyH_ready (rs := [10]) (by kernel_rfl) (by simp) ?_
    refine ready_at rfl (fun K hK => ?_) AllReadyH.nil
    go_simp
    refine gen_app (K := K) (fun D4 e4 => ?_)
    have q4 := (congrArg (fun v : World => v.heap[D3.heap.size]?) e4).trans (blk_new _ _ _ rfl)
    try dsimp only at q4
    have q1 := (congrArg (fun v : World => v.heap[Vd.heap.size]?) e4).trans ((blk_old _ _ _ (by omega)).trans k1)
    try dsimp only at q1
    have q2 := (congrArg (fun v : World => v.heap[D1.heap.size]?) e4).trans ((blk_old _ _ _ (by omega)).trans k2)
    try dsimp only at q2
    have q3 := (congrArg (fun v : World => v.heap[D2.heap.size]?) e4).trans ((blk_old _ _ _ (by omega)).trans k3)
    try dsimp only at q3
    have b4 : Below w.heap.size w D4 := by rw [e4]; exact b3.alloc b3.size _
    have s4 : D3.heap.size ≤ D4.heap.size := by rw [e4, siz_alloc]; omega
    clear e4 k1 k2 k3
    refine hK.out _ _ ⟨by omega, trivial⟩ (fun hHeld => ?_)
    clear hK K
    try simp only [PT]
    refine wpAnyH_ready (rs := [11]) (by kernel_rfl) (by simp) ?_
    refine ready_at rfl (fun K hK => ?_) AllReadyH.nil
    go_simp
    refine hK.out _ _ hHeld (fun hHeld => ?_)
    clear hK K
    try simp only [PT]
    refine wpAnyH_done (by kernel_rfl) ?_ _
    refine NoPanic.normal ?_
    go_wp2_with fail
    go_ret
    simp only [s1] at q2
    simp only [s2, s1] at q3
    simp only [s3, s2, s1] at q4
    obtain ⟨O, h3, h4⟩ := ap_new (w := w) H2.out q4 q2 q3 q1 (by omega) (by omega) (by omega) (by omega)
    exact ⟨_, O, rfl, h3, h4, b4⟩
  refine ready_at rfl (fun K hK => ?_) AllReadyH.nil
  go_simp
  refine gen_app (K := K) (fun D2 e2 => ?_)
  have k2 := (congrArg (fun v : World => v.heap[D1.heap.size]?) e2).trans (blk_new _ _ _ rfl)
  try dsimp only at k2
  have k1' := (congrArg (fun v : World => v.heap[Vd.heap.size]?) e2).trans ((blk_old _ _ _ (by omega)).trans k1)
  try dsimp only at k1'
  clear k1; have k1 := k1'; clear k1'
  have b2 : Below w.heap.size w D2 := by rw [e2]; exact b1.alloc b1.size _
  have s2 : D2.heap.size = D1.heap.size + 1 := by rw [e2, siz_alloc]
  clear e2
  refine hK.out _ _ ⟨by omega, trivial⟩ (fun hHeld => ?_)
  clear hK K
  try simp only [PT]
  refine wpAnyH_ready (rs := [2]) (by kernel_rfl) (by simp) ?_
  refine ready_at rfl (fun K hK => ?_) AllReadyH.nil
  go_simp
  refine gen_app (K := K) (fun D3 e3 => ?_)
  have k3 := (congrArg (fun v : World => v.heap[D2.heap.size]?) e3).trans (blk_new _ _ _ rfl)
  try dsimp only at k3
  have k1' := (congrArg (fun v : World => v.heap[Vd.heap.size]?) e3).trans ((blk_old _ _ _ (by omega)).trans k1)
  try dsimp only at k1'
  clear k1; have k1 := k1'; clear k1'
  have k2' := (congrArg (fun v : World => v.heap[D1.heap.size]?) e3).trans ((blk_old _ _ _ (by omega)).trans k2)
  try dsimp only at k2'
  clear k2; have k2 := k2'; clear k2'
  have b3 : Below w.heap.size w D3 := by rw [e3]; exact b2.alloc b2.size _
  have s3 : D3.heap.size = D2.heap.size + 1 := by rw [e3, siz_alloc]
  clear e3
  refine hK.out _ _ ⟨by omega, trivial⟩ (fun hHeld => ?_)
  clear hK K
  try simp only [PT]
  clear m2 m5 m8
  refine ty (i := 9) (v := ?_) rfl hHeld ?_ ?_
  rotate_left
  focus (intro w hSw; go_simp; (try simp only [IntWalk.i64_left]); try (with_reducible rfl))
  try simp only [PT]
  refine wpAnyH_ready (rs := [10]) (by kernel_rfl) (by simp) ?_
  refine ready_at rfl (fun K hK => ?_) AllReadyH.nil
  go_simp
  refine gen_app (K := K) (fun D4 e4 => ?_)
  have q4 := (congrArg (fun v : World => v.heap[D3.heap.size]?) e4).trans (blk_new _ _ _ rfl)
  try dsimp only at q4
  have q1 := (congrArg (fun v : World => v.heap[Vd.heap.size]?) e4).trans ((blk_old _ _ _ (by omega)).trans k1)
  try dsimp only at q1
  have q2 := (congrArg (fun v : World => v.heap[D1.heap.size]?) e4).trans ((blk_old _ _ _ (by omega)).trans k2)
  try dsimp only at q2
  have q3 := (congrArg (fun v : World => v.heap[D2.heap.size]?) e4).trans ((blk_old _ _ _ (by omega)).trans k3)
  try dsimp only at q3
  have b4 : Below w.heap.size w D4 := by rw [e4]; exact b3.alloc b3.size _
  have s4 : D3.heap.size ≤ D4.heap.size := by rw [e4, siz_alloc]; omega
  clear e4 k1 k2 k3
  refine hK.out _ _ ⟨by omega, trivial⟩ (fun hHeld => ?_)
  clear hK K
  try simp only [PT]
  refine wpAnyH_ready (rs := [11]) (by kernel_rfl) (by simp) ?_
  refine ready_at rfl (fun K hK => ?_) AllReadyH.nil
  go_simp
  refine hK.out _ _ hHeld (fun hHeld => ?_)
  clear hK K
  try simp only [PT]
  refine wpAnyH_done (by kernel_rfl) ?_ _
  refine NoPanic.normal ?_
  go_wp2_with fail
  go_ret
  simp only [s1] at q2
  simp only [s2, s1] at q3
  simp only [s3, s2, s1] at q4
  obtain ⟨O, h3, h4⟩ := ap_new (w := w) H2.out q4 q3 q2 q1 (by omega) (by omega) (by omega) (by omega)
  exact ⟨_, O, rfl, h3, h4, b4⟩
end Go.Proofs.Ytkgabbenmoocgaa
