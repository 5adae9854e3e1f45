/- Part 8 of what these laws needs: the walks of the program's functions, and plain facts. -/
import Derived.Test.YtpdpcgmkpgfblaaCoreM7
/- The arena's New. -/
namespace Go.Proofs.Ytpdpcgmkpgfblaa
set_option linter.unusedSimpArgs false
set_option linter.unusedVariables false
set_option linter.unnecessarySimpa false
open Go.RowKit
attribute [local go_sem ↓] Go.wp_at_zero Go.wp_at_succ
attribute [local go_sem] lt_s2 lt_s3 lt_s4
theorem made_ofF (c : Array Value) (N : Nat) (f : Nat → Value) (h : ∀ i, i < N → c[i % c.size]! = f i) : madeCells c N = ofF N f := by
  apply Array.ext
  · rw [size_madeCells, ofF_size]
  · intro i h1 h2
    rw [size_madeCells] at h1
    simp only [madeCells, ofF, Array.getElem_map, Array.getElem_range, Array.getElem_ofFn]
    exact h i h1
theorem make_nodes (n : Nat) (h2 : n ≤ 6000) (w : World) : (Instr.makeSlice 49 (.int .i64 ((n : Int) + 1)) (.int .i64 ((n : Int) + 1))).run Try.prog w = .ok (.slice (some ⟨w.heap.size, 0, none⟩) (n + 1) (n + 1)) (w.alloc (.cells (ofF ((n + 1) * 7) (nodeF (Ar.new n))) 104 (0, 0))) := by
  obtain ⟨i0, hi0, hz0, hz1, hz2⟩ := info_parts (P := Try.prog) (e := 104) (z := .agg #[.int .i64 0, .int .i64 0, .int .i64 0, .int .i64 0, .int .i64 0, .int .u64 0, .int .u64 0]) (size := 7) (bytes := 56) (by kernel_rfl)
  have h := run_makeSlice (P := Try.prog) w 49 104 i0 _ Try.underlying49 hi0 hz0 .i64 .i64 ((n : Int) + 1) ((n : Int) + 1) (by omega) (by omega) (by rw [hz1]; omega) (by rw [hz2]; omega) (by omega)
  rw [h, hz1, show ((n : Int) + 1).toNat = n + 1 by omega, made_ofF _ _ (nodeF (Ar.new n))]
  intro i _
  show (#[Value.int .i64 0, .int .i64 0, .int .i64 0, .int .i64 0, .int .i64 0, .int .u64 0, .int .u64 0] : Array Value)[i % 7]! = Nd.zero.cell (i % 7)
  rcases (show i % 7 = 0 ∨ i % 7 = 1 ∨ i % 7 = 2 ∨ i % 7 = 3 ∨ i % 7 = 4 ∨ i % 7 = 5 ∨ i % 7 = 6 by omega) with h | h | h | h | h | h | h <;> rw [h] <;> rfl
theorem make_counts (n : Nat) (h2 : n ≤ 6000) (w : World) : (Instr.makeSlice 42 (.int .i64 ((n : Int) + 1)) (.int .i64 ((n : Int) + 1))).run Try.prog w = .ok (.slice (some ⟨w.heap.size, 0, none⟩) (n + 1) (n + 1)) (w.alloc (.cells (ofF (n + 1) (countF (Ar.new n))) 3 (0, 0))) := by
  obtain ⟨i0, hi0, hz0, hz1, hz2⟩ := info_parts (P := Try.prog) (e := 3) (z := .int .i64 0) (size := 1) (bytes := 8) (by kernel_rfl)
  have h := run_makeSlice (P := Try.prog) w 42 3 i0 _ Try.underlying42 hi0 hz0 .i64 .i64 ((n : Int) + 1) ((n : Int) + 1) (by omega) (by omega) (by rw [hz1]; omega) (by rw [hz2]; omega) (by omega)
  rw [h, hz1, show ((n : Int) + 1).toNat = n + 1 by omega, Nat.mul_one, made_ofF _ _ (countF (Ar.new n))]
  intro i _
  show (#[Value.int .i64 0] : Array Value)[i % 1]! = .int .i64 0
  rw [Nat.mod_one]; rfl
theorem make_useds (n : Nat) (h2 : n ≤ 6000) (w : World) : (Instr.makeSlice 50 (.int .i64 ((n : Int) + 1)) (.int .i64 ((n : Int) + 1))).run Try.prog w = .ok (.slice (some ⟨w.heap.size, 0, none⟩) (n + 1) (n + 1)) (w.alloc (.cells (ofF (n + 1) (usedF (Ar.new n))) 4 (0, 0))) := by
  obtain ⟨i0, hi0, hz0, hz1, hz2⟩ := info_parts (P := Try.prog) (e := 4) (z := .bool false) (size := 1) (bytes := 1) (by kernel_rfl)
  have h := run_makeSlice (P := Try.prog) w 50 4 i0 _ Try.underlying50 hi0 hz0 .i64 .i64 ((n : Int) + 1) ((n : Int) + 1) (by omega) (by omega) (by rw [hz1]; omega) (by rw [hz2]; omega) (by omega)
  rw [h, hz1, show ((n : Int) + 1).toNat = n + 1 by omega, Nat.mul_one, made_ofF _ _ (usedF (Ar.new n))]
  intro i _
  show (#[Value.bool false] : Array Value)[i % 1]! = .bool false
  rw [Nat.mod_one]; rfl
theorem ap_new {W w : World} {n p nb cb ub : Nat} (h2 : n ≤ 6000) (hp : W.heap[p]? = some (.cells (ArC n nb cb ub (.slice none 0 0) 0 0) 52 (0, 0))) (hn : W.heap[nb]? = some (.cells (ofF ((n + 1) * 7) (nodeF (Ar.new n))) 104 (0, 0)))
    (hc : W.heap[cb]? = some (.cells (ofF (n + 1) (countF (Ar.new n))) 3 (0, 0))) (hu : W.heap[ub]? = some (.cells (ofF (n + 1) (usedF (Ar.new n))) 4 (0, 0))) (b1 : w.heap.size ≤ p) (b2 : w.heap.size ≤ nb) (b3 : w.heap.size ≤ cb) (b4 : w.heap.size ≤ ub) :
    ∃ O, AP W (.pointer (some ⟨p, 0, none⟩)) (Ar.new n) O ∧ (∀ b, O b → w.heap.size ≤ b) := by
  refine ⟨fun b => b = p ∨ b = nb ∨ b = cb ∨ b = ub, ⟨Ar.Wq.new n h2, .inr ⟨p, nb, cb, ub, .slice none 0 0, rfl, ⟨hp, hn, hc, hu, .inl ⟨rfl, rfl⟩, by simp [Value.ownBlock], .inl rfl, .inr (.inl rfl), .inr (.inr (.inl rfl)), .inr (.inr (.inr rfl)), by simp [Value.ownBlock], ?_⟩⟩⟩, ?_⟩
  · rintro b (rfl | rfl | rfl | rfl)
    · exact lt_of hp
    · exact lt_of hn
    · exact lt_of hc
    · exact lt_of hu
  · rintro b (rfl | rfl | rfl | rfl) <;> assumption
set_option maxRecDepth 100000 in
set_option maxHeartbeats 2000000 in
theorem new_calls (n : Nat) (h1 : 1 ≤ n) (h2 : n ≤ 6000) (w : World) :
    Calls Try.prog 8 #[.int .i64 (n : Int)] w fun e w' => ∃ p O, e = .returned (.pointer (some ⟨p, 0, none⟩)) ∧ AP w' (.pointer (some ⟨p, 0, none⟩)) (Ar.new n) O ∧ (∀ b, O b → w.heap.size ≤ b) ∧ Below w.heap.size w w' := by
  have d1 : decide ((n : Int) < 1) = false := by simp; omega
  have d2 : decide ((6000 : Int) < n) = false := by simp; omega
  have m2 := fun w => make_nodes n h2 w
  have m5 := fun w => make_counts n h2 w
  have m8 := fun w => make_useds n h2 w
  have H2 := Lib.hid h2
  go_enter Try.func8, Try.ntmps8
  go_wp2_with fail
  refine wp_gen fun V hV_V => ?_
  have hB : Below w.heap.size w V := nB hV_V
  have z_V := zS hV_V
  clear hV_V
  refine wp_region_noPanic ?_
  refine wp_region_held_drew (S := fun v => (V.heap.size ≤ v.heap.size) ∧ True) (by kernel_rfl) ⟨(Nat.le_refl _), trivial⟩ (fun hHeld => ?_)
  generalize hV_Vd : V.drew = Vd at hHeld ⊢
  replace hB := hB.drew; rw [hV_Vd] at hB
  have z_Vd := dZ hV_Vd
  clear hV_Vd
  refine tz 0 rfl hHeld ?_
  try simp only [PT]
  refine tz 1 rfl hHeld ?_
  try simp only [PT]
  refine tz 3 rfl hHeld ?_
  try simp only [PT]
  refine tz 4 rfl hHeld ?_
  try simp only [PT]
  refine tz 6 rfl hHeld ?_
  try simp only [PT]
  refine tz 7 rfl hHeld ?_
  try simp only [PT]
  have ew : wrap64 ((n : Int) + 1) = (n : Int) + 1 := IntWalk.wrap64_in _ (by omega)
  simp only [ew]
  clear ew
  have hB1 := hB
  clear hB
  refine wpAnyH_ready (rs := [2, 5, 8]) (by kernel_rfl) (by simp) ?_
  refine ready_at rfl (fun K hK => ?_) ?_
  · go_simp
    refine gen_app (K := K) (fun D1 e1 => ?_)
    have k1 := (congrArg (fun v : World => v.heap[Vd.heap.size]?) e1).trans (blk_new _ _ _ rfl)
    try dsimp only at k1
    have b1 : Below w.heap.size w D1 := by rw [e1]; exact hB1.alloc hB1.size _
    have s1 : D1.heap.size = Vd.heap.size + 1 := by rw [e1, siz_alloc]
    clear e1
    refine hK.out _ _ ⟨by omega, trivial⟩ (fun hHeld => ?_)
    clear hK K
    try simp only [PT]
    refine wpAnyH_ready (rs := [5, 8]) (by kernel_rfl) (by simp) ?_
    refine ready_at rfl (fun K hK => ?_) ?_
    · go_simp
      refine gen_app (K := K) (fun D2 e2 => ?_)
      have k2 := (congrArg (fun v : World => v.heap[D1.heap.size]?) e2).trans (blk_new _ _ _ rfl)
      try dsimp only at k2
      have k1' := (congrArg (fun v : World => v.heap[Vd.heap.size]?) e2).trans ((blk_old _ _ _ (by omega)).trans k1)
      try dsimp only at k1'
      clear k1; have k1 := k1'; clear k1'
      have b2 : Below w.heap.size w D2 := by rw [e2]; exact b1.alloc b1.size _
      have s2 : D2.heap.size = D1.heap.size + 1 := by rw [e2, siz_alloc]
      clear e2
      refine hK.out _ _ ⟨by omega, trivial⟩ (fun hHeld => ?_)
      clear hK K
      try simp only [PT]
      refine wpAnyH_ready (rs := [8]) (by kernel_rfl) (by simp) ?_
      refine ready_at rfl (fun K hK => ?_) AllReadyH.nil
      go_simp
      refine gen_app (K := K) (fun D3 e3 => ?_)
      have k3 := (congrArg (fun v : World => v.heap[D2.heap.size]?) e3).trans (blk_new _ _ _ rfl)
      try dsimp only at k3
      have k1' := (congrArg (fun v : World => v.heap[Vd.heap.size]?) e3).trans ((blk_old _ _ _ (by omega)).trans k1)
      try dsimp only at k1'
      clear k1; have k1 := k1'; clear k1'
      have k2' := (congrArg (fun v : World => v.heap[D1.heap.size]?) e3).trans ((blk_old _ _ _ (by omega)).trans k2)
      try dsimp only at k2'
      clear k2; have k2 := k2'; clear k2'
      have b3 : Below w.heap.size w D3 := by rw [e3]; exact b2.alloc b2.size _
      have s3 : D3.heap.size = D2.heap.size + 1 := by rw [e3, siz_alloc]
      clear e3
      refine hK.out _ _ ⟨by omega, trivial⟩ (fun hHeld => ?_)
      clear hK K
      try simp only [PT]
      clear m2 m5 m8
      refine tz 9 rfl hHeld ?_
      try simp only [PT]
      refine wpAnyH_ready (rs := [10]) (by kernel_rfl) (by simp) ?_
      refine ready_at rfl (fun K hK => ?_) AllReadyH.nil
      go_simp
      refine gen_app (K := K) (fun D4 e4 => ?_)
      have q4 := (congrArg (fun v : World => v.heap[D3.heap.size]?) e4).trans (blk_new _ _ _ rfl)
      try dsimp only at q4
      have q1 := (congrArg (fun v : World => v.heap[Vd.heap.size]?) e4).trans ((blk_old _ _ _ (by omega)).trans k1)
      try dsimp only at q1
      have q2 := (congrArg (fun v : World => v.heap[D1.heap.size]?) e4).trans ((blk_old _ _ _ (by omega)).trans k2)
      try dsimp only at q2
      have q3 := (congrArg (fun v : World => v.heap[D2.heap.size]?) e4).trans ((blk_old _ _ _ (by omega)).trans k3)
      try dsimp only at q3
      have b4 : Below w.heap.size w D4 := by rw [e4]; exact b3.alloc b3.size _
      have s4 : D3.heap.size ≤ D4.heap.size := by rw [e4, siz_alloc]; omega
      clear e4 k1 k2 k3
      refine hK.out _ _ ⟨by omega, trivial⟩ (fun hHeld => ?_)
      clear hK K
      try simp only [PT]
      refine rd 11 rfl fun K hK => ?_
      go_simp
      refine hK.out _ _ hHeld (fun hHeld => ?_)
      clear hK K
      try simp only [PT]
      refine wpAnyH_done (by kernel_rfl) ?_ _
      refine NoPanic.normal ?_
      go_wp2_with fail
      go_ret
      simp only [s1] at q2
      simp only [s2, s1] at q3
      simp only [s3, s2, s1] at q4
      obtain ⟨O, h3, h4⟩ := ap_new (w := w) H2.out q4 q1 q2 q3 (by omega) (by omega) (by omega) (by omega)
      exact ⟨_, O, rfl, h3, h4, b4⟩
    refine ready_at rfl (fun K hK => ?_) AllReadyH.nil
    go_simp
    refine gen_app (K := K) (fun D2 e2 => ?_)
    have k2 := (congrArg (fun v : World => v.heap[D1.heap.size]?) e2).trans (blk_new _ _ _ rfl)
    try dsimp only at k2
    have k1' := (congrArg (fun v : World => v.heap[Vd.heap.size]?) e2).trans ((blk_old _ _ _ (by omega)).trans k1)
    try dsimp only at k1'
    clear k1; have k1 := k1'; clear k1'
    have b2 : Below w.heap.size w D2 := by rw [e2]; exact b1.alloc b1.size _
    have s2 : D2.heap.size = D1.heap.size + 1 := by rw [e2, siz_alloc]
    clear e2
    refine hK.out _ _ ⟨by omega, trivial⟩ (fun hHeld => ?_)
    clear hK K
    try simp only [PT]
    refine wpAnyH_ready (rs := [5]) (by kernel_rfl) (by simp) ?_
    refine ready_at rfl (fun K hK => ?_) AllReadyH.nil
    go_simp
    refine gen_app (K := K) (fun D3 e3 => ?_)
    have k3 := (congrArg (fun v : World => v.heap[D2.heap.size]?) e3).trans (blk_new _ _ _ rfl)
    try dsimp only at k3
    have k1' := (congrArg (fun v : World => v.heap[Vd.heap.size]?) e3).trans ((blk_old _ _ _ (by omega)).trans k1)
    try dsimp only at k1'
    clear k1; have k1 := k1'; clear k1'
    have k2' := (congrArg (fun v : World => v.heap[D1.heap.size]?) e3).trans ((blk_old _ _ _ (by omega)).trans k2)
    try dsimp only at k2'
    clear k2; have k2 := k2'; clear k2'
    have b3 : Below w.heap.size w D3 := by rw [e3]; exact b2.alloc b2.size _
    have s3 : D3.heap.size = D2.heap.size + 1 := by rw [e3, siz_alloc]
    clear e3
    refine hK.out _ _ ⟨by omega, trivial⟩ (fun hHeld => ?_)
    clear hK K
    try simp only [PT]
    clear m2 m5 m8
    refine tz 9 rfl hHeld ?_
    try simp only [PT]
    refine wpAnyH_ready (rs := [10]) (by kernel_rfl) (by simp) ?_
    refine ready_at rfl (fun K hK => ?_) AllReadyH.nil
    go_simp
    refine gen_app (K := K) (fun D4 e4 => ?_)
    have q4 := (congrArg (fun v : World => v.heap[D3.heap.size]?) e4).trans (blk_new _ _ _ rfl)
    try dsimp only at q4
    have q1 := (congrArg (fun v : World => v.heap[Vd.heap.size]?) e4).trans ((blk_old _ _ _ (by omega)).trans k1)
    try dsimp only at q1
    have q2 := (congrArg (fun v : World => v.heap[D1.heap.size]?) e4).trans ((blk_old _ _ _ (by omega)).trans k2)
    try dsimp only at q2
    have q3 := (congrArg (fun v : World => v.heap[D2.heap.size]?) e4).trans ((blk_old _ _ _ (by omega)).trans k3)
    try dsimp only at q3
    have b4 : Below w.heap.size w D4 := by rw [e4]; exact b3.alloc b3.size _
    have s4 : D3.heap.size ≤ D4.heap.size := by rw [e4, siz_alloc]; omega
    clear e4 k1 k2 k3
    refine hK.out _ _ ⟨by omega, trivial⟩ (fun hHeld => ?_)
    clear hK K
    try simp only [PT]
    refine rd 11 rfl fun K hK => ?_
    go_simp
    refine hK.out _ _ hHeld (fun hHeld => ?_)
    clear hK K
    try simp only [PT]
    refine wpAnyH_done (by kernel_rfl) ?_ _
    refine NoPanic.normal ?_
    go_wp2_with fail
    go_ret
    simp only [s1] at q2
    simp only [s2, s1] at q3
    simp only [s3, s2, s1] at q4
    obtain ⟨O, h3, h4⟩ := ap_new (w := w) H2.out q4 q1 q3 q2 (by omega) (by omega) (by omega) (by omega)
    exact ⟨_, O, rfl, h3, h4, b4⟩
  refine ready_at rfl (fun K hK => ?_) ?_
  · go_simp
    refine gen_app (K := K) (fun D1 e1 => ?_)
    have k1 := (congrArg (fun v : World => v.heap[Vd.heap.size]?) e1).trans (blk_new _ _ _ rfl)
    try dsimp only at k1
    have b1 : Below w.heap.size w D1 := by rw [e1]; exact hB1.alloc hB1.size _
    have s1 : D1.heap.size = Vd.heap.size + 1 := by rw [e1, siz_alloc]
    clear e1
    refine hK.out _ _ ⟨by omega, trivial⟩ (fun hHeld => ?_)
    clear hK K
    try simp only [PT]
    refine wpAnyH_ready (rs := [2, 8]) (by kernel_rfl) (by simp) ?_
    refine ready_at rfl (fun K hK => ?_) ?_
    · go_simp
      refine gen_app (K := K) (fun D2 e2 => ?_)
      have k2 := (congrArg (fun v : World => v.heap[D1.heap.size]?) e2).trans (blk_new _ _ _ rfl)
      try dsimp only at k2
      have k1' := (congrArg (fun v : World => v.heap[Vd.heap.size]?) e2).trans ((blk_old _ _ _ (by omega)).trans k1)
      try dsimp only at k1'
      clear k1; have k1 := k1'; clear k1'
      have b2 : Below w.heap.size w D2 := by rw [e2]; exact b1.alloc b1.size _
      have s2 : D2.heap.size = D1.heap.size + 1 := by rw [e2, siz_alloc]
      clear e2
      refine hK.out _ _ ⟨by omega, trivial⟩ (fun hHeld => ?_)
      clear hK K
      try simp only [PT]
      refine wpAnyH_ready (rs := [8]) (by kernel_rfl) (by simp) ?_
      refine ready_at rfl (fun K hK => ?_) AllReadyH.nil
      go_simp
      refine gen_app (K := K) (fun D3 e3 => ?_)
      have k3 := (congrArg (fun v : World => v.heap[D2.heap.size]?) e3).trans (blk_new _ _ _ rfl)
      try dsimp only at k3
      have k1' := (congrArg (fun v : World => v.heap[Vd.heap.size]?) e3).trans ((blk_old _ _ _ (by omega)).trans k1)
      try dsimp only at k1'
      clear k1; have k1 := k1'; clear k1'
      have k2' := (congrArg (fun v : World => v.heap[D1.heap.size]?) e3).trans ((blk_old _ _ _ (by omega)).trans k2)
      try dsimp only at k2'
      clear k2; have k2 := k2'; clear k2'
      have b3 : Below w.heap.size w D3 := by rw [e3]; exact b2.alloc b2.size _
      have s3 : D3.heap.size = D2.heap.size + 1 := by rw [e3, siz_alloc]
      clear e3
      refine hK.out _ _ ⟨by omega, trivial⟩ (fun hHeld => ?_)
      clear hK K
      try simp only [PT]
      clear m2 m5 m8
      refine tz 9 rfl hHeld ?_
      try simp only [PT]
      refine wpAnyH_ready (rs := [10]) (by kernel_rfl) (by simp) ?_
      refine ready_at rfl (fun K hK => ?_) AllReadyH.nil
      go_simp
      refine gen_app (K := K) (fun D4 e4 => ?_)
      have q4 := (congrArg (fun v : World => v.heap[D3.heap.size]?) e4).trans (blk_new _ _ _ rfl)
      try dsimp only at q4
      have q1 := (congrArg (fun v : World => v.heap[Vd.heap.size]?) e4).trans ((blk_old _ _ _ (by omega)).trans k1)
      try dsimp only at q1
      have q2 := (congrArg (fun v : World => v.heap[D1.heap.size]?) e4).trans ((blk_old _ _ _ (by omega)).trans k2)
      try dsimp only at q2
      have q3 := (congrArg (fun v : World => v.heap[D2.heap.size]?) e4).trans ((blk_old _ _ _ (by omega)).trans k3)
      try dsimp only at q3
      have b4 : Below w.heap.size w D4 := by rw [e4]; exact b3.alloc b3.size _
      have s4 : D3.heap.size ≤ D4.heap.size := by rw [e4, siz_alloc]; omega
      clear e4 k1 k2 k3
      refine hK.out _ _ ⟨by omega, trivial⟩ (fun hHeld => ?_)
      clear hK K
      try simp only [PT]
      refine rd 11 rfl fun K hK => ?_
      go_simp
      refine hK.out _ _ hHeld (fun hHeld => ?_)
      clear hK K
      try simp only [PT]
      refine wpAnyH_done (by kernel_rfl) ?_ _
      refine NoPanic.normal ?_
      go_wp2_with fail
      go_ret
      simp only [s1] at q2
      simp only [s2, s1] at q3
      simp only [s3, s2, s1] at q4
      obtain ⟨O, h3, h4⟩ := ap_new (w := w) H2.out q4 q2 q1 q3 (by omega) (by omega) (by omega) (by omega)
      exact ⟨_, O, rfl, h3, h4, b4⟩
    refine ready_at rfl (fun K hK => ?_) AllReadyH.nil
    go_simp
    refine gen_app (K := K) (fun D2 e2 => ?_)
    have k2 := (congrArg (fun v : World => v.heap[D1.heap.size]?) e2).trans (blk_new _ _ _ rfl)
    try dsimp only at k2
    have k1' := (congrArg (fun v : World => v.heap[Vd.heap.size]?) e2).trans ((blk_old _ _ _ (by omega)).trans k1)
    try dsimp only at k1'
    clear k1; have k1 := k1'; clear k1'
    have b2 : Below w.heap.size w D2 := by rw [e2]; exact b1.alloc b1.size _
    have s2 : D2.heap.size = D1.heap.size + 1 := by rw [e2, siz_alloc]
    clear e2
    refine hK.out _ _ ⟨by omega, trivial⟩ (fun hHeld => ?_)
    clear hK K
    try simp only [PT]
    refine wpAnyH_ready (rs := [2]) (by kernel_rfl) (by simp) ?_
    refine ready_at rfl (fun K hK => ?_) AllReadyH.nil
    go_simp
    refine gen_app (K := K) (fun D3 e3 => ?_)
    have k3 := (congrArg (fun v : World => v.heap[D2.heap.size]?) e3).trans (blk_new _ _ _ rfl)
    try dsimp only at k3
    have k1' := (congrArg (fun v : World => v.heap[Vd.heap.size]?) e3).trans ((blk_old _ _ _ (by omega)).trans k1)
    try dsimp only at k1'
    clear k1; have k1 := k1'; clear k1'
    have k2' := (congrArg (fun v : World => v.heap[D1.heap.size]?) e3).trans ((blk_old _ _ _ (by omega)).trans k2)
    try dsimp only at k2'
    clear k2; have k2 := k2'; clear k2'
    have b3 : Below w.heap.size w D3 := by rw [e3]; exact b2.alloc b2.size _
    have s3 : D3.heap.size = D2.heap.size + 1 := by rw [e3, siz_alloc]
    clear e3
    refine hK.out _ _ ⟨by omega, trivial⟩ (fun hHeld => ?_)
    clear hK K
    try simp only [PT]
    clear m2 m5 m8
    refine tz 9 rfl hHeld ?_
    try simp only [PT]
    refine wpAnyH_ready (rs := [10]) (by kernel_rfl) (by simp) ?_
    refine ready_at rfl (fun K hK => ?_) AllReadyH.nil
    go_simp
    refine gen_app (K := K) (fun D4 e4 => ?_)
    have q4 := (congrArg (fun v : World => v.heap[D3.heap.size]?) e4).trans (blk_new _ _ _ rfl)
    try dsimp only at q4
    have q1 := (congrArg (fun v : World => v.heap[Vd.heap.size]?) e4).trans ((blk_old _ _ _ (by omega)).trans k1)
    try dsimp only at q1
    have q2 := (congrArg (fun v : World => v.heap[D1.heap.size]?) e4).trans ((blk_old _ _ _ (by omega)).trans k2)
    try dsimp only at q2
    have q3 := (congrArg (fun v : World => v.heap[D2.heap.size]?) e4).trans ((blk_old _ _ _ (by omega)).trans k3)
    try dsimp only at q3
    have b4 : Below w.heap.size w D4 := by rw [e4]; exact b3.alloc b3.size _
    have s4 : D3.heap.size ≤ D4.heap.size := by rw [e4, siz_alloc]; omega
    clear e4 k1 k2 k3
    refine hK.out _ _ ⟨by omega, trivial⟩ (fun hHeld => ?_)
    clear hK K
    try simp only [PT]
    refine rd 11 rfl fun K hK => ?_
    go_simp
    refine hK.out _ _ hHeld (fun hHeld => ?_)
    clear hK K
    try simp only [PT]
    refine wpAnyH_done (by kernel_rfl) ?_ _
    refine NoPanic.normal ?_
    go_wp2_with fail
    go_ret
    simp only [s1] at q2
    simp only [s2, s1] at q3
    simp only [s3, s2, s1] at q4
    obtain ⟨O, h3, h4⟩ := ap_new (w := w) H2.out q4 q3 q1 q2 (by omega) (by omega) (by omega) (by omega)
    exact ⟨_, O, rfl, h3, h4, b4⟩
  refine ready_at rfl (fun K hK => ?_) AllReadyH.nil
  go_simp
  refine gen_app (K := K) (fun D1 e1 => ?_)
  have k1 := (congrArg (fun v : World => v.heap[Vd.heap.size]?) e1).trans (blk_new _ _ _ rfl)
  try dsimp only at k1
  have b1 : Below w.heap.size w D1 := by rw [e1]; exact hB1.alloc hB1.size _
  have s1 : D1.heap.size = Vd.heap.size + 1 := by rw [e1, siz_alloc]
  clear e1
  refine hK.out _ _ ⟨by omega, trivial⟩ (fun hHeld => ?_)
  clear hK K
  try simp only [PT]
  refine wpAnyH_ready (rs := [2, 5]) (by kernel_rfl) (by simp) ?_
  refine ready_at rfl (fun K hK => ?_) ?_
  · go_simp
    refine gen_app (K := K) (fun D2 e2 => ?_)
    have k2 := (congrArg (fun v : World => v.heap[D1.heap.size]?) e2).trans (blk_new _ _ _ rfl)
    try dsimp only at k2
    have k1' := (congrArg (fun v : World => v.heap[Vd.heap.size]?) e2).trans ((blk_old _ _ _ (by omega)).trans k1)
    try dsimp only at k1'
    clear k1; have k1 := k1'; clear k1'
    have b2 : Below w.heap.size w D2 := by rw [e2]; exact b1.alloc b1.size _
    have s2 : D2.heap.size = D1.heap.size + 1 := by rw [e2, siz_alloc]
    clear e2
    refine hK.out _ _ ⟨by omega, trivial⟩ (fun hHeld => ?_)
    clear hK K
    try simp only [PT]
    refine wpAnyH_ready (rs := [5]) (by kernel_rfl) (by simp) ?_
    refine ready_at rfl (fun K hK => ?_) AllReadyH.nil
    go_simp
    refine gen_app (K := K) (fun D3 e3 => ?_)
    have k3 := (congrArg (fun v : World => v.heap[D2.heap.size]?) e3).trans (blk_new _ _ _ rfl)
    try dsimp only at k3
    have k1' := (congrArg (fun v : World => v.heap[Vd.heap.size]?) e3).trans ((blk_old _ _ _ (by omega)).trans k1)
    try dsimp only at k1'
    clear k1; have k1 := k1'; clear k1'
    have k2' := (congrArg (fun v : World => v.heap[D1.heap.size]?) e3).trans ((blk_old _ _ _ (by omega)).trans k2)
    try dsimp only at k2'
    clear k2; have k2 := k2'; clear k2'
    have b3 : Below w.heap.size w D3 := by rw [e3]; exact b2.alloc b2.size _
    have s3 : D3.heap.size = D2.heap.size + 1 := by rw [e3, siz_alloc]
    clear e3
    refine hK.out _ _ ⟨by omega, trivial⟩ (fun hHeld => ?_)
    clear hK K
    try simp only [PT]
    clear m2 m5 m8
    refine tz 9 rfl hHeld ?_
    try simp only [PT]
    refine wpAnyH_ready (rs := [10]) (by kernel_rfl) (by simp) ?_
    refine ready_at rfl (fun K hK => ?_) AllReadyH.nil
    go_simp
    refine gen_app (K := K) (fun D4 e4 => ?_)
    have q4 := (congrArg (fun v : World => v.heap[D3.heap.size]?) e4).trans (blk_new _ _ _ rfl)
    try dsimp only at q4
    have q1 := (congrArg (fun v : World => v.heap[Vd.heap.size]?) e4).trans ((blk_old _ _ _ (by omega)).trans k1)
    try dsimp only at q1
    have q2 := (congrArg (fun v : World => v.heap[D1.heap.size]?) e4).trans ((blk_old _ _ _ (by omega)).trans k2)
    try dsimp only at q2
    have q3 := (congrArg (fun v : World => v.heap[D2.heap.size]?) e4).trans ((blk_old _ _ _ (by omega)).trans k3)
    try dsimp only at q3
    have b4 : Below w.heap.size w D4 := by rw [e4]; exact b3.alloc b3.size _
    have s4 : D3.heap.size ≤ D4.heap.size := by rw [e4, siz_alloc]; omega
    clear e4 k1 k2 k3
    refine hK.out _ _ ⟨by omega, trivial⟩ (fun hHeld => ?_)
    clear hK K
    try simp only [PT]
    refine rd 11 rfl fun K hK => ?_
    go_simp
    refine hK.out _ _ hHeld (fun hHeld => ?_)
    clear hK K
    try simp only [PT]
    refine wpAnyH_done (by kernel_rfl) ?_ _
    refine NoPanic.normal ?_
    go_wp2_with fail
    go_ret
    simp only [s1] at q2
    simp only [s2, s1] at q3
    simp only [s3, s2, s1] at q4
    obtain ⟨O, h3, h4⟩ := ap_new (w := w) H2.out q4 q2 q3 q1 (by omega) (by omega) (by omega) (by omega)
    exact ⟨_, O, rfl, h3, h4, b4⟩
  refine ready_at rfl (fun K hK => ?_) AllReadyH.nil
  go_simp
  refine gen_app (K := K) (fun D2 e2 => ?_)
  have k2 := (congrArg (fun v : World => v.heap[D1.heap.size]?) e2).trans (blk_new _ _ _ rfl)
  try dsimp only at k2
  have k1' := (congrArg (fun v : World => v.heap[Vd.heap.size]?) e2).trans ((blk_old _ _ _ (by omega)).trans k1)
  try dsimp only at k1'
  clear k1; have k1 := k1'; clear k1'
  have b2 : Below w.heap.size w D2 := by rw [e2]; exact b1.alloc b1.size _
  have s2 : D2.heap.size = D1.heap.size + 1 := by rw [e2, siz_alloc]
  clear e2
  refine hK.out _ _ ⟨by omega, trivial⟩ (fun hHeld => ?_)
  clear hK K
  try simp only [PT]
  refine wpAnyH_ready (rs := [2]) (by kernel_rfl) (by simp) ?_
  refine ready_at rfl (fun K hK => ?_) AllReadyH.nil
  go_simp
  refine gen_app (K := K) (fun D3 e3 => ?_)
  have k3 := (congrArg (fun v : World => v.heap[D2.heap.size]?) e3).trans (blk_new _ _ _ rfl)
  try dsimp only at k3
  have k1' := (congrArg (fun v : World => v.heap[Vd.heap.size]?) e3).trans ((blk_old _ _ _ (by omega)).trans k1)
  try dsimp only at k1'
  clear k1; have k1 := k1'; clear k1'
  have k2' := (congrArg (fun v : World => v.heap[D1.heap.size]?) e3).trans ((blk_old _ _ _ (by omega)).trans k2)
  try dsimp only at k2'
  clear k2; have k2 := k2'; clear k2'
  have b3 : Below w.heap.size w D3 := by rw [e3]; exact b2.alloc b2.size _
  have s3 : D3.heap.size = D2.heap.size + 1 := by rw [e3, siz_alloc]
  clear e3
  refine hK.out _ _ ⟨by omega, trivial⟩ (fun hHeld => ?_)
  clear hK K
  try simp only [PT]
  clear m2 m5 m8
  refine tz 9 rfl hHeld ?_
  try simp only [PT]
  refine wpAnyH_ready (rs := [10]) (by kernel_rfl) (by simp) ?_
  refine ready_at rfl (fun K hK => ?_) AllReadyH.nil
  go_simp
  refine gen_app (K := K) (fun D4 e4 => ?_)
  have q4 := (congrArg (fun v : World => v.heap[D3.heap.size]?) e4).trans (blk_new _ _ _ rfl)
  try dsimp only at q4
  have q1 := (congrArg (fun v : World => v.heap[Vd.heap.size]?) e4).trans ((blk_old _ _ _ (by omega)).trans k1)
  try dsimp only at q1
  have q2 := (congrArg (fun v : World => v.heap[D1.heap.size]?) e4).trans ((blk_old _ _ _ (by omega)).trans k2)
  try dsimp only at q2
  have q3 := (congrArg (fun v : World => v.heap[D2.heap.size]?) e4).trans ((blk_old _ _ _ (by omega)).trans k3)
  try dsimp only at q3
  have b4 : Below w.heap.size w D4 := by rw [e4]; exact b3.alloc b3.size _
  have s4 : D3.heap.size ≤ D4.heap.size := by rw [e4, siz_alloc]; omega
  clear e4 k1 k2 k3
  refine hK.out _ _ ⟨by omega, trivial⟩ (fun hHeld => ?_)
  clear hK K
  try simp only [PT]
  refine rd 11 rfl fun K hK => ?_
  go_simp
  refine hK.out _ _ hHeld (fun hHeld => ?_)
  clear hK K
  try simp only [PT]
  refine wpAnyH_done (by kernel_rfl) ?_ _
  refine NoPanic.normal ?_
  go_wp2_with fail
  go_ret
  simp only [s1] at q2
  simp only [s2, s1] at q3
  simp only [s3, s2, s1] at q4
  obtain ⟨O, h3, h4⟩ := ap_new (w := w) H2.out q4 q3 q2 q1 (by omega) (by omega) (by omega) (by omega)
  exact ⟨_, O, rfl, h3, h4, b4⟩
end Go.Proofs.Ytpdpcgmkpgfblaa
/- A part of a document, where its walk is; all documents. -/
namespace Go.Proofs.Ytpdpcgmkpgfblaa
set_option linter.unusedSimpArgs false
set_option linter.unusedVariables false
set_option linter.unnecessarySimpa false
open Go.RowKit
attribute [local go_sem ↓] Go.wp_at_zero Go.wp_at_succ
attribute [local go_sem] lt_s2 lt_s3 lt_s4
attribute [local go_sem] str_len
variable {ap : Value} {s : Ar} {O : Nat → Prop}
theorem str_slice (l : List UInt8) (a b : Int) (h0 : 0 ≤ a) (h1 : a ≤ b) (h2 : b ≤ l.length) (w : World) :
    (Instr.slice 9 (strOf l) (some (.int .i64 a)) (some (.int .i64 b)) none).run Try.prog w = .ok (strOf ((l.take b.toNat).drop a.toNat)) w := by
  unfold strOf
  have h3 : (⟨l.toArray⟩ : ByteArray).size = l.length := by simp [ByteArray.size]
  rw [run_slice_string w 9 ⟨l.toArray⟩ .i64 .i64 a b (by kernel_rfl) h0 h1 (by rw [h3]; exact h2)]
  rw [ByteArray.extract_mk, List.drop_take]
set_option maxRecDepth 100000 in
set_option maxHeartbeats 2000000 in
theorem part_calls (root id a b : Int) (t : List UInt8 × Bool) (ht : pText s root id = some t) (hll : (lLen s (vOf s root).table) ≤ 50000) (w : World) (hA : AP w ap s O) :
    Calls Try.prog 10 #[ap, .int .i64 root, .int .i64 id, .int .i64 a, .int .i64 b] w fun e w' => e = .returned (.tuple #[strOf (partOf t a b).1, .int .i64 (partOf t a b).2]) ∧ Below w.heap.size w w' := by
  have Ht := Lib.hid ht; clear ht
  unfold partOf
  cases h1 : t.2 with
  | false =>
    rw [if_pos rfl]
    go_enter Try.func10, Try.ntmps10
    go_wp2_with fail
    refine calls_gen fun V hV_V => ?_
    have hB : Below w.heap.size w V := nB hV_V
    replace hA : AP V ap s O := nA hV_V
    have z_V := zS hV_V
    clear hV_V
    refine (text_calls _ _ _ Ht.out hll _ hA).mono ?_
    rintro e_W1 W1 ⟨rfl, hb_W1⟩
    replace hA := hA.below hb_W1
    replace hB := below_step hB hb_W1
    have z_W1 := hb_W1.size
    clear hb_W1
    rw [h1]
    go_wp2_with fail
    go_ret2
    exact ⟨rfl, hB⟩
  | true =>
    rw [if_neg (by decide)]
    by_cases c1 : a < 0
    · rw [if_pos (.inl c1)]
      have d1 : decide (a < 0) = true := by simpa using c1
      clear c1
      go_enter Try.func10, Try.ntmps10
      go_wp2_with fail
      refine calls_gen fun V hV_V => ?_
      have hB : Below w.heap.size w V := nB hV_V
      replace hA : AP V ap s O := nA hV_V
      have z_V := zS hV_V
      clear hV_V
      refine (text_calls _ _ _ Ht.out hll _ hA).mono ?_
      rintro e_W1 W1 ⟨rfl, hb_W1⟩
      replace hA := hA.below hb_W1
      replace hB := below_step hB hb_W1
      have z_W1 := hb_W1.size
      clear hb_W1
      rw [h1]
      go_wp2_with fail
      go_ret2
      exact ⟨rfl, hB⟩
    · have d1 : decide (a < 0) = false := by simpa using c1
      by_cases c2 : b < a
      · rw [if_pos (.inr (.inl c2))]
        have d2 : decide (b < a) = true := by simpa using c2
        clear c1 c2
        go_enter Try.func10, Try.ntmps10
        go_wp2_with fail
        refine calls_gen fun V hV_V => ?_
        have hB : Below w.heap.size w V := nB hV_V
        replace hA : AP V ap s O := nA hV_V
        have z_V := zS hV_V
        clear hV_V
        refine (text_calls _ _ _ Ht.out hll _ hA).mono ?_
        rintro e_W1 W1 ⟨rfl, hb_W1⟩
        replace hA := hA.below hb_W1
        replace hB := below_step hB hb_W1
        have z_W1 := hb_W1.size
        clear hb_W1
        rw [h1]
        go_wp2_with fail
        go_ret2
        exact ⟨rfl, hB⟩
      · have d2 : decide (b < a) = false := by simpa using c2
        by_cases c3 : (t.1.length : Int) < b
        · rw [if_pos (.inr (.inr c3))]
          have d3 : decide ((t.1.length : Int) < b) = true := by simpa using c3
          clear c1 c2 c3
          go_enter Try.func10, Try.ntmps10
          go_wp2_with fail
          refine calls_gen fun V hV_V => ?_
          have hB : Below w.heap.size w V := nB hV_V
          replace hA : AP V ap s O := nA hV_V
          have z_V := zS hV_V
          clear hV_V
          refine (text_calls _ _ _ Ht.out hll _ hA).mono ?_
          rintro e_W1 W1 ⟨rfl, hb_W1⟩
          replace hA := hA.below hb_W1
          replace hB := below_step hB hb_W1
          have z_W1 := hb_W1.size
          clear hb_W1
          rw [h1]
          go_wp2_with fail
          go_ret2
          exact ⟨rfl, hB⟩
        · rw [if_neg (by omega)]
          have d3 : decide ((t.1.length : Int) < b) = false := by simpa using c3
          have hs := str_slice t.1 a b (by omega) (by omega) (by omega)
          clear c1 c2 c3
          go_enter Try.func10, Try.ntmps10
          go_wp2_with fail
          refine calls_gen fun V hV_V => ?_
          have hB : Below w.heap.size w V := nB hV_V
          replace hA : AP V ap s O := nA hV_V
          have z_V := zS hV_V
          clear hV_V
          refine (text_calls _ _ _ Ht.out hll _ hA).mono ?_
          rintro e_W1 W1 ⟨rfl, hb_W1⟩
          replace hA := hA.below hb_W1
          replace hB := below_step hB hb_W1
          have z_W1 := hb_W1.size
          clear hb_W1
          rw [h1]
          go_wp2_with fail
          go_ret2
          exact ⟨rfl, hB⟩
/-- What Plot tells. -/
def plotOf (p : List UInt8 × Int) : Value := if p.2 = 0 then .complex .f64 (zb (walkOf p.1).1) (zb (walkOf p.1).2) else .complex .f64 0 0
theorem partOf_le {t : List UInt8 × Bool} {a b : Int} (h : t.1.length ≤ 41) : (partOf t a b).1.length ≤ 41 := by
  unfold partOf
  split
  · simp
  · split
    · simp
    · simp; omega
set_option maxRecDepth 100000 in
set_option maxHeartbeats 2000000 in
theorem plot_calls (root id b : Int) (t : List UInt8 × Bool) (ht : pText s root id = some t) (hll : (lLen s (vOf s root).table) ≤ 50000) (w : World) (hA : AP w ap s O) :
    Calls Try.prog 11 #[ap, .int .i64 root, .int .i64 id, .int .i64 b] w fun e w' => e = .returned (.tuple #[plotOf (partOf t 0 b), .int .i64 (partOf t 0 b).2]) ∧ Below w.heap.size w w' := by
  have hle := partOf_le (a := 0) (b := b) (pText_le ht)
  have Ht := Lib.hid ht; clear ht
  unfold plotOf
  by_cases h1 : (partOf t 0 b).2 = 0
  · rw [if_pos h1]
    have d1 : ((partOf t 0 b).2 != 0) = false := by simp [h1]
    have H1 := Lib.hid h1; clear h1
    go_enter Try.func11, Try.ntmps11
    go_wp2_with fail
    refine calls_gen fun V hV_V => ?_
    have hB : Below w.heap.size w V := nB hV_V
    replace hA : AP V ap s O := nA hV_V
    have z_V := zS hV_V
    clear hV_V
    refine (part_calls _ _ _ _ _ Ht.out hll _ hA).mono ?_
    rintro e_W1 W1 ⟨rfl, hb_W1⟩
    replace hA := hA.below hb_W1
    replace hB := below_step hB hb_W1
    have z_W1 := hb_W1.size
    clear hb_W1
    go_wp2_with fail
    refine calls_gen fun V1 hV_V1 => ?_
    replace hB : Below w.heap.size w V1 := nB hV_V1
    replace hA : AP V1 ap s O := nA hV_V1
    have z_V1 := zS hV_V1
    clear hV_V1
    refine (wend_calls _ (by omega) _).mono ?_
    rintro e_W2 W2 ⟨rfl, hb_W2⟩
    replace hA := hA.below hb_W2
    replace hB := below_step hB hb_W2
    have z_W2 := hb_W2.size
    clear hb_W2
    go_wp2_with fail
    go_ret2
    exact ⟨by rw [H1.out]; rfl, hB⟩
  · rw [if_neg h1]
    have d1 : ((partOf t 0 b).2 != 0) = true := by simp [h1]
    clear h1
    go_enter Try.func11, Try.ntmps11
    go_wp2_with fail
    refine calls_gen fun V hV_V => ?_
    have hB : Below w.heap.size w V := nB hV_V
    replace hA : AP V ap s O := nA hV_V
    have z_V := zS hV_V
    clear hV_V
    refine (part_calls _ _ _ _ _ Ht.out hll _ hA).mono ?_
    rintro e_W1 W1 ⟨rfl, hb_W1⟩
    replace hA := hA.below hb_W1
    replace hB := below_step hB hb_W1
    have z_W1 := hb_W1.size
    clear hb_W1
    go_wp2_with fail
    go_ret2
    exact ⟨rfl, hB⟩
set_option maxRecDepth 100000 in
set_option maxHeartbeats 2000000 in
theorem pall_calls (root : Int) (l : List (Int × Int)) (hl : lAll s (vOf s root).table = some l) (hll : l.length ≤ 50000) (w : World) (hA : AP w ap s O) :
    Calls Try.prog 33 #[ap, .int .i64 root] w fun e w' => ∃ v, e = .returned v ∧ w'.ownsRow w.heap.size 69 2 v l.length (itemCells l) ∧ Below w.heap.size w w' := by
  have Hl := Lib.hid hl; clear hl
  go_enter Try.func33, Try.ntmps33
  go_wp2_with fail
  refine calls_gen fun V hV_V => ?_
  have hB : Below w.heap.size w V := nB hV_V
  replace hA : AP V ap s O := nA hV_V
  have z_V := zS hV_V
  clear hV_V
  refine (vOf_calls _ _ hA).mono ?_
  rintro e_W1 W1 ⟨rfl, hb_W1⟩
  replace hA := hA.below hb_W1
  replace hB := below_step hB hb_W1
  have z_W1 := hb_W1.size
  clear hb_W1
  unfold Parts.val
  go_wp2_with fail
  refine calls_gen fun V1 hV_V1 => ?_
  have n_kp := hbk hV_V1 (W1.heap.size)
  simp (maxDischargeDepth := 9) only [BK, not_false_eq_true, reduceCtorEq] at n_kp
  have o_kp : ¬ O (W1.heap.size) := by first | exact hA.new (Nat.le_refl _) | exact hA.new (by omega)
  replace hB : Below w.heap.size w V1 := nB hV_V1
  replace hA : AP V1 ap s O := nA hV_V1
  have z_V1 := zS hV_V1
  clear hV_V1
  have kp := n_kp; clear n_kp
  obtain ⟨c_kp, f_kp, l_kp_V1⟩ := f3 kp
  refine (lAll_calls _ l Hl.out hll _ hA).mono ?_
  rintro e2 W2 ⟨v, rfl, hown, hb2⟩
  have HB2 := Lib.hid (below_step hB hb2)
  have Hown := Lib.hid (own_mono (base' := w.heap.size) hown hB.size)
  obtain ⟨-, A, cap, rfl, -⟩ := Rx.of_own hown
  clear hown hb2 hB
  go_wp2_with fail
  go_ret
  exact ⟨_, rfl, Hown.out, HB2.out⟩
set_option maxRecDepth 100000 in
set_option maxHeartbeats 2000000 in
theorem lens_nil (root : Int) (hl : lAll s (vOf s root).table = some []) (w : World) (hA : AP w ap s O) :
    Calls Try.prog 15 #[ap, .int .i64 root] w fun e w' => e = .returned (.tuple #[.slice none 0 0, .slice none 0 0]) ∧ Below w.heap.size w w' := by
  go_enter Try.func15, Try.ntmps15
  go_wp2_with fail
  refine calls_gen fun V hV_V => ?_
  have hB : Below w.heap.size w V := nB hV_V
  replace hA : AP V ap s O := nA hV_V
  have z_V := zS hV_V
  clear hV_V
  refine (pall_calls _ [] hl (by simp) _ hA).mono ?_
  rintro e_W1 W1 ⟨v, rfl, hown, hb_W1⟩
  replace hA := hA.below hb_W1
  replace hB := below_step hB hb_W1
  have z_W1 := hb_W1.size
  clear hb_W1
  obtain ⟨-, A, cap, rfl, -⟩ := Rx.of_own hown
  clear hown
  have HB := Lib.hid hB; clear hB
  go_wp2_with fail
  go_loopg [6, 7, 14] 1 (fun k a b p wr => a = .slice none 0 0 ∧ b = .slice none 0 0 ∧ p = .int .i64 0 ∧ Hid (Below w.heap.size w wr) ∧ k = k)
  case atStart => exact ⟨rfl, rfl, rfl, HB, rfl⟩
  case round =>
    obtain ⟨rfl, rfl, rfl, HB2, -⟩ := hrel
    go_wp2_with fail
    go_ret2
    exact ⟨rfl, HB2.out⟩
end Go.Proofs.Ytpdpcgmkpgfblaa
/- The first call of chapter 16's laws: its answer is yes. -/
namespace Go.Proofs.Ytpdpcgmkpgfblaa
set_option linter.unusedSimpArgs false
set_option linter.unusedVariables false
set_option linter.unnecessarySimpa false
open Go.RowKit
attribute [local go_sem ↓] Go.wp_at_zero Go.wp_at_succ
attribute [local go_sem] str_len
/-- What the model tells of the document abd. -/
def aliveM : Option (Bool × Bool × Bool × List UInt8 × Bool × Bool) :=
  (bRows 2 (rowsM [(7, [97, 98, 100])]) 0 ⟨Ar.new 2000, true, Parts.zero, 0⟩).bind fun b1 => (bTable (docsM [(7, [97, 98, 100])]) b1).bind fun b2 => (bEnd b2).bind fun e =>
  (pText e.2.2 e.1 7).map fun t => (b1.ok, b2.ok, e.2.1, t.1, t.2, decide (lLen e.2.2 (vOf e.2.2 e.1).table ≤ 50000))
set_option maxRecDepth 1000000 in
theorem aliveM_eq : aliveM = some (true, true, true, [97, 98, 100], true, true) := by decide +kernel
theorem ceq0 (w : World) : (binOp BinOp.eql 34 (.complex .f64 13830554455654793216 4607182418800017408) (.complex .f64 13830554455654793216 4607182418800017408)).run Try.prog w = .ok (.bool true) w := by kernel_rfl
theorem ceq1 (w : World) : (binOp BinOp.eql 34 (.complex .f64 (zb (walkOf [97, 98]).1) (zb (walkOf [97, 98]).2)) (.complex .f64 (zb (walkOf [97, 98]).1) (zb (walkOf [97, 98]).2))).run Try.prog w = .ok (.bool true) w := by
  have e1 : zb (walkOf [97, 98]).1 = 13830554455654793216 := by decide +kernel
  have e2 : zb (walkOf [97, 98]).2 = 4607182418800017408 := by decide +kernel
  rw [e1, e2]; exact ceq0 w
set_option maxRecDepth 100000 in
set_option maxHeartbeats 2000000 in
theorem alive16_calls (w : World) : Calls Try.prog 7 #[] w fun e w' => e = .returned (.bool true) ∧ Below w.heap.size w w' := by
  have hm := aliveM_eq
  unfold aliveM at hm
  obtain ⟨b1, h1, hm⟩ := Option.bind_eq_some_iff.1 hm
  obtain ⟨b2, h2, hm⟩ := Option.bind_eq_some_iff.1 hm
  obtain ⟨⟨root, ok, s'⟩, h3, hm⟩ := Option.bind_eq_some_iff.1 hm
  obtain ⟨t, ht, hm⟩ := Option.map_eq_some_iff.1 hm
  simp only [Prod.mk.injEq] at hm
  obtain ⟨o1, o2, rfl, ht1, ht2, hll⟩ := hm
  have hll' : lLen s' (vOf s' root).table ≤ 50000 := of_decide_eq_true hll
  obtain ⟨t1, t2⟩ := t
  dsimp only at ht1 ht2
  subst ht1 ht2
  have H1 := Lib.hid h1; have H2 := Lib.hid h2; have H3 := Lib.hid h3; have Ht := Lib.hid ht; have Hll := Lib.hid hll'; have O1 := Lib.hid o1; have O2 := Lib.hid o2
  clear h1 h2 h3 ht hll hll' o1 o2
  go_enter Try.func7, Try.ntmps7
  go_wp2_with fail
  refine calls_gen fun V hV_V => ?_
  have hB : Below w.heap.size w V := nB hV_V
  have z_V := zS hV_V
  clear hV_V
  refine (new_calls 2000 (by omega) (by omega) _).mono ?_
  rintro e1 W1 ⟨p, O, rfl, hA, hO, hb1⟩
  have hB1 := below_step hB hb1
  have hO2 : ∀ b, O b → w.heap.size ≤ b := fun b hb => Nat.le_trans hB.size (hO b hb)
  have HA := Lib.hid hA; have HB1 := Lib.hid hB1; have HO := Lib.hid hO2
  clear hA hO hb1 hB hB1 hO2
  go_wp2_with fail
  refine calls_gen fun V2 hV2 => ?_
  have hA2 : AP V2 (.pointer (some ⟨p, 0, none⟩)) (Ar.new 2000) O := by rw [hV2]; exact HA.out.alloc _
  have hk2 : V2.heap[W1.heap.size]? = some (.cells #[.int .i64 7, strOf [97, 98, 100]] 30 (0, 0)) := by rw [hV2]; exact blk_new _ _ _ rfl
  have hB2 : Below w.heap.size w V2 := by rw [hV2]; exact HB1.out.alloc HB1.out.size _
  clear hV2
  have hD : Rd2 V2 (.slice (some ⟨W1.heap.size, 0, none⟩) ([(7, [97, 98, 100])] : List (Int × List UInt8)).length 1) [(7, [97, 98, 100])] := by
    refine ⟨_, _, rfl, fun _ => ⟨_, rfl, lt_of hk2, fun i d hd => ?_⟩⟩
    obtain rfl : i = 0 := by have := (List.getElem?_eq_some_iff.1 hd).1; simp at this; omega
    obtain rfl : (7, [97, 98, 100]) = d := by simpa using hd
    refine ⟨by rw [block_of_add]; exact lt_of hk2, ?_, ?_⟩
    · rw [show (0 * 2 : Nat) = 0 from rfl, add_zero_off, cells_of hk2]; rfl
    · rw [show (0 * 2 : Nat) = 0 from rfl, add_zero_off, cells_of hk2]; rfl
  have hnO : ¬ O W1.heap.size := HA.out.new (Nat.le_refl _)
  refine (build_calls 2 (by omega) (by omega) [(7, [97, 98, 100])] ⟨W1.heap.size, 0, none⟩ 1 (by simp) (by decide) V2 hD hnO hA2 b1 b2 H1.out O1.out H2.out O2.out root s' H3.out).mono ?_
  rintro e3 W3 ⟨rfl, O3, hA3, hf3⟩
  have HA3 := Lib.hid hA3; have HB3 := Lib.hid (below_fr hB2 hf3 HO.out)
  clear hA3 hf3 hD hk2 hA2 hB2 hnO
  go_wp2_with fail
  refine (text_calls root 7 _ Ht.out Hll.out _ HA3.out).mono ?_
  rintro e4 W4 ⟨rfl, hb4⟩
  have HA4 := Lib.hid (HA3.out.below hb4); have HB4 := Lib.hid (below_step HB3.out hb4)
  clear hb4
  rw [show strOf [97, 98, 100] = Value.string ⟨#[97, 98, 100]⟩ from rfl]
  go_wp2_with fail
  refine (plot_calls root 7 2 _ Ht.out Hll.out _ HA4.out).mono ?_
  rintro e5 W5 ⟨rfl, hb5⟩
  have HB5 := Lib.hid (below_step HB4.out hb5)
  clear hb5
  have ep : partOf (([97, 98, 100] : List UInt8), true) 0 2 = ([97, 98], 0) := by decide
  rw [ep]
  have eq1 : plotOf (([97, 98] : List UInt8), (0 : Int)) = .complex .f64 (zb (walkOf [97, 98]).1) (zb (walkOf [97, 98]).2) := rfl
  rw [eq1]
  have ec := ceq1
  clear ep eq1
  go_wp2_with fail
  rw [show Value.string ⟨#[97, 98]⟩ = strOf [97, 98] from rfl]
  refine (rend_calls [97, 98] (by simp) _).mono ?_
  rintro e6 W6 ⟨rfl, hb6⟩
  have HB6 := Lib.hid (below_step HB5.out hb6)
  clear hb6
  go_wp2_with fail
  go_ret
  exact ⟨rfl, HB6.out⟩
end Go.Proofs.Ytpdpcgmkpgfblaa
